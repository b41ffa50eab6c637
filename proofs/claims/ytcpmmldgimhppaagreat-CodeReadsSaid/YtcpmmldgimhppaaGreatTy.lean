/-
  A layer for reasoning about the program's calls, and contracts of its functions (Ty). CONDITIONS: none; each theorem bears its own.
-/
import Derived.Test.YtcpmmldgimhppaaGreatProg
import Derived.Test.YtcpmmldgimhppaaGreatL5
set_option linter.unusedVariables false
set_option linter.unusedSimpArgs false
namespace Go.Hb
open Go Go.Proofs
@[simp] theorem sz1 : szT Tryz.prog 1 = some 1 := by kernel_rfl
@[simp] theorem by1 : bytesT Tryz.prog 1 = some 8 := by kernel_rfl
@[simp] theorem ag1 : aggT Tryz.prog 1 = some false := by kernel_rfl
@[simp] theorem ze1 : zeroT Tryz.prog 1 = some (.nilf) := by kernel_rfl
attribute [simp] Tryz.underlying1
@[simp] theorem sz2 : szT Tryz.prog 2 = some 1 := by kernel_rfl
@[simp] theorem by2 : bytesT Tryz.prog 2 = some 8 := by kernel_rfl
@[simp] theorem ag2 : aggT Tryz.prog 2 = some false := by kernel_rfl
@[simp] theorem ze2 : zeroT Tryz.prog 2 = some (.int .i64 0) := by kernel_rfl
attribute [simp] Tryz.underlying2
@[simp] theorem sz3 : szT Tryz.prog 3 = some 1 := by kernel_rfl
@[simp] theorem by3 : bytesT Tryz.prog 3 = some 8 := by kernel_rfl
@[simp] theorem ag3 : aggT Tryz.prog 3 = some false := by kernel_rfl
@[simp] theorem ze3 : zeroT Tryz.prog 3 = some (.int .i64 0) := by kernel_rfl
attribute [simp] Tryz.underlying3
@[simp] theorem sz4 : szT Tryz.prog 4 = some 1 := by kernel_rfl
@[simp] theorem by4 : bytesT Tryz.prog 4 = some 1 := by kernel_rfl
@[simp] theorem ag4 : aggT Tryz.prog 4 = some false := by kernel_rfl
@[simp] theorem ze4 : zeroT Tryz.prog 4 = some (.bool false) := by kernel_rfl
attribute [simp] Tryz.underlying4
@[simp] theorem sz5 : szT Tryz.prog 5 = some 1 := by kernel_rfl
@[simp] theorem by5 : bytesT Tryz.prog 5 = some 1 := by kernel_rfl
@[simp] theorem ag5 : aggT Tryz.prog 5 = some false := by kernel_rfl
@[simp] theorem ze5 : zeroT Tryz.prog 5 = some (.int .u8 0) := by kernel_rfl
attribute [simp] Tryz.underlying5
@[simp] theorem sz9 : szT Tryz.prog 9 = some 1 := by kernel_rfl
@[simp] theorem by9 : bytesT Tryz.prog 9 = some 16 := by kernel_rfl
@[simp] theorem ag9 : aggT Tryz.prog 9 = some false := by kernel_rfl
@[simp] theorem ze9 : zeroT Tryz.prog 9 = some (.str .empty) := by kernel_rfl
attribute [simp] Tryz.underlying9
@[simp] theorem sz12 : szT Tryz.prog 12 = some 1 := by kernel_rfl
@[simp] theorem by12 : bytesT Tryz.prog 12 = some 8 := by kernel_rfl
@[simp] theorem ag12 : aggT Tryz.prog 12 = some false := by kernel_rfl
@[simp] theorem ze12 : zeroT Tryz.prog 12 = some (.int .u64 0) := by kernel_rfl
attribute [simp] Tryz.underlying12
@[simp] theorem sz13 : szT Tryz.prog 13 = some 2 := by kernel_rfl
@[simp] theorem by13 : bytesT Tryz.prog 13 = some 24 := by kernel_rfl
@[simp] theorem ag13 : aggT Tryz.prog 13 = some true := by kernel_rfl
@[simp] theorem ze13 : zeroT Tryz.prog 13 = some (.agg [.str .empty, .int .u64 0]) := by kernel_rfl
@[simp] theorem pl13_0 : placeT Tryz.prog 13 0 = some (0, 1) := by kernel_rfl
@[simp] theorem pl13_1 : placeT Tryz.prog 13 1 = some (1, 1) := by kernel_rfl
@[simp] theorem si13 : sizesT Tryz.prog 13 = true := by kernel_rfl
@[simp] theorem fl13_0 : fldT Tryz.prog 13 0 = some ⟨"msg", 9, 0, false, "", "runtime", 0⟩ := by kernel_rfl
@[simp] theorem fl13_1 : fldT Tryz.prog 13 1 = some ⟨"addr", 12, 1, false, "", "runtime", 16⟩ := by kernel_rfl
attribute [simp] Tryz.underlying13
@[simp] theorem sz21 : szT Tryz.prog 21 = some 1 := by kernel_rfl
@[simp] theorem by21 : bytesT Tryz.prog 21 = some 4 := by kernel_rfl
@[simp] theorem ag21 : aggT Tryz.prog 21 = some false := by kernel_rfl
@[simp] theorem ze21 : zeroT Tryz.prog 21 = some (.int .i32 0) := by kernel_rfl
attribute [simp] Tryz.underlying21
@[simp] theorem sz22 : szT Tryz.prog 22 = some 1 := by kernel_rfl
@[simp] theorem by22 : bytesT Tryz.prog 22 = some 24 := by kernel_rfl
@[simp] theorem ag22 : aggT Tryz.prog 22 = some false := by kernel_rfl
@[simp] theorem ze22 : zeroT Tryz.prog 22 = some (.nils) := by kernel_rfl
attribute [simp] Tryz.underlying22
@[simp] theorem sz23 : szT Tryz.prog 23 = some 1 := by kernel_rfl
@[simp] theorem by23 : bytesT Tryz.prog 23 = some 24 := by kernel_rfl
@[simp] theorem ag23 : aggT Tryz.prog 23 = some false := by kernel_rfl
@[simp] theorem ze23 : zeroT Tryz.prog 23 = some (.nils) := by kernel_rfl
attribute [simp] Tryz.underlying23
@[simp] theorem sz24 : szT Tryz.prog 24 = some 1 := by kernel_rfl
@[simp] theorem by24 : bytesT Tryz.prog 24 = some 24 := by kernel_rfl
@[simp] theorem ag24 : aggT Tryz.prog 24 = some false := by kernel_rfl
@[simp] theorem ze24 : zeroT Tryz.prog 24 = some (.nils) := by kernel_rfl
attribute [simp] Tryz.underlying24
@[simp] theorem sz25 : szT Tryz.prog 25 = some 1 := by kernel_rfl
@[simp] theorem by25 : bytesT Tryz.prog 25 = some 24 := by kernel_rfl
@[simp] theorem ag25 : aggT Tryz.prog 25 = some false := by kernel_rfl
@[simp] theorem ze25 : zeroT Tryz.prog 25 = some (.nils) := by kernel_rfl
attribute [simp] Tryz.underlying25
@[simp] theorem sz26 : szT Tryz.prog 26 = some 7 := by kernel_rfl
@[simp] theorem by26 : bytesT Tryz.prog 26 = some 136 := by kernel_rfl
@[simp] theorem ag26 : aggT Tryz.prog 26 = some true := by kernel_rfl
@[simp] theorem ze26 : zeroT Tryz.prog 26 = some (.agg [.nils, .int .i64 0, .nils, .nils, .nils, .nils, .int .i64 0]) := by kernel_rfl
@[simp] theorem pl26_0 : placeT Tryz.prog 26 0 = some (0, 1) := by kernel_rfl
@[simp] theorem pl26_1 : placeT Tryz.prog 26 1 = some (1, 1) := by kernel_rfl
@[simp] theorem pl26_2 : placeT Tryz.prog 26 2 = some (2, 1) := by kernel_rfl
@[simp] theorem pl26_3 : placeT Tryz.prog 26 3 = some (3, 1) := by kernel_rfl
@[simp] theorem pl26_4 : placeT Tryz.prog 26 4 = some (4, 1) := by kernel_rfl
@[simp] theorem pl26_5 : placeT Tryz.prog 26 5 = some (5, 1) := by kernel_rfl
@[simp] theorem pl26_6 : placeT Tryz.prog 26 6 = some (6, 1) := by kernel_rfl
@[simp] theorem si26 : sizesT Tryz.prog 26 = true := by kernel_rfl
@[simp] theorem fl26_0 : fldT Tryz.prog 26 0 = some ⟨"Funcs", 23, 0, false, "", "", 0⟩ := by kernel_rfl
@[simp] theorem fl26_1 : fldT Tryz.prog 26 1 = some ⟨"Mutexes", 3, 1, false, "", "", 24⟩ := by kernel_rfl
@[simp] theorem fl26_2 : fldT Tryz.prog 26 2 = some ⟨"Conds", 24, 2, false, "", "", 32⟩ := by kernel_rfl
@[simp] theorem fl26_3 : fldT Tryz.prog 26 3 = some ⟨"Semas", 24, 3, false, "", "", 56⟩ := by kernel_rfl
@[simp] theorem fl26_4 : fldT Tryz.prog 26 4 = some ⟨"Chans", 24, 4, false, "", "", 80⟩ := by kernel_rfl
@[simp] theorem fl26_5 : fldT Tryz.prog 26 5 = some ⟨"Choices", 25, 5, false, "", "", 104⟩ := by kernel_rfl
@[simp] theorem fl26_6 : fldT Tryz.prog 26 6 = some ⟨"Threads", 3, 6, false, "", "", 128⟩ := by kernel_rfl
attribute [simp] Tryz.underlying26
@[simp] theorem sz27 : szT Tryz.prog 27 = some 7 := by kernel_rfl
@[simp] theorem by27 : bytesT Tryz.prog 27 = some 136 := by kernel_rfl
@[simp] theorem ag27 : aggT Tryz.prog 27 = some true := by kernel_rfl
@[simp] theorem ze27 : zeroT Tryz.prog 27 = some (.agg [.nils, .int .i64 0, .nils, .nils, .nils, .nils, .int .i64 0]) := by kernel_rfl
@[simp] theorem pl27_0 : placeT Tryz.prog 27 0 = some (0, 1) := by kernel_rfl
@[simp] theorem pl27_1 : placeT Tryz.prog 27 1 = some (1, 1) := by kernel_rfl
@[simp] theorem pl27_2 : placeT Tryz.prog 27 2 = some (2, 1) := by kernel_rfl
@[simp] theorem pl27_3 : placeT Tryz.prog 27 3 = some (3, 1) := by kernel_rfl
@[simp] theorem pl27_4 : placeT Tryz.prog 27 4 = some (4, 1) := by kernel_rfl
@[simp] theorem pl27_5 : placeT Tryz.prog 27 5 = some (5, 1) := by kernel_rfl
@[simp] theorem pl27_6 : placeT Tryz.prog 27 6 = some (6, 1) := by kernel_rfl
@[simp] theorem si27 : sizesT Tryz.prog 27 = true := by kernel_rfl
@[simp] theorem fl27_0 : fldT Tryz.prog 27 0 = some ⟨"Funcs", 23, 0, false, "", "", 0⟩ := by kernel_rfl
@[simp] theorem fl27_1 : fldT Tryz.prog 27 1 = some ⟨"Mutexes", 3, 1, false, "", "", 24⟩ := by kernel_rfl
@[simp] theorem fl27_2 : fldT Tryz.prog 27 2 = some ⟨"Conds", 24, 2, false, "", "", 32⟩ := by kernel_rfl
@[simp] theorem fl27_3 : fldT Tryz.prog 27 3 = some ⟨"Semas", 24, 3, false, "", "", 56⟩ := by kernel_rfl
@[simp] theorem fl27_4 : fldT Tryz.prog 27 4 = some ⟨"Chans", 24, 4, false, "", "", 80⟩ := by kernel_rfl
@[simp] theorem fl27_5 : fldT Tryz.prog 27 5 = some ⟨"Choices", 25, 5, false, "", "", 104⟩ := by kernel_rfl
@[simp] theorem fl27_6 : fldT Tryz.prog 27 6 = some ⟨"Threads", 3, 6, false, "", "", 128⟩ := by kernel_rfl
attribute [simp] Tryz.underlying27
@[simp] theorem sz28 : szT Tryz.prog 28 = some 1 := by kernel_rfl
@[simp] theorem by28 : bytesT Tryz.prog 28 = some 8 := by kernel_rfl
@[simp] theorem ag28 : aggT Tryz.prog 28 = some false := by kernel_rfl
@[simp] theorem ze28 : zeroT Tryz.prog 28 = some (.nilf) := by kernel_rfl
attribute [simp] Tryz.underlying28
@[simp] theorem sz29 : szT Tryz.prog 29 = some 1 := by kernel_rfl
@[simp] theorem by29 : bytesT Tryz.prog 29 = some 8 := by kernel_rfl
@[simp] theorem ag29 : aggT Tryz.prog 29 = some false := by kernel_rfl
@[simp] theorem ze29 : zeroT Tryz.prog 29 = some (.nilf) := by kernel_rfl
attribute [simp] Tryz.underlying29
@[simp] theorem sz30 : szT Tryz.prog 30 = some 1 := by kernel_rfl
@[simp] theorem by30 : bytesT Tryz.prog 30 = some 8 := by kernel_rfl
@[simp] theorem ag30 : aggT Tryz.prog 30 = some false := by kernel_rfl
@[simp] theorem ze30 : zeroT Tryz.prog 30 = some (.nilf) := by kernel_rfl
attribute [simp] Tryz.underlying30
@[simp] theorem sz31 : szT Tryz.prog 31 = some 1 := by kernel_rfl
@[simp] theorem by31 : bytesT Tryz.prog 31 = some 8 := by kernel_rfl
@[simp] theorem ag31 : aggT Tryz.prog 31 = some false := by kernel_rfl
@[simp] theorem ze31 : zeroT Tryz.prog 31 = some (.nilf) := by kernel_rfl
attribute [simp] Tryz.underlying31
@[simp] theorem sz32 : szT Tryz.prog 32 = some 1 := by kernel_rfl
@[simp] theorem by32 : bytesT Tryz.prog 32 = some 24 := by kernel_rfl
@[simp] theorem ag32 : aggT Tryz.prog 32 = some false := by kernel_rfl
@[simp] theorem ze32 : zeroT Tryz.prog 32 = some (.nils) := by kernel_rfl
attribute [simp] Tryz.underlying32
@[simp] theorem sz33 : szT Tryz.prog 33 = some 1 := by kernel_rfl
@[simp] theorem by33 : bytesT Tryz.prog 33 = some 8 := by kernel_rfl
@[simp] theorem ag33 : aggT Tryz.prog 33 = some false := by kernel_rfl
@[simp] theorem ze33 : zeroT Tryz.prog 33 = some (.int .i64 0) := by kernel_rfl
attribute [simp] Tryz.underlying33
@[simp] theorem sz35 : szT Tryz.prog 35 = some 1 := by kernel_rfl
@[simp] theorem by35 : bytesT Tryz.prog 35 = some 8 := by kernel_rfl
@[simp] theorem ag35 : aggT Tryz.prog 35 = some false := by kernel_rfl
@[simp] theorem ze35 : zeroT Tryz.prog 35 = some (.nilf) := by kernel_rfl
attribute [simp] Tryz.underlying35
@[simp] theorem sz36 : szT Tryz.prog 36 = some 1 := by kernel_rfl
@[simp] theorem by36 : bytesT Tryz.prog 36 = some 8 := by kernel_rfl
@[simp] theorem ag36 : aggT Tryz.prog 36 = some false := by kernel_rfl
@[simp] theorem ze36 : zeroT Tryz.prog 36 = some (.nilf) := by kernel_rfl
attribute [simp] Tryz.underlying36
@[simp] theorem sz38 : szT Tryz.prog 38 = some 1 := by kernel_rfl
@[simp] theorem by38 : bytesT Tryz.prog 38 = some 8 := by kernel_rfl
@[simp] theorem ag38 : aggT Tryz.prog 38 = some false := by kernel_rfl
@[simp] theorem ze38 : zeroT Tryz.prog 38 = some (.nilf) := by kernel_rfl
attribute [simp] Tryz.underlying38
@[simp] theorem sz39 : szT Tryz.prog 39 = some 1 := by kernel_rfl
@[simp] theorem by39 : bytesT Tryz.prog 39 = some 8 := by kernel_rfl
@[simp] theorem ag39 : aggT Tryz.prog 39 = some false := by kernel_rfl
@[simp] theorem ze39 : zeroT Tryz.prog 39 = some (.nilf) := by kernel_rfl
attribute [simp] Tryz.underlying39
@[simp] theorem sz40 : szT Tryz.prog 40 = some 1 := by kernel_rfl
@[simp] theorem by40 : bytesT Tryz.prog 40 = some 8 := by kernel_rfl
@[simp] theorem ag40 : aggT Tryz.prog 40 = some false := by kernel_rfl
@[simp] theorem ze40 : zeroT Tryz.prog 40 = some (.nilf) := by kernel_rfl
attribute [simp] Tryz.underlying40
@[simp] theorem sz41 : szT Tryz.prog 41 = some 1 := by kernel_rfl
@[simp] theorem by41 : bytesT Tryz.prog 41 = some 8 := by kernel_rfl
@[simp] theorem ag41 : aggT Tryz.prog 41 = some false := by kernel_rfl
@[simp] theorem ze41 : zeroT Tryz.prog 41 = some (.nilf) := by kernel_rfl
attribute [simp] Tryz.underlying41
@[simp] theorem sz42 : szT Tryz.prog 42 = some 1 := by kernel_rfl
@[simp] theorem by42 : bytesT Tryz.prog 42 = some 8 := by kernel_rfl
@[simp] theorem ag42 : aggT Tryz.prog 42 = some false := by kernel_rfl
@[simp] theorem ze42 : zeroT Tryz.prog 42 = some (.nilf) := by kernel_rfl
attribute [simp] Tryz.underlying42
@[simp] theorem sz43 : szT Tryz.prog 43 = some 1 := by kernel_rfl
@[simp] theorem by43 : bytesT Tryz.prog 43 = some 8 := by kernel_rfl
@[simp] theorem ag43 : aggT Tryz.prog 43 = some false := by kernel_rfl
@[simp] theorem ze43 : zeroT Tryz.prog 43 = some (.nilf) := by kernel_rfl
attribute [simp] Tryz.underlying43
@[simp] theorem sz44 : szT Tryz.prog 44 = some 1 := by kernel_rfl
@[simp] theorem by44 : bytesT Tryz.prog 44 = some 24 := by kernel_rfl
@[simp] theorem ag44 : aggT Tryz.prog 44 = some false := by kernel_rfl
@[simp] theorem ze44 : zeroT Tryz.prog 44 = some (.nils) := by kernel_rfl
attribute [simp] Tryz.underlying44
@[simp] theorem sz45 : szT Tryz.prog 45 = some 2 := by kernel_rfl
@[simp] theorem by45 : bytesT Tryz.prog 45 = some 32 := by kernel_rfl
@[simp] theorem ag45 : aggT Tryz.prog 45 = some true := by kernel_rfl
@[simp] theorem ze45 : zeroT Tryz.prog 45 = some (.agg [.int .i64 0, .nils]) := by kernel_rfl
@[simp] theorem pl45_0 : placeT Tryz.prog 45 0 = some (0, 1) := by kernel_rfl
@[simp] theorem pl45_1 : placeT Tryz.prog 45 1 = some (1, 1) := by kernel_rfl
@[simp] theorem si45 : sizesT Tryz.prog 45 = true := by kernel_rfl
@[simp] theorem fl45_0 : fldT Tryz.prog 45 0 = some ⟨"Locals", 3, 0, false, "", "", 0⟩ := by kernel_rfl
@[simp] theorem fl45_1 : fldT Tryz.prog 45 1 = some ⟨"Code", 44, 1, false, "", "", 8⟩ := by kernel_rfl
attribute [simp] Tryz.underlying45
@[simp] theorem sz46 : szT Tryz.prog 46 = some 2 := by kernel_rfl
@[simp] theorem by46 : bytesT Tryz.prog 46 = some 32 := by kernel_rfl
@[simp] theorem ag46 : aggT Tryz.prog 46 = some true := by kernel_rfl
@[simp] theorem ze46 : zeroT Tryz.prog 46 = some (.agg [.int .i64 0, .nils]) := by kernel_rfl
@[simp] theorem pl46_0 : placeT Tryz.prog 46 0 = some (0, 1) := by kernel_rfl
@[simp] theorem pl46_1 : placeT Tryz.prog 46 1 = some (1, 1) := by kernel_rfl
@[simp] theorem si46 : sizesT Tryz.prog 46 = true := by kernel_rfl
@[simp] theorem fl46_0 : fldT Tryz.prog 46 0 = some ⟨"Locals", 3, 0, false, "", "", 0⟩ := by kernel_rfl
@[simp] theorem fl46_1 : fldT Tryz.prog 46 1 = some ⟨"Code", 44, 1, false, "", "", 8⟩ := by kernel_rfl
attribute [simp] Tryz.underlying46
@[simp] theorem sz47 : szT Tryz.prog 47 = some 2 := by kernel_rfl
@[simp] theorem by47 : bytesT Tryz.prog 47 = some 16 := by kernel_rfl
@[simp] theorem ag47 : aggT Tryz.prog 47 = some true := by kernel_rfl
@[simp] theorem ze47 : zeroT Tryz.prog 47 = some (.agg [.int .i64 0, .int .i64 0]) := by kernel_rfl
@[simp] theorem pl47_0 : placeT Tryz.prog 47 0 = some (0, 1) := by kernel_rfl
@[simp] theorem pl47_1 : placeT Tryz.prog 47 1 = some (1, 1) := by kernel_rfl
@[simp] theorem si47 : sizesT Tryz.prog 47 = true := by kernel_rfl
@[simp] theorem is47 : intStruct Tryz.prog 47 2 = true := by kernel_rfl
@[simp] theorem fl47_0 : fldT Tryz.prog 47 0 = some ⟨"Op", 3, 0, false, "", "", 0⟩ := by kernel_rfl
@[simp] theorem fl47_1 : fldT Tryz.prog 47 1 = some ⟨"A", 3, 1, false, "", "", 8⟩ := by kernel_rfl
attribute [simp] Tryz.underlying47
@[simp] theorem sz48 : szT Tryz.prog 48 = some 2 := by kernel_rfl
@[simp] theorem by48 : bytesT Tryz.prog 48 = some 16 := by kernel_rfl
@[simp] theorem ag48 : aggT Tryz.prog 48 = some true := by kernel_rfl
@[simp] theorem ze48 : zeroT Tryz.prog 48 = some (.agg [.int .i64 0, .int .i64 0]) := by kernel_rfl
@[simp] theorem pl48_0 : placeT Tryz.prog 48 0 = some (0, 1) := by kernel_rfl
@[simp] theorem pl48_1 : placeT Tryz.prog 48 1 = some (1, 1) := by kernel_rfl
@[simp] theorem si48 : sizesT Tryz.prog 48 = true := by kernel_rfl
@[simp] theorem is48 : intStruct Tryz.prog 48 2 = true := by kernel_rfl
@[simp] theorem fl48_0 : fldT Tryz.prog 48 0 = some ⟨"Op", 3, 0, false, "", "", 0⟩ := by kernel_rfl
@[simp] theorem fl48_1 : fldT Tryz.prog 48 1 = some ⟨"A", 3, 1, false, "", "", 8⟩ := by kernel_rfl
attribute [simp] Tryz.underlying48
@[simp] theorem sz49 : szT Tryz.prog 49 = some 1 := by kernel_rfl
@[simp] theorem by49 : bytesT Tryz.prog 49 = some 8 := by kernel_rfl
@[simp] theorem ag49 : aggT Tryz.prog 49 = some false := by kernel_rfl
@[simp] theorem ze49 : zeroT Tryz.prog 49 = some (.nilf) := by kernel_rfl
attribute [simp] Tryz.underlying49
@[simp] theorem sz50 : szT Tryz.prog 50 = some 1 := by kernel_rfl
@[simp] theorem by50 : bytesT Tryz.prog 50 = some 8 := by kernel_rfl
@[simp] theorem ag50 : aggT Tryz.prog 50 = some false := by kernel_rfl
@[simp] theorem ze50 : zeroT Tryz.prog 50 = some (.nilf) := by kernel_rfl
attribute [simp] Tryz.underlying50
@[simp] theorem sz51 : szT Tryz.prog 51 = some 1 := by kernel_rfl
@[simp] theorem by51 : bytesT Tryz.prog 51 = some 8 := by kernel_rfl
@[simp] theorem ag51 : aggT Tryz.prog 51 = some false := by kernel_rfl
@[simp] theorem ze51 : zeroT Tryz.prog 51 = some (.nilf) := by kernel_rfl
attribute [simp] Tryz.underlying51
@[simp] theorem sz52 : szT Tryz.prog 52 = some 1 := by kernel_rfl
@[simp] theorem by52 : bytesT Tryz.prog 52 = some 8 := by kernel_rfl
@[simp] theorem ag52 : aggT Tryz.prog 52 = some false := by kernel_rfl
@[simp] theorem ze52 : zeroT Tryz.prog 52 = some (.nilp) := by kernel_rfl
attribute [simp] Tryz.underlying52
@[simp] theorem sz53 : szT Tryz.prog 53 = some 1 := by kernel_rfl
@[simp] theorem by53 : bytesT Tryz.prog 53 = some 8 := by kernel_rfl
@[simp] theorem ag53 : aggT Tryz.prog 53 = some false := by kernel_rfl
@[simp] theorem ze53 : zeroT Tryz.prog 53 = some (.nilf) := by kernel_rfl
attribute [simp] Tryz.underlying53
@[simp] theorem sz54 : szT Tryz.prog 54 = some 1 := by kernel_rfl
@[simp] theorem by54 : bytesT Tryz.prog 54 = some 8 := by kernel_rfl
@[simp] theorem ag54 : aggT Tryz.prog 54 = some false := by kernel_rfl
@[simp] theorem ze54 : zeroT Tryz.prog 54 = some (.nilf) := by kernel_rfl
attribute [simp] Tryz.underlying54
@[simp] theorem sz55 : szT Tryz.prog 55 = some 1 := by kernel_rfl
@[simp] theorem by55 : bytesT Tryz.prog 55 = some 8 := by kernel_rfl
@[simp] theorem ag55 : aggT Tryz.prog 55 = some false := by kernel_rfl
@[simp] theorem ze55 : zeroT Tryz.prog 55 = some (.nilf) := by kernel_rfl
attribute [simp] Tryz.underlying55
@[simp] theorem sz56 : szT Tryz.prog 56 = some 1 := by kernel_rfl
@[simp] theorem by56 : bytesT Tryz.prog 56 = some 8 := by kernel_rfl
@[simp] theorem ag56 : aggT Tryz.prog 56 = some false := by kernel_rfl
@[simp] theorem ze56 : zeroT Tryz.prog 56 = some (.nilf) := by kernel_rfl
attribute [simp] Tryz.underlying56
@[simp] theorem sz57 : szT Tryz.prog 57 = some 1 := by kernel_rfl
@[simp] theorem by57 : bytesT Tryz.prog 57 = some 8 := by kernel_rfl
@[simp] theorem ag57 : aggT Tryz.prog 57 = some false := by kernel_rfl
@[simp] theorem ze57 : zeroT Tryz.prog 57 = some (.nilf) := by kernel_rfl
attribute [simp] Tryz.underlying57
@[simp] theorem sz58 : szT Tryz.prog 58 = some 1 := by kernel_rfl
@[simp] theorem by58 : bytesT Tryz.prog 58 = some 8 := by kernel_rfl
@[simp] theorem ag58 : aggT Tryz.prog 58 = some false := by kernel_rfl
@[simp] theorem ze58 : zeroT Tryz.prog 58 = some (.nilf) := by kernel_rfl
attribute [simp] Tryz.underlying58
@[simp] theorem sz59 : szT Tryz.prog 59 = some 3 := by kernel_rfl
@[simp] theorem by59 : bytesT Tryz.prog 59 = some 40 := by kernel_rfl
@[simp] theorem ag59 : aggT Tryz.prog 59 = some true := by kernel_rfl
@[simp] theorem ze59 : zeroT Tryz.prog 59 = some (.agg [.nils, .int .i64 0, .int .i64 0]) := by kernel_rfl
@[simp] theorem pl59_0 : placeT Tryz.prog 59 0 = some (0, 1) := by kernel_rfl
@[simp] theorem pl59_1 : placeT Tryz.prog 59 1 = some (1, 1) := by kernel_rfl
@[simp] theorem pl59_2 : placeT Tryz.prog 59 2 = some (2, 1) := by kernel_rfl
@[simp] theorem si59 : sizesT Tryz.prog 59 = true := by kernel_rfl
@[simp] theorem fl59_0 : fldT Tryz.prog 59 0 = some ⟨"B", 22, 0, false, "", "", 0⟩ := by kernel_rfl
@[simp] theorem fl59_1 : fldT Tryz.prog 59 1 = some ⟨"At", 3, 1, false, "", "", 24⟩ := by kernel_rfl
@[simp] theorem fl59_2 : fldT Tryz.prog 59 2 = some ⟨"E", 33, 2, false, "", "", 32⟩ := by kernel_rfl
attribute [simp] Tryz.underlying59
@[simp] theorem sz60 : szT Tryz.prog 60 = some 3 := by kernel_rfl
@[simp] theorem by60 : bytesT Tryz.prog 60 = some 40 := by kernel_rfl
@[simp] theorem ag60 : aggT Tryz.prog 60 = some true := by kernel_rfl
@[simp] theorem ze60 : zeroT Tryz.prog 60 = some (.agg [.nils, .int .i64 0, .int .i64 0]) := by kernel_rfl
@[simp] theorem pl60_0 : placeT Tryz.prog 60 0 = some (0, 1) := by kernel_rfl
@[simp] theorem pl60_1 : placeT Tryz.prog 60 1 = some (1, 1) := by kernel_rfl
@[simp] theorem pl60_2 : placeT Tryz.prog 60 2 = some (2, 1) := by kernel_rfl
@[simp] theorem si60 : sizesT Tryz.prog 60 = true := by kernel_rfl
@[simp] theorem fl60_0 : fldT Tryz.prog 60 0 = some ⟨"B", 22, 0, false, "", "", 0⟩ := by kernel_rfl
@[simp] theorem fl60_1 : fldT Tryz.prog 60 1 = some ⟨"At", 3, 1, false, "", "", 24⟩ := by kernel_rfl
@[simp] theorem fl60_2 : fldT Tryz.prog 60 2 = some ⟨"E", 33, 2, false, "", "", 32⟩ := by kernel_rfl
attribute [simp] Tryz.underlying60
@[simp] theorem sz62 : szT Tryz.prog 62 = some 1 := by kernel_rfl
@[simp] theorem by62 : bytesT Tryz.prog 62 = some 8 := by kernel_rfl
@[simp] theorem ag62 : aggT Tryz.prog 62 = some false := by kernel_rfl
@[simp] theorem ze62 : zeroT Tryz.prog 62 = some (.nilf) := by kernel_rfl
attribute [simp] Tryz.underlying62
@[simp] theorem sz64 : szT Tryz.prog 64 = some 1 := by kernel_rfl
@[simp] theorem by64 : bytesT Tryz.prog 64 = some 8 := by kernel_rfl
@[simp] theorem ag64 : aggT Tryz.prog 64 = some false := by kernel_rfl
@[simp] theorem ze64 : zeroT Tryz.prog 64 = some (.nilf) := by kernel_rfl
attribute [simp] Tryz.underlying64
@[simp] theorem sz65 : szT Tryz.prog 65 = some 1 := by kernel_rfl
@[simp] theorem by65 : bytesT Tryz.prog 65 = some 8 := by kernel_rfl
@[simp] theorem ag65 : aggT Tryz.prog 65 = some false := by kernel_rfl
@[simp] theorem ze65 : zeroT Tryz.prog 65 = some (.nilf) := by kernel_rfl
attribute [simp] Tryz.underlying65
@[simp] theorem sz67 : szT Tryz.prog 67 = some 1 := by kernel_rfl
@[simp] theorem by67 : bytesT Tryz.prog 67 = some 8 := by kernel_rfl
@[simp] theorem ag67 : aggT Tryz.prog 67 = some false := by kernel_rfl
@[simp] theorem ze67 : zeroT Tryz.prog 67 = some (.nilf) := by kernel_rfl
attribute [simp] Tryz.underlying67
@[simp] theorem sz68 : szT Tryz.prog 68 = some 1 := by kernel_rfl
@[simp] theorem by68 : bytesT Tryz.prog 68 = some 8 := by kernel_rfl
@[simp] theorem ag68 : aggT Tryz.prog 68 = some false := by kernel_rfl
@[simp] theorem ze68 : zeroT Tryz.prog 68 = some (.nilf) := by kernel_rfl
attribute [simp] Tryz.underlying68
@[simp] theorem sz69 : szT Tryz.prog 69 = some 1 := by kernel_rfl
@[simp] theorem by69 : bytesT Tryz.prog 69 = some 8 := by kernel_rfl
@[simp] theorem ag69 : aggT Tryz.prog 69 = some false := by kernel_rfl
@[simp] theorem ze69 : zeroT Tryz.prog 69 = some (.nilf) := by kernel_rfl
attribute [simp] Tryz.underlying69
@[simp] theorem sz70 : szT Tryz.prog 70 = some 1 := by kernel_rfl
@[simp] theorem by70 : bytesT Tryz.prog 70 = some 24 := by kernel_rfl
@[simp] theorem ag70 : aggT Tryz.prog 70 = some true := by kernel_rfl
@[simp] theorem ze70 : zeroT Tryz.prog 70 = some (.agg [.nils]) := by kernel_rfl
@[simp] theorem pl70_0 : placeT Tryz.prog 70 0 = some (0, 1) := by kernel_rfl
@[simp] theorem si70 : sizesT Tryz.prog 70 = true := by kernel_rfl
@[simp] theorem fl70_0 : fldT Tryz.prog 70 0 = some ⟨"b", 22, 0, false, "", "hibernacle/wire", 0⟩ := by kernel_rfl
attribute [simp] Tryz.underlying70
@[simp] theorem sz71 : szT Tryz.prog 71 = some 1 := by kernel_rfl
@[simp] theorem by71 : bytesT Tryz.prog 71 = some 24 := by kernel_rfl
@[simp] theorem ag71 : aggT Tryz.prog 71 = some true := by kernel_rfl
@[simp] theorem ze71 : zeroT Tryz.prog 71 = some (.agg [.nils]) := by kernel_rfl
@[simp] theorem pl71_0 : placeT Tryz.prog 71 0 = some (0, 1) := by kernel_rfl
@[simp] theorem si71 : sizesT Tryz.prog 71 = true := by kernel_rfl
@[simp] theorem fl71_0 : fldT Tryz.prog 71 0 = some ⟨"b", 22, 0, false, "", "hibernacle/wire", 0⟩ := by kernel_rfl
attribute [simp] Tryz.underlying71
@[simp] theorem sz72 : szT Tryz.prog 72 = some 1 := by kernel_rfl
@[simp] theorem by72 : bytesT Tryz.prog 72 = some 8 := by kernel_rfl
@[simp] theorem ag72 : aggT Tryz.prog 72 = some false := by kernel_rfl
@[simp] theorem ze72 : zeroT Tryz.prog 72 = some (.nilf) := by kernel_rfl
attribute [simp] Tryz.underlying72
@[simp] theorem sz73 : szT Tryz.prog 73 = some 1 := by kernel_rfl
@[simp] theorem by73 : bytesT Tryz.prog 73 = some 8 := by kernel_rfl
@[simp] theorem ag73 : aggT Tryz.prog 73 = some false := by kernel_rfl
@[simp] theorem ze73 : zeroT Tryz.prog 73 = some (.nilf) := by kernel_rfl
attribute [simp] Tryz.underlying73
@[simp] theorem sz74 : szT Tryz.prog 74 = some 1 := by kernel_rfl
@[simp] theorem by74 : bytesT Tryz.prog 74 = some 8 := by kernel_rfl
@[simp] theorem ag74 : aggT Tryz.prog 74 = some false := by kernel_rfl
@[simp] theorem ze74 : zeroT Tryz.prog 74 = some (.nilf) := by kernel_rfl
attribute [simp] Tryz.underlying74
@[simp] theorem sz75 : szT Tryz.prog 75 = some 1 := by kernel_rfl
@[simp] theorem by75 : bytesT Tryz.prog 75 = some 8 := by kernel_rfl
@[simp] theorem ag75 : aggT Tryz.prog 75 = some false := by kernel_rfl
@[simp] theorem ze75 : zeroT Tryz.prog 75 = some (.nilf) := by kernel_rfl
attribute [simp] Tryz.underlying75
@[simp] theorem sz76 : szT Tryz.prog 76 = some 1 := by kernel_rfl
@[simp] theorem by76 : bytesT Tryz.prog 76 = some 8 := by kernel_rfl
@[simp] theorem ag76 : aggT Tryz.prog 76 = some false := by kernel_rfl
@[simp] theorem ze76 : zeroT Tryz.prog 76 = some (.nilf) := by kernel_rfl
attribute [simp] Tryz.underlying76
@[simp] theorem sz77 : szT Tryz.prog 77 = some 1 := by kernel_rfl
@[simp] theorem by77 : bytesT Tryz.prog 77 = some 8 := by kernel_rfl
@[simp] theorem ag77 : aggT Tryz.prog 77 = some false := by kernel_rfl
@[simp] theorem ze77 : zeroT Tryz.prog 77 = some (.nilf) := by kernel_rfl
attribute [simp] Tryz.underlying77
@[simp] theorem sz78 : szT Tryz.prog 78 = some 1 := by kernel_rfl
@[simp] theorem by78 : bytesT Tryz.prog 78 = some 8 := by kernel_rfl
@[simp] theorem ag78 : aggT Tryz.prog 78 = some false := by kernel_rfl
@[simp] theorem ze78 : zeroT Tryz.prog 78 = some (.nilf) := by kernel_rfl
attribute [simp] Tryz.underlying78
@[simp] theorem sz79 : szT Tryz.prog 79 = some 1 := by kernel_rfl
@[simp] theorem by79 : bytesT Tryz.prog 79 = some 8 := by kernel_rfl
@[simp] theorem ag79 : aggT Tryz.prog 79 = some false := by kernel_rfl
@[simp] theorem ze79 : zeroT Tryz.prog 79 = some (.nilf) := by kernel_rfl
attribute [simp] Tryz.underlying79
@[simp] theorem sz80 : szT Tryz.prog 80 = some 1 := by kernel_rfl
@[simp] theorem by80 : bytesT Tryz.prog 80 = some 8 := by kernel_rfl
@[simp] theorem ag80 : aggT Tryz.prog 80 = some false := by kernel_rfl
@[simp] theorem ze80 : zeroT Tryz.prog 80 = some (.nilf) := by kernel_rfl
attribute [simp] Tryz.underlying80
@[simp] theorem sz81 : szT Tryz.prog 81 = some 1 := by kernel_rfl
@[simp] theorem by81 : bytesT Tryz.prog 81 = some 8 := by kernel_rfl
@[simp] theorem ag81 : aggT Tryz.prog 81 = some false := by kernel_rfl
@[simp] theorem ze81 : zeroT Tryz.prog 81 = some (.nilf) := by kernel_rfl
attribute [simp] Tryz.underlying81
@[simp] theorem sz82 : szT Tryz.prog 82 = some 1 := by kernel_rfl
@[simp] theorem by82 : bytesT Tryz.prog 82 = some 8 := by kernel_rfl
@[simp] theorem ag82 : aggT Tryz.prog 82 = some false := by kernel_rfl
@[simp] theorem ze82 : zeroT Tryz.prog 82 = some (.nilf) := by kernel_rfl
attribute [simp] Tryz.underlying82
@[simp] theorem sz83 : szT Tryz.prog 83 = some 1 := by kernel_rfl
@[simp] theorem by83 : bytesT Tryz.prog 83 = some 8 := by kernel_rfl
@[simp] theorem ag83 : aggT Tryz.prog 83 = some false := by kernel_rfl
@[simp] theorem ze83 : zeroT Tryz.prog 83 = some (.nilf) := by kernel_rfl
attribute [simp] Tryz.underlying83
@[simp] theorem sz84 : szT Tryz.prog 84 = some 1 := by kernel_rfl
@[simp] theorem by84 : bytesT Tryz.prog 84 = some 8 := by kernel_rfl
@[simp] theorem ag84 : aggT Tryz.prog 84 = some false := by kernel_rfl
@[simp] theorem ze84 : zeroT Tryz.prog 84 = some (.nilf) := by kernel_rfl
attribute [simp] Tryz.underlying84
@[simp] theorem sz85 : szT Tryz.prog 85 = some 1 := by kernel_rfl
@[simp] theorem by85 : bytesT Tryz.prog 85 = some 8 := by kernel_rfl
@[simp] theorem ag85 : aggT Tryz.prog 85 = some false := by kernel_rfl
@[simp] theorem ze85 : zeroT Tryz.prog 85 = some (.nilf) := by kernel_rfl
attribute [simp] Tryz.underlying85
@[simp] theorem sz86 : szT Tryz.prog 86 = some 1 := by kernel_rfl
@[simp] theorem by86 : bytesT Tryz.prog 86 = some 8 := by kernel_rfl
@[simp] theorem ag86 : aggT Tryz.prog 86 = some false := by kernel_rfl
@[simp] theorem ze86 : zeroT Tryz.prog 86 = some (.nilf) := by kernel_rfl
attribute [simp] Tryz.underlying86
@[simp] theorem sz87 : szT Tryz.prog 87 = some 3 := by kernel_rfl
@[simp] theorem by87 : bytesT Tryz.prog 87 = some 40 := by kernel_rfl
@[simp] theorem ag87 : aggT Tryz.prog 87 = some true := by kernel_rfl
@[simp] theorem ze87 : zeroT Tryz.prog 87 = some (.agg [.nils, .int .i64 0, .int .i64 0]) := by kernel_rfl
@[simp] theorem pl87_0 : placeT Tryz.prog 87 0 = some (0, 1) := by kernel_rfl
@[simp] theorem pl87_1 : placeT Tryz.prog 87 1 = some (1, 1) := by kernel_rfl
@[simp] theorem pl87_2 : placeT Tryz.prog 87 2 = some (2, 1) := by kernel_rfl
@[simp] theorem si87 : sizesT Tryz.prog 87 = true := by kernel_rfl
@[simp] theorem fl87_0 : fldT Tryz.prog 87 0 = some ⟨"b", 22, 0, false, "", "hibernacle/wire", 0⟩ := by kernel_rfl
@[simp] theorem fl87_1 : fldT Tryz.prog 87 1 = some ⟨"at", 3, 1, false, "", "hibernacle/wire", 24⟩ := by kernel_rfl
@[simp] theorem fl87_2 : fldT Tryz.prog 87 2 = some ⟨"e", 33, 2, false, "", "hibernacle/wire", 32⟩ := by kernel_rfl
attribute [simp] Tryz.underlying87
@[simp] theorem sz88 : szT Tryz.prog 88 = some 3 := by kernel_rfl
@[simp] theorem by88 : bytesT Tryz.prog 88 = some 40 := by kernel_rfl
@[simp] theorem ag88 : aggT Tryz.prog 88 = some true := by kernel_rfl
@[simp] theorem ze88 : zeroT Tryz.prog 88 = some (.agg [.nils, .int .i64 0, .int .i64 0]) := by kernel_rfl
@[simp] theorem pl88_0 : placeT Tryz.prog 88 0 = some (0, 1) := by kernel_rfl
@[simp] theorem pl88_1 : placeT Tryz.prog 88 1 = some (1, 1) := by kernel_rfl
@[simp] theorem pl88_2 : placeT Tryz.prog 88 2 = some (2, 1) := by kernel_rfl
@[simp] theorem si88 : sizesT Tryz.prog 88 = true := by kernel_rfl
@[simp] theorem fl88_0 : fldT Tryz.prog 88 0 = some ⟨"b", 22, 0, false, "", "hibernacle/wire", 0⟩ := by kernel_rfl
@[simp] theorem fl88_1 : fldT Tryz.prog 88 1 = some ⟨"at", 3, 1, false, "", "hibernacle/wire", 24⟩ := by kernel_rfl
@[simp] theorem fl88_2 : fldT Tryz.prog 88 2 = some ⟨"e", 33, 2, false, "", "hibernacle/wire", 32⟩ := by kernel_rfl
attribute [simp] Tryz.underlying88
@[simp] theorem sz89 : szT Tryz.prog 89 = some 1 := by kernel_rfl
@[simp] theorem by89 : bytesT Tryz.prog 89 = some 8 := by kernel_rfl
@[simp] theorem ag89 : aggT Tryz.prog 89 = some false := by kernel_rfl
@[simp] theorem ze89 : zeroT Tryz.prog 89 = some (.nilf) := by kernel_rfl
attribute [simp] Tryz.underlying89
@[simp] theorem sz91 : szT Tryz.prog 91 = some 1 := by kernel_rfl
@[simp] theorem by91 : bytesT Tryz.prog 91 = some 8 := by kernel_rfl
@[simp] theorem ag91 : aggT Tryz.prog 91 = some false := by kernel_rfl
@[simp] theorem ze91 : zeroT Tryz.prog 91 = some (.nilf) := by kernel_rfl
attribute [simp] Tryz.underlying91
@[simp] theorem sz92 : szT Tryz.prog 92 = some 1 := by kernel_rfl
@[simp] theorem by92 : bytesT Tryz.prog 92 = some 8 := by kernel_rfl
@[simp] theorem ag92 : aggT Tryz.prog 92 = some false := by kernel_rfl
@[simp] theorem ze92 : zeroT Tryz.prog 92 = some (.nilf) := by kernel_rfl
attribute [simp] Tryz.underlying92
@[simp] theorem sz93 : szT Tryz.prog 93 = some 1 := by kernel_rfl
@[simp] theorem by93 : bytesT Tryz.prog 93 = some 8 := by kernel_rfl
@[simp] theorem ag93 : aggT Tryz.prog 93 = some false := by kernel_rfl
@[simp] theorem ze93 : zeroT Tryz.prog 93 = some (.int .u64 0) := by kernel_rfl
attribute [simp] Tryz.underlying93
@[simp] theorem sz94 : szT Tryz.prog 94 = some 1 := by kernel_rfl
@[simp] theorem by94 : bytesT Tryz.prog 94 = some 8 := by kernel_rfl
@[simp] theorem ag94 : aggT Tryz.prog 94 = some false := by kernel_rfl
@[simp] theorem ze94 : zeroT Tryz.prog 94 = some (.nilf) := by kernel_rfl
attribute [simp] Tryz.underlying94
@[simp] theorem sz95 : szT Tryz.prog 95 = some 1 := by kernel_rfl
@[simp] theorem by95 : bytesT Tryz.prog 95 = some 8 := by kernel_rfl
@[simp] theorem ag95 : aggT Tryz.prog 95 = some false := by kernel_rfl
@[simp] theorem ze95 : zeroT Tryz.prog 95 = some (.nilf) := by kernel_rfl
attribute [simp] Tryz.underlying95
@[simp] theorem sz96 : szT Tryz.prog 96 = some 1 := by kernel_rfl
@[simp] theorem by96 : bytesT Tryz.prog 96 = some 8 := by kernel_rfl
@[simp] theorem ag96 : aggT Tryz.prog 96 = some false := by kernel_rfl
@[simp] theorem ze96 : zeroT Tryz.prog 96 = some (.nilf) := by kernel_rfl
attribute [simp] Tryz.underlying96
@[simp] theorem sz97 : szT Tryz.prog 97 = some 1 := by kernel_rfl
@[simp] theorem by97 : bytesT Tryz.prog 97 = some 8 := by kernel_rfl
@[simp] theorem ag97 : aggT Tryz.prog 97 = some false := by kernel_rfl
@[simp] theorem ze97 : zeroT Tryz.prog 97 = some (.nilf) := by kernel_rfl
attribute [simp] Tryz.underlying97
@[simp] theorem sz98 : szT Tryz.prog 98 = some 1 := by kernel_rfl
@[simp] theorem by98 : bytesT Tryz.prog 98 = some 8 := by kernel_rfl
@[simp] theorem ag98 : aggT Tryz.prog 98 = some false := by kernel_rfl
@[simp] theorem ze98 : zeroT Tryz.prog 98 = some (.nilf) := by kernel_rfl
attribute [simp] Tryz.underlying98
@[simp] theorem sz99 : szT Tryz.prog 99 = some 1 := by kernel_rfl
@[simp] theorem by99 : bytesT Tryz.prog 99 = some 8 := by kernel_rfl
@[simp] theorem ag99 : aggT Tryz.prog 99 = some false := by kernel_rfl
@[simp] theorem ze99 : zeroT Tryz.prog 99 = some (.nilf) := by kernel_rfl
attribute [simp] Tryz.underlying99
@[simp] theorem sz100 : szT Tryz.prog 100 = some 1 := by kernel_rfl
@[simp] theorem by100 : bytesT Tryz.prog 100 = some 8 := by kernel_rfl
@[simp] theorem ag100 : aggT Tryz.prog 100 = some false := by kernel_rfl
@[simp] theorem ze100 : zeroT Tryz.prog 100 = some (.nilf) := by kernel_rfl
attribute [simp] Tryz.underlying100
@[simp] theorem sz101 : szT Tryz.prog 101 = some 1 := by kernel_rfl
@[simp] theorem by101 : bytesT Tryz.prog 101 = some 8 := by kernel_rfl
@[simp] theorem ag101 : aggT Tryz.prog 101 = some false := by kernel_rfl
@[simp] theorem ze101 : zeroT Tryz.prog 101 = some (.nilf) := by kernel_rfl
attribute [simp] Tryz.underlying101
@[simp] theorem sz102 : szT Tryz.prog 102 = some 1 := by kernel_rfl
@[simp] theorem by102 : bytesT Tryz.prog 102 = some 8 := by kernel_rfl
@[simp] theorem ag102 : aggT Tryz.prog 102 = some false := by kernel_rfl
@[simp] theorem ze102 : zeroT Tryz.prog 102 = some (.nilf) := by kernel_rfl
attribute [simp] Tryz.underlying102
@[simp] theorem sz103 : szT Tryz.prog 103 = some 1 := by kernel_rfl
@[simp] theorem by103 : bytesT Tryz.prog 103 = some 8 := by kernel_rfl
@[simp] theorem ag103 : aggT Tryz.prog 103 = some false := by kernel_rfl
@[simp] theorem ze103 : zeroT Tryz.prog 103 = some (.nilf) := by kernel_rfl
attribute [simp] Tryz.underlying103
@[simp] theorem sz104 : szT Tryz.prog 104 = some 1 := by kernel_rfl
@[simp] theorem by104 : bytesT Tryz.prog 104 = some 8 := by kernel_rfl
@[simp] theorem ag104 : aggT Tryz.prog 104 = some false := by kernel_rfl
@[simp] theorem ze104 : zeroT Tryz.prog 104 = some (.nilf) := by kernel_rfl
attribute [simp] Tryz.underlying104
@[simp] theorem sz105 : szT Tryz.prog 105 = some 1 := by kernel_rfl
@[simp] theorem by105 : bytesT Tryz.prog 105 = some 8 := by kernel_rfl
@[simp] theorem ag105 : aggT Tryz.prog 105 = some false := by kernel_rfl
@[simp] theorem ze105 : zeroT Tryz.prog 105 = some (.nilf) := by kernel_rfl
attribute [simp] Tryz.underlying105
@[simp] theorem sz106 : szT Tryz.prog 106 = some 1 := by kernel_rfl
@[simp] theorem by106 : bytesT Tryz.prog 106 = some 8 := by kernel_rfl
@[simp] theorem ag106 : aggT Tryz.prog 106 = some false := by kernel_rfl
@[simp] theorem ze106 : zeroT Tryz.prog 106 = some (.nilf) := by kernel_rfl
attribute [simp] Tryz.underlying106
@[simp] theorem sz108 : szT Tryz.prog 108 = some 1 := by kernel_rfl
@[simp] theorem by108 : bytesT Tryz.prog 108 = some 8 := by kernel_rfl
@[simp] theorem ag108 : aggT Tryz.prog 108 = some false := by kernel_rfl
@[simp] theorem ze108 : zeroT Tryz.prog 108 = some (.nilf) := by kernel_rfl
attribute [simp] Tryz.underlying108
@[simp] theorem sz109 : szT Tryz.prog 109 = some 1 := by kernel_rfl
@[simp] theorem by109 : bytesT Tryz.prog 109 = some 8 := by kernel_rfl
@[simp] theorem ag109 : aggT Tryz.prog 109 = some false := by kernel_rfl
@[simp] theorem ze109 : zeroT Tryz.prog 109 = some (.nilf) := by kernel_rfl
attribute [simp] Tryz.underlying109
@[simp] theorem sz110 : szT Tryz.prog 110 = some 1 := by kernel_rfl
@[simp] theorem by110 : bytesT Tryz.prog 110 = some 8 := by kernel_rfl
@[simp] theorem ag110 : aggT Tryz.prog 110 = some false := by kernel_rfl
@[simp] theorem ze110 : zeroT Tryz.prog 110 = some (.nilp) := by kernel_rfl
attribute [simp] Tryz.underlying110
@[simp] theorem sz111 : szT Tryz.prog 111 = some 1 := by kernel_rfl
@[simp] theorem by111 : bytesT Tryz.prog 111 = some 8 := by kernel_rfl
@[simp] theorem ag111 : aggT Tryz.prog 111 = some false := by kernel_rfl
@[simp] theorem ze111 : zeroT Tryz.prog 111 = some (.int .u64 0) := by kernel_rfl
attribute [simp] Tryz.underlying111
@[simp] theorem sz113 : szT Tryz.prog 113 = some 1 := by kernel_rfl
@[simp] theorem by113 : bytesT Tryz.prog 113 = some 8 := by kernel_rfl
@[simp] theorem ag113 : aggT Tryz.prog 113 = some false := by kernel_rfl
@[simp] theorem ze113 : zeroT Tryz.prog 113 = some (.nilf) := by kernel_rfl
attribute [simp] Tryz.underlying113
@[simp] theorem sz114 : szT Tryz.prog 114 = some 1 := by kernel_rfl
@[simp] theorem by114 : bytesT Tryz.prog 114 = some 8 := by kernel_rfl
@[simp] theorem ag114 : aggT Tryz.prog 114 = some false := by kernel_rfl
@[simp] theorem ze114 : zeroT Tryz.prog 114 = some (.nilf) := by kernel_rfl
attribute [simp] Tryz.underlying114
@[simp] theorem sz115 : szT Tryz.prog 115 = some 1 := by kernel_rfl
@[simp] theorem by115 : bytesT Tryz.prog 115 = some 8 := by kernel_rfl
@[simp] theorem ag115 : aggT Tryz.prog 115 = some false := by kernel_rfl
@[simp] theorem ze115 : zeroT Tryz.prog 115 = some (.nilf) := by kernel_rfl
attribute [simp] Tryz.underlying115
@[simp] theorem sz116 : szT Tryz.prog 116 = some 1 := by kernel_rfl
@[simp] theorem by116 : bytesT Tryz.prog 116 = some 8 := by kernel_rfl
@[simp] theorem ag116 : aggT Tryz.prog 116 = some false := by kernel_rfl
@[simp] theorem ze116 : zeroT Tryz.prog 116 = some (.nilf) := by kernel_rfl
attribute [simp] Tryz.underlying116
@[simp] theorem sz117 : szT Tryz.prog 117 = some 1 := by kernel_rfl
@[simp] theorem by117 : bytesT Tryz.prog 117 = some 8 := by kernel_rfl
@[simp] theorem ag117 : aggT Tryz.prog 117 = some false := by kernel_rfl
@[simp] theorem ze117 : zeroT Tryz.prog 117 = some (.nilf) := by kernel_rfl
attribute [simp] Tryz.underlying117
@[simp] theorem sz118 : szT Tryz.prog 118 = some 2 := by kernel_rfl
@[simp] theorem by118 : bytesT Tryz.prog 118 = some 24 := by kernel_rfl
@[simp] theorem ag118 : aggT Tryz.prog 118 = some true := by kernel_rfl
@[simp] theorem ze118 : zeroT Tryz.prog 118 = some (.agg [.str .empty, .nilf]) := by kernel_rfl
@[simp] theorem pl118_0 : placeT Tryz.prog 118 0 = some (0, 1) := by kernel_rfl
@[simp] theorem pl118_1 : placeT Tryz.prog 118 1 = some (1, 1) := by kernel_rfl
@[simp] theorem si118 : sizesT Tryz.prog 118 = true := by kernel_rfl
@[simp] theorem fl118_0 : fldT Tryz.prog 118 0 = some ⟨"name", 9, 0, false, "", "hibernacle/code", 0⟩ := by kernel_rfl
@[simp] theorem fl118_1 : fldT Tryz.prog 118 1 = some ⟨"most", 117, 1, false, "", "hibernacle/code", 16⟩ := by kernel_rfl
attribute [simp] Tryz.underlying118
@[simp] theorem sz119 : szT Tryz.prog 119 = some 2 := by kernel_rfl
@[simp] theorem by119 : bytesT Tryz.prog 119 = some 24 := by kernel_rfl
@[simp] theorem ag119 : aggT Tryz.prog 119 = some true := by kernel_rfl
@[simp] theorem ze119 : zeroT Tryz.prog 119 = some (.agg [.str .empty, .nilf]) := by kernel_rfl
@[simp] theorem pl119_0 : placeT Tryz.prog 119 0 = some (0, 1) := by kernel_rfl
@[simp] theorem pl119_1 : placeT Tryz.prog 119 1 = some (1, 1) := by kernel_rfl
@[simp] theorem si119 : sizesT Tryz.prog 119 = true := by kernel_rfl
@[simp] theorem fl119_0 : fldT Tryz.prog 119 0 = some ⟨"name", 9, 0, false, "", "hibernacle/code", 0⟩ := by kernel_rfl
@[simp] theorem fl119_1 : fldT Tryz.prog 119 1 = some ⟨"most", 117, 1, false, "", "hibernacle/code", 16⟩ := by kernel_rfl
attribute [simp] Tryz.underlying119
@[simp] theorem sz120 : szT Tryz.prog 120 = some 54 := by kernel_rfl
@[simp] theorem by120 : bytesT Tryz.prog 120 = some 648 := by kernel_rfl
@[simp] theorem ag120 : aggT Tryz.prog 120 = some true := by kernel_rfl
@[simp] theorem ze120 : zeroT Tryz.prog 120 = some (.agg [.str .empty, .nilf, .str .empty, .nilf, .str .empty, .nilf, .str .empty, .nilf, .str .empty, .nilf, .str .empty, .nilf, .str .empty, .nilf, .str .empty, .nilf, .str .empty, .nilf, .str .empty, .nilf, .str .empty, .nilf, .str .empty, .nilf, .str .empty, .nilf, .str .empty, .nilf, .str .empty, .nilf, .str .empty, .nilf, .str .empty, .nilf, .str .empty, .nilf, .str .empty, .nilf, .str .empty, .nilf, .str .empty, .nilf, .str .empty, .nilf, .str .empty, .nilf, .str .empty, .nilf, .str .empty, .nilf, .str .empty, .nilf, .str .empty, .nilf]) := by kernel_rfl
@[simp] theorem si120 : sizesT Tryz.prog 120 = true := by kernel_rfl
@[simp] theorem pl120_0 : placeT Tryz.prog 120 0 = some (0, 2) := by kernel_rfl
@[simp] theorem pl120_1 : placeT Tryz.prog 120 1 = some (2, 2) := by kernel_rfl
@[simp] theorem pl120_2 : placeT Tryz.prog 120 2 = some (4, 2) := by kernel_rfl
@[simp] theorem pl120_3 : placeT Tryz.prog 120 3 = some (6, 2) := by kernel_rfl
@[simp] theorem pl120_4 : placeT Tryz.prog 120 4 = some (8, 2) := by kernel_rfl
@[simp] theorem pl120_5 : placeT Tryz.prog 120 5 = some (10, 2) := by kernel_rfl
@[simp] theorem pl120_6 : placeT Tryz.prog 120 6 = some (12, 2) := by kernel_rfl
@[simp] theorem pl120_7 : placeT Tryz.prog 120 7 = some (14, 2) := by kernel_rfl
@[simp] theorem pl120_8 : placeT Tryz.prog 120 8 = some (16, 2) := by kernel_rfl
@[simp] theorem pl120_9 : placeT Tryz.prog 120 9 = some (18, 2) := by kernel_rfl
@[simp] theorem pl120_10 : placeT Tryz.prog 120 10 = some (20, 2) := by kernel_rfl
@[simp] theorem pl120_11 : placeT Tryz.prog 120 11 = some (22, 2) := by kernel_rfl
@[simp] theorem pl120_12 : placeT Tryz.prog 120 12 = some (24, 2) := by kernel_rfl
@[simp] theorem pl120_13 : placeT Tryz.prog 120 13 = some (26, 2) := by kernel_rfl
@[simp] theorem pl120_14 : placeT Tryz.prog 120 14 = some (28, 2) := by kernel_rfl
@[simp] theorem pl120_15 : placeT Tryz.prog 120 15 = some (30, 2) := by kernel_rfl
@[simp] theorem pl120_16 : placeT Tryz.prog 120 16 = some (32, 2) := by kernel_rfl
@[simp] theorem pl120_17 : placeT Tryz.prog 120 17 = some (34, 2) := by kernel_rfl
@[simp] theorem pl120_18 : placeT Tryz.prog 120 18 = some (36, 2) := by kernel_rfl
@[simp] theorem pl120_19 : placeT Tryz.prog 120 19 = some (38, 2) := by kernel_rfl
@[simp] theorem pl120_20 : placeT Tryz.prog 120 20 = some (40, 2) := by kernel_rfl
@[simp] theorem pl120_21 : placeT Tryz.prog 120 21 = some (42, 2) := by kernel_rfl
@[simp] theorem pl120_22 : placeT Tryz.prog 120 22 = some (44, 2) := by kernel_rfl
@[simp] theorem pl120_23 : placeT Tryz.prog 120 23 = some (46, 2) := by kernel_rfl
@[simp] theorem pl120_24 : placeT Tryz.prog 120 24 = some (48, 2) := by kernel_rfl
@[simp] theorem pl120_25 : placeT Tryz.prog 120 25 = some (50, 2) := by kernel_rfl
@[simp] theorem pl120_26 : placeT Tryz.prog 120 26 = some (52, 2) := by kernel_rfl
attribute [simp] Tryz.underlying120
@[simp] theorem sz121 : szT Tryz.prog 121 = some 1 := by kernel_rfl
@[simp] theorem by121 : bytesT Tryz.prog 121 = some 8 := by kernel_rfl
@[simp] theorem ag121 : aggT Tryz.prog 121 = some false := by kernel_rfl
@[simp] theorem ze121 : zeroT Tryz.prog 121 = some (.nilf) := by kernel_rfl
attribute [simp] Tryz.underlying121
@[simp] theorem sz123 : szT Tryz.prog 123 = some 1 := by kernel_rfl
@[simp] theorem by123 : bytesT Tryz.prog 123 = some 8 := by kernel_rfl
@[simp] theorem ag123 : aggT Tryz.prog 123 = some false := by kernel_rfl
@[simp] theorem ze123 : zeroT Tryz.prog 123 = some (.nilf) := by kernel_rfl
attribute [simp] Tryz.underlying123
@[simp] theorem sz124 : szT Tryz.prog 124 = some 1 := by kernel_rfl
@[simp] theorem by124 : bytesT Tryz.prog 124 = some 8 := by kernel_rfl
@[simp] theorem ag124 : aggT Tryz.prog 124 = some false := by kernel_rfl
@[simp] theorem ze124 : zeroT Tryz.prog 124 = some (.nilf) := by kernel_rfl
attribute [simp] Tryz.underlying124
@[simp] theorem sz125 : szT Tryz.prog 125 = some 1 := by kernel_rfl
@[simp] theorem by125 : bytesT Tryz.prog 125 = some 8 := by kernel_rfl
@[simp] theorem ag125 : aggT Tryz.prog 125 = some false := by kernel_rfl
@[simp] theorem ze125 : zeroT Tryz.prog 125 = some (.nilf) := by kernel_rfl
attribute [simp] Tryz.underlying125
@[simp] theorem sz126 : szT Tryz.prog 126 = some 1 := by kernel_rfl
@[simp] theorem by126 : bytesT Tryz.prog 126 = some 8 := by kernel_rfl
@[simp] theorem ag126 : aggT Tryz.prog 126 = some false := by kernel_rfl
@[simp] theorem ze126 : zeroT Tryz.prog 126 = some (.nilf) := by kernel_rfl
attribute [simp] Tryz.underlying126
@[simp] theorem sz127 : szT Tryz.prog 127 = some 1 := by kernel_rfl
@[simp] theorem by127 : bytesT Tryz.prog 127 = some 8 := by kernel_rfl
@[simp] theorem ag127 : aggT Tryz.prog 127 = some false := by kernel_rfl
@[simp] theorem ze127 : zeroT Tryz.prog 127 = some (.nilf) := by kernel_rfl
attribute [simp] Tryz.underlying127
@[simp] theorem sz128 : szT Tryz.prog 128 = some 1 := by kernel_rfl
@[simp] theorem by128 : bytesT Tryz.prog 128 = some 8 := by kernel_rfl
@[simp] theorem ag128 : aggT Tryz.prog 128 = some false := by kernel_rfl
@[simp] theorem ze128 : zeroT Tryz.prog 128 = some (.int .i64 0) := by kernel_rfl
attribute [simp] Tryz.underlying128
@[simp] theorem sz130 : szT Tryz.prog 130 = some 1 := by kernel_rfl
@[simp] theorem by130 : bytesT Tryz.prog 130 = some 8 := by kernel_rfl
@[simp] theorem ag130 : aggT Tryz.prog 130 = some false := by kernel_rfl
@[simp] theorem ze130 : zeroT Tryz.prog 130 = some (.nilf) := by kernel_rfl
attribute [simp] Tryz.underlying130
@[simp] theorem sz131 : szT Tryz.prog 131 = some 1 := by kernel_rfl
@[simp] theorem by131 : bytesT Tryz.prog 131 = some 8 := by kernel_rfl
@[simp] theorem ag131 : aggT Tryz.prog 131 = some false := by kernel_rfl
@[simp] theorem ze131 : zeroT Tryz.prog 131 = some (.nilf) := by kernel_rfl
attribute [simp] Tryz.underlying131
@[simp] theorem sz132 : szT Tryz.prog 132 = some 1 := by kernel_rfl
@[simp] theorem by132 : bytesT Tryz.prog 132 = some 8 := by kernel_rfl
@[simp] theorem ag132 : aggT Tryz.prog 132 = some false := by kernel_rfl
@[simp] theorem ze132 : zeroT Tryz.prog 132 = some (.nilf) := by kernel_rfl
attribute [simp] Tryz.underlying132
@[simp] theorem sz133 : szT Tryz.prog 133 = some 1 := by kernel_rfl
@[simp] theorem by133 : bytesT Tryz.prog 133 = some 8 := by kernel_rfl
@[simp] theorem ag133 : aggT Tryz.prog 133 = some false := by kernel_rfl
@[simp] theorem ze133 : zeroT Tryz.prog 133 = some (.nilf) := by kernel_rfl
attribute [simp] Tryz.underlying133
@[simp] theorem sz135 : szT Tryz.prog 135 = some 1 := by kernel_rfl
@[simp] theorem by135 : bytesT Tryz.prog 135 = some 8 := by kernel_rfl
@[simp] theorem ag135 : aggT Tryz.prog 135 = some false := by kernel_rfl
@[simp] theorem ze135 : zeroT Tryz.prog 135 = some (.nilf) := by kernel_rfl
attribute [simp] Tryz.underlying135
@[simp] theorem sz136 : szT Tryz.prog 136 = some 1 := by kernel_rfl
@[simp] theorem by136 : bytesT Tryz.prog 136 = some 8 := by kernel_rfl
@[simp] theorem ag136 : aggT Tryz.prog 136 = some false := by kernel_rfl
@[simp] theorem ze136 : zeroT Tryz.prog 136 = some (.nilf) := by kernel_rfl
attribute [simp] Tryz.underlying136
@[simp] theorem sz137 : szT Tryz.prog 137 = some 1 := by kernel_rfl
@[simp] theorem by137 : bytesT Tryz.prog 137 = some 4 := by kernel_rfl
@[simp] theorem ag137 : aggT Tryz.prog 137 = some false := by kernel_rfl
@[simp] theorem ze137 : zeroT Tryz.prog 137 = some (.int .u32 0) := by kernel_rfl
attribute [simp] Tryz.underlying137
@[simp] theorem sz138 : szT Tryz.prog 138 = some 1 := by kernel_rfl
@[simp] theorem by138 : bytesT Tryz.prog 138 = some 8 := by kernel_rfl
@[simp] theorem ag138 : aggT Tryz.prog 138 = some false := by kernel_rfl
@[simp] theorem ze138 : zeroT Tryz.prog 138 = some (.nilf) := by kernel_rfl
attribute [simp] Tryz.underlying138
@[simp] theorem sz139 : szT Tryz.prog 139 = some 1 := by kernel_rfl
@[simp] theorem by139 : bytesT Tryz.prog 139 = some 8 := by kernel_rfl
@[simp] theorem ag139 : aggT Tryz.prog 139 = some false := by kernel_rfl
@[simp] theorem ze139 : zeroT Tryz.prog 139 = some (.int .u64 0) := by kernel_rfl
attribute [simp] Tryz.underlying139
@[simp] theorem sz140 : szT Tryz.prog 140 = some 1 := by kernel_rfl
@[simp] theorem by140 : bytesT Tryz.prog 140 = some 8 := by kernel_rfl
@[simp] theorem ag140 : aggT Tryz.prog 140 = some false := by kernel_rfl
@[simp] theorem ze140 : zeroT Tryz.prog 140 = some (.nilf) := by kernel_rfl
attribute [simp] Tryz.underlying140
@[simp] theorem sz141 : szT Tryz.prog 141 = some 1 := by kernel_rfl
@[simp] theorem by141 : bytesT Tryz.prog 141 = some 8 := by kernel_rfl
@[simp] theorem ag141 : aggT Tryz.prog 141 = some false := by kernel_rfl
@[simp] theorem ze141 : zeroT Tryz.prog 141 = some (.nilf) := by kernel_rfl
attribute [simp] Tryz.underlying141
@[simp] theorem sz142 : szT Tryz.prog 142 = some 1 := by kernel_rfl
@[simp] theorem by142 : bytesT Tryz.prog 142 = some 8 := by kernel_rfl
@[simp] theorem ag142 : aggT Tryz.prog 142 = some false := by kernel_rfl
@[simp] theorem ze142 : zeroT Tryz.prog 142 = some (.nilf) := by kernel_rfl
attribute [simp] Tryz.underlying142
@[simp] theorem sz143 : szT Tryz.prog 143 = some 1 := by kernel_rfl
@[simp] theorem by143 : bytesT Tryz.prog 143 = some 8 := by kernel_rfl
@[simp] theorem ag143 : aggT Tryz.prog 143 = some false := by kernel_rfl
@[simp] theorem ze143 : zeroT Tryz.prog 143 = some (.nilp) := by kernel_rfl
attribute [simp] Tryz.underlying143
@[simp] theorem sz144 : szT Tryz.prog 144 = some 1 := by kernel_rfl
@[simp] theorem by144 : bytesT Tryz.prog 144 = some 8 := by kernel_rfl
@[simp] theorem ag144 : aggT Tryz.prog 144 = some false := by kernel_rfl
@[simp] theorem ze144 : zeroT Tryz.prog 144 = some (.nilf) := by kernel_rfl
attribute [simp] Tryz.underlying144
@[simp] theorem sz145 : szT Tryz.prog 145 = some 1 := by kernel_rfl
@[simp] theorem by145 : bytesT Tryz.prog 145 = some 8 := by kernel_rfl
@[simp] theorem ag145 : aggT Tryz.prog 145 = some false := by kernel_rfl
@[simp] theorem ze145 : zeroT Tryz.prog 145 = some (.nilp) := by kernel_rfl
attribute [simp] Tryz.underlying145
@[simp] theorem sz147 : szT Tryz.prog 147 = some 1 := by kernel_rfl
@[simp] theorem by147 : bytesT Tryz.prog 147 = some 8 := by kernel_rfl
@[simp] theorem ag147 : aggT Tryz.prog 147 = some false := by kernel_rfl
@[simp] theorem ze147 : zeroT Tryz.prog 147 = some (.nilf) := by kernel_rfl
attribute [simp] Tryz.underlying147
@[simp] theorem sz148 : szT Tryz.prog 148 = some 1 := by kernel_rfl
@[simp] theorem by148 : bytesT Tryz.prog 148 = some 8 := by kernel_rfl
@[simp] theorem ag148 : aggT Tryz.prog 148 = some false := by kernel_rfl
@[simp] theorem ze148 : zeroT Tryz.prog 148 = some (.nilf) := by kernel_rfl
attribute [simp] Tryz.underlying148
@[simp] theorem sz157 : szT Tryz.prog 157 = some 1 := by kernel_rfl
@[simp] theorem by157 : bytesT Tryz.prog 157 = some 8 := by kernel_rfl
@[simp] theorem ag157 : aggT Tryz.prog 157 = some false := by kernel_rfl
@[simp] theorem ze157 : zeroT Tryz.prog 157 = some (.nilp) := by kernel_rfl
attribute [simp] Tryz.underlying157
theorem mixed : Tryz.prog.follows .mixedOrders = true := by kernel_rfl
end Go.Hb
