/-
  A layer for reasoning about the program's calls, and contracts of its functions (Ty). CONDITIONS: none; each theorem bears its own.
-/
import Derived.Test.YtcpmmldgimhppaaProg
import Derived.Test.YtcpmmldgimhppaaL5
set_option linter.unusedVariables false
set_option linter.unusedSimpArgs false
namespace Go.Hb
open Go Go.Proofs
@[simp] theorem sz1 : szT Try.prog 1 = some 1 := by kernel_rfl
@[simp] theorem by1 : bytesT Try.prog 1 = some 8 := by kernel_rfl
@[simp] theorem ag1 : aggT Try.prog 1 = some false := by kernel_rfl
@[simp] theorem ze1 : zeroT Try.prog 1 = some (.nilf) := by kernel_rfl
attribute [simp] Try.underlying1
@[simp] theorem sz2 : szT Try.prog 2 = some 1 := by kernel_rfl
@[simp] theorem by2 : bytesT Try.prog 2 = some 8 := by kernel_rfl
@[simp] theorem ag2 : aggT Try.prog 2 = some false := by kernel_rfl
@[simp] theorem ze2 : zeroT Try.prog 2 = some (.int .i64 0) := by kernel_rfl
attribute [simp] Try.underlying2
@[simp] theorem sz3 : szT Try.prog 3 = some 1 := by kernel_rfl
@[simp] theorem by3 : bytesT Try.prog 3 = some 8 := by kernel_rfl
@[simp] theorem ag3 : aggT Try.prog 3 = some false := by kernel_rfl
@[simp] theorem ze3 : zeroT Try.prog 3 = some (.int .i64 0) := by kernel_rfl
attribute [simp] Try.underlying3
@[simp] theorem sz4 : szT Try.prog 4 = some 1 := by kernel_rfl
@[simp] theorem by4 : bytesT Try.prog 4 = some 1 := by kernel_rfl
@[simp] theorem ag4 : aggT Try.prog 4 = some false := by kernel_rfl
@[simp] theorem ze4 : zeroT Try.prog 4 = some (.bool false) := by kernel_rfl
attribute [simp] Try.underlying4
@[simp] theorem sz5 : szT Try.prog 5 = some 1 := by kernel_rfl
@[simp] theorem by5 : bytesT Try.prog 5 = some 1 := by kernel_rfl
@[simp] theorem ag5 : aggT Try.prog 5 = some false := by kernel_rfl
@[simp] theorem ze5 : zeroT Try.prog 5 = some (.int .u8 0) := by kernel_rfl
attribute [simp] Try.underlying5
@[simp] theorem sz9 : szT Try.prog 9 = some 1 := by kernel_rfl
@[simp] theorem by9 : bytesT Try.prog 9 = some 16 := by kernel_rfl
@[simp] theorem ag9 : aggT Try.prog 9 = some false := by kernel_rfl
@[simp] theorem ze9 : zeroT Try.prog 9 = some (.str .empty) := by kernel_rfl
attribute [simp] Try.underlying9
@[simp] theorem sz12 : szT Try.prog 12 = some 1 := by kernel_rfl
@[simp] theorem by12 : bytesT Try.prog 12 = some 8 := by kernel_rfl
@[simp] theorem ag12 : aggT Try.prog 12 = some false := by kernel_rfl
@[simp] theorem ze12 : zeroT Try.prog 12 = some (.int .u64 0) := by kernel_rfl
attribute [simp] Try.underlying12
@[simp] theorem sz13 : szT Try.prog 13 = some 2 := by kernel_rfl
@[simp] theorem by13 : bytesT Try.prog 13 = some 24 := by kernel_rfl
@[simp] theorem ag13 : aggT Try.prog 13 = some true := by kernel_rfl
@[simp] theorem ze13 : zeroT Try.prog 13 = some (.agg [.str .empty, .int .u64 0]) := by kernel_rfl
@[simp] theorem pl13_0 : placeT Try.prog 13 0 = some (0, 1) := by kernel_rfl
@[simp] theorem pl13_1 : placeT Try.prog 13 1 = some (1, 1) := by kernel_rfl
@[simp] theorem si13 : sizesT Try.prog 13 = true := by kernel_rfl
@[simp] theorem fl13_0 : fldT Try.prog 13 0 = some ⟨"msg", 9, 0, false, "", "runtime", 0⟩ := by kernel_rfl
@[simp] theorem fl13_1 : fldT Try.prog 13 1 = some ⟨"addr", 12, 1, false, "", "runtime", 16⟩ := by kernel_rfl
attribute [simp] Try.underlying13
@[simp] theorem sz21 : szT Try.prog 21 = some 1 := by kernel_rfl
@[simp] theorem by21 : bytesT Try.prog 21 = some 4 := by kernel_rfl
@[simp] theorem ag21 : aggT Try.prog 21 = some false := by kernel_rfl
@[simp] theorem ze21 : zeroT Try.prog 21 = some (.int .i32 0) := by kernel_rfl
attribute [simp] Try.underlying21
@[simp] theorem sz22 : szT Try.prog 22 = some 1 := by kernel_rfl
@[simp] theorem by22 : bytesT Try.prog 22 = some 24 := by kernel_rfl
@[simp] theorem ag22 : aggT Try.prog 22 = some false := by kernel_rfl
@[simp] theorem ze22 : zeroT Try.prog 22 = some (.nils) := by kernel_rfl
attribute [simp] Try.underlying22
@[simp] theorem sz23 : szT Try.prog 23 = some 1 := by kernel_rfl
@[simp] theorem by23 : bytesT Try.prog 23 = some 24 := by kernel_rfl
@[simp] theorem ag23 : aggT Try.prog 23 = some false := by kernel_rfl
@[simp] theorem ze23 : zeroT Try.prog 23 = some (.nils) := by kernel_rfl
attribute [simp] Try.underlying23
@[simp] theorem sz24 : szT Try.prog 24 = some 1 := by kernel_rfl
@[simp] theorem by24 : bytesT Try.prog 24 = some 24 := by kernel_rfl
@[simp] theorem ag24 : aggT Try.prog 24 = some false := by kernel_rfl
@[simp] theorem ze24 : zeroT Try.prog 24 = some (.nils) := by kernel_rfl
attribute [simp] Try.underlying24
@[simp] theorem sz25 : szT Try.prog 25 = some 7 := by kernel_rfl
@[simp] theorem by25 : bytesT Try.prog 25 = some 136 := by kernel_rfl
@[simp] theorem ag25 : aggT Try.prog 25 = some true := by kernel_rfl
@[simp] theorem ze25 : zeroT Try.prog 25 = some (.agg [.nils, .int .i64 0, .nils, .nils, .nils, .nils, .int .i64 0]) := by kernel_rfl
@[simp] theorem pl25_0 : placeT Try.prog 25 0 = some (0, 1) := by kernel_rfl
@[simp] theorem pl25_1 : placeT Try.prog 25 1 = some (1, 1) := by kernel_rfl
@[simp] theorem pl25_2 : placeT Try.prog 25 2 = some (2, 1) := by kernel_rfl
@[simp] theorem pl25_3 : placeT Try.prog 25 3 = some (3, 1) := by kernel_rfl
@[simp] theorem pl25_4 : placeT Try.prog 25 4 = some (4, 1) := by kernel_rfl
@[simp] theorem pl25_5 : placeT Try.prog 25 5 = some (5, 1) := by kernel_rfl
@[simp] theorem pl25_6 : placeT Try.prog 25 6 = some (6, 1) := by kernel_rfl
@[simp] theorem si25 : sizesT Try.prog 25 = true := by kernel_rfl
@[simp] theorem fl25_0 : fldT Try.prog 25 0 = some ⟨"Funcs", 22, 0, false, "", "", 0⟩ := by kernel_rfl
@[simp] theorem fl25_1 : fldT Try.prog 25 1 = some ⟨"Mutexes", 3, 1, false, "", "", 24⟩ := by kernel_rfl
@[simp] theorem fl25_2 : fldT Try.prog 25 2 = some ⟨"Conds", 23, 2, false, "", "", 32⟩ := by kernel_rfl
@[simp] theorem fl25_3 : fldT Try.prog 25 3 = some ⟨"Semas", 23, 3, false, "", "", 56⟩ := by kernel_rfl
@[simp] theorem fl25_4 : fldT Try.prog 25 4 = some ⟨"Chans", 23, 4, false, "", "", 80⟩ := by kernel_rfl
@[simp] theorem fl25_5 : fldT Try.prog 25 5 = some ⟨"Choices", 24, 5, false, "", "", 104⟩ := by kernel_rfl
@[simp] theorem fl25_6 : fldT Try.prog 25 6 = some ⟨"Threads", 3, 6, false, "", "", 128⟩ := by kernel_rfl
attribute [simp] Try.underlying25
@[simp] theorem sz26 : szT Try.prog 26 = some 7 := by kernel_rfl
@[simp] theorem by26 : bytesT Try.prog 26 = some 136 := by kernel_rfl
@[simp] theorem ag26 : aggT Try.prog 26 = some true := by kernel_rfl
@[simp] theorem ze26 : zeroT Try.prog 26 = some (.agg [.nils, .int .i64 0, .nils, .nils, .nils, .nils, .int .i64 0]) := by kernel_rfl
@[simp] theorem pl26_0 : placeT Try.prog 26 0 = some (0, 1) := by kernel_rfl
@[simp] theorem pl26_1 : placeT Try.prog 26 1 = some (1, 1) := by kernel_rfl
@[simp] theorem pl26_2 : placeT Try.prog 26 2 = some (2, 1) := by kernel_rfl
@[simp] theorem pl26_3 : placeT Try.prog 26 3 = some (3, 1) := by kernel_rfl
@[simp] theorem pl26_4 : placeT Try.prog 26 4 = some (4, 1) := by kernel_rfl
@[simp] theorem pl26_5 : placeT Try.prog 26 5 = some (5, 1) := by kernel_rfl
@[simp] theorem pl26_6 : placeT Try.prog 26 6 = some (6, 1) := by kernel_rfl
@[simp] theorem si26 : sizesT Try.prog 26 = true := by kernel_rfl
@[simp] theorem fl26_0 : fldT Try.prog 26 0 = some ⟨"Funcs", 22, 0, false, "", "", 0⟩ := by kernel_rfl
@[simp] theorem fl26_1 : fldT Try.prog 26 1 = some ⟨"Mutexes", 3, 1, false, "", "", 24⟩ := by kernel_rfl
@[simp] theorem fl26_2 : fldT Try.prog 26 2 = some ⟨"Conds", 23, 2, false, "", "", 32⟩ := by kernel_rfl
@[simp] theorem fl26_3 : fldT Try.prog 26 3 = some ⟨"Semas", 23, 3, false, "", "", 56⟩ := by kernel_rfl
@[simp] theorem fl26_4 : fldT Try.prog 26 4 = some ⟨"Chans", 23, 4, false, "", "", 80⟩ := by kernel_rfl
@[simp] theorem fl26_5 : fldT Try.prog 26 5 = some ⟨"Choices", 24, 5, false, "", "", 104⟩ := by kernel_rfl
@[simp] theorem fl26_6 : fldT Try.prog 26 6 = some ⟨"Threads", 3, 6, false, "", "", 128⟩ := by kernel_rfl
attribute [simp] Try.underlying26
@[simp] theorem sz27 : szT Try.prog 27 = some 1 := by kernel_rfl
@[simp] theorem by27 : bytesT Try.prog 27 = some 8 := by kernel_rfl
@[simp] theorem ag27 : aggT Try.prog 27 = some false := by kernel_rfl
@[simp] theorem ze27 : zeroT Try.prog 27 = some (.nilf) := by kernel_rfl
attribute [simp] Try.underlying27
@[simp] theorem sz28 : szT Try.prog 28 = some 1 := by kernel_rfl
@[simp] theorem by28 : bytesT Try.prog 28 = some 8 := by kernel_rfl
@[simp] theorem ag28 : aggT Try.prog 28 = some false := by kernel_rfl
@[simp] theorem ze28 : zeroT Try.prog 28 = some (.nilf) := by kernel_rfl
attribute [simp] Try.underlying28
@[simp] theorem sz29 : szT Try.prog 29 = some 1 := by kernel_rfl
@[simp] theorem by29 : bytesT Try.prog 29 = some 24 := by kernel_rfl
@[simp] theorem ag29 : aggT Try.prog 29 = some false := by kernel_rfl
@[simp] theorem ze29 : zeroT Try.prog 29 = some (.nils) := by kernel_rfl
attribute [simp] Try.underlying29
@[simp] theorem sz30 : szT Try.prog 30 = some 1 := by kernel_rfl
@[simp] theorem by30 : bytesT Try.prog 30 = some 8 := by kernel_rfl
@[simp] theorem ag30 : aggT Try.prog 30 = some false := by kernel_rfl
@[simp] theorem ze30 : zeroT Try.prog 30 = some (.int .i64 0) := by kernel_rfl
attribute [simp] Try.underlying30
@[simp] theorem sz32 : szT Try.prog 32 = some 1 := by kernel_rfl
@[simp] theorem by32 : bytesT Try.prog 32 = some 8 := by kernel_rfl
@[simp] theorem ag32 : aggT Try.prog 32 = some false := by kernel_rfl
@[simp] theorem ze32 : zeroT Try.prog 32 = some (.nilf) := by kernel_rfl
attribute [simp] Try.underlying32
@[simp] theorem sz33 : szT Try.prog 33 = some 1 := by kernel_rfl
@[simp] theorem by33 : bytesT Try.prog 33 = some 8 := by kernel_rfl
@[simp] theorem ag33 : aggT Try.prog 33 = some false := by kernel_rfl
@[simp] theorem ze33 : zeroT Try.prog 33 = some (.nilf) := by kernel_rfl
attribute [simp] Try.underlying33
@[simp] theorem sz34 : szT Try.prog 34 = some 1 := by kernel_rfl
@[simp] theorem by34 : bytesT Try.prog 34 = some 8 := by kernel_rfl
@[simp] theorem ag34 : aggT Try.prog 34 = some false := by kernel_rfl
@[simp] theorem ze34 : zeroT Try.prog 34 = some (.nilf) := by kernel_rfl
attribute [simp] Try.underlying34
@[simp] theorem sz35 : szT Try.prog 35 = some 1 := by kernel_rfl
@[simp] theorem by35 : bytesT Try.prog 35 = some 8 := by kernel_rfl
@[simp] theorem ag35 : aggT Try.prog 35 = some false := by kernel_rfl
@[simp] theorem ze35 : zeroT Try.prog 35 = some (.nilf) := by kernel_rfl
attribute [simp] Try.underlying35
@[simp] theorem sz36 : szT Try.prog 36 = some 1 := by kernel_rfl
@[simp] theorem by36 : bytesT Try.prog 36 = some 8 := by kernel_rfl
@[simp] theorem ag36 : aggT Try.prog 36 = some false := by kernel_rfl
@[simp] theorem ze36 : zeroT Try.prog 36 = some (.nilf) := by kernel_rfl
attribute [simp] Try.underlying36
@[simp] theorem sz37 : szT Try.prog 37 = some 2 := by kernel_rfl
@[simp] theorem by37 : bytesT Try.prog 37 = some 16 := by kernel_rfl
@[simp] theorem ag37 : aggT Try.prog 37 = some true := by kernel_rfl
@[simp] theorem ze37 : zeroT Try.prog 37 = some (.agg [.int .i64 0, .int .i64 0]) := by kernel_rfl
@[simp] theorem pl37_0 : placeT Try.prog 37 0 = some (0, 1) := by kernel_rfl
@[simp] theorem pl37_1 : placeT Try.prog 37 1 = some (1, 1) := by kernel_rfl
@[simp] theorem si37 : sizesT Try.prog 37 = true := by kernel_rfl
@[simp] theorem is37 : intStruct Try.prog 37 2 = true := by kernel_rfl
@[simp] theorem fl37_0 : fldT Try.prog 37 0 = some ⟨"Op", 3, 0, false, "", "", 0⟩ := by kernel_rfl
@[simp] theorem fl37_1 : fldT Try.prog 37 1 = some ⟨"A", 3, 1, false, "", "", 8⟩ := by kernel_rfl
attribute [simp] Try.underlying37
@[simp] theorem sz38 : szT Try.prog 38 = some 2 := by kernel_rfl
@[simp] theorem by38 : bytesT Try.prog 38 = some 16 := by kernel_rfl
@[simp] theorem ag38 : aggT Try.prog 38 = some true := by kernel_rfl
@[simp] theorem ze38 : zeroT Try.prog 38 = some (.agg [.int .i64 0, .int .i64 0]) := by kernel_rfl
@[simp] theorem pl38_0 : placeT Try.prog 38 0 = some (0, 1) := by kernel_rfl
@[simp] theorem pl38_1 : placeT Try.prog 38 1 = some (1, 1) := by kernel_rfl
@[simp] theorem si38 : sizesT Try.prog 38 = true := by kernel_rfl
@[simp] theorem is38 : intStruct Try.prog 38 2 = true := by kernel_rfl
@[simp] theorem fl38_0 : fldT Try.prog 38 0 = some ⟨"Op", 3, 0, false, "", "", 0⟩ := by kernel_rfl
@[simp] theorem fl38_1 : fldT Try.prog 38 1 = some ⟨"A", 3, 1, false, "", "", 8⟩ := by kernel_rfl
attribute [simp] Try.underlying38
@[simp] theorem sz40 : szT Try.prog 40 = some 1 := by kernel_rfl
@[simp] theorem by40 : bytesT Try.prog 40 = some 8 := by kernel_rfl
@[simp] theorem ag40 : aggT Try.prog 40 = some false := by kernel_rfl
@[simp] theorem ze40 : zeroT Try.prog 40 = some (.nilf) := by kernel_rfl
attribute [simp] Try.underlying40
@[simp] theorem sz41 : szT Try.prog 41 = some 1 := by kernel_rfl
@[simp] theorem by41 : bytesT Try.prog 41 = some 24 := by kernel_rfl
@[simp] theorem ag41 : aggT Try.prog 41 = some false := by kernel_rfl
@[simp] theorem ze41 : zeroT Try.prog 41 = some (.nils) := by kernel_rfl
attribute [simp] Try.underlying41
@[simp] theorem sz42 : szT Try.prog 42 = some 2 := by kernel_rfl
@[simp] theorem by42 : bytesT Try.prog 42 = some 32 := by kernel_rfl
@[simp] theorem ag42 : aggT Try.prog 42 = some true := by kernel_rfl
@[simp] theorem ze42 : zeroT Try.prog 42 = some (.agg [.int .i64 0, .nils]) := by kernel_rfl
@[simp] theorem pl42_0 : placeT Try.prog 42 0 = some (0, 1) := by kernel_rfl
@[simp] theorem pl42_1 : placeT Try.prog 42 1 = some (1, 1) := by kernel_rfl
@[simp] theorem si42 : sizesT Try.prog 42 = true := by kernel_rfl
@[simp] theorem fl42_0 : fldT Try.prog 42 0 = some ⟨"Locals", 3, 0, false, "", "", 0⟩ := by kernel_rfl
@[simp] theorem fl42_1 : fldT Try.prog 42 1 = some ⟨"Code", 41, 1, false, "", "", 8⟩ := by kernel_rfl
attribute [simp] Try.underlying42
@[simp] theorem sz43 : szT Try.prog 43 = some 2 := by kernel_rfl
@[simp] theorem by43 : bytesT Try.prog 43 = some 32 := by kernel_rfl
@[simp] theorem ag43 : aggT Try.prog 43 = some true := by kernel_rfl
@[simp] theorem ze43 : zeroT Try.prog 43 = some (.agg [.int .i64 0, .nils]) := by kernel_rfl
@[simp] theorem pl43_0 : placeT Try.prog 43 0 = some (0, 1) := by kernel_rfl
@[simp] theorem pl43_1 : placeT Try.prog 43 1 = some (1, 1) := by kernel_rfl
@[simp] theorem si43 : sizesT Try.prog 43 = true := by kernel_rfl
@[simp] theorem fl43_0 : fldT Try.prog 43 0 = some ⟨"Locals", 3, 0, false, "", "", 0⟩ := by kernel_rfl
@[simp] theorem fl43_1 : fldT Try.prog 43 1 = some ⟨"Code", 41, 1, false, "", "", 8⟩ := by kernel_rfl
attribute [simp] Try.underlying43
@[simp] theorem sz44 : szT Try.prog 44 = some 1 := by kernel_rfl
@[simp] theorem by44 : bytesT Try.prog 44 = some 8 := by kernel_rfl
@[simp] theorem ag44 : aggT Try.prog 44 = some false := by kernel_rfl
@[simp] theorem ze44 : zeroT Try.prog 44 = some (.nilf) := by kernel_rfl
attribute [simp] Try.underlying44
@[simp] theorem sz45 : szT Try.prog 45 = some 1 := by kernel_rfl
@[simp] theorem by45 : bytesT Try.prog 45 = some 8 := by kernel_rfl
@[simp] theorem ag45 : aggT Try.prog 45 = some false := by kernel_rfl
@[simp] theorem ze45 : zeroT Try.prog 45 = some (.nilf) := by kernel_rfl
attribute [simp] Try.underlying45
@[simp] theorem sz47 : szT Try.prog 47 = some 1 := by kernel_rfl
@[simp] theorem by47 : bytesT Try.prog 47 = some 8 := by kernel_rfl
@[simp] theorem ag47 : aggT Try.prog 47 = some false := by kernel_rfl
@[simp] theorem ze47 : zeroT Try.prog 47 = some (.nilf) := by kernel_rfl
attribute [simp] Try.underlying47
@[simp] theorem sz48 : szT Try.prog 48 = some 1 := by kernel_rfl
@[simp] theorem by48 : bytesT Try.prog 48 = some 8 := by kernel_rfl
@[simp] theorem ag48 : aggT Try.prog 48 = some false := by kernel_rfl
@[simp] theorem ze48 : zeroT Try.prog 48 = some (.nilf) := by kernel_rfl
attribute [simp] Try.underlying48
@[simp] theorem sz49 : szT Try.prog 49 = some 1 := by kernel_rfl
@[simp] theorem by49 : bytesT Try.prog 49 = some 8 := by kernel_rfl
@[simp] theorem ag49 : aggT Try.prog 49 = some false := by kernel_rfl
@[simp] theorem ze49 : zeroT Try.prog 49 = some (.nilf) := by kernel_rfl
attribute [simp] Try.underlying49
@[simp] theorem sz50 : szT Try.prog 50 = some 1 := by kernel_rfl
@[simp] theorem by50 : bytesT Try.prog 50 = some 8 := by kernel_rfl
@[simp] theorem ag50 : aggT Try.prog 50 = some false := by kernel_rfl
@[simp] theorem ze50 : zeroT Try.prog 50 = some (.nilf) := by kernel_rfl
attribute [simp] Try.underlying50
@[simp] theorem sz51 : szT Try.prog 51 = some 1 := by kernel_rfl
@[simp] theorem by51 : bytesT Try.prog 51 = some 8 := by kernel_rfl
@[simp] theorem ag51 : aggT Try.prog 51 = some false := by kernel_rfl
@[simp] theorem ze51 : zeroT Try.prog 51 = some (.nilf) := by kernel_rfl
attribute [simp] Try.underlying51
@[simp] theorem sz52 : szT Try.prog 52 = some 1 := by kernel_rfl
@[simp] theorem by52 : bytesT Try.prog 52 = some 8 := by kernel_rfl
@[simp] theorem ag52 : aggT Try.prog 52 = some false := by kernel_rfl
@[simp] theorem ze52 : zeroT Try.prog 52 = some (.nilf) := by kernel_rfl
attribute [simp] Try.underlying52
@[simp] theorem sz53 : szT Try.prog 53 = some 1 := by kernel_rfl
@[simp] theorem by53 : bytesT Try.prog 53 = some 8 := by kernel_rfl
@[simp] theorem ag53 : aggT Try.prog 53 = some false := by kernel_rfl
@[simp] theorem ze53 : zeroT Try.prog 53 = some (.nilf) := by kernel_rfl
attribute [simp] Try.underlying53
@[simp] theorem sz54 : szT Try.prog 54 = some 1 := by kernel_rfl
@[simp] theorem by54 : bytesT Try.prog 54 = some 24 := by kernel_rfl
@[simp] theorem ag54 : aggT Try.prog 54 = some true := by kernel_rfl
@[simp] theorem ze54 : zeroT Try.prog 54 = some (.agg [.nils]) := by kernel_rfl
@[simp] theorem pl54_0 : placeT Try.prog 54 0 = some (0, 1) := by kernel_rfl
@[simp] theorem si54 : sizesT Try.prog 54 = true := by kernel_rfl
@[simp] theorem fl54_0 : fldT Try.prog 54 0 = some ⟨"b", 29, 0, false, "", "hibernacle/wire", 0⟩ := by kernel_rfl
attribute [simp] Try.underlying54
@[simp] theorem sz55 : szT Try.prog 55 = some 1 := by kernel_rfl
@[simp] theorem by55 : bytesT Try.prog 55 = some 24 := by kernel_rfl
@[simp] theorem ag55 : aggT Try.prog 55 = some true := by kernel_rfl
@[simp] theorem ze55 : zeroT Try.prog 55 = some (.agg [.nils]) := by kernel_rfl
@[simp] theorem pl55_0 : placeT Try.prog 55 0 = some (0, 1) := by kernel_rfl
@[simp] theorem si55 : sizesT Try.prog 55 = true := by kernel_rfl
@[simp] theorem fl55_0 : fldT Try.prog 55 0 = some ⟨"b", 29, 0, false, "", "hibernacle/wire", 0⟩ := by kernel_rfl
attribute [simp] Try.underlying55
@[simp] theorem sz56 : szT Try.prog 56 = some 1 := by kernel_rfl
@[simp] theorem by56 : bytesT Try.prog 56 = some 8 := by kernel_rfl
@[simp] theorem ag56 : aggT Try.prog 56 = some false := by kernel_rfl
@[simp] theorem ze56 : zeroT Try.prog 56 = some (.nilf) := by kernel_rfl
attribute [simp] Try.underlying56
@[simp] theorem sz57 : szT Try.prog 57 = some 1 := by kernel_rfl
@[simp] theorem by57 : bytesT Try.prog 57 = some 8 := by kernel_rfl
@[simp] theorem ag57 : aggT Try.prog 57 = some false := by kernel_rfl
@[simp] theorem ze57 : zeroT Try.prog 57 = some (.nilf) := by kernel_rfl
attribute [simp] Try.underlying57
@[simp] theorem sz58 : szT Try.prog 58 = some 1 := by kernel_rfl
@[simp] theorem by58 : bytesT Try.prog 58 = some 8 := by kernel_rfl
@[simp] theorem ag58 : aggT Try.prog 58 = some false := by kernel_rfl
@[simp] theorem ze58 : zeroT Try.prog 58 = some (.nilf) := by kernel_rfl
attribute [simp] Try.underlying58
@[simp] theorem sz59 : szT Try.prog 59 = some 1 := by kernel_rfl
@[simp] theorem by59 : bytesT Try.prog 59 = some 8 := by kernel_rfl
@[simp] theorem ag59 : aggT Try.prog 59 = some false := by kernel_rfl
@[simp] theorem ze59 : zeroT Try.prog 59 = some (.nilf) := by kernel_rfl
attribute [simp] Try.underlying59
@[simp] theorem sz60 : szT Try.prog 60 = some 1 := by kernel_rfl
@[simp] theorem by60 : bytesT Try.prog 60 = some 8 := by kernel_rfl
@[simp] theorem ag60 : aggT Try.prog 60 = some false := by kernel_rfl
@[simp] theorem ze60 : zeroT Try.prog 60 = some (.nilf) := by kernel_rfl
attribute [simp] Try.underlying60
@[simp] theorem sz61 : szT Try.prog 61 = some 1 := by kernel_rfl
@[simp] theorem by61 : bytesT Try.prog 61 = some 8 := by kernel_rfl
@[simp] theorem ag61 : aggT Try.prog 61 = some false := by kernel_rfl
@[simp] theorem ze61 : zeroT Try.prog 61 = some (.nilf) := by kernel_rfl
attribute [simp] Try.underlying61
@[simp] theorem sz62 : szT Try.prog 62 = some 1 := by kernel_rfl
@[simp] theorem by62 : bytesT Try.prog 62 = some 8 := by kernel_rfl
@[simp] theorem ag62 : aggT Try.prog 62 = some false := by kernel_rfl
@[simp] theorem ze62 : zeroT Try.prog 62 = some (.nilf) := by kernel_rfl
attribute [simp] Try.underlying62
@[simp] theorem sz63 : szT Try.prog 63 = some 1 := by kernel_rfl
@[simp] theorem by63 : bytesT Try.prog 63 = some 8 := by kernel_rfl
@[simp] theorem ag63 : aggT Try.prog 63 = some false := by kernel_rfl
@[simp] theorem ze63 : zeroT Try.prog 63 = some (.nilf) := by kernel_rfl
attribute [simp] Try.underlying63
@[simp] theorem sz64 : szT Try.prog 64 = some 1 := by kernel_rfl
@[simp] theorem by64 : bytesT Try.prog 64 = some 8 := by kernel_rfl
@[simp] theorem ag64 : aggT Try.prog 64 = some false := by kernel_rfl
@[simp] theorem ze64 : zeroT Try.prog 64 = some (.nilf) := by kernel_rfl
attribute [simp] Try.underlying64
@[simp] theorem sz65 : szT Try.prog 65 = some 1 := by kernel_rfl
@[simp] theorem by65 : bytesT Try.prog 65 = some 8 := by kernel_rfl
@[simp] theorem ag65 : aggT Try.prog 65 = some false := by kernel_rfl
@[simp] theorem ze65 : zeroT Try.prog 65 = some (.nilf) := by kernel_rfl
attribute [simp] Try.underlying65
@[simp] theorem sz66 : szT Try.prog 66 = some 1 := by kernel_rfl
@[simp] theorem by66 : bytesT Try.prog 66 = some 8 := by kernel_rfl
@[simp] theorem ag66 : aggT Try.prog 66 = some false := by kernel_rfl
@[simp] theorem ze66 : zeroT Try.prog 66 = some (.nilf) := by kernel_rfl
attribute [simp] Try.underlying66
@[simp] theorem sz67 : szT Try.prog 67 = some 1 := by kernel_rfl
@[simp] theorem by67 : bytesT Try.prog 67 = some 8 := by kernel_rfl
@[simp] theorem ag67 : aggT Try.prog 67 = some false := by kernel_rfl
@[simp] theorem ze67 : zeroT Try.prog 67 = some (.nilf) := by kernel_rfl
attribute [simp] Try.underlying67
@[simp] theorem sz68 : szT Try.prog 68 = some 1 := by kernel_rfl
@[simp] theorem by68 : bytesT Try.prog 68 = some 8 := by kernel_rfl
@[simp] theorem ag68 : aggT Try.prog 68 = some false := by kernel_rfl
@[simp] theorem ze68 : zeroT Try.prog 68 = some (.nilf) := by kernel_rfl
attribute [simp] Try.underlying68
@[simp] theorem sz69 : szT Try.prog 69 = some 1 := by kernel_rfl
@[simp] theorem by69 : bytesT Try.prog 69 = some 8 := by kernel_rfl
@[simp] theorem ag69 : aggT Try.prog 69 = some false := by kernel_rfl
@[simp] theorem ze69 : zeroT Try.prog 69 = some (.nilf) := by kernel_rfl
attribute [simp] Try.underlying69
@[simp] theorem sz70 : szT Try.prog 70 = some 1 := by kernel_rfl
@[simp] theorem by70 : bytesT Try.prog 70 = some 8 := by kernel_rfl
@[simp] theorem ag70 : aggT Try.prog 70 = some false := by kernel_rfl
@[simp] theorem ze70 : zeroT Try.prog 70 = some (.nilf) := by kernel_rfl
attribute [simp] Try.underlying70
@[simp] theorem sz71 : szT Try.prog 71 = some 1 := by kernel_rfl
@[simp] theorem by71 : bytesT Try.prog 71 = some 8 := by kernel_rfl
@[simp] theorem ag71 : aggT Try.prog 71 = some false := by kernel_rfl
@[simp] theorem ze71 : zeroT Try.prog 71 = some (.nilf) := by kernel_rfl
attribute [simp] Try.underlying71
@[simp] theorem sz72 : szT Try.prog 72 = some 1 := by kernel_rfl
@[simp] theorem by72 : bytesT Try.prog 72 = some 8 := by kernel_rfl
@[simp] theorem ag72 : aggT Try.prog 72 = some false := by kernel_rfl
@[simp] theorem ze72 : zeroT Try.prog 72 = some (.nilf) := by kernel_rfl
attribute [simp] Try.underlying72
@[simp] theorem sz73 : szT Try.prog 73 = some 1 := by kernel_rfl
@[simp] theorem by73 : bytesT Try.prog 73 = some 8 := by kernel_rfl
@[simp] theorem ag73 : aggT Try.prog 73 = some false := by kernel_rfl
@[simp] theorem ze73 : zeroT Try.prog 73 = some (.nilf) := by kernel_rfl
attribute [simp] Try.underlying73
@[simp] theorem sz74 : szT Try.prog 74 = some 1 := by kernel_rfl
@[simp] theorem by74 : bytesT Try.prog 74 = some 8 := by kernel_rfl
@[simp] theorem ag74 : aggT Try.prog 74 = some false := by kernel_rfl
@[simp] theorem ze74 : zeroT Try.prog 74 = some (.nilf) := by kernel_rfl
attribute [simp] Try.underlying74
@[simp] theorem sz75 : szT Try.prog 75 = some 1 := by kernel_rfl
@[simp] theorem by75 : bytesT Try.prog 75 = some 8 := by kernel_rfl
@[simp] theorem ag75 : aggT Try.prog 75 = some false := by kernel_rfl
@[simp] theorem ze75 : zeroT Try.prog 75 = some (.nilf) := by kernel_rfl
attribute [simp] Try.underlying75
@[simp] theorem sz76 : szT Try.prog 76 = some 1 := by kernel_rfl
@[simp] theorem by76 : bytesT Try.prog 76 = some 8 := by kernel_rfl
@[simp] theorem ag76 : aggT Try.prog 76 = some false := by kernel_rfl
@[simp] theorem ze76 : zeroT Try.prog 76 = some (.nilf) := by kernel_rfl
attribute [simp] Try.underlying76
@[simp] theorem sz77 : szT Try.prog 77 = some 1 := by kernel_rfl
@[simp] theorem by77 : bytesT Try.prog 77 = some 8 := by kernel_rfl
@[simp] theorem ag77 : aggT Try.prog 77 = some false := by kernel_rfl
@[simp] theorem ze77 : zeroT Try.prog 77 = some (.nilf) := by kernel_rfl
attribute [simp] Try.underlying77
@[simp] theorem sz78 : szT Try.prog 78 = some 1 := by kernel_rfl
@[simp] theorem by78 : bytesT Try.prog 78 = some 8 := by kernel_rfl
@[simp] theorem ag78 : aggT Try.prog 78 = some false := by kernel_rfl
@[simp] theorem ze78 : zeroT Try.prog 78 = some (.nilf) := by kernel_rfl
attribute [simp] Try.underlying78
@[simp] theorem sz79 : szT Try.prog 79 = some 1 := by kernel_rfl
@[simp] theorem by79 : bytesT Try.prog 79 = some 8 := by kernel_rfl
@[simp] theorem ag79 : aggT Try.prog 79 = some false := by kernel_rfl
@[simp] theorem ze79 : zeroT Try.prog 79 = some (.nilp) := by kernel_rfl
attribute [simp] Try.underlying79
@[simp] theorem sz80 : szT Try.prog 80 = some 1 := by kernel_rfl
@[simp] theorem by80 : bytesT Try.prog 80 = some 8 := by kernel_rfl
@[simp] theorem ag80 : aggT Try.prog 80 = some false := by kernel_rfl
@[simp] theorem ze80 : zeroT Try.prog 80 = some (.nilf) := by kernel_rfl
attribute [simp] Try.underlying80
@[simp] theorem sz81 : szT Try.prog 81 = some 1 := by kernel_rfl
@[simp] theorem by81 : bytesT Try.prog 81 = some 8 := by kernel_rfl
@[simp] theorem ag81 : aggT Try.prog 81 = some false := by kernel_rfl
@[simp] theorem ze81 : zeroT Try.prog 81 = some (.nilf) := by kernel_rfl
attribute [simp] Try.underlying81
@[simp] theorem sz82 : szT Try.prog 82 = some 1 := by kernel_rfl
@[simp] theorem by82 : bytesT Try.prog 82 = some 8 := by kernel_rfl
@[simp] theorem ag82 : aggT Try.prog 82 = some false := by kernel_rfl
@[simp] theorem ze82 : zeroT Try.prog 82 = some (.nilf) := by kernel_rfl
attribute [simp] Try.underlying82
@[simp] theorem sz83 : szT Try.prog 83 = some 1 := by kernel_rfl
@[simp] theorem by83 : bytesT Try.prog 83 = some 8 := by kernel_rfl
@[simp] theorem ag83 : aggT Try.prog 83 = some false := by kernel_rfl
@[simp] theorem ze83 : zeroT Try.prog 83 = some (.nilf) := by kernel_rfl
attribute [simp] Try.underlying83
@[simp] theorem sz84 : szT Try.prog 84 = some 1 := by kernel_rfl
@[simp] theorem by84 : bytesT Try.prog 84 = some 8 := by kernel_rfl
@[simp] theorem ag84 : aggT Try.prog 84 = some false := by kernel_rfl
@[simp] theorem ze84 : zeroT Try.prog 84 = some (.nilf) := by kernel_rfl
attribute [simp] Try.underlying84
@[simp] theorem sz85 : szT Try.prog 85 = some 1 := by kernel_rfl
@[simp] theorem by85 : bytesT Try.prog 85 = some 8 := by kernel_rfl
@[simp] theorem ag85 : aggT Try.prog 85 = some false := by kernel_rfl
@[simp] theorem ze85 : zeroT Try.prog 85 = some (.nilf) := by kernel_rfl
attribute [simp] Try.underlying85
@[simp] theorem sz86 : szT Try.prog 86 = some 1 := by kernel_rfl
@[simp] theorem by86 : bytesT Try.prog 86 = some 8 := by kernel_rfl
@[simp] theorem ag86 : aggT Try.prog 86 = some false := by kernel_rfl
@[simp] theorem ze86 : zeroT Try.prog 86 = some (.nilf) := by kernel_rfl
attribute [simp] Try.underlying86
@[simp] theorem sz87 : szT Try.prog 87 = some 1 := by kernel_rfl
@[simp] theorem by87 : bytesT Try.prog 87 = some 8 := by kernel_rfl
@[simp] theorem ag87 : aggT Try.prog 87 = some false := by kernel_rfl
@[simp] theorem ze87 : zeroT Try.prog 87 = some (.nilf) := by kernel_rfl
attribute [simp] Try.underlying87
@[simp] theorem sz88 : szT Try.prog 88 = some 1 := by kernel_rfl
@[simp] theorem by88 : bytesT Try.prog 88 = some 8 := by kernel_rfl
@[simp] theorem ag88 : aggT Try.prog 88 = some false := by kernel_rfl
@[simp] theorem ze88 : zeroT Try.prog 88 = some (.nilp) := by kernel_rfl
attribute [simp] Try.underlying88
@[simp] theorem sz89 : szT Try.prog 89 = some 1 := by kernel_rfl
@[simp] theorem by89 : bytesT Try.prog 89 = some 8 := by kernel_rfl
@[simp] theorem ag89 : aggT Try.prog 89 = some false := by kernel_rfl
@[simp] theorem ze89 : zeroT Try.prog 89 = some (.int .u64 0) := by kernel_rfl
attribute [simp] Try.underlying89
@[simp] theorem sz90 : szT Try.prog 90 = some 1 := by kernel_rfl
@[simp] theorem by90 : bytesT Try.prog 90 = some 8 := by kernel_rfl
@[simp] theorem ag90 : aggT Try.prog 90 = some false := by kernel_rfl
@[simp] theorem ze90 : zeroT Try.prog 90 = some (.nilf) := by kernel_rfl
attribute [simp] Try.underlying90
@[simp] theorem sz91 : szT Try.prog 91 = some 1 := by kernel_rfl
@[simp] theorem by91 : bytesT Try.prog 91 = some 8 := by kernel_rfl
@[simp] theorem ag91 : aggT Try.prog 91 = some false := by kernel_rfl
@[simp] theorem ze91 : zeroT Try.prog 91 = some (.nilf) := by kernel_rfl
attribute [simp] Try.underlying91
@[simp] theorem sz92 : szT Try.prog 92 = some 1 := by kernel_rfl
@[simp] theorem by92 : bytesT Try.prog 92 = some 8 := by kernel_rfl
@[simp] theorem ag92 : aggT Try.prog 92 = some false := by kernel_rfl
@[simp] theorem ze92 : zeroT Try.prog 92 = some (.nilf) := by kernel_rfl
attribute [simp] Try.underlying92
@[simp] theorem sz93 : szT Try.prog 93 = some 1 := by kernel_rfl
@[simp] theorem by93 : bytesT Try.prog 93 = some 8 := by kernel_rfl
@[simp] theorem ag93 : aggT Try.prog 93 = some false := by kernel_rfl
@[simp] theorem ze93 : zeroT Try.prog 93 = some (.nilf) := by kernel_rfl
attribute [simp] Try.underlying93
@[simp] theorem sz94 : szT Try.prog 94 = some 1 := by kernel_rfl
@[simp] theorem by94 : bytesT Try.prog 94 = some 8 := by kernel_rfl
@[simp] theorem ag94 : aggT Try.prog 94 = some false := by kernel_rfl
@[simp] theorem ze94 : zeroT Try.prog 94 = some (.nilf) := by kernel_rfl
attribute [simp] Try.underlying94
@[simp] theorem sz95 : szT Try.prog 95 = some 1 := by kernel_rfl
@[simp] theorem by95 : bytesT Try.prog 95 = some 8 := by kernel_rfl
@[simp] theorem ag95 : aggT Try.prog 95 = some false := by kernel_rfl
@[simp] theorem ze95 : zeroT Try.prog 95 = some (.nilf) := by kernel_rfl
attribute [simp] Try.underlying95
@[simp] theorem sz96 : szT Try.prog 96 = some 2 := by kernel_rfl
@[simp] theorem by96 : bytesT Try.prog 96 = some 24 := by kernel_rfl
@[simp] theorem ag96 : aggT Try.prog 96 = some true := by kernel_rfl
@[simp] theorem ze96 : zeroT Try.prog 96 = some (.agg [.str .empty, .nilf]) := by kernel_rfl
@[simp] theorem pl96_0 : placeT Try.prog 96 0 = some (0, 1) := by kernel_rfl
@[simp] theorem pl96_1 : placeT Try.prog 96 1 = some (1, 1) := by kernel_rfl
@[simp] theorem si96 : sizesT Try.prog 96 = true := by kernel_rfl
@[simp] theorem fl96_0 : fldT Try.prog 96 0 = some ⟨"name", 9, 0, false, "", "hibernacle/code", 0⟩ := by kernel_rfl
@[simp] theorem fl96_1 : fldT Try.prog 96 1 = some ⟨"most", 95, 1, false, "", "hibernacle/code", 16⟩ := by kernel_rfl
attribute [simp] Try.underlying96
@[simp] theorem sz97 : szT Try.prog 97 = some 2 := by kernel_rfl
@[simp] theorem by97 : bytesT Try.prog 97 = some 24 := by kernel_rfl
@[simp] theorem ag97 : aggT Try.prog 97 = some true := by kernel_rfl
@[simp] theorem ze97 : zeroT Try.prog 97 = some (.agg [.str .empty, .nilf]) := by kernel_rfl
@[simp] theorem pl97_0 : placeT Try.prog 97 0 = some (0, 1) := by kernel_rfl
@[simp] theorem pl97_1 : placeT Try.prog 97 1 = some (1, 1) := by kernel_rfl
@[simp] theorem si97 : sizesT Try.prog 97 = true := by kernel_rfl
@[simp] theorem fl97_0 : fldT Try.prog 97 0 = some ⟨"name", 9, 0, false, "", "hibernacle/code", 0⟩ := by kernel_rfl
@[simp] theorem fl97_1 : fldT Try.prog 97 1 = some ⟨"most", 95, 1, false, "", "hibernacle/code", 16⟩ := by kernel_rfl
attribute [simp] Try.underlying97
@[simp] theorem sz98 : szT Try.prog 98 = some 54 := by kernel_rfl
@[simp] theorem by98 : bytesT Try.prog 98 = some 648 := by kernel_rfl
@[simp] theorem ag98 : aggT Try.prog 98 = some true := by kernel_rfl
@[simp] theorem ze98 : zeroT Try.prog 98 = some (.agg [.str .empty, .nilf, .str .empty, .nilf, .str .empty, .nilf, .str .empty, .nilf, .str .empty, .nilf, .str .empty, .nilf, .str .empty, .nilf, .str .empty, .nilf, .str .empty, .nilf, .str .empty, .nilf, .str .empty, .nilf, .str .empty, .nilf, .str .empty, .nilf, .str .empty, .nilf, .str .empty, .nilf, .str .empty, .nilf, .str .empty, .nilf, .str .empty, .nilf, .str .empty, .nilf, .str .empty, .nilf, .str .empty, .nilf, .str .empty, .nilf, .str .empty, .nilf, .str .empty, .nilf, .str .empty, .nilf, .str .empty, .nilf, .str .empty, .nilf]) := by kernel_rfl
@[simp] theorem si98 : sizesT Try.prog 98 = true := by kernel_rfl
@[simp] theorem pl98_0 : placeT Try.prog 98 0 = some (0, 2) := by kernel_rfl
@[simp] theorem pl98_1 : placeT Try.prog 98 1 = some (2, 2) := by kernel_rfl
@[simp] theorem pl98_2 : placeT Try.prog 98 2 = some (4, 2) := by kernel_rfl
@[simp] theorem pl98_3 : placeT Try.prog 98 3 = some (6, 2) := by kernel_rfl
@[simp] theorem pl98_4 : placeT Try.prog 98 4 = some (8, 2) := by kernel_rfl
@[simp] theorem pl98_5 : placeT Try.prog 98 5 = some (10, 2) := by kernel_rfl
@[simp] theorem pl98_6 : placeT Try.prog 98 6 = some (12, 2) := by kernel_rfl
@[simp] theorem pl98_7 : placeT Try.prog 98 7 = some (14, 2) := by kernel_rfl
@[simp] theorem pl98_8 : placeT Try.prog 98 8 = some (16, 2) := by kernel_rfl
@[simp] theorem pl98_9 : placeT Try.prog 98 9 = some (18, 2) := by kernel_rfl
@[simp] theorem pl98_10 : placeT Try.prog 98 10 = some (20, 2) := by kernel_rfl
@[simp] theorem pl98_11 : placeT Try.prog 98 11 = some (22, 2) := by kernel_rfl
@[simp] theorem pl98_12 : placeT Try.prog 98 12 = some (24, 2) := by kernel_rfl
@[simp] theorem pl98_13 : placeT Try.prog 98 13 = some (26, 2) := by kernel_rfl
@[simp] theorem pl98_14 : placeT Try.prog 98 14 = some (28, 2) := by kernel_rfl
@[simp] theorem pl98_15 : placeT Try.prog 98 15 = some (30, 2) := by kernel_rfl
@[simp] theorem pl98_16 : placeT Try.prog 98 16 = some (32, 2) := by kernel_rfl
@[simp] theorem pl98_17 : placeT Try.prog 98 17 = some (34, 2) := by kernel_rfl
@[simp] theorem pl98_18 : placeT Try.prog 98 18 = some (36, 2) := by kernel_rfl
@[simp] theorem pl98_19 : placeT Try.prog 98 19 = some (38, 2) := by kernel_rfl
@[simp] theorem pl98_20 : placeT Try.prog 98 20 = some (40, 2) := by kernel_rfl
@[simp] theorem pl98_21 : placeT Try.prog 98 21 = some (42, 2) := by kernel_rfl
@[simp] theorem pl98_22 : placeT Try.prog 98 22 = some (44, 2) := by kernel_rfl
@[simp] theorem pl98_23 : placeT Try.prog 98 23 = some (46, 2) := by kernel_rfl
@[simp] theorem pl98_24 : placeT Try.prog 98 24 = some (48, 2) := by kernel_rfl
@[simp] theorem pl98_25 : placeT Try.prog 98 25 = some (50, 2) := by kernel_rfl
@[simp] theorem pl98_26 : placeT Try.prog 98 26 = some (52, 2) := by kernel_rfl
attribute [simp] Try.underlying98
@[simp] theorem sz99 : szT Try.prog 99 = some 1 := by kernel_rfl
@[simp] theorem by99 : bytesT Try.prog 99 = some 8 := by kernel_rfl
@[simp] theorem ag99 : aggT Try.prog 99 = some false := by kernel_rfl
@[simp] theorem ze99 : zeroT Try.prog 99 = some (.nilf) := by kernel_rfl
attribute [simp] Try.underlying99
@[simp] theorem sz100 : szT Try.prog 100 = some 3 := by kernel_rfl
@[simp] theorem by100 : bytesT Try.prog 100 = some 40 := by kernel_rfl
@[simp] theorem ag100 : aggT Try.prog 100 = some true := by kernel_rfl
@[simp] theorem ze100 : zeroT Try.prog 100 = some (.agg [.nils, .int .i64 0, .int .i64 0]) := by kernel_rfl
@[simp] theorem pl100_0 : placeT Try.prog 100 0 = some (0, 1) := by kernel_rfl
@[simp] theorem pl100_1 : placeT Try.prog 100 1 = some (1, 1) := by kernel_rfl
@[simp] theorem pl100_2 : placeT Try.prog 100 2 = some (2, 1) := by kernel_rfl
@[simp] theorem si100 : sizesT Try.prog 100 = true := by kernel_rfl
@[simp] theorem fl100_0 : fldT Try.prog 100 0 = some ⟨"b", 29, 0, false, "", "hibernacle/wire", 0⟩ := by kernel_rfl
@[simp] theorem fl100_1 : fldT Try.prog 100 1 = some ⟨"at", 3, 1, false, "", "hibernacle/wire", 24⟩ := by kernel_rfl
@[simp] theorem fl100_2 : fldT Try.prog 100 2 = some ⟨"e", 30, 2, false, "", "hibernacle/wire", 32⟩ := by kernel_rfl
attribute [simp] Try.underlying100
@[simp] theorem sz101 : szT Try.prog 101 = some 3 := by kernel_rfl
@[simp] theorem by101 : bytesT Try.prog 101 = some 40 := by kernel_rfl
@[simp] theorem ag101 : aggT Try.prog 101 = some true := by kernel_rfl
@[simp] theorem ze101 : zeroT Try.prog 101 = some (.agg [.nils, .int .i64 0, .int .i64 0]) := by kernel_rfl
@[simp] theorem pl101_0 : placeT Try.prog 101 0 = some (0, 1) := by kernel_rfl
@[simp] theorem pl101_1 : placeT Try.prog 101 1 = some (1, 1) := by kernel_rfl
@[simp] theorem pl101_2 : placeT Try.prog 101 2 = some (2, 1) := by kernel_rfl
@[simp] theorem si101 : sizesT Try.prog 101 = true := by kernel_rfl
@[simp] theorem fl101_0 : fldT Try.prog 101 0 = some ⟨"b", 29, 0, false, "", "hibernacle/wire", 0⟩ := by kernel_rfl
@[simp] theorem fl101_1 : fldT Try.prog 101 1 = some ⟨"at", 3, 1, false, "", "hibernacle/wire", 24⟩ := by kernel_rfl
@[simp] theorem fl101_2 : fldT Try.prog 101 2 = some ⟨"e", 30, 2, false, "", "hibernacle/wire", 32⟩ := by kernel_rfl
attribute [simp] Try.underlying101
@[simp] theorem sz102 : szT Try.prog 102 = some 1 := by kernel_rfl
@[simp] theorem by102 : bytesT Try.prog 102 = some 8 := by kernel_rfl
@[simp] theorem ag102 : aggT Try.prog 102 = some false := by kernel_rfl
@[simp] theorem ze102 : zeroT Try.prog 102 = some (.nilf) := by kernel_rfl
attribute [simp] Try.underlying102
@[simp] theorem sz104 : szT Try.prog 104 = some 1 := by kernel_rfl
@[simp] theorem by104 : bytesT Try.prog 104 = some 8 := by kernel_rfl
@[simp] theorem ag104 : aggT Try.prog 104 = some false := by kernel_rfl
@[simp] theorem ze104 : zeroT Try.prog 104 = some (.nilf) := by kernel_rfl
attribute [simp] Try.underlying104
@[simp] theorem sz105 : szT Try.prog 105 = some 1 := by kernel_rfl
@[simp] theorem by105 : bytesT Try.prog 105 = some 8 := by kernel_rfl
@[simp] theorem ag105 : aggT Try.prog 105 = some false := by kernel_rfl
@[simp] theorem ze105 : zeroT Try.prog 105 = some (.nilf) := by kernel_rfl
attribute [simp] Try.underlying105
@[simp] theorem sz106 : szT Try.prog 106 = some 1 := by kernel_rfl
@[simp] theorem by106 : bytesT Try.prog 106 = some 8 := by kernel_rfl
@[simp] theorem ag106 : aggT Try.prog 106 = some false := by kernel_rfl
@[simp] theorem ze106 : zeroT Try.prog 106 = some (.int .u64 0) := by kernel_rfl
attribute [simp] Try.underlying106
@[simp] theorem sz107 : szT Try.prog 107 = some 1 := by kernel_rfl
@[simp] theorem by107 : bytesT Try.prog 107 = some 8 := by kernel_rfl
@[simp] theorem ag107 : aggT Try.prog 107 = some false := by kernel_rfl
@[simp] theorem ze107 : zeroT Try.prog 107 = some (.nilf) := by kernel_rfl
attribute [simp] Try.underlying107
@[simp] theorem sz108 : szT Try.prog 108 = some 1 := by kernel_rfl
@[simp] theorem by108 : bytesT Try.prog 108 = some 8 := by kernel_rfl
@[simp] theorem ag108 : aggT Try.prog 108 = some false := by kernel_rfl
@[simp] theorem ze108 : zeroT Try.prog 108 = some (.nilf) := by kernel_rfl
attribute [simp] Try.underlying108
@[simp] theorem sz109 : szT Try.prog 109 = some 1 := by kernel_rfl
@[simp] theorem by109 : bytesT Try.prog 109 = some 8 := by kernel_rfl
@[simp] theorem ag109 : aggT Try.prog 109 = some false := by kernel_rfl
@[simp] theorem ze109 : zeroT Try.prog 109 = some (.nilf) := by kernel_rfl
attribute [simp] Try.underlying109
@[simp] theorem sz110 : szT Try.prog 110 = some 1 := by kernel_rfl
@[simp] theorem by110 : bytesT Try.prog 110 = some 8 := by kernel_rfl
@[simp] theorem ag110 : aggT Try.prog 110 = some false := by kernel_rfl
@[simp] theorem ze110 : zeroT Try.prog 110 = some (.nilf) := by kernel_rfl
attribute [simp] Try.underlying110
@[simp] theorem sz111 : szT Try.prog 111 = some 1 := by kernel_rfl
@[simp] theorem by111 : bytesT Try.prog 111 = some 8 := by kernel_rfl
@[simp] theorem ag111 : aggT Try.prog 111 = some false := by kernel_rfl
@[simp] theorem ze111 : zeroT Try.prog 111 = some (.nilf) := by kernel_rfl
attribute [simp] Try.underlying111
@[simp] theorem sz113 : szT Try.prog 113 = some 1 := by kernel_rfl
@[simp] theorem by113 : bytesT Try.prog 113 = some 8 := by kernel_rfl
@[simp] theorem ag113 : aggT Try.prog 113 = some false := by kernel_rfl
@[simp] theorem ze113 : zeroT Try.prog 113 = some (.nilf) := by kernel_rfl
attribute [simp] Try.underlying113
@[simp] theorem sz114 : szT Try.prog 114 = some 1 := by kernel_rfl
@[simp] theorem by114 : bytesT Try.prog 114 = some 8 := by kernel_rfl
@[simp] theorem ag114 : aggT Try.prog 114 = some false := by kernel_rfl
@[simp] theorem ze114 : zeroT Try.prog 114 = some (.int .i64 0) := by kernel_rfl
attribute [simp] Try.underlying114
@[simp] theorem sz116 : szT Try.prog 116 = some 1 := by kernel_rfl
@[simp] theorem by116 : bytesT Try.prog 116 = some 8 := by kernel_rfl
@[simp] theorem ag116 : aggT Try.prog 116 = some false := by kernel_rfl
@[simp] theorem ze116 : zeroT Try.prog 116 = some (.nilf) := by kernel_rfl
attribute [simp] Try.underlying116
@[simp] theorem sz117 : szT Try.prog 117 = some 1 := by kernel_rfl
@[simp] theorem by117 : bytesT Try.prog 117 = some 8 := by kernel_rfl
@[simp] theorem ag117 : aggT Try.prog 117 = some false := by kernel_rfl
@[simp] theorem ze117 : zeroT Try.prog 117 = some (.nilf) := by kernel_rfl
attribute [simp] Try.underlying117
@[simp] theorem sz118 : szT Try.prog 118 = some 1 := by kernel_rfl
@[simp] theorem by118 : bytesT Try.prog 118 = some 8 := by kernel_rfl
@[simp] theorem ag118 : aggT Try.prog 118 = some false := by kernel_rfl
@[simp] theorem ze118 : zeroT Try.prog 118 = some (.nilf) := by kernel_rfl
attribute [simp] Try.underlying118
@[simp] theorem sz119 : szT Try.prog 119 = some 1 := by kernel_rfl
@[simp] theorem by119 : bytesT Try.prog 119 = some 8 := by kernel_rfl
@[simp] theorem ag119 : aggT Try.prog 119 = some false := by kernel_rfl
@[simp] theorem ze119 : zeroT Try.prog 119 = some (.nilf) := by kernel_rfl
attribute [simp] Try.underlying119
@[simp] theorem sz121 : szT Try.prog 121 = some 1 := by kernel_rfl
@[simp] theorem by121 : bytesT Try.prog 121 = some 8 := by kernel_rfl
@[simp] theorem ag121 : aggT Try.prog 121 = some false := by kernel_rfl
@[simp] theorem ze121 : zeroT Try.prog 121 = some (.nilf) := by kernel_rfl
attribute [simp] Try.underlying121
@[simp] theorem sz122 : szT Try.prog 122 = some 1 := by kernel_rfl
@[simp] theorem by122 : bytesT Try.prog 122 = some 8 := by kernel_rfl
@[simp] theorem ag122 : aggT Try.prog 122 = some false := by kernel_rfl
@[simp] theorem ze122 : zeroT Try.prog 122 = some (.nilf) := by kernel_rfl
attribute [simp] Try.underlying122
@[simp] theorem sz123 : szT Try.prog 123 = some 1 := by kernel_rfl
@[simp] theorem by123 : bytesT Try.prog 123 = some 4 := by kernel_rfl
@[simp] theorem ag123 : aggT Try.prog 123 = some false := by kernel_rfl
@[simp] theorem ze123 : zeroT Try.prog 123 = some (.int .u32 0) := by kernel_rfl
attribute [simp] Try.underlying123
@[simp] theorem sz124 : szT Try.prog 124 = some 1 := by kernel_rfl
@[simp] theorem by124 : bytesT Try.prog 124 = some 8 := by kernel_rfl
@[simp] theorem ag124 : aggT Try.prog 124 = some false := by kernel_rfl
@[simp] theorem ze124 : zeroT Try.prog 124 = some (.nilf) := by kernel_rfl
attribute [simp] Try.underlying124
@[simp] theorem sz125 : szT Try.prog 125 = some 1 := by kernel_rfl
@[simp] theorem by125 : bytesT Try.prog 125 = some 8 := by kernel_rfl
@[simp] theorem ag125 : aggT Try.prog 125 = some false := by kernel_rfl
@[simp] theorem ze125 : zeroT Try.prog 125 = some (.int .u64 0) := by kernel_rfl
attribute [simp] Try.underlying125
@[simp] theorem sz126 : szT Try.prog 126 = some 1 := by kernel_rfl
@[simp] theorem by126 : bytesT Try.prog 126 = some 8 := by kernel_rfl
@[simp] theorem ag126 : aggT Try.prog 126 = some false := by kernel_rfl
@[simp] theorem ze126 : zeroT Try.prog 126 = some (.nilf) := by kernel_rfl
attribute [simp] Try.underlying126
@[simp] theorem sz127 : szT Try.prog 127 = some 1 := by kernel_rfl
@[simp] theorem by127 : bytesT Try.prog 127 = some 8 := by kernel_rfl
@[simp] theorem ag127 : aggT Try.prog 127 = some false := by kernel_rfl
@[simp] theorem ze127 : zeroT Try.prog 127 = some (.nilf) := by kernel_rfl
attribute [simp] Try.underlying127
@[simp] theorem sz128 : szT Try.prog 128 = some 1 := by kernel_rfl
@[simp] theorem by128 : bytesT Try.prog 128 = some 8 := by kernel_rfl
@[simp] theorem ag128 : aggT Try.prog 128 = some false := by kernel_rfl
@[simp] theorem ze128 : zeroT Try.prog 128 = some (.nilf) := by kernel_rfl
attribute [simp] Try.underlying128
@[simp] theorem sz129 : szT Try.prog 129 = some 1 := by kernel_rfl
@[simp] theorem by129 : bytesT Try.prog 129 = some 8 := by kernel_rfl
@[simp] theorem ag129 : aggT Try.prog 129 = some false := by kernel_rfl
@[simp] theorem ze129 : zeroT Try.prog 129 = some (.nilp) := by kernel_rfl
attribute [simp] Try.underlying129
@[simp] theorem sz130 : szT Try.prog 130 = some 1 := by kernel_rfl
@[simp] theorem by130 : bytesT Try.prog 130 = some 8 := by kernel_rfl
@[simp] theorem ag130 : aggT Try.prog 130 = some false := by kernel_rfl
@[simp] theorem ze130 : zeroT Try.prog 130 = some (.nilf) := by kernel_rfl
attribute [simp] Try.underlying130
@[simp] theorem sz131 : szT Try.prog 131 = some 1 := by kernel_rfl
@[simp] theorem by131 : bytesT Try.prog 131 = some 8 := by kernel_rfl
@[simp] theorem ag131 : aggT Try.prog 131 = some false := by kernel_rfl
@[simp] theorem ze131 : zeroT Try.prog 131 = some (.nilp) := by kernel_rfl
attribute [simp] Try.underlying131
@[simp] theorem sz133 : szT Try.prog 133 = some 1 := by kernel_rfl
@[simp] theorem by133 : bytesT Try.prog 133 = some 8 := by kernel_rfl
@[simp] theorem ag133 : aggT Try.prog 133 = some false := by kernel_rfl
@[simp] theorem ze133 : zeroT Try.prog 133 = some (.nilf) := by kernel_rfl
attribute [simp] Try.underlying133
@[simp] theorem sz134 : szT Try.prog 134 = some 1 := by kernel_rfl
@[simp] theorem by134 : bytesT Try.prog 134 = some 8 := by kernel_rfl
@[simp] theorem ag134 : aggT Try.prog 134 = some false := by kernel_rfl
@[simp] theorem ze134 : zeroT Try.prog 134 = some (.nilf) := by kernel_rfl
attribute [simp] Try.underlying134
@[simp] theorem sz143 : szT Try.prog 143 = some 1 := by kernel_rfl
@[simp] theorem by143 : bytesT Try.prog 143 = some 8 := by kernel_rfl
@[simp] theorem ag143 : aggT Try.prog 143 = some false := by kernel_rfl
@[simp] theorem ze143 : zeroT Try.prog 143 = some (.nilp) := by kernel_rfl
attribute [simp] Try.underlying143
theorem mixed : Try.prog.follows .mixedOrders = true := by kernel_rfl
end Go.Hb
