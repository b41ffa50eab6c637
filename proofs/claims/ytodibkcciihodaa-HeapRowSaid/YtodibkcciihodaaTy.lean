/-
  A layer for reasoning about the program's calls, and contracts of its functions (Ty). CONDITIONS: none; each theorem bears its own.
-/
import Derived.Test.YtodibkcciihodaaProg
import Derived.Test.YtodibkcciihodaaL5
set_option linter.unusedVariables false
set_option linter.unusedSimpArgs false
namespace Go.Hb
open Go Go.Proofs
@[simp] theorem sz1 : szT Try.prog 1 = some 1 := by kernel_rfl
@[simp] theorem by1 : bytesT Try.prog 1 = some 8 := by kernel_rfl
@[simp] theorem ag1 : aggT Try.prog 1 = some false := by kernel_rfl
@[simp] theorem ze1 : zeroT Try.prog 1 = some (.nilf) := by kernel_rfl
attribute [simp] Try.underlying1
@[simp] theorem sz2 : szT Try.prog 2 = some 1 := by kernel_rfl
@[simp] theorem by2 : bytesT Try.prog 2 = some 8 := by kernel_rfl
@[simp] theorem ag2 : aggT Try.prog 2 = some false := by kernel_rfl
@[simp] theorem ze2 : zeroT Try.prog 2 = some (.int .i64 0) := by kernel_rfl
attribute [simp] Try.underlying2
@[simp] theorem sz3 : szT Try.prog 3 = some 1 := by kernel_rfl
@[simp] theorem by3 : bytesT Try.prog 3 = some 8 := by kernel_rfl
@[simp] theorem ag3 : aggT Try.prog 3 = some false := by kernel_rfl
@[simp] theorem ze3 : zeroT Try.prog 3 = some (.int .i64 0) := by kernel_rfl
attribute [simp] Try.underlying3
@[simp] theorem sz4 : szT Try.prog 4 = some 1 := by kernel_rfl
@[simp] theorem by4 : bytesT Try.prog 4 = some 1 := by kernel_rfl
@[simp] theorem ag4 : aggT Try.prog 4 = some false := by kernel_rfl
@[simp] theorem ze4 : zeroT Try.prog 4 = some (.bool false) := by kernel_rfl
attribute [simp] Try.underlying4
@[simp] theorem sz5 : szT Try.prog 5 = some 1 := by kernel_rfl
@[simp] theorem by5 : bytesT Try.prog 5 = some 1 := by kernel_rfl
@[simp] theorem ag5 : aggT Try.prog 5 = some false := by kernel_rfl
@[simp] theorem ze5 : zeroT Try.prog 5 = some (.int .u8 0) := by kernel_rfl
attribute [simp] Try.underlying5
@[simp] theorem sz9 : szT Try.prog 9 = some 1 := by kernel_rfl
@[simp] theorem by9 : bytesT Try.prog 9 = some 16 := by kernel_rfl
@[simp] theorem ag9 : aggT Try.prog 9 = some false := by kernel_rfl
@[simp] theorem ze9 : zeroT Try.prog 9 = some (.str .empty) := by kernel_rfl
attribute [simp] Try.underlying9
@[simp] theorem sz12 : szT Try.prog 12 = some 1 := by kernel_rfl
@[simp] theorem by12 : bytesT Try.prog 12 = some 8 := by kernel_rfl
@[simp] theorem ag12 : aggT Try.prog 12 = some false := by kernel_rfl
@[simp] theorem ze12 : zeroT Try.prog 12 = some (.int .u64 0) := by kernel_rfl
attribute [simp] Try.underlying12
@[simp] theorem sz13 : szT Try.prog 13 = some 2 := by kernel_rfl
@[simp] theorem by13 : bytesT Try.prog 13 = some 24 := by kernel_rfl
@[simp] theorem ag13 : aggT Try.prog 13 = some true := by kernel_rfl
@[simp] theorem ze13 : zeroT Try.prog 13 = some (.agg [.str .empty, .int .u64 0]) := by kernel_rfl
@[simp] theorem fl13_0 : fldT Try.prog 13 0 = some ⟨"msg", 9, 0, false, "", "runtime", 0⟩ := by kernel_rfl
@[simp] theorem fl13_1 : fldT Try.prog 13 1 = some ⟨"addr", 12, 1, false, "", "runtime", 16⟩ := by kernel_rfl
attribute [simp] Try.underlying13
@[simp] theorem sz21 : szT Try.prog 21 = some 1 := by kernel_rfl
@[simp] theorem by21 : bytesT Try.prog 21 = some 4 := by kernel_rfl
@[simp] theorem ag21 : aggT Try.prog 21 = some false := by kernel_rfl
@[simp] theorem ze21 : zeroT Try.prog 21 = some (.int .i32 0) := by kernel_rfl
attribute [simp] Try.underlying21
@[simp] theorem sz22 : szT Try.prog 22 = some 1 := by kernel_rfl
@[simp] theorem by22 : bytesT Try.prog 22 = some 24 := by kernel_rfl
@[simp] theorem ag22 : aggT Try.prog 22 = some false := by kernel_rfl
@[simp] theorem ze22 : zeroT Try.prog 22 = some (.nils) := by kernel_rfl
attribute [simp] Try.underlying22
@[simp] theorem sz23 : szT Try.prog 23 = some 1 := by kernel_rfl
@[simp] theorem by23 : bytesT Try.prog 23 = some 8 := by kernel_rfl
@[simp] theorem ag23 : aggT Try.prog 23 = some false := by kernel_rfl
@[simp] theorem ze23 : zeroT Try.prog 23 = some (.nilp) := by kernel_rfl
attribute [simp] Try.underlying23
@[simp] theorem sz24 : szT Try.prog 24 = some 1 := by kernel_rfl
@[simp] theorem by24 : bytesT Try.prog 24 = some 8 := by kernel_rfl
@[simp] theorem ag24 : aggT Try.prog 24 = some false := by kernel_rfl
@[simp] theorem ze24 : zeroT Try.prog 24 = some (.nilf) := by kernel_rfl
attribute [simp] Try.underlying24
@[simp] theorem sz25 : szT Try.prog 25 = some 1 := by kernel_rfl
@[simp] theorem by25 : bytesT Try.prog 25 = some 24 := by kernel_rfl
@[simp] theorem ag25 : aggT Try.prog 25 = some false := by kernel_rfl
@[simp] theorem ze25 : zeroT Try.prog 25 = some (.nils) := by kernel_rfl
attribute [simp] Try.underlying25
@[simp] theorem sz26 : szT Try.prog 26 = some 1 := by kernel_rfl
@[simp] theorem by26 : bytesT Try.prog 26 = some 8 := by kernel_rfl
@[simp] theorem ag26 : aggT Try.prog 26 = some false := by kernel_rfl
@[simp] theorem ze26 : zeroT Try.prog 26 = some (.nilf) := by kernel_rfl
attribute [simp] Try.underlying26
@[simp] theorem sz27 : szT Try.prog 27 = some 1 := by kernel_rfl
@[simp] theorem by27 : bytesT Try.prog 27 = some 8 := by kernel_rfl
@[simp] theorem ag27 : aggT Try.prog 27 = some false := by kernel_rfl
@[simp] theorem ze27 : zeroT Try.prog 27 = some (.nilf) := by kernel_rfl
attribute [simp] Try.underlying27
@[simp] theorem sz29 : szT Try.prog 29 = some 1 := by kernel_rfl
@[simp] theorem by29 : bytesT Try.prog 29 = some 8 := by kernel_rfl
@[simp] theorem ag29 : aggT Try.prog 29 = some false := by kernel_rfl
@[simp] theorem ze29 : zeroT Try.prog 29 = some (.nilf) := by kernel_rfl
attribute [simp] Try.underlying29
@[simp] theorem sz30 : szT Try.prog 30 = some 1 := by kernel_rfl
@[simp] theorem by30 : bytesT Try.prog 30 = some 8 := by kernel_rfl
@[simp] theorem ag30 : aggT Try.prog 30 = some false := by kernel_rfl
@[simp] theorem ze30 : zeroT Try.prog 30 = some (.nilf) := by kernel_rfl
attribute [simp] Try.underlying30
@[simp] theorem sz32 : szT Try.prog 32 = some 1 := by kernel_rfl
@[simp] theorem by32 : bytesT Try.prog 32 = some 8 := by kernel_rfl
@[simp] theorem ag32 : aggT Try.prog 32 = some false := by kernel_rfl
@[simp] theorem ze32 : zeroT Try.prog 32 = some (.nilf) := by kernel_rfl
attribute [simp] Try.underlying32
@[simp] theorem sz33 : szT Try.prog 33 = some 1 := by kernel_rfl
@[simp] theorem by33 : bytesT Try.prog 33 = some 8 := by kernel_rfl
@[simp] theorem ag33 : aggT Try.prog 33 = some false := by kernel_rfl
@[simp] theorem ze33 : zeroT Try.prog 33 = some (.nilf) := by kernel_rfl
attribute [simp] Try.underlying33
@[simp] theorem sz34 : szT Try.prog 34 = some 1 := by kernel_rfl
@[simp] theorem by34 : bytesT Try.prog 34 = some 8 := by kernel_rfl
@[simp] theorem ag34 : aggT Try.prog 34 = some false := by kernel_rfl
@[simp] theorem ze34 : zeroT Try.prog 34 = some (.nilf) := by kernel_rfl
attribute [simp] Try.underlying34
@[simp] theorem sz35 : szT Try.prog 35 = some 1 := by kernel_rfl
@[simp] theorem by35 : bytesT Try.prog 35 = some 8 := by kernel_rfl
@[simp] theorem ag35 : aggT Try.prog 35 = some false := by kernel_rfl
@[simp] theorem ze35 : zeroT Try.prog 35 = some (.nilf) := by kernel_rfl
attribute [simp] Try.underlying35
@[simp] theorem sz36 : szT Try.prog 36 = some 1 := by kernel_rfl
@[simp] theorem by36 : bytesT Try.prog 36 = some 8 := by kernel_rfl
@[simp] theorem ag36 : aggT Try.prog 36 = some false := by kernel_rfl
@[simp] theorem ze36 : zeroT Try.prog 36 = some (.nilf) := by kernel_rfl
attribute [simp] Try.underlying36
@[simp] theorem sz37 : szT Try.prog 37 = some 1 := by kernel_rfl
@[simp] theorem by37 : bytesT Try.prog 37 = some 8 := by kernel_rfl
@[simp] theorem ag37 : aggT Try.prog 37 = some false := by kernel_rfl
@[simp] theorem ze37 : zeroT Try.prog 37 = some (.nilf) := by kernel_rfl
attribute [simp] Try.underlying37
@[simp] theorem sz38 : szT Try.prog 38 = some 1 := by kernel_rfl
@[simp] theorem by38 : bytesT Try.prog 38 = some 8 := by kernel_rfl
@[simp] theorem ag38 : aggT Try.prog 38 = some false := by kernel_rfl
@[simp] theorem ze38 : zeroT Try.prog 38 = some (.nilf) := by kernel_rfl
attribute [simp] Try.underlying38
@[simp] theorem sz39 : szT Try.prog 39 = some 1 := by kernel_rfl
@[simp] theorem by39 : bytesT Try.prog 39 = some 24 := by kernel_rfl
@[simp] theorem ag39 : aggT Try.prog 39 = some false := by kernel_rfl
@[simp] theorem ze39 : zeroT Try.prog 39 = some (.nils) := by kernel_rfl
attribute [simp] Try.underlying39
@[simp] theorem sz40 : szT Try.prog 40 = some 3 := by kernel_rfl
@[simp] theorem by40 : bytesT Try.prog 40 = some 24 := by kernel_rfl
@[simp] theorem ag40 : aggT Try.prog 40 = some true := by kernel_rfl
@[simp] theorem ze40 : zeroT Try.prog 40 = some (.agg [.int .i64 0, .int .i64 0, .int .i64 0]) := by kernel_rfl
@[simp] theorem fl40_0 : fldT Try.prog 40 0 = some ⟨"Kind", 3, 0, false, "", "", 0⟩ := by kernel_rfl
@[simp] theorem fl40_1 : fldT Try.prog 40 1 = some ⟨"Key", 3, 1, false, "", "", 8⟩ := by kernel_rfl
@[simp] theorem fl40_2 : fldT Try.prog 40 2 = some ⟨"At", 3, 2, false, "", "", 16⟩ := by kernel_rfl
attribute [simp] Try.underlying40
@[simp] theorem sz41 : szT Try.prog 41 = some 3 := by kernel_rfl
@[simp] theorem by41 : bytesT Try.prog 41 = some 24 := by kernel_rfl
@[simp] theorem ag41 : aggT Try.prog 41 = some true := by kernel_rfl
@[simp] theorem ze41 : zeroT Try.prog 41 = some (.agg [.int .i64 0, .int .i64 0, .int .i64 0]) := by kernel_rfl
@[simp] theorem fl41_0 : fldT Try.prog 41 0 = some ⟨"Kind", 3, 0, false, "", "", 0⟩ := by kernel_rfl
@[simp] theorem fl41_1 : fldT Try.prog 41 1 = some ⟨"Key", 3, 1, false, "", "", 8⟩ := by kernel_rfl
@[simp] theorem fl41_2 : fldT Try.prog 41 2 = some ⟨"At", 3, 2, false, "", "", 16⟩ := by kernel_rfl
attribute [simp] Try.underlying41
@[simp] theorem sz43 : szT Try.prog 43 = some 1 := by kernel_rfl
@[simp] theorem by43 : bytesT Try.prog 43 = some 8 := by kernel_rfl
@[simp] theorem ag43 : aggT Try.prog 43 = some false := by kernel_rfl
@[simp] theorem ze43 : zeroT Try.prog 43 = some (.nilf) := by kernel_rfl
attribute [simp] Try.underlying43
@[simp] theorem sz44 : szT Try.prog 44 = some 1 := by kernel_rfl
@[simp] theorem by44 : bytesT Try.prog 44 = some 8 := by kernel_rfl
@[simp] theorem ag44 : aggT Try.prog 44 = some false := by kernel_rfl
@[simp] theorem ze44 : zeroT Try.prog 44 = some (.nilf) := by kernel_rfl
attribute [simp] Try.underlying44
@[simp] theorem sz45 : szT Try.prog 45 = some 1 := by kernel_rfl
@[simp] theorem by45 : bytesT Try.prog 45 = some 8 := by kernel_rfl
@[simp] theorem ag45 : aggT Try.prog 45 = some false := by kernel_rfl
@[simp] theorem ze45 : zeroT Try.prog 45 = some (.nilf) := by kernel_rfl
attribute [simp] Try.underlying45
@[simp] theorem sz46 : szT Try.prog 46 = some 1 := by kernel_rfl
@[simp] theorem by46 : bytesT Try.prog 46 = some 8 := by kernel_rfl
@[simp] theorem ag46 : aggT Try.prog 46 = some false := by kernel_rfl
@[simp] theorem ze46 : zeroT Try.prog 46 = some (.nilf) := by kernel_rfl
attribute [simp] Try.underlying46
@[simp] theorem sz47 : szT Try.prog 47 = some 1 := by kernel_rfl
@[simp] theorem by47 : bytesT Try.prog 47 = some 8 := by kernel_rfl
@[simp] theorem ag47 : aggT Try.prog 47 = some false := by kernel_rfl
@[simp] theorem ze47 : zeroT Try.prog 47 = some (.nilf) := by kernel_rfl
attribute [simp] Try.underlying47
@[simp] theorem sz49 : szT Try.prog 49 = some 1 := by kernel_rfl
@[simp] theorem by49 : bytesT Try.prog 49 = some 8 := by kernel_rfl
@[simp] theorem ag49 : aggT Try.prog 49 = some false := by kernel_rfl
@[simp] theorem ze49 : zeroT Try.prog 49 = some (.nilf) := by kernel_rfl
attribute [simp] Try.underlying49
@[simp] theorem sz50 : szT Try.prog 50 = some 2 := by kernel_rfl
@[simp] theorem by50 : bytesT Try.prog 50 = some 16 := by kernel_rfl
@[simp] theorem ag50 : aggT Try.prog 50 = some true := by kernel_rfl
@[simp] theorem ze50 : zeroT Try.prog 50 = some (.agg [.int .i64 0, .int .i64 0]) := by kernel_rfl
@[simp] theorem fl50_0 : fldT Try.prog 50 0 = some ⟨"Key", 3, 0, false, "", "", 0⟩ := by kernel_rfl
@[simp] theorem fl50_1 : fldT Try.prog 50 1 = some ⟨"At", 3, 1, false, "", "", 8⟩ := by kernel_rfl
attribute [simp] Try.underlying50
@[simp] theorem sz51 : szT Try.prog 51 = some 2 := by kernel_rfl
@[simp] theorem by51 : bytesT Try.prog 51 = some 16 := by kernel_rfl
@[simp] theorem ag51 : aggT Try.prog 51 = some true := by kernel_rfl
@[simp] theorem ze51 : zeroT Try.prog 51 = some (.agg [.int .i64 0, .int .i64 0]) := by kernel_rfl
@[simp] theorem fl51_0 : fldT Try.prog 51 0 = some ⟨"Key", 3, 0, false, "", "", 0⟩ := by kernel_rfl
@[simp] theorem fl51_1 : fldT Try.prog 51 1 = some ⟨"At", 3, 1, false, "", "", 8⟩ := by kernel_rfl
attribute [simp] Try.underlying51
@[simp] theorem sz52 : szT Try.prog 52 = some 1 := by kernel_rfl
@[simp] theorem by52 : bytesT Try.prog 52 = some 8 := by kernel_rfl
@[simp] theorem ag52 : aggT Try.prog 52 = some false := by kernel_rfl
@[simp] theorem ze52 : zeroT Try.prog 52 = some (.nilf) := by kernel_rfl
attribute [simp] Try.underlying52
@[simp] theorem sz53 : szT Try.prog 53 = some 1 := by kernel_rfl
@[simp] theorem by53 : bytesT Try.prog 53 = some 8 := by kernel_rfl
@[simp] theorem ag53 : aggT Try.prog 53 = some false := by kernel_rfl
@[simp] theorem ze53 : zeroT Try.prog 53 = some (.nilm) := by kernel_rfl
attribute [simp] Try.underlying53
@[simp] theorem sz54 : szT Try.prog 54 = some 1 := by kernel_rfl
@[simp] theorem by54 : bytesT Try.prog 54 = some 24 := by kernel_rfl
@[simp] theorem ag54 : aggT Try.prog 54 = some false := by kernel_rfl
@[simp] theorem ze54 : zeroT Try.prog 54 = some (.nils) := by kernel_rfl
attribute [simp] Try.underlying54
@[simp] theorem sz55 : szT Try.prog 55 = some 3 := by kernel_rfl
@[simp] theorem by55 : bytesT Try.prog 55 = some 40 := by kernel_rfl
@[simp] theorem ag55 : aggT Try.prog 55 = some true := by kernel_rfl
@[simp] theorem ze55 : zeroT Try.prog 55 = some (.agg [.nils, .nilm, .int .i64 0]) := by kernel_rfl
@[simp] theorem fl55_0 : fldT Try.prog 55 0 = some ⟨"l", 54, 0, false, "", "hibernacle/heap", 0⟩ := by kernel_rfl
@[simp] theorem fl55_1 : fldT Try.prog 55 1 = some ⟨"where", 53, 1, false, "", "hibernacle/heap", 24⟩ := by kernel_rfl
@[simp] theorem fl55_2 : fldT Try.prog 55 2 = some ⟨"steps", 3, 2, false, "", "hibernacle/heap", 32⟩ := by kernel_rfl
attribute [simp] Try.underlying55
@[simp] theorem sz56 : szT Try.prog 56 = some 3 := by kernel_rfl
@[simp] theorem by56 : bytesT Try.prog 56 = some 40 := by kernel_rfl
@[simp] theorem ag56 : aggT Try.prog 56 = some true := by kernel_rfl
@[simp] theorem ze56 : zeroT Try.prog 56 = some (.agg [.nils, .nilm, .int .i64 0]) := by kernel_rfl
@[simp] theorem fl56_0 : fldT Try.prog 56 0 = some ⟨"l", 54, 0, false, "", "hibernacle/heap", 0⟩ := by kernel_rfl
@[simp] theorem fl56_1 : fldT Try.prog 56 1 = some ⟨"where", 53, 1, false, "", "hibernacle/heap", 24⟩ := by kernel_rfl
@[simp] theorem fl56_2 : fldT Try.prog 56 2 = some ⟨"steps", 3, 2, false, "", "hibernacle/heap", 32⟩ := by kernel_rfl
attribute [simp] Try.underlying56
@[simp] theorem sz57 : szT Try.prog 57 = some 2 := by kernel_rfl
@[simp] theorem by57 : bytesT Try.prog 57 = some 16 := by kernel_rfl
@[simp] theorem ag57 : aggT Try.prog 57 = some true := by kernel_rfl
@[simp] theorem ze57 : zeroT Try.prog 57 = some (.agg [.int .i64 0, .int .i64 0]) := by kernel_rfl
@[simp] theorem fl57_0 : fldT Try.prog 57 0 = some ⟨"at", 3, 0, false, "", "hibernacle/heap", 0⟩ := by kernel_rfl
@[simp] theorem fl57_1 : fldT Try.prog 57 1 = some ⟨"key", 3, 1, false, "", "hibernacle/heap", 8⟩ := by kernel_rfl
attribute [simp] Try.underlying57
@[simp] theorem sz58 : szT Try.prog 58 = some 2 := by kernel_rfl
@[simp] theorem by58 : bytesT Try.prog 58 = some 16 := by kernel_rfl
@[simp] theorem ag58 : aggT Try.prog 58 = some true := by kernel_rfl
@[simp] theorem ze58 : zeroT Try.prog 58 = some (.agg [.int .i64 0, .int .i64 0]) := by kernel_rfl
@[simp] theorem fl58_0 : fldT Try.prog 58 0 = some ⟨"at", 3, 0, false, "", "hibernacle/heap", 0⟩ := by kernel_rfl
@[simp] theorem fl58_1 : fldT Try.prog 58 1 = some ⟨"key", 3, 1, false, "", "hibernacle/heap", 8⟩ := by kernel_rfl
attribute [simp] Try.underlying58
@[simp] theorem sz59 : szT Try.prog 59 = some 1 := by kernel_rfl
@[simp] theorem by59 : bytesT Try.prog 59 = some 8 := by kernel_rfl
@[simp] theorem ag59 : aggT Try.prog 59 = some false := by kernel_rfl
@[simp] theorem ze59 : zeroT Try.prog 59 = some (.nilf) := by kernel_rfl
attribute [simp] Try.underlying59
@[simp] theorem sz60 : szT Try.prog 60 = some 1 := by kernel_rfl
@[simp] theorem by60 : bytesT Try.prog 60 = some 8 := by kernel_rfl
@[simp] theorem ag60 : aggT Try.prog 60 = some false := by kernel_rfl
@[simp] theorem ze60 : zeroT Try.prog 60 = some (.nilf) := by kernel_rfl
attribute [simp] Try.underlying60
@[simp] theorem sz61 : szT Try.prog 61 = some 1 := by kernel_rfl
@[simp] theorem by61 : bytesT Try.prog 61 = some 8 := by kernel_rfl
@[simp] theorem ag61 : aggT Try.prog 61 = some false := by kernel_rfl
@[simp] theorem ze61 : zeroT Try.prog 61 = some (.nilf) := by kernel_rfl
attribute [simp] Try.underlying61
@[simp] theorem sz62 : szT Try.prog 62 = some 1 := by kernel_rfl
@[simp] theorem by62 : bytesT Try.prog 62 = some 8 := by kernel_rfl
@[simp] theorem ag62 : aggT Try.prog 62 = some false := by kernel_rfl
@[simp] theorem ze62 : zeroT Try.prog 62 = some (.nilf) := by kernel_rfl
attribute [simp] Try.underlying62
@[simp] theorem sz63 : szT Try.prog 63 = some 1 := by kernel_rfl
@[simp] theorem by63 : bytesT Try.prog 63 = some 8 := by kernel_rfl
@[simp] theorem ag63 : aggT Try.prog 63 = some false := by kernel_rfl
@[simp] theorem ze63 : zeroT Try.prog 63 = some (.nilf) := by kernel_rfl
attribute [simp] Try.underlying63
@[simp] theorem sz64 : szT Try.prog 64 = some 1 := by kernel_rfl
@[simp] theorem by64 : bytesT Try.prog 64 = some 8 := by kernel_rfl
@[simp] theorem ag64 : aggT Try.prog 64 = some false := by kernel_rfl
@[simp] theorem ze64 : zeroT Try.prog 64 = some (.nilf) := by kernel_rfl
attribute [simp] Try.underlying64
@[simp] theorem sz65 : szT Try.prog 65 = some 1 := by kernel_rfl
@[simp] theorem by65 : bytesT Try.prog 65 = some 8 := by kernel_rfl
@[simp] theorem ag65 : aggT Try.prog 65 = some false := by kernel_rfl
@[simp] theorem ze65 : zeroT Try.prog 65 = some (.nilf) := by kernel_rfl
attribute [simp] Try.underlying65
@[simp] theorem sz66 : szT Try.prog 66 = some 1 := by kernel_rfl
@[simp] theorem by66 : bytesT Try.prog 66 = some 8 := by kernel_rfl
@[simp] theorem ag66 : aggT Try.prog 66 = some false := by kernel_rfl
@[simp] theorem ze66 : zeroT Try.prog 66 = some (.nilf) := by kernel_rfl
attribute [simp] Try.underlying66
@[simp] theorem sz67 : szT Try.prog 67 = some 1 := by kernel_rfl
@[simp] theorem by67 : bytesT Try.prog 67 = some 8 := by kernel_rfl
@[simp] theorem ag67 : aggT Try.prog 67 = some false := by kernel_rfl
@[simp] theorem ze67 : zeroT Try.prog 67 = some (.nilf) := by kernel_rfl
attribute [simp] Try.underlying67
@[simp] theorem sz68 : szT Try.prog 68 = some 1 := by kernel_rfl
@[simp] theorem by68 : bytesT Try.prog 68 = some 8 := by kernel_rfl
@[simp] theorem ag68 : aggT Try.prog 68 = some false := by kernel_rfl
@[simp] theorem ze68 : zeroT Try.prog 68 = some (.nilf) := by kernel_rfl
attribute [simp] Try.underlying68
@[simp] theorem sz69 : szT Try.prog 69 = some 1 := by kernel_rfl
@[simp] theorem by69 : bytesT Try.prog 69 = some 8 := by kernel_rfl
@[simp] theorem ag69 : aggT Try.prog 69 = some false := by kernel_rfl
@[simp] theorem ze69 : zeroT Try.prog 69 = some (.nilf) := by kernel_rfl
attribute [simp] Try.underlying69
@[simp] theorem sz70 : szT Try.prog 70 = some 1 := by kernel_rfl
@[simp] theorem by70 : bytesT Try.prog 70 = some 8 := by kernel_rfl
@[simp] theorem ag70 : aggT Try.prog 70 = some false := by kernel_rfl
@[simp] theorem ze70 : zeroT Try.prog 70 = some (.nilf) := by kernel_rfl
attribute [simp] Try.underlying70
@[simp] theorem sz71 : szT Try.prog 71 = some 1 := by kernel_rfl
@[simp] theorem by71 : bytesT Try.prog 71 = some 8 := by kernel_rfl
@[simp] theorem ag71 : aggT Try.prog 71 = some false := by kernel_rfl
@[simp] theorem ze71 : zeroT Try.prog 71 = some (.nilf) := by kernel_rfl
attribute [simp] Try.underlying71
@[simp] theorem sz72 : szT Try.prog 72 = some 1 := by kernel_rfl
@[simp] theorem by72 : bytesT Try.prog 72 = some 8 := by kernel_rfl
@[simp] theorem ag72 : aggT Try.prog 72 = some false := by kernel_rfl
@[simp] theorem ze72 : zeroT Try.prog 72 = some (.nilf) := by kernel_rfl
attribute [simp] Try.underlying72
@[simp] theorem sz73 : szT Try.prog 73 = some 1 := by kernel_rfl
@[simp] theorem by73 : bytesT Try.prog 73 = some 8 := by kernel_rfl
@[simp] theorem ag73 : aggT Try.prog 73 = some false := by kernel_rfl
@[simp] theorem ze73 : zeroT Try.prog 73 = some (.nilf) := by kernel_rfl
attribute [simp] Try.underlying73
@[simp] theorem sz74 : szT Try.prog 74 = some 1 := by kernel_rfl
@[simp] theorem by74 : bytesT Try.prog 74 = some 8 := by kernel_rfl
@[simp] theorem ag74 : aggT Try.prog 74 = some false := by kernel_rfl
@[simp] theorem ze74 : zeroT Try.prog 74 = some (.int .u64 0) := by kernel_rfl
attribute [simp] Try.underlying74
@[simp] theorem sz75 : szT Try.prog 75 = some 1 := by kernel_rfl
@[simp] theorem by75 : bytesT Try.prog 75 = some 8 := by kernel_rfl
@[simp] theorem ag75 : aggT Try.prog 75 = some false := by kernel_rfl
@[simp] theorem ze75 : zeroT Try.prog 75 = some (.nilf) := by kernel_rfl
attribute [simp] Try.underlying75
@[simp] theorem sz76 : szT Try.prog 76 = some 1 := by kernel_rfl
@[simp] theorem by76 : bytesT Try.prog 76 = some 8 := by kernel_rfl
@[simp] theorem ag76 : aggT Try.prog 76 = some false := by kernel_rfl
@[simp] theorem ze76 : zeroT Try.prog 76 = some (.int .i64 0) := by kernel_rfl
attribute [simp] Try.underlying76
@[simp] theorem sz78 : szT Try.prog 78 = some 1 := by kernel_rfl
@[simp] theorem by78 : bytesT Try.prog 78 = some 8 := by kernel_rfl
@[simp] theorem ag78 : aggT Try.prog 78 = some false := by kernel_rfl
@[simp] theorem ze78 : zeroT Try.prog 78 = some (.nilf) := by kernel_rfl
attribute [simp] Try.underlying78
@[simp] theorem sz79 : szT Try.prog 79 = some 1 := by kernel_rfl
@[simp] theorem by79 : bytesT Try.prog 79 = some 8 := by kernel_rfl
@[simp] theorem ag79 : aggT Try.prog 79 = some false := by kernel_rfl
@[simp] theorem ze79 : zeroT Try.prog 79 = some (.nilf) := by kernel_rfl
attribute [simp] Try.underlying79
@[simp] theorem sz80 : szT Try.prog 80 = some 1 := by kernel_rfl
@[simp] theorem by80 : bytesT Try.prog 80 = some 8 := by kernel_rfl
@[simp] theorem ag80 : aggT Try.prog 80 = some false := by kernel_rfl
@[simp] theorem ze80 : zeroT Try.prog 80 = some (.nilf) := by kernel_rfl
attribute [simp] Try.underlying80
@[simp] theorem sz81 : szT Try.prog 81 = some 1 := by kernel_rfl
@[simp] theorem by81 : bytesT Try.prog 81 = some 8 := by kernel_rfl
@[simp] theorem ag81 : aggT Try.prog 81 = some false := by kernel_rfl
@[simp] theorem ze81 : zeroT Try.prog 81 = some (.nilf) := by kernel_rfl
attribute [simp] Try.underlying81
@[simp] theorem sz82 : szT Try.prog 82 = some 1 := by kernel_rfl
@[simp] theorem by82 : bytesT Try.prog 82 = some 8 := by kernel_rfl
@[simp] theorem ag82 : aggT Try.prog 82 = some false := by kernel_rfl
@[simp] theorem ze82 : zeroT Try.prog 82 = some (.nilf) := by kernel_rfl
attribute [simp] Try.underlying82
@[simp] theorem sz83 : szT Try.prog 83 = some 1 := by kernel_rfl
@[simp] theorem by83 : bytesT Try.prog 83 = some 4 := by kernel_rfl
@[simp] theorem ag83 : aggT Try.prog 83 = some false := by kernel_rfl
@[simp] theorem ze83 : zeroT Try.prog 83 = some (.int .u32 0) := by kernel_rfl
attribute [simp] Try.underlying83
@[simp] theorem sz84 : szT Try.prog 84 = some 1 := by kernel_rfl
@[simp] theorem by84 : bytesT Try.prog 84 = some 8 := by kernel_rfl
@[simp] theorem ag84 : aggT Try.prog 84 = some false := by kernel_rfl
@[simp] theorem ze84 : zeroT Try.prog 84 = some (.nilf) := by kernel_rfl
attribute [simp] Try.underlying84
@[simp] theorem sz85 : szT Try.prog 85 = some 1 := by kernel_rfl
@[simp] theorem by85 : bytesT Try.prog 85 = some 8 := by kernel_rfl
@[simp] theorem ag85 : aggT Try.prog 85 = some false := by kernel_rfl
@[simp] theorem ze85 : zeroT Try.prog 85 = some (.int .u64 0) := by kernel_rfl
attribute [simp] Try.underlying85
@[simp] theorem sz86 : szT Try.prog 86 = some 1 := by kernel_rfl
@[simp] theorem by86 : bytesT Try.prog 86 = some 8 := by kernel_rfl
@[simp] theorem ag86 : aggT Try.prog 86 = some false := by kernel_rfl
@[simp] theorem ze86 : zeroT Try.prog 86 = some (.int .u64 0) := by kernel_rfl
attribute [simp] Try.underlying86
@[simp] theorem sz87 : szT Try.prog 87 = some 1 := by kernel_rfl
@[simp] theorem by87 : bytesT Try.prog 87 = some 8 := by kernel_rfl
@[simp] theorem ag87 : aggT Try.prog 87 = some false := by kernel_rfl
@[simp] theorem ze87 : zeroT Try.prog 87 = some (.nilf) := by kernel_rfl
attribute [simp] Try.underlying87
@[simp] theorem sz88 : szT Try.prog 88 = some 1 := by kernel_rfl
@[simp] theorem by88 : bytesT Try.prog 88 = some 8 := by kernel_rfl
@[simp] theorem ag88 : aggT Try.prog 88 = some false := by kernel_rfl
@[simp] theorem ze88 : zeroT Try.prog 88 = some (.nilf) := by kernel_rfl
attribute [simp] Try.underlying88
@[simp] theorem sz89 : szT Try.prog 89 = some 1 := by kernel_rfl
@[simp] theorem by89 : bytesT Try.prog 89 = some 8 := by kernel_rfl
@[simp] theorem ag89 : aggT Try.prog 89 = some false := by kernel_rfl
@[simp] theorem ze89 : zeroT Try.prog 89 = some (.nilf) := by kernel_rfl
attribute [simp] Try.underlying89
@[simp] theorem sz90 : szT Try.prog 90 = some 1 := by kernel_rfl
@[simp] theorem by90 : bytesT Try.prog 90 = some 8 := by kernel_rfl
@[simp] theorem ag90 : aggT Try.prog 90 = some false := by kernel_rfl
@[simp] theorem ze90 : zeroT Try.prog 90 = some (.nilp) := by kernel_rfl
attribute [simp] Try.underlying90
@[simp] theorem sz91 : szT Try.prog 91 = some 1 := by kernel_rfl
@[simp] theorem by91 : bytesT Try.prog 91 = some 8 := by kernel_rfl
@[simp] theorem ag91 : aggT Try.prog 91 = some false := by kernel_rfl
@[simp] theorem ze91 : zeroT Try.prog 91 = some (.nilf) := by kernel_rfl
attribute [simp] Try.underlying91
@[simp] theorem sz92 : szT Try.prog 92 = some 1 := by kernel_rfl
@[simp] theorem by92 : bytesT Try.prog 92 = some 8 := by kernel_rfl
@[simp] theorem ag92 : aggT Try.prog 92 = some false := by kernel_rfl
@[simp] theorem ze92 : zeroT Try.prog 92 = some (.nilp) := by kernel_rfl
attribute [simp] Try.underlying92
@[simp] theorem sz94 : szT Try.prog 94 = some 1 := by kernel_rfl
@[simp] theorem by94 : bytesT Try.prog 94 = some 8 := by kernel_rfl
@[simp] theorem ag94 : aggT Try.prog 94 = some false := by kernel_rfl
@[simp] theorem ze94 : zeroT Try.prog 94 = some (.nilf) := by kernel_rfl
attribute [simp] Try.underlying94
@[simp] theorem sz95 : szT Try.prog 95 = some 1 := by kernel_rfl
@[simp] theorem by95 : bytesT Try.prog 95 = some 8 := by kernel_rfl
@[simp] theorem ag95 : aggT Try.prog 95 = some false := by kernel_rfl
@[simp] theorem ze95 : zeroT Try.prog 95 = some (.nilf) := by kernel_rfl
attribute [simp] Try.underlying95
@[simp] theorem sz104 : szT Try.prog 104 = some 1 := by kernel_rfl
@[simp] theorem by104 : bytesT Try.prog 104 = some 8 := by kernel_rfl
@[simp] theorem ag104 : aggT Try.prog 104 = some false := by kernel_rfl
@[simp] theorem ze104 : zeroT Try.prog 104 = some (.nilp) := by kernel_rfl
attribute [simp] Try.underlying104
theorem mixed : Try.prog.follows .mixedOrders = true := by kernel_rfl
end Go.Hb
