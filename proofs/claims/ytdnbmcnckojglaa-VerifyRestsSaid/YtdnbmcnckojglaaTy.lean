/-
  A layer for reasoning about the program's calls, and contracts of its functions (Ty). CONDITIONS: none; each theorem bears its own.
-/
import Derived.Test.YtdnbmcnckojglaaProg
import Derived.Test.YtdnbmcnckojglaaL5
set_option linter.unusedVariables false
set_option linter.unusedSimpArgs false
namespace Go.Hb
open Go Go.Proofs
@[simp] theorem sz3 : szT Try.prog 3 = some 1 := by kernel_rfl
@[simp] theorem by3 : bytesT Try.prog 3 = some 8 := by kernel_rfl
@[simp] theorem ag3 : aggT Try.prog 3 = some false := by kernel_rfl
@[simp] theorem ze3 : zeroT Try.prog 3 = some (.int .i64 0) := by kernel_rfl
attribute [simp] Try.underlying3
@[simp] theorem sz4 : szT Try.prog 4 = some 1 := by kernel_rfl
@[simp] theorem by4 : bytesT Try.prog 4 = some 1 := by kernel_rfl
@[simp] theorem ag4 : aggT Try.prog 4 = some false := by kernel_rfl
@[simp] theorem ze4 : zeroT Try.prog 4 = some (.bool false) := by kernel_rfl
attribute [simp] Try.underlying4
@[simp] theorem sz9 : szT Try.prog 9 = some 1 := by kernel_rfl
@[simp] theorem by9 : bytesT Try.prog 9 = some 16 := by kernel_rfl
@[simp] theorem ag9 : aggT Try.prog 9 = some false := by kernel_rfl
@[simp] theorem ze9 : zeroT Try.prog 9 = some (.str .empty) := by kernel_rfl
attribute [simp] Try.underlying9
@[simp] theorem sz22 : szT Try.prog 22 = some 1 := by kernel_rfl
@[simp] theorem by22 : bytesT Try.prog 22 = some 24 := by kernel_rfl
@[simp] theorem ag22 : aggT Try.prog 22 = some false := by kernel_rfl
@[simp] theorem ze22 : zeroT Try.prog 22 = some (.nils) := by kernel_rfl
attribute [simp] Try.underlying22
@[simp] theorem sz23 : szT Try.prog 23 = some 1 := by kernel_rfl
@[simp] theorem by23 : bytesT Try.prog 23 = some 24 := by kernel_rfl
@[simp] theorem ag23 : aggT Try.prog 23 = some false := by kernel_rfl
@[simp] theorem ze23 : zeroT Try.prog 23 = some (.nils) := by kernel_rfl
attribute [simp] Try.underlying23
@[simp] theorem sz24 : szT Try.prog 24 = some 1 := by kernel_rfl
@[simp] theorem by24 : bytesT Try.prog 24 = some 24 := by kernel_rfl
@[simp] theorem ag24 : aggT Try.prog 24 = some false := by kernel_rfl
@[simp] theorem ze24 : zeroT Try.prog 24 = some (.nils) := by kernel_rfl
attribute [simp] Try.underlying24
@[simp] theorem sz26 : szT Try.prog 26 = some 7 := by kernel_rfl
@[simp] theorem by26 : bytesT Try.prog 26 = some 136 := by kernel_rfl
@[simp] theorem ag26 : aggT Try.prog 26 = some true := by kernel_rfl
@[simp] theorem ze26 : zeroT Try.prog 26 = some (.agg [.nils, .int .i64 0, .nils, .nils, .nils, .nils, .int .i64 0]) := by kernel_rfl
@[simp] theorem pl26_0 : placeT Try.prog 26 0 = some (0, 1) := by kernel_rfl
@[simp] theorem pl26_1 : placeT Try.prog 26 1 = some (1, 1) := by kernel_rfl
@[simp] theorem pl26_2 : placeT Try.prog 26 2 = some (2, 1) := by kernel_rfl
@[simp] theorem pl26_3 : placeT Try.prog 26 3 = some (3, 1) := by kernel_rfl
@[simp] theorem pl26_4 : placeT Try.prog 26 4 = some (4, 1) := by kernel_rfl
@[simp] theorem pl26_5 : placeT Try.prog 26 5 = some (5, 1) := by kernel_rfl
@[simp] theorem pl26_6 : placeT Try.prog 26 6 = some (6, 1) := by kernel_rfl
@[simp] theorem si26 : sizesT Try.prog 26 = true := by kernel_rfl
@[simp] theorem fl26_0 : fldT Try.prog 26 0 = some ⟨"Funcs", 22, 0, false, "", "", 0⟩ := by kernel_rfl
@[simp] theorem fl26_1 : fldT Try.prog 26 1 = some ⟨"Mutexes", 3, 1, false, "", "", 24⟩ := by kernel_rfl
@[simp] theorem fl26_2 : fldT Try.prog 26 2 = some ⟨"Conds", 23, 2, false, "", "", 32⟩ := by kernel_rfl
@[simp] theorem fl26_3 : fldT Try.prog 26 3 = some ⟨"Semas", 23, 3, false, "", "", 56⟩ := by kernel_rfl
@[simp] theorem fl26_4 : fldT Try.prog 26 4 = some ⟨"Chans", 23, 4, false, "", "", 80⟩ := by kernel_rfl
@[simp] theorem fl26_5 : fldT Try.prog 26 5 = some ⟨"Choices", 24, 5, false, "", "", 104⟩ := by kernel_rfl
@[simp] theorem fl26_6 : fldT Try.prog 26 6 = some ⟨"Threads", 3, 6, false, "", "", 128⟩ := by kernel_rfl
attribute [simp] Try.underlying26
@[simp] theorem sz28 : szT Try.prog 28 = some 1 := by kernel_rfl
@[simp] theorem by28 : bytesT Try.prog 28 = some 24 := by kernel_rfl
@[simp] theorem ag28 : aggT Try.prog 28 = some false := by kernel_rfl
@[simp] theorem ze28 : zeroT Try.prog 28 = some (.nils) := by kernel_rfl
attribute [simp] Try.underlying28
@[simp] theorem sz30 : szT Try.prog 30 = some 10 := by kernel_rfl
@[simp] theorem by30 : bytesT Try.prog 30 = some 224 := by kernel_rfl
@[simp] theorem ag30 : aggT Try.prog 30 = some true := by kernel_rfl
@[simp] theorem ze30 : zeroT Try.prog 30 = some (.agg [.int .i64 0, .nils, .nils, .nils, .nils, .nils, .nils, .nils, .nils, .nils]) := by kernel_rfl
@[simp] theorem pl30_0 : placeT Try.prog 30 0 = some (0, 1) := by kernel_rfl
@[simp] theorem pl30_1 : placeT Try.prog 30 1 = some (1, 1) := by kernel_rfl
@[simp] theorem pl30_2 : placeT Try.prog 30 2 = some (2, 1) := by kernel_rfl
@[simp] theorem pl30_3 : placeT Try.prog 30 3 = some (3, 1) := by kernel_rfl
@[simp] theorem pl30_4 : placeT Try.prog 30 4 = some (4, 1) := by kernel_rfl
@[simp] theorem pl30_5 : placeT Try.prog 30 5 = some (5, 1) := by kernel_rfl
@[simp] theorem pl30_6 : placeT Try.prog 30 6 = some (6, 1) := by kernel_rfl
@[simp] theorem pl30_7 : placeT Try.prog 30 7 = some (7, 1) := by kernel_rfl
@[simp] theorem pl30_8 : placeT Try.prog 30 8 = some (8, 1) := by kernel_rfl
@[simp] theorem pl30_9 : placeT Try.prog 30 9 = some (9, 1) := by kernel_rfl
@[simp] theorem si30 : sizesT Try.prog 30 = true := by kernel_rfl
@[simp] theorem fl30_0 : fldT Try.prog 30 0 = some ⟨"Now", 3, 0, false, "", "", 0⟩ := by kernel_rfl
@[simp] theorem fl30_1 : fldT Try.prog 30 1 = some ⟨"Threads", 28, 1, false, "", "", 8⟩ := by kernel_rfl
@[simp] theorem fl30_2 : fldT Try.prog 30 2 = some ⟨"Owners", 23, 2, false, "", "", 32⟩ := by kernel_rfl
@[simp] theorem fl30_3 : fldT Try.prog 30 3 = some ⟨"Counts", 23, 3, false, "", "", 56⟩ := by kernel_rfl
@[simp] theorem fl30_4 : fldT Try.prog 30 4 = some ⟨"Bufs", 24, 4, false, "", "", 80⟩ := by kernel_rfl
@[simp] theorem fl30_5 : fldT Try.prog 30 5 = some ⟨"LockQ", 24, 5, false, "", "", 104⟩ := by kernel_rfl
@[simp] theorem fl30_6 : fldT Try.prog 30 6 = some ⟨"WaitQ", 24, 6, false, "", "", 128⟩ := by kernel_rfl
@[simp] theorem fl30_7 : fldT Try.prog 30 7 = some ⟨"DownQ", 24, 7, false, "", "", 152⟩ := by kernel_rfl
@[simp] theorem fl30_8 : fldT Try.prog 30 8 = some ⟨"SendQ", 24, 8, false, "", "", 176⟩ := by kernel_rfl
@[simp] theorem fl30_9 : fldT Try.prog 30 9 = some ⟨"RecvQ", 24, 9, false, "", "", 200⟩ := by kernel_rfl
attribute [simp] Try.underlying30
@[simp] theorem sz32 : szT Try.prog 32 = some 1 := by kernel_rfl
@[simp] theorem by32 : bytesT Try.prog 32 = some 24 := by kernel_rfl
@[simp] theorem ag32 : aggT Try.prog 32 = some false := by kernel_rfl
@[simp] theorem ze32 : zeroT Try.prog 32 = some (.nils) := by kernel_rfl
attribute [simp] Try.underlying32
@[simp] theorem sz39 : szT Try.prog 39 = some 19 := by kernel_rfl
@[simp] theorem by39 : bytesT Try.prog 39 = some 376 := by kernel_rfl
@[simp] theorem ag39 : aggT Try.prog 39 = some true := by kernel_rfl
@[simp] theorem ze39 : zeroT Try.prog 39 = some (.agg [.int .i64 0, .int .i64 0, .nils, .int .i64 0, .nils, .nils, .nils, .nils, .int .i64 0, .int .i64 0, .nils, .nils, .nils, .nils, .nils, .nils, .nils, .nils, .nils]) := by kernel_rfl
@[simp] theorem pl39_0 : placeT Try.prog 39 0 = some (0, 1) := by kernel_rfl
@[simp] theorem pl39_1 : placeT Try.prog 39 1 = some (1, 1) := by kernel_rfl
@[simp] theorem pl39_2 : placeT Try.prog 39 2 = some (2, 7) := by kernel_rfl
@[simp] theorem pl39_3 : placeT Try.prog 39 3 = some (9, 10) := by kernel_rfl
@[simp] theorem si39 : sizesT Try.prog 39 = true := by kernel_rfl
@[simp] theorem fl39_0 : fldT Try.prog 39 0 = some ⟨"Version", 3, 0, false, "", "", 0⟩ := by kernel_rfl
@[simp] theorem fl39_1 : fldT Try.prog 39 1 = some ⟨"Epoch", 3, 1, false, "", "", 8⟩ := by kernel_rfl
@[simp] theorem fl39_2 : fldT Try.prog 39 2 = some ⟨"Program", 26, 2, false, "", "", 16⟩ := by kernel_rfl
@[simp] theorem fl39_3 : fldT Try.prog 39 3 = some ⟨"Core", 30, 9, false, "", "", 152⟩ := by kernel_rfl
attribute [simp] Try.underlying39
@[simp] theorem sz42 : szT Try.prog 42 = some 1 := by kernel_rfl
@[simp] theorem by42 : bytesT Try.prog 42 = some 24 := by kernel_rfl
@[simp] theorem ag42 : aggT Try.prog 42 = some false := by kernel_rfl
@[simp] theorem ze42 : zeroT Try.prog 42 = some (.nils) := by kernel_rfl
attribute [simp] Try.underlying42
@[simp] theorem sz44 : szT Try.prog 44 = some 5 := by kernel_rfl
@[simp] theorem by44 : bytesT Try.prog 44 = some 72 := by kernel_rfl
@[simp] theorem ag44 : aggT Try.prog 44 = some true := by kernel_rfl
@[simp] theorem ze44 : zeroT Try.prog 44 = some (.agg [.int .i64 0, .int .i64 0, .nils, .nils, .int .i64 0]) := by kernel_rfl
@[simp] theorem pl44_0 : placeT Try.prog 44 0 = some (0, 1) := by kernel_rfl
@[simp] theorem pl44_1 : placeT Try.prog 44 1 = some (1, 1) := by kernel_rfl
@[simp] theorem pl44_2 : placeT Try.prog 44 2 = some (2, 1) := by kernel_rfl
@[simp] theorem pl44_3 : placeT Try.prog 44 3 = some (3, 1) := by kernel_rfl
@[simp] theorem pl44_4 : placeT Try.prog 44 4 = some (4, 1) := by kernel_rfl
@[simp] theorem si44 : sizesT Try.prog 44 = true := by kernel_rfl
@[simp] theorem fl44_0 : fldT Try.prog 44 0 = some ⟨"State", 3, 0, false, "", "", 0⟩ := by kernel_rfl
@[simp] theorem fl44_1 : fldT Try.prog 44 1 = some ⟨"On", 3, 1, false, "", "", 8⟩ := by kernel_rfl
@[simp] theorem fl44_2 : fldT Try.prog 44 2 = some ⟨"Frames", 42, 2, false, "", "", 16⟩ := by kernel_rfl
@[simp] theorem fl44_3 : fldT Try.prog 44 3 = some ⟨"Stack", 23, 3, false, "", "", 40⟩ := by kernel_rfl
@[simp] theorem fl44_4 : fldT Try.prog 44 4 = some ⟨"Code", 3, 4, false, "", "", 64⟩ := by kernel_rfl
attribute [simp] Try.underlying44
@[simp] theorem sz50 : szT Try.prog 50 = some 1 := by kernel_rfl
@[simp] theorem by50 : bytesT Try.prog 50 = some 24 := by kernel_rfl
@[simp] theorem ag50 : aggT Try.prog 50 = some false := by kernel_rfl
@[simp] theorem ze50 : zeroT Try.prog 50 = some (.nils) := by kernel_rfl
attribute [simp] Try.underlying50
@[simp] theorem sz52 : szT Try.prog 52 = some 2 := by kernel_rfl
@[simp] theorem by52 : bytesT Try.prog 52 = some 32 := by kernel_rfl
@[simp] theorem ag52 : aggT Try.prog 52 = some true := by kernel_rfl
@[simp] theorem ze52 : zeroT Try.prog 52 = some (.agg [.int .i64 0, .nils]) := by kernel_rfl
@[simp] theorem pl52_0 : placeT Try.prog 52 0 = some (0, 1) := by kernel_rfl
@[simp] theorem pl52_1 : placeT Try.prog 52 1 = some (1, 1) := by kernel_rfl
@[simp] theorem si52 : sizesT Try.prog 52 = true := by kernel_rfl
@[simp] theorem fl52_0 : fldT Try.prog 52 0 = some ⟨"Locals", 3, 0, false, "", "", 0⟩ := by kernel_rfl
@[simp] theorem fl52_1 : fldT Try.prog 52 1 = some ⟨"Code", 50, 1, false, "", "", 8⟩ := by kernel_rfl
attribute [simp] Try.underlying52
@[simp] theorem sz54 : szT Try.prog 54 = some 2 := by kernel_rfl
@[simp] theorem by54 : bytesT Try.prog 54 = some 16 := by kernel_rfl
@[simp] theorem ag54 : aggT Try.prog 54 = some true := by kernel_rfl
@[simp] theorem ze54 : zeroT Try.prog 54 = some (.agg [.int .i64 0, .int .i64 0]) := by kernel_rfl
@[simp] theorem pl54_0 : placeT Try.prog 54 0 = some (0, 1) := by kernel_rfl
@[simp] theorem pl54_1 : placeT Try.prog 54 1 = some (1, 1) := by kernel_rfl
@[simp] theorem si54 : sizesT Try.prog 54 = true := by kernel_rfl
@[simp] theorem is54 : intStruct Try.prog 54 2 = true := by kernel_rfl
@[simp] theorem fl54_0 : fldT Try.prog 54 0 = some ⟨"Op", 3, 0, false, "", "", 0⟩ := by kernel_rfl
@[simp] theorem fl54_1 : fldT Try.prog 54 1 = some ⟨"A", 3, 1, false, "", "", 8⟩ := by kernel_rfl
attribute [simp] Try.underlying54
@[simp] theorem sz64 : szT Try.prog 64 = some 1 := by kernel_rfl
@[simp] theorem by64 : bytesT Try.prog 64 = some 8 := by kernel_rfl
@[simp] theorem ag64 : aggT Try.prog 64 = some false := by kernel_rfl
@[simp] theorem ze64 : zeroT Try.prog 64 = some (.int .i64 0) := by kernel_rfl
attribute [simp] Try.underlying64
@[simp] theorem sz71 : szT Try.prog 71 = some 1 := by kernel_rfl
@[simp] theorem by71 : bytesT Try.prog 71 = some 8 := by kernel_rfl
@[simp] theorem ag71 : aggT Try.prog 71 = some false := by kernel_rfl
@[simp] theorem ze71 : zeroT Try.prog 71 = some (.nilf) := by kernel_rfl
attribute [simp] Try.underlying71
@[simp] theorem sz73 : szT Try.prog 73 = some 3 := by kernel_rfl
@[simp] theorem by73 : bytesT Try.prog 73 = some 40 := by kernel_rfl
@[simp] theorem ag73 : aggT Try.prog 73 = some true := by kernel_rfl
@[simp] theorem ze73 : zeroT Try.prog 73 = some (.agg [.int .i64 0, .int .i64 0, .nils]) := by kernel_rfl
@[simp] theorem pl73_0 : placeT Try.prog 73 0 = some (0, 1) := by kernel_rfl
@[simp] theorem pl73_1 : placeT Try.prog 73 1 = some (1, 1) := by kernel_rfl
@[simp] theorem pl73_2 : placeT Try.prog 73 2 = some (2, 1) := by kernel_rfl
@[simp] theorem si73 : sizesT Try.prog 73 = true := by kernel_rfl
@[simp] theorem fl73_0 : fldT Try.prog 73 0 = some ⟨"Func", 3, 0, false, "", "", 0⟩ := by kernel_rfl
@[simp] theorem fl73_1 : fldT Try.prog 73 1 = some ⟨"Pc", 3, 1, false, "", "", 8⟩ := by kernel_rfl
@[simp] theorem fl73_2 : fldT Try.prog 73 2 = some ⟨"Locals", 23, 2, false, "", "", 16⟩ := by kernel_rfl
attribute [simp] Try.underlying73
@[simp] theorem sz78 : szT Try.prog 78 = some 3 := by kernel_rfl
@[simp] theorem by78 : bytesT Try.prog 78 = some 24 := by kernel_rfl
@[simp] theorem ag78 : aggT Try.prog 78 = some true := by kernel_rfl
@[simp] theorem ze78 : zeroT Try.prog 78 = some (.agg [.int .i64 0, .int .i64 0, .int .i64 0]) := by kernel_rfl
@[simp] theorem pl78_0 : placeT Try.prog 78 0 = some (0, 1) := by kernel_rfl
@[simp] theorem pl78_1 : placeT Try.prog 78 1 = some (1, 1) := by kernel_rfl
@[simp] theorem pl78_2 : placeT Try.prog 78 2 = some (2, 1) := by kernel_rfl
@[simp] theorem si78 : sizesT Try.prog 78 = true := by kernel_rfl
@[simp] theorem is78 : intStruct Try.prog 78 3 = true := by kernel_rfl
@[simp] theorem fl78_0 : fldT Try.prog 78 0 = some ⟨"Kind", 3, 0, false, "", "", 0⟩ := by kernel_rfl
@[simp] theorem fl78_1 : fldT Try.prog 78 1 = some ⟨"A", 3, 1, false, "", "", 8⟩ := by kernel_rfl
@[simp] theorem fl78_2 : fldT Try.prog 78 2 = some ⟨"V", 3, 2, false, "", "", 16⟩ := by kernel_rfl
attribute [simp] Try.underlying78
@[simp] theorem sz82 : szT Try.prog 82 = some 20 := by kernel_rfl
@[simp] theorem by82 : bytesT Try.prog 82 = some 416 := by kernel_rfl
@[simp] theorem ag82 : aggT Try.prog 82 = some true := by kernel_rfl
@[simp] theorem ze82 : zeroT Try.prog 82 = some (.agg [.nils, .int .i64 0, .nils, .nils, .nils, .nils, .int .i64 0, .int .i64 0, .nils, .nils, .nils, .nils, .nils, .nils, .nils, .nils, .nils, .int .i64 0, .nils, .nils]) := by kernel_rfl
@[simp] theorem pl82_0 : placeT Try.prog 82 0 = some (0, 7) := by kernel_rfl
@[simp] theorem pl82_1 : placeT Try.prog 82 1 = some (7, 10) := by kernel_rfl
@[simp] theorem pl82_2 : placeT Try.prog 82 2 = some (17, 1) := by kernel_rfl
@[simp] theorem pl82_3 : placeT Try.prog 82 3 = some (18, 1) := by kernel_rfl
@[simp] theorem pl82_4 : placeT Try.prog 82 4 = some (19, 1) := by kernel_rfl
@[simp] theorem si82 : sizesT Try.prog 82 = true := by kernel_rfl
@[simp] theorem fl82_0 : fldT Try.prog 82 0 = some ⟨"P", 26, 0, false, "", "", 0⟩ := by kernel_rfl
@[simp] theorem fl82_1 : fldT Try.prog 82 1 = some ⟨"C", 30, 7, false, "", "", 136⟩ := by kernel_rfl
@[simp] theorem fl82_2 : fldT Try.prog 82 2 = some ⟨"T", 3, 17, false, "", "", 360⟩ := by kernel_rfl
@[simp] theorem fl82_3 : fldT Try.prog 82 3 = some ⟨"Seen", 32, 18, false, "", "", 368⟩ := by kernel_rfl
@[simp] theorem fl82_4 : fldT Try.prog 82 4 = some ⟨"Woken", 23, 19, false, "", "", 392⟩ := by kernel_rfl
attribute [simp] Try.underlying82
@[simp] theorem sz86 : szT Try.prog 86 = some 3 := by kernel_rfl
@[simp] theorem by86 : bytesT Try.prog 86 = some 32 := by kernel_rfl
@[simp] theorem ag86 : aggT Try.prog 86 = some true := by kernel_rfl
@[simp] theorem ze86 : zeroT Try.prog 86 = some (.agg [.str .empty, .int .i64 0, .nilf]) := by kernel_rfl
@[simp] theorem pl86_0 : placeT Try.prog 86 0 = some (0, 1) := by kernel_rfl
@[simp] theorem pl86_1 : placeT Try.prog 86 1 = some (1, 1) := by kernel_rfl
@[simp] theorem pl86_2 : placeT Try.prog 86 2 = some (2, 1) := by kernel_rfl
@[simp] theorem si86 : sizesT Try.prog 86 = true := by kernel_rfl
@[simp] theorem fl86_0 : fldT Try.prog 86 0 = some ⟨"name", 9, 0, false, "", "hibernacle/verify", 0⟩ := by kernel_rfl
@[simp] theorem fl86_1 : fldT Try.prog 86 1 = some ⟨"places", 3, 1, false, "", "hibernacle/verify", 16⟩ := by kernel_rfl
@[simp] theorem fl86_2 : fldT Try.prog 86 2 = some ⟨"holds", 71, 2, false, "", "hibernacle/verify", 24⟩ := by kernel_rfl
attribute [simp] Try.underlying86
@[simp] theorem sz87 : szT Try.prog 87 = some 24 := by kernel_rfl
@[simp] theorem by87 : bytesT Try.prog 87 = some 256 := by kernel_rfl
@[simp] theorem ag87 : aggT Try.prog 87 = some true := by kernel_rfl
@[simp] theorem ze87 : zeroT Try.prog 87 = some (.agg [.str .empty, .int .i64 0, .nilf, .str .empty, .int .i64 0, .nilf, .str .empty, .int .i64 0, .nilf, .str .empty, .int .i64 0, .nilf, .str .empty, .int .i64 0, .nilf, .str .empty, .int .i64 0, .nilf, .str .empty, .int .i64 0, .nilf, .str .empty, .int .i64 0, .nilf]) := by kernel_rfl
@[simp] theorem si87 : sizesT Try.prog 87 = true := by kernel_rfl
@[simp] theorem pl87_0 : placeT Try.prog 87 0 = some (0, 3) := by kernel_rfl
@[simp] theorem pl87_1 : placeT Try.prog 87 1 = some (3, 3) := by kernel_rfl
@[simp] theorem pl87_2 : placeT Try.prog 87 2 = some (6, 3) := by kernel_rfl
@[simp] theorem pl87_3 : placeT Try.prog 87 3 = some (9, 3) := by kernel_rfl
@[simp] theorem pl87_4 : placeT Try.prog 87 4 = some (12, 3) := by kernel_rfl
@[simp] theorem pl87_5 : placeT Try.prog 87 5 = some (15, 3) := by kernel_rfl
@[simp] theorem pl87_6 : placeT Try.prog 87 6 = some (18, 3) := by kernel_rfl
@[simp] theorem pl87_7 : placeT Try.prog 87 7 = some (21, 3) := by kernel_rfl
attribute [simp] Try.underlying87
@[simp] theorem sz106 : szT Try.prog 106 = some 17 := by kernel_rfl
@[simp] theorem by106 : bytesT Try.prog 106 = some 360 := by kernel_rfl
@[simp] theorem ag106 : aggT Try.prog 106 = some true := by kernel_rfl
@[simp] theorem ze106 : zeroT Try.prog 106 = some (.agg [.nils, .int .i64 0, .nils, .nils, .nils, .nils, .int .i64 0, .int .i64 0, .nils, .nils, .nils, .nils, .nils, .nils, .nils, .nils, .nils]) := by kernel_rfl
@[simp] theorem pl106_0 : placeT Try.prog 106 0 = some (0, 7) := by kernel_rfl
@[simp] theorem pl106_1 : placeT Try.prog 106 1 = some (7, 10) := by kernel_rfl
@[simp] theorem si106 : sizesT Try.prog 106 = true := by kernel_rfl
@[simp] theorem fl106_0 : fldT Try.prog 106 0 = some ⟨"p", 26, 0, false, "", "hibernacle/verify", 0⟩ := by kernel_rfl
@[simp] theorem fl106_1 : fldT Try.prog 106 1 = some ⟨"c", 30, 7, false, "", "hibernacle/verify", 136⟩ := by kernel_rfl
attribute [simp] Try.underlying106
@[simp] theorem sz126 : szT Try.prog 126 = some 3 := by kernel_rfl
@[simp] theorem by126 : bytesT Try.prog 126 = some 24 := by kernel_rfl
@[simp] theorem ag126 : aggT Try.prog 126 = some true := by kernel_rfl
@[simp] theorem ze126 : zeroT Try.prog 126 = some (.agg [.int .i64 0, .int .i64 0, .int .i64 0]) := by kernel_rfl
@[simp] theorem pl126_0 : placeT Try.prog 126 0 = some (0, 1) := by kernel_rfl
@[simp] theorem pl126_1 : placeT Try.prog 126 1 = some (1, 1) := by kernel_rfl
@[simp] theorem pl126_2 : placeT Try.prog 126 2 = some (2, 1) := by kernel_rfl
@[simp] theorem si126 : sizesT Try.prog 126 = true := by kernel_rfl
@[simp] theorem is126 : intStruct Try.prog 126 3 = true := by kernel_rfl
@[simp] theorem fl126_0 : fldT Try.prog 126 0 = some ⟨"Kind", 3, 0, false, "", "", 0⟩ := by kernel_rfl
@[simp] theorem fl126_1 : fldT Try.prog 126 1 = some ⟨"Thread", 3, 1, false, "", "", 8⟩ := by kernel_rfl
@[simp] theorem fl126_2 : fldT Try.prog 126 2 = some ⟨"N", 3, 2, false, "", "", 16⟩ := by kernel_rfl
attribute [simp] Try.underlying126
@[simp] theorem sz132 : szT Try.prog 132 = some 1 := by kernel_rfl
@[simp] theorem by132 : bytesT Try.prog 132 = some 8 := by kernel_rfl
@[simp] theorem ag132 : aggT Try.prog 132 = some false := by kernel_rfl
@[simp] theorem ze132 : zeroT Try.prog 132 = some (.nilf) := by kernel_rfl
attribute [simp] Try.underlying132
@[simp] theorem sz133 : szT Try.prog 133 = some 1 := by kernel_rfl
@[simp] theorem by133 : bytesT Try.prog 133 = some 8 := by kernel_rfl
@[simp] theorem ag133 : aggT Try.prog 133 = some false := by kernel_rfl
@[simp] theorem ze133 : zeroT Try.prog 133 = some (.nilf) := by kernel_rfl
attribute [simp] Try.underlying133
@[simp] theorem sz135 : szT Try.prog 135 = some 1 := by kernel_rfl
@[simp] theorem by135 : bytesT Try.prog 135 = some 8 := by kernel_rfl
@[simp] theorem ag135 : aggT Try.prog 135 = some false := by kernel_rfl
@[simp] theorem ze135 : zeroT Try.prog 135 = some (.nilf) := by kernel_rfl
attribute [simp] Try.underlying135
theorem mixed : Try.prog.follows .mixedOrders = true := by kernel_rfl
end Go.Hb
