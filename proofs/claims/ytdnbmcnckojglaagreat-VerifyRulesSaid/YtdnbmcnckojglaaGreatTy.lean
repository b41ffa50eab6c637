/-
  A layer for reasoning about the program's calls, and contracts of its functions (Ty). CONDITIONS: none; each theorem bears its own.
-/
import Derived.Test.YtdnbmcnckojglaaGreatProg
import Derived.Test.YtdnbmcnckojglaaGreatL5
set_option linter.unusedVariables false
set_option linter.unusedSimpArgs false
namespace Go.Hb
open Go Go.Proofs
@[simp] theorem sz3 : szT Tryz.prog 3 = some 1 := by kernel_rfl
@[simp] theorem by3 : bytesT Tryz.prog 3 = some 8 := by kernel_rfl
@[simp] theorem ag3 : aggT Tryz.prog 3 = some false := by kernel_rfl
@[simp] theorem ze3 : zeroT Tryz.prog 3 = some (.int .i64 0) := by kernel_rfl
attribute [simp] Tryz.underlying3
@[simp] theorem sz4 : szT Tryz.prog 4 = some 1 := by kernel_rfl
@[simp] theorem by4 : bytesT Tryz.prog 4 = some 1 := by kernel_rfl
@[simp] theorem ag4 : aggT Tryz.prog 4 = some false := by kernel_rfl
@[simp] theorem ze4 : zeroT Tryz.prog 4 = some (.bool false) := by kernel_rfl
attribute [simp] Tryz.underlying4
@[simp] theorem sz9 : szT Tryz.prog 9 = some 1 := by kernel_rfl
@[simp] theorem by9 : bytesT Tryz.prog 9 = some 16 := by kernel_rfl
@[simp] theorem ag9 : aggT Tryz.prog 9 = some false := by kernel_rfl
@[simp] theorem ze9 : zeroT Tryz.prog 9 = some (.str .empty) := by kernel_rfl
attribute [simp] Tryz.underlying9
@[simp] theorem sz22 : szT Tryz.prog 22 = some 1 := by kernel_rfl
@[simp] theorem by22 : bytesT Tryz.prog 22 = some 24 := by kernel_rfl
@[simp] theorem ag22 : aggT Tryz.prog 22 = some false := by kernel_rfl
@[simp] theorem ze22 : zeroT Tryz.prog 22 = some (.nils) := by kernel_rfl
attribute [simp] Tryz.underlying22
@[simp] theorem sz23 : szT Tryz.prog 23 = some 1 := by kernel_rfl
@[simp] theorem by23 : bytesT Tryz.prog 23 = some 24 := by kernel_rfl
@[simp] theorem ag23 : aggT Tryz.prog 23 = some false := by kernel_rfl
@[simp] theorem ze23 : zeroT Tryz.prog 23 = some (.nils) := by kernel_rfl
attribute [simp] Tryz.underlying23
@[simp] theorem sz24 : szT Tryz.prog 24 = some 1 := by kernel_rfl
@[simp] theorem by24 : bytesT Tryz.prog 24 = some 24 := by kernel_rfl
@[simp] theorem ag24 : aggT Tryz.prog 24 = some false := by kernel_rfl
@[simp] theorem ze24 : zeroT Tryz.prog 24 = some (.nils) := by kernel_rfl
attribute [simp] Tryz.underlying24
@[simp] theorem sz26 : szT Tryz.prog 26 = some 7 := by kernel_rfl
@[simp] theorem by26 : bytesT Tryz.prog 26 = some 136 := by kernel_rfl
@[simp] theorem ag26 : aggT Tryz.prog 26 = some true := by kernel_rfl
@[simp] theorem ze26 : zeroT Tryz.prog 26 = some (.agg [.nils, .int .i64 0, .nils, .nils, .nils, .nils, .int .i64 0]) := by kernel_rfl
@[simp] theorem pl26_0 : placeT Tryz.prog 26 0 = some (0, 1) := by kernel_rfl
@[simp] theorem pl26_1 : placeT Tryz.prog 26 1 = some (1, 1) := by kernel_rfl
@[simp] theorem pl26_2 : placeT Tryz.prog 26 2 = some (2, 1) := by kernel_rfl
@[simp] theorem pl26_3 : placeT Tryz.prog 26 3 = some (3, 1) := by kernel_rfl
@[simp] theorem pl26_4 : placeT Tryz.prog 26 4 = some (4, 1) := by kernel_rfl
@[simp] theorem pl26_5 : placeT Tryz.prog 26 5 = some (5, 1) := by kernel_rfl
@[simp] theorem pl26_6 : placeT Tryz.prog 26 6 = some (6, 1) := by kernel_rfl
@[simp] theorem si26 : sizesT Tryz.prog 26 = true := by kernel_rfl
@[simp] theorem fl26_0 : fldT Tryz.prog 26 0 = some ⟨"Funcs", 22, 0, false, "", "", 0⟩ := by kernel_rfl
@[simp] theorem fl26_1 : fldT Tryz.prog 26 1 = some ⟨"Mutexes", 3, 1, false, "", "", 24⟩ := by kernel_rfl
@[simp] theorem fl26_2 : fldT Tryz.prog 26 2 = some ⟨"Conds", 23, 2, false, "", "", 32⟩ := by kernel_rfl
@[simp] theorem fl26_3 : fldT Tryz.prog 26 3 = some ⟨"Semas", 23, 3, false, "", "", 56⟩ := by kernel_rfl
@[simp] theorem fl26_4 : fldT Tryz.prog 26 4 = some ⟨"Chans", 23, 4, false, "", "", 80⟩ := by kernel_rfl
@[simp] theorem fl26_5 : fldT Tryz.prog 26 5 = some ⟨"Choices", 24, 5, false, "", "", 104⟩ := by kernel_rfl
@[simp] theorem fl26_6 : fldT Tryz.prog 26 6 = some ⟨"Threads", 3, 6, false, "", "", 128⟩ := by kernel_rfl
attribute [simp] Tryz.underlying26
@[simp] theorem sz27 : szT Tryz.prog 27 = some 3 := by kernel_rfl
@[simp] theorem by27 : bytesT Tryz.prog 27 = some 24 := by kernel_rfl
@[simp] theorem ag27 : aggT Tryz.prog 27 = some true := by kernel_rfl
@[simp] theorem ze27 : zeroT Tryz.prog 27 = some (.agg [.int .i64 0, .int .i64 0, .int .i64 0]) := by kernel_rfl
@[simp] theorem si27 : sizesT Tryz.prog 27 = true := by kernel_rfl
@[simp] theorem pl27_0 : placeT Tryz.prog 27 0 = some (0, 1) := by kernel_rfl
@[simp] theorem pl27_1 : placeT Tryz.prog 27 1 = some (1, 1) := by kernel_rfl
@[simp] theorem pl27_2 : placeT Tryz.prog 27 2 = some (2, 1) := by kernel_rfl
attribute [simp] Tryz.underlying27
@[simp] theorem sz28 : szT Tryz.prog 28 = some 1 := by kernel_rfl
@[simp] theorem by28 : bytesT Tryz.prog 28 = some 24 := by kernel_rfl
@[simp] theorem ag28 : aggT Tryz.prog 28 = some false := by kernel_rfl
@[simp] theorem ze28 : zeroT Tryz.prog 28 = some (.nils) := by kernel_rfl
attribute [simp] Tryz.underlying28
@[simp] theorem sz30 : szT Tryz.prog 30 = some 10 := by kernel_rfl
@[simp] theorem by30 : bytesT Tryz.prog 30 = some 224 := by kernel_rfl
@[simp] theorem ag30 : aggT Tryz.prog 30 = some true := by kernel_rfl
@[simp] theorem ze30 : zeroT Tryz.prog 30 = some (.agg [.int .i64 0, .nils, .nils, .nils, .nils, .nils, .nils, .nils, .nils, .nils]) := by kernel_rfl
@[simp] theorem pl30_0 : placeT Tryz.prog 30 0 = some (0, 1) := by kernel_rfl
@[simp] theorem pl30_1 : placeT Tryz.prog 30 1 = some (1, 1) := by kernel_rfl
@[simp] theorem pl30_2 : placeT Tryz.prog 30 2 = some (2, 1) := by kernel_rfl
@[simp] theorem pl30_3 : placeT Tryz.prog 30 3 = some (3, 1) := by kernel_rfl
@[simp] theorem pl30_4 : placeT Tryz.prog 30 4 = some (4, 1) := by kernel_rfl
@[simp] theorem pl30_5 : placeT Tryz.prog 30 5 = some (5, 1) := by kernel_rfl
@[simp] theorem pl30_6 : placeT Tryz.prog 30 6 = some (6, 1) := by kernel_rfl
@[simp] theorem pl30_7 : placeT Tryz.prog 30 7 = some (7, 1) := by kernel_rfl
@[simp] theorem pl30_8 : placeT Tryz.prog 30 8 = some (8, 1) := by kernel_rfl
@[simp] theorem pl30_9 : placeT Tryz.prog 30 9 = some (9, 1) := by kernel_rfl
@[simp] theorem si30 : sizesT Tryz.prog 30 = true := by kernel_rfl
@[simp] theorem fl30_0 : fldT Tryz.prog 30 0 = some ⟨"Now", 3, 0, false, "", "", 0⟩ := by kernel_rfl
@[simp] theorem fl30_1 : fldT Tryz.prog 30 1 = some ⟨"Threads", 28, 1, false, "", "", 8⟩ := by kernel_rfl
@[simp] theorem fl30_2 : fldT Tryz.prog 30 2 = some ⟨"Owners", 23, 2, false, "", "", 32⟩ := by kernel_rfl
@[simp] theorem fl30_3 : fldT Tryz.prog 30 3 = some ⟨"Counts", 23, 3, false, "", "", 56⟩ := by kernel_rfl
@[simp] theorem fl30_4 : fldT Tryz.prog 30 4 = some ⟨"Bufs", 24, 4, false, "", "", 80⟩ := by kernel_rfl
@[simp] theorem fl30_5 : fldT Tryz.prog 30 5 = some ⟨"LockQ", 24, 5, false, "", "", 104⟩ := by kernel_rfl
@[simp] theorem fl30_6 : fldT Tryz.prog 30 6 = some ⟨"WaitQ", 24, 6, false, "", "", 128⟩ := by kernel_rfl
@[simp] theorem fl30_7 : fldT Tryz.prog 30 7 = some ⟨"DownQ", 24, 7, false, "", "", 152⟩ := by kernel_rfl
@[simp] theorem fl30_8 : fldT Tryz.prog 30 8 = some ⟨"SendQ", 24, 8, false, "", "", 176⟩ := by kernel_rfl
@[simp] theorem fl30_9 : fldT Tryz.prog 30 9 = some ⟨"RecvQ", 24, 9, false, "", "", 200⟩ := by kernel_rfl
attribute [simp] Tryz.underlying30
@[simp] theorem sz32 : szT Tryz.prog 32 = some 19 := by kernel_rfl
@[simp] theorem by32 : bytesT Tryz.prog 32 = some 376 := by kernel_rfl
@[simp] theorem ag32 : aggT Tryz.prog 32 = some true := by kernel_rfl
@[simp] theorem ze32 : zeroT Tryz.prog 32 = some (.agg [.int .i64 0, .int .i64 0, .nils, .int .i64 0, .nils, .nils, .nils, .nils, .int .i64 0, .int .i64 0, .nils, .nils, .nils, .nils, .nils, .nils, .nils, .nils, .nils]) := by kernel_rfl
@[simp] theorem pl32_0 : placeT Tryz.prog 32 0 = some (0, 1) := by kernel_rfl
@[simp] theorem pl32_1 : placeT Tryz.prog 32 1 = some (1, 1) := by kernel_rfl
@[simp] theorem pl32_2 : placeT Tryz.prog 32 2 = some (2, 7) := by kernel_rfl
@[simp] theorem pl32_3 : placeT Tryz.prog 32 3 = some (9, 10) := by kernel_rfl
@[simp] theorem si32 : sizesT Tryz.prog 32 = true := by kernel_rfl
@[simp] theorem fl32_0 : fldT Tryz.prog 32 0 = some ⟨"Version", 3, 0, false, "", "", 0⟩ := by kernel_rfl
@[simp] theorem fl32_1 : fldT Tryz.prog 32 1 = some ⟨"Epoch", 3, 1, false, "", "", 8⟩ := by kernel_rfl
@[simp] theorem fl32_2 : fldT Tryz.prog 32 2 = some ⟨"Program", 26, 2, false, "", "", 16⟩ := by kernel_rfl
@[simp] theorem fl32_3 : fldT Tryz.prog 32 3 = some ⟨"Core", 30, 9, false, "", "", 152⟩ := by kernel_rfl
attribute [simp] Tryz.underlying32
@[simp] theorem sz35 : szT Tryz.prog 35 = some 1 := by kernel_rfl
@[simp] theorem by35 : bytesT Tryz.prog 35 = some 24 := by kernel_rfl
@[simp] theorem ag35 : aggT Tryz.prog 35 = some false := by kernel_rfl
@[simp] theorem ze35 : zeroT Tryz.prog 35 = some (.nils) := by kernel_rfl
attribute [simp] Tryz.underlying35
@[simp] theorem sz46 : szT Tryz.prog 46 = some 1 := by kernel_rfl
@[simp] theorem by46 : bytesT Tryz.prog 46 = some 8 := by kernel_rfl
@[simp] theorem ag46 : aggT Tryz.prog 46 = some false := by kernel_rfl
@[simp] theorem ze46 : zeroT Tryz.prog 46 = some (.int .i64 0) := by kernel_rfl
attribute [simp] Tryz.underlying46
@[simp] theorem sz63 : szT Tryz.prog 63 = some 1 := by kernel_rfl
@[simp] theorem by63 : bytesT Tryz.prog 63 = some 24 := by kernel_rfl
@[simp] theorem ag63 : aggT Tryz.prog 63 = some false := by kernel_rfl
@[simp] theorem ze63 : zeroT Tryz.prog 63 = some (.nils) := by kernel_rfl
attribute [simp] Tryz.underlying63
@[simp] theorem sz64 : szT Tryz.prog 64 = some 1 := by kernel_rfl
@[simp] theorem by64 : bytesT Tryz.prog 64 = some 24 := by kernel_rfl
@[simp] theorem ag64 : aggT Tryz.prog 64 = some false := by kernel_rfl
@[simp] theorem ze64 : zeroT Tryz.prog 64 = some (.nils) := by kernel_rfl
attribute [simp] Tryz.underlying64
@[simp] theorem sz66 : szT Tryz.prog 66 = some 5 := by kernel_rfl
@[simp] theorem by66 : bytesT Tryz.prog 66 = some 72 := by kernel_rfl
@[simp] theorem ag66 : aggT Tryz.prog 66 = some true := by kernel_rfl
@[simp] theorem ze66 : zeroT Tryz.prog 66 = some (.agg [.int .i64 0, .int .i64 0, .nils, .nils, .int .i64 0]) := by kernel_rfl
@[simp] theorem pl66_0 : placeT Tryz.prog 66 0 = some (0, 1) := by kernel_rfl
@[simp] theorem pl66_1 : placeT Tryz.prog 66 1 = some (1, 1) := by kernel_rfl
@[simp] theorem pl66_2 : placeT Tryz.prog 66 2 = some (2, 1) := by kernel_rfl
@[simp] theorem pl66_3 : placeT Tryz.prog 66 3 = some (3, 1) := by kernel_rfl
@[simp] theorem pl66_4 : placeT Tryz.prog 66 4 = some (4, 1) := by kernel_rfl
@[simp] theorem si66 : sizesT Tryz.prog 66 = true := by kernel_rfl
@[simp] theorem fl66_0 : fldT Tryz.prog 66 0 = some ⟨"State", 3, 0, false, "", "", 0⟩ := by kernel_rfl
@[simp] theorem fl66_1 : fldT Tryz.prog 66 1 = some ⟨"On", 3, 1, false, "", "", 8⟩ := by kernel_rfl
@[simp] theorem fl66_2 : fldT Tryz.prog 66 2 = some ⟨"Frames", 64, 2, false, "", "", 16⟩ := by kernel_rfl
@[simp] theorem fl66_3 : fldT Tryz.prog 66 3 = some ⟨"Stack", 23, 3, false, "", "", 40⟩ := by kernel_rfl
@[simp] theorem fl66_4 : fldT Tryz.prog 66 4 = some ⟨"Code", 3, 4, false, "", "", 64⟩ := by kernel_rfl
attribute [simp] Tryz.underlying66
@[simp] theorem sz68 : szT Tryz.prog 68 = some 3 := by kernel_rfl
@[simp] theorem by68 : bytesT Tryz.prog 68 = some 40 := by kernel_rfl
@[simp] theorem ag68 : aggT Tryz.prog 68 = some true := by kernel_rfl
@[simp] theorem ze68 : zeroT Tryz.prog 68 = some (.agg [.int .i64 0, .int .i64 0, .nils]) := by kernel_rfl
@[simp] theorem pl68_0 : placeT Tryz.prog 68 0 = some (0, 1) := by kernel_rfl
@[simp] theorem pl68_1 : placeT Tryz.prog 68 1 = some (1, 1) := by kernel_rfl
@[simp] theorem pl68_2 : placeT Tryz.prog 68 2 = some (2, 1) := by kernel_rfl
@[simp] theorem si68 : sizesT Tryz.prog 68 = true := by kernel_rfl
@[simp] theorem fl68_0 : fldT Tryz.prog 68 0 = some ⟨"Func", 3, 0, false, "", "", 0⟩ := by kernel_rfl
@[simp] theorem fl68_1 : fldT Tryz.prog 68 1 = some ⟨"Pc", 3, 1, false, "", "", 8⟩ := by kernel_rfl
@[simp] theorem fl68_2 : fldT Tryz.prog 68 2 = some ⟨"Locals", 23, 2, false, "", "", 16⟩ := by kernel_rfl
attribute [simp] Tryz.underlying68
@[simp] theorem sz70 : szT Tryz.prog 70 = some 1 := by kernel_rfl
@[simp] theorem by70 : bytesT Tryz.prog 70 = some 24 := by kernel_rfl
@[simp] theorem ag70 : aggT Tryz.prog 70 = some false := by kernel_rfl
@[simp] theorem ze70 : zeroT Tryz.prog 70 = some (.nils) := by kernel_rfl
attribute [simp] Tryz.underlying70
@[simp] theorem sz78 : szT Tryz.prog 78 = some 1 := by kernel_rfl
@[simp] theorem by78 : bytesT Tryz.prog 78 = some 8 := by kernel_rfl
@[simp] theorem ag78 : aggT Tryz.prog 78 = some false := by kernel_rfl
@[simp] theorem ze78 : zeroT Tryz.prog 78 = some (.nilf) := by kernel_rfl
attribute [simp] Tryz.underlying78
@[simp] theorem sz80 : szT Tryz.prog 80 = some 3 := by kernel_rfl
@[simp] theorem by80 : bytesT Tryz.prog 80 = some 32 := by kernel_rfl
@[simp] theorem ag80 : aggT Tryz.prog 80 = some true := by kernel_rfl
@[simp] theorem ze80 : zeroT Tryz.prog 80 = some (.agg [.str .empty, .int .i64 0, .nilf]) := by kernel_rfl
@[simp] theorem pl80_0 : placeT Tryz.prog 80 0 = some (0, 1) := by kernel_rfl
@[simp] theorem pl80_1 : placeT Tryz.prog 80 1 = some (1, 1) := by kernel_rfl
@[simp] theorem pl80_2 : placeT Tryz.prog 80 2 = some (2, 1) := by kernel_rfl
@[simp] theorem si80 : sizesT Tryz.prog 80 = true := by kernel_rfl
@[simp] theorem fl80_0 : fldT Tryz.prog 80 0 = some ⟨"name", 9, 0, false, "", "hibernacle/verify", 0⟩ := by kernel_rfl
@[simp] theorem fl80_1 : fldT Tryz.prog 80 1 = some ⟨"places", 3, 1, false, "", "hibernacle/verify", 16⟩ := by kernel_rfl
@[simp] theorem fl80_2 : fldT Tryz.prog 80 2 = some ⟨"holds", 78, 2, false, "", "hibernacle/verify", 24⟩ := by kernel_rfl
attribute [simp] Tryz.underlying80
@[simp] theorem sz81 : szT Tryz.prog 81 = some 24 := by kernel_rfl
@[simp] theorem by81 : bytesT Tryz.prog 81 = some 256 := by kernel_rfl
@[simp] theorem ag81 : aggT Tryz.prog 81 = some true := by kernel_rfl
@[simp] theorem ze81 : zeroT Tryz.prog 81 = some (.agg [.str .empty, .int .i64 0, .nilf, .str .empty, .int .i64 0, .nilf, .str .empty, .int .i64 0, .nilf, .str .empty, .int .i64 0, .nilf, .str .empty, .int .i64 0, .nilf, .str .empty, .int .i64 0, .nilf, .str .empty, .int .i64 0, .nilf, .str .empty, .int .i64 0, .nilf]) := by kernel_rfl
@[simp] theorem si81 : sizesT Tryz.prog 81 = true := by kernel_rfl
@[simp] theorem pl81_0 : placeT Tryz.prog 81 0 = some (0, 3) := by kernel_rfl
@[simp] theorem pl81_1 : placeT Tryz.prog 81 1 = some (3, 3) := by kernel_rfl
@[simp] theorem pl81_2 : placeT Tryz.prog 81 2 = some (6, 3) := by kernel_rfl
@[simp] theorem pl81_3 : placeT Tryz.prog 81 3 = some (9, 3) := by kernel_rfl
@[simp] theorem pl81_4 : placeT Tryz.prog 81 4 = some (12, 3) := by kernel_rfl
@[simp] theorem pl81_5 : placeT Tryz.prog 81 5 = some (15, 3) := by kernel_rfl
@[simp] theorem pl81_6 : placeT Tryz.prog 81 6 = some (18, 3) := by kernel_rfl
@[simp] theorem pl81_7 : placeT Tryz.prog 81 7 = some (21, 3) := by kernel_rfl
attribute [simp] Tryz.underlying81
@[simp] theorem sz84 : szT Tryz.prog 84 = some 1 := by kernel_rfl
@[simp] theorem by84 : bytesT Tryz.prog 84 = some 24 := by kernel_rfl
@[simp] theorem ag84 : aggT Tryz.prog 84 = some false := by kernel_rfl
@[simp] theorem ze84 : zeroT Tryz.prog 84 = some (.nils) := by kernel_rfl
attribute [simp] Tryz.underlying84
@[simp] theorem sz97 : szT Tryz.prog 97 = some 1 := by kernel_rfl
@[simp] theorem by97 : bytesT Tryz.prog 97 = some 24 := by kernel_rfl
@[simp] theorem ag97 : aggT Tryz.prog 97 = some false := by kernel_rfl
@[simp] theorem ze97 : zeroT Tryz.prog 97 = some (.nils) := by kernel_rfl
attribute [simp] Tryz.underlying97
@[simp] theorem sz99 : szT Tryz.prog 99 = some 2 := by kernel_rfl
@[simp] theorem by99 : bytesT Tryz.prog 99 = some 32 := by kernel_rfl
@[simp] theorem ag99 : aggT Tryz.prog 99 = some true := by kernel_rfl
@[simp] theorem ze99 : zeroT Tryz.prog 99 = some (.agg [.int .i64 0, .nils]) := by kernel_rfl
@[simp] theorem pl99_0 : placeT Tryz.prog 99 0 = some (0, 1) := by kernel_rfl
@[simp] theorem pl99_1 : placeT Tryz.prog 99 1 = some (1, 1) := by kernel_rfl
@[simp] theorem si99 : sizesT Tryz.prog 99 = true := by kernel_rfl
@[simp] theorem fl99_0 : fldT Tryz.prog 99 0 = some ⟨"Locals", 3, 0, false, "", "", 0⟩ := by kernel_rfl
@[simp] theorem fl99_1 : fldT Tryz.prog 99 1 = some ⟨"Code", 97, 1, false, "", "", 8⟩ := by kernel_rfl
attribute [simp] Tryz.underlying99
@[simp] theorem sz101 : szT Tryz.prog 101 = some 2 := by kernel_rfl
@[simp] theorem by101 : bytesT Tryz.prog 101 = some 16 := by kernel_rfl
@[simp] theorem ag101 : aggT Tryz.prog 101 = some true := by kernel_rfl
@[simp] theorem ze101 : zeroT Tryz.prog 101 = some (.agg [.int .i64 0, .int .i64 0]) := by kernel_rfl
@[simp] theorem pl101_0 : placeT Tryz.prog 101 0 = some (0, 1) := by kernel_rfl
@[simp] theorem pl101_1 : placeT Tryz.prog 101 1 = some (1, 1) := by kernel_rfl
@[simp] theorem si101 : sizesT Tryz.prog 101 = true := by kernel_rfl
@[simp] theorem is101 : intStruct Tryz.prog 101 2 = true := by kernel_rfl
@[simp] theorem fl101_0 : fldT Tryz.prog 101 0 = some ⟨"Op", 3, 0, false, "", "", 0⟩ := by kernel_rfl
@[simp] theorem fl101_1 : fldT Tryz.prog 101 1 = some ⟨"A", 3, 1, false, "", "", 8⟩ := by kernel_rfl
attribute [simp] Tryz.underlying101
@[simp] theorem sz115 : szT Tryz.prog 115 = some 1 := by kernel_rfl
@[simp] theorem by115 : bytesT Tryz.prog 115 = some 8 := by kernel_rfl
@[simp] theorem ag115 : aggT Tryz.prog 115 = some false := by kernel_rfl
@[simp] theorem ze115 : zeroT Tryz.prog 115 = some (.nilf) := by kernel_rfl
attribute [simp] Tryz.underlying115
@[simp] theorem sz119 : szT Tryz.prog 119 = some 17 := by kernel_rfl
@[simp] theorem by119 : bytesT Tryz.prog 119 = some 360 := by kernel_rfl
@[simp] theorem ag119 : aggT Tryz.prog 119 = some true := by kernel_rfl
@[simp] theorem ze119 : zeroT Tryz.prog 119 = some (.agg [.nils, .int .i64 0, .nils, .nils, .nils, .nils, .int .i64 0, .int .i64 0, .nils, .nils, .nils, .nils, .nils, .nils, .nils, .nils, .nils]) := by kernel_rfl
@[simp] theorem pl119_0 : placeT Tryz.prog 119 0 = some (0, 7) := by kernel_rfl
@[simp] theorem pl119_1 : placeT Tryz.prog 119 1 = some (7, 10) := by kernel_rfl
@[simp] theorem si119 : sizesT Tryz.prog 119 = true := by kernel_rfl
@[simp] theorem fl119_0 : fldT Tryz.prog 119 0 = some ⟨"p", 26, 0, false, "", "hibernacle/verify", 0⟩ := by kernel_rfl
@[simp] theorem fl119_1 : fldT Tryz.prog 119 1 = some ⟨"c", 30, 7, false, "", "hibernacle/verify", 136⟩ := by kernel_rfl
attribute [simp] Tryz.underlying119
@[simp] theorem sz135 : szT Tryz.prog 135 = some 3 := by kernel_rfl
@[simp] theorem by135 : bytesT Tryz.prog 135 = some 24 := by kernel_rfl
@[simp] theorem ag135 : aggT Tryz.prog 135 = some true := by kernel_rfl
@[simp] theorem ze135 : zeroT Tryz.prog 135 = some (.agg [.int .i64 0, .int .i64 0, .int .i64 0]) := by kernel_rfl
@[simp] theorem pl135_0 : placeT Tryz.prog 135 0 = some (0, 1) := by kernel_rfl
@[simp] theorem pl135_1 : placeT Tryz.prog 135 1 = some (1, 1) := by kernel_rfl
@[simp] theorem pl135_2 : placeT Tryz.prog 135 2 = some (2, 1) := by kernel_rfl
@[simp] theorem si135 : sizesT Tryz.prog 135 = true := by kernel_rfl
@[simp] theorem is135 : intStruct Tryz.prog 135 3 = true := by kernel_rfl
@[simp] theorem fl135_0 : fldT Tryz.prog 135 0 = some ⟨"Kind", 3, 0, false, "", "", 0⟩ := by kernel_rfl
@[simp] theorem fl135_1 : fldT Tryz.prog 135 1 = some ⟨"A", 3, 1, false, "", "", 8⟩ := by kernel_rfl
@[simp] theorem fl135_2 : fldT Tryz.prog 135 2 = some ⟨"V", 3, 2, false, "", "", 16⟩ := by kernel_rfl
attribute [simp] Tryz.underlying135
@[simp] theorem sz139 : szT Tryz.prog 139 = some 20 := by kernel_rfl
@[simp] theorem by139 : bytesT Tryz.prog 139 = some 416 := by kernel_rfl
@[simp] theorem ag139 : aggT Tryz.prog 139 = some true := by kernel_rfl
@[simp] theorem ze139 : zeroT Tryz.prog 139 = some (.agg [.nils, .int .i64 0, .nils, .nils, .nils, .nils, .int .i64 0, .int .i64 0, .nils, .nils, .nils, .nils, .nils, .nils, .nils, .nils, .nils, .int .i64 0, .nils, .nils]) := by kernel_rfl
@[simp] theorem pl139_0 : placeT Tryz.prog 139 0 = some (0, 7) := by kernel_rfl
@[simp] theorem pl139_1 : placeT Tryz.prog 139 1 = some (7, 10) := by kernel_rfl
@[simp] theorem pl139_2 : placeT Tryz.prog 139 2 = some (17, 1) := by kernel_rfl
@[simp] theorem pl139_3 : placeT Tryz.prog 139 3 = some (18, 1) := by kernel_rfl
@[simp] theorem pl139_4 : placeT Tryz.prog 139 4 = some (19, 1) := by kernel_rfl
@[simp] theorem si139 : sizesT Tryz.prog 139 = true := by kernel_rfl
@[simp] theorem fl139_0 : fldT Tryz.prog 139 0 = some ⟨"P", 26, 0, false, "", "", 0⟩ := by kernel_rfl
@[simp] theorem fl139_1 : fldT Tryz.prog 139 1 = some ⟨"C", 30, 7, false, "", "", 136⟩ := by kernel_rfl
@[simp] theorem fl139_2 : fldT Tryz.prog 139 2 = some ⟨"T", 3, 17, false, "", "", 360⟩ := by kernel_rfl
@[simp] theorem fl139_3 : fldT Tryz.prog 139 3 = some ⟨"Seen", 70, 18, false, "", "", 368⟩ := by kernel_rfl
@[simp] theorem fl139_4 : fldT Tryz.prog 139 4 = some ⟨"Woken", 23, 19, false, "", "", 392⟩ := by kernel_rfl
attribute [simp] Tryz.underlying139
@[simp] theorem sz167 : szT Tryz.prog 167 = some 1 := by kernel_rfl
@[simp] theorem by167 : bytesT Tryz.prog 167 = some 8 := by kernel_rfl
@[simp] theorem ag167 : aggT Tryz.prog 167 = some false := by kernel_rfl
@[simp] theorem ze167 : zeroT Tryz.prog 167 = some (.nilf) := by kernel_rfl
attribute [simp] Tryz.underlying167
@[simp] theorem sz168 : szT Tryz.prog 168 = some 1 := by kernel_rfl
@[simp] theorem by168 : bytesT Tryz.prog 168 = some 8 := by kernel_rfl
@[simp] theorem ag168 : aggT Tryz.prog 168 = some false := by kernel_rfl
@[simp] theorem ze168 : zeroT Tryz.prog 168 = some (.nilf) := by kernel_rfl
attribute [simp] Tryz.underlying168
@[simp] theorem sz274 : szT Tryz.prog 274 = some 3 := by kernel_rfl
@[simp] theorem by274 : bytesT Tryz.prog 274 = some 24 := by kernel_rfl
@[simp] theorem ag274 : aggT Tryz.prog 274 = some true := by kernel_rfl
@[simp] theorem ze274 : zeroT Tryz.prog 274 = some (.agg [.int .i64 0, .int .i64 0, .int .i64 0]) := by kernel_rfl
@[simp] theorem pl274_0 : placeT Tryz.prog 274 0 = some (0, 1) := by kernel_rfl
@[simp] theorem pl274_1 : placeT Tryz.prog 274 1 = some (1, 1) := by kernel_rfl
@[simp] theorem pl274_2 : placeT Tryz.prog 274 2 = some (2, 1) := by kernel_rfl
@[simp] theorem si274 : sizesT Tryz.prog 274 = true := by kernel_rfl
@[simp] theorem is274 : intStruct Tryz.prog 274 3 = true := by kernel_rfl
@[simp] theorem fl274_0 : fldT Tryz.prog 274 0 = some ⟨"Kind", 3, 0, false, "", "", 0⟩ := by kernel_rfl
@[simp] theorem fl274_1 : fldT Tryz.prog 274 1 = some ⟨"Thread", 3, 1, false, "", "", 8⟩ := by kernel_rfl
@[simp] theorem fl274_2 : fldT Tryz.prog 274 2 = some ⟨"N", 3, 2, false, "", "", 16⟩ := by kernel_rfl
attribute [simp] Tryz.underlying274
theorem mixed : Tryz.prog.follows .mixedOrders = true := by kernel_rfl
@[simp] def P63 : Nat → Plan
 | 8 => (.qs [0, 1, 2, 3, 4, 5, 6, 7, 8, 9] (.w 10 [5] (.qs [11, 12, 13] .nil)))
 | _ => .nil
@[simp] def P62 : Nat → Plan
 | 8 => (.qs [0, 1, 2, 3, 4, 5, 6, 7, 8, 9, 10, 11] (.w 12 [] .nil))
 | _ => .nil
@[simp] def P31 : Nat → Plan
 | 11 => (.qs [0, 1, 2, 3, 4, 5] (.w 6 [] (.qs [7] .nil)))
 | 23 => (.qs [0, 1, 2, 3, 4, 5, 6] (.w 7 [] (.qs [8] .nil)))
 | _ => .nil
@[simp] def P28 : Nat → Plan
 | 10 => (.qs [0, 1, 2, 3, 4, 5, 6, 7, 8] (.w 9 [] (.qs [10] .nil)))
 | 19 => (.qs [0, 1, 2, 3, 4, 5, 6, 7, 8, 9, 10, 11] (.w 12 [] .nil))
 | 31 => (.qs [0, 1, 2, 3, 4, 5, 6, 7, 8, 9, 10, 11] (.w 12 [] (.qs [13] (.w 14 [] .nil))))
 | 42 => (.qs [0, 1, 2, 3, 4, 5, 6, 7, 8, 9] (.w 10 [1] (.qs [11] (.w 12 [] .nil))))
 | _ => .nil
@[simp] def P171 : Nat → Plan
 | 4 => (.qs [0, 1, 2] (.w 3 [1] (.qs [4] (.w 5 [] (.qs [6] (.w 7 [] .nil))))))
 | _ => .nil
@[simp] def P174 : Nat → Plan
 | 4 => (.qs [0, 1, 2, 3] (.w 4 [1] (.qs [5] (.w 6 [] (.qs [7] (.w 8 [] .nil))))))
 | _ => .nil
@[simp] def P175 : Nat → Plan
 | 3 => (.qs [0, 1, 2, 3, 4] (.w 5 [2] (.qs [6] .nil)))
 | _ => .nil
@[simp] def P173 : Nat → Plan
 | 2 => (.qs [0, 1, 2, 3, 4, 5, 6, 7, 8, 9, 10] (.w 11 [8, 3, 1] (.qs [12] (.w 13 [] .nil))))
 | _ => .nil
@[simp] def P286 : Nat → Plan
 | 5 => (.qs [0, 1, 2, 3, 4] (.or (.w 5 [] (.qs [6, 7, 8] (.w 9 [] (.w 10 [] (.qs [11] .nil))))) (.w 9 [4, 0] (.w 5 [] (.qs [6, 7, 8] (.w 10 [] (.qs [11] .nil)))))))
 | _ => .nil
@[simp] def P99 : Nat → Plan
 | 4 => (.qs [0, 1, 2, 3, 4, 5, 6, 7, 8, 9, 10] (.or (.w 11 [] (.w 12 [] (.w 13 [] .nil))) (.w 12 [9, 4, 2, 0] (.w 11 [] (.w 13 [] .nil)))))
 | 5 => (.qs [0, 1, 2, 3, 4] (.w 5 [1] (.qs [6] .nil)))
 | 16 => (.qs [0, 1, 2, 3, 4, 5, 6, 7] (.w 8 [6, 3] (.w 9 [] .nil)))
 | 18 => (.qs [0, 1, 2, 3, 4] (.w 5 [3] (.w 6 [] .nil)))
 | 23 => (.qs [0, 1, 2, 3] (.or (.w 4 [] (.qs [5, 6, 7] (.w 8 [] (.w 9 [] (.qs [10] .nil))))) (.w 8 [3, 0] (.w 4 [] (.qs [5, 6, 7] (.w 9 [] (.qs [10] .nil)))))))
 | 24 => (.qs [0, 1, 2, 3] (.w 4 [] (.qs [5, 6] (.w 7 [] (.w 8 [] .nil)))))
 | 26 => (.qs [0, 1, 2, 3, 4, 5, 6, 7] (.w 8 [] (.qs [9, 10] (.w 11 [] (.w 12 [] .nil)))))
 | 28 => (.qs [0, 1, 2, 3, 4, 5, 6, 7] (.w 8 [] (.qs [9, 10] (.w 11 [] (.w 12 [] .nil)))))
 | 30 => (.qs [0, 1, 2, 3] (.w 4 [0] (.w 5 [] (.qs [6, 7] (.w 8 [] (.w 9 [] .nil))))))
 | 32 => (.qs [0, 1, 2, 3, 4, 5, 7] (.w 6 [] (.w 8 [] (.w 9 [] .nil))))
 | _ => .nil
@[simp] def P249 : Nat → Plan
 | 3 => (.qs [0, 1, 2, 3, 4, 5, 6, 7, 8, 9] (.w 10 [1] (.qs [11] (.w 12 [] .nil))))
 | _ => .nil
@[simp] def P253 : Nat → Plan
 | 3 => (.qs [0, 1, 2, 3, 4, 5, 6, 7, 8, 9] (.w 10 [1] (.qs [11] (.w 12 [] .nil))))
 | _ => .nil
@[simp] def P254 : Nat → Plan
 | 7 => (.qs [0, 1, 2, 3, 4, 5, 6, 7, 8, 9] (.w 10 [] .nil))
 | _ => .nil
@[simp] def P250 : Nat → Plan
 | 6 => (.qs [0, 1, 2, 3, 4, 5, 6, 7, 8, 9, 10] (.w 11 [] .nil))
 | 7 => (.qs [0, 1, 2, 3, 4, 5, 6, 7, 8, 9] (.w 10 [] .nil))
 | 8 => (.qs [0, 1, 2, 3, 4, 5] (.w 6 [5, 2] (.qs [7, 8] .nil)))
 | _ => .nil
@[simp] def P251 : Nat → Plan
 | 4 => (.qs [0, 1, 2, 3, 4, 5, 6, 7, 8, 9] (.w 10 [1] (.qs [11] (.w 12 [] .nil))))
 | _ => .nil
@[simp] def P252 : Nat → Plan
 | 5 => (.qs [0, 1, 2, 3, 4, 5, 6, 7, 8, 9] (.w 10 [] .nil))
 | _ => .nil
@[simp] def P255 : Nat → Plan
 | 7 => (.qs [0, 1, 2, 3, 4, 5, 6, 7, 8, 9] (.w 10 [1] (.qs [11] (.w 12 [] .nil))))
 | 9 => (.qs [0, 1, 2, 3, 4, 5, 6, 7, 8, 9, 10] (.w 11 [1] (.qs [12] (.w 13 [] .nil))))
 | _ => .nil
@[simp] def P256 : Nat → Plan
 | 4 => (.qs [0, 1, 2, 3, 4, 5, 6, 7, 8, 9] (.w 10 [] .nil))
 | 8 => (.qs [0, 1, 2, 3, 4, 5, 6, 7, 8, 9, 10, 11, 12, 13, 14, 15] (.w 16 [1] (.qs [17] (.w 18 [] .nil))))
 | 9 => (.qs [0, 1, 2, 3, 4, 5, 6, 7, 8, 9] (.w 10 [] .nil))
 | 14 => (.qs [0, 1, 2, 3, 4, 5, 6, 7, 8, 9] (.w 10 [] .nil))
 | 16 => (.qs [0, 1, 2, 3, 4, 5, 6, 7, 8, 9] (.w 10 [1] (.qs [11] (.w 12 [] .nil))))
 | _ => .nil
@[simp] def P257 : Nat → Plan
 | 4 => (.qs [0, 1, 2, 3, 4] (.w 5 [] (.qs [6] .nil)))
 | 6 => (.qs [0, 1, 2, 3, 4, 5] (.or (.w 6 [] (.qs [7, 8, 9, 10, 11] (.w 12 [] (.w 13 [] (.qs [14, 15, 16] .nil))))) (.w 12 [4, 0] (.w 6 [] (.qs [7, 8, 9, 10, 11] (.w 13 [] (.qs [14, 15, 16] .nil)))))))
 | 12 => (.qs [0, 1, 2, 3, 4, 5, 6, 7, 8, 9, 10, 11, 12, 13, 14, 15] (.w 16 [5, 1] (.qs [17] (.w 18 [] .nil))))
 | _ => .nil
@[simp] def P176 : Nat → Plan
 | 1 => (.qs [0, 1, 2, 3] (.w 4 [1] (.w 5 [] (.qs [6] (.w 7 [] .nil)))))
 | _ => .nil
@[simp] def P177 : Nat → Plan
 | 3 => (.qs [0, 1, 2, 4, 5, 6] (.w 3 [5] (.w 7 [] (.w 8 [] .nil))))
 | 10 => (.qs [0, 1, 2, 3, 5, 6, 7, 8] (.w 4 [6] (.w 9 [] (.w 10 [] .nil))))
 | _ => .nil
@[simp] def P179 : Nat → Plan
 | 4 => (.qs [0, 1, 2, 3, 4, 5, 6, 7, 8, 9, 10] (.w 11 [] (.w 12 [] .nil)))
 | _ => .nil
@[simp] def P180 : Nat → Plan
 | 19 => (.qs [0, 1, 3, 4, 5] (.w 2 [4] (.w 6 [] (.w 7 [] .nil))))
 | _ => .nil
@[simp] def P182 : Nat → Plan
 | 2 => (.qs [0, 1, 2, 3, 4, 5, 6, 7, 8, 9, 10, 11, 12, 13, 14] (.or (.w 15 [] (.qs [16, 17, 18, 19] (.w 20 [] (.w 21 [] (.qs [22, 23] .nil))))) (.w 20 [14, 12, 10, 8, 6, 3, 1] (.w 15 [] (.qs [16, 17, 18, 19] (.w 21 [] (.qs [22, 23] .nil)))))))
 | 9 => (.qs [0, 1, 2, 3, 4, 5, 6, 7, 8, 9, 10, 11, 12] .nil)
 | 10 => (.qs [0, 1, 2, 3, 4, 5, 6] (.w 7 [3, 0] (.qs [8] (.w 9 [] (.w 10 [] .nil)))))
 | 18 => (.qs [0, 1, 2, 3, 4, 5, 6, 7, 8, 9, 10] (.or (.w 11 [] (.qs [12, 13, 14, 15, 16, 17] (.w 18 [] (.w 19 [] (.qs [20, 21, 22, 23] .nil))))) (.w 18 [10, 8, 6, 4, 1] (.w 11 [] (.qs [12, 13, 14, 15, 16, 17] (.w 19 [] (.qs [20, 21, 22, 23] .nil)))))))
 | _ => .nil
@[simp] def P57 : Nat → Plan
 | 5 => (.qs [0, 1, 2, 3, 4, 5] (.or (.or (.w 6 [] (.qs [7, 8, 9] (.or (.w 10 [] (.w 11 [] (.w 12 [] (.w 13 [] .nil)))) (.w 11 [] (.w 10 [] (.w 12 [] (.w 13 [] .nil))))))) (.w 10 [5, 2, 0] (.or (.w 6 [] (.qs [7, 8, 9] (.w 11 [] (.w 12 [] (.w 13 [] .nil))))) (.w 11 [5, 2, 0] (.w 6 [] (.qs [7, 8, 9] (.w 12 [] (.w 13 [] .nil)))))))) (.w 11 [5, 2, 0] (.or (.w 6 [] (.qs [7, 8, 9] (.w 10 [] (.w 12 [] (.w 13 [] .nil))))) (.w 10 [5, 2, 0] (.w 6 [] (.qs [7, 8, 9] (.w 12 [] (.w 13 [] .nil)))))))))
 | 6 => (.qs [0, 1, 2, 3, 5, 7] (.or (.w 4 [7, 0] (.qs [6] (.or (.w 8 [] (.w 9 [] (.w 10 [] .nil))) (.w 9 [7, 0] (.w 8 [] (.w 10 [] .nil)))))) (.w 9 [7, 3, 1, 0] (.w 4 [7, 0] (.qs [6] (.w 8 [] (.w 10 [] .nil)))))))
 | 14 => (.qs [0, 1, 2, 3, 4] (.w 5 [3] (.qs [6, 7, 8] .nil)))
 | _ => .nil
@[simp] def P55 : Nat → Plan
 | 6 => (.qs [0, 1, 2, 3, 4, 5, 6, 7, 8, 9] .nil)
 | _ => .nil
@[simp] def P56 : Nat → Plan
 | 11 => (.qs [0, 1, 2, 3, 4, 5, 6, 7, 8, 9, 10, 11, 12, 13, 14, 15, 16, 17, 18, 19, 20, 21, 22, 23, 24] .nil)
 | _ => .nil
@[simp] def P59 : Nat → Plan
 | 1 => (.qs [0, 2, 4] (.or (.or (.w 1 [] (.or (.w 3 [] (.w 5 [] (.qs [6] (.w 7 [] .nil)))) (.w 5 [] (.w 3 [] (.qs [6] (.w 7 [] .nil)))))) (.w 3 [] (.or (.w 1 [] (.w 5 [] (.qs [6] (.w 7 [] .nil)))) (.w 5 [] (.w 1 [] (.qs [6] (.w 7 [] .nil))))))) (.w 5 [] (.or (.w 1 [] (.w 3 [] (.qs [6] (.w 7 [] .nil)))) (.w 3 [] (.w 1 [] (.qs [6] (.w 7 [] .nil))))))))
 | _ => .nil
@[simp] def P58 : Nat → Plan
 | 1 => (.qs [0, 2, 4, 5] (.or (.or (.or (.w 1 [] (.or (.or (.w 3 [] (.or (.w 6 [] (.qs [7] (.w 8 [] (.w 9 [] .nil)))) (.w 8 [] (.w 6 [] (.qs [7] (.w 9 [] .nil)))))) (.w 6 [] (.or (.w 3 [] (.qs [7] (.w 8 [] (.w 9 [] .nil)))) (.w 8 [] (.w 3 [] (.qs [7] (.w 9 [] .nil))))))) (.w 8 [] (.or (.w 3 [] (.w 6 [] (.qs [7] (.w 9 [] .nil)))) (.w 6 [] (.w 3 [] (.qs [7] (.w 9 [] .nil)))))))) (.w 3 [] (.or (.or (.w 1 [] (.or (.w 6 [] (.qs [7] (.w 8 [] (.w 9 [] .nil)))) (.w 8 [] (.w 6 [] (.qs [7] (.w 9 [] .nil)))))) (.w 6 [] (.or (.w 1 [] (.qs [7] (.w 8 [] (.w 9 [] .nil)))) (.w 8 [] (.w 1 [] (.qs [7] (.w 9 [] .nil))))))) (.w 8 [] (.or (.w 1 [] (.w 6 [] (.qs [7] (.w 9 [] .nil)))) (.w 6 [] (.w 1 [] (.qs [7] (.w 9 [] .nil))))))))) (.w 6 [] (.or (.or (.w 1 [] (.or (.w 3 [] (.qs [7] (.w 8 [] (.w 9 [] .nil)))) (.w 8 [] (.w 3 [] (.qs [7] (.w 9 [] .nil)))))) (.w 3 [] (.or (.w 1 [] (.qs [7] (.w 8 [] (.w 9 [] .nil)))) (.w 8 [] (.w 1 [] (.qs [7] (.w 9 [] .nil))))))) (.w 8 [] (.or (.w 1 [] (.w 3 [] (.qs [7] (.w 9 [] .nil)))) (.w 3 [] (.w 1 [] (.qs [7] (.w 9 [] .nil))))))))) (.w 8 [] (.or (.or (.w 1 [] (.or (.w 3 [] (.w 6 [] (.qs [7] (.w 9 [] .nil)))) (.w 6 [] (.w 3 [] (.qs [7] (.w 9 [] .nil)))))) (.w 3 [] (.or (.w 1 [] (.w 6 [] (.qs [7] (.w 9 [] .nil)))) (.w 6 [] (.w 1 [] (.qs [7] (.w 9 [] .nil))))))) (.w 6 [] (.or (.w 1 [] (.w 3 [] (.qs [7] (.w 9 [] .nil)))) (.w 3 [] (.w 1 [] (.qs [7] (.w 9 [] .nil))))))))))
 | _ => .nil
@[simp] def P29 : Nat → Plan
 | 11 => (.qs [0, 1, 2, 3, 4, 5, 6, 7, 8] (.or (.w 9 [1, 0] (.qs [10, 11] (.or (.w 12 [] (.qs [13, 14, 15, 16, 17] (.w 18 [] (.w 19 [] (.qs [20, 21, 22] .nil))))) (.w 18 [11, 1, 0] (.w 12 [] (.qs [13, 14, 15, 16, 17] (.w 19 [] (.qs [20, 21, 22] .nil)))))))) (.w 18 [6, 1, 0] (.w 9 [1, 0] (.qs [10, 11] (.w 12 [] (.qs [13, 14, 15, 16, 17] (.w 19 [] (.qs [20, 21, 22] .nil)))))))))
 | _ => .nil
@[simp] def P211 : Nat → Plan
 | 3 => (.qs [0, 1, 2, 3, 4, 5, 6] .nil)
 | _ => .nil
@[simp] def P185 : Nat → Plan
 | 4 => (.qs [0, 1, 2, 3, 4] (.w 5 [] (.w 6 [] .nil)))
 | _ => .nil
@[simp] def P104 : Nat → Plan
 | 3 => (.qs [0, 1, 2, 3, 4, 5, 6, 7] (.w 8 [] (.qs [9, 10] .nil)))
 | _ => .nil
@[simp] def P69 : Nat → Plan
 | 1 => (.qs [0, 1, 2] (.w 3 [] (.qs [4, 5, 6, 7, 8, 9, 10, 11, 12, 13, 14, 15, 16] .nil)))
 | _ => .nil
@[simp] def P75 : Nat → Plan
 | 1 => (.qs [0, 1, 2, 3, 4, 5, 6, 7, 8, 9, 10, 11, 12, 13] .nil)
 | _ => .nil
@[simp] def P7 : Nat → Plan
 | 2 => (.qs [0, 1, 3] (.or (.w 2 [0] (.or (.w 4 [] (.qs [5, 6, 7] (.w 8 [] (.w 9 [] (.qs [10] .nil))))) (.w 8 [0] (.w 4 [] (.qs [5, 6, 7] (.w 9 [] (.qs [10] .nil))))))) (.w 8 [1, 0] (.w 2 [0] (.w 4 [] (.qs [5, 6, 7] (.w 9 [] (.qs [10] .nil))))))))
 | 3 => (.qs [0, 2, 3] (.w 1 [3, 2] (.qs [4] (.w 5 [] .nil))))
 | _ => .nil
end Go.Hb
