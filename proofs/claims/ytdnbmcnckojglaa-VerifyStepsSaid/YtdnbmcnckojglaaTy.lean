/-
  A layer for reasoning about the program's calls, and contracts of its functions (Ty). CONDITIONS: none; each theorem bears its own.
-/
import Derived.Test.YtdnbmcnckojglaaProg
import Derived.Test.YtdnbmcnckojglaaL5
set_option linter.unusedVariables false
set_option linter.unusedSimpArgs false
namespace Go.Hb
open Go Go.Proofs
@[simp] theorem sz1 : szT Try.prog 1 = some 1 := by kernel_rfl
@[simp] theorem by1 : bytesT Try.prog 1 = some 8 := by kernel_rfl
@[simp] theorem ag1 : aggT Try.prog 1 = some false := by kernel_rfl
@[simp] theorem ze1 : zeroT Try.prog 1 = some (.nilf) := by kernel_rfl
attribute [simp] Try.underlying1
@[simp] theorem sz2 : szT Try.prog 2 = some 1 := by kernel_rfl
@[simp] theorem by2 : bytesT Try.prog 2 = some 8 := by kernel_rfl
@[simp] theorem ag2 : aggT Try.prog 2 = some false := by kernel_rfl
@[simp] theorem ze2 : zeroT Try.prog 2 = some (.int .i64 0) := by kernel_rfl
attribute [simp] Try.underlying2
@[simp] theorem sz3 : szT Try.prog 3 = some 1 := by kernel_rfl
@[simp] theorem by3 : bytesT Try.prog 3 = some 8 := by kernel_rfl
@[simp] theorem ag3 : aggT Try.prog 3 = some false := by kernel_rfl
@[simp] theorem ze3 : zeroT Try.prog 3 = some (.int .i64 0) := by kernel_rfl
attribute [simp] Try.underlying3
@[simp] theorem sz4 : szT Try.prog 4 = some 1 := by kernel_rfl
@[simp] theorem by4 : bytesT Try.prog 4 = some 1 := by kernel_rfl
@[simp] theorem ag4 : aggT Try.prog 4 = some false := by kernel_rfl
@[simp] theorem ze4 : zeroT Try.prog 4 = some (.bool false) := by kernel_rfl
attribute [simp] Try.underlying4
@[simp] theorem sz5 : szT Try.prog 5 = some 1 := by kernel_rfl
@[simp] theorem by5 : bytesT Try.prog 5 = some 1 := by kernel_rfl
@[simp] theorem ag5 : aggT Try.prog 5 = some false := by kernel_rfl
@[simp] theorem ze5 : zeroT Try.prog 5 = some (.int .u8 0) := by kernel_rfl
attribute [simp] Try.underlying5
@[simp] theorem sz9 : szT Try.prog 9 = some 1 := by kernel_rfl
@[simp] theorem by9 : bytesT Try.prog 9 = some 16 := by kernel_rfl
@[simp] theorem ag9 : aggT Try.prog 9 = some false := by kernel_rfl
@[simp] theorem ze9 : zeroT Try.prog 9 = some (.str .empty) := by kernel_rfl
attribute [simp] Try.underlying9
@[simp] theorem sz12 : szT Try.prog 12 = some 1 := by kernel_rfl
@[simp] theorem by12 : bytesT Try.prog 12 = some 8 := by kernel_rfl
@[simp] theorem ag12 : aggT Try.prog 12 = some false := by kernel_rfl
@[simp] theorem ze12 : zeroT Try.prog 12 = some (.int .u64 0) := by kernel_rfl
attribute [simp] Try.underlying12
@[simp] theorem sz13 : szT Try.prog 13 = some 2 := by kernel_rfl
@[simp] theorem by13 : bytesT Try.prog 13 = some 24 := by kernel_rfl
@[simp] theorem ag13 : aggT Try.prog 13 = some true := by kernel_rfl
@[simp] theorem ze13 : zeroT Try.prog 13 = some (.agg [.str .empty, .int .u64 0]) := by kernel_rfl
@[simp] theorem pl13_0 : placeT Try.prog 13 0 = some (0, 1) := by kernel_rfl
@[simp] theorem pl13_1 : placeT Try.prog 13 1 = some (1, 1) := by kernel_rfl
@[simp] theorem si13 : sizesT Try.prog 13 = true := by kernel_rfl
@[simp] theorem fl13_0 : fldT Try.prog 13 0 = some ⟨"msg", 9, 0, false, "", "runtime", 0⟩ := by kernel_rfl
@[simp] theorem fl13_1 : fldT Try.prog 13 1 = some ⟨"addr", 12, 1, false, "", "runtime", 16⟩ := by kernel_rfl
attribute [simp] Try.underlying13
@[simp] theorem sz21 : szT Try.prog 21 = some 1 := by kernel_rfl
@[simp] theorem by21 : bytesT Try.prog 21 = some 4 := by kernel_rfl
@[simp] theorem ag21 : aggT Try.prog 21 = some false := by kernel_rfl
@[simp] theorem ze21 : zeroT Try.prog 21 = some (.int .i32 0) := by kernel_rfl
attribute [simp] Try.underlying21
@[simp] theorem sz22 : szT Try.prog 22 = some 1 := by kernel_rfl
@[simp] theorem by22 : bytesT Try.prog 22 = some 24 := by kernel_rfl
@[simp] theorem ag22 : aggT Try.prog 22 = some false := by kernel_rfl
@[simp] theorem ze22 : zeroT Try.prog 22 = some (.nils) := by kernel_rfl
attribute [simp] Try.underlying22
@[simp] theorem sz23 : szT Try.prog 23 = some 1 := by kernel_rfl
@[simp] theorem by23 : bytesT Try.prog 23 = some 24 := by kernel_rfl
@[simp] theorem ag23 : aggT Try.prog 23 = some false := by kernel_rfl
@[simp] theorem ze23 : zeroT Try.prog 23 = some (.nils) := by kernel_rfl
attribute [simp] Try.underlying23
@[simp] theorem sz24 : szT Try.prog 24 = some 1 := by kernel_rfl
@[simp] theorem by24 : bytesT Try.prog 24 = some 24 := by kernel_rfl
@[simp] theorem ag24 : aggT Try.prog 24 = some false := by kernel_rfl
@[simp] theorem ze24 : zeroT Try.prog 24 = some (.nils) := by kernel_rfl
attribute [simp] Try.underlying24
@[simp] theorem sz25 : szT Try.prog 25 = some 7 := by kernel_rfl
@[simp] theorem by25 : bytesT Try.prog 25 = some 136 := by kernel_rfl
@[simp] theorem ag25 : aggT Try.prog 25 = some true := by kernel_rfl
@[simp] theorem ze25 : zeroT Try.prog 25 = some (.agg [.nils, .int .i64 0, .nils, .nils, .nils, .nils, .int .i64 0]) := by kernel_rfl
@[simp] theorem pl25_0 : placeT Try.prog 25 0 = some (0, 1) := by kernel_rfl
@[simp] theorem pl25_1 : placeT Try.prog 25 1 = some (1, 1) := by kernel_rfl
@[simp] theorem pl25_2 : placeT Try.prog 25 2 = some (2, 1) := by kernel_rfl
@[simp] theorem pl25_3 : placeT Try.prog 25 3 = some (3, 1) := by kernel_rfl
@[simp] theorem pl25_4 : placeT Try.prog 25 4 = some (4, 1) := by kernel_rfl
@[simp] theorem pl25_5 : placeT Try.prog 25 5 = some (5, 1) := by kernel_rfl
@[simp] theorem pl25_6 : placeT Try.prog 25 6 = some (6, 1) := by kernel_rfl
@[simp] theorem si25 : sizesT Try.prog 25 = true := by kernel_rfl
@[simp] theorem fl25_0 : fldT Try.prog 25 0 = some ⟨"Funcs", 22, 0, false, "", "", 0⟩ := by kernel_rfl
@[simp] theorem fl25_1 : fldT Try.prog 25 1 = some ⟨"Mutexes", 3, 1, false, "", "", 24⟩ := by kernel_rfl
@[simp] theorem fl25_2 : fldT Try.prog 25 2 = some ⟨"Conds", 23, 2, false, "", "", 32⟩ := by kernel_rfl
@[simp] theorem fl25_3 : fldT Try.prog 25 3 = some ⟨"Semas", 23, 3, false, "", "", 56⟩ := by kernel_rfl
@[simp] theorem fl25_4 : fldT Try.prog 25 4 = some ⟨"Chans", 23, 4, false, "", "", 80⟩ := by kernel_rfl
@[simp] theorem fl25_5 : fldT Try.prog 25 5 = some ⟨"Choices", 24, 5, false, "", "", 104⟩ := by kernel_rfl
@[simp] theorem fl25_6 : fldT Try.prog 25 6 = some ⟨"Threads", 3, 6, false, "", "", 128⟩ := by kernel_rfl
attribute [simp] Try.underlying25
@[simp] theorem sz26 : szT Try.prog 26 = some 7 := by kernel_rfl
@[simp] theorem by26 : bytesT Try.prog 26 = some 136 := by kernel_rfl
@[simp] theorem ag26 : aggT Try.prog 26 = some true := by kernel_rfl
@[simp] theorem ze26 : zeroT Try.prog 26 = some (.agg [.nils, .int .i64 0, .nils, .nils, .nils, .nils, .int .i64 0]) := by kernel_rfl
@[simp] theorem pl26_0 : placeT Try.prog 26 0 = some (0, 1) := by kernel_rfl
@[simp] theorem pl26_1 : placeT Try.prog 26 1 = some (1, 1) := by kernel_rfl
@[simp] theorem pl26_2 : placeT Try.prog 26 2 = some (2, 1) := by kernel_rfl
@[simp] theorem pl26_3 : placeT Try.prog 26 3 = some (3, 1) := by kernel_rfl
@[simp] theorem pl26_4 : placeT Try.prog 26 4 = some (4, 1) := by kernel_rfl
@[simp] theorem pl26_5 : placeT Try.prog 26 5 = some (5, 1) := by kernel_rfl
@[simp] theorem pl26_6 : placeT Try.prog 26 6 = some (6, 1) := by kernel_rfl
@[simp] theorem si26 : sizesT Try.prog 26 = true := by kernel_rfl
@[simp] theorem fl26_0 : fldT Try.prog 26 0 = some ⟨"Funcs", 22, 0, false, "", "", 0⟩ := by kernel_rfl
@[simp] theorem fl26_1 : fldT Try.prog 26 1 = some ⟨"Mutexes", 3, 1, false, "", "", 24⟩ := by kernel_rfl
@[simp] theorem fl26_2 : fldT Try.prog 26 2 = some ⟨"Conds", 23, 2, false, "", "", 32⟩ := by kernel_rfl
@[simp] theorem fl26_3 : fldT Try.prog 26 3 = some ⟨"Semas", 23, 3, false, "", "", 56⟩ := by kernel_rfl
@[simp] theorem fl26_4 : fldT Try.prog 26 4 = some ⟨"Chans", 23, 4, false, "", "", 80⟩ := by kernel_rfl
@[simp] theorem fl26_5 : fldT Try.prog 26 5 = some ⟨"Choices", 24, 5, false, "", "", 104⟩ := by kernel_rfl
@[simp] theorem fl26_6 : fldT Try.prog 26 6 = some ⟨"Threads", 3, 6, false, "", "", 128⟩ := by kernel_rfl
attribute [simp] Try.underlying26
@[simp] theorem sz27 : szT Try.prog 27 = some 1 := by kernel_rfl
@[simp] theorem by27 : bytesT Try.prog 27 = some 8 := by kernel_rfl
@[simp] theorem ag27 : aggT Try.prog 27 = some false := by kernel_rfl
@[simp] theorem ze27 : zeroT Try.prog 27 = some (.nilf) := by kernel_rfl
attribute [simp] Try.underlying27
@[simp] theorem sz28 : szT Try.prog 28 = some 1 := by kernel_rfl
@[simp] theorem by28 : bytesT Try.prog 28 = some 24 := by kernel_rfl
@[simp] theorem ag28 : aggT Try.prog 28 = some false := by kernel_rfl
@[simp] theorem ze28 : zeroT Try.prog 28 = some (.nils) := by kernel_rfl
attribute [simp] Try.underlying28
@[simp] theorem sz29 : szT Try.prog 29 = some 10 := by kernel_rfl
@[simp] theorem by29 : bytesT Try.prog 29 = some 224 := by kernel_rfl
@[simp] theorem ag29 : aggT Try.prog 29 = some true := by kernel_rfl
@[simp] theorem ze29 : zeroT Try.prog 29 = some (.agg [.int .i64 0, .nils, .nils, .nils, .nils, .nils, .nils, .nils, .nils, .nils]) := by kernel_rfl
@[simp] theorem pl29_0 : placeT Try.prog 29 0 = some (0, 1) := by kernel_rfl
@[simp] theorem pl29_1 : placeT Try.prog 29 1 = some (1, 1) := by kernel_rfl
@[simp] theorem pl29_2 : placeT Try.prog 29 2 = some (2, 1) := by kernel_rfl
@[simp] theorem pl29_3 : placeT Try.prog 29 3 = some (3, 1) := by kernel_rfl
@[simp] theorem pl29_4 : placeT Try.prog 29 4 = some (4, 1) := by kernel_rfl
@[simp] theorem pl29_5 : placeT Try.prog 29 5 = some (5, 1) := by kernel_rfl
@[simp] theorem pl29_6 : placeT Try.prog 29 6 = some (6, 1) := by kernel_rfl
@[simp] theorem pl29_7 : placeT Try.prog 29 7 = some (7, 1) := by kernel_rfl
@[simp] theorem pl29_8 : placeT Try.prog 29 8 = some (8, 1) := by kernel_rfl
@[simp] theorem pl29_9 : placeT Try.prog 29 9 = some (9, 1) := by kernel_rfl
@[simp] theorem si29 : sizesT Try.prog 29 = true := by kernel_rfl
@[simp] theorem fl29_0 : fldT Try.prog 29 0 = some ⟨"Now", 3, 0, false, "", "", 0⟩ := by kernel_rfl
@[simp] theorem fl29_1 : fldT Try.prog 29 1 = some ⟨"Threads", 28, 1, false, "", "", 8⟩ := by kernel_rfl
@[simp] theorem fl29_2 : fldT Try.prog 29 2 = some ⟨"Owners", 23, 2, false, "", "", 32⟩ := by kernel_rfl
@[simp] theorem fl29_3 : fldT Try.prog 29 3 = some ⟨"Counts", 23, 3, false, "", "", 56⟩ := by kernel_rfl
@[simp] theorem fl29_4 : fldT Try.prog 29 4 = some ⟨"Bufs", 24, 4, false, "", "", 80⟩ := by kernel_rfl
@[simp] theorem fl29_5 : fldT Try.prog 29 5 = some ⟨"LockQ", 24, 5, false, "", "", 104⟩ := by kernel_rfl
@[simp] theorem fl29_6 : fldT Try.prog 29 6 = some ⟨"WaitQ", 24, 6, false, "", "", 128⟩ := by kernel_rfl
@[simp] theorem fl29_7 : fldT Try.prog 29 7 = some ⟨"DownQ", 24, 7, false, "", "", 152⟩ := by kernel_rfl
@[simp] theorem fl29_8 : fldT Try.prog 29 8 = some ⟨"SendQ", 24, 8, false, "", "", 176⟩ := by kernel_rfl
@[simp] theorem fl29_9 : fldT Try.prog 29 9 = some ⟨"RecvQ", 24, 9, false, "", "", 200⟩ := by kernel_rfl
attribute [simp] Try.underlying29
@[simp] theorem sz30 : szT Try.prog 30 = some 10 := by kernel_rfl
@[simp] theorem by30 : bytesT Try.prog 30 = some 224 := by kernel_rfl
@[simp] theorem ag30 : aggT Try.prog 30 = some true := by kernel_rfl
@[simp] theorem ze30 : zeroT Try.prog 30 = some (.agg [.int .i64 0, .nils, .nils, .nils, .nils, .nils, .nils, .nils, .nils, .nils]) := by kernel_rfl
@[simp] theorem pl30_0 : placeT Try.prog 30 0 = some (0, 1) := by kernel_rfl
@[simp] theorem pl30_1 : placeT Try.prog 30 1 = some (1, 1) := by kernel_rfl
@[simp] theorem pl30_2 : placeT Try.prog 30 2 = some (2, 1) := by kernel_rfl
@[simp] theorem pl30_3 : placeT Try.prog 30 3 = some (3, 1) := by kernel_rfl
@[simp] theorem pl30_4 : placeT Try.prog 30 4 = some (4, 1) := by kernel_rfl
@[simp] theorem pl30_5 : placeT Try.prog 30 5 = some (5, 1) := by kernel_rfl
@[simp] theorem pl30_6 : placeT Try.prog 30 6 = some (6, 1) := by kernel_rfl
@[simp] theorem pl30_7 : placeT Try.prog 30 7 = some (7, 1) := by kernel_rfl
@[simp] theorem pl30_8 : placeT Try.prog 30 8 = some (8, 1) := by kernel_rfl
@[simp] theorem pl30_9 : placeT Try.prog 30 9 = some (9, 1) := by kernel_rfl
@[simp] theorem si30 : sizesT Try.prog 30 = true := by kernel_rfl
@[simp] theorem fl30_0 : fldT Try.prog 30 0 = some ⟨"Now", 3, 0, false, "", "", 0⟩ := by kernel_rfl
@[simp] theorem fl30_1 : fldT Try.prog 30 1 = some ⟨"Threads", 28, 1, false, "", "", 8⟩ := by kernel_rfl
@[simp] theorem fl30_2 : fldT Try.prog 30 2 = some ⟨"Owners", 23, 2, false, "", "", 32⟩ := by kernel_rfl
@[simp] theorem fl30_3 : fldT Try.prog 30 3 = some ⟨"Counts", 23, 3, false, "", "", 56⟩ := by kernel_rfl
@[simp] theorem fl30_4 : fldT Try.prog 30 4 = some ⟨"Bufs", 24, 4, false, "", "", 80⟩ := by kernel_rfl
@[simp] theorem fl30_5 : fldT Try.prog 30 5 = some ⟨"LockQ", 24, 5, false, "", "", 104⟩ := by kernel_rfl
@[simp] theorem fl30_6 : fldT Try.prog 30 6 = some ⟨"WaitQ", 24, 6, false, "", "", 128⟩ := by kernel_rfl
@[simp] theorem fl30_7 : fldT Try.prog 30 7 = some ⟨"DownQ", 24, 7, false, "", "", 152⟩ := by kernel_rfl
@[simp] theorem fl30_8 : fldT Try.prog 30 8 = some ⟨"SendQ", 24, 8, false, "", "", 176⟩ := by kernel_rfl
@[simp] theorem fl30_9 : fldT Try.prog 30 9 = some ⟨"RecvQ", 24, 9, false, "", "", 200⟩ := by kernel_rfl
attribute [simp] Try.underlying30
@[simp] theorem sz31 : szT Try.prog 31 = some 1 := by kernel_rfl
@[simp] theorem by31 : bytesT Try.prog 31 = some 8 := by kernel_rfl
@[simp] theorem ag31 : aggT Try.prog 31 = some false := by kernel_rfl
@[simp] theorem ze31 : zeroT Try.prog 31 = some (.nilf) := by kernel_rfl
attribute [simp] Try.underlying31
@[simp] theorem sz32 : szT Try.prog 32 = some 1 := by kernel_rfl
@[simp] theorem by32 : bytesT Try.prog 32 = some 24 := by kernel_rfl
@[simp] theorem ag32 : aggT Try.prog 32 = some false := by kernel_rfl
@[simp] theorem ze32 : zeroT Try.prog 32 = some (.nils) := by kernel_rfl
attribute [simp] Try.underlying32
@[simp] theorem sz34 : szT Try.prog 34 = some 1 := by kernel_rfl
@[simp] theorem by34 : bytesT Try.prog 34 = some 8 := by kernel_rfl
@[simp] theorem ag34 : aggT Try.prog 34 = some false := by kernel_rfl
@[simp] theorem ze34 : zeroT Try.prog 34 = some (.nilf) := by kernel_rfl
attribute [simp] Try.underlying34
@[simp] theorem sz35 : szT Try.prog 35 = some 1 := by kernel_rfl
@[simp] theorem by35 : bytesT Try.prog 35 = some 8 := by kernel_rfl
@[simp] theorem ag35 : aggT Try.prog 35 = some false := by kernel_rfl
@[simp] theorem ze35 : zeroT Try.prog 35 = some (.nilf) := by kernel_rfl
attribute [simp] Try.underlying35
@[simp] theorem sz36 : szT Try.prog 36 = some 1 := by kernel_rfl
@[simp] theorem by36 : bytesT Try.prog 36 = some 8 := by kernel_rfl
@[simp] theorem ag36 : aggT Try.prog 36 = some false := by kernel_rfl
@[simp] theorem ze36 : zeroT Try.prog 36 = some (.nilf) := by kernel_rfl
attribute [simp] Try.underlying36
@[simp] theorem sz37 : szT Try.prog 37 = some 1 := by kernel_rfl
@[simp] theorem by37 : bytesT Try.prog 37 = some 8 := by kernel_rfl
@[simp] theorem ag37 : aggT Try.prog 37 = some false := by kernel_rfl
@[simp] theorem ze37 : zeroT Try.prog 37 = some (.nilf) := by kernel_rfl
attribute [simp] Try.underlying37
@[simp] theorem sz38 : szT Try.prog 38 = some 19 := by kernel_rfl
@[simp] theorem by38 : bytesT Try.prog 38 = some 376 := by kernel_rfl
@[simp] theorem ag38 : aggT Try.prog 38 = some true := by kernel_rfl
@[simp] theorem ze38 : zeroT Try.prog 38 = some (.agg [.int .i64 0, .int .i64 0, .nils, .int .i64 0, .nils, .nils, .nils, .nils, .int .i64 0, .int .i64 0, .nils, .nils, .nils, .nils, .nils, .nils, .nils, .nils, .nils]) := by kernel_rfl
@[simp] theorem pl38_0 : placeT Try.prog 38 0 = some (0, 1) := by kernel_rfl
@[simp] theorem pl38_1 : placeT Try.prog 38 1 = some (1, 1) := by kernel_rfl
@[simp] theorem pl38_2 : placeT Try.prog 38 2 = some (2, 7) := by kernel_rfl
@[simp] theorem pl38_3 : placeT Try.prog 38 3 = some (9, 10) := by kernel_rfl
@[simp] theorem si38 : sizesT Try.prog 38 = true := by kernel_rfl
@[simp] theorem fl38_0 : fldT Try.prog 38 0 = some ⟨"Version", 3, 0, false, "", "", 0⟩ := by kernel_rfl
@[simp] theorem fl38_1 : fldT Try.prog 38 1 = some ⟨"Epoch", 3, 1, false, "", "", 8⟩ := by kernel_rfl
@[simp] theorem fl38_2 : fldT Try.prog 38 2 = some ⟨"Program", 26, 2, false, "", "", 16⟩ := by kernel_rfl
@[simp] theorem fl38_3 : fldT Try.prog 38 3 = some ⟨"Core", 30, 9, false, "", "", 152⟩ := by kernel_rfl
attribute [simp] Try.underlying38
@[simp] theorem sz39 : szT Try.prog 39 = some 19 := by kernel_rfl
@[simp] theorem by39 : bytesT Try.prog 39 = some 376 := by kernel_rfl
@[simp] theorem ag39 : aggT Try.prog 39 = some true := by kernel_rfl
@[simp] theorem ze39 : zeroT Try.prog 39 = some (.agg [.int .i64 0, .int .i64 0, .nils, .int .i64 0, .nils, .nils, .nils, .nils, .int .i64 0, .int .i64 0, .nils, .nils, .nils, .nils, .nils, .nils, .nils, .nils, .nils]) := by kernel_rfl
@[simp] theorem pl39_0 : placeT Try.prog 39 0 = some (0, 1) := by kernel_rfl
@[simp] theorem pl39_1 : placeT Try.prog 39 1 = some (1, 1) := by kernel_rfl
@[simp] theorem pl39_2 : placeT Try.prog 39 2 = some (2, 7) := by kernel_rfl
@[simp] theorem pl39_3 : placeT Try.prog 39 3 = some (9, 10) := by kernel_rfl
@[simp] theorem si39 : sizesT Try.prog 39 = true := by kernel_rfl
@[simp] theorem fl39_0 : fldT Try.prog 39 0 = some ⟨"Version", 3, 0, false, "", "", 0⟩ := by kernel_rfl
@[simp] theorem fl39_1 : fldT Try.prog 39 1 = some ⟨"Epoch", 3, 1, false, "", "", 8⟩ := by kernel_rfl
@[simp] theorem fl39_2 : fldT Try.prog 39 2 = some ⟨"Program", 26, 2, false, "", "", 16⟩ := by kernel_rfl
@[simp] theorem fl39_3 : fldT Try.prog 39 3 = some ⟨"Core", 30, 9, false, "", "", 152⟩ := by kernel_rfl
attribute [simp] Try.underlying39
@[simp] theorem sz40 : szT Try.prog 40 = some 1 := by kernel_rfl
@[simp] theorem by40 : bytesT Try.prog 40 = some 8 := by kernel_rfl
@[simp] theorem ag40 : aggT Try.prog 40 = some false := by kernel_rfl
@[simp] theorem ze40 : zeroT Try.prog 40 = some (.nilf) := by kernel_rfl
attribute [simp] Try.underlying40
@[simp] theorem sz41 : szT Try.prog 41 = some 1 := by kernel_rfl
@[simp] theorem by41 : bytesT Try.prog 41 = some 8 := by kernel_rfl
@[simp] theorem ag41 : aggT Try.prog 41 = some false := by kernel_rfl
@[simp] theorem ze41 : zeroT Try.prog 41 = some (.nilf) := by kernel_rfl
attribute [simp] Try.underlying41
@[simp] theorem sz42 : szT Try.prog 42 = some 1 := by kernel_rfl
@[simp] theorem by42 : bytesT Try.prog 42 = some 24 := by kernel_rfl
@[simp] theorem ag42 : aggT Try.prog 42 = some false := by kernel_rfl
@[simp] theorem ze42 : zeroT Try.prog 42 = some (.nils) := by kernel_rfl
attribute [simp] Try.underlying42
@[simp] theorem sz43 : szT Try.prog 43 = some 5 := by kernel_rfl
@[simp] theorem by43 : bytesT Try.prog 43 = some 72 := by kernel_rfl
@[simp] theorem ag43 : aggT Try.prog 43 = some true := by kernel_rfl
@[simp] theorem ze43 : zeroT Try.prog 43 = some (.agg [.int .i64 0, .int .i64 0, .nils, .nils, .int .i64 0]) := by kernel_rfl
@[simp] theorem pl43_0 : placeT Try.prog 43 0 = some (0, 1) := by kernel_rfl
@[simp] theorem pl43_1 : placeT Try.prog 43 1 = some (1, 1) := by kernel_rfl
@[simp] theorem pl43_2 : placeT Try.prog 43 2 = some (2, 1) := by kernel_rfl
@[simp] theorem pl43_3 : placeT Try.prog 43 3 = some (3, 1) := by kernel_rfl
@[simp] theorem pl43_4 : placeT Try.prog 43 4 = some (4, 1) := by kernel_rfl
@[simp] theorem si43 : sizesT Try.prog 43 = true := by kernel_rfl
@[simp] theorem fl43_0 : fldT Try.prog 43 0 = some ⟨"State", 3, 0, false, "", "", 0⟩ := by kernel_rfl
@[simp] theorem fl43_1 : fldT Try.prog 43 1 = some ⟨"On", 3, 1, false, "", "", 8⟩ := by kernel_rfl
@[simp] theorem fl43_2 : fldT Try.prog 43 2 = some ⟨"Frames", 42, 2, false, "", "", 16⟩ := by kernel_rfl
@[simp] theorem fl43_3 : fldT Try.prog 43 3 = some ⟨"Stack", 23, 3, false, "", "", 40⟩ := by kernel_rfl
@[simp] theorem fl43_4 : fldT Try.prog 43 4 = some ⟨"Code", 3, 4, false, "", "", 64⟩ := by kernel_rfl
attribute [simp] Try.underlying43
@[simp] theorem sz44 : szT Try.prog 44 = some 5 := by kernel_rfl
@[simp] theorem by44 : bytesT Try.prog 44 = some 72 := by kernel_rfl
@[simp] theorem ag44 : aggT Try.prog 44 = some true := by kernel_rfl
@[simp] theorem ze44 : zeroT Try.prog 44 = some (.agg [.int .i64 0, .int .i64 0, .nils, .nils, .int .i64 0]) := by kernel_rfl
@[simp] theorem pl44_0 : placeT Try.prog 44 0 = some (0, 1) := by kernel_rfl
@[simp] theorem pl44_1 : placeT Try.prog 44 1 = some (1, 1) := by kernel_rfl
@[simp] theorem pl44_2 : placeT Try.prog 44 2 = some (2, 1) := by kernel_rfl
@[simp] theorem pl44_3 : placeT Try.prog 44 3 = some (3, 1) := by kernel_rfl
@[simp] theorem pl44_4 : placeT Try.prog 44 4 = some (4, 1) := by kernel_rfl
@[simp] theorem si44 : sizesT Try.prog 44 = true := by kernel_rfl
@[simp] theorem fl44_0 : fldT Try.prog 44 0 = some ⟨"State", 3, 0, false, "", "", 0⟩ := by kernel_rfl
@[simp] theorem fl44_1 : fldT Try.prog 44 1 = some ⟨"On", 3, 1, false, "", "", 8⟩ := by kernel_rfl
@[simp] theorem fl44_2 : fldT Try.prog 44 2 = some ⟨"Frames", 42, 2, false, "", "", 16⟩ := by kernel_rfl
@[simp] theorem fl44_3 : fldT Try.prog 44 3 = some ⟨"Stack", 23, 3, false, "", "", 40⟩ := by kernel_rfl
@[simp] theorem fl44_4 : fldT Try.prog 44 4 = some ⟨"Code", 3, 4, false, "", "", 64⟩ := by kernel_rfl
attribute [simp] Try.underlying44
@[simp] theorem sz45 : szT Try.prog 45 = some 1 := by kernel_rfl
@[simp] theorem by45 : bytesT Try.prog 45 = some 8 := by kernel_rfl
@[simp] theorem ag45 : aggT Try.prog 45 = some false := by kernel_rfl
@[simp] theorem ze45 : zeroT Try.prog 45 = some (.nilf) := by kernel_rfl
attribute [simp] Try.underlying45
@[simp] theorem sz47 : szT Try.prog 47 = some 1 := by kernel_rfl
@[simp] theorem by47 : bytesT Try.prog 47 = some 8 := by kernel_rfl
@[simp] theorem ag47 : aggT Try.prog 47 = some false := by kernel_rfl
@[simp] theorem ze47 : zeroT Try.prog 47 = some (.nilf) := by kernel_rfl
attribute [simp] Try.underlying47
@[simp] theorem sz48 : szT Try.prog 48 = some 1 := by kernel_rfl
@[simp] theorem by48 : bytesT Try.prog 48 = some 8 := by kernel_rfl
@[simp] theorem ag48 : aggT Try.prog 48 = some false := by kernel_rfl
@[simp] theorem ze48 : zeroT Try.prog 48 = some (.nilf) := by kernel_rfl
attribute [simp] Try.underlying48
@[simp] theorem sz49 : szT Try.prog 49 = some 1 := by kernel_rfl
@[simp] theorem by49 : bytesT Try.prog 49 = some 8 := by kernel_rfl
@[simp] theorem ag49 : aggT Try.prog 49 = some false := by kernel_rfl
@[simp] theorem ze49 : zeroT Try.prog 49 = some (.nilf) := by kernel_rfl
attribute [simp] Try.underlying49
@[simp] theorem sz50 : szT Try.prog 50 = some 1 := by kernel_rfl
@[simp] theorem by50 : bytesT Try.prog 50 = some 24 := by kernel_rfl
@[simp] theorem ag50 : aggT Try.prog 50 = some false := by kernel_rfl
@[simp] theorem ze50 : zeroT Try.prog 50 = some (.nils) := by kernel_rfl
attribute [simp] Try.underlying50
@[simp] theorem sz51 : szT Try.prog 51 = some 2 := by kernel_rfl
@[simp] theorem by51 : bytesT Try.prog 51 = some 32 := by kernel_rfl
@[simp] theorem ag51 : aggT Try.prog 51 = some true := by kernel_rfl
@[simp] theorem ze51 : zeroT Try.prog 51 = some (.agg [.int .i64 0, .nils]) := by kernel_rfl
@[simp] theorem pl51_0 : placeT Try.prog 51 0 = some (0, 1) := by kernel_rfl
@[simp] theorem pl51_1 : placeT Try.prog 51 1 = some (1, 1) := by kernel_rfl
@[simp] theorem si51 : sizesT Try.prog 51 = true := by kernel_rfl
@[simp] theorem fl51_0 : fldT Try.prog 51 0 = some ⟨"Locals", 3, 0, false, "", "", 0⟩ := by kernel_rfl
@[simp] theorem fl51_1 : fldT Try.prog 51 1 = some ⟨"Code", 50, 1, false, "", "", 8⟩ := by kernel_rfl
attribute [simp] Try.underlying51
@[simp] theorem sz52 : szT Try.prog 52 = some 2 := by kernel_rfl
@[simp] theorem by52 : bytesT Try.prog 52 = some 32 := by kernel_rfl
@[simp] theorem ag52 : aggT Try.prog 52 = some true := by kernel_rfl
@[simp] theorem ze52 : zeroT Try.prog 52 = some (.agg [.int .i64 0, .nils]) := by kernel_rfl
@[simp] theorem pl52_0 : placeT Try.prog 52 0 = some (0, 1) := by kernel_rfl
@[simp] theorem pl52_1 : placeT Try.prog 52 1 = some (1, 1) := by kernel_rfl
@[simp] theorem si52 : sizesT Try.prog 52 = true := by kernel_rfl
@[simp] theorem fl52_0 : fldT Try.prog 52 0 = some ⟨"Locals", 3, 0, false, "", "", 0⟩ := by kernel_rfl
@[simp] theorem fl52_1 : fldT Try.prog 52 1 = some ⟨"Code", 50, 1, false, "", "", 8⟩ := by kernel_rfl
attribute [simp] Try.underlying52
@[simp] theorem sz53 : szT Try.prog 53 = some 2 := by kernel_rfl
@[simp] theorem by53 : bytesT Try.prog 53 = some 16 := by kernel_rfl
@[simp] theorem ag53 : aggT Try.prog 53 = some true := by kernel_rfl
@[simp] theorem ze53 : zeroT Try.prog 53 = some (.agg [.int .i64 0, .int .i64 0]) := by kernel_rfl
@[simp] theorem pl53_0 : placeT Try.prog 53 0 = some (0, 1) := by kernel_rfl
@[simp] theorem pl53_1 : placeT Try.prog 53 1 = some (1, 1) := by kernel_rfl
@[simp] theorem si53 : sizesT Try.prog 53 = true := by kernel_rfl
@[simp] theorem is53 : intStruct Try.prog 53 2 = true := by kernel_rfl
@[simp] theorem fl53_0 : fldT Try.prog 53 0 = some ⟨"Op", 3, 0, false, "", "", 0⟩ := by kernel_rfl
@[simp] theorem fl53_1 : fldT Try.prog 53 1 = some ⟨"A", 3, 1, false, "", "", 8⟩ := by kernel_rfl
attribute [simp] Try.underlying53
@[simp] theorem sz54 : szT Try.prog 54 = some 2 := by kernel_rfl
@[simp] theorem by54 : bytesT Try.prog 54 = some 16 := by kernel_rfl
@[simp] theorem ag54 : aggT Try.prog 54 = some true := by kernel_rfl
@[simp] theorem ze54 : zeroT Try.prog 54 = some (.agg [.int .i64 0, .int .i64 0]) := by kernel_rfl
@[simp] theorem pl54_0 : placeT Try.prog 54 0 = some (0, 1) := by kernel_rfl
@[simp] theorem pl54_1 : placeT Try.prog 54 1 = some (1, 1) := by kernel_rfl
@[simp] theorem si54 : sizesT Try.prog 54 = true := by kernel_rfl
@[simp] theorem is54 : intStruct Try.prog 54 2 = true := by kernel_rfl
@[simp] theorem fl54_0 : fldT Try.prog 54 0 = some ⟨"Op", 3, 0, false, "", "", 0⟩ := by kernel_rfl
@[simp] theorem fl54_1 : fldT Try.prog 54 1 = some ⟨"A", 3, 1, false, "", "", 8⟩ := by kernel_rfl
attribute [simp] Try.underlying54
@[simp] theorem sz55 : szT Try.prog 55 = some 1 := by kernel_rfl
@[simp] theorem by55 : bytesT Try.prog 55 = some 8 := by kernel_rfl
@[simp] theorem ag55 : aggT Try.prog 55 = some false := by kernel_rfl
@[simp] theorem ze55 : zeroT Try.prog 55 = some (.nilf) := by kernel_rfl
attribute [simp] Try.underlying55
@[simp] theorem sz56 : szT Try.prog 56 = some 1 := by kernel_rfl
@[simp] theorem by56 : bytesT Try.prog 56 = some 8 := by kernel_rfl
@[simp] theorem ag56 : aggT Try.prog 56 = some false := by kernel_rfl
@[simp] theorem ze56 : zeroT Try.prog 56 = some (.nilf) := by kernel_rfl
attribute [simp] Try.underlying56
@[simp] theorem sz57 : szT Try.prog 57 = some 1 := by kernel_rfl
@[simp] theorem by57 : bytesT Try.prog 57 = some 8 := by kernel_rfl
@[simp] theorem ag57 : aggT Try.prog 57 = some false := by kernel_rfl
@[simp] theorem ze57 : zeroT Try.prog 57 = some (.nilf) := by kernel_rfl
attribute [simp] Try.underlying57
@[simp] theorem sz58 : szT Try.prog 58 = some 1 := by kernel_rfl
@[simp] theorem by58 : bytesT Try.prog 58 = some 8 := by kernel_rfl
@[simp] theorem ag58 : aggT Try.prog 58 = some false := by kernel_rfl
@[simp] theorem ze58 : zeroT Try.prog 58 = some (.nilf) := by kernel_rfl
attribute [simp] Try.underlying58
@[simp] theorem sz59 : szT Try.prog 59 = some 1 := by kernel_rfl
@[simp] theorem by59 : bytesT Try.prog 59 = some 8 := by kernel_rfl
@[simp] theorem ag59 : aggT Try.prog 59 = some false := by kernel_rfl
@[simp] theorem ze59 : zeroT Try.prog 59 = some (.nilf) := by kernel_rfl
attribute [simp] Try.underlying59
@[simp] theorem sz61 : szT Try.prog 61 = some 1 := by kernel_rfl
@[simp] theorem by61 : bytesT Try.prog 61 = some 8 := by kernel_rfl
@[simp] theorem ag61 : aggT Try.prog 61 = some false := by kernel_rfl
@[simp] theorem ze61 : zeroT Try.prog 61 = some (.nilf) := by kernel_rfl
attribute [simp] Try.underlying61
@[simp] theorem sz63 : szT Try.prog 63 = some 1 := by kernel_rfl
@[simp] theorem by63 : bytesT Try.prog 63 = some 8 := by kernel_rfl
@[simp] theorem ag63 : aggT Try.prog 63 = some false := by kernel_rfl
@[simp] theorem ze63 : zeroT Try.prog 63 = some (.nilf) := by kernel_rfl
attribute [simp] Try.underlying63
@[simp] theorem sz64 : szT Try.prog 64 = some 1 := by kernel_rfl
@[simp] theorem by64 : bytesT Try.prog 64 = some 8 := by kernel_rfl
@[simp] theorem ag64 : aggT Try.prog 64 = some false := by kernel_rfl
@[simp] theorem ze64 : zeroT Try.prog 64 = some (.int .i64 0) := by kernel_rfl
attribute [simp] Try.underlying64
@[simp] theorem sz66 : szT Try.prog 66 = some 1 := by kernel_rfl
@[simp] theorem by66 : bytesT Try.prog 66 = some 8 := by kernel_rfl
@[simp] theorem ag66 : aggT Try.prog 66 = some false := by kernel_rfl
@[simp] theorem ze66 : zeroT Try.prog 66 = some (.nilf) := by kernel_rfl
attribute [simp] Try.underlying66
@[simp] theorem sz67 : szT Try.prog 67 = some 1 := by kernel_rfl
@[simp] theorem by67 : bytesT Try.prog 67 = some 8 := by kernel_rfl
@[simp] theorem ag67 : aggT Try.prog 67 = some false := by kernel_rfl
@[simp] theorem ze67 : zeroT Try.prog 67 = some (.nilf) := by kernel_rfl
attribute [simp] Try.underlying67
@[simp] theorem sz68 : szT Try.prog 68 = some 1 := by kernel_rfl
@[simp] theorem by68 : bytesT Try.prog 68 = some 8 := by kernel_rfl
@[simp] theorem ag68 : aggT Try.prog 68 = some false := by kernel_rfl
@[simp] theorem ze68 : zeroT Try.prog 68 = some (.nilf) := by kernel_rfl
attribute [simp] Try.underlying68
@[simp] theorem sz69 : szT Try.prog 69 = some 1 := by kernel_rfl
@[simp] theorem by69 : bytesT Try.prog 69 = some 8 := by kernel_rfl
@[simp] theorem ag69 : aggT Try.prog 69 = some false := by kernel_rfl
@[simp] theorem ze69 : zeroT Try.prog 69 = some (.nilf) := by kernel_rfl
attribute [simp] Try.underlying69
@[simp] theorem sz70 : szT Try.prog 70 = some 1 := by kernel_rfl
@[simp] theorem by70 : bytesT Try.prog 70 = some 8 := by kernel_rfl
@[simp] theorem ag70 : aggT Try.prog 70 = some false := by kernel_rfl
@[simp] theorem ze70 : zeroT Try.prog 70 = some (.nilf) := by kernel_rfl
attribute [simp] Try.underlying70
@[simp] theorem sz71 : szT Try.prog 71 = some 1 := by kernel_rfl
@[simp] theorem by71 : bytesT Try.prog 71 = some 8 := by kernel_rfl
@[simp] theorem ag71 : aggT Try.prog 71 = some false := by kernel_rfl
@[simp] theorem ze71 : zeroT Try.prog 71 = some (.nilf) := by kernel_rfl
attribute [simp] Try.underlying71
@[simp] theorem sz72 : szT Try.prog 72 = some 3 := by kernel_rfl
@[simp] theorem by72 : bytesT Try.prog 72 = some 40 := by kernel_rfl
@[simp] theorem ag72 : aggT Try.prog 72 = some true := by kernel_rfl
@[simp] theorem ze72 : zeroT Try.prog 72 = some (.agg [.int .i64 0, .int .i64 0, .nils]) := by kernel_rfl
@[simp] theorem pl72_0 : placeT Try.prog 72 0 = some (0, 1) := by kernel_rfl
@[simp] theorem pl72_1 : placeT Try.prog 72 1 = some (1, 1) := by kernel_rfl
@[simp] theorem pl72_2 : placeT Try.prog 72 2 = some (2, 1) := by kernel_rfl
@[simp] theorem si72 : sizesT Try.prog 72 = true := by kernel_rfl
@[simp] theorem fl72_0 : fldT Try.prog 72 0 = some ⟨"Func", 3, 0, false, "", "", 0⟩ := by kernel_rfl
@[simp] theorem fl72_1 : fldT Try.prog 72 1 = some ⟨"Pc", 3, 1, false, "", "", 8⟩ := by kernel_rfl
@[simp] theorem fl72_2 : fldT Try.prog 72 2 = some ⟨"Locals", 23, 2, false, "", "", 16⟩ := by kernel_rfl
attribute [simp] Try.underlying72
@[simp] theorem sz73 : szT Try.prog 73 = some 3 := by kernel_rfl
@[simp] theorem by73 : bytesT Try.prog 73 = some 40 := by kernel_rfl
@[simp] theorem ag73 : aggT Try.prog 73 = some true := by kernel_rfl
@[simp] theorem ze73 : zeroT Try.prog 73 = some (.agg [.int .i64 0, .int .i64 0, .nils]) := by kernel_rfl
@[simp] theorem pl73_0 : placeT Try.prog 73 0 = some (0, 1) := by kernel_rfl
@[simp] theorem pl73_1 : placeT Try.prog 73 1 = some (1, 1) := by kernel_rfl
@[simp] theorem pl73_2 : placeT Try.prog 73 2 = some (2, 1) := by kernel_rfl
@[simp] theorem si73 : sizesT Try.prog 73 = true := by kernel_rfl
@[simp] theorem fl73_0 : fldT Try.prog 73 0 = some ⟨"Func", 3, 0, false, "", "", 0⟩ := by kernel_rfl
@[simp] theorem fl73_1 : fldT Try.prog 73 1 = some ⟨"Pc", 3, 1, false, "", "", 8⟩ := by kernel_rfl
@[simp] theorem fl73_2 : fldT Try.prog 73 2 = some ⟨"Locals", 23, 2, false, "", "", 16⟩ := by kernel_rfl
attribute [simp] Try.underlying73
@[simp] theorem sz74 : szT Try.prog 74 = some 1 := by kernel_rfl
@[simp] theorem by74 : bytesT Try.prog 74 = some 8 := by kernel_rfl
@[simp] theorem ag74 : aggT Try.prog 74 = some false := by kernel_rfl
@[simp] theorem ze74 : zeroT Try.prog 74 = some (.nilf) := by kernel_rfl
attribute [simp] Try.underlying74
@[simp] theorem sz75 : szT Try.prog 75 = some 1 := by kernel_rfl
@[simp] theorem by75 : bytesT Try.prog 75 = some 8 := by kernel_rfl
@[simp] theorem ag75 : aggT Try.prog 75 = some false := by kernel_rfl
@[simp] theorem ze75 : zeroT Try.prog 75 = some (.nilf) := by kernel_rfl
attribute [simp] Try.underlying75
@[simp] theorem sz76 : szT Try.prog 76 = some 1 := by kernel_rfl
@[simp] theorem by76 : bytesT Try.prog 76 = some 8 := by kernel_rfl
@[simp] theorem ag76 : aggT Try.prog 76 = some false := by kernel_rfl
@[simp] theorem ze76 : zeroT Try.prog 76 = some (.nilf) := by kernel_rfl
attribute [simp] Try.underlying76
@[simp] theorem sz77 : szT Try.prog 77 = some 3 := by kernel_rfl
@[simp] theorem by77 : bytesT Try.prog 77 = some 24 := by kernel_rfl
@[simp] theorem ag77 : aggT Try.prog 77 = some true := by kernel_rfl
@[simp] theorem ze77 : zeroT Try.prog 77 = some (.agg [.int .i64 0, .int .i64 0, .int .i64 0]) := by kernel_rfl
@[simp] theorem pl77_0 : placeT Try.prog 77 0 = some (0, 1) := by kernel_rfl
@[simp] theorem pl77_1 : placeT Try.prog 77 1 = some (1, 1) := by kernel_rfl
@[simp] theorem pl77_2 : placeT Try.prog 77 2 = some (2, 1) := by kernel_rfl
@[simp] theorem si77 : sizesT Try.prog 77 = true := by kernel_rfl
@[simp] theorem is77 : intStruct Try.prog 77 3 = true := by kernel_rfl
@[simp] theorem fl77_0 : fldT Try.prog 77 0 = some ⟨"Kind", 3, 0, false, "", "", 0⟩ := by kernel_rfl
@[simp] theorem fl77_1 : fldT Try.prog 77 1 = some ⟨"A", 3, 1, false, "", "", 8⟩ := by kernel_rfl
@[simp] theorem fl77_2 : fldT Try.prog 77 2 = some ⟨"V", 3, 2, false, "", "", 16⟩ := by kernel_rfl
attribute [simp] Try.underlying77
@[simp] theorem sz78 : szT Try.prog 78 = some 3 := by kernel_rfl
@[simp] theorem by78 : bytesT Try.prog 78 = some 24 := by kernel_rfl
@[simp] theorem ag78 : aggT Try.prog 78 = some true := by kernel_rfl
@[simp] theorem ze78 : zeroT Try.prog 78 = some (.agg [.int .i64 0, .int .i64 0, .int .i64 0]) := by kernel_rfl
@[simp] theorem pl78_0 : placeT Try.prog 78 0 = some (0, 1) := by kernel_rfl
@[simp] theorem pl78_1 : placeT Try.prog 78 1 = some (1, 1) := by kernel_rfl
@[simp] theorem pl78_2 : placeT Try.prog 78 2 = some (2, 1) := by kernel_rfl
@[simp] theorem si78 : sizesT Try.prog 78 = true := by kernel_rfl
@[simp] theorem is78 : intStruct Try.prog 78 3 = true := by kernel_rfl
@[simp] theorem fl78_0 : fldT Try.prog 78 0 = some ⟨"Kind", 3, 0, false, "", "", 0⟩ := by kernel_rfl
@[simp] theorem fl78_1 : fldT Try.prog 78 1 = some ⟨"A", 3, 1, false, "", "", 8⟩ := by kernel_rfl
@[simp] theorem fl78_2 : fldT Try.prog 78 2 = some ⟨"V", 3, 2, false, "", "", 16⟩ := by kernel_rfl
attribute [simp] Try.underlying78
@[simp] theorem sz80 : szT Try.prog 80 = some 1 := by kernel_rfl
@[simp] theorem by80 : bytesT Try.prog 80 = some 8 := by kernel_rfl
@[simp] theorem ag80 : aggT Try.prog 80 = some false := by kernel_rfl
@[simp] theorem ze80 : zeroT Try.prog 80 = some (.nilf) := by kernel_rfl
attribute [simp] Try.underlying80
@[simp] theorem sz81 : szT Try.prog 81 = some 20 := by kernel_rfl
@[simp] theorem by81 : bytesT Try.prog 81 = some 416 := by kernel_rfl
@[simp] theorem ag81 : aggT Try.prog 81 = some true := by kernel_rfl
@[simp] theorem ze81 : zeroT Try.prog 81 = some (.agg [.nils, .int .i64 0, .nils, .nils, .nils, .nils, .int .i64 0, .int .i64 0, .nils, .nils, .nils, .nils, .nils, .nils, .nils, .nils, .nils, .int .i64 0, .nils, .nils]) := by kernel_rfl
@[simp] theorem pl81_0 : placeT Try.prog 81 0 = some (0, 7) := by kernel_rfl
@[simp] theorem pl81_1 : placeT Try.prog 81 1 = some (7, 10) := by kernel_rfl
@[simp] theorem pl81_2 : placeT Try.prog 81 2 = some (17, 1) := by kernel_rfl
@[simp] theorem pl81_3 : placeT Try.prog 81 3 = some (18, 1) := by kernel_rfl
@[simp] theorem pl81_4 : placeT Try.prog 81 4 = some (19, 1) := by kernel_rfl
@[simp] theorem si81 : sizesT Try.prog 81 = true := by kernel_rfl
@[simp] theorem fl81_0 : fldT Try.prog 81 0 = some ⟨"P", 26, 0, false, "", "", 0⟩ := by kernel_rfl
@[simp] theorem fl81_1 : fldT Try.prog 81 1 = some ⟨"C", 30, 7, false, "", "", 136⟩ := by kernel_rfl
@[simp] theorem fl81_2 : fldT Try.prog 81 2 = some ⟨"T", 3, 17, false, "", "", 360⟩ := by kernel_rfl
@[simp] theorem fl81_3 : fldT Try.prog 81 3 = some ⟨"Seen", 32, 18, false, "", "", 368⟩ := by kernel_rfl
@[simp] theorem fl81_4 : fldT Try.prog 81 4 = some ⟨"Woken", 23, 19, false, "", "", 392⟩ := by kernel_rfl
attribute [simp] Try.underlying81
@[simp] theorem sz82 : szT Try.prog 82 = some 20 := by kernel_rfl
@[simp] theorem by82 : bytesT Try.prog 82 = some 416 := by kernel_rfl
@[simp] theorem ag82 : aggT Try.prog 82 = some true := by kernel_rfl
@[simp] theorem ze82 : zeroT Try.prog 82 = some (.agg [.nils, .int .i64 0, .nils, .nils, .nils, .nils, .int .i64 0, .int .i64 0, .nils, .nils, .nils, .nils, .nils, .nils, .nils, .nils, .nils, .int .i64 0, .nils, .nils]) := by kernel_rfl
@[simp] theorem pl82_0 : placeT Try.prog 82 0 = some (0, 7) := by kernel_rfl
@[simp] theorem pl82_1 : placeT Try.prog 82 1 = some (7, 10) := by kernel_rfl
@[simp] theorem pl82_2 : placeT Try.prog 82 2 = some (17, 1) := by kernel_rfl
@[simp] theorem pl82_3 : placeT Try.prog 82 3 = some (18, 1) := by kernel_rfl
@[simp] theorem pl82_4 : placeT Try.prog 82 4 = some (19, 1) := by kernel_rfl
@[simp] theorem si82 : sizesT Try.prog 82 = true := by kernel_rfl
@[simp] theorem fl82_0 : fldT Try.prog 82 0 = some ⟨"P", 26, 0, false, "", "", 0⟩ := by kernel_rfl
@[simp] theorem fl82_1 : fldT Try.prog 82 1 = some ⟨"C", 30, 7, false, "", "", 136⟩ := by kernel_rfl
@[simp] theorem fl82_2 : fldT Try.prog 82 2 = some ⟨"T", 3, 17, false, "", "", 360⟩ := by kernel_rfl
@[simp] theorem fl82_3 : fldT Try.prog 82 3 = some ⟨"Seen", 32, 18, false, "", "", 368⟩ := by kernel_rfl
@[simp] theorem fl82_4 : fldT Try.prog 82 4 = some ⟨"Woken", 23, 19, false, "", "", 392⟩ := by kernel_rfl
attribute [simp] Try.underlying82
@[simp] theorem sz83 : szT Try.prog 83 = some 1 := by kernel_rfl
@[simp] theorem by83 : bytesT Try.prog 83 = some 8 := by kernel_rfl
@[simp] theorem ag83 : aggT Try.prog 83 = some false := by kernel_rfl
@[simp] theorem ze83 : zeroT Try.prog 83 = some (.nilf) := by kernel_rfl
attribute [simp] Try.underlying83
@[simp] theorem sz84 : szT Try.prog 84 = some 1 := by kernel_rfl
@[simp] theorem by84 : bytesT Try.prog 84 = some 8 := by kernel_rfl
@[simp] theorem ag84 : aggT Try.prog 84 = some false := by kernel_rfl
@[simp] theorem ze84 : zeroT Try.prog 84 = some (.nilf) := by kernel_rfl
attribute [simp] Try.underlying84
@[simp] theorem sz85 : szT Try.prog 85 = some 3 := by kernel_rfl
@[simp] theorem by85 : bytesT Try.prog 85 = some 32 := by kernel_rfl
@[simp] theorem ag85 : aggT Try.prog 85 = some true := by kernel_rfl
@[simp] theorem ze85 : zeroT Try.prog 85 = some (.agg [.str .empty, .int .i64 0, .nilf]) := by kernel_rfl
@[simp] theorem pl85_0 : placeT Try.prog 85 0 = some (0, 1) := by kernel_rfl
@[simp] theorem pl85_1 : placeT Try.prog 85 1 = some (1, 1) := by kernel_rfl
@[simp] theorem pl85_2 : placeT Try.prog 85 2 = some (2, 1) := by kernel_rfl
@[simp] theorem si85 : sizesT Try.prog 85 = true := by kernel_rfl
@[simp] theorem fl85_0 : fldT Try.prog 85 0 = some ⟨"name", 9, 0, false, "", "hibernacle/verify", 0⟩ := by kernel_rfl
@[simp] theorem fl85_1 : fldT Try.prog 85 1 = some ⟨"places", 3, 1, false, "", "hibernacle/verify", 16⟩ := by kernel_rfl
@[simp] theorem fl85_2 : fldT Try.prog 85 2 = some ⟨"holds", 71, 2, false, "", "hibernacle/verify", 24⟩ := by kernel_rfl
attribute [simp] Try.underlying85
@[simp] theorem sz86 : szT Try.prog 86 = some 3 := by kernel_rfl
@[simp] theorem by86 : bytesT Try.prog 86 = some 32 := by kernel_rfl
@[simp] theorem ag86 : aggT Try.prog 86 = some true := by kernel_rfl
@[simp] theorem ze86 : zeroT Try.prog 86 = some (.agg [.str .empty, .int .i64 0, .nilf]) := by kernel_rfl
@[simp] theorem pl86_0 : placeT Try.prog 86 0 = some (0, 1) := by kernel_rfl
@[simp] theorem pl86_1 : placeT Try.prog 86 1 = some (1, 1) := by kernel_rfl
@[simp] theorem pl86_2 : placeT Try.prog 86 2 = some (2, 1) := by kernel_rfl
@[simp] theorem si86 : sizesT Try.prog 86 = true := by kernel_rfl
@[simp] theorem fl86_0 : fldT Try.prog 86 0 = some ⟨"name", 9, 0, false, "", "hibernacle/verify", 0⟩ := by kernel_rfl
@[simp] theorem fl86_1 : fldT Try.prog 86 1 = some ⟨"places", 3, 1, false, "", "hibernacle/verify", 16⟩ := by kernel_rfl
@[simp] theorem fl86_2 : fldT Try.prog 86 2 = some ⟨"holds", 71, 2, false, "", "hibernacle/verify", 24⟩ := by kernel_rfl
attribute [simp] Try.underlying86
@[simp] theorem sz87 : szT Try.prog 87 = some 24 := by kernel_rfl
@[simp] theorem by87 : bytesT Try.prog 87 = some 256 := by kernel_rfl
@[simp] theorem ag87 : aggT Try.prog 87 = some true := by kernel_rfl
@[simp] theorem ze87 : zeroT Try.prog 87 = some (.agg [.str .empty, .int .i64 0, .nilf, .str .empty, .int .i64 0, .nilf, .str .empty, .int .i64 0, .nilf, .str .empty, .int .i64 0, .nilf, .str .empty, .int .i64 0, .nilf, .str .empty, .int .i64 0, .nilf, .str .empty, .int .i64 0, .nilf, .str .empty, .int .i64 0, .nilf]) := by kernel_rfl
@[simp] theorem si87 : sizesT Try.prog 87 = true := by kernel_rfl
@[simp] theorem pl87_0 : placeT Try.prog 87 0 = some (0, 3) := by kernel_rfl
@[simp] theorem pl87_1 : placeT Try.prog 87 1 = some (3, 3) := by kernel_rfl
@[simp] theorem pl87_2 : placeT Try.prog 87 2 = some (6, 3) := by kernel_rfl
@[simp] theorem pl87_3 : placeT Try.prog 87 3 = some (9, 3) := by kernel_rfl
@[simp] theorem pl87_4 : placeT Try.prog 87 4 = some (12, 3) := by kernel_rfl
@[simp] theorem pl87_5 : placeT Try.prog 87 5 = some (15, 3) := by kernel_rfl
@[simp] theorem pl87_6 : placeT Try.prog 87 6 = some (18, 3) := by kernel_rfl
@[simp] theorem pl87_7 : placeT Try.prog 87 7 = some (21, 3) := by kernel_rfl
attribute [simp] Try.underlying87
@[simp] theorem sz88 : szT Try.prog 88 = some 1 := by kernel_rfl
@[simp] theorem by88 : bytesT Try.prog 88 = some 8 := by kernel_rfl
@[simp] theorem ag88 : aggT Try.prog 88 = some false := by kernel_rfl
@[simp] theorem ze88 : zeroT Try.prog 88 = some (.nilf) := by kernel_rfl
attribute [simp] Try.underlying88
@[simp] theorem sz90 : szT Try.prog 90 = some 1 := by kernel_rfl
@[simp] theorem by90 : bytesT Try.prog 90 = some 8 := by kernel_rfl
@[simp] theorem ag90 : aggT Try.prog 90 = some false := by kernel_rfl
@[simp] theorem ze90 : zeroT Try.prog 90 = some (.nilf) := by kernel_rfl
attribute [simp] Try.underlying90
@[simp] theorem sz91 : szT Try.prog 91 = some 1 := by kernel_rfl
@[simp] theorem by91 : bytesT Try.prog 91 = some 8 := by kernel_rfl
@[simp] theorem ag91 : aggT Try.prog 91 = some false := by kernel_rfl
@[simp] theorem ze91 : zeroT Try.prog 91 = some (.nilf) := by kernel_rfl
attribute [simp] Try.underlying91
@[simp] theorem sz92 : szT Try.prog 92 = some 1 := by kernel_rfl
@[simp] theorem by92 : bytesT Try.prog 92 = some 8 := by kernel_rfl
@[simp] theorem ag92 : aggT Try.prog 92 = some false := by kernel_rfl
@[simp] theorem ze92 : zeroT Try.prog 92 = some (.nilf) := by kernel_rfl
attribute [simp] Try.underlying92
@[simp] theorem sz94 : szT Try.prog 94 = some 1 := by kernel_rfl
@[simp] theorem by94 : bytesT Try.prog 94 = some 8 := by kernel_rfl
@[simp] theorem ag94 : aggT Try.prog 94 = some false := by kernel_rfl
@[simp] theorem ze94 : zeroT Try.prog 94 = some (.nilf) := by kernel_rfl
attribute [simp] Try.underlying94
@[simp] theorem sz95 : szT Try.prog 95 = some 1 := by kernel_rfl
@[simp] theorem by95 : bytesT Try.prog 95 = some 8 := by kernel_rfl
@[simp] theorem ag95 : aggT Try.prog 95 = some false := by kernel_rfl
@[simp] theorem ze95 : zeroT Try.prog 95 = some (.nilf) := by kernel_rfl
attribute [simp] Try.underlying95
@[simp] theorem sz97 : szT Try.prog 97 = some 1 := by kernel_rfl
@[simp] theorem by97 : bytesT Try.prog 97 = some 8 := by kernel_rfl
@[simp] theorem ag97 : aggT Try.prog 97 = some false := by kernel_rfl
@[simp] theorem ze97 : zeroT Try.prog 97 = some (.nilf) := by kernel_rfl
attribute [simp] Try.underlying97
@[simp] theorem sz98 : szT Try.prog 98 = some 1 := by kernel_rfl
@[simp] theorem by98 : bytesT Try.prog 98 = some 8 := by kernel_rfl
@[simp] theorem ag98 : aggT Try.prog 98 = some false := by kernel_rfl
@[simp] theorem ze98 : zeroT Try.prog 98 = some (.nilf) := by kernel_rfl
attribute [simp] Try.underlying98
@[simp] theorem sz99 : szT Try.prog 99 = some 1 := by kernel_rfl
@[simp] theorem by99 : bytesT Try.prog 99 = some 8 := by kernel_rfl
@[simp] theorem ag99 : aggT Try.prog 99 = some false := by kernel_rfl
@[simp] theorem ze99 : zeroT Try.prog 99 = some (.nilf) := by kernel_rfl
attribute [simp] Try.underlying99
@[simp] theorem sz100 : szT Try.prog 100 = some 1 := by kernel_rfl
@[simp] theorem by100 : bytesT Try.prog 100 = some 8 := by kernel_rfl
@[simp] theorem ag100 : aggT Try.prog 100 = some false := by kernel_rfl
@[simp] theorem ze100 : zeroT Try.prog 100 = some (.nilf) := by kernel_rfl
attribute [simp] Try.underlying100
@[simp] theorem sz101 : szT Try.prog 101 = some 1 := by kernel_rfl
@[simp] theorem by101 : bytesT Try.prog 101 = some 8 := by kernel_rfl
@[simp] theorem ag101 : aggT Try.prog 101 = some false := by kernel_rfl
@[simp] theorem ze101 : zeroT Try.prog 101 = some (.nilf) := by kernel_rfl
attribute [simp] Try.underlying101
@[simp] theorem sz102 : szT Try.prog 102 = some 1 := by kernel_rfl
@[simp] theorem by102 : bytesT Try.prog 102 = some 8 := by kernel_rfl
@[simp] theorem ag102 : aggT Try.prog 102 = some false := by kernel_rfl
@[simp] theorem ze102 : zeroT Try.prog 102 = some (.nilf) := by kernel_rfl
attribute [simp] Try.underlying102
@[simp] theorem sz103 : szT Try.prog 103 = some 1 := by kernel_rfl
@[simp] theorem by103 : bytesT Try.prog 103 = some 8 := by kernel_rfl
@[simp] theorem ag103 : aggT Try.prog 103 = some false := by kernel_rfl
@[simp] theorem ze103 : zeroT Try.prog 103 = some (.nilf) := by kernel_rfl
attribute [simp] Try.underlying103
@[simp] theorem sz104 : szT Try.prog 104 = some 1 := by kernel_rfl
@[simp] theorem by104 : bytesT Try.prog 104 = some 8 := by kernel_rfl
@[simp] theorem ag104 : aggT Try.prog 104 = some false := by kernel_rfl
@[simp] theorem ze104 : zeroT Try.prog 104 = some (.nilf) := by kernel_rfl
attribute [simp] Try.underlying104
@[simp] theorem sz105 : szT Try.prog 105 = some 17 := by kernel_rfl
@[simp] theorem by105 : bytesT Try.prog 105 = some 360 := by kernel_rfl
@[simp] theorem ag105 : aggT Try.prog 105 = some true := by kernel_rfl
@[simp] theorem ze105 : zeroT Try.prog 105 = some (.agg [.nils, .int .i64 0, .nils, .nils, .nils, .nils, .int .i64 0, .int .i64 0, .nils, .nils, .nils, .nils, .nils, .nils, .nils, .nils, .nils]) := by kernel_rfl
@[simp] theorem pl105_0 : placeT Try.prog 105 0 = some (0, 7) := by kernel_rfl
@[simp] theorem pl105_1 : placeT Try.prog 105 1 = some (7, 10) := by kernel_rfl
@[simp] theorem si105 : sizesT Try.prog 105 = true := by kernel_rfl
@[simp] theorem fl105_0 : fldT Try.prog 105 0 = some ⟨"p", 26, 0, false, "", "hibernacle/verify", 0⟩ := by kernel_rfl
@[simp] theorem fl105_1 : fldT Try.prog 105 1 = some ⟨"c", 30, 7, false, "", "hibernacle/verify", 136⟩ := by kernel_rfl
attribute [simp] Try.underlying105
@[simp] theorem sz106 : szT Try.prog 106 = some 17 := by kernel_rfl
@[simp] theorem by106 : bytesT Try.prog 106 = some 360 := by kernel_rfl
@[simp] theorem ag106 : aggT Try.prog 106 = some true := by kernel_rfl
@[simp] theorem ze106 : zeroT Try.prog 106 = some (.agg [.nils, .int .i64 0, .nils, .nils, .nils, .nils, .int .i64 0, .int .i64 0, .nils, .nils, .nils, .nils, .nils, .nils, .nils, .nils, .nils]) := by kernel_rfl
@[simp] theorem pl106_0 : placeT Try.prog 106 0 = some (0, 7) := by kernel_rfl
@[simp] theorem pl106_1 : placeT Try.prog 106 1 = some (7, 10) := by kernel_rfl
@[simp] theorem si106 : sizesT Try.prog 106 = true := by kernel_rfl
@[simp] theorem fl106_0 : fldT Try.prog 106 0 = some ⟨"p", 26, 0, false, "", "hibernacle/verify", 0⟩ := by kernel_rfl
@[simp] theorem fl106_1 : fldT Try.prog 106 1 = some ⟨"c", 30, 7, false, "", "hibernacle/verify", 136⟩ := by kernel_rfl
attribute [simp] Try.underlying106
@[simp] theorem sz107 : szT Try.prog 107 = some 1 := by kernel_rfl
@[simp] theorem by107 : bytesT Try.prog 107 = some 8 := by kernel_rfl
@[simp] theorem ag107 : aggT Try.prog 107 = some false := by kernel_rfl
@[simp] theorem ze107 : zeroT Try.prog 107 = some (.nilf) := by kernel_rfl
attribute [simp] Try.underlying107
@[simp] theorem sz108 : szT Try.prog 108 = some 1 := by kernel_rfl
@[simp] theorem by108 : bytesT Try.prog 108 = some 8 := by kernel_rfl
@[simp] theorem ag108 : aggT Try.prog 108 = some false := by kernel_rfl
@[simp] theorem ze108 : zeroT Try.prog 108 = some (.nilf) := by kernel_rfl
attribute [simp] Try.underlying108
@[simp] theorem sz109 : szT Try.prog 109 = some 1 := by kernel_rfl
@[simp] theorem by109 : bytesT Try.prog 109 = some 8 := by kernel_rfl
@[simp] theorem ag109 : aggT Try.prog 109 = some false := by kernel_rfl
@[simp] theorem ze109 : zeroT Try.prog 109 = some (.nilf) := by kernel_rfl
attribute [simp] Try.underlying109
@[simp] theorem sz111 : szT Try.prog 111 = some 1 := by kernel_rfl
@[simp] theorem by111 : bytesT Try.prog 111 = some 8 := by kernel_rfl
@[simp] theorem ag111 : aggT Try.prog 111 = some false := by kernel_rfl
@[simp] theorem ze111 : zeroT Try.prog 111 = some (.nilf) := by kernel_rfl
attribute [simp] Try.underlying111
@[simp] theorem sz113 : szT Try.prog 113 = some 1 := by kernel_rfl
@[simp] theorem by113 : bytesT Try.prog 113 = some 8 := by kernel_rfl
@[simp] theorem ag113 : aggT Try.prog 113 = some false := by kernel_rfl
@[simp] theorem ze113 : zeroT Try.prog 113 = some (.nilf) := by kernel_rfl
attribute [simp] Try.underlying113
@[simp] theorem sz114 : szT Try.prog 114 = some 1 := by kernel_rfl
@[simp] theorem by114 : bytesT Try.prog 114 = some 8 := by kernel_rfl
@[simp] theorem ag114 : aggT Try.prog 114 = some false := by kernel_rfl
@[simp] theorem ze114 : zeroT Try.prog 114 = some (.nilf) := by kernel_rfl
attribute [simp] Try.underlying114
@[simp] theorem sz116 : szT Try.prog 116 = some 1 := by kernel_rfl
@[simp] theorem by116 : bytesT Try.prog 116 = some 8 := by kernel_rfl
@[simp] theorem ag116 : aggT Try.prog 116 = some false := by kernel_rfl
@[simp] theorem ze116 : zeroT Try.prog 116 = some (.nilf) := by kernel_rfl
attribute [simp] Try.underlying116
@[simp] theorem sz118 : szT Try.prog 118 = some 1 := by kernel_rfl
@[simp] theorem by118 : bytesT Try.prog 118 = some 8 := by kernel_rfl
@[simp] theorem ag118 : aggT Try.prog 118 = some false := by kernel_rfl
@[simp] theorem ze118 : zeroT Try.prog 118 = some (.nilf) := by kernel_rfl
attribute [simp] Try.underlying118
@[simp] theorem sz119 : szT Try.prog 119 = some 1 := by kernel_rfl
@[simp] theorem by119 : bytesT Try.prog 119 = some 8 := by kernel_rfl
@[simp] theorem ag119 : aggT Try.prog 119 = some false := by kernel_rfl
@[simp] theorem ze119 : zeroT Try.prog 119 = some (.nilf) := by kernel_rfl
attribute [simp] Try.underlying119
@[simp] theorem sz120 : szT Try.prog 120 = some 1 := by kernel_rfl
@[simp] theorem by120 : bytesT Try.prog 120 = some 8 := by kernel_rfl
@[simp] theorem ag120 : aggT Try.prog 120 = some false := by kernel_rfl
@[simp] theorem ze120 : zeroT Try.prog 120 = some (.nilf) := by kernel_rfl
attribute [simp] Try.underlying120
@[simp] theorem sz122 : szT Try.prog 122 = some 1 := by kernel_rfl
@[simp] theorem by122 : bytesT Try.prog 122 = some 8 := by kernel_rfl
@[simp] theorem ag122 : aggT Try.prog 122 = some false := by kernel_rfl
@[simp] theorem ze122 : zeroT Try.prog 122 = some (.nilf) := by kernel_rfl
attribute [simp] Try.underlying122
@[simp] theorem sz124 : szT Try.prog 124 = some 1 := by kernel_rfl
@[simp] theorem by124 : bytesT Try.prog 124 = some 8 := by kernel_rfl
@[simp] theorem ag124 : aggT Try.prog 124 = some false := by kernel_rfl
@[simp] theorem ze124 : zeroT Try.prog 124 = some (.nilf) := by kernel_rfl
attribute [simp] Try.underlying124
@[simp] theorem sz125 : szT Try.prog 125 = some 3 := by kernel_rfl
@[simp] theorem by125 : bytesT Try.prog 125 = some 24 := by kernel_rfl
@[simp] theorem ag125 : aggT Try.prog 125 = some true := by kernel_rfl
@[simp] theorem ze125 : zeroT Try.prog 125 = some (.agg [.int .i64 0, .int .i64 0, .int .i64 0]) := by kernel_rfl
@[simp] theorem pl125_0 : placeT Try.prog 125 0 = some (0, 1) := by kernel_rfl
@[simp] theorem pl125_1 : placeT Try.prog 125 1 = some (1, 1) := by kernel_rfl
@[simp] theorem pl125_2 : placeT Try.prog 125 2 = some (2, 1) := by kernel_rfl
@[simp] theorem si125 : sizesT Try.prog 125 = true := by kernel_rfl
@[simp] theorem is125 : intStruct Try.prog 125 3 = true := by kernel_rfl
@[simp] theorem fl125_0 : fldT Try.prog 125 0 = some ⟨"Kind", 3, 0, false, "", "", 0⟩ := by kernel_rfl
@[simp] theorem fl125_1 : fldT Try.prog 125 1 = some ⟨"Thread", 3, 1, false, "", "", 8⟩ := by kernel_rfl
@[simp] theorem fl125_2 : fldT Try.prog 125 2 = some ⟨"N", 3, 2, false, "", "", 16⟩ := by kernel_rfl
attribute [simp] Try.underlying125
@[simp] theorem sz126 : szT Try.prog 126 = some 3 := by kernel_rfl
@[simp] theorem by126 : bytesT Try.prog 126 = some 24 := by kernel_rfl
@[simp] theorem ag126 : aggT Try.prog 126 = some true := by kernel_rfl
@[simp] theorem ze126 : zeroT Try.prog 126 = some (.agg [.int .i64 0, .int .i64 0, .int .i64 0]) := by kernel_rfl
@[simp] theorem pl126_0 : placeT Try.prog 126 0 = some (0, 1) := by kernel_rfl
@[simp] theorem pl126_1 : placeT Try.prog 126 1 = some (1, 1) := by kernel_rfl
@[simp] theorem pl126_2 : placeT Try.prog 126 2 = some (2, 1) := by kernel_rfl
@[simp] theorem si126 : sizesT Try.prog 126 = true := by kernel_rfl
@[simp] theorem is126 : intStruct Try.prog 126 3 = true := by kernel_rfl
@[simp] theorem fl126_0 : fldT Try.prog 126 0 = some ⟨"Kind", 3, 0, false, "", "", 0⟩ := by kernel_rfl
@[simp] theorem fl126_1 : fldT Try.prog 126 1 = some ⟨"Thread", 3, 1, false, "", "", 8⟩ := by kernel_rfl
@[simp] theorem fl126_2 : fldT Try.prog 126 2 = some ⟨"N", 3, 2, false, "", "", 16⟩ := by kernel_rfl
attribute [simp] Try.underlying126
@[simp] theorem sz127 : szT Try.prog 127 = some 1 := by kernel_rfl
@[simp] theorem by127 : bytesT Try.prog 127 = some 8 := by kernel_rfl
@[simp] theorem ag127 : aggT Try.prog 127 = some false := by kernel_rfl
@[simp] theorem ze127 : zeroT Try.prog 127 = some (.nilf) := by kernel_rfl
attribute [simp] Try.underlying127
@[simp] theorem sz128 : szT Try.prog 128 = some 1 := by kernel_rfl
@[simp] theorem by128 : bytesT Try.prog 128 = some 8 := by kernel_rfl
@[simp] theorem ag128 : aggT Try.prog 128 = some false := by kernel_rfl
@[simp] theorem ze128 : zeroT Try.prog 128 = some (.nilf) := by kernel_rfl
attribute [simp] Try.underlying128
@[simp] theorem sz129 : szT Try.prog 129 = some 1 := by kernel_rfl
@[simp] theorem by129 : bytesT Try.prog 129 = some 8 := by kernel_rfl
@[simp] theorem ag129 : aggT Try.prog 129 = some false := by kernel_rfl
@[simp] theorem ze129 : zeroT Try.prog 129 = some (.nilf) := by kernel_rfl
attribute [simp] Try.underlying129
@[simp] theorem sz130 : szT Try.prog 130 = some 1 := by kernel_rfl
@[simp] theorem by130 : bytesT Try.prog 130 = some 8 := by kernel_rfl
@[simp] theorem ag130 : aggT Try.prog 130 = some false := by kernel_rfl
@[simp] theorem ze130 : zeroT Try.prog 130 = some (.nilf) := by kernel_rfl
attribute [simp] Try.underlying130
@[simp] theorem sz131 : szT Try.prog 131 = some 1 := by kernel_rfl
@[simp] theorem by131 : bytesT Try.prog 131 = some 8 := by kernel_rfl
@[simp] theorem ag131 : aggT Try.prog 131 = some false := by kernel_rfl
@[simp] theorem ze131 : zeroT Try.prog 131 = some (.nilf) := by kernel_rfl
attribute [simp] Try.underlying131
@[simp] theorem sz132 : szT Try.prog 132 = some 1 := by kernel_rfl
@[simp] theorem by132 : bytesT Try.prog 132 = some 8 := by kernel_rfl
@[simp] theorem ag132 : aggT Try.prog 132 = some false := by kernel_rfl
@[simp] theorem ze132 : zeroT Try.prog 132 = some (.nilf) := by kernel_rfl
attribute [simp] Try.underlying132
@[simp] theorem sz133 : szT Try.prog 133 = some 1 := by kernel_rfl
@[simp] theorem by133 : bytesT Try.prog 133 = some 8 := by kernel_rfl
@[simp] theorem ag133 : aggT Try.prog 133 = some false := by kernel_rfl
@[simp] theorem ze133 : zeroT Try.prog 133 = some (.nilf) := by kernel_rfl
attribute [simp] Try.underlying133
@[simp] theorem sz134 : szT Try.prog 134 = some 1 := by kernel_rfl
@[simp] theorem by134 : bytesT Try.prog 134 = some 8 := by kernel_rfl
@[simp] theorem ag134 : aggT Try.prog 134 = some false := by kernel_rfl
@[simp] theorem ze134 : zeroT Try.prog 134 = some (.nilf) := by kernel_rfl
attribute [simp] Try.underlying134
@[simp] theorem sz135 : szT Try.prog 135 = some 1 := by kernel_rfl
@[simp] theorem by135 : bytesT Try.prog 135 = some 8 := by kernel_rfl
@[simp] theorem ag135 : aggT Try.prog 135 = some false := by kernel_rfl
@[simp] theorem ze135 : zeroT Try.prog 135 = some (.nilf) := by kernel_rfl
attribute [simp] Try.underlying135
@[simp] theorem sz136 : szT Try.prog 136 = some 1 := by kernel_rfl
@[simp] theorem by136 : bytesT Try.prog 136 = some 8 := by kernel_rfl
@[simp] theorem ag136 : aggT Try.prog 136 = some false := by kernel_rfl
@[simp] theorem ze136 : zeroT Try.prog 136 = some (.nilf) := by kernel_rfl
attribute [simp] Try.underlying136
@[simp] theorem sz142 : szT Try.prog 142 = some 1 := by kernel_rfl
@[simp] theorem by142 : bytesT Try.prog 142 = some 8 := by kernel_rfl
@[simp] theorem ag142 : aggT Try.prog 142 = some false := by kernel_rfl
@[simp] theorem ze142 : zeroT Try.prog 142 = some (.nilf) := by kernel_rfl
attribute [simp] Try.underlying142
@[simp] theorem sz143 : szT Try.prog 143 = some 1 := by kernel_rfl
@[simp] theorem by143 : bytesT Try.prog 143 = some 4 := by kernel_rfl
@[simp] theorem ag143 : aggT Try.prog 143 = some false := by kernel_rfl
@[simp] theorem ze143 : zeroT Try.prog 143 = some (.int .u32 0) := by kernel_rfl
attribute [simp] Try.underlying143
@[simp] theorem sz147 : szT Try.prog 147 = some 1 := by kernel_rfl
@[simp] theorem by147 : bytesT Try.prog 147 = some 8 := by kernel_rfl
@[simp] theorem ag147 : aggT Try.prog 147 = some false := by kernel_rfl
@[simp] theorem ze147 : zeroT Try.prog 147 = some (.nilp) := by kernel_rfl
attribute [simp] Try.underlying147
theorem mixed : Try.prog.follows .mixedOrders = true := by kernel_rfl
end Go.Hb
