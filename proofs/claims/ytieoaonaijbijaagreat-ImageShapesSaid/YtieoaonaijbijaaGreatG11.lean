/-
  A layer for reasoning about the program's calls, and contracts of its functions. CONDITIONS: none; each theorem bears its own.
-/
import Derived.Test.YtieoaonaijbijaaGreatProg
import Derived.Test.YtieoaonaijbijaaGreatG03
set_option linter.unusedVariables false
set_option linter.unusedSimpArgs false
namespace Go.Hb
open Go Go.Proofs
@[simp] theorem sz3:szT Tryz.prog 3=some 1:=by kernel_rfl
@[simp] theorem by3:zD Tryz.prog 3=some 8:=by kernel_rfl
@[simp] theorem ag3:aggT Tryz.prog 3=some false:=by kernel_rfl
@[simp] theorem ze3:zT Tryz.prog 3=some (.int .i64 0):=by kernel_rfl
attribute [simp] Tryz.underlying3
@[simp] theorem sz4:szT Tryz.prog 4=some 1:=by kernel_rfl
@[simp] theorem by4:zD Tryz.prog 4=some 1:=by kernel_rfl
@[simp] theorem ag4:aggT Tryz.prog 4=some false:=by kernel_rfl
@[simp] theorem ze4:zT Tryz.prog 4=some (.bool false):=by kernel_rfl
attribute [simp] Tryz.underlying4
@[simp] theorem sz5:szT Tryz.prog 5=some 1:=by kernel_rfl
@[simp] theorem by5:zD Tryz.prog 5=some 1:=by kernel_rfl
@[simp] theorem ag5:aggT Tryz.prog 5=some false:=by kernel_rfl
@[simp] theorem ze5:zT Tryz.prog 5=some (.int .u8 0):=by kernel_rfl
attribute [simp] Tryz.underlying5
@[simp] theorem sz9:szT Tryz.prog 9=some 1:=by kernel_rfl
@[simp] theorem by9:zD Tryz.prog 9=some 16:=by kernel_rfl
@[simp] theorem ag9:aggT Tryz.prog 9=some false:=by kernel_rfl
@[simp] theorem ze9:zT Tryz.prog 9=some (.str .empty):=by kernel_rfl
attribute [simp] Tryz.underlying9
@[simp] theorem sz22:szT Tryz.prog 22=some 1:=by kernel_rfl
@[simp] theorem by22:zD Tryz.prog 22=some 24:=by kernel_rfl
@[simp] theorem ag22:aggT Tryz.prog 22=some false:=by kernel_rfl
@[simp] theorem ze22:zT Tryz.prog 22=some (.nils):=by kernel_rfl
attribute [simp] Tryz.underlying22
@[simp] theorem sz23:szT Tryz.prog 23=some 1:=by kernel_rfl
@[simp] theorem by23:zD Tryz.prog 23=some 24:=by kernel_rfl
@[simp] theorem ag23:aggT Tryz.prog 23=some false:=by kernel_rfl
@[simp] theorem ze23:zT Tryz.prog 23=some (.nils):=by kernel_rfl
attribute [simp] Tryz.underlying23
@[simp] theorem sz24:szT Tryz.prog 24=some 1:=by kernel_rfl
@[simp] theorem by24:zD Tryz.prog 24=some 24:=by kernel_rfl
@[simp] theorem ag24:aggT Tryz.prog 24=some false:=by kernel_rfl
@[simp] theorem ze24:zT Tryz.prog 24=some (.nils):=by kernel_rfl
attribute [simp] Tryz.underlying24
@[simp] theorem sz26:szT Tryz.prog 26=some 7:=by kernel_rfl
@[simp] theorem by26:zD Tryz.prog 26=some 136:=by kernel_rfl
@[simp] theorem ag26:aggT Tryz.prog 26=some true:=by kernel_rfl
@[simp] theorem ze26:zT Tryz.prog 26=some (.agg [.nils,.int .i64 0,.nils,.nils,.nils,.nils,.int .i64 0]):=by kernel_rfl
@[simp] theorem pl26_0:zx Tryz.prog 26 0=some (0,1):=by kernel_rfl
@[simp] theorem pl26_1:zx Tryz.prog 26 1=some (1,1):=by kernel_rfl
@[simp] theorem pl26_2:zx Tryz.prog 26 2=some (2,1):=by kernel_rfl
@[simp] theorem pl26_3:zx Tryz.prog 26 3=some (3,1):=by kernel_rfl
@[simp] theorem pl26_4:zx Tryz.prog 26 4=some (4,1):=by kernel_rfl
@[simp] theorem pl26_5:zx Tryz.prog 26 5=some (5,1):=by kernel_rfl
@[simp] theorem pl26_6:zx Tryz.prog 26 6=some (6,1):=by kernel_rfl
@[simp] theorem si26:wa Tryz.prog 26=true:=by kernel_rfl
@[simp] theorem fl26_0 : fldT Tryz.prog 26 0 = some ⟨"Funcs", 22, 0, false, "", "", 0⟩ := by kernel_rfl
@[simp] theorem fl26_1 : fldT Tryz.prog 26 1 = some ⟨"Mutexes", 3, 1, false, "", "", 24⟩ := by kernel_rfl
@[simp] theorem fl26_2 : fldT Tryz.prog 26 2 = some ⟨"Conds", 23, 2, false, "", "", 32⟩ := by kernel_rfl
@[simp] theorem fl26_3 : fldT Tryz.prog 26 3 = some ⟨"Semas", 23, 3, false, "", "", 56⟩ := by kernel_rfl
@[simp] theorem fl26_4 : fldT Tryz.prog 26 4 = some ⟨"Chans", 23, 4, false, "", "", 80⟩ := by kernel_rfl
@[simp] theorem fl26_5 : fldT Tryz.prog 26 5 = some ⟨"Choices", 24, 5, false, "", "", 104⟩ := by kernel_rfl
@[simp] theorem fl26_6 : fldT Tryz.prog 26 6 = some ⟨"Threads", 3, 6, false, "", "", 128⟩ := by kernel_rfl
attribute [simp] Tryz.underlying26
@[simp] theorem sz27:szT Tryz.prog 27=some 1:=by kernel_rfl
@[simp] theorem by27:zD Tryz.prog 27=some 24:=by kernel_rfl
@[simp] theorem ag27:aggT Tryz.prog 27=some false:=by kernel_rfl
@[simp] theorem ze27:zT Tryz.prog 27=some (.nils):=by kernel_rfl
attribute [simp] Tryz.underlying27
@[simp] theorem sz29:szT Tryz.prog 29=some 10:=by kernel_rfl
@[simp] theorem by29:zD Tryz.prog 29=some 224:=by kernel_rfl
@[simp] theorem ag29:aggT Tryz.prog 29=some true:=by kernel_rfl
@[simp] theorem ze29:zT Tryz.prog 29=some (.agg [.int .i64 0,.nils,.nils,.nils,.nils,.nils,.nils,.nils,.nils,.nils]):=by kernel_rfl
@[simp] theorem pl29_0:zx Tryz.prog 29 0=some (0,1):=by kernel_rfl
@[simp] theorem pl29_1:zx Tryz.prog 29 1=some (1,1):=by kernel_rfl
@[simp] theorem pl29_2:zx Tryz.prog 29 2=some (2,1):=by kernel_rfl
@[simp] theorem pl29_3:zx Tryz.prog 29 3=some (3,1):=by kernel_rfl
@[simp] theorem pl29_4:zx Tryz.prog 29 4=some (4,1):=by kernel_rfl
@[simp] theorem pl29_5:zx Tryz.prog 29 5=some (5,1):=by kernel_rfl
@[simp] theorem pl29_6:zx Tryz.prog 29 6=some (6,1):=by kernel_rfl
@[simp] theorem pl29_7:zx Tryz.prog 29 7=some (7,1):=by kernel_rfl
@[simp] theorem pl29_8:zx Tryz.prog 29 8=some (8,1):=by kernel_rfl
@[simp] theorem pl29_9:zx Tryz.prog 29 9=some (9,1):=by kernel_rfl
@[simp] theorem si29:wa Tryz.prog 29=true:=by kernel_rfl
@[simp] theorem fl29_0 : fldT Tryz.prog 29 0 = some ⟨"Now", 3, 0, false, "", "", 0⟩ := by kernel_rfl
@[simp] theorem fl29_1 : fldT Tryz.prog 29 1 = some ⟨"Threads", 27, 1, false, "", "", 8⟩ := by kernel_rfl
@[simp] theorem fl29_2 : fldT Tryz.prog 29 2 = some ⟨"Owners", 23, 2, false, "", "", 32⟩ := by kernel_rfl
@[simp] theorem fl29_3 : fldT Tryz.prog 29 3 = some ⟨"Counts", 23, 3, false, "", "", 56⟩ := by kernel_rfl
@[simp] theorem fl29_4 : fldT Tryz.prog 29 4 = some ⟨"Bufs", 24, 4, false, "", "", 80⟩ := by kernel_rfl
@[simp] theorem fl29_5 : fldT Tryz.prog 29 5 = some ⟨"LockQ", 24, 5, false, "", "", 104⟩ := by kernel_rfl
@[simp] theorem fl29_6 : fldT Tryz.prog 29 6 = some ⟨"WaitQ", 24, 6, false, "", "", 128⟩ := by kernel_rfl
@[simp] theorem fl29_7 : fldT Tryz.prog 29 7 = some ⟨"DownQ", 24, 7, false, "", "", 152⟩ := by kernel_rfl
@[simp] theorem fl29_8 : fldT Tryz.prog 29 8 = some ⟨"SendQ", 24, 8, false, "", "", 176⟩ := by kernel_rfl
@[simp] theorem fl29_9 : fldT Tryz.prog 29 9 = some ⟨"RecvQ", 24, 9, false, "", "", 200⟩ := by kernel_rfl
attribute [simp] Tryz.underlying29
@[simp] theorem sz31:szT Tryz.prog 31=some 19:=by kernel_rfl
@[simp] theorem by31:zD Tryz.prog 31=some 376:=by kernel_rfl
@[simp] theorem ag31:aggT Tryz.prog 31=some true:=by kernel_rfl
@[simp] theorem ze31:zT Tryz.prog 31=some (.agg [.int .i64 0,.int .i64 0,.nils,.int .i64 0,.nils,.nils,.nils,.nils,.int .i64 0,.int .i64 0,.nils,.nils,.nils,.nils,.nils,.nils,.nils,.nils,.nils]):=by kernel_rfl
@[simp] theorem pl31_0:zx Tryz.prog 31 0=some (0,1):=by kernel_rfl
@[simp] theorem pl31_1:zx Tryz.prog 31 1=some (1,1):=by kernel_rfl
@[simp] theorem pl31_2:zx Tryz.prog 31 2=some (2,7):=by kernel_rfl
@[simp] theorem pl31_3:zx Tryz.prog 31 3=some (9,10):=by kernel_rfl
@[simp] theorem si31:wa Tryz.prog 31=true:=by kernel_rfl
@[simp] theorem fl31_0 : fldT Tryz.prog 31 0 = some ⟨"Version", 3, 0, false, "", "", 0⟩ := by kernel_rfl
@[simp] theorem fl31_1 : fldT Tryz.prog 31 1 = some ⟨"Epoch", 3, 1, false, "", "", 8⟩ := by kernel_rfl
@[simp] theorem fl31_2 : fldT Tryz.prog 31 2 = some ⟨"Program", 26, 2, false, "", "", 16⟩ := by kernel_rfl
@[simp] theorem fl31_3 : fldT Tryz.prog 31 3 = some ⟨"Core", 29, 9, false, "", "", 152⟩ := by kernel_rfl
attribute [simp] Tryz.underlying31
@[simp] theorem sz36:szT Tryz.prog 36=some 1:=by kernel_rfl
@[simp] theorem by36:zD Tryz.prog 36=some 24:=by kernel_rfl
@[simp] theorem ag36:aggT Tryz.prog 36=some false:=by kernel_rfl
@[simp] theorem ze36:zT Tryz.prog 36=some (.nils):=by kernel_rfl
attribute [simp] Tryz.underlying36
@[simp] theorem sz37:szT Tryz.prog 37=some 1:=by kernel_rfl
@[simp] theorem by37:zD Tryz.prog 37=some 8:=by kernel_rfl
@[simp] theorem ag37:aggT Tryz.prog 37=some false:=by kernel_rfl
@[simp] theorem ze37:zT Tryz.prog 37=some (.int .i64 0):=by kernel_rfl
attribute [simp] Tryz.underlying37
@[simp] theorem sz44:szT Tryz.prog 44=some 1:=by kernel_rfl
@[simp] theorem by44:zD Tryz.prog 44=some 24:=by kernel_rfl
@[simp] theorem ag44:aggT Tryz.prog 44=some false:=by kernel_rfl
@[simp] theorem ze44:zT Tryz.prog 44=some (.nils):=by kernel_rfl
attribute [simp] Tryz.underlying44
@[simp] theorem sz48:szT Tryz.prog 48=some 2:=by kernel_rfl
@[simp] theorem by48:zD Tryz.prog 48=some 32:=by kernel_rfl
@[simp] theorem ag48:aggT Tryz.prog 48=some true:=by kernel_rfl
@[simp] theorem ze48:zT Tryz.prog 48=some (.agg [.int .i64 0,.nils]):=by kernel_rfl
@[simp] theorem pl48_0:zx Tryz.prog 48 0=some (0,1):=by kernel_rfl
@[simp] theorem pl48_1:zx Tryz.prog 48 1=some (1,1):=by kernel_rfl
@[simp] theorem si48:wa Tryz.prog 48=true:=by kernel_rfl
@[simp] theorem fl48_0 : fldT Tryz.prog 48 0 = some ⟨"Kind", 3, 0, false, "", "", 0⟩ := by kernel_rfl
@[simp] theorem fl48_1 : fldT Tryz.prog 48 1 = some ⟨"Body", 36, 1, false, "", "", 8⟩ := by kernel_rfl
attribute [simp] Tryz.underlying48
@[simp] theorem sz65:szT Tryz.prog 65=some 1:=by kernel_rfl
@[simp] theorem by65:zD Tryz.prog 65=some 24:=by kernel_rfl
@[simp] theorem ag65:aggT Tryz.prog 65=some false:=by kernel_rfl
@[simp] theorem ze65:zT Tryz.prog 65=some (.nils):=by kernel_rfl
attribute [simp] Tryz.underlying65
@[simp] theorem sz70:szT Tryz.prog 70=some 1:=by kernel_rfl
@[simp] theorem by70:zD Tryz.prog 70=some 24:=by kernel_rfl
@[simp] theorem ag70:aggT Tryz.prog 70=some false:=by kernel_rfl
@[simp] theorem ze70:zT Tryz.prog 70=some (.nils):=by kernel_rfl
attribute [simp] Tryz.underlying70
@[simp] theorem sz71:szT Tryz.prog 71=some 1:=by kernel_rfl
@[simp] theorem by71:zD Tryz.prog 71=some 24:=by kernel_rfl
@[simp] theorem ag71:aggT Tryz.prog 71=some false:=by kernel_rfl
@[simp] theorem ze71:zT Tryz.prog 71=some (.nils):=by kernel_rfl
attribute [simp] Tryz.underlying71
@[simp] theorem sz73:szT Tryz.prog 73=some 5:=by kernel_rfl
@[simp] theorem by73:zD Tryz.prog 73=some 72:=by kernel_rfl
@[simp] theorem ag73:aggT Tryz.prog 73=some true:=by kernel_rfl
@[simp] theorem ze73:zT Tryz.prog 73=some (.agg [.int .i64 0,.int .i64 0,.nils,.nils,.int .i64 0]):=by kernel_rfl
@[simp] theorem pl73_0:zx Tryz.prog 73 0=some (0,1):=by kernel_rfl
@[simp] theorem pl73_1:zx Tryz.prog 73 1=some (1,1):=by kernel_rfl
@[simp] theorem pl73_2:zx Tryz.prog 73 2=some (2,1):=by kernel_rfl
@[simp] theorem pl73_3:zx Tryz.prog 73 3=some (3,1):=by kernel_rfl
@[simp] theorem pl73_4:zx Tryz.prog 73 4=some (4,1):=by kernel_rfl
@[simp] theorem si73:wa Tryz.prog 73=true:=by kernel_rfl
@[simp] theorem fl73_0 : fldT Tryz.prog 73 0 = some ⟨"State", 3, 0, false, "", "", 0⟩ := by kernel_rfl
@[simp] theorem fl73_1 : fldT Tryz.prog 73 1 = some ⟨"On", 3, 1, false, "", "", 8⟩ := by kernel_rfl
@[simp] theorem fl73_2 : fldT Tryz.prog 73 2 = some ⟨"Frames", 71, 2, false, "", "", 16⟩ := by kernel_rfl
@[simp] theorem fl73_3 : fldT Tryz.prog 73 3 = some ⟨"Stack", 23, 3, false, "", "", 40⟩ := by kernel_rfl
@[simp] theorem fl73_4 : fldT Tryz.prog 73 4 = some ⟨"Code", 3, 4, false, "", "", 64⟩ := by kernel_rfl
attribute [simp] Tryz.underlying73
@[simp] theorem sz75:szT Tryz.prog 75=some 3:=by kernel_rfl
@[simp] theorem by75:zD Tryz.prog 75=some 40:=by kernel_rfl
@[simp] theorem ag75:aggT Tryz.prog 75=some true:=by kernel_rfl
@[simp] theorem ze75:zT Tryz.prog 75=some (.agg [.int .i64 0,.int .i64 0,.nils]):=by kernel_rfl
@[simp] theorem pl75_0:zx Tryz.prog 75 0=some (0,1):=by kernel_rfl
@[simp] theorem pl75_1:zx Tryz.prog 75 1=some (1,1):=by kernel_rfl
@[simp] theorem pl75_2:zx Tryz.prog 75 2=some (2,1):=by kernel_rfl
@[simp] theorem si75:wa Tryz.prog 75=true:=by kernel_rfl
@[simp] theorem fl75_0 : fldT Tryz.prog 75 0 = some ⟨"Func", 3, 0, false, "", "", 0⟩ := by kernel_rfl
@[simp] theorem fl75_1 : fldT Tryz.prog 75 1 = some ⟨"Pc", 3, 1, false, "", "", 8⟩ := by kernel_rfl
@[simp] theorem fl75_2 : fldT Tryz.prog 75 2 = some ⟨"Locals", 23, 2, false, "", "", 16⟩ := by kernel_rfl
attribute [simp] Tryz.underlying75
@[simp] theorem sz85:szT Tryz.prog 85=some 1:=by kernel_rfl
@[simp] theorem by85:zD Tryz.prog 85=some 8:=by kernel_rfl
@[simp] theorem ag85:aggT Tryz.prog 85=some false:=by kernel_rfl
@[simp] theorem ze85:zT Tryz.prog 85=some (.nilf):=by kernel_rfl
attribute [simp] Tryz.underlying85
@[simp] theorem sz86:szT Tryz.prog 86=some 1:=by kernel_rfl
@[simp] theorem by86:zD Tryz.prog 86=some 8:=by kernel_rfl
@[simp] theorem ag86:aggT Tryz.prog 86=some false:=by kernel_rfl
@[simp] theorem ze86:zT Tryz.prog 86=some (.nilf):=by kernel_rfl
attribute [simp] Tryz.underlying86
@[simp] theorem sz112:szT Tryz.prog 112=some 1:=by kernel_rfl
@[simp] theorem by112:zD Tryz.prog 112=some 4:=by kernel_rfl
@[simp] theorem ag112:aggT Tryz.prog 112=some false:=by kernel_rfl
@[simp] theorem ze112:zT Tryz.prog 112=some (.int .u32 0):=by kernel_rfl
attribute [simp] Tryz.underlying112
@[simp] theorem sz116:szT Tryz.prog 116=some 1:=by kernel_rfl
@[simp] theorem by116:zD Tryz.prog 116=some 8:=by kernel_rfl
@[simp] theorem ag116:aggT Tryz.prog 116=some false:=by kernel_rfl
@[simp] theorem ze116:zT Tryz.prog 116=some (.nilp):=by kernel_rfl
attribute [simp] Tryz.underlying116
@[simp] theorem sz117:szT Tryz.prog 117=some 1:=by kernel_rfl
@[simp] theorem by117:zD Tryz.prog 117=some 8:=by kernel_rfl
@[simp] theorem ag117:aggT Tryz.prog 117=some false:=by kernel_rfl
@[simp] theorem ze117:zT Tryz.prog 117=some (.nilf):=by kernel_rfl
attribute [simp] Tryz.underlying117
@[simp] theorem sz118:szT Tryz.prog 118=some 1:=by kernel_rfl
@[simp] theorem by118:zD Tryz.prog 118=some 8:=by kernel_rfl
@[simp] theorem ag118:aggT Tryz.prog 118=some false:=by kernel_rfl
@[simp] theorem ze118:zT Tryz.prog 118=some (.nilf):=by kernel_rfl
attribute [simp] Tryz.underlying118
@[simp] theorem sz121:szT Tryz.prog 121=some 1:=by kernel_rfl
@[simp] theorem by121:zD Tryz.prog 121=some 8:=by kernel_rfl
@[simp] theorem ag121:aggT Tryz.prog 121=some false:=by kernel_rfl
@[simp] theorem ze121:zT Tryz.prog 121=some (.nilf):=by kernel_rfl
attribute [simp] Tryz.underlying121
@[simp] theorem sz125:szT Tryz.prog 125=some 1:=by kernel_rfl
@[simp] theorem by125:zD Tryz.prog 125=some 8:=by kernel_rfl
@[simp] theorem ag125:aggT Tryz.prog 125=some false:=by kernel_rfl
@[simp] theorem ze125:zT Tryz.prog 125=some (.nilf):=by kernel_rfl
attribute [simp] Tryz.underlying125
@[simp] theorem sz127:szT Tryz.prog 127=some 1:=by kernel_rfl
@[simp] theorem by127:zD Tryz.prog 127=some 8:=by kernel_rfl
@[simp] theorem ag127:aggT Tryz.prog 127=some false:=by kernel_rfl
@[simp] theorem ze127:zT Tryz.prog 127=some (.nilf):=by kernel_rfl
attribute [simp] Tryz.underlying127
@[simp] theorem sz128:szT Tryz.prog 128=some 1:=by kernel_rfl
@[simp] theorem by128:zD Tryz.prog 128=some 8:=by kernel_rfl
@[simp] theorem ag128:aggT Tryz.prog 128=some false:=by kernel_rfl
@[simp] theorem ze128:zT Tryz.prog 128=some (.nilf):=by kernel_rfl
attribute [simp] Tryz.underlying128
@[simp] theorem sz130:szT Tryz.prog 130=some 6:=by kernel_rfl
@[simp] theorem by130:zD Tryz.prog 130=some 144:=by kernel_rfl
@[simp] theorem ag130:aggT Tryz.prog 130=some true:=by kernel_rfl
@[simp] theorem ze130:zT Tryz.prog 130=some (.agg [.nils,.nils,.nils,.nils,.nils,.nils]):=by kernel_rfl
@[simp] theorem si130:wa Tryz.prog 130=true:=by kernel_rfl
@[simp] theorem pl130_0:zx Tryz.prog 130 0=some (0,1):=by kernel_rfl
@[simp] theorem pl130_1:zx Tryz.prog 130 1=some (1,1):=by kernel_rfl
@[simp] theorem pl130_2:zx Tryz.prog 130 2=some (2,1):=by kernel_rfl
@[simp] theorem pl130_3:zx Tryz.prog 130 3=some (3,1):=by kernel_rfl
@[simp] theorem pl130_4:zx Tryz.prog 130 4=some (4,1):=by kernel_rfl
@[simp] theorem pl130_5:zx Tryz.prog 130 5=some (5,1):=by kernel_rfl
attribute [simp] Tryz.underlying130
@[simp] theorem sz132:szT Tryz.prog 132=some 1:=by kernel_rfl
@[simp] theorem by132:zD Tryz.prog 132=some 24:=by kernel_rfl
@[simp] theorem ag132:aggT Tryz.prog 132=some false:=by kernel_rfl
@[simp] theorem ze132:zT Tryz.prog 132=some (.nils):=by kernel_rfl
attribute [simp] Tryz.underlying132
@[simp] theorem sz134:szT Tryz.prog 134=some 2:=by kernel_rfl
@[simp] theorem by134:zD Tryz.prog 134=some 32:=by kernel_rfl
@[simp] theorem ag134:aggT Tryz.prog 134=some true:=by kernel_rfl
@[simp] theorem ze134:zT Tryz.prog 134=some (.agg [.int .i64 0,.nils]):=by kernel_rfl
@[simp] theorem pl134_0:zx Tryz.prog 134 0=some (0,1):=by kernel_rfl
@[simp] theorem pl134_1:zx Tryz.prog 134 1=some (1,1):=by kernel_rfl
@[simp] theorem si134:wa Tryz.prog 134=true:=by kernel_rfl
@[simp] theorem fl134_0 : fldT Tryz.prog 134 0 = some ⟨"Locals", 3, 0, false, "", "", 0⟩ := by kernel_rfl
@[simp] theorem fl134_1 : fldT Tryz.prog 134 1 = some ⟨"Code", 132, 1, false, "", "", 8⟩ := by kernel_rfl
attribute [simp] Tryz.underlying134
@[simp] theorem sz136:szT Tryz.prog 136=some 2:=by kernel_rfl
@[simp] theorem by136:zD Tryz.prog 136=some 16:=by kernel_rfl
@[simp] theorem ag136:aggT Tryz.prog 136=some true:=by kernel_rfl
@[simp] theorem ze136:zT Tryz.prog 136=some (.agg [.int .i64 0,.int .i64 0]):=by kernel_rfl
@[simp] theorem pl136_0:zx Tryz.prog 136 0=some (0,1):=by kernel_rfl
@[simp] theorem pl136_1:zx Tryz.prog 136 1=some (1,1):=by kernel_rfl
@[simp] theorem si136:wa Tryz.prog 136=true:=by kernel_rfl
@[simp] theorem is136:vA Tryz.prog 136 2=true:=by kernel_rfl
@[simp] theorem fl136_0 : fldT Tryz.prog 136 0 = some ⟨"Op", 3, 0, false, "", "", 0⟩ := by kernel_rfl
@[simp] theorem fl136_1 : fldT Tryz.prog 136 1 = some ⟨"A", 3, 1, false, "", "", 8⟩ := by kernel_rfl
attribute [simp] Tryz.underlying136
@[simp] theorem sz153:szT Tryz.prog 153=some 1:=by kernel_rfl
@[simp] theorem by153:zD Tryz.prog 153=some 8:=by kernel_rfl
@[simp] theorem ag153:aggT Tryz.prog 153=some false:=by kernel_rfl
@[simp] theorem ze153:zT Tryz.prog 153=some (.nilf):=by kernel_rfl
attribute [simp] Tryz.underlying153
@[simp] theorem sz158:szT Tryz.prog 158=some 1:=by kernel_rfl
@[simp] theorem by158:zD Tryz.prog 158=some 24:=by kernel_rfl
@[simp] theorem ag158:aggT Tryz.prog 158=some true:=by kernel_rfl
@[simp] theorem ze158:zT Tryz.prog 158=some (.agg [.nils]):=by kernel_rfl
@[simp] theorem pl158_0:zx Tryz.prog 158 0=some (0,1):=by kernel_rfl
@[simp] theorem si158:wa Tryz.prog 158=true:=by kernel_rfl
@[simp] theorem fl158_0 : fldT Tryz.prog 158 0 = some ⟨"b", 36, 0, false, "", "hibernacle/wire", 0⟩ := by kernel_rfl
attribute [simp] Tryz.underlying158
@[simp] theorem sz161:szT Tryz.prog 161=some 1:=by kernel_rfl
@[simp] theorem by161:zD Tryz.prog 161=some 8:=by kernel_rfl
@[simp] theorem ag161:aggT Tryz.prog 161=some false:=by kernel_rfl
@[simp] theorem ze161:zT Tryz.prog 161=some (.nilf):=by kernel_rfl
attribute [simp] Tryz.underlying161
@[simp] theorem sz162:szT Tryz.prog 162=some 1:=by kernel_rfl
@[simp] theorem by162:zD Tryz.prog 162=some 8:=by kernel_rfl
@[simp] theorem ag162:aggT Tryz.prog 162=some false:=by kernel_rfl
@[simp] theorem ze162:zT Tryz.prog 162=some (.nilf):=by kernel_rfl
attribute [simp] Tryz.underlying162
@[simp] theorem sz163:szT Tryz.prog 163=some 1:=by kernel_rfl
@[simp] theorem by163:zD Tryz.prog 163=some 8:=by kernel_rfl
@[simp] theorem ag163:aggT Tryz.prog 163=some false:=by kernel_rfl
@[simp] theorem ze163:zT Tryz.prog 163=some (.nilf):=by kernel_rfl
attribute [simp] Tryz.underlying163
@[simp] theorem sz165:szT Tryz.prog 165=some 1:=by kernel_rfl
@[simp] theorem by165:zD Tryz.prog 165=some 8:=by kernel_rfl
@[simp] theorem ag165:aggT Tryz.prog 165=some false:=by kernel_rfl
@[simp] theorem ze165:zT Tryz.prog 165=some (.nilf):=by kernel_rfl
attribute [simp] Tryz.underlying165
@[simp] theorem sz170:szT Tryz.prog 170=some 1:=by kernel_rfl
@[simp] theorem by170:zD Tryz.prog 170=some 8:=by kernel_rfl
@[simp] theorem ag170:aggT Tryz.prog 170=some false:=by kernel_rfl
@[simp] theorem ze170:zT Tryz.prog 170=some (.nilf):=by kernel_rfl
attribute [simp] Tryz.underlying170
@[simp] theorem sz171:szT Tryz.prog 171=some 1:=by kernel_rfl
@[simp] theorem by171:zD Tryz.prog 171=some 8:=by kernel_rfl
@[simp] theorem ag171:aggT Tryz.prog 171=some false:=by kernel_rfl
@[simp] theorem ze171:zT Tryz.prog 171=some (.nilf):=by kernel_rfl
attribute [simp] Tryz.underlying171
@[simp] theorem sz173:szT Tryz.prog 173=some 1:=by kernel_rfl
@[simp] theorem by173:zD Tryz.prog 173=some 8:=by kernel_rfl
@[simp] theorem ag173:aggT Tryz.prog 173=some false:=by kernel_rfl
@[simp] theorem ze173:zT Tryz.prog 173=some (.nilf):=by kernel_rfl
attribute [simp] Tryz.underlying173
@[simp] theorem sz177:szT Tryz.prog 177=some 1:=by kernel_rfl
@[simp] theorem by177:zD Tryz.prog 177=some 8:=by kernel_rfl
@[simp] theorem ag177:aggT Tryz.prog 177=some false:=by kernel_rfl
@[simp] theorem ze177:zT Tryz.prog 177=some (.nilf):=by kernel_rfl
attribute [simp] Tryz.underlying177
@[simp] theorem sz179:szT Tryz.prog 179=some 1:=by kernel_rfl
@[simp] theorem by179:zD Tryz.prog 179=some 8:=by kernel_rfl
@[simp] theorem ag179:aggT Tryz.prog 179=some false:=by kernel_rfl
@[simp] theorem ze179:zT Tryz.prog 179=some (.nilf):=by kernel_rfl
attribute [simp] Tryz.underlying179
@[simp] theorem sz210:szT Tryz.prog 210=some 1:=by kernel_rfl
@[simp] theorem by210:zD Tryz.prog 210=some 8:=by kernel_rfl
@[simp] theorem ag210:aggT Tryz.prog 210=some false:=by kernel_rfl
@[simp] theorem ze210:zT Tryz.prog 210=some (.int .u64 0):=by kernel_rfl
attribute [simp] Tryz.underlying210
@[simp] theorem sz215:szT Tryz.prog 215=some 1:=by kernel_rfl
@[simp] theorem by215:zD Tryz.prog 215=some 8:=by kernel_rfl
@[simp] theorem ag215:aggT Tryz.prog 215=some false:=by kernel_rfl
@[simp] theorem ze215:zT Tryz.prog 215=some (.int .u64 0):=by kernel_rfl
attribute [simp] Tryz.underlying215
@[simp] theorem sz217:szT Tryz.prog 217=some 1:=by kernel_rfl
@[simp] theorem by217:zD Tryz.prog 217=some 8:=by kernel_rfl
@[simp] theorem ag217:aggT Tryz.prog 217=some false:=by kernel_rfl
@[simp] theorem ze217:zT Tryz.prog 217=some (.nilf):=by kernel_rfl
attribute [simp] Tryz.underlying217
@[simp] theorem sz222:szT Tryz.prog 222=some 3:=by kernel_rfl
@[simp] theorem by222:zD Tryz.prog 222=some 24:=by kernel_rfl
@[simp] theorem ag222:aggT Tryz.prog 222=some true:=by kernel_rfl
@[simp] theorem ze222:zT Tryz.prog 222=some (.agg [.int .i64 0,.int .i64 0,.int .i64 0]):=by kernel_rfl
@[simp] theorem pl222_0:zx Tryz.prog 222 0=some (0,1):=by kernel_rfl
@[simp] theorem pl222_1:zx Tryz.prog 222 1=some (1,1):=by kernel_rfl
@[simp] theorem pl222_2:zx Tryz.prog 222 2=some (2,1):=by kernel_rfl
@[simp] theorem si222:wa Tryz.prog 222=true:=by kernel_rfl
@[simp] theorem is222:vA Tryz.prog 222 3=true:=by kernel_rfl
@[simp] theorem fl222_0 : fldT Tryz.prog 222 0 = some ⟨"Kind", 3, 0, false, "", "", 0⟩ := by kernel_rfl
@[simp] theorem fl222_1 : fldT Tryz.prog 222 1 = some ⟨"A", 3, 1, false, "", "", 8⟩ := by kernel_rfl
@[simp] theorem fl222_2 : fldT Tryz.prog 222 2 = some ⟨"V", 3, 2, false, "", "", 16⟩ := by kernel_rfl
attribute [simp] Tryz.underlying222
@[simp] theorem sz226:szT Tryz.prog 226=some 20:=by kernel_rfl
@[simp] theorem by226:zD Tryz.prog 226=some 416:=by kernel_rfl
@[simp] theorem ag226:aggT Tryz.prog 226=some true:=by kernel_rfl
@[simp] theorem ze226:zT Tryz.prog 226=some (.agg [.nils,.int .i64 0,.nils,.nils,.nils,.nils,.int .i64 0,.int .i64 0,.nils,.nils,.nils,.nils,.nils,.nils,.nils,.nils,.nils,.int .i64 0,.nils,.nils]):=by kernel_rfl
@[simp] theorem pl226_0:zx Tryz.prog 226 0=some (0,7):=by kernel_rfl
@[simp] theorem pl226_1:zx Tryz.prog 226 1=some (7,10):=by kernel_rfl
@[simp] theorem pl226_2:zx Tryz.prog 226 2=some (17,1):=by kernel_rfl
@[simp] theorem pl226_3:zx Tryz.prog 226 3=some (18,1):=by kernel_rfl
@[simp] theorem pl226_4:zx Tryz.prog 226 4=some (19,1):=by kernel_rfl
@[simp] theorem si226:wa Tryz.prog 226=true:=by kernel_rfl
@[simp] theorem fl226_0 : fldT Tryz.prog 226 0 = some ⟨"P", 26, 0, false, "", "", 0⟩ := by kernel_rfl
@[simp] theorem fl226_1 : fldT Tryz.prog 226 1 = some ⟨"C", 29, 7, false, "", "", 136⟩ := by kernel_rfl
@[simp] theorem fl226_2 : fldT Tryz.prog 226 2 = some ⟨"T", 3, 17, false, "", "", 360⟩ := by kernel_rfl
@[simp] theorem fl226_3 : fldT Tryz.prog 226 3 = some ⟨"Seen", 65, 18, false, "", "", 368⟩ := by kernel_rfl
@[simp] theorem fl226_4 : fldT Tryz.prog 226 4 = some ⟨"Woken", 23, 19, false, "", "", 392⟩ := by kernel_rfl
attribute [simp] Tryz.underlying226
@[simp] theorem sz230:szT Tryz.prog 230=some 1:=by kernel_rfl
@[simp] theorem by230:zD Tryz.prog 230=some 8:=by kernel_rfl
@[simp] theorem ag230:aggT Tryz.prog 230=some false:=by kernel_rfl
@[simp] theorem ze230:zT Tryz.prog 230=some (.nilf):=by kernel_rfl
attribute [simp] Tryz.underlying230
@[simp] theorem sz236:szT Tryz.prog 236=some 1:=by kernel_rfl
@[simp] theorem by236:zD Tryz.prog 236=some 8:=by kernel_rfl
@[simp] theorem ag236:aggT Tryz.prog 236=some false:=by kernel_rfl
@[simp] theorem ze236:zT Tryz.prog 236=some (.nilf):=by kernel_rfl
attribute [simp] Tryz.underlying236
@[simp] theorem sz238:szT Tryz.prog 238=some 2:=by kernel_rfl
@[simp] theorem by238:zD Tryz.prog 238=some 24:=by kernel_rfl
@[simp] theorem ag238:aggT Tryz.prog 238=some true:=by kernel_rfl
@[simp] theorem ze238:zT Tryz.prog 238=some (.agg [.str .empty,.nilf]):=by kernel_rfl
@[simp] theorem pl238_0:zx Tryz.prog 238 0=some (0,1):=by kernel_rfl
@[simp] theorem pl238_1:zx Tryz.prog 238 1=some (1,1):=by kernel_rfl
@[simp] theorem si238:wa Tryz.prog 238=true:=by kernel_rfl
@[simp] theorem fl238_0 : fldT Tryz.prog 238 0 = some ⟨"name", 9, 0, false, "", "hibernacle/code", 0⟩ := by kernel_rfl
@[simp] theorem fl238_1 : fldT Tryz.prog 238 1 = some ⟨"most", 236, 1, false, "", "hibernacle/code", 16⟩ := by kernel_rfl
attribute [simp] Tryz.underlying238
@[simp] theorem sz239:szT Tryz.prog 239=some 54:=by kernel_rfl
@[simp] theorem by239:zD Tryz.prog 239=some 648:=by kernel_rfl
@[simp] theorem ag239:aggT Tryz.prog 239=some true:=by kernel_rfl
@[simp] theorem ze239:zT Tryz.prog 239=some (.agg [.str .empty,.nilf,.str .empty,.nilf,.str .empty,.nilf,.str .empty,.nilf,.str .empty,.nilf,.str .empty,.nilf,.str .empty,.nilf,.str .empty,.nilf,.str .empty,.nilf,.str .empty,.nilf,.str .empty,.nilf,.str .empty,.nilf,.str .empty,.nilf,.str .empty,.nilf,.str .empty,.nilf,.str .empty,.nilf,.str .empty,.nilf,.str .empty,.nilf,.str .empty,.nilf,.str .empty,.nilf,.str .empty,.nilf,.str .empty,.nilf,.str .empty,.nilf,.str .empty,.nilf,.str .empty,.nilf,.str .empty,.nilf,.str .empty,.nilf]):=by kernel_rfl
@[simp] theorem si239:wa Tryz.prog 239=true:=by kernel_rfl
@[simp] theorem pl239_0:zx Tryz.prog 239 0=some (0,2):=by kernel_rfl
@[simp] theorem pl239_1:zx Tryz.prog 239 1=some (2,2):=by kernel_rfl
@[simp] theorem pl239_2:zx Tryz.prog 239 2=some (4,2):=by kernel_rfl
@[simp] theorem pl239_3:zx Tryz.prog 239 3=some (6,2):=by kernel_rfl
@[simp] theorem pl239_4:zx Tryz.prog 239 4=some (8,2):=by kernel_rfl
@[simp] theorem pl239_5:zx Tryz.prog 239 5=some (10,2):=by kernel_rfl
@[simp] theorem pl239_6:zx Tryz.prog 239 6=some (12,2):=by kernel_rfl
@[simp] theorem pl239_7:zx Tryz.prog 239 7=some (14,2):=by kernel_rfl
@[simp] theorem pl239_8:zx Tryz.prog 239 8=some (16,2):=by kernel_rfl
@[simp] theorem pl239_9:zx Tryz.prog 239 9=some (18,2):=by kernel_rfl
@[simp] theorem pl239_10:zx Tryz.prog 239 10=some (20,2):=by kernel_rfl
@[simp] theorem pl239_11:zx Tryz.prog 239 11=some (22,2):=by kernel_rfl
@[simp] theorem pl239_12:zx Tryz.prog 239 12=some (24,2):=by kernel_rfl
@[simp] theorem pl239_13:zx Tryz.prog 239 13=some (26,2):=by kernel_rfl
@[simp] theorem pl239_14:zx Tryz.prog 239 14=some (28,2):=by kernel_rfl
@[simp] theorem pl239_15:zx Tryz.prog 239 15=some (30,2):=by kernel_rfl
@[simp] theorem pl239_16:zx Tryz.prog 239 16=some (32,2):=by kernel_rfl
@[simp] theorem pl239_17:zx Tryz.prog 239 17=some (34,2):=by kernel_rfl
@[simp] theorem pl239_18:zx Tryz.prog 239 18=some (36,2):=by kernel_rfl
@[simp] theorem pl239_19:zx Tryz.prog 239 19=some (38,2):=by kernel_rfl
@[simp] theorem pl239_20:zx Tryz.prog 239 20=some (40,2):=by kernel_rfl
@[simp] theorem pl239_21:zx Tryz.prog 239 21=some (42,2):=by kernel_rfl
@[simp] theorem pl239_22:zx Tryz.prog 239 22=some (44,2):=by kernel_rfl
@[simp] theorem pl239_23:zx Tryz.prog 239 23=some (46,2):=by kernel_rfl
@[simp] theorem pl239_24:zx Tryz.prog 239 24=some (48,2):=by kernel_rfl
@[simp] theorem pl239_25:zx Tryz.prog 239 25=some (50,2):=by kernel_rfl
@[simp] theorem pl239_26:zx Tryz.prog 239 26=some (52,2):=by kernel_rfl
attribute [simp] Tryz.underlying239
@[simp] theorem sz243:szT Tryz.prog 243=some 1:=by kernel_rfl
@[simp] theorem by243:zD Tryz.prog 243=some 8:=by kernel_rfl
@[simp] theorem ag243:aggT Tryz.prog 243=some false:=by kernel_rfl
@[simp] theorem ze243:zT Tryz.prog 243=some (.nilf):=by kernel_rfl
attribute [simp] Tryz.underlying243
@[simp] theorem sz273:szT Tryz.prog 273=some 1:=by kernel_rfl
@[simp] theorem by273:zD Tryz.prog 273=some 8:=by kernel_rfl
@[simp] theorem ag273:aggT Tryz.prog 273=some false:=by kernel_rfl
@[simp] theorem ze273:zT Tryz.prog 273=some (.nilp):=by kernel_rfl
attribute [simp] Tryz.underlying273
@[simp] theorem sz297:szT Tryz.prog 297=some 3:=by kernel_rfl
@[simp] theorem by297:zD Tryz.prog 297=some 24:=by kernel_rfl
@[simp] theorem ag297:aggT Tryz.prog 297=some true:=by kernel_rfl
@[simp] theorem ze297:zT Tryz.prog 297=some (.agg [.int .i64 0,.int .i64 0,.int .i64 0]):=by kernel_rfl
@[simp] theorem pl297_0:zx Tryz.prog 297 0=some (0,1):=by kernel_rfl
@[simp] theorem pl297_1:zx Tryz.prog 297 1=some (1,1):=by kernel_rfl
@[simp] theorem pl297_2:zx Tryz.prog 297 2=some (2,1):=by kernel_rfl
@[simp] theorem si297:wa Tryz.prog 297=true:=by kernel_rfl
@[simp] theorem is297:vA Tryz.prog 297 3=true:=by kernel_rfl
@[simp] theorem fl297_0 : fldT Tryz.prog 297 0 = some ⟨"Kind", 3, 0, false, "", "", 0⟩ := by kernel_rfl
@[simp] theorem fl297_1 : fldT Tryz.prog 297 1 = some ⟨"Thread", 3, 1, false, "", "", 8⟩ := by kernel_rfl
@[simp] theorem fl297_2 : fldT Tryz.prog 297 2 = some ⟨"N", 3, 2, false, "", "", 16⟩ := by kernel_rfl
attribute [simp] Tryz.underlying297
@[simp] theorem sz298:szT Tryz.prog 298=some 256:=by kernel_rfl
@[simp] theorem by298:zD Tryz.prog 298=some 1024:=by kernel_rfl
@[simp] theorem ag298:aggT Tryz.prog 298=some true:=by kernel_rfl
@[simp] theorem si298:wa Tryz.prog 298=true:=by kernel_rfl
attribute [simp] Tryz.underlying298
@[simp] theorem sz301:szT Tryz.prog 301=some 258:=by kernel_rfl
@[simp] theorem by301:zD Tryz.prog 301=some 1040:=by kernel_rfl
@[simp] theorem ag301:aggT Tryz.prog 301=some true:=by kernel_rfl
@[simp] theorem pl301_0:zx Tryz.prog 301 0=some (0,256):=by kernel_rfl
@[simp] theorem pl301_1:zx Tryz.prog 301 1=some (256,1):=by kernel_rfl
@[simp] theorem pl301_2:zx Tryz.prog 301 2=some (257,1):=by kernel_rfl
@[simp] theorem si301:wa Tryz.prog 301=true:=by kernel_rfl
@[simp] theorem fl301_0 : fldT Tryz.prog 301 0 = some ⟨"t", 298, 0, false, "", "hibernacle/crc", 0⟩ := by kernel_rfl
@[simp] theorem fl301_1 : fldT Tryz.prog 301 1 = some ⟨"r", 112, 256, false, "", "hibernacle/crc", 1024⟩ := by kernel_rfl
@[simp] theorem fl301_2 : fldT Tryz.prog 301 2 = some ⟨"n", 3, 257, false, "", "hibernacle/crc", 1032⟩ := by kernel_rfl
attribute [simp] Tryz.underlying301
@[simp] theorem sz303:szT Tryz.prog 303=some 1:=by kernel_rfl
@[simp] theorem by303:zD Tryz.prog 303=some 8:=by kernel_rfl
@[simp] theorem ag303:aggT Tryz.prog 303=some false:=by kernel_rfl
@[simp] theorem ze303:zT Tryz.prog 303=some (.int .i64 0):=by kernel_rfl
attribute [simp] Tryz.underlying303
@[simp] theorem sz314:szT Tryz.prog 314=some 1:=by kernel_rfl
@[simp] theorem by314:zD Tryz.prog 314=some 8:=by kernel_rfl
@[simp] theorem ag314:aggT Tryz.prog 314=some false:=by kernel_rfl
@[simp] theorem ze314:zT Tryz.prog 314=some (.nilf):=by kernel_rfl
attribute [simp] Tryz.underlying314
@[simp] theorem sz315:szT Tryz.prog 315=some 1:=by kernel_rfl
@[simp] theorem by315:zD Tryz.prog 315=some 8:=by kernel_rfl
@[simp] theorem ag315:aggT Tryz.prog 315=some false:=by kernel_rfl
@[simp] theorem ze315:zT Tryz.prog 315=some (.int .u64 0):=by kernel_rfl
attribute [simp] Tryz.underlying315
@[simp] theorem sz319:szT Tryz.prog 319=some 1:=by kernel_rfl
@[simp] theorem by319:zD Tryz.prog 319=some 8:=by kernel_rfl
@[simp] theorem ag319:aggT Tryz.prog 319=some false:=by kernel_rfl
@[simp] theorem ze319:zT Tryz.prog 319=some (.nilp):=by kernel_rfl
attribute [simp] Tryz.underlying319
@[simp] theorem sz321:szT Tryz.prog 321=some 1:=by kernel_rfl
@[simp] theorem by321:zD Tryz.prog 321=some 8:=by kernel_rfl
@[simp] theorem ag321:aggT Tryz.prog 321=some false:=by kernel_rfl
@[simp] theorem ze321:zT Tryz.prog 321=some (.nilp):=by kernel_rfl
attribute [simp] Tryz.underlying321
theorem mixed:Tryz.prog.follows .mixedOrders=true:=by kernel_rfl
@[simp] def P111:Nat→Plan
 | 8=>(.qs [0,1,2,3,4,5,6,7,8,9] (.w 10 [5] (.qs [11,12,13] .nil)))
 | _=>.nil
@[simp] def P110:Nat→Plan
 | 8=>(.qs [0,1,2,3,4,5,6,7,8,9,10,11] (.w 12 [] .nil))
 | _=>.nil
@[simp] def P134:Nat→Plan
 | 3=>(.qs [1,2] (.w 0 [2] (.qs [3,4,5] .nil)))
 | 8=>(.qs [0,1,2,3,4,5,6,7,8] (.w 9 [5] (.qs [10,11,12] .nil)))
 | _=>.nil
@[simp] def P35:Nat→Plan
 | 11=>(.qs [0,1,2,3,4,5] (.w 6 [] (.qs [7] .nil)))
 | 23=>(.qs [0,1,2,3,4,5,6] (.w 7 [] (.qs [8] .nil)))
 | _=>.nil
@[simp] def P285:Nat→Plan
 | 4=>(.qs [0,1,2,3,4,5,6,7,8,9,10,11,12] (.w 13 [] (.qs [14] .nil)))
 | 6=>(.qs [0,1,2,3,4,5,6,7,8,9,10,11,12,13,14] (.w 15 [] (.qs [16] (.w 17 [] .nil))))
 | _=>.nil
@[simp] def P258:Nat→Plan
 | 17=>(.qs [0,1,2,3,4,5,6,7,8,9,10,11] (.w 12 [] (.qs [13,14] .nil)))
 | _=>.nil
@[simp] def P211:Nat→Plan
 | 6=>(.qs [0,1,2,3,4,5,6,7,8,9] .nil)
 | 11=>(.qs [0,1,2,3,4,5,6,7,8,9] .nil)
 | _=>.nil
@[simp] def P31:Nat→Plan
 | 10=>(.qs [0,1,2,3,4,5,6,7,8] (.w 9 [] (.qs [10] .nil)))
 | 19=>(.qs [0,1,2,3,4,5,6,7,8,9,10,11] (.w 12 [] .nil))
 | 31=>(.qs [0,1,2,3,4,5,6,7,8,9,10,11] (.w 12 [] (.qs [13] (.w 14 [] .nil))))
 | 42=>(.qs [0,1,2,3,4,5,6,7,8,9] (.w 10 [1] (.qs [11] (.w 12 [] .nil))))
 | _=>.nil
@[simp] def P15:Nat→Plan
 | 6=>(.qs [0,1,2,3,4,5,6,7,8] .nil)
 | _=>.nil
@[simp] def P274:Nat→Plan
 | 3=>(.qs [0,1,2,3,4,5,6,7,8,9] (.w 10 [1] (.qs [11] (.w 12 [] .nil))))
 | _=>.nil
@[simp] def P278:Nat→Plan
 | 3=>(.qs [0,1,2,3,4,5,6,7,8,9] (.w 10 [1] (.qs [11] (.w 12 [] .nil))))
 | _=>.nil
@[simp] def P279:Nat→Plan
 | 7=>(.qs [0,1,2,3,4,5,6,7,8,9] (.w 10 [] .nil))
 | _=>.nil
@[simp] def P275:Nat→Plan
 | 6=>(.qs [0,1,2,3,4,5,6,7,8,9,10] (.w 11 [] .nil))
 | 7=>(.qs [0,1,2,3,4,5,6,7,8,9] (.w 10 [] .nil))
 | 8=>(.qs [0,1,2,3,4,5] (.w 6 [5,2] (.qs [7,8] .nil)))
 | _=>.nil
@[simp] def P276:Nat→Plan
 | 4=>(.qs [0,1,2,3,4,5,6,7,8,9] (.w 10 [1] (.qs [11] (.w 12 [] .nil))))
 | _=>.nil
@[simp] def P277:Nat→Plan
 | 5=>(.qs [0,1,2,3,4,5,6,7,8,9] (.w 10 [] .nil))
 | _=>.nil
@[simp] def P280:Nat→Plan
 | 7=>(.qs [0,1,2,3,4,5,6,7,8,9] (.w 10 [1] (.qs [11] (.w 12 [] .nil))))
 | 9=>(.qs [0,1,2,3,4,5,6,7,8,9,10] (.w 11 [1] (.qs [12] (.w 13 [] .nil))))
 | _=>.nil
@[simp] def P282:Nat→Plan
 | 4=>(.qs [0,1,2,3,4,5,6,7,8,9] (.w 10 [] .nil))
 | 8=>(.qs [0,1,2,3,4,5,6,7,8,9,10,11,12,13,14,15] (.w 16 [1] (.qs [17] (.w 18 [] .nil))))
 | 9=>(.qs [0,1,2,3,4,5,6,7,8,9] (.w 10 [] .nil))
 | 14=>(.qs [0,1,2,3,4,5,6,7,8,9] (.w 10 [] .nil))
 | 16=>(.qs [0,1,2,3,4,5,6,7,8,9] (.w 10 [1] (.qs [11] (.w 12 [] .nil))))
 | _=>.nil
@[simp] def P283:Nat→Plan
 | 4=>(.qs [0,1,2,3,4] (.w 5 [] (.qs [6] .nil)))
 | 6=>(.qs [0,1,2,3,4,5] (.or (.w 6 [] (.qs [7,8,9,10,11] (.w 12 [] (.w 13 [] (.qs [14,15,16] .nil))))) (.w 12 [4,0] (.w 6 [] (.qs [7,8,9,10,11] (.w 13 [] (.qs [14,15,16] .nil)))))))
 | 12=>(.qs [0,1,2,3,4,5,6,7,8,9,10,11,12,13,14,15] (.w 16 [5,1] (.qs [17] (.w 18 [] .nil))))
 | _=>.nil
@[simp] def P241:Nat→Plan
 | 4=>(.qs [0,1,2] (.w 3 [1] (.qs [4] (.w 5 [] (.qs [6] (.w 7 [] .nil))))))
 | _=>.nil
@[simp] def P244:Nat→Plan
 | 4=>(.qs [0,1,2,3] (.w 4 [1] (.qs [5] (.w 6 [] (.qs [7] (.w 8 [] .nil))))))
 | _=>.nil
@[simp] def P245:Nat→Plan
 | 3=>(.qs [0,1,2,3,4] (.w 5 [2] (.qs [6] .nil)))
 | _=>.nil
@[simp] def P243:Nat→Plan
 | 2=>(.qs [0,1,2,3,4,5,6,7,8,9,10] (.w 11 [8,3,1] (.qs [12] (.w 13 [] .nil))))
 | _=>.nil
@[simp] def P296:Nat→Plan
 | 5=>(.qs [0,1,2,3,4] (.or (.w 5 [] (.qs [6,7,8] (.w 9 [] (.w 10 [] (.qs [11] .nil))))) (.w 9 [4,0] (.w 5 [] (.qs [6,7,8] (.w 10 [] (.qs [11] .nil)))))))
 | _=>.nil
@[simp] def P199:Nat→Plan
 | 4=>(.qs [0,1,2,3,4,5,6,7,8,9,10] (.or (.w 11 [] (.w 12 [] (.w 13 [] .nil))) (.w 12 [9,4,2,0] (.w 11 [] (.w 13 [] .nil)))))
 | 5=>(.qs [0,1,2,3,4] (.w 5 [1] (.qs [6] .nil)))
 | 16=>(.qs [0,1,2,3,4,5,6,7] (.w 8 [6,3] (.w 9 [] .nil)))
 | 18=>(.qs [0,1,2,3,4] (.w 5 [3] (.w 6 [] .nil)))
 | 23=>(.qs [0,1,2,3] (.or (.w 4 [] (.qs [5,6,7] (.w 8 [] (.w 9 [] (.qs [10] .nil))))) (.w 8 [3,0] (.w 4 [] (.qs [5,6,7] (.w 9 [] (.qs [10] .nil)))))))
 | 24=>(.qs [0,1,2,3] (.w 4 [] (.qs [5,6] (.w 7 [] (.w 8 [] .nil)))))
 | 26=>(.qs [0,1,2,3,4,5,6,7] (.w 8 [] (.qs [9,10] (.w 11 [] (.w 12 [] .nil)))))
 | 28=>(.qs [0,1,2,3,4,5,6,7] (.w 8 [] (.qs [9,10] (.w 11 [] (.w 12 [] .nil)))))
 | 30=>(.qs [0,1,2,3] (.w 4 [0] (.w 5 [] (.qs [6,7] (.w 8 [] (.w 9 [] .nil))))))
 | 32=>(.qs [0,1,2,3,4,5,7] (.w 6 [] (.w 8 [] (.w 9 [] .nil))))
 | _=>.nil
@[simp] def P246:Nat→Plan
 | 1=>(.qs [0,1,2,3] (.w 4 [1] (.w 5 [] (.qs [6] (.w 7 [] .nil)))))
 | _=>.nil
@[simp] def P247:Nat→Plan
 | 3=>(.qs [0,1,2,4,5,6] (.w 3 [5] (.w 7 [] (.w 8 [] .nil))))
 | 10=>(.qs [0,1,2,3,5,6,7,8] (.w 4 [6] (.w 9 [] (.w 10 [] .nil))))
 | _=>.nil
@[simp] def P249:Nat→Plan
 | 4=>(.qs [0,1,2,3,4,5,6,7,8,9,10] (.w 11 [] (.w 12 [] .nil)))
 | _=>.nil
@[simp] def P250:Nat→Plan
 | 19=>(.qs [0,1,3,4,5] (.w 2 [4] (.w 6 [] (.w 7 [] .nil))))
 | _=>.nil
@[simp] def P252:Nat→Plan
 | 2=>(.qs [0,1,2,3,4,5,6,7,8,9,10,11,12,13,14] (.or (.w 15 [] (.qs [16,17,18,19] (.w 20 [] (.w 21 [] (.qs [22,23] .nil))))) (.w 20 [14,12,10,8,6,3,1] (.w 15 [] (.qs [16,17,18,19] (.w 21 [] (.qs [22,23] .nil)))))))
 | 9=>(.qs [0,1,2,3,4,5,6,7,8,9,10,11,12] .nil)
 | 10=>(.qs [0,1,2,3,4,5,6] (.w 7 [3,0] (.qs [8] (.w 9 [] (.w 10 [] .nil)))))
 | 18=>(.qs [0,1,2,3,4,5,6,7,8,9,10] (.or (.w 11 [] (.qs [12,13,14,15,16,17] (.w 18 [] (.w 19 [] (.qs [20,21,22,23] .nil))))) (.w 18 [10,8,6,4,1] (.w 11 [] (.qs [12,13,14,15,16,17] (.w 19 [] (.qs [20,21,22,23] .nil)))))))
 | _=>.nil
@[simp] def P103:Nat→Plan
 | 5=>(.qs [0,1,2,3,4,5] (.or (.or (.w 6 [] (.qs [7,8,9] (.or (.w 10 [] (.w 11 [] (.w 12 [] (.w 13 [] .nil)))) (.w 11 [] (.w 10 [] (.w 12 [] (.w 13 [] .nil))))))) (.w 10 [5,2,0] (.or (.w 6 [] (.qs [7,8,9] (.w 11 [] (.w 12 [] (.w 13 [] .nil))))) (.w 11 [5,2,0] (.w 6 [] (.qs [7,8,9] (.w 12 [] (.w 13 [] .nil)))))))) (.w 11 [5,2,0] (.or (.w 6 [] (.qs [7,8,9] (.w 10 [] (.w 12 [] (.w 13 [] .nil))))) (.w 10 [5,2,0] (.w 6 [] (.qs [7,8,9] (.w 12 [] (.w 13 [] .nil)))))))))
 | 6=>(.qs [0,1,2,3,5,7] (.or (.w 4 [7,0] (.qs [6] (.or (.w 8 [] (.w 9 [] (.w 10 [] .nil))) (.w 9 [7,0] (.w 8 [] (.w 10 [] .nil)))))) (.w 9 [7,3,1,0] (.w 4 [7,0] (.qs [6] (.w 8 [] (.w 10 [] .nil)))))))
 | 14=>(.qs [0,1,2,3,4] (.w 5 [3] (.qs [6,7,8] .nil)))
 | _=>.nil
@[simp] def P101:Nat→Plan
 | 6=>(.qs [0,1,2,3,4,5,6,7,8,9] .nil)
 | _=>.nil
@[simp] def P102:Nat→Plan
 | 11=>(.qs [0,1,2,3,4,5,6,7,8,9,10,11,12,13,14,15,16,17,18,19,20,21,22,23,24] .nil)
 | _=>.nil
@[simp] def P105:Nat→Plan
 | 1=>(.qs [0,2,4] (.or (.or (.w 1 [] (.or (.w 3 [] (.w 5 [] (.qs [6] (.w 7 [] .nil)))) (.w 5 [] (.w 3 [] (.qs [6] (.w 7 [] .nil)))))) (.w 3 [] (.or (.w 1 [] (.w 5 [] (.qs [6] (.w 7 [] .nil)))) (.w 5 [] (.w 1 [] (.qs [6] (.w 7 [] .nil))))))) (.w 5 [] (.or (.w 1 [] (.w 3 [] (.qs [6] (.w 7 [] .nil)))) (.w 3 [] (.w 1 [] (.qs [6] (.w 7 [] .nil))))))))
 | _=>.nil
@[simp] def P104:Nat→Plan
 | 1=>(.qs [0,2,4,5] (.or (.or (.or (.w 1 [] (.or (.or (.w 3 [] (.or (.w 6 [] (.qs [7] (.w 8 [] (.w 9 [] .nil)))) (.w 8 [] (.w 6 [] (.qs [7] (.w 9 [] .nil)))))) (.w 6 [] (.or (.w 3 [] (.qs [7] (.w 8 [] (.w 9 [] .nil)))) (.w 8 [] (.w 3 [] (.qs [7] (.w 9 [] .nil))))))) (.w 8 [] (.or (.w 3 [] (.w 6 [] (.qs [7] (.w 9 [] .nil)))) (.w 6 [] (.w 3 [] (.qs [7] (.w 9 [] .nil)))))))) (.w 3 [] (.or (.or (.w 1 [] (.or (.w 6 [] (.qs [7] (.w 8 [] (.w 9 [] .nil)))) (.w 8 [] (.w 6 [] (.qs [7] (.w 9 [] .nil)))))) (.w 6 [] (.or (.w 1 [] (.qs [7] (.w 8 [] (.w 9 [] .nil)))) (.w 8 [] (.w 1 [] (.qs [7] (.w 9 [] .nil))))))) (.w 8 [] (.or (.w 1 [] (.w 6 [] (.qs [7] (.w 9 [] .nil)))) (.w 6 [] (.w 1 [] (.qs [7] (.w 9 [] .nil))))))))) (.w 6 [] (.or (.or (.w 1 [] (.or (.w 3 [] (.qs [7] (.w 8 [] (.w 9 [] .nil)))) (.w 8 [] (.w 3 [] (.qs [7] (.w 9 [] .nil)))))) (.w 3 [] (.or (.w 1 [] (.qs [7] (.w 8 [] (.w 9 [] .nil)))) (.w 8 [] (.w 1 [] (.qs [7] (.w 9 [] .nil))))))) (.w 8 [] (.or (.w 1 [] (.w 3 [] (.qs [7] (.w 9 [] .nil)))) (.w 3 [] (.w 1 [] (.qs [7] (.w 9 [] .nil))))))))) (.w 8 [] (.or (.or (.w 1 [] (.or (.w 3 [] (.w 6 [] (.qs [7] (.w 9 [] .nil)))) (.w 6 [] (.w 3 [] (.qs [7] (.w 9 [] .nil)))))) (.w 3 [] (.or (.w 1 [] (.w 6 [] (.qs [7] (.w 9 [] .nil)))) (.w 6 [] (.w 1 [] (.qs [7] (.w 9 [] .nil))))))) (.w 6 [] (.or (.w 1 [] (.w 3 [] (.qs [7] (.w 9 [] .nil)))) (.w 3 [] (.w 1 [] (.qs [7] (.w 9 [] .nil))))))))))
 | _=>.nil
@[simp] def P32:Nat→Plan
 | 11=>(.qs [0,1,2,3,4,5,6,7,8] (.or (.w 9 [1,0] (.qs [10,11] (.or (.w 12 [] (.qs [13,14,15,16,17] (.w 18 [] (.w 19 [] (.qs [20,21,22] .nil))))) (.w 18 [11,1,0] (.w 12 [] (.qs [13,14,15,16,17] (.w 19 [] (.qs [20,21,22] .nil)))))))) (.w 18 [6,1,0] (.w 9 [1,0] (.qs [10,11] (.w 12 [] (.qs [13,14,15,16,17] (.w 19 [] (.qs [20,21,22] .nil)))))))))
 | _=>.nil
@[simp] def P10:Nat→Plan
 | 2=>(.qs [0,1,3] (.or (.w 2 [0] (.or (.w 4 [] (.qs [5,6,7] (.w 8 [] (.w 9 [] (.qs [10] .nil))))) (.w 8 [0] (.w 4 [] (.qs [5,6,7] (.w 9 [] (.qs [10] .nil))))))) (.w 8 [1,0] (.w 2 [0] (.w 4 [] (.qs [5,6,7] (.w 9 [] (.qs [10] .nil))))))))
 | 3=>(.qs [0,2,3] (.w 1 [3,2] (.qs [4] (.w 5 [] .nil))))
 | _=>.nil
end Go.Hb
