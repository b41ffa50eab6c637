/-
  A layer for reasoning about the program's calls, and contracts of its functions. CONDITIONS: none; each theorem bears its own.
-/
import Derived.Test.YtieoaonaijbijaaGreatG03
import Derived.WideKeyArgs
import Derived.WideShapes
import Derived.SizedLaws
import Derived.WalkKit
import Derived.ProofKit
import Derived.OpenShut
set_option linter.unusedVariables false
set_option linter.unusedSimpArgs false
section
namespace Go.Hb
open Go Go.RowKit
structure Tok (K:St→Prop):Type where mk ::
structure TokQ (c:Code)(Q:Exit→St→Prop):Type where mk ::
def go (K:St→Prop)(_:Tok K)(st:St):Prop:=K st
def aWh (P:Program)(r:Option Nat)(N:Nat)(c:Code)(Q:Exit→St→Prop)(_:TokQ c Q)(st:St):Prop:=aW P r N c Q st
section
variable {P:Program} {r:Option Nat} {N:Nat} {own:Bool} {Q:Exit→St→Prop} {K K0 K1:St→Prop} {st:St} {ops:Array Oper}
def aSeq (P:Program)(r:Option Nat)(N:Nat)(own:Bool)(y:Code)(Q:Exit→St→Prop):Exit→St→Prop:=yp (aC P r N own y Q) Q
def aBr (c:LV)(K0 K1:St→Prop)(_:Tok K0)(_:Tok K1)(st:St):Prop:=match c with | .bool b=>if b=true then K0 st else K1 st | _=>False
def zff (o:Option (LV × List AObj × List Nat))(K:LV→List AObj→List Nat→Prop):Prop:=match o with | some (x,s,v)=>K x s v | none=>False
def aPut (d:Option Tmp)(t:Nat→LV)(K:St→Prop)(_:Tok K):LV→List AObj→List Nat→Prop:=fun x s v=>K ⟨updO d x t,s,v⟩
def Qw (c:Callee')(P:Program)(own:Bool)(o:Oper)(K:St→Prop)(tk:Tok K)(st:St):Prop:=match c with
 | .func f args=>zp P f args st.s st.v (aPut o.dst st.t K tk)
 | .yld l args=>QO P l args st.s st.v (aPut o.dst st.t K tk)
 | .bad=>False
 | .no=>zff (aopO P own o.op st) (aPut o.dst st.t K tk)
def aDo (P:Program)(own:Bool)(o:Oper)(K:St→Prop)(tk:Tok K)(st:St):Prop:=Qw (callee o.op st.t) P own o K tk st
def zeC (d:Option Tmp)(K:St→Prop)(_:Tok K)(st:St):Prop:=K ⟨updO d (.tup []) st.t,st.s,st.v⟩
def aG (g:Option Bool)(K0 K1:St→Prop)(_:Tok K0)(_:Tok K1)(st:St):Prop:=match g with | some false=>K0 st | some true=>K1 st | none=>False
@[simp] theorem lC_go (c:Code):aC P r N own c Q st=go (aC P r N own c Q) ⟨⟩ st:=rfl
@[simp] theorem lC_skip (tk):go (aC P r N own .skip Q) tk st=go (Q .normal) ⟨⟩ st:=rfl
@[simp] theorem lC_ret (tk):go (aC P r N own .ret Q) tk st=go (Q .ret) ⟨⟩ st:=rfl
@[simp] theorem lC_label (l:Nat) (tk):go (aC P r N own (.label l) Q) tk st=go (Q .normal) ⟨⟩ st:=rfl
@[simp] theorem lC_exit (id:Nat) (tk):go (aC P r N own (.exit id) Q) tk st=go (Q (.exit id)) ⟨⟩ st:=rfl
@[simp] theorem lC_seq_skip (y:Code) (tk):go (aC P r N own (.seq (.skip) y) Q) tk st=go (aC P r N own (.skip) (aSeq P r N own y Q)) ⟨⟩ st:=rfl
@[simp] theorem lC_seqb_skip (id:Nat) (y:Code) (tk):go (aC P r N own (.seq (.block id (.skip)) y) Q) tk st=go (aC P r N own (.block id (.skip)) (aSeq P r N own y Q)) ⟨⟩ st:=rfl
@[simp] theorem lC_seq_label (l:Nat) (y:Code) (tk):go (aC P r N own (.seq (.label l) y) Q) tk st=go (aC P r N own (.label l) (aSeq P r N own y Q)) ⟨⟩ st:=rfl
@[simp] theorem lC_seqb_label (l:Nat) (id:Nat) (y:Code) (tk):go (aC P r N own (.seq (.block id (.label l)) y) Q) tk st=go (aC P r N own (.block id (.label l)) (aSeq P r N own y Q)) ⟨⟩ st:=rfl
@[simp] theorem lC_seq_goto (l:Nat) (y:Code) (tk):go (aC P r N own (.seq (.goto l) y) Q) tk st=go (aC P r N own (.goto l) (aSeq P r N own y Q)) ⟨⟩ st:=rfl
@[simp] theorem lC_seqb_goto (l:Nat) (id:Nat) (y:Code) (tk):go (aC P r N own (.seq (.block id (.goto l)) y) Q) tk st=go (aC P r N own (.block id (.goto l)) (aSeq P r N own y Q)) ⟨⟩ st:=rfl
@[simp] theorem lC_seq_exit (i:Nat) (y:Code) (tk):go (aC P r N own (.seq (.exit i) y) Q) tk st=go (aC P r N own (.exit i) (aSeq P r N own y Q)) ⟨⟩ st:=rfl
@[simp] theorem lC_seqb_exit (i:Nat) (id:Nat) (y:Code) (tk):go (aC P r N own (.seq (.block id (.exit i)) y) Q) tk st=go (aC P r N own (.block id (.exit i)) (aSeq P r N own y Q)) ⟨⟩ st:=rfl
@[simp] theorem lC_seq_ret (y:Code) (tk):go (aC P r N own (.seq (.ret) y) Q) tk st=go (aC P r N own (.ret) (aSeq P r N own y Q)) ⟨⟩ st:=rfl
@[simp] theorem lC_seqb_ret (id:Nat) (y:Code) (tk):go (aC P r N own (.seq (.block id (.ret)) y) Q) tk st=go (aC P r N own (.block id (.ret)) (aSeq P r N own y Q)) ⟨⟩ st:=rfl
@[simp] theorem lC_seqs_skip (x y:Code) (tk):go (aC P r N own (.seq (.seq x (.skip)) y) Q) tk st=go (aC P r N own (.seq x (.skip)) (aSeq P r N own y Q)) ⟨⟩ st:=rfl
@[simp] theorem lC_seqsb_skip (id:Nat) (x y:Code) (tk):go (aC P r N own (.seq (.seq x (.block id (.skip))) y) Q) tk st=go (aC P r N own (.seq x (.block id (.skip))) (aSeq P r N own y Q)) ⟨⟩ st:=rfl
@[simp] theorem lC_seqs_label (l:Nat) (x y:Code) (tk):go (aC P r N own (.seq (.seq x (.label l)) y) Q) tk st=go (aC P r N own (.seq x (.label l)) (aSeq P r N own y Q)) ⟨⟩ st:=rfl
@[simp] theorem lC_seqsb_label (l:Nat) (id:Nat) (x y:Code) (tk):go (aC P r N own (.seq (.seq x (.block id (.label l))) y) Q) tk st=go (aC P r N own (.seq x (.block id (.label l))) (aSeq P r N own y Q)) ⟨⟩ st:=rfl
@[simp] theorem lC_seqs_goto (l:Nat) (x y:Code) (tk):go (aC P r N own (.seq (.seq x (.goto l)) y) Q) tk st=go (aC P r N own (.seq x (.goto l)) (aSeq P r N own y Q)) ⟨⟩ st:=rfl
@[simp] theorem lC_seqsb_goto (l:Nat) (id:Nat) (x y:Code) (tk):go (aC P r N own (.seq (.seq x (.block id (.goto l))) y) Q) tk st=go (aC P r N own (.seq x (.block id (.goto l))) (aSeq P r N own y Q)) ⟨⟩ st:=rfl
@[simp] theorem lC_seqs_exit (i:Nat) (x y:Code) (tk):go (aC P r N own (.seq (.seq x (.exit i)) y) Q) tk st=go (aC P r N own (.seq x (.exit i)) (aSeq P r N own y Q)) ⟨⟩ st:=rfl
@[simp] theorem lC_seqsb_exit (i:Nat) (id:Nat) (x y:Code) (tk):go (aC P r N own (.seq (.seq x (.block id (.exit i))) y) Q) tk st=go (aC P r N own (.seq x (.block id (.exit i))) (aSeq P r N own y Q)) ⟨⟩ st:=rfl
@[simp] theorem lC_seqs_ret (x y:Code) (tk):go (aC P r N own (.seq (.seq x (.ret)) y) Q) tk st=go (aC P r N own (.seq x (.ret)) (aSeq P r N own y Q)) ⟨⟩ st:=rfl
@[simp] theorem lC_seqsb_ret (id:Nat) (x y:Code) (tk):go (aC P r N own (.seq (.seq x (.block id (.ret))) y) Q) tk st=go (aC P r N own (.seq x (.block id (.ret))) (aSeq P r N own y Q)) ⟨⟩ st:=rfl
@[simp] theorem lC_seqs_seq (a b:Code) (x y:Code) (tk):go (aC P r N own (.seq (.seq x (.seq a b)) y) Q) tk st=go (aC P r N own (.seq x (.seq a b)) (aSeq P r N own y Q)) ⟨⟩ st:=rfl
@[simp] theorem lC_seqsb_seq (a b:Code) (id:Nat) (x y:Code) (tk):go (aC P r N own (.seq (.seq x (.block id (.seq a b))) y) Q) tk st=go (aC P r N own (.seq x (.block id (.seq a b))) (aSeq P r N own y Q)) ⟨⟩ st:=rfl
@[simp] theorem lC_seqs_cond (o:Operand) (a b:Code) (x y:Code) (tk):go (aC P r N own (.seq (.seq x (.cond o a b)) y) Q) tk st=go (aC P r N own (.seq x (.cond o a b)) (aSeq P r N own y Q)) ⟨⟩ st:=rfl
@[simp] theorem lC_seqsb_cond (o:Operand) (a b:Code) (id:Nat) (x y:Code) (tk):go (aC P r N own (.seq (.seq x (.block id (.cond o a b))) y) Q) tk st=go (aC P r N own (.seq x (.block id (.cond o a b))) (aSeq P r N own y Q)) ⟨⟩ st:=rfl
@[simp] theorem lC_seqs_region (i:Nat) (o:Array Oper) (d:Bool) (x y:Code) (tk):go (aC P r N own (.seq (.seq x (.region i o d)) y) Q) tk st=go (aC P r N own (.seq x (.region i o d)) (aSeq P r N own y Q)) ⟨⟩ st:=rfl
@[simp] theorem lC_seqsb_region (i:Nat) (o:Array Oper) (d:Bool) (id:Nat) (x y:Code) (tk):go (aC P r N own (.seq (.seq x (.block id (.region i o d))) y) Q) tk st=go (aC P r N own (.seq x (.block id (.region i o d))) (aSeq P r N own y Q)) ⟨⟩ st:=rfl
@[simp] theorem lC_seqs_loop (a:Code) (x y:Code) (tk):go (aC P r N own (.seq (.seq x (.loop a)) y) Q) tk st=go (aC P r N own (.seq x (.loop a)) (aSeq P r N own y Q)) ⟨⟩ st:=rfl
@[simp] theorem lC_seqs_scope (a:Code) (x y:Code) (tk):go (aC P r N own (.seq (.seq x (.scope a)) y) Q) tk st=go (aC P r N own (.seq x (.scope a)) (aSeq P r N own y Q)) ⟨⟩ st:=rfl
@[simp] theorem lC_seqsb_scope (a:Code) (id:Nat) (x y:Code) (tk):go (aC P r N own (.seq (.seq x (.block id (.scope a))) y) Q) tk st=go (aC P r N own (.seq x (.block id (.scope a))) (aSeq P r N own y Q)) ⟨⟩ st:=rfl
@[simp] theorem lC_seqs_range (o:Operand) (ps:Array Tmp) (a b:Code) (x y:Code) (tk):go (aC P r N own (.seq (.seq x (.rangeFunc o ps a b)) y) Q) tk st=go (aC P r N own (.seq x (.rangeFunc o ps a b)) (aSeq P r N own y Q)) ⟨⟩ st:=rfl
@[simp] theorem lC_seqsb_range (o:Operand) (ps:Array Tmp) (a b:Code) (id:Nat) (x y:Code) (tk):go (aC P r N own (.seq (.seq x (.block id (.rangeFunc o ps a b))) y) Q) tk st=go (aC P r N own (.seq x (.block id (.rangeFunc o ps a b))) (aSeq P r N own y Q)) ⟨⟩ st:=rfl
@[simp] theorem lC_seqsb_block (i:Nat) (b:Code) (id:Nat) (x y:Code) (tk):go (aC P r N own (.seq (.seq x (.block id (.block i b))) y) Q) tk st=go (aC P r N own (.seq x (.block id (.block i b))) (aSeq P r N own y Q)) ⟨⟩ st:=rfl
@[simp] theorem lC_seqb_seq (a b:Code) (id:Nat) (y:Code) (tk):go (aC P r N own (.seq (.block id (.seq a b)) y) Q) tk st=go (aC P r N own (.block id (.seq a b)) (aSeq P r N own y Q)) ⟨⟩ st:=rfl
@[simp] theorem lC_seq_cond (o:Operand) (a b:Code) (y:Code) (tk):go (aC P r N own (.seq (.cond o a b) y) Q) tk st=go (aC P r N own (.cond o a b) (aSeq P r N own y Q)) ⟨⟩ st:=rfl
@[simp] theorem lC_seqb_cond (o:Operand) (a b:Code) (id:Nat) (y:Code) (tk):go (aC P r N own (.seq (.block id (.cond o a b)) y) Q) tk st=go (aC P r N own (.block id (.cond o a b)) (aSeq P r N own y Q)) ⟨⟩ st:=rfl
@[simp] theorem lC_seq_region (i:Nat) (o:Array Oper) (d:Bool) (y:Code) (tk):go (aC P r N own (.seq (.region i o d) y) Q) tk st=go (aC P r N own (.region i o d) (aSeq P r N own y Q)) ⟨⟩ st:=rfl
@[simp] theorem lC_seqb_region (i:Nat) (o:Array Oper) (d:Bool) (id:Nat) (y:Code) (tk):go (aC P r N own (.seq (.block id (.region i o d)) y) Q) tk st=go (aC P r N own (.block id (.region i o d)) (aSeq P r N own y Q)) ⟨⟩ st:=rfl
@[simp] theorem lC_seq_loop (a:Code) (y:Code) (tk):go (aC P r N own (.seq (.loop a) y) Q) tk st=go (aC P r N own (.loop a) (aSeq P r N own y Q)) ⟨⟩ st:=rfl
@[simp] theorem lC_seq_scope (a:Code) (y:Code) (tk):go (aC P r N own (.seq (.scope a) y) Q) tk st=go (aC P r N own (.scope a) (aSeq P r N own y Q)) ⟨⟩ st:=rfl
@[simp] theorem lC_seqb_scope (a:Code) (id:Nat) (y:Code) (tk):go (aC P r N own (.seq (.block id (.scope a)) y) Q) tk st=go (aC P r N own (.block id (.scope a)) (aSeq P r N own y Q)) ⟨⟩ st:=rfl
@[simp] theorem lC_seq_range (o:Operand) (ps:Array Tmp) (a b:Code) (y:Code) (tk):go (aC P r N own (.seq (.rangeFunc o ps a b) y) Q) tk st=go (aC P r N own (.rangeFunc o ps a b) (aSeq P r N own y Q)) ⟨⟩ st:=rfl
@[simp] theorem lC_seqb_range (o:Operand) (ps:Array Tmp) (a b:Code) (id:Nat) (y:Code) (tk):go (aC P r N own (.seq (.block id (.rangeFunc o ps a b)) y) Q) tk st=go (aC P r N own (.block id (.rangeFunc o ps a b)) (aSeq P r N own y Q)) ⟨⟩ st:=rfl
@[simp] theorem lC_seqb_block (i:Nat) (b:Code) (id:Nat) (y:Code) (tk):go (aC P r N own (.seq (.block id (.block i b)) y) Q) tk st=go (aC P r N own (.block id (.block i b)) (aSeq P r N own y Q)) ⟨⟩ st:=rfl
def aWs (P:Program)(r:Option Nat)(N:Nat)(own:Bool)(id:Nat)(c y:Code)(Q:Exit→St→Prop)(_:TokQ y Q)(st:St):Prop:=aW P r N (.block id (.loop c)) (yp (aW P r N y Q) Q) st
@[simp] theorem lC_seq_bl (id:Nat) (c y:Code) (tk):go (aC P r N own (.seq (.block id (.loop c)) y) Q) tk st=aWs P r N own id c y Q ⟨⟩ st:=rfl
def aSlp (P:Program)(r:Option Nat)(N:Nat)(own:Bool)(id:Nat)(c y:Code)(Q:Exit→St→Prop):Exit→St→Prop:=yp (aW P r N (.block id (.loop c)) (yp (aW P r N y Q) Q)) Q
@[simp] theorem lSl_normal (id:Nat) (c y:Code) (tk):go (aSlp P r N own id c y Q .normal) tk st=aWs P r N own id c y Q ⟨⟩ st:=rfl
@[simp] theorem lSl_ret (id:Nat) (c y:Code) (tk):go (aSlp P r N own id c y Q .ret) tk st=go (Q .ret) ⟨⟩ st:=rfl
@[simp] theorem lSl_exit (id:Nat) (c y:Code) (i:Nat) (tk):go (aSlp P r N own id c y Q (.exit i)) tk st=go (Q (.exit i)) ⟨⟩ st:=rfl
@[simp] theorem lC_seq_seq_bl (a:Code) (id:Nat) (c y:Code) (tk):go (aC P r N own (.seq (.seq a (.block id (.loop c))) y) Q) tk st=go (aC P r N own a (aSlp P r N own id c y Q)) ⟨⟩ st:=rfl
@[simp] theorem lC_cond (c:Operand) (x y:Code) (tk):go (aC P r N own (.cond c x y) Q) tk st=aBr (aev st.t c) (aC P r N own x Q) (aC P r N own y Q) ⟨⟩ ⟨⟩ st:=by
 simp only[go,aC,aIf,aBr]
 cases aev st.t c<;>rfl
@[simp] theorem lC_block (id:Nat) (x:Code) (tk):go (aC P r N own (.block id x) Q) tk st=go (aC P r N own x (zE id Q)) ⟨⟩ st:=rfl
@[simp] theorem lC_region (id:Nat) (l:List Oper) (tk):go (aC P r N own (.region id l.toArray false) Q) tk st=go (aL P N l.toArray own l (Q .normal)) ⟨⟩ st:=rfl
@[simp] theorem lC_drawn (id:Nat) (ops:Array Oper) (tk):go (aC P r N own (.region id ops true) Q) tk st=aWh P r N (.region id ops true) Q ⟨⟩ st:=rfl
@[simp] theorem lC_loop (c:Code) (tk):go (aC P r N own (.loop c) Q) tk st=aWh P r N (.loop c) Q ⟨⟩ st:=rfl
@[simp] theorem lC_scope (c:Code) (tk):go (aC P r N own (.scope c) Q) tk st=aWh P r N (.scope c) Q ⟨⟩ st:=rfl
@[simp] theorem lC_range (f:Operand) (ps:Array Tmp) (x y:Code) (tk):go (aC P r N own (.rangeFunc f ps x y) Q) tk st=aWh P r N (.rangeFunc f ps x y) Q ⟨⟩ st:=rfl
@[simp] theorem lSeq_normal (y:Code) (tk):go (aSeq P r N own y Q .normal) tk st=go (aC P r N own y Q) ⟨⟩ st:=rfl
@[simp] theorem lSeq_ret (y:Code) (tk):go (aSeq P r N own y Q .ret) tk st=go (Q .ret) ⟨⟩ st:=rfl
@[simp] theorem lSeq_exit (y:Code) (id:Nat) (tk):go (aSeq P r N own y Q (.exit id)) tk st=go (Q (.exit id)) ⟨⟩ st:=rfl
@[simp] theorem lBlock_normal (id:Nat) (tk):go (zE id Q .normal) tk st=go (Q .normal) ⟨⟩ st:=rfl
@[simp] theorem lBlock_ret (id:Nat) (tk):go (zE id Q .ret) tk st=go (Q .ret) ⟨⟩ st:=rfl
@[simp] theorem lBlock_self (id:Nat) (tk):go (zE id Q (.exit id)) tk st=go (Q .normal) ⟨⟩ st:=by simp only[go,zE,if_true]
@[simp] theorem zbd (id id':Nat) (tk) (h:(id' == id)=false):go (zE id Q (.exit id')) tk st=go (Q (.exit id')) ⟨⟩ st:=by
 have:id'≠id:=by simpa using h
 simp only[go,zE,if_neg this]
@[simp] theorem lThen_normal (K:St→Prop) (tk):go (yp K Q .normal) tk st=K st:=rfl
@[simp] theorem lThen_ret (K:St→Prop) (tk):go (yp K Q .ret) tk st=go (Q .ret) ⟨⟩ st:=rfl
@[simp] theorem lThen_exit (K:St→Prop) (id:Nat) (tk):go (yp K Q (.exit id)) tk st=go (Q (.exit id)) ⟨⟩ st:=rfl
@[simp] theorem lScope_normal (tk):go (zeN Q .normal) tk st=go (Q .normal) ⟨⟩ st:=rfl
@[simp] theorem lScope_ret (tk):go (zeN Q .ret) tk st=go (Q .ret) ⟨⟩ st:=rfl
@[simp] theorem lScope_exit (id:Nat) (tk):go (zeN Q (.exit id)) tk st=go (Q (.exit id)) ⟨⟩ st:=rfl
@[simp] theorem lBody {fn:Func} {R:LV→List AObj→List Nat→Prop} (e:Exit) (tk):go (YW P fn R e) tk st=YW P fn R e st:=rfl
@[simp] theorem lRoundQ {l:Nat} {R:LV→List AObj→List Nat→Prop} (e:Exit) (tk):go (zfy l R e) tk st=zfy l R e st:=rfl
@[simp] theorem lGo2 (K:St→Prop) (tk tk'):go (go K tk) tk' st=go K ⟨⟩ st:=rfl
@[simp] theorem lBr (b:Bool) (t0 t1):aBr (.bool b) K0 K1 t0 t1 st=if b=true then go K0 ⟨⟩ st else go K1 ⟨⟩ st:=rfl
@[simp] theorem lL_nil (ops:Array Oper) (tk):go (aL P N ops own [] K) tk st=go K ⟨⟩ st:=rfl
@[simp] theorem lL_cons (ops:Array Oper) (o:Oper) (rest:List Oper) (tk):go (aL P N ops own (o :: rest) K) tk st=(dOk N o.dst∧aG (wG ops st.t o) (zeC o.dst (aL P N ops own rest K) ⟨⟩) (aDo P own o (aL P N ops own rest K) ⟨⟩) ⟨⟩ ⟨⟩ st):=by
 simp only[go,aL,xq,aG,zeC,aDo,Qw,zff,aPut]
 cases wG ops st.t o with
 | none=>rfl
 | some b=>cases b<;>rfl
@[simp] theorem lG_false (t0 t1):aG (some false) K0 K1 t0 t1 st=K0 st:=rfl
@[simp] theorem lG_true (t0 t1):aG (some true) K0 K1 t0 t1 st=K1 st:=rfl
@[simp] theorem lSkip (d:Option Tmp) (tk):zeC d K tk st=go K ⟨⟩ ⟨updO d (.tup []) st.t,st.s,st.v⟩:=rfl
@[simp] theorem lDo (o:Oper) (tk):aDo P own o K tk st=Qw (callee o.op st.t) P own o K ⟨⟩ st:=rfl
@[simp] theorem lCallee_func (o:Oper) (f:FuncId) (args:List LV) (tk):Qw (.func f args) P own o K tk st=zp P f args st.s st.v (aPut o.dst st.t K ⟨⟩):=rfl
@[simp] theorem lCallee_yld (o:Oper) (l:Nat) (args:List LV) (tk):Qw (.yld l args) P own o K tk st=QO P l args st.s st.v (aPut o.dst st.t K ⟨⟩):=rfl
@[simp] theorem lCallee_no (o:Oper) (tk):Qw .no P own o K tk st=zff (aopO P own o.op st) (aPut o.dst st.t K ⟨⟩):=rfl
@[simp] theorem lSome (x:LV) (s:List AObj) (v:List Nat) (K:LV→List AObj→List Nat→Prop):zff (some (x,s,v)) K=K x s v:=rfl
@[simp] theorem lPut (d:Option Tmp) (t:Nat→LV) (x:LV) (s:List AObj) (v:List Nat) (tk):aPut d t K tk x s v=go K ⟨⟩ ⟨updO d x t,s,v⟩:=rfl
def aPx (P:Program)(N:Nat)(ops:Array Oper)(own:Bool)(K:St→Prop)(p:Plan)(W:List (Nat × LV))(i:Nat)(ld:Bool)(d:Option Tmp)(ox:Option LV)(st:St):Prop:=match ox with
 | some x=>yr P N ops own K p (if ld then (i,x) :: W else W) ⟨updO d x st.t,st.s,st.v⟩
 | none=>False
def aPq (P:Program)(N:Nat)(ops:Array Oper)(own:Bool)(K:St→Prop)(p:Plan)(W:List (Nat × LV))(i:Nat)(oo:Option Oper)(st:St):Prop:=match oo with
 | some o=>dOk N o.dst∧aPx P N ops own K p W i (vp o.op) o.dst (aq P ops o st) st
 | none=>False
def aPk (P:Program)(N:Nat)(ops:Array Oper)(own:Bool)(K:St→Prop)(keep:List Nat)(p:Plan)(W:List (Nat × LV))(st:St):Prop:=
 KI P ops st (W.filter fun y=>keep.contains y.1)∧yr P N ops own K p (W.filter fun y=>keep.contains y.1) st
def aPw (P:Program)(N:Nat)(ops:Array Oper)(own:Bool)(K:St→Prop)(keep:List Nat)(p:Plan)(W:List (Nat × LV))(oo:Option Oper)(st:St):Prop:=match oo with
 | some o=>xq P N ops o st (aPk P N ops own K keep p W) own
 | none=>False
@[simp] theorem lP_nil (W:List (Nat × LV)):yr P N ops own K .nil W st=K st:=rfl
@[simp] theorem lP_or {ops:Array Oper} (p p':Plan) (W:List (Nat × LV)):yr P N ops own K (.or p p') W st=(yr P N ops own K p W st∧yr P N ops own K p' W st):=rfl
@[simp] theorem lP_q {ops:Array Oper} (i:Nat) (p:Plan) (W:List (Nat × LV)):yr P N ops own K (.q i p) W st=aPq P N ops own K p W i ops[i]? st:=by
 simp only[yr,aPq,aPx]
 cases ops[i]? with
 | none=>rfl
 | some o=>cases aq P ops o st<;>rfl
@[simp] theorem lP_w {ops:Array Oper} (i:Nat) (keep:List Nat) (p:Plan) (W:List (Nat × LV)):yr P N ops own K (.w i keep p) W st=aPw P N ops own K keep p W ops[i]? st:=by
 simp only[yr,aPw]
 cases ops[i]?<;>rfl
@[simp] theorem lPq {ops:Array Oper} (p:Plan) (W:List (Nat × LV)) (i:Nat) (o:Oper):aPq P N ops own K p W i (some o) st=(dOk N o.dst∧aPx P N ops own K p W i (vp o.op) o.dst (aq P ops o st) st):=rfl
@[simp] theorem lPx {ops:Array Oper} (p:Plan) (W:List (Nat × LV)) (i:Nat) (ld:Bool) (d:Option Tmp) (x:LV):aPx P N ops own K p W i ld d (some x) st=yr P N ops own K p (if ld then (i,x) :: W else W) ⟨updO d x st.t,st.s,st.v⟩:=rfl
@[simp] theorem lPw {ops:Array Oper} (keep:List Nat) (p:Plan) (W:List (Nat × LV)) (o:Oper):aPw P N ops own K keep p W (some o) st=(dOk N o.dst∧aG (wG ops st.t o) (zeC o.dst (aPk P N ops own K keep p W) ⟨⟩) (aDo P own o (aPk P N ops own K keep p W) ⟨⟩) ⟨⟩ ⟨⟩ st):=by
 simp only[aPw,xq,aG,zeC,aDo,Qw,zff,aPut]
 cases wG ops st.t o with
 | none=>rfl
 | some b=>cases b<;>rfl
@[simp] theorem lPk {ops:Array Oper} (keep:List Nat) (p:Plan) (W:List (Nat × LV)) (tk):go (aPk P N ops own K keep p W) tk st=(KI P ops st (W.filter fun y=>keep.contains y.1)∧yr P N ops own K p (W.filter fun y=>keep.contains y.1) st):=rfl
end
def zmt (K:St→Prop)(_:Tok K)(st:St):Prop:=K st
theorem hid {K:St→Prop}{st:St}(h:K st):zmt K ⟨⟩ st:=h
open Classical in
theorem zeL {P:Program}{r:Option Nat}{N:Nat}{Q:Exit→St→Prop}{st:St}{c:Code}(J:Nat→St→Prop)(h0:∃ d,J d st)
  (round:∀ d st,J d st→aW P r N c (yp (fun st'=>∃ d',d'<d∧J d' st') Q) st):aW P r N (.loop c) Q st:=by
 refine ziL (fun st=>∃ d,J d st) (fun st=>if h:∃ d,J d st then Classical.choose (yR h) else 0) h0 fun st1 hI=>?_
 have hc:=Classical.choose_spec (yR hI)
 refine uo (round _ st1 hc.1) fun e st' h=>?_
 cases e with
 | normal=>
  obtain⟨d',hd,hJ⟩:=h
  have hex:∃ d,J d st':=⟨d',hJ⟩
  refine⟨hex,?_⟩
  rw[dif_pos hex,dif_pos hI]
  exact Nat.lt_of_le_of_lt ((Classical.choose_spec (yR hex)).2 _ hJ) hd
 | _=>exact h
def I64 (a:Int):Prop:= -9223372036854775808≤a∧a≤9223372036854775807
def Ends (s:List AObj)(v:List Nat)(y x:LV)(s':List AObj)(v':List Nat):Prop:=(∃ J,s++J=s')∧x.under s.length=true∧Weak x y∧v <+: v'
def zG (P:Program)(f:FuncId)(args:List LV)(y:LV):Prop:=∀ s v,zp P f args s v fun x s' v'=>y=x∧s=s'∧v <+: v'
theorem Qp {P:Program}{f:FuncId}{args:List LV}{y:LV}{s:List AObj}{v:List Nat}(h:zp P f args s v (Ends s v y)):zp P f args s v fun x s' v'=>y=x∧s=s'∧v <+: v':=
 xp (wo (zj h fun x s' v' ⟨⟨J,h1⟩,h2,h3,h4⟩=>⟨s,J,h1.symm,rfl,h2,fun _ _ ho=>.inl ho,y,s,h3,wF.refl _,rfl,rfl,h4⟩))
theorem zG.of {P:Program}{f:FuncId}{args:List LV}{y:LV}(h:∀ s v,zp P f args s v (Ends s v y)):zG P f args y:=fun s v=>Qp (h s v)
theorem Ends.at {s J:List AObj}{v v':List Nat}{y x:LV}(h2:x.under s.length=true)(h3:Weak x y)(h4:v <+: v'):Ends s v y x (s++J) v':=⟨⟨J,rfl⟩,h2,h3,h4⟩
theorem Ends.same {s:List AObj}{v v':List Nat}{y x:LV}(h2:x.under s.length=true)(h3:Weak x y)(h4:v <+: v'):Ends s v y x s v':=⟨⟨[],by simp⟩,h2,h3,h4⟩
def zn (s:List AObj)(v:List Nat)(y x:LV)(s':List AObj)(v':List Nat):Prop:=(∃ J,s++J=s')∧x.under s.length=true∧Weak x y∧v=v'
def zM (P:Program)(f:FuncId)(args:List LV)(y:LV):Prop:=∀ s v,zp P f args s v fun x s' v'=>y=x∧s=s'∧v=v'
theorem zM.of {P:Program}{f:FuncId}{args:List LV}{y:LV}(h:∀ s v,zp P f args s v (zn s v y)):zM P f args y:=fun s v=>
 xp (wo (zj (h s v) fun x s' v' ⟨⟨J,h1⟩,h2,h3,h4⟩=>⟨s,J,h1.symm,rfl,h2,fun _ _ ho=>.inl ho,y,s,h3,wF.refl _,rfl,rfl,h4⟩))
theorem zM.c {P:Program}{f:FuncId}{args:List LV}{y:LV}(h:zM P f args y):zG P f args y:=fun s v=>
 zj (h s v) fun _ _ _ ⟨h1,h2,h3⟩=>⟨h1,h2,h3 ▸ List.prefix_refl _⟩
theorem zn.at {s J:List AObj}{v:List Nat}{y x:LV}(h2:x.under s.length=true)(h3:Weak x y):zn s v y x (s++J) v:=⟨⟨J,rfl⟩,h2,h3,rfl⟩
theorem zn.same {s:List AObj}{v:List Nat}{y x:LV}(h2:x.under s.length=true)(h3:Weak x y):zn s v y x s v:=⟨⟨[],by simp⟩,h2,h3,rfl⟩
@[simp] theorem zeros_1 (z:List LV):xz z 1=z:=by simp[xz]
@[simp] theorem wrap1:IntKind.i64.wrap 1=1:=rfl
@[simp] theorem wrap2:IntKind.i64.wrap 2=2:=rfl
end Go.Hb
end
section
namespace Go.Hb
open Go Go.RowKit Go.ChangeShapes Go.WideShapes
theorem Weak.emp (sz:Nat):Weak (.emp sz) (.imm sz 0 [] .no):=fun C v h=>by
 simp only[RelV] at h ⊢
 obtain⟨a,cap,rfl,h2⟩:=h
 exact⟨some a,cap,rfl,Nat.zero_le _,h2,by simp,(by intro h;cases h),fun _ _ hne=>absurd rfl hne,fun _ _ _=>by simp[zZ],trivial⟩
section
variable {H:Type} (enc:TypeId × Value→H) (P:Program) (W:World)
def Near (l:List Nat):Prop:=∀ n∈l,n≤reachBytes
def ui {α : Type}(t:TypeId)(G:α→Prop)(X:α→List LV):Prop:=
 ∀ fuel cs x,DataW.trod enc P W 0 (fun _=>true) true fuel t cs=some x→Near (x.1.weights P t)→∃ a,G a∧zi (Qg W) (X a) cs∧∀ u∈cs,u.oneCell'=true
variable {enc P W}
theorem zdZ {t:TypeId}{k:IntKind}(hu:P.underlying t=some (.int k)):ui enc P W t (fun n:Int=>(Lit.int k n).wf=true) (fun n=>[.int k n]):=by
 intro fuel cs x h _
 obtain⟨n,rfl,_,hw⟩:=DataW.trod_int hu h
 exact⟨n,hw,⟨_,_,rfl,by simp[RelV],rfl⟩,by simp[Value.oneCell']⟩
theorem zdf {β : Type}{f:Nat→Option β} : ∀ (n o:Nat) {xs:List β},(List.range' o n).mapM f=some xs→xs.length=n∧∀ i,i<n→f (o+i)=xs[i]?:=by
 intro n
 induction n with
 | zero=>intro o xs h;simp at h;subst h;simp
 | succ n ih=>
  intro o xs h
  rw[List.range'_succ,List.mapM_cons] at h
  simp only[Option.bind_eq_bind,Option.bind_eq_some_iff,Option.pure_def,Option.some.injEq] at h
  obtain⟨y,hy,ys,hys,rfl⟩:=h
  obtain⟨h1,h2⟩:=ih (o+1) hys
  refine⟨by simp[h1],fun i hi=>?_⟩
  cases i with
  | zero=>simpa using hy
  | succ i=>have:=h2 i (by omega);rw[show o+1+i=o+(i+1) by omega] at this;simpa using this
theorem Zh {β : Type}{f:Nat→Option β}{n:Nat}{xs:List β}(h:(List.range n).mapM f=some xs):xs.length=n∧∀ i,i<n→f i=xs[i]?:=by
 rw[List.range_eq_range'] at h
 obtain⟨h1,h2⟩:=zdf n 0 h
 exact⟨h1,fun i hi=>by simpa using h2 i hi⟩
theorem zkk {α : Type}{p:Nat→α→Prop} : ∀ (n:Nat),(∀ i,i<n→∃ a,p i a)→∃ l:List α,l.length=n∧∀ i a,l[i]? = some a→p i a:=by
 intro n
 induction n with
 | zero=>intro _;exact⟨[],rfl,by simp⟩
 | succ n ih=>
  intro h
  obtain⟨l,h1,h2⟩:=ih fun i hi=>h i (by omega)
  obtain⟨a,ha⟩:=h n (by omega)
  refine⟨l++[a],by simp[h1],fun i b hb=>?_⟩
  by_cases hi:i<l.length
  ·rw[List.getElem?_append_left hi] at hb;exact h2 i b hb
  ·rw[List.getElem?_append_right (by omega)] at hb
   have:i-l.length=0:=by have:=(List.getElem?_eq_some_iff.1 hb).1;simp at this;omega
   rw[this] at hb;simp at hb;subst hb
   have:i=n:=by omega
   subst this;exact ha
theorem zcX {α : Type}{X:α→List LV}{m b:Nat}{cell:Nat→Nat→Prop} : ∀ (l:List α) (o:Nat),(∀ a∈l,(X a).length=m)→(∀ i a,l[i]? = some a→zZ (Qg W) b (X a) (o+i*m))→zZ (Qg W) b (l.flatMap X) o:=by
 intro l
 induction l with
 | nil=>intro o _ _;simp[zZ]
 | cons a l ih=>
  intro o hm h
  rw[List.flatMap_cons]
  refine zZ.app (by simpa using h 0 a rfl) ?_
  rw[hm a (by simp)]
  refine ih (o+m) (fun b hb=>hm b (by simp[hb])) fun i b hb=>?_
  have:=h (i+1) b (by simpa using hb)
  rwa [show o+(i+1)*m=o+m+i*m by rw[Nat.succ_mul];omega] at this
theorem zaR {b:Nat} : ∀ (xs:List LV) (us:List Value) (o:Nat),zi (Qg W) xs us→(∀ u∈us,u.oneCell'=true)→(∀ i u,us[i]? = some u→W.cell? ⟨b,o+i,none⟩=some u)→zZ (Qg W) b xs o:=by
 intro xs
 induction xs with
 | nil=>intro us o _ _ _;simp[zZ]
 | cons x xs ih=>
  intro us o h h1 h2
  obtain⟨v,r,rfl,h3,h4⟩:=h
  have hc:W.cell? ⟨b,o,none⟩=some v:=by simpa using h2 0 v rfl
  refine⟨⟨v,hc,zdC hc,h1 v (by simp),h3⟩,ih r (o+1) h4 (fun u hu=>h1 u (by simp[hu])) fun i u hu=>?_⟩
  have:=h2 (i+1) u (by simpa using hu)
  rwa [show o+(i+1)=o+1+i by omega] at this
theorem zfW {a:Addr}{v:Value}(h:W.cell? a=some v):a.spot=none:=by
 unfold World.cell? at h
 split at h
 ·split at h
  ·cases h
  ·rename_i hh;simpa using hh
 ·cases h
theorem JN {e:TypeId}{n:Nat}{d:DataW H} : ∀ {l:List (DataW H)},d∈l→n∈d.weights P e→n∈DataW.weightsAll P e l
 | [],h,_=>absurd h (by simp)
 | c :: l,h,hn=>by
  simp only[DataW.weightsAll,List.mem_append]
  rcases List.mem_cons.1 h with rfl | h
  ·exact .inl hn
  ·exact .inr (JN h hn)
theorem vP {α : Type}{G:α→Prop}{X:α→List LV}{t e:TypeId}{m:Nat}(hu:P.underlying t=some (.slice e))(hc:P.cellsOf e=m)(hm:m≠0)(hX:∀ a,G a→(X a).length=m)(he:ui enc P W e G X) :
  ui enc P W t (fun l:List α=>(∀ a∈l,G a)∧l.length≤maxLen∧l.length*P.bytesOf e≤reachBytes) (fun l=>[.imm m l.length (l.flatMap X) .no]):=by
 intro fuel cs x h hz
 cases fuel with
 | zero=>simp[DataW.trod] at h
 | succ fuel=>
  simp only[DataW.trod,hu] at h
  split at h<;>(try (simp_all;done))
  ·refine⟨[],by simp,⟨_,_,rfl,?_,rfl⟩,by simp[Value.oneCell']⟩
   exact Weak.nils m .no (.inl rfl) _ _ (by simp[RelV])
  ·rename_i e' a len cap heq
   simp only[Option.some.injEq,TypeDesc.slice.injEq] at heq
   subst heq
   split at h
   ·rename_i hcond
    obtain⟨_,hlc,hcm⟩:=hcond
    simp only[Option.bind_eq_some_iff] at h
    obtain⟨elems,hel,hx⟩:=h
    obtain⟨hl1,hl2⟩:=Zh hel
    simp only[Option.map_eq_some_iff] at hx
    obtain⟨rest,_,rfl⟩:=hx
    simp only[DataW.weights,hu,List.length_map] at hz
    have hz1:(elems.length+rest.length)*P.bytesOf e≤reachBytes:=hz _ (by simp)
    have hz2:∀ i (h:i<elems.length),Near (elems[i].1.weights P e):=fun i h n hn=>hz n (by
     simp only[List.mem_cons,List.mem_append]
     exact .inr (.inl (JN (List.mem_map.2 ⟨elems[i],List.getElem_mem h,rfl⟩) hn)))
    obtain⟨l,hll,hl⟩:=zkk (p:=fun i a'=>∃ us,G a'∧zi (Qg W) (X a') us∧(∀ u∈us,u.oneCell'=true)∧∀ j u,us[j]? = some u→W.cell? ((a.add (i*m)).add j)=some u) len fun i hi=>by
     have:=hl2 i hi
     have hi':i<elems.length:=by omega
     rw[List.getElem?_eq_getElem hi',Option.bind_eq_some_iff] at this
     obtain⟨us,hus,htr⟩:=this
     obtain⟨a',g1,g2,g3⟩:=he fuel us _ htr (hz2 i hi')
     refine⟨a',us,g1,g2,g3,fun j u hj=>?_⟩
     unfold World.cells? at hus
     rw[if_pos (Nat.zero_le _)] at hus
     obtain⟨k1,k2⟩:=Zh hus
     rw[hc] at k1 k2
     have:=k2 j (by rw[← k1];exact(List.getElem?_eq_some_iff.1 hj).1)
     rw[this,hj]
    have hG:∀ a'∈l,G a':=fun a' ha'=>by
     obtain⟨i,hi⟩:=List.getElem?_of_mem ha'
     obtain⟨us,g,_⟩:=hl i a' hi;exact g
    have hfl:(l.flatMap X).length=len*m:=by
     rw[← hll]
     clear hl hll hl1 hl2 hel hz hz1 hz2
     induction l with
     | nil=>simp
     | cons a' l ih=>rw[List.flatMap_cons,List.length_append,hX a' (hG a' (by simp)),ih fun b hb=>hG b (by simp[hb]),List.length_cons,Nat.succ_mul];omega
    refine⟨l,⟨hG,by omega,by rw[hll,← hl1];exact Nat.le_trans (Nat.mul_le_mul_right _ (Nat.le_add_right _ _)) hz1⟩,⟨_,_,rfl,?_,rfl⟩,by simp[Value.oneCell']⟩
    simp only[RelV]
    refine⟨some a,cap,by rw[hll],by omega,hcm,by rw[hll];exact hfl,(by intro h;cases h),fun a' ha' hne=>?_,fun b o hab=>?_,trivial⟩
    ·cases ha'
     obtain⟨a0,ha0⟩:∃ a0,l[0]? = some a0:=⟨l[0]'(by omega),by simp⟩
     obtain⟨us,g1,g2,g3,g4⟩:=hl 0 a0 ha0
     have hlen:=g2.length
     rw[hX a0 g1] at hlen
     have:=g4 0 (us[0]'(by omega)) (by simp)
     have:=zfW this
     unfold Addr.add at this
     simpa using this
    ·cases hab
     refine zcX (m:=m) (cell:=fun _ _=>True) l o (fun a' ha'=>hX a' (hG a' ha')) fun i a' hi=>?_
     obtain⟨us,g1,g2,g3,g4⟩:=hl i a' hi
     refine zaR _ us _ g2 g3 fun j u hj=>?_
     have:=g4 j u hj
     rwa [ym,ym] at this
   ·cases h
variable (enc P W) in
def Yw {α : Type}(N:Nat)(fs:List Field)(o:Nat)(G:α→Prop)(X:α→List LV):Prop:=
 ∀ (fuel:Nat) (cs:List Value) (xs:List (DataW H × List MemPlace)),cs.length=N→fs.mapM (fun f=>DataW.trod enc P W 0 (fun _=>true) true fuel f.type ((cs.drop f.offset).take (P.cellsOf f.type)))=some xs→Near (DataW.weightsEach P (fs.map (·.type)) (xs.map (·.1)))→
  ∃ a,G a∧zi (Qg W) (X a) (cs.drop o)∧∀ u∈cs.drop o,u.oneCell'=true
theorem Qy (N:Nat):Yw enc P W N [] N (fun _:Unit=>True) (fun _=>[]):=fun fuel cs xs hn _ _=>⟨(),trivial,by rw[List.drop_of_length_le (by omega)];rfl,by rw[List.drop_of_length_le (by omega)];simp⟩
theorem yo {α β : Type}{G:α→Prop}{X:α→List LV}{G':β→Prop}{X':β→List LV}{N o m:Nat}{f:Field}{fs:List Field}(ho:f.offset=o)(hm:P.cellsOf f.type=m)
  (h1:ui enc P W f.type G X) (h2:Yw enc P W N fs (o+m) G' X'):Yw enc P W N (f :: fs) o (fun p:α × β=>G p.1∧G' p.2) (fun p=>X p.1++X' p.2):=by
 intro fuel cs xs hn h hz
 rw[List.mapM_cons] at h
 simp only[Option.bind_eq_bind,Option.bind_eq_some_iff,Option.pure_def,Option.some.injEq] at h
 obtain⟨y,hy,ys,hys,rfl⟩:=h
 simp only[List.map_cons,DataW.weightsEach] at hz
 obtain⟨a,g1,g2,g3⟩:=h1 fuel _ y hy fun n hn=>hz n (List.mem_append.2 (.inl hn))
 obtain⟨b,k1,k2,k3⟩:=h2 fuel cs ys hn hys fun n hn=>hz n (List.mem_append.2 (.inr hn))
 rw[ho,hm] at g2 g3
 have hsplit:cs.drop o=(cs.drop o).take m++cs.drop (o+m):=by rw[← List.drop_drop,List.take_append_drop]
 refine⟨(a,b),⟨g1,k1⟩,?_,?_⟩
 ·rw[hsplit];exact g2.app k2
 ·rw[hsplit]
  intro u hu
  rcases List.mem_append.1 hu with h' | h'
  ·exact g3 u h'
  ·exact k3 u h'
theorem uJ {α : Type}{G:α→Prop}{X:α→List LV}{t:TypeId}{N:Nat}{fs:Array Field}(hu:P.underlying t=some (.struct fs))(hc:P.cellsOf t=N)(h:Yw enc P W N fs.toList 0 G X):ui enc P W t G X:=by
 intro fuel cs x hx hz
 cases fuel with
 | zero=>simp[DataW.trod] at hx
 | succ fuel=>
  simp only[DataW.trod,hu] at hx
  split at hx
  ·rename_i hl
   simp only[Option.map_eq_some_iff] at hx
   obtain⟨xs,hxs,rfl⟩:=hx
   simp only[DataW.weights,hu] at hz
   obtain⟨a,g1,g2,g3⟩:=h fuel cs xs (by rw[hl,hc]) hxs hz
   exact⟨a,g1,by simpa using g2,by simpa using g3⟩
  ·cases hx
theorem xQ {α β : Type}{G:α→Prop}{X:α→List LV}{G':β→Prop}{X':β→List LV}{t:TypeId}(f:α→β)(h:ui enc P W t G X)(hf:∀ a,G a→G' (f a)∧X a=X' (f a)):ui enc P W t G' X':=by
 intro fuel cs x hx hz
 obtain⟨a,g1,g2,g3⟩:=h fuel cs x hx hz
 exact⟨f a,(hf a g1).1,by rw[← (hf a g1).2];exact g2,g3⟩
theorem zdB {t:TypeId}(hu:P.underlying t=some (.int .i64)):ui enc P W t I64 (fun n=>[.int .i64 n]):=
 xQ id (zdZ hu) fun a h => ⟨by simpa [Lit.wf, IntKind.min, IntKind.signed, IntKind.bits, I64] using h, rfl⟩
theorem YA {α : Type}{G:α→Prop}{x:α→LV}{t:TypeId}{v:Value}{d:DataW H}{ps:List MemPlace}(h:ui enc P W t G (fun a=>[x a]))(hv:v.cells.toList=[v])(ht:DataW.Trod enc P W 0 (fun _=>true) true t v d ps)(hz:Near (d.weights P t)) :
  ∃ a,G a∧RelV (Qg W) (x a) v:=by
 obtain⟨fuel,ht⟩:=ht
 rw[hv] at ht
 obtain⟨a,g1,⟨u,r,e,g2,_⟩,_⟩:=h fuel _ _ ht hz
 cases e
 exact⟨a,g1,g2⟩
theorem ziQ {α : Type}{G:α→Prop}{X:α→List LV}{t:TypeId}{v:Value}{d:DataW H}{ps:List MemPlace}(h:ui enc P W t G X)(hv:∃ cs,v = .agg cs)(ht:DataW.Trod enc P W 0 (fun _=>true) true t v d ps)(hz:Near (d.weights P t)) :
  ∃ a,G a∧RelV (Qg W) (.agg (X a)) v:=by
 obtain⟨cs,rfl⟩:=hv
 obtain⟨fuel,ht⟩:=ht
 obtain⟨a,g1,g2,g3⟩:=h fuel _ _ ht hz
 refine⟨a,g1,?_⟩
 simp only[RelV]
 exact⟨cs,rfl,by simpa[Value.cells] using g2,fun u hu=>g3 u (by simpa[Value.cells] using hu)⟩
end
end Go.Hb
namespace Go.Hb
open Go
theorem uC {H:Type}{P:Program}{ts:List TypeId}{ds:List (DataW H)}(h:(DataW.weightsEach P ts ds).all (· ≤reachBytes)=true){j:Nat}{t:TypeId}{d:DataW H}(ht:ts[j]? = some t)(hd:ds[j]? = some d):Near (d.weights P t):=fun n hn=>by
 have:=List.all_eq_true.1 h _ (DataW.weights_mem_each ht hd n hn)
 simpa using this
end Go.Hb
end
section
namespace Go.Hb
open Go Go.RowKit Go.ChangeShapes Go.WideShapes
section
variable {H:Type} {enc:TypeId × Value→H} {P:Program} {W:World}
theorem YY (hl:laidOutB P=true):∀ {ts:List TypeId} {vs:List Value} {ds:List (DataW H)} {ps:List MemPlace} {W':World} {sp:Nat→Bool},(∀ t∈ts,P.readableRec t=true∧t<P.types.size)→
  DataW.TrodAll enc P W 0 (fun _=>true) true ts vs ds ps→(∀ p∈ps,W.sameAt W' p)→(∀ p∈ps,sp p.block=true)→DataW.TrodAll enc P W' 0 sp true ts vs ds ps:=by
 intro ts
 induction ts with
 | nil=>intro vs ds ps W' sp _ h _ _;cases vs<;>cases ds<;>simp[DataW.TrodAll] at h ⊢;exact h
 | cons t ts ih=>
  intro vs ds ps W' sp hr h hs hsp
  obtain⟨v,vs',d,ds',p,q,rfl,rfl,rfl,h1,h2⟩:=trodAll_cons h
  obtain⟨r1,r2⟩:=hr t (by simp)
  exact trodAll_cons_mk (WideElems.Trod_stays hl r1 r2 h1 (fun x hx=>hs x (by simp[hx])) (fun x hx=>hsp x (by simp[hx]))) (ih (fun t ht=>hr t (by simp[ht])) h2 (fun x hx=>hs x (by simp[hx])) (fun x hx=>hsp x (by simp[hx])))
theorem ZH:∀ {ts:List TypeId} {vs:List Value} {ds:List (DataW H)} {ps:List MemPlace},DataW.TrodAll enc P W 0 (fun _=>true) true ts vs ds ps→vs.length=ts.length∧ds.length=ts.length:=by
 intro ts
 induction ts with
 | nil=>intro vs ds ps h;cases vs<;>cases ds<;>simp[DataW.TrodAll] at h ⊢
 | cons t ts ih=>
  intro vs ds ps h
  obtain⟨v,vs',d,ds',p,q,rfl,rfl,rfl,h1,h2⟩:=trodAll_cons h
  obtain⟨a,b⟩:=ih h2
  simp[a,b]
theorem zhT {f:FuncId}{fn:Func}{s:ChangeSpec}{tb:TypeId}(hb:P.underlying tb=some .bool)(hres:fn.resultTypes = #[tb])(hl:laidOutB P=true)(hr:∀ t∈fn.params.toList,P.readableRec t=true∧t<P.types.size)(hvars:s.vars=[])
  (hfn:∀ ds:List (DataW H),ds.length=fn.params.size→s.fn H ds = {results:=[.lit (.bool true)],args:=ds })
  {args:Array Value} {ds gs:List (DataW H)} {before:List MemPlace} (hW:DataW.Whole enc P fn.params.toList s.vars false W args.toList ds gs before)
  (walk:∀ p,DataW.TrodAll enc P W 0 (fun _=>true) true fn.params.toList args.toList ds p→Calls P f args W fun e w'=>e = .returned (.bool true)∧Below W.heap.size W w') :
  Calls P f args W fun e W'=>∃ v,e = .returned v∧s.post enc P fn false true false false W args v W':=by
 have hW':=hW
 obtain⟨p,q,hA,hV,rfl,hfz,hnd⟩:=hW
 rw[hvars] at hV
 obtain⟨rfl,rfl⟩:=trodVars_none hV
 have hlen:=(ZH hA).2
 have hspec:=hfn ds (by simpa using hlen)
 refine(walk p hA).mono fun e W' ⟨he,hg⟩=>?_
 subst he
 have hlt:=hW'.lt
 refine⟨_,rfl,zdh (pa:=p) (pv:=[]) hW' hg (fun b sp hd=>?_) (fun sp hsp=>?_) (fun sp _=>?_) rfl (ok_one hres rfl (okWide_bool_mk hb _))⟩
 ·rw[List.append_nil,hspec,hres]
  exact trodAll_cons_mk (shut_bool hb _) trodAll_mk0
 ·rw[List.append_nil,hspec]
  exact YY hl hr hA (fun x hx=>hg.same (hlt x (by simp[hx]))) (fun x hx=>hsp x (by simp[hx]))
 ·rw[List.append_nil,hspec,hvars];rfl
theorem zcZ {fs:Array Field}{r:Reach}{base:Nat}{t:TypeId}{v:Value}(ht:P.underlying t=some (.struct fs))(h:Value.okWide P W r base t v):∃ cs,v = .agg cs:=by
 obtain⟨cs,h1,_⟩:=okWide_struct ht h
 exact⟨cs,h1⟩
theorem zdN {e:TypeId}{r:Reach}{base:Nat}{t:TypeId}{v:Value}(ht:P.underlying t=some (.slice e))(h:Value.okWide P W r base t v):v.cells.toList=[v]:=by
 obtain⟨a,l,c,rfl⟩:=okWide_slice ht h;rfl
theorem Jr {k:IntKind}{r:Reach}{base:Nat}{t:TypeId}{v:Value}(ht:P.underlying t=some (.int k))(h:Value.okWide P W r base t v):v.cells.toList=[v]:=by
 simp only[Value.okWide,ht,Cell.okWide] at h
 cases v<;>simp_all [Cell.ok,Value.cells]
end
theorem zhV {P:Program}{f:FuncId}{args:List LV}{vs:Array Value}{W:World}(h:zp P f args [] [] fun y _ _=>y = .bool true)(hv:zi (Qg W) args vs.toList) :
  Calls P f vs W fun e w'=>e = .returned (.bool true)∧Below W.heap.size W w':=
 (top h hv).mono fun e w' ⟨hB,C,x,u,s,v,he,hu,hx⟩=>by
  subst hx;simp only[RelV] at hu;subst hu;exact⟨he,hB⟩
end Go.Hb
end
