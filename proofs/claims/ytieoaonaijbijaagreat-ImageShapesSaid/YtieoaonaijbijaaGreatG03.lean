/-
  A layer for reasoning about the program's calls, and contracts of its functions. CONDITIONS: none; each theorem bears its own.
-/
import Derived.Test.YtieoaonaijbijaaGreatG02
import Derived.RangeFuncRecord
import Derived.Below
import Derived.ProofKit
import Derived.OpenShut
import Derived.Deep.Grids
import Derived.Carry
set_option linter.unusedVariables false
set_option linter.unusedSimpArgs false
section
namespace Go.Hb
open Go Go.RowKit
inductive Plan where
 | nil
 | q (i:Nat) (p:Plan)
 | w (i:Nat) (keep:List Nat) (p:Plan)
 | or (p p':Plan)
def Plan.qs:List Nat→Plan→Plan
 | [],p=>p
 | i :: l,p=>.q i (Plan.qs l p)
def rdy (ops:Array Oper)(L:Array Bool):List Nat:=Region.ready .any ops L
def anc (ops:Array Oper):Nat→Nat→Nat→Bool
 | 0,_,_=>false
 | k+1,j,i=>match ops[i]? with
  | some o=>o.after.toList.any fun e=>Region.binds .any e && (e.on == j || anc ops k j e.on)
  | none=>false
def Plan.heads:Plan→List Nat
 | .w i _ _=>[i]
 | .or p p'=>p.heads++p'.heads
 | _=>[]
def zlm (ops:Array Oper)(i:Nat):Bool:=match ops[i]? with
 | some o=>match o.dst with
  | some d=>(List.range ops.size).all fun j=>match ops[j]? with
   | some oj=> !(KZ ops oj).contains d || oj.after.toList.any fun e=>Region.binds .any e && e.on == i
   | none=>true
  | none=>true
 | none=>false
def uA (ops:Array Oper)(i:Nat):Bool:=(match ops[i]? with | some o=>vN o.op | none=>false) && zlm ops i
def zeu (ops:Array Oper)(i:Nat):Bool:=match ops[i]? with | some o=>vp o.op | none=>false
def Kz (ops:Array Oper)(L:Array Bool)(hs:List Nat):Bool:= !(rdy ops L).isEmpty && (rdy ops L).all fun i=> !uA ops i && hs.contains i
def Plan.ok (ops:Array Oper):Plan→Bool→Array Bool→List Nat→Bool
 | .nil,top,L,_=>top && (rdy ops L).isEmpty
 | .q i p,top,L,W=>top && (rdy ops L).contains i && uA ops i && p.ok ops true (L.setIfInBounds i true) (if zeu ops i then i :: W else W)
 | .w i keep p,top,L,W=>(!top || Kz ops L [i]) && (rdy ops L).contains i && (W.all fun j=>keep.contains j || anc ops ops.size j i) && p.ok ops true (L.setIfInBounds i true) (W.filter keep.contains)
 | .or p p',top,L,W=>(!top || Kz ops L (p.heads++p'.heads)) && p.ok ops false L W && p'.ok ops false L W
def ud (ops:Array Oper):Bool:=((List.range ops.size).all fun i=>(List.range ops.size).all fun j=>match ops[i]?,ops[j]? with
 | some oi,some oj=>match oj.dst with
  | some d=>(i == j || oi.dst != some d) && (!(KZ ops oi).contains d || (i != j && oi.after.toList.any fun e=>Region.binds .any e && e.on == j) || (oj.after.toList.any fun e=>Region.binds .any e && e.on == i))
  | none=>true
 | _,_=>true) && ((List.range ops.size).all fun i=>match ops[i]? with | some oi=>oi.after.toList.all fun e=> !Region.binds .any e || decide (e.on<i) | none=>true)
def KI (P:Program)(ops:Array Oper)(st:St):List (Nat × LV)→Prop
 | []=>True
 | (j,x) :: W=>(match ops[j]? with | some o=>aq P ops o st=some x | none=>False)∧KI P ops st W
def yr (P:Program)(N:Nat)(ops:Array Oper)(own:Bool)(K:St→Prop):Plan→List (Nat × LV)→St→Prop
 | .nil,_,st=>K st
 | .q i p,W,st=>match ops[i]? with
  | some o=>dOk N o.dst∧match aq P ops o st with
   | some x=>yr P N ops own K p (if vp o.op then (i,x) :: W else W) ⟨updO o.dst x st.t,st.s,st.v⟩
   | none=>False
  | none=>False
 | .w i keep p,W,st=>match ops[i]? with
  | some o=>xq P N ops o st (fun st'=>KI P ops st' (W.filter fun y=>keep.contains y.1)∧yr P N ops own K p (W.filter fun y=>keep.contains y.1) st') own
  | none=>False
 | .or p p',W,st=>yr P N ops own K p W st∧yr P N ops own K p' W st
def on (L:Array Bool)(i:Nat):Prop:=L.getD i false=true
def XZ (ops:Array Oper)(L:Array Bool):Prop:=∀ i o,on L i→ops[i]? = some o→∀ e∈o.after,Region.binds .any e=true→on L e.on
theorem vK {ops:Array Oper}{L:Array Bool}(hL:L.size=ops.size){i:Nat} : i∈rdy ops L↔¬ on L i∧∃ o,ops[i]? = some o∧∀ e∈o.after,Region.binds .any e=true→on L e.on:=by
 unfold rdy
 rw[mem_ready]
 constructor
 ·rintro⟨h1,o,h2,h3⟩
  refine⟨?_,o,h2,h3⟩
  have hlt:i<L.size:=by rw[hL];exact(Array.getElem?_eq_some_iff.1 h2).1
  unfold on
  simp only[Array.getD_eq_getD_getElem?,Array.getElem?_eq_getElem hlt,Option.getD_some] at h1 ⊢
  simp[h1]
 ·rintro⟨h1,o,h2,h3⟩
  refine⟨?_,o,h2,h3⟩
  have hlt:i<L.size:=by rw[hL];exact(Array.getElem?_eq_some_iff.1 h2).1
  unfold on at h1
  simp only[Array.getD_eq_getD_getElem?,Array.getElem?_eq_getElem hlt,Option.getD_some] at h1 ⊢
  simpa using h1
theorem ve {L:Array Bool}{i j:Nat}(hi:i<L.size):on (L.setIfInBounds i true) j↔on L j∨j=i:=by
 unfold on
 by_cases h:j=i
 ·subst h;simp[hi]
 ·simp only[h,or_false]
  rw[Array.getD_eq_getD_getElem?,Array.getElem?_setIfInBounds_ne (by omega),← Array.getD_eq_getD_getElem?]
theorem uM {ops:Array Oper}{L:Array Bool}(hL:L.size=ops.size){i:Nat}(h:XZ ops L)(hi:i∈rdy ops L):XZ ops (L.setIfInBounds i true):=by
 obtain⟨_,o,h2,h3⟩:=(vK hL).1 hi
 have hlt:i<L.size:=by rw[hL];exact(Array.getElem?_eq_some_iff.1 h2).1
 intro j oj hj hoj e he hb
 rw[ve hlt] at hj ⊢
 rcases hj with hj | rfl
 ·exact .inl (h j oj hj hoj e he hb)
 ·rw[h2] at hoj;cases hoj;exact .inl (h3 e he hb)
theorem zic {ops:Array Oper}{L:Array Bool}(hc:XZ ops L):∀ (k j i:Nat),anc ops k j i=true→(∀ o,ops[i]? = some o→∀ e∈o.after,Region.binds .any e=true→on L e.on)→on L j:=by
 intro k
 induction k with
 | zero=>intro j i h;simp[anc] at h
 | succ k ih=>
  intro j i h h1
  simp only[anc] at h
  split at h
  ·rename_i o ho
   simp only[List.any_eq_true,Bool.and_eq_true,Bool.or_eq_true,beq_iff_eq] at h
   obtain⟨e,he,hb,h2⟩:=h
   have he':e∈o.after:=Array.mem_toList_iff.1 he
   have hon:=h1 o ho e he' hb
   rcases h2 with h2 | h2
   ·rw[← h2];exact hon
   ·exact ih j e.on h2 fun o' ho' e' he' hb'=>hc e.on o' hon ho' e' he' hb'
  ·cases h
structure Body (P:Program)(N:Nat)(ops:Array Oper)(own:Bool)(K:St→Prop)(B:Nat)(C0:Ctx)(p:Plan)(Labs:Array Bool)(W:List (Nat × LV))(st:St)(C:Ctx)(L:Array Bool)(a:Act):Prop where
 ok:p.ok ops true Labs (W.map (·.1))=true
 plan:yr P N ops own K p W st
 le:C0.le C
 Ok:Hb.Ok C st.s
 τ : C.τ = st.v
 size:a.tmps.size=N
 marks:RelD C B a.defers
 labs:Labs.size=ops.size
 l:L.size=ops.size
 sub:∀ i,on L i→on Labs i
 cl:XZ ops L
 cabs:XZ ops Labs
 lag:∀ j o,on Labs j→¬ on L j→ops[j]? = some o→uA ops j=true∧dOk N o.dst∧∃ x,aq P ops o st=some x∧(∀ d,o.dst=some d→st.t d=x)∧(vp o.op=true→(j,x)∈W)
 rel:∀ d,RelV C (st.t d) (a.tmps.getD d undef)∨∃ j o,on Labs j∧¬ on L j∧ops[j]? = some o∧o.dst=some d
theorem zde {ops:Array Oper}(h:ud ops=true){i j:Nat}{oi oj:Oper}(hi:ops[i]? = some oi)(hj:ops[j]? = some oj){d:Tmp}(hd:oj.dst=some d)(hr:d∈KZ ops oi):(∃ e∈oi.after,Region.binds .any e=true∧e.on=j)∨∃ e∈oj.after,Region.binds .any e=true∧e.on=i:=by
 unfold ud at h
 simp only[Bool.and_eq_true,List.all_eq_true,List.mem_range] at h
 have h1:=h.1 i (Array.getElem?_eq_some_iff.1 hi).1 j (Array.getElem?_eq_some_iff.1 hj).1
 simp only[hi,hj,hd,Bool.and_eq_true,Bool.or_eq_true,Bool.not_eq_true',List.contains_eq_mem,decide_eq_false_iff_not,List.any_eq_true,beq_iff_eq] at h1
 rcases h1.2 with (h2 | h2) | h2
 ·exact absurd hr h2
 ·obtain⟨_,e,he,hb,hon⟩:=h2
  exact .inl ⟨e,Array.mem_toList_iff.1 he,hb,hon⟩
 ·obtain⟨e,he,hb,hon⟩:=h2
  exact .inr ⟨e,Array.mem_toList_iff.1 he,hb,hon⟩
theorem zbL {ops:Array Oper}{j:Nat}{oj:Oper}(h:uA ops j=true)(hj:ops[j]? = some oj):vN oj.op=true:=by
 unfold uA at h
 simp only[hj,Bool.and_eq_true] at h
 exact h.1
theorem QC {ops:Array Oper}{i j:Nat}{oi oj:Oper}(h:uA ops j=true)(hi:ops[i]? = some oi)(hj:ops[j]? = some oj){d:Tmp}(hd:oj.dst=some d)(hr:d∈KZ ops oi):∃ e∈oi.after,Region.binds .any e=true∧e.on=j:=by
 unfold uA zlm at h
 simp only[hj,hd,Bool.and_eq_true,List.all_eq_true,List.mem_range] at h
 have h1:=h.2 i (Array.getElem?_eq_some_iff.1 hi).1
 simp only[hi,Bool.or_eq_true,Bool.not_eq_true',List.contains_eq_mem,decide_eq_false_iff_not,List.any_eq_true,Bool.and_eq_true,beq_iff_eq] at h1
 rcases h1 with h2 | ⟨e,he,hb,hon⟩
 ·exact absurd hr h2
 ·exact⟨e,Array.mem_toList_iff.1 he,hb,hon⟩
theorem YR {ops:Array Oper}(h:ud ops=true){i j:Nat}{oi oj:Oper}(hi:ops[i]? = some oi)(hj:ops[j]? = some oj){d:Tmp}(hd:oj.dst=some d)(hd':oi.dst=some d):i=j:=by
 unfold ud at h
 simp only[Bool.and_eq_true,List.all_eq_true,List.mem_range] at h
 have h1:=h.1 i (Array.getElem?_eq_some_iff.1 hi).1 j (Array.getElem?_eq_some_iff.1 hj).1
 simp only[hi,hj,hd,Bool.and_eq_true,Bool.or_eq_true,beq_iff_eq] at h1
 rcases h1.1 with h2 | h2
 ·exact h2
 ·simp[hd'] at h2
theorem JL {ops:Array Oper}(h:ud ops=true){i:Nat}{oi:Oper}(hi:ops[i]? = some oi){e:Edge}(he:e∈oi.after)(hb:Region.binds .any e=true):e.on<i:=by
 unfold ud at h
 simp only[Bool.and_eq_true,List.all_eq_true,List.mem_range] at h
 have h1:=h.2 i (Array.getElem?_eq_some_iff.1 hi).1
 simp only[hi,List.all_eq_true,Bool.or_eq_true,Bool.not_eq_true',decide_eq_true_eq] at h1
 rcases h1 e (Array.mem_toList_iff.2 he) with h2 | h2
 ·rw[hb] at h2;cases h2
 ·exact h2
theorem vW {d:Option Tmp}{x:LV}{t:Nat→LV}{i:Nat}(h:d≠some i):updO d x t i=t i:=by
 cases d with
 | none=>rfl
 | some d=>simp only[updO,upd];rw[if_neg (fun e=>h (by rw[e]))]
theorem Xq {i:Tmp}{x:LV}{t:Nat→LV} : updO (some i) x t i=x:=by simp[updO,upd]
theorem Body.sat {P:Program}{N:Nat}{ops:Array Oper}{own:Bool}{K:St→Prop}{B:Nat}{C0 C:Ctx}{L:Array Bool}{a:Act}(hf:ud ops=true):∀ (p:Plan) (Labs:Array Bool) (W:List (Nat × LV)) (st:St),Body P N ops own K B C0 p Labs W st C L a→
  ∃ p' Labs' W' st',Body P N ops own K B C0 p' Labs' W' st' C L a∧(∀ i q,p'≠.q i q):=by
 intro p
 induction p with
 | nil=>intro Labs W st h;exact⟨_,_,_,_,h,by intro i q e;cases e⟩
 | w i k p _=>intro Labs W st h;exact⟨_,_,_,_,h,by intro i q e;cases e⟩
 | or p p' _ _=>intro Labs W st h;exact⟨_,_,_,_,h,by intro i q e;cases e⟩
 | q i p ih=>
  intro Labs W st h
  have hok:=h.ok
  simp only[Plan.ok,Bool.and_eq_true,Bool.true_and,List.contains_eq_mem,decide_eq_true_eq] at hok
  obtain⟨⟨hr,hq⟩,hp⟩:=hok
  obtain⟨hn,o,ho,hedges⟩:=(vK h.labs).1 hr
  have hlt:i<Labs.size:=by rw[h.labs];exact(Array.getElem?_eq_some_iff.1 ho).1
  have hpl:=h.plan
  simp only[yr,ho] at hpl
  obtain⟨hd,hpl⟩:=hpl
  cases hx:aq P ops o st with
  | none=>simp[hx] at hpl
  | some x=>
   simp only[hx] at hpl
   have hql:uA ops i=true:=hq
   have hnr:∀ j oj,on Labs j→ops[j]? = some oj→∀ d,o.dst=some d→d ∉ KZ ops oj:=by
    intro j oj hj hoj d hd' hr'
    obtain⟨e,he,hb,hon⟩:=QC hql hoj ho hd' hr'
    exact hn (hon ▸ h.cabs j oj hj hoj e he hb)
   have hself:∀ d,o.dst=some d→d ∉ KZ ops o:=by
    intro d hd' hr'
    obtain⟨e,he,hb,hon⟩:=QC hql ho ho hd' hr'
    have:=JL hf ho he hb
    omega
   refine ih (Labs.setIfInBounds i true) (if vp o.op then (i,x) :: W else W) ⟨updO o.dst x st.t,st.s,st.v⟩ ⟨?_,hpl,h.le,h.Ok,h.τ,h.size,h.marks,by simpa using h.labs,h.l,?_,h.cl,uM h.labs h.cabs hr,?_,?_⟩
   ·have:zeu ops i=vp o.op:=by simp[zeu,ho]
    rw[this] at hp
    cases hl:vp o.op<;>simpa[hl] using hp
   ·intro j hj;rw[ve hlt];exact .inl (h.sub j hj)
   ·intro j oj hj hj' hoj
    rw[ve hlt] at hj
    by_cases hij:j=i
    ·subst hij
     rw[ho] at hoj;cases hoj
     refine⟨hql,hd,x,?_,?_,?_⟩
     ·rw[← hx]
      exact(Jf fun d hd'=>(vW (fun e=>hself d e hd')).symm).symm
     ·intro d hd';simp only[hd'];exact Xq
     ·intro hl;simp[hl]
    ·have hj2:=hj.resolve_right hij
     obtain⟨k1,k2,y,k3,k4,k5⟩:=h.lag j oj hj2 hj' hoj
     refine⟨k1,k2,y,?_,?_,?_⟩
     ·rw[← k3]
      exact(Jf fun d hd'=>(vW (fun e=>hnr j oj hj2 hoj d e hd')).symm).symm
     ·intro d hd'
      simp only
      rw[vW (fun e=>hij (YR hf ho hoj hd' e).symm)]
      exact k4 d hd'
     ·intro hl
      have:=k5 hl
      split
      ·exact List.mem_cons_of_mem _ this
      ·exact this
   ·intro d
    by_cases hd':o.dst=some d
    ·exact .inr ⟨i,o,(ve hlt).2 (.inr rfl),fun hL=>hn (h.sub i hL),ho,hd'⟩
    ·rcases h.rel d with h1 | ⟨j,oj,j1,j2,j3,j4⟩
     ·left;simp only;rw[vW hd'];exact h1
     ·exact .inr ⟨j,oj,(ve hlt).2 (.inl j1),j2,j3,j4⟩
end Go.Hb
end
section
namespace Go.Hb
open Go Go.RowKit
theorem zeo {P:Program}{ops:Array Oper}{st:St} : ∀ {W:List (Nat × LV)},KI P ops st W→∀ {j:Nat} {x:LV} {o:Oper},(j,x)∈W→ops[j]? = some o→aq P ops o st=some x:=by
 intro W
 induction W with
 | nil=>intro _ j x o h;cases h
 | cons y W ih=>
  intro h j x o hm ho
  obtain⟨k,z⟩:=y
  obtain⟨h1,h2⟩:=h
  rcases List.mem_cons.1 hm with h3 | h3
  ·cases h3
   simpa[ho] using h1
  ·exact ih h2 h3 ho
theorem zaU {P:Program}{N:Nat}{ops:Array Oper}{own:Bool}{K:St→Prop}{Labs:Array Bool}{W:List (Nat × LV)}{st:St}{i:Nat} : ∀ (p:Plan) (top:Bool),(∀ j q,p≠.q j q)→p.ok ops top Labs (W.map (·.1))=true→yr P N ops own K p W st→i∈p.heads→
  ∃ (keep:List Nat) (p':Plan) (o:Oper),ops[i]? = some o∧(∀ j∈W.map (·.1),keep.contains j=true∨anc ops ops.size j i=true)∧p'.ok ops true (Labs.setIfInBounds i true) ((W.filter fun y=>keep.contains y.1).map (·.1))=true∧
   xq P N ops o st (fun st'=>KI P ops st' (W.filter fun y=>keep.contains y.1)∧yr P N ops own K p' (W.filter fun y=>keep.contains y.1) st') own:=by
 intro p
 induction p with
 | nil=>intro top _ _ _ h;simp[Plan.heads] at h
 | q j p _=>intro top h;exact absurd rfl (h j p)
 | w j keep p _=>
  intro top _ hok hpl hi
  simp only[Plan.heads,List.mem_singleton] at hi
  subst hi
  simp only[Plan.ok,Bool.and_eq_true,List.all_eq_true,Bool.or_eq_true] at hok
  obtain⟨⟨⟨_,h2⟩,h3⟩,h4⟩:=hok
  simp only[yr] at hpl
  cases ho:ops[i]? with
  | none=>simp[ho] at hpl
  | some o=>
   simp only[ho] at hpl
   refine⟨keep,p,o,rfl,h3,?_,hpl⟩
   have e:∀ W:List (Nat × LV),(W.filter fun y=>keep.contains y.1).map (·.1)=(W.map (·.1)).filter keep.contains:=by
    intro W
    induction W with
    | nil=>rfl
    | cons y W ih=>
     simp only[List.filter_cons,List.map_cons]
     split<;>simp_all
   rw[e];exact h4
 | or p p' ih ih'=>
  intro top _ hok hpl hi
  simp only[Plan.ok,Bool.and_eq_true] at hok
  obtain⟨⟨_,h2⟩,h3⟩:=hok
  have hnq:∀ (p:Plan),p.ok ops false Labs (W.map (·.1))=true→∀ j q,p≠.q j q:=by
   intro p hp j q e;subst e;simp[Plan.ok] at hp
  simp only[Plan.heads,List.mem_append] at hi
  rcases hi with hi | hi
  ·exact ih false (hnq p h2) h2 hpl.1 hi
  ·exact ih' false (hnq p' h3) h3 hpl.2 hi
open Classical in
theorem Body.step {P:Program}{r:Option Nat}{N:Nat}{ops:Array Oper}{own:Bool}{K:St→Prop}{B:Nat}{C0 C:Ctx}{L:Array Bool}{a:Act}(Q':Exit→Act→World→Prop)(hf:ud ops=true)(h4:rOk C0.n r){p:Plan}{Labs:Array Bool}{W:List (Nat × LV)}{st:St}(h:Body P N ops own K B C0 p Labs W st C L a)
  {i:Nat} (hi:i∈rdy ops L):wpOpIn (Fr C0 r) 0 P ops Q' i (fun a' w'=>∃ p' Labs' W' st' C',C'.w=w'∧Body P N ops own K B C0 p' Labs' W' st' C' (L.setIfInBounds i true) a') a C.w:=by
 obtain⟨p,Labs,W,st,h,hnq⟩:=Body.sat hf p Labs W st h
 obtain⟨hnL,o,ho,hedges⟩:=(vK h.l).1 hi
 have hltL:i<L.size:=by rw[h.l];exact(Array.getElem?_eq_some_iff.1 ho).1
 let lagging:Nat→Prop:=fun d=>∃ j oj,on Labs j∧¬ on L j∧ops[j]? = some oj∧oj.dst=some d
 let t':Nat→LV:=fun d=>if lagging d then .any else st.t d
 have hrel:RelS C N B t' a:=by
  refine⟨h.size,fun d=>?_,h.marks⟩
  show RelV C (if lagging d then .any else st.t d) _
  by_cases hl:lagging d
  ·rw[if_pos hl];simp[RelV]
  ·rw[if_neg hl];exact(h.rel d).resolve_right hl
 have hreads:∀ d∈KZ ops o,st.t d=t' d:=by
  intro d hd
  have hl:¬ lagging d:=by
   rintro⟨j,oj,j1,j2,j3,j4⟩
   obtain⟨e,he,hb,hon⟩:=QC (h.lag j oj j1 j2 j3).1 ho j3 j4 hd
   exact j2 (hon ▸ hedges e he hb)
  show st.t d=if lagging d then .any else st.t d
  rw[if_neg hl]
 have hselfL:∀ d,o.dst=some d→∀ j oj,on Labs j→ops[j]? = some oj→oj.dst=some d→j=i:=fun d hd j oj _ hoj hd'=>(YR hf ho hoj hd' hd).symm
 by_cases hLi:on Labs i
 ·-- it was reckoned ahead
  obtain⟨k1,k2,x,k3,k4,k5⟩:=h.lag i o hLi hnL ho
  replace k1:=zbL k1 ho
  have hop:xq P N ops o ⟨t',st.s,st.v⟩ (fun st''=>st''=⟨updO o.dst x t',st.s,st.v⟩):=by
   refine⟨k2,?_⟩
   have k3':aq P ops o ⟨t',st.s,st.v⟩=some x:=by rw[← k3];exact(Jf hreads).symm
   unfold aq at k3'
   cases hg:wG ops t' o with
   | none=>simp[hg] at k3'
   | some b=>
    cases b with
    | false=>simp only[hg,Option.some.injEq] at k3' ⊢;rw[k3']
    | true=>
     simp only[hg,Option.map_eq_some_iff] at k3' ⊢
     obtain⟨⟨y,s',v'⟩,k6,k7⟩:=k3'
     simp only at k7;subst k7
     obtain⟨rfl,rfl⟩:=zgd k1 k6
     have hc:callee o.op t' = .no:=by
      unfold callee
      cases hop:o.op<;>simp only[hop,vN] at k1 ⊢ <;>(try (cases k1;done))
      rename_i c
      cases hcc:c.callee<;>simp only[hcc] at k1 ⊢ <;>(try (cases k1;done))
     simp only[hc,ZP,k6]
  have hs:=vX (r:=r) Q' ho hop B C a h.Ok h.τ hrel (rOk.mono h.le h4)
  rw[Fr.eq h.le h4] at hs
  refine wpOpIn_mono ?_ hs
  rintro a' w' ⟨C',st'',rfl,m1,m2,m3,m4,rfl⟩
  obtain⟨m5,m6,m7⟩:=m4
  refine⟨p,Labs,W,st,C',rfl,⟨h.ok,h.plan,h.le.trans m1,m2,m3,m5,m7,h.labs,by simpa using h.l,?_,uM h.l h.cl hi,h.cabs,?_,?_⟩⟩
  ·intro j hj;rw[ve hltL] at hj;rcases hj with hj | rfl
   ·exact h.sub j hj
   ·exact hLi
  ·intro j oj hj hj' hoj
   rw[ve hltL] at hj'
   exact h.lag j oj hj (fun hh=>hj' (.inl hh)) hoj
  ·intro d
   have m6d:=m6 d
   simp only at m6d
   by_cases hd:o.dst=some d
   ·left
    rw[hd,Xq] at m6d
    rw[k4 d hd];exact m6d
   ·rw[vW hd] at m6d
    by_cases hl:lagging d
    ·obtain⟨j,oj,j1,j2,j3,j4⟩:=hl
     right
     refine⟨j,oj,j1,fun hh=>?_,j3,j4⟩
     rw[ve hltL] at hh
     rcases hh with hh | rfl
     ·exact j2 hh
     ·rw[ho] at j3;cases j3;exact hd j4
    ·left
     have e:t' d=st.t d:=if_neg hl
     rw[e] at m6d;exact m6d
 ·-- it writes, or calls
  have hiabs:i∈rdy ops Labs:=(vK h.labs).2 ⟨hLi,o,ho,fun e he hb=>h.sub _ (hedges e he hb)⟩
  have hlt:i<Labs.size:=by rw[h.labs];exact(Array.getElem?_eq_some_iff.1 ho).1
  have hhead:i∈p.heads:=by
   have hok:=h.ok
   cases p with
   | nil=>simp only[Plan.ok,Bool.true_and,List.isEmpty_iff] at hok;rw[hok] at hiabs;cases hiabs
   | q j q=>exact absurd rfl (hnq j q)
   | w j keep q=>
    simp only[Plan.ok,Bool.and_eq_true,Bool.not_true,Bool.false_or,Kz,List.all_eq_true] at hok
    have:=hok.1.1.1.2 i hiabs
    simp only[List.contains_eq_mem,decide_eq_true_eq] at this
    exact this.2
   | or q q'=>
    simp only[Plan.ok,Bool.and_eq_true,Bool.not_true,Bool.false_or,Kz,List.all_eq_true] at hok
    have:=hok.1.1.2 i hiabs
    simp only[List.contains_eq_mem,decide_eq_true_eq] at this
    exact this.2
  obtain⟨keep,p',o',ho',hkeep,hok',hop⟩:=zaU p true hnq h.ok h.plan hhead
  rw[ho] at ho';cases ho'
  let W':=W.filter fun y=>keep.contains y.1
  have hop':xq P N ops o ⟨t',st.s,st.v⟩ (fun st''=>∃ x,st''.t=updO o.dst x t'∧KI P ops ⟨updO o.dst x st.t,st''.s,st''.v⟩ W'∧yr P N ops own K p' W' ⟨updO o.dst x st.t,st''.s,st''.v⟩) own:=by
   obtain⟨hd,hop⟩:=hop
   refine⟨hd,?_⟩
   rw[JR hreads,XM hreads] at hop
   cases hg:wG ops t' o with
   | none=>simp[hg] at hop
   | some b=>
    cases b with
    | false=>simp only[hg] at hop ⊢;exact⟨_,rfl,hop⟩
    | true=>
     simp only[hg] at hop ⊢
     cases hc:callee o.op t' with
     | bad=>simp[hc] at hop
     | func f args=>simp only[hc] at hop ⊢;exact zj hop fun x s v hh=>⟨x,rfl,hh⟩
     | yld l args=>
      simp only[hc] at hop ⊢
      intro C vs q1 q2 q3
      obtain⟨q4,fn,tmps,assign,body,q5,q6⟩:=hop C vs q1 q2 q3
      exact⟨q4,fn,tmps,assign,body,q5,fun F hF=>(q6 F hF).mono fun e w' ⟨C',x,u,s',v',y1,y2,y3,y4,y5,y6,y7⟩=>⟨C',x,u,s',v',y1,y2,y3,y4,y5,y6,x,rfl,y7⟩⟩
     | no=>
      simp only[hc] at hop ⊢
      have e:aopO P own o.op st=aopO P own o.op ⟨t',st.s,st.v⟩:=zdb (vk hreads)
      rw[e] at hop
      cases ha:aopO P own o.op ⟨t',st.s,st.v⟩ with
      | none=>simp[ha] at hop
      | some y=>obtain⟨x,s,v⟩:=y;simp only[ha] at hop ⊢;exact⟨x,rfl,hop⟩
  have hs:=vX (r:=r) Q' ho hop' B C a h.Ok h.τ hrel (rOk.mono h.le h4)
  rw[Fr.eq h.le h4] at hs
  refine wpOpIn_mono ?_ hs
  rintro a' w' ⟨C',st'',rfl,m1,m2,m3,m4,x,m8,m9,m10⟩
  obtain⟨m5,m6,m7⟩:=m4
  have hnr:∀ j oj,on Labs j→¬ on L j→ops[j]? = some oj→∀ d,o.dst=some d→d ∉ KZ ops oj:=by
   intro j oj hj hj' hoj d hd' hr'
   rcases zde hf hoj ho hd' hr' with ⟨e,he,hb,hon⟩ | ⟨e,he,hb,hon⟩
   ·exact hLi (hon ▸ h.cabs j oj hj hoj e he hb)
   ·exact hj' (hon ▸ hedges e he hb)
  refine⟨p',Labs.setIfInBounds i true,W',⟨updO o.dst x st.t,st''.s,st''.v⟩,C',rfl,⟨hok',m10,h.le.trans m1,m2,m3,m5,m7,by simpa using h.labs,by simpa using h.l,?_,uM h.l h.cl hi,uM h.labs h.cabs hiabs,?_,?_⟩⟩
  ·intro j hj;rw[ve hltL] at hj;rw[ve hlt];rcases hj with hj | hj
   ·exact .inl (h.sub j hj)
   ·exact .inr hj
  ·intro j oj hj hj' hoj
   rw[ve hltL] at hj'
   rw[ve hlt] at hj
   have hji:j≠i:=fun e=>hj' (.inr e)
   have hj2:=hj.resolve_right hji
   have hj3:¬ on L j:=fun e=>hj' (.inl e)
   obtain⟨k1,k2,y,k3,k4,k5⟩:=h.lag j oj hj2 hj3 hoj
   refine⟨k1,k2,y,?_,?_,?_⟩
   ·cases hl:vp oj.op with
    | true=>
     have hmem:=k5 hl
     have hk:=hkeep j (List.mem_map.2 ⟨(j,y),hmem,rfl⟩)
     have hna:¬ anc ops ops.size j i=true:=fun hh=>hj3 (zic h.cl _ _ _ hh fun o' ho' e he hb=>by rw[ho] at ho';cases ho';exact hedges e he hb)
     have hk2:=hk.resolve_right hna
     exact zeo m9 (List.mem_filter.2 ⟨hmem,hk2⟩) hoj
    | false=>
     rw[← k3]
     rw[zjK (s':=st.s) (v':=st.v) (zbL k1 hoj) hl]
     exact(Jf fun d hd'=>(vW (fun e=>hnr j oj hj2 hj3 hoj d e hd')).symm).symm
   ·intro d hd'
    simp only
    rw[vW (fun e=>hji (YR hf ho hoj hd' e).symm)]
    exact k4 d hd'
   ·intro hl
    have hmem:=k5 hl
    have hk:=hkeep j (List.mem_map.2 ⟨(j,y),hmem,rfl⟩)
    have hna:¬ anc ops ops.size j i=true:=fun hh=>hj3 (zic h.cl _ _ _ hh fun o' ho' e he hb=>by rw[ho] at ho';cases ho';exact hedges e he hb)
    exact List.mem_filter.2 ⟨hmem,hk.resolve_right hna⟩
  ·intro d
   have m6d:=m6 d
   rw[m8] at m6d
   by_cases hd:o.dst=some d
   ·left
    rw[hd,Xq] at m6d
    simp only[hd,Xq];exact m6d
   ·rw[vW hd] at m6d
    by_cases hl:lagging d
    ·obtain⟨j,oj,j1,j2,j3,j4⟩:=hl
     right
     refine⟨j,oj,(ve hlt).2 (.inl j1),fun hh=>?_,j3,j4⟩
     rw[ve hltL] at hh
     rcases hh with hh | rfl
     ·exact j2 hh
     ·exact hLi j1
    ·left
     have e:t' d=st.t d:=if_neg hl
     rw[e] at m6d
     simp only;rw[vW hd];exact m6d
def left (L:Array Bool):Nat:=(L.toList.filter (! ·)).length
theorem zcf {L:Array Bool}{i:Nat}(hi:i<L.size)(hn:¬ on L i):left (L.setIfInBounds i true)<left L:=by
 have h0:L.toList[i]? = some false:=by
  unfold on at hn
  simp only[Array.getD_eq_getD_getElem?,Array.getElem?_eq_getElem hi,Option.getD_some] at hn
  simp[hi];simpa using hn
 unfold left
 rw[Array.toList_setIfInBounds]
 generalize L.toList=l at h0
 clear hi hn
 induction l generalizing i with
 | nil=>simp at h0
 | cons b l ih=>
  cases i with
  | zero=>simp at h0;subst h0;simp
  | succ i=>
   simp at h0
   have:=ih h0
   simp only[List.set_cons_succ,List.filter_cons]
   split<;>simp<;>omega
theorem zbB {P:Program}{F:Fence}{n:Nat}{ops:Array Oper}{Q:Exit→Act→World→Prop}(I:Array Bool→Act→World→Prop)(hsz:∀ L a w,I L a w→L.size=ops.size)
  (step:∀ L a w i,I L a w→i∈rdy ops L→wpOpIn F n P ops Q i (I (L.setIfInBounds i true)) a w) (done:∀ L a w,I L a w→rdy ops L=[]→Q .normal a w) :
  ∀ (fuel:Nat) (L:Array Bool) (a:Act) (w:World),left L≤fuel→I L a w→wpAnyIn F n P .any ops Q fuel L a w:=by
 intro fuel
 induction fuel with
 | zero=>
  intro L a w hl h
  have:rdy ops L=[]:=by
   cases hr:rdy ops L with
   | nil=>rfl
   | cons i rs=>
    have hi:i∈rdy ops L:=by rw[hr];simp
    obtain⟨hn,o,ho,_⟩:=(vK (hsz _ _ _ h)).1 hi
    have:=zcf (L:=L) (i:=i) (by rw[hsz _ _ _ h];exact(Array.getElem?_eq_some_iff.1 ho).1) hn
    omega
  exact⟨this,done _ _ _ h this⟩
 | succ fuel ih=>
  intro L a w hl h
  refine⟨done _ _ _ h,fun i hi=>?_⟩
  obtain⟨hn,o,ho,_⟩:=(vK (hsz _ _ _ h)).1 hi
  have:=zcf (L:=L) (i:=i) (by rw[hsz _ _ _ h];exact(Array.getElem?_eq_some_iff.1 ho).1) hn
  exact wpOpIn_mono (fun a w h'=>ih _ a w (by omega) h') (step _ _ _ i h hi)
theorem Body.done {P:Program}{N:Nat}{ops:Array Oper}{own:Bool}{K:St→Prop}{B:Nat}{C0 C:Ctx}{L:Array Bool}{a:Act}(hf:ud ops=true){p:Plan}{Labs:Array Bool}{W:List (Nat × LV)}{st:St}(h:Body P N ops own K B C0 p Labs W st C L a)
  (hr:rdy ops L=[]):∃ st',Hb.Ok C st'.s∧C.τ = st'.v∧RelS C N B st'.t a∧K st':=by
 obtain⟨p,Labs,W,st,h,hnq⟩:=Body.sat hf p Labs W st h
 have hall:∀ j,∀ o,ops[j]? = some o→on Labs j→on L j:=by
  intro j
  induction j using Nat.strongRecOn with
  | _ j ih=>
   intro o ho hj
   by_cases hL:on L j
   ·exact hL
   ·have:j∈rdy ops L:=(vK h.l).2 ⟨hL,o,ho,fun e he hb=>by
     have hlt:=JL hf ho he hb
     have hon:=h.cabs j o hj ho e he hb
     have hs:e.on<ops.size:=by have:=(Array.getElem?_eq_some_iff.1 ho).1;omega
     exact ih e.on hlt ops[e.on] (by simp[hs]) hon⟩
    rw[hr] at this;cases this
 have hr2:rdy ops Labs=[]:=by
  cases hrr:rdy ops Labs with
  | nil=>rfl
  | cons i rs=>
   have hi:i∈rdy ops Labs:=by rw[hrr];simp
   obtain⟨hn,o,ho,he⟩:=(vK h.labs).1 hi
   have:i∈rdy ops L:=(vK h.l).2 ⟨fun hL=>hn (h.sub i hL),o,ho,fun e he' hb=>by
    have hon:=he e he' hb
    have hlt:=JL hf ho he' hb
    have hs:e.on<ops.size:=by have:=(Array.getElem?_eq_some_iff.1 ho).1;omega
    exact hall e.on ops[e.on] (by simp[hs]) hon⟩
   rw[hr] at this;cases this
 have hok:=h.ok
 have hpl:=h.plan
 refine⟨st,h.Ok,h.τ,⟨h.size,fun d=>?_,h.marks⟩,?_⟩
 ·rcases h.rel d with h1 | ⟨j,o,j1,j2,j3,j4⟩
  ·exact h1
  ·exact absurd (hall j o j3 j1) j2
 ·cases p with
  | nil=>exact hpl
  | q j q=>exact absurd rfl (hnq j q)
  | w j k q=>simp[Plan.ok,Kz,hr2] at hok
  | or q q'=>simp[Plan.ok,Kz,hr2] at hok
theorem zeb {P:Program}{r:Option Nat}{N id:Nat}{ops:Array Oper}{own:Bool}{Q:Exit→St→Prop}{st:St}(p:Plan)(hm:P.follows .mixedOrders=true)(hf:ud ops=true)(hp:p.ok ops true (Array.replicate ops.size false) []=true)
  (h:yr P N ops own (Q .normal) p [] st):aW P r N (.region id ops true) Q st:=by
 intro B C a h1 h2 h3 h4
 refine wpIn_region_any hm ?_
 obtain⟨h5,h6,h7⟩:=h3
 have hoff:∀ i,¬ on (Array.replicate ops.size false) i:=by
  intro i hi
  unfold on at hi
  rw[Array.getD_eq_getD_getElem?] at hi
  by_cases hs:i<ops.size<;>simp[hs] at hi
 have hdr:C.drew.w = {C.w with drawn:=C.w.drawn+1 }:=rfl
 rw[← hdr]
 refine zbB (fun L a w=>∃ p Labs W st' C',C'.w=w∧Body P N ops own (Q .normal) B C p Labs W st' C' L a) ?_ ?_ ?_ _ _ _ _ ?_ ?_
 ·rintro L a w ⟨p,Labs,W,st',C',_,hb⟩;exact hb.l
 ·rintro L a w i ⟨p,Labs,W,st',C',rfl,hb⟩ hi
  exact hb.step _ hf h4 hi
 ·rintro L a w ⟨p,Labs,W,st',C',rfl,hb⟩ hr
  obtain⟨st2,k1,k2,k3,k4⟩:=hb.done hf hr
  exact⟨C',st2,rfl,hb.le,k1,k2,k3,k4⟩
 ·unfold left
  refine Nat.le_trans (List.length_filter_le _ _) (by simp)
 ·refine⟨p,_,[],st,C.drew,rfl,⟨hp,h,C.le_drew,h1.drew,h2,h5,RelD.mono C.le_drew h7,by simp,by simp,fun i hi=>hi,fun i o hi=>absurd hi (hoff i),fun i o hi=>absurd hi (hoff i),fun j o hj=>absurd hj (hoff j),fun d=>.inl (RelV.mono C.le_drew _ _ (h6 d))⟩⟩
end Go.Hb
end
section
namespace Go.Hb
open Go Go.RowKit
def Ctx.hold (C:Ctx)(o:Obj):Ctx:={C with w:=C.w.alloc o,kept:=fun b=>C.kept b∨b=C.w.heap.size }
theorem Ok.le_hold {C:Ctx}{s:List AObj}(h:Ok C s)(o:Obj):C.le (C.hold o) where
 os:=rfl
 tape:=rfl
 output:=rfl
 size:=by simp[Ctx.hold]
 kept b hb:=.inl hb
 keep b hb:=xb _ _ _ (h.kept b hb)
 lim b:=Nat.le_refl _
 cell b o' ho:=World.cell?_alloc_lt _ _ _ (h.cell_lt ho)
 ρ i hi:=rfl
 n:=Nat.le_refl _
 τ g e he:=⟨e,he,Nat.le_refl _,fun _=>rfl⟩
 room b:=Jl _ _ b
theorem Ok.hold {C:Ctx}{s:List AObj}(h:Ok C s)(o:Obj):Ok (C.hold o) s where
 n:=h.n
 obj i a ha:=by
  have hin:i<C.n:=by rw[h.n];exact(List.getElem?_eq_some_iff.1 ha).1
  exact RelO.mono (h.le_hold o) (xb _ _ _ (h.own i hin).2.2) (h.obj i a ha)
 inj:=h.inj
 own i hi:=by
  obtain⟨a,b,c⟩:=h.own i hi
  refine⟨fun hk=>?_,b,by simp[Ctx.hold];omega⟩
  rcases hk with hk | hk
  ·exact a hk
  ·have hk':C.ρ i=C.w.heap.size:=hk
   omega
 tip g hg:=by
  obtain⟨a,b,vs,T,c,d⟩:=h.tip g hg
  have hb:=h.tip_lt hg
  refine⟨fun hk=>?_,b,vs,T,(xb _ _ _ hb).trans c,d⟩
  rcases hk with hk | hk
  ·exact a hk
  ·have hk':(C.θ g).b=C.w.heap.size:=hk
   omega
 tipinj:=h.tipinj
 tipown:=h.tipown
 kept b hb:=by
  rcases hb with hb | hb
  ·have:=h.kept b hb;simp[Ctx.hold];omega
  ·simp[Ctx.hold];omega
 lim b hb:=h.lim b (by simp[Ctx.hold] at hb;omega)
theorem Jk {C:Ctx}{s:List AObj}(h:Ok C s){l:Nat}{lp:ALoop}(hl:s[l]? = some (.loop lp)):∃ L:Loop,C.w.heap[C.ρ l]? = some (.loop L)∧L.state=lp.state∧L.pending=lp.pending∧L.params=lp.params∧L.assign=lp.assign∧L.body=lp.body∧L.tmps.size=lp.size∧RelT C lp.tmps L.tmps∧
  ∀ (st:LoopState) (pd:Option Code),∃ C',C'.w=C.w.putObj (C.ρ l) (.loop {L with state:=st,pending:=pd })∧C.le C'∧Ok C' (s.set l (.loop {lp with state:=st,pending:=pd }))∧C'.τ = C.τ∧C'.n=C.n∧C'.ρ = C.ρ:=by
 obtain⟨L,h1,h2,h3,h4,h5,h6,h7,h8⟩:=h.obj l _ hl
 have hlt:l<s.length:=(List.getElem?_eq_some_iff.1 hl).1
 have hln:l<C.n:=by rw[h.n];exact hlt
 have hown:=h.own l hln
 refine⟨L,h1,h2,h3,h4,h5,h6,h7,h8,fun st pd=>?_⟩
 have hlim:C.lim (C.ρ l)=0:=hown.2.1.resolve_left fun hb=>by rw[hl] at hb;cases hb
 have h0:bs C.w (C.ρ l)=0:=by unfold bs;rw[h1]
 have hle:=C.le_putO hown.1 hlim h0 (.loop {L with state:=st,pending:=pd })
 refine⟨C.putO (C.ρ l) (.loop {L with state:=st,pending:=pd }),rfl,hle,h.putO hlt hl (fun _ h=>by cases h) (fun _ h=>by cases h) hlim h0 _ ?_,rfl,rfl,rfl⟩
 exact⟨{L with state:=st,pending:=pd },World.putObj_heap_same hown.2.2,rfl,rfl,h4,h5,h6,h7,RelT.mono hle h8⟩
def wV:List (Tmp × LV)→(Nat→LV)→Nat→LV
 | [],t=>t
 | (d,x) :: r,t=>wV r (upd d x t)
theorem Xi {C:Ctx} : ∀ (ps:List Tmp) (xs:List LV) (vs:List Value) (t:Nat→LV) (tmps:Array Value),zi C xs vs→RelT C t tmps→(∀ d∈ps,d<tmps.size)→
  RelT C (wV (ps.zip xs) t) ((ps.zip vs).foldl (fun tmps (t,a)=>tmps.setIfInBounds t a) tmps)∧((ps.zip vs).foldl (fun tmps (t,a)=>tmps.setIfInBounds t a) tmps).size=tmps.size:=by
 intro ps
 induction ps with
 | nil=>intro xs vs t tmps _ h _;exact⟨by simpa[wV] using h,by simp⟩
 | cons d ps ih=>
  intro xs vs t tmps h1 h2 h3
  cases xs with
  | nil=>simp[zi] at h1;subst h1;exact⟨by simpa[wV] using h2,by simp⟩
  | cons x xs=>
   obtain⟨v,r,rfl,h4,h5⟩:=h1
   have:=ih xs r (upd d x t) (tmps.setIfInBounds d v) h5 (h2.upd (h3 d (by simp)) h4) (fun d' hd'=>by simpa using h3 d' (by simp[hd']))
   simp only[List.zip_cons_cons,List.foldl_cons,wV]
   exact⟨this.1,by simpa using this.2⟩
def zfy (l:Nat)(R:LV→List AObj→List Nat→Prop):Exit→St→Prop
 | .normal,st=>∃ lp,st.s[l]? = some (.loop lp)∧R (.bool true) (st.s.set l (.loop {lp with state:=.ready,pending:=none })) st.v
 | .ret,st=>∃ lp,st.s[l]? = some (.loop lp)∧R (.bool false) (st.s.set l (.loop {lp with state:=.done,pending:=some .ret })) st.v
 | .exit id,st=>∃ lp,st.s[l]? = some (.loop lp)∧R (.bool false) (st.s.set l (.loop {lp with state:=.done,pending:=some (.exit id) })) st.v
 | _,_=>False
theorem zdH {P:Program}{l:Nat}{args:List LV}{s:List AObj}{v:List Nat}{R:LV→List AObj→List Nat→Prop}{lp:ALoop}(hl:s[l]? = some (.loop lp))(hn:args.length=lp.params.size)(hp:∀ d∈lp.params,d<lp.size)
  (h:aW P (some l) lp.size lp.assign (yp (fun st1=>∃ lp1,st1.s[l]? = some (.loop lp1)∧lp1.state = .ready∧aW P (some l) lp.size lp.body (zfy l R) ⟨st1.t,st1.s.set l (.loop {lp1 with state:=.busy }),st1.v⟩) (fun _ _=>False))
   ⟨wV (lp.params.toList.zip args) lp.tmps,s,v⟩):QO P l args s v R:=by
 intro C vs h1 h2 h3
 have hlt:l<s.length:=(List.getElem?_eq_some_iff.1 hl).1
 have hln:l<C.n:=by rw[h1.n];exact hlt
 obtain⟨L,k1,k2,k3,k4,k5,k6,k7,k8,k9⟩:=Jk h1 hl
 have hvl:=h3.length
 refine⟨hln,L.fn,_,L.assign,L.body,run_yield k1 (by rw[k4];simp at hvl;omega),fun F hF=>?_⟩
 subst hF
 have hps:=Xi (C:=C) lp.params.toList args vs.toList lp.tmps L.tmps h3 k8 (fun d hd=>by rw[k7];exact hp d (by simpa using hd))
 have htm:(L.params.zip vs).foldl (fun tmps (x:Tmp × Value)=>tmps.setIfInBounds x.1 x.2) L.tmps=(lp.params.toList.zip vs.toList).foldl (fun tmps (t,a)=>tmps.setIfInBounds t a) L.tmps:=by
  rw[k4,← Array.foldl_toList,Array.toList_zip]
 refine roundIn_of_wpIn trivial ?_
 have hw:=h 0 C {tmps:=(lp.params.toList.zip vs.toList).foldl (fun tmps (t,a)=>tmps.setIfInBounds t a) L.tmps,defers:=[] } h1 h2 ⟨by rw[hps.2,k7],hps.1,Nat.zero_le _,[],rfl,by simp,by simp⟩ (fun l' hl'=>by cases hl';exact hln)
 rw[k5,k6]
 have e1:(Fr C none).inRound (C.ρ l)=Fr C (some l):=rfl
 rw[e1,htm]
 refine wpIn_mono hw ?_
 rintro e a w ⟨C1,st1,rfl,m1,m2,m3,m4,m5⟩
 cases e with
 | normal=>
  obtain⟨lp1,n1,n2,n3⟩:=m5
  obtain⟨L1,p1,p2,p3,p4,p5,p6,p7,p8,p9⟩:=Jk m2 n1
  have hln1:l<C1.n:=Nat.lt_of_lt_of_le hln m1.n
  have hρ : C1.ρ l=C.ρ l:=m1.ρ l hln
  obtain⟨C2,q1,q2,q3,q4,q5,q6⟩:=p9 .busy lp1.pending
  refine⟨C2.w,?_,?_⟩
  ·rw[q1,← hρ,← p3]
   exact run_beginRound p1 (p2.trans n2)
  ·have hw2:=n3 0 C2 a q3 (q4.trans m3) (RelS.mono q2 m4) (fun l' hl'=>by cases hl';rw[q5];exact hln1)
   have e2:Fr C2 (some l)=Fr C (some l):=by simp[Fr,q6,hρ]
   rw[e2] at hw2
   refine wpIn_mono hw2 ?_
   rintro e a w ⟨C3,st3,rfl,r1,r2,r3,r4,r5⟩
   have hρ3:C3.ρ l=C.ρ l:=by rw[r1.ρ l (by rw[q5];exact hln1),q6,hρ]
   have fin:∀ (jump:Option Code) (lp3:ALoop) (bv:Bool),jump.isNone=bv→st3.s[l]? = some (.loop lp3)→R (.bool bv) (st3.s.set l (.loop {lp3 with state:=if jump.isNone then .ready else .done,pending:=jump })) st3.v→
     ∃ v w',(Instr.endRound (C.ρ l) jump).run P C3.w = .ok v w'∧∃ C' x u s' v',C'.w=w'∧Ending.returned v=Ending.returned u∧C.le C'∧Ok C' s'∧C'.τ = v'∧RelV C' x u∧R x s' v':=by
    intro jump lp3 bv hb hs hR
    obtain⟨L3,t1,t2,t3,t4,t5,t6,t7,t8,t9⟩:=Jk r2 hs
    obtain⟨C4,u1,u2,u3,u4,u5,u6⟩:=t9 (if jump.isNone then .ready else .done) jump
    refine⟨_,_,run_endRound jump (by rw[← hρ3];exact t1),C4,.bool bv,.bool bv,_,st3.v,?_,by rw[hb],((m1.trans q2).trans r1).trans u2,u3,u4.trans r3,xr _,hR⟩
    rw[u1,hρ3]
   cases e with
   | normal=>obtain⟨lp3,hs,hR⟩:=r5;exact fin none lp3 true rfl hs hR
   | ret=>obtain⟨lp3,hs,hR⟩:=r5;exact fin (some .ret) lp3 false rfl hs hR
   | exit id=>obtain⟨lp3,hs,hR⟩:=r5;exact fin (some (.exit id)) lp3 false rfl hs hR
   | goto _=>exact r5.elim
   | panic _=>exact r5.elim
   | outgrown=>exact r5.elim
 | exit _=>exact m5.elim
 | goto _=>exact m5.elim
 | ret=>exact m5.elim
 | panic _=>exact m5.elim
 | outgrown=>exact m5.elim
def zkx (P:Program)(r:Option Nat)(N:Nat)(l:Nat)(t:Nat→LV)(Q:Exit→St→Prop)(s:List AObj)(v:List Nat):Prop:=
 ∃ lp,s[l]? = some (.loop lp)∧lp.state≠.busy∧match lp.pending with
  | none=>Q .normal ⟨t,s.set l (.loop {lp with state:=.exhausted }),v⟩
  | some c=>aW P r N c Q ⟨t,s.set l (.loop {lp with state:=.exhausted }),v⟩
theorem zgX {P:Program}{r:Option Nat}{N:Nat}{f:Operand}{params:Array Tmp}{assign body:Code}{Q:Exit→St→Prop}{st:St}{g:FuncId}{fa ca:List LV}(hf:aev st.t f = .fn (.func g) fa ca)(hr:r=none)
  (h:zp P g (fa++[.yld st.s.length]++ca) (st.s++[.loop ⟨.ready,none,st.t,N,params,assign,body⟩]) st.v fun _ s v=>zkx P r N st.s.length st.t Q s v):aW P r N (.rangeFunc f params assign body) Q st:=by
 subst hr
 intro B C a h1 h2 h3 h4
 obtain⟨a1,a2,a0,bs,a3,a4,a5⟩:=h3
 refine wpIn_rangeFunc fun fn _=>?_
 have hfv:=zX a2 f
 rw[hf] at hfv;simp only[RelV] at hfv
 obtain⟨fs,cs,hv,hr1,hr2⟩:=hfv
 let D:=C.w.heap.size
 let C1:=C.hold (.deferred (some []))
 have hle1:=h1.le_hold (.deferred (some []))
 have hok1:=h1.hold (.deferred (some []))
 let Lo:Obj:=.loop {state:=.ready,pending:=none,fn,tmps:=a.tmps,params,assign,body,defers:=D }
 have hle2:=hok1.le_push Lo
 have hsz1:C1.w.heap.size=D+1:=by simp[C1,Ctx.hold,D]
 have hok2:Ok (C1.push Lo) (st.s++[.loop ⟨.ready,none,st.t,N,params,assign,body⟩]):=hok1.push Lo _ ⟨_,yH _ _,rfl,rfl,rfl,rfl,rfl,a1,RelT.mono (hle1.trans hle2) a2⟩
 let C2:=C1.push Lo
 have hle:C.le C2:=hle1.trans hle2
 have hn0:C.n=st.s.length:=h1.n
 have hρ : C2.ρ st.s.length=D+1:=by
  have:C1.n=st.s.length:=hok1.n
  show (if st.s.length=C1.n then C1.w.heap.size else C1.ρ st.s.length)=D+1
  rw[if_pos this.symm,hsz1]
 have hyld:RelV C2 (.yld st.s.length) (.func (.yield (D+1)) #[] #[]):=by
  simp only[RelV]
  refine⟨?_,by rw[hρ]⟩
  show st.s.length<C1.n+1
  have:C1.n=st.s.length:=hok1.n
  omega
 have hargs:zi C2 (fa++[.yld st.s.length]++ca) (fs++ #[Value.func (.yield (D+1)) #[] #[]]++cs).toList:=by
  simp only[Array.toList_append]
  exact((zi.mono hle _ _ hr1).app (zi.one hyld)).app (zi.mono hle _ _ hr2)
 refine⟨D+1,[mark D],C2.w,{target:=.fn (.func g) cs,args:=fs++ #[Value.func (.yield (D+1)) #[] #[]] },C2.w,g,fs++ #[Value.func (.yield (D+1)) #[] #[]]++cs,C2.w,?_,?_,fun _ _=>trivial,?_,fun hh=>by simp[Fr,Fence.wide] at hh,ZV ?_⟩
 ·exact run_enterLoop_outer (P:=P) (w:=C.w) fn a.tmps params assign body
 ·have e1:a.eval (.const (.func (.yield (D+1)) #[] #[])) = .func (.yield (D+1)) #[] #[]:=rfl
  simp only[resolve,hv,Deferred.ofValue,List.map_toArray,List.map_cons,List.map_nil,e1,Sem.run_pure]
 ·exact KF h.1 _ _
 ·refine(h.2 C2 _ hok2 h2 hargs).mono ?_
  rintro e w' ⟨C3,x,u,s',v',rfl,rfl,k3,k4,k5,k6,lp,m1,m2,m3⟩
  obtain⟨L,p1,p2,p3,p4,p5,p6,p7,p8,p9⟩:=Jk k4 m1
  have hlt2:st.s.length<C2.n:=by
   show st.s.length<C1.n+1
   have:C1.n=st.s.length:=hok1.n
   omega
  have hρ3:C3.ρ st.s.length=D+1:=by rw[k3.ρ _ hlt2,hρ]
  obtain⟨C4,q1,q2,q3,q4,q5,q6⟩:=p9 .exhausted lp.pending
  have hle4:C.le C4:=(hle.trans k3).trans q2
  have hD:C2.kept D:=.inr rfl
  have hDobj:C2.w.heap[D]? = some (.deferred (some [])):=(xb C1.w Lo D (by rw[hsz1];omega)).trans (yH C.w _)
  have hle24:=k3.trans q2
  have hS:RelS C4 N B st.t {a with defers:=[mark D]++a.defers }:=by
   refine⟨a1,RelT.mono hle4 a2,Nat.le_trans a0 hle4.size,D :: bs,by simp[a3],?_,?_⟩
   ·refine List.nodup_cons.2 ⟨fun hh=>?_,a4⟩
    have:=(a5 D hh).1.2
    have:=h1.kept D this
    simp only[D] at this;omega
   ·intro b hb
    rcases List.mem_cons.1 hb with rfl | hb
    ·exact⟨⟨a0,hle24.kept _ hD⟩,(hle24.keep _ hD).trans hDobj⟩
    ·have:=a5 b hb
     exact⟨⟨this.1.1,hle4.kept _ this.1.2⟩,(hle4.keep _ this.1.2).trans this.2⟩
  have hend:=run_endLoop (P:=P) p1 (by rw[p2];exact m2)
  rw[hρ3] at hend q1
  refine⟨_,C4.w,by rw[q1,← p3];exact hend,?_⟩
  rw[p3]
  cases hp:lp.pending with
  | none=>
   rw[hp] at m3 q3
   exact⟨C4,⟨st.t,_,v'⟩,rfl,hle4,q3,q4.trans k5,hS,m3⟩
  | some c=>
   rw[hp] at m3 q3
   have:=m3 B C4 _ q3 (q4.trans k5) hS (fun l hl=>by cases hl)
   have e2:Fr C4 none=Fr C none:=rfl
   rw[e2] at this
   exact wpIn_mono this fun e a w hl=>Lift.from hle4 hl
end Go.Hb
end
section
namespace Go.Hb
open Go Go.RowKit
mutual
def LV.under (n:Nat):LV→Bool
 | .ptr id _=>decide (id<n)
 | .eptr cs=>zH n cs
 | .imm _ _ cs _=>zH n cs
 | .ref _ id _ _ _=>decide (id<n)
 | .agg cs=>zH n cs
 | .tup cs=>zH n cs
 | .fn _ a b=>zH n a && zH n b
 | .yld id=>decide (id<n)
 | .mapr id=>decide (id<n)
 | _=>true
def zH (n:Nat):List LV→Bool
 | []=>true
 | x :: xs=>x.under n && zH n xs
end
def AObj.under (n:Nat):AObj→Prop
 | .cells cs=>zH n cs=true
 | .loop r=>∀ i,(r.tmps i).under n=true
 | .map f=>∀ k x,f k=some x→x.under n=true
mutual
theorem RelV.under {C:Ctx} : (x:LV)→(v:Value)→RelV C x v→x.under C.n=true
 | .any,_,_=>by simp[LV.under]
 | .bool _,_,_=>by simp[LV.under]
 | .int _ _,_,_=>by simp[LV.under]
 | .str _,_,_=>by simp[LV.under]
 | .nilp,_,_=>by simp[LV.under]
 | .ptr id off,v,e=>by simp only[RelV] at e;simp[LV.under,e.1]
 | .eptr cs,v,e=>by
  simp only[RelV] at e
  obtain⟨b,o,_,e⟩:=e
  simp only[LV.under];exact zZ.under b cs o e
 | .nils,_,_=>by simp[LV.under]
 | .emp _,_,_=>by simp[LV.under]
 | .imm sz len cs r,v,e=>by
  simp only[RelV] at e
  obtain⟨A,cap,_,_,_,h3,h4,h5,h6,_⟩:=e
  simp only[LV.under]
  cases A with
  | none=>
   have:cs=[]:=List.eq_nil_of_length_eq_zero (by rw[h3,(h4 rfl).1];simp)
   subst this;simp[zH]
  | some a=>
   by_cases hl:len=0
   ·have:cs=[]:=List.eq_nil_of_length_eq_zero (by rw[h3,hl];simp)
    subst this;simp[zH]
   obtain⟨b,o,sp⟩:=a
   have:=h5 _ rfl hl;simp at this;subst this
   exact zZ.under b cs o (h6 b o rfl)
 | .ref sz id off len full,v,e=>by simp only[RelV] at e;simp[LV.under,e.1]
 | .agg cs,v,e=>by
  simp only[RelV] at e
  obtain⟨vs,_,e,_⟩:=e
  simp only[LV.under];exact zi.under cs _ e
 | .tup cs,v,e=>by
  simp only[RelV] at e
  obtain⟨vs,_,e⟩:=e
  simp only[LV.under];exact zi.under cs _ e
 | .nilf,_,_=>by simp[LV.under]
 | .fn f a b,v,e=>by
  simp only[RelV] at e
  obtain⟨fs,cs,_,e1,e2⟩:=e
  simp only[LV.under,Bool.and_eq_true];exact⟨zi.under a _ e1,zi.under b _ e2⟩
 | .yld id,v,e=>by simp only[RelV] at e;simp[LV.under,e.1]
 | .nilm,_,_=>by simp[LV.under]
 | .mapr id,v,e=>by simp only[RelV] at e;simp[LV.under,e.1]
theorem zi.under {C:Ctx} : (xs:List LV)→(vs:List Value)→zi C xs vs→zH C.n xs=true
 | [],_,_=>by simp[zH]
 | x :: xs,vs,e=>by
  simp only[zi] at e
  obtain⟨v,r,_,e2,e3⟩:=e
  simp only[zH,Bool.and_eq_true];exact⟨RelV.under x v e2,zi.under xs r e3⟩
theorem zZ.under {C:Ctx}(b:Nat):(xs:List LV)→(o:Nat)→zZ C b xs o→zH C.n xs=true
 | [],_,_=>by simp[zH]
 | x :: xs,o,e=>by
  simp only[zZ] at e
  obtain⟨⟨v,_,_,_,e4⟩,e5⟩:=e
  simp only[zH,Bool.and_eq_true];exact⟨RelV.under x v e4,zZ.under b xs (o+1) e5⟩
end
def Ctx.cut (C:Ctx)(n:Nat):Ctx:={C with n:=n }
mutual
theorem RelV.cut {C:Ctx}{n:Nat} : (x:LV)→(v:Value)→x.under n=true→RelV C x v→RelV (C.cut n) x v
 | .any,_,_,_=>by simp[RelV]
 | .bool _,_,_,e=>by simpa[RelV] using e
 | .int _ _,_,_,e=>by simpa[RelV] using e
 | .str _,_,_,e=>by simpa[RelV] using e
 | .nilp,_,_,e=>by simpa[RelV] using e
 | .ptr id off,v,u,e=>by simp only[RelV] at e ⊢;simp[LV.under] at u;exact⟨u,e.2⟩
 | .eptr cs,v,u,e=>by
  simp only[RelV] at e ⊢
  simp only[LV.under] at u
  obtain⟨b,o,e1,e2⟩:=e
  exact⟨b,o,e1,zZ.cut b cs o u e2⟩
 | .nils,_,_,e=>by simpa[RelV] using e
 | .emp _,_,_,e=>by simpa[RelV] using e
 | .imm sz len cs r,v,u,e=>by
  simp only[RelV] at e ⊢
  simp only[LV.under] at u
  obtain⟨A,cap,e1,e2,e3,e4,e5,e6,e7,e8⟩:=e
  exact⟨A,cap,e1,e2,e3,e4,e5,e6,fun b o hA=>zZ.cut b cs o u (e7 b o hA),e8⟩
 | .ref sz id off len full,v,u,e=>by simp only[RelV] at e ⊢;simp[LV.under] at u;exact⟨u,e.2⟩
 | .agg cs,v,u,e=>by
  simp only[RelV] at e ⊢
  simp only[LV.under] at u
  obtain⟨vs,e1,e2,e3⟩:=e
  exact⟨vs,e1,zi.cut cs _ u e2,e3⟩
 | .tup cs,v,u,e=>by
  simp only[RelV] at e ⊢
  simp only[LV.under] at u
  obtain⟨vs,e1,e2⟩:=e
  exact⟨vs,e1,zi.cut cs _ u e2⟩
 | .nilf,_,_,e=>by simpa[RelV] using e
 | .fn f a b,v,u,e=>by
  simp only[RelV] at e ⊢
  simp only[LV.under,Bool.and_eq_true] at u
  obtain⟨fs,cs,e1,e2,e3⟩:=e
  exact⟨fs,cs,e1,zi.cut a _ u.1 e2,zi.cut b _ u.2 e3⟩
 | .yld id,v,u,e=>by simp only[RelV] at e ⊢;simp[LV.under] at u;exact⟨u,e.2⟩
 | .nilm,_,_,e=>by simpa[RelV] using e
 | .mapr id,v,u,e=>by simp only[RelV] at e ⊢;simp[LV.under] at u;exact⟨u,e.2⟩
theorem zi.cut {C:Ctx}{n:Nat} : (xs:List LV)→(vs:List Value)→zH n xs=true→zi C xs vs→zi (C.cut n) xs vs
 | [],_,_,e=>by simpa[zi] using e
 | x :: xs,vs,u,e=>by
  simp only[zi] at e ⊢
  simp only[zH,Bool.and_eq_true] at u
  obtain⟨v,r,e1,e2,e3⟩:=e
  exact⟨v,r,e1,RelV.cut x v u.1 e2,zi.cut xs r u.2 e3⟩
theorem zZ.cut {C:Ctx}{n:Nat}(b:Nat):(xs:List LV)→(o:Nat)→zH n xs=true→zZ C b xs o→zZ (C.cut n) b xs o
 | [],_,_,_=>by simp[zZ]
 | x :: xs,o,u,e=>by
  simp only[zZ] at e ⊢
  simp only[zH,Bool.and_eq_true] at u
  obtain⟨⟨v,e1,e2,e3,e4⟩,e5⟩:=e
  exact⟨⟨v,e1,e2,e3,RelV.cut x v u.1 e4⟩,zZ.cut b xs (o+1) u.2 e5⟩
end
theorem RelO.cut {C:Ctx}{n:Nat}{o:AObj}{b:Nat}(u:o.under n)(r:RelO C o b):RelO (C.cut n) o b:=by
 cases o with
 | cells cs=>
  obtain⟨vs,T,us,ws,h1,h2,h3,h4⟩:=r
  exact⟨vs,T,us,ws,h1,h2,zi.cut _ _ u h3,h4⟩
 | loop r'=>
  obtain⟨L,h1,h2,h3,h4,h5,h6,h7,h8⟩:=r
  exact⟨L,h1,h2,h3,h4,h5,h6,h7,fun i=>RelV.cut _ _ (u i) (h8 i)⟩
 | map f=>
  obtain⟨es,cl,h1,h2,h3⟩:=r
  refine⟨es,cl,h1,h2,fun k=>?_⟩
  have h4:=h3 k
  cases hf:f k with
  | none=>rw[hf] at h4;cases hl:look es.toList k<;>simp_all [vc]
  | some x=>
   rw[hf] at h4
   cases hl:look es.toList k with
   | none=>rw[hl] at h4;exact h4.elim
   | some v=>rw[hl] at h4;exact RelV.cut x v (u k x hf) h4
theorem RelO.under {C:Ctx}{o:AObj}{b:Nat}(r:RelO C o b):o.under C.n:=by
 cases o with
 | cells cs=>
  obtain⟨vs,T,us,ws,h1,h2,h3,h4⟩:=r
  exact zi.under _ _ h3
 | loop r'=>
  obtain⟨L,h1,h2,h3,h4,h5,h6,h7,h8⟩:=r
  exact fun i=>RelV.under _ _ (h8 i)
 | map f=>
  obtain⟨es,cl,h1,h2,h3⟩:=r
  intro k x hf
  have h4:=h3 k
  rw[hf] at h4
  cases hl:look es.toList k with
  | none=>rw[hl] at h4;exact h4.elim
  | some v=>rw[hl] at h4;exact RelV.under x v h4
theorem wo {P:Program}{f:FuncId}{args:List LV}{s:List AObj}{v:List Nat}{R:LV→List AObj→List Nat→Prop}
  (h:zp P f args s v fun x s' v'=>∃ s1 J,s'=s1++J∧s1.length=s.length∧x.under s.length=true∧(∀ (i:Nat) (o:AObj),s1[i]? = some o→s[i]? = some o∨o.under s.length)∧R x s1 v'):zp P f args s v R:=by
 refine⟨h.1,fun C vs h1 h2 h3=>(h.2 C vs h1 h2 h3).mono ?_⟩
 rintro e w' ⟨C',x,u,s',v',rfl,rfl,k3,k4,k5,k6,s1,J,rfl,k7,k8,k9,k10⟩
 have hn:C.n=s.length:=h1.n
 have hn':C'.n=(s1++J).length:=k4.n
 have hlt:s.length≤C'.n:=by rw[hn',List.length_append];omega
 refine⟨C'.cut s.length,x,u,s1,v',rfl,rfl,⟨k3.os,k3.tape,k3.output,k3.size,k3.kept,k3.keep,k3.lim,k3.cell,k3.ρ,by simp[Ctx.cut,hn],k3.τ,k3.room,k3.drawn⟩,?_,k5,RelV.cut x u k8 k6,k10⟩
 refine⟨by simp[Ctx.cut,k7],fun i o ho=>?_,fun i j hi hj e=>(by
  have:=k4.inj i j (Nat.lt_of_lt_of_le hi hlt) (Nat.lt_of_lt_of_le hj hlt) e
  rwa [List.getElem?_append_left (by rw[k7];exact hi),List.getElem?_append_left (by rw[k7];exact hj)] at this),fun i hi=>by
  obtain⟨a,b,c⟩:=k4.own i (Nat.lt_of_lt_of_le hi hlt)
  refine⟨a,b.imp (fun hb=>?_) id,c⟩
  rw[List.getElem?_append_left (by rw[k7];exact hi)] at hb;exact hb,k4.tip,k4.tipinj,fun g i hg hi=>k4.tipown g i hg (Nat.lt_of_lt_of_le hi hlt),k4.kept,k4.lim⟩
 have hi:i<s1.length:=(List.getElem?_eq_some_iff.1 ho).1
 have hr:=k4.obj i o (by rw[List.getElem?_append_left hi];exact ho)
 rcases k9 i o ho with h' | h'
 ·have:=RelO.under (h1.obj i o h')
  rw[hn] at this
  exact RelO.cut this hr
 ·exact RelO.cut h' hr
theorem zL (s l:List AObj)(k:Nat):(s++l)[s.length+k]? = l[k]?:=by
 rw[List.getElem?_append_right (by omega)];congr 1;omega
theorem xy (s l:List AObj):(s++l)[s.length]? = l[0]?:=zL s l 0
theorem vU (s l:List AObj)(k:Nat)(o:AObj):(s++l).set (s.length+k) o=s++l.set k o:=by
 rw[List.set_append_right _ _ (by omega)];congr 2;omega
theorem zgT (s l:List AObj)(o:AObj):(s++l).set s.length o=s++l.set 0 o:=vU s l 0 o
end Go.Hb
end
section
namespace Go.Hb
open Go Go.RowKit
attribute [simp] Plan.qs
attribute [simp] aC aL xq wG callee aop aev zh yP dOk yp zE updO aUn aIf YW aRes Jw ZJ zbr Yg zcQ zcq aNew zcr zcT zcC uL zt zci aLen Qu Jm aNil uN LV.cells LV.cellsOk wq yr aq KI zhu ua uD zQ grow zR vN vp zL xy vU zgT
attribute [simp] zk zw aSl zI zF zbX aopO ziC Km ZP
attribute [simp] uO YH Qc Yt
attribute [simp] aBin zbZ Ju yX uU ya zP oInt QQ
def Weak (x y:LV):Prop:=∀ C v,RelV C x v→RelV C y v
theorem Weak.refl (x:LV):Weak x x:=fun _ _ h=>h
theorem Weak.trans {x y z:LV}(h:Weak x y)(k:Weak y z):Weak x z:=fun C v r=>k C v (h C v r)
theorem Weak.imm (sz n:Nat)(cs:List LV)(r:Right):Weak (.imm sz n cs r) (.imm sz n cs .no):=fun C v h=>by
 simp only[RelV] at h ⊢
 obtain⟨A,cap,e1,e2,e3,e4,e5,e6,e7,e8⟩:=h
 exact⟨A,cap,e1,e2,e3,e4,e5,e6,e7,trivial⟩
theorem Weak.nils (sz:Nat)(r:Right)(hr:r = .no∨r = .full):Weak .nils (.imm sz 0 [] r):=fun C v h=>by
 simp only[RelV] at h ⊢;subst h
 refine⟨none,0,rfl,Nat.le_refl _,Nat.zero_le _,by simp,fun _=>by simp,(fun _ h=>by cases h),(fun _ _ h=>by cases h),?_⟩
 rcases hr with rfl | rfl
 ·trivial
 ·simp[RelR]
theorem Weak.any (x:LV):Weak x .any:=fun C v _=>by simp[RelV]
def yh:List LV→List LV→Prop
 | [],[]=>True
 | x :: xs,y :: ys=>Weak x y∧yh xs ys
 | _,_=>False
theorem yh.refl:∀ xs,yh xs xs
 | []=>trivial
 | x :: xs=>⟨Weak.refl x,yh.refl xs⟩
theorem yh.rel {C:Ctx} : ∀ {xs ys:List LV} {vs:List Value},yh xs ys→zi C xs vs→zi C ys vs:=by
 intro xs
 induction xs with
 | nil=>intro ys vs h r;cases ys with | nil=>exact r | cons=>exact h.elim
 | cons x xs ih=>
  intro ys vs h r
  cases ys with
  | nil=>exact h.elim
  | cons y ys=>
   obtain⟨v,r',e1,e2,e3⟩:=r
   exact⟨v,r',e1,h.1 _ _ e2,ih h.2 e3⟩
theorem yh.set:∀ {xs ys:List LV} {i:Nat} {x y:LV},yh xs ys→Weak x y→yh (xs.set i x) (ys.set i y):=by
 intro xs
 induction xs with
 | nil=>intro ys i x y h _;cases ys with | nil=>simp[yh] | cons=>exact h.elim
 | cons a xs ih=>
  intro ys i x y h k
  cases ys with
  | nil=>exact h.elim
  | cons b ys=>
   cases i with
   | zero=>exact⟨k,h.2⟩
   | succ i=>exact⟨h.1,ih h.2 k⟩
theorem Weak.agg {xs ys:List LV}(h:yh xs ys):Weak (.agg xs) (.agg ys):=fun C v r=>by
 simp only[RelV] at r ⊢
 obtain⟨vs,e1,e2,e3⟩:=r
 exact⟨vs,e1,h.rel e2,e3⟩
theorem Weak.tup {xs ys:List LV}(h:yh xs ys):Weak (.tup xs) (.tup ys):=fun C v r=>by
 simp only[RelV] at r ⊢
 obtain⟨vs,e1,e2⟩:=r
 exact⟨vs,e1,h.rel e2⟩
def wE:AObj→AObj→Prop
 | .cells xs,.cells ys=>yh xs ys
 | x,y=>x=y
theorem wE.refl (o:AObj):wE o o:=by cases o<;>simp[wE,yh.refl]
theorem wE.rel {C:Ctx}{o o':AObj}{b:Nat}(h:wE o o')(r:RelO C o b):RelO C o' b:=by
 cases o with
 | cells xs=>
  cases o' with
  | cells ys=>
   obtain⟨vs,T,us,ws,h1,h2,h3,h4⟩:=r
   exact⟨vs,T,us,ws,h1,h2,yh.rel h h3,h4⟩
  | loop r'=>simp[wE] at h
  | map f'=>simp[wE] at h
 | loop r'=>
  cases o' with
  | cells ys=>simp[wE] at h
  | loop r2=>simp only[wE] at h;cases h;exact r
  | map f'=>simp[wE] at h
 | map f=>
  cases o' with
  | cells ys=>simp[wE] at h
  | loop r2=>simp[wE] at h
  | map f'=>simp only[wE] at h;cases h;exact r
def wF (s s':List AObj):Prop:=s.length=s'.length∧∀ (i:Nat) (o o':AObj),s[i]? = some o→s'[i]? = some o'→wE o o'
theorem wF.refl (s:List AObj):wF s s:=⟨rfl,fun i o o' h h'=>by rw[h] at h';cases h';exact wE.refl o⟩
theorem wF.trans {a b c:List AObj}(h:wF a b)(k:wF b c)(hw:∀ x y z:AObj,wE x y→wE y z→wE x z):wF a c:=⟨h.1.trans k.1,fun i o o' h1 h2=>by
 have hi:i<b.length:=by rw[← h.1];exact(List.getElem?_eq_some_iff.1 h1).1
 exact hw _ _ _ (h.2 i o b[i] h1 (by simp[hi])) (k.2 i b[i] o' (by simp[hi]) h2)⟩
theorem wF.set {s:List AObj}{id:Nat}{o o':AObj}(h:wE o o'):wF (s.set id o) (s.set id o'):=⟨by simp,fun i x x' h1 h2=>by
 by_cases e:id=i
 ·subst e
  have hl:id<s.length:=by
   have:=(List.getElem?_eq_some_iff.1 h1).1
   simpa using this
  simp[hl] at h1 h2
  subst h1;subst h2;exact h
 ·rw[List.getElem?_set_ne e] at h1 h2
  rw[h1] at h2;cases h2;exact wE.refl x⟩
theorem wF.dead {s s':List AObj}(hw:wF s s'){i:Nat}(hb:s[i]? = some (.cells [])):s'[i]? = some (.cells []):=by
 have hi':i<s'.length:=by rw[← hw.1];exact(List.getElem?_eq_some_iff.1 hb).1
 have:=hw.2 i _ s'[i] hb (by simp[hi'])
 have hx:s'[i] = .cells []:=by
  cases hq:s'[i] with
  | cells xs=>rw[hq] at this;cases xs with | nil=>rfl | cons=>exact this.elim
  | loop r=>rw[hq] at this;simp[wE] at this
  | map f=>rw[hq] at this;simp[wE] at this
 rw[List.getElem?_eq_getElem hi',hx]
theorem Ok.weak {C:Ctx}{s s':List AObj}(h:Ok C s)(hw:wF s s'):Ok C s':=
 ⟨by rw[h.n,hw.1],fun i o ho=>by
  have hi:i<s.length:=by rw[hw.1];exact(List.getElem?_eq_some_iff.1 ho).1
  exact wE.rel (hw.2 i s[i] o (by simp[hi]) ho) (h.obj i s[i] (by simp[hi])),fun i j hi hj e=>(h.inj i j hi hj e).imp id (Or.imp hw.dead hw.dead),fun i hi=>by
  obtain⟨a,b,c⟩:=h.own i hi
  refine⟨a,b.imp (fun hb=>?_) id,c⟩
  have hi':i<s'.length:=by rw[← hw.1,← h.n];exact hi
  have:=hw.2 i _ s'[i] hb (by simp[hi'])
  have hx:s'[i] = .cells []:=by
   cases hq:s'[i] with
   | cells xs=>rw[hq] at this;cases xs with | nil=>rfl | cons=>exact this.elim
   | loop r=>rw[hq] at this;simp[wE] at this
   | map f=>rw[hq] at this;simp[wE] at this
  rw[List.getElem?_eq_getElem hi',hx],h.tip,h.tipinj,h.tipown,h.kept,h.lim⟩
theorem xp {P:Program}{f:FuncId}{args:List LV}{s:List AObj}{v:List Nat}{R:LV→List AObj→List Nat→Prop}
  (h:zp P f args s v fun x s' v'=>∃ y s'',Weak x y∧wF s' s''∧R y s'' v'):zp P f args s v R:=
 ⟨h.1,fun C vs h1 h2 h3=>(h.2 C vs h1 h2 h3).mono fun e w' ⟨C',x,u,s',v',k1,k2,k3,k4,k5,k6,y,s'',k7,k8,k9⟩=>⟨C',y,u,s'',v',k1,k2,k3,k4.weak k8,k5,k7 _ _ k6,k9⟩⟩
theorem zbt {P:Program}{r:Option Nat}{N:Nat}{c:Code}{Q:Exit→St→Prop}{st st':St}(ht:∀ i,Weak (st.t i) (st'.t i))(hs:wF st.s st'.s)(hv:st.v=st'.v)(h:aW P r N c Q st'):aW P r N c Q st:=
 fun B C a h1 h2 h3 h4=>h B C a (h1.weak hs) (h2.trans hv) ⟨h3.1,fun i=>ht i _ _ (h3.2.1 i),h3.2.2⟩ h4
def Ctx.freeze (C:Ctx)(id L:Nat):Ctx:={C with lim:=fun b=>if b=C.ρ id then L else C.lim b }
theorem Ok.le_freeze {C:Ctx}{s:List AObj}(h:Ok C s){id:Nat}(L:Nat)(hl:C.lim (C.ρ id)=0):C.le (C.freeze id L) where
 os:=rfl
 tape:=rfl
 output:=rfl
 size:=Nat.le_refl _
 kept _ h:=h
 keep _ _:=rfl
 lim b:=by
  simp only[Ctx.freeze]
  by_cases e:b=C.ρ id
  ·rw[if_pos e,e,hl];omega
  ·rw[if_neg e];exact Nat.le_refl _
 cell _ _ _:=rfl
 ρ _ _:=rfl
 n:=Nat.le_refl _
 τ g e he:=⟨e,he,Nat.le_refl _,fun _=>rfl⟩
 room _:=Nat.le_refl _
theorem Ok.freeze {C:Ctx}{s:List AObj}(h:Ok C s){id L:Nat}(hid:id<s.length)(hl:C.lim (C.ρ id)=0){cs:List LV}(hs:s[id]? = some (.cells cs))(hcs:cs≠[]):Ok (C.freeze id L) (s.set id (.cells [])) where
 n:=by simpa[Ctx.freeze] using h.n
 obj i o ho:=by
  have hle:=h.le_freeze L hl
  by_cases e:i=id
  ·subst e
   simp[hid] at ho;subst ho
   obtain⟨vs,T,us,ws,h1,h2,h3,h4⟩:=h.obj i _ hs
   exact⟨vs,T,[],vs.toList,h1,by simp,rfl,by simp⟩
  ·rw[List.getElem?_set_ne (by omega)] at ho
   exact RelO.mono hle rfl (h.obj i o ho)
 inj i j hi hj e:=by
  have key:∀ k,s[k]? = some (AObj.cells [])→(s.set id (AObj.cells []))[k]? = some (AObj.cells []):=fun k hk=>by
   by_cases e9:id=k
   ·rw[← e9,List.getElem?_set_self hid]
   ·rw[List.getElem?_set_ne e9];exact hk
  exact(h.inj i j hi hj e).imp (fun x=>x) (Or.imp (key i) (key j))
 own i hi:=by
  obtain⟨a,b,c⟩:=h.own i hi
  refine⟨a,?_,c⟩
  by_cases e:i=id
  ·subst e;left;simp[hid]
  ·have hin:id<C.n:=by rw[h.n];exact hid
   rcases b with b | b
   ·left;rw[List.getElem?_set_ne (by omega)];exact b
   ·by_cases hne:C.ρ i=C.ρ id
    ·rcases h.inj i id hi hin hne with h' | h' | h'
     ·exact absurd h' e
     ·left;rw[List.getElem?_set_ne (by omega)];exact h'
     ·rw[hs] at h';exact absurd (by simpa using h') hcs
    ·right;simp only[Ctx.freeze];rw[if_neg hne];exact b
 tip g hg:=by
  obtain⟨a,b,c⟩:=h.tip g hg
  have hne:(C.θ g).b≠C.ρ id:=fun e=>h.tipown g id hg (by rw[h.n];exact hid) e.symm
  exact⟨a,by simp only[Ctx.freeze];rw[if_neg hne];exact b,c⟩
 tipinj:=h.tipinj
 tipown:=h.tipown
 kept:=h.kept
 lim b hb:=by
  have:=(h.own id (by rw[h.n];exact hid)).2.2
  have hb':C.w.heap.size≤b:=hb
  simp only[Ctx.freeze]
  rw[if_neg (by intro e;rw[e] at hb';omega)]
  exact h.lim b hb
mutual
def LV.frz (id:Nat)(L:List LV):LV→LV
 | .ref sz i off len fl=>if i=id∧off+len*sz≤L.length then .imm sz len ((L.drop off).take (len*sz)) .no else .ref sz i off len fl
 | .agg cs=>.agg (frzs id L cs)
 | .tup cs=>.tup (frzs id L cs)
 | x=>x
def frzs (id:Nat)(L:List LV):List LV→List LV
 | []=>[]
 | x :: xs=>x.frz id L :: frzs id L xs
end
section
variable {C:Ctx} {s:List AObj} {id:Nat} {L:List LV}
mutual
theorem RelV.frz (k4:Ok C s)(k7:s[id]? = some (.cells L))(hle:C.le (C.freeze id L.length)):(x:LV)→(v:Value)→RelV C x v→RelV (C.freeze id L.length) (x.frz id L) v
 | .ref sz i off len fl,v,e=>by
  simp only[LV.frz]
  split
  ·rename_i hc
   obtain⟨rfl,k8⟩:=hc
   simp only[RelV] at e
   obtain⟨q0,cap,rfl,q1,q2,q3⟩:=e
   obtain⟨vs',T,us,ws,p1,p2,p3,p4⟩:=k4.obj i _ k7
   have pl:=p3.length
   simp only[RelV]
   refine⟨some ⟨C.ρ i,off,none⟩,cap,rfl,q1,q2,by simp;omega,(by intro h;cases h),fun a ha _=>by cases ha;rfl,fun b o hb=>?_,trivial⟩
   cases hb
   refine zZ.of_row (C:=C.freeze i L.length) p1 _ ((us.drop off).take (len*sz)) off (((zi.mono hle _ _ p3).drop _).take _) (fun u hu=>p4 u (List.mem_of_mem_drop (List.mem_of_mem_take hu))) (fun j u hj=>?_) ?_
   ·have hj':=(List.getElem?_eq_some_iff.1 hj).1
    have hlt:j<len*sz:=by simp at hj';omega
    rw[List.getElem?_take_of_lt hlt,List.getElem?_drop] at hj
    have:vs'.toList[off+j]? = some u:=by
     rw[p2,List.getElem?_append_left (List.getElem?_eq_some_iff.1 hj).1];exact hj
    simpa using this
   ·simp only[Ctx.freeze,if_true,List.length_take,List.length_drop];omega
  ·exact RelV.mono hle _ _ e
 | .agg cs,v,e=>by
  simp only[RelV,LV.frz] at e ⊢
  obtain⟨vs,e1,e2,e3⟩:=e
  exact⟨vs,e1,zi.frz k4 k7 hle cs _ e2,e3⟩
 | .tup cs,v,e=>by
  simp only[RelV,LV.frz] at e ⊢
  obtain⟨vs,e1,e2⟩:=e
  exact⟨vs,e1,zi.frz k4 k7 hle cs _ e2⟩
 | .any,v,e=>RelV.mono hle _ _ e
 | .bool _,v,e=>RelV.mono hle _ _ e
 | .int _ _,v,e=>RelV.mono hle _ _ e
 | .str _,v,e=>RelV.mono hle _ _ e
 | .nilp,v,e=>RelV.mono hle _ _ e
 | .ptr _ _,v,e=>RelV.mono hle _ _ e
 | .eptr _,v,e=>RelV.mono hle _ _ e
 | .nils,v,e=>RelV.mono hle _ _ e
 | .emp _,v,e=>RelV.mono hle _ _ e
 | .imm _ _ _ _,v,e=>RelV.mono hle _ _ e
 | .nilf,v,e=>RelV.mono hle _ _ e
 | .fn _ _ _,v,e=>RelV.mono hle _ _ e
 | .yld _,v,e=>RelV.mono hle _ _ e
 | .nilm,v,e=>RelV.mono hle _ _ e
 | .mapr _,v,e=>RelV.mono hle _ _ e
theorem zi.frz (k4:Ok C s)(k7:s[id]? = some (.cells L))(hle:C.le (C.freeze id L.length)):(xs:List LV)→(vs:List Value)→zi C xs vs→zi (C.freeze id L.length) (frzs id L xs) vs
 | [],_,e=>by simpa[zi,frzs] using e
 | x :: xs,vs,e=>by
  simp only[zi,frzs] at e ⊢
  obtain⟨v,r,e1,e2,e3⟩:=e
  exact⟨v,r,e1,RelV.frz k4 k7 hle x v e2,zi.frz k4 k7 hle xs r e3⟩
end
end
attribute [simp] LV.frz frzs
theorem ZR {P:Program}{f:FuncId}{sz:Nat}{r:Right}{args:List LV}{s:List AObj}{v:List Nat}{R:LV→List AObj→List Nat→Prop}
  (h1:zp P f (.nils :: args) s v R) (h2:zp P f (.emp sz :: args) s v R):zp P f (.imm sz 0 [] r :: args) s v R:=by
 refine⟨h1.1,fun C vs k1 k2 k3=>?_⟩
 obtain⟨v0,r0,e0,e1,e2⟩:=k3
 simp only[RelV] at e1
 obtain⟨A,cap,rfl,_,q2,_,q4,q5,_⟩:=e1
 cases A with
 | none=>
  have:=(q4 rfl).2;subst this
  exact h1.2 C vs k1 k2 ⟨_,r0,e0,by simp[RelV],e2⟩
 | some a=>exact h2.2 C vs k1 k2 ⟨_,r0,e0,by simp only[RelV];exact⟨a,cap,rfl,q2⟩,e2⟩
theorem zmo {v v':List Nat}{g e:Nat}(h:v <+: v')(hg:v[g]? = some e):v'[g]? = some e:=by
 obtain⟨t,rfl⟩:=h
 rw[List.getElem?_append_left (List.getElem?_eq_some_iff.1 hg).1];exact hg
end Go.Hb
end
section
namespace Go.Hb
open Go Go.RowKit
@[simp] def zeN (Q:Exit→St→Prop):Exit→St→Prop
 | .goto _,_=>False
 | e,st=>Q e st
theorem zbw {P:Program}{l:Nat}{args:List LV}{s:List AObj}{v:List Nat}{R R':LV→List AObj→List Nat→Prop}(h:QO P l args s v R)(hr:∀ x s v,R x s v→R' x s v):QO P l args s v R':=fun C vs h1 h2 h3=>by
 obtain⟨k1,fn,tmps,assign,body,k2,k3⟩:=h C vs h1 h2 h3
 exact⟨k1,fn,tmps,assign,body,k2,fun F hF=>(k3 F hF).mono fun e w' ⟨C',x,u,s',v',m1,m2,m3,m4,m5,m6,m7⟩=>⟨C',x,u,s',v',m1,m2,m3,m4,m5,m6,hr _ _ _ m7⟩⟩
end Go.Hb
end
section
namespace Go.Hb
open Go Go.RowKit Go.ChangeShapes
def Qg (W:World):Ctx where
 w:=W
 kept b:=b<W.heap.size
 lim b:=match W.heap[b]? with | some (.cells vs _ _)=>vs.size | _=>0
 ρ _:=0
 n:=0
 τ:=[]
 θ _:=⟨0,0,0,0⟩
theorem zgO (W:World):Ok (Qg W) [] where
 n:=rfl
 obj i o h:=by simp at h
 inj i j h:=absurd h (Nat.not_lt_zero _)
 own i h:=absurd h (Nat.not_lt_zero _)
 tip g h:=absurd h (Nat.not_lt_zero _)
 tipinj g g' h:=absurd h (Nat.not_lt_zero _)
 tipown g i h:=absurd h (Nat.not_lt_zero _)
 kept b h:=h
 lim b h:=by
  have hb:W.heap.size≤b:=h
  have:W.heap[b]? = none:=by simpa using hb
  simp[Qg,this]
theorem top {P:Program}{f:FuncId}{args:List LV}{vs:Array Value}{W:World}{R:LV→List AObj→List Nat→Prop}(h:zp P f args [] [] R)(hv:zi (Qg W) args vs.toList) :
  Calls P f vs W fun e w'=>Below W.heap.size W w'∧∃ C x u s v,e = .returned u∧RelV C x u∧R x s v:=
 (h.2 (Qg W) vs (zgO W) rfl hv).mono fun e w' ⟨C',x,u,s',v',k1,k2,k3,k4,k5,k6,k7⟩=>by
  subst k1
  exact⟨⟨k3.os,k3.tape,k3.output,k3.size,fun k hk=>k3.keep k hk⟩,C',x,u,s',v',k2,k6,k7⟩
section
variable {H:Type} {enc:TypeId × Value→H} {P:Program}
theorem zdh {f:Func}{s:ChangeSpec}{apart fresh handsOn again:Bool}{W W':World}{args:Array Value}{v:Value}{ds gs:List (DataW H)}{before pa pv:List MemPlace}
  (hW:DataW.Whole enc P f.params.toList s.vars apart W args.toList ds gs before) (hB:Below W.heap.size W W')
  (hres:∀ (b:Nat) (sp:Nat→Bool) (hd:Bool),DataW.TrodAll enc P W' b sp hd f.resultTypes.toList (v.resultList f.resultTypes.size) (s.fn H (ds++gs)).results [])
  (hargs:∀ sp:Nat→Bool,(∀ p∈before,sp p.block=true)→DataW.TrodAll enc P W' 0 sp true f.params.toList args.toList (s.fn H (ds++gs)).args pa)
  (hvars:∀ sp:Nat→Bool,(∀ p∈before,sp p.block=true)→DataW.TrodVars enc P W' sp s.vars (s.fn H (ds++gs)).vars pv)
  (hps:before=pa++pv)
  (hok:∀ (j:Nat) (t:TypeId) (r:Value),f.resultTypes[j]? = some t→(v.resultList f.resultTypes.size)[j]? = some r→Value.okWide P W' .any 0 t r) :
  s.post enc P f apart fresh handsOn again W args v W':=by
 have hlt:=hW.lt
 obtain⟨p,q,hA,hV,hpq,hz,hn⟩:=id hW
 subst hps
 refine⟨ds,gs,pa++pv,[],pa,pv,hW,hres _ _ _,hargs _ (fun p hp=>by simpa using hlt p hp),hvars _ (fun p hp=>by simpa using hlt p hp),World.keptBut_mono (fun p (h:False)=>h.elim) (hB.frame fun _=>False),fun _=>?_⟩
 refine⟨hok,_,_,([]++pa)++pv,⟨[]++pa,pv,trodAll_append (hargs _ (fun _ _=>rfl)) (hres _ _ _),hvars _ (fun _ _=>rfl),rfl,?_,?_⟩,?_⟩
 ·intro b off hp
  have hb:=hlt _ hp
  rw[hB.frozen (p:=⟨b,off,none⟩) hb]
  exact hz b off hp
 ·exact hn
 ·exact fun p hp _=>hp
end
end Go.Hb
end
section
namespace Go.Hb
open Go Go.RowKit Go.ChangeShapes
theorem zdC {W:World}{b o:Nat}{v:Value}(h:W.cell? ⟨b,o,none⟩=some v):o<(Qg W).lim b:=by
 simp only[Qg]
 unfold World.cell? at h
 split at h
 ·rename_i c t f hb
  simp at hb
  rw[hb]
  simp at h
  exact(Array.getElem?_eq_some_iff.1 h).1
 ·cases h
end Go.Hb
end
