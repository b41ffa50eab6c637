/-
  A layer for reasoning about the program's calls, and contracts of its functions. CONDITIONS: none; each theorem bears its own.
-/
import Derived.WalkKit
import Derived.RangeFuncIn
import Derived.RegionIn
import Derived.KernelRfl
import Derived.RangeFuncRecord
set_option linter.unusedVariables false
set_option linter.unusedSimpArgs false
section
namespace Go.Hb
open Go Go.RowKit
inductive Right where
 | no | full | tip (g e:Nat)
inductive LV where
 | any
 | bool (b:Bool)
 | int (k:IntKind) (n:Int)
 | str (s:ByteArray)
 | nilp
 | ptr (id off:Nat)
 | eptr (cs:List LV)
 | nils
 | emp (sz:Nat)
 | imm (sz len:Nat) (cs:List LV) (r:Right)
 | ref (sz id off len:Nat) (full:Bool)
 | agg (cs:List LV)
 | tup (vs:List LV)
 | nilf
 | fn (f:Fn) (first captured:List LV)
 | yld (id:Nat)
 | nilm
 | mapr (id:Nat)
instance:Inhabited LV:=⟨.any⟩
structure Tip where
 b:Nat
 stop:Nat
 rem:Nat
 sz:Nat
structure Ctx where
 w:World
 kept:Nat→Prop
 lim:Nat→Nat
 ρ : Nat→Nat
 n:Nat
 τ : List Nat
 θ : Nat→Tip
def RelR (C:Ctx)(A:Option Addr)(len cap m sz:Nat):Right→Prop
 | .no=>True
 | .full=>cap=len
 | .tip g e=>∃ e0,C.τ[g]? = some e0∧e≤e0∧(e0=e→cap=len∨∃ b o,A=some ⟨b,o,none⟩∧C.θ g=⟨b,o+m,cap-len,sz⟩)
def bs (w:World)(b:Nat):Nat:=match w.heap[b]? with | some (.cells vs _ _)=>vs.size | _=>0
theorem Zd {w w':World}{b:Nat}(h:w'.heap[b]? = w.heap[b]?):bs w' b=bs w b:=by unfold bs;rw[h]
theorem zlt {w:World}{b:Nat}(h:w.heap.size≤b):bs w b=0:=by unfold bs;rw[Array.getElem?_eq_none h]
mutual
def RelV (C:Ctx):LV→Value→Prop
 | .any,_=>True
 | .bool b,v=>v = .bool b
 | .int k n,v=>v = .int k n
 | .str s,v=>v = .string s
 | .nilp,v=>v = .pointer none
 | .ptr id off,v=>id<C.n∧v = .pointer (some ⟨C.ρ id,off,none⟩)
 | .eptr cs,v=>∃ b o,v = .pointer (some ⟨b,o,none⟩)∧zZ C b cs o
 | .nils,v=>v = .slice none 0 0
 | .emp _,v=>∃ a cap,v = .slice (some a) 0 cap∧cap≤maxLen
 | .imm sz len cs r,v=>∃ A cap,v = .slice A len cap∧len≤cap∧cap≤maxLen∧cs.length=len*sz∧(A=none→len=0∧cap=0)∧
   (∀ a,A=some a→len≠0→a.spot=none)∧(∀ b o,A=some ⟨b,o,none⟩→zZ C b cs o)∧RelR C A len cap cs.length sz r
 | .ref sz id off len full,v=>id<C.n∧∃ cap,v = .slice (some ⟨C.ρ id,off,none⟩) len cap∧len≤cap∧cap≤maxLen∧(full=true→cap=len)∧off+cap*sz≤bs C.w (C.ρ id)
 | .agg cs,v=>∃ vs:Array Value,v = .agg vs∧zi C cs vs.toList∧∀ u∈vs,u.oneCell'=true
 | .tup cs,v=>∃ vs:Array Value,v = .tuple vs∧zi C cs vs.toList
 | .nilf,v=>v = .nilFunc
 | .fn f fa ca,v=>∃ fs cs:Array Value,v = .func f fs cs∧zi C fa fs.toList∧zi C ca cs.toList
 | .yld id,v=>id<C.n∧v = .func (.yield (C.ρ id)) #[] #[]
 | .nilm,v=>v = .map none
 | .mapr id,v=>id<C.n∧v = .map (some (C.ρ id))
def zi (C:Ctx):List LV→List Value→Prop
 | [],vs=>vs=[]
 | x :: xs,vs=>∃ v r,vs=v :: r∧RelV C x v∧zi C xs r
def zZ (C:Ctx)(b:Nat):List LV→Nat→Prop
 | [],_=>True
 | x :: xs,o=>(∃ v,C.w.cell? ⟨b,o,none⟩=some v∧o<C.lim b∧v.oneCell'=true∧RelV C x v)∧zZ C b xs (o+1)
end
structure Ctx.wle (C C':Ctx):Prop where
 lim:∀ b,C.lim b≤C'.lim b
 cell:∀ b o,o<C.lim b→C'.w.cell? ⟨b,o,none⟩=C.w.cell? ⟨b,o,none⟩
 ρ : ∀ i,i<C.n→C'.ρ i=C.ρ i
 n:C.n≤C'.n
 τ : ∀ g e,C.τ[g]? = some e→∃ e',C'.τ[g]? = some e'∧e≤e'∧(e'=e→C'.θ g=C.θ g)
 room:∀ b,bs C.w b≤bs C'.w b
structure Ctx.le (C C':Ctx):Prop where
 os:C'.w.os=C.w.os
 tape:C'.w.tape=C.w.tape
 output:C'.w.output=C.w.output
 size:C.w.heap.size≤C'.w.heap.size
 kept:∀ b,C.kept b→C'.kept b
 keep:∀ b,C.kept b→C'.w.heap[b]? = C.w.heap[b]?
 lim:∀ b,C.lim b≤C'.lim b
 cell:∀ b o,o<C.lim b→C'.w.cell? ⟨b,o,none⟩=C.w.cell? ⟨b,o,none⟩
 ρ : ∀ i,i<C.n→C'.ρ i=C.ρ i
 n:C.n≤C'.n
 τ : ∀ g e,C.τ[g]? = some e→∃ e',C'.τ[g]? = some e'∧e≤e'∧(e'=e→C'.θ g=C.θ g)
 room:∀ b,bs C.w b≤bs C'.w b
 drawn:C.w.drawn≤C'.w.drawn:=by first|exact Nat.le_refl _|exact Nat.le_succ _|exact Nat.le_add_right _ _
theorem Ctx.le.weak {C C':Ctx}(h:C.le C'):C.wle C':=⟨h.lim,h.cell,h.ρ,h.n,h.τ,h.room⟩
theorem Ctx.le.refl (C:Ctx):C.le C:=
 ⟨rfl,rfl,rfl,Nat.le_refl _,fun _ h=>h,fun _ _=>rfl,fun _=>Nat.le_refl _,fun _ _ _=>rfl,fun _ _=>rfl,Nat.le_refl _,fun _ e h=>⟨e,h,Nat.le_refl _,fun _=>rfl⟩,fun _=>Nat.le_refl _,by first|exact Nat.le_refl _|exact Nat.le_succ _|exact Nat.le_add_right _ _⟩
theorem Ctx.le.trans {A B C:Ctx}(h:A.le B)(k:B.le C):A.le C where
 os:=k.os.trans h.os
 tape:=k.tape.trans h.tape
 output:=k.output.trans h.output
 size:=Nat.le_trans h.size k.size
 kept b hb:=k.kept b (h.kept b hb)
 keep b hb:=(k.keep b (h.kept b hb)).trans (h.keep b hb)
 lim b:=Nat.le_trans (h.lim b) (k.lim b)
 cell b o ho:=(k.cell b o (Nat.lt_of_lt_of_le ho (h.lim b))).trans (h.cell b o ho)
 ρ i hi:=(k.ρ i (Nat.lt_of_lt_of_le hi h.n)).trans (h.ρ i hi)
 n:=Nat.le_trans h.n k.n
 τ g e he:=by
  obtain⟨e1,h1,h2,h3⟩:=h.τ g e he
  obtain⟨e2,k1,k2,k3⟩:=k.τ g e1 h1
  refine⟨e2,k1,Nat.le_trans h2 k2,fun h4=>?_⟩
  have:e1=e:=by omega
  rw[k3 (by omega),h3 this]
 room b:=Nat.le_trans (h.room b) (k.room b)
 drawn:=Nat.le_trans h.drawn k.drawn
theorem RelR.wmono {C C':Ctx}(h:C.wle C'){A:Option Addr}{len cap m sz:Nat}{r:Right}(hr:RelR C A len cap m sz r):RelR C' A len cap m sz r:=by
 cases r with
 | no=>trivial
 | full=>exact hr
 | tip g e=>
  obtain⟨e0,h1,h2,h3⟩:=hr
  obtain⟨e1,k1,k2,k3⟩:=h.τ g e0 h1
  refine⟨e1,k1,Nat.le_trans h2 k2,fun h4=>?_⟩
  have he:e0=e:=by omega
  rcases h3 he with hc | ⟨b,o,hA,hθ⟩
  ·exact .inl hc
  ·exact .inr ⟨b,o,hA,by rw[k3 (by omega),hθ]⟩
mutual
theorem RelV.wmono {C C':Ctx}(h:C.wle C'):(x:LV)→(v:Value)→RelV C x v→RelV C' x v
 | .any,_,_=>by simp[RelV]
 | .bool _,_,e=>by simpa[RelV] using e
 | .int _ _,_,e=>by simpa[RelV] using e
 | .str _,_,e=>by simpa[RelV] using e
 | .nilp,_,e=>by simpa[RelV] using e
 | .ptr id off,v,e=>by
  simp only[RelV] at e ⊢
  exact⟨Nat.lt_of_lt_of_le e.1 h.n,by rw[h.ρ _ e.1];exact e.2⟩
 | .eptr cs,v,e=>by
  simp only[RelV] at e ⊢
  obtain⟨b,o,e1,e2⟩:=e
  exact⟨b,o,e1,zZ.wmono h b cs o e2⟩
 | .nils,_,e=>by simpa[RelV] using e
 | .emp _,_,e=>by simpa[RelV] using e
 | .imm sz len cs r,v,e=>by
  simp only[RelV] at e ⊢
  obtain⟨A,cap,e1,e2,e3,e4,e5,e6,e7,e8⟩:=e
  exact⟨A,cap,e1,e2,e3,e4,e5,e6,fun b o hA=>zZ.wmono h b cs o (e7 b o hA),RelR.wmono h e8⟩
 | .ref sz id off len full,v,e=>by
  simp only[RelV] at e ⊢
  obtain⟨e1,cap,e2,e3,e4,e5,e6⟩:=e
  exact⟨Nat.lt_of_lt_of_le e1 h.n,cap,by rw[h.ρ _ e1];exact e2,e3,e4,e5,by rw[h.ρ _ e1];exact Nat.le_trans e6 (h.room _)⟩
 | .agg cs,v,e=>by
  simp only[RelV] at e ⊢
  obtain⟨vs,e1,e2,e3⟩:=e
  exact⟨vs,e1,zi.wmono h cs _ e2,e3⟩
 | .tup cs,v,e=>by
  simp only[RelV] at e ⊢
  obtain⟨vs,e1,e2⟩:=e
  exact⟨vs,e1,zi.wmono h cs _ e2⟩
 | .nilf,_,e=>by simpa[RelV] using e
 | .fn f fa ca,v,e=>by
  simp only[RelV] at e ⊢
  obtain⟨fs,cs,e1,e2,e3⟩:=e
  exact⟨fs,cs,e1,zi.wmono h fa _ e2,zi.wmono h ca _ e3⟩
 | .yld id,v,e=>by
  simp only[RelV] at e ⊢
  exact⟨Nat.lt_of_lt_of_le e.1 h.n,by rw[h.ρ _ e.1];exact e.2⟩
 | .nilm,_,e=>by simpa[RelV] using e
 | .mapr id,v,e=>by
  simp only[RelV] at e ⊢
  exact⟨Nat.lt_of_lt_of_le e.1 h.n,by rw[h.ρ _ e.1];exact e.2⟩
theorem zi.wmono {C C':Ctx}(h:C.wle C'):(xs:List LV)→(vs:List Value)→zi C xs vs→zi C' xs vs
 | [],_,e=>by simpa[zi] using e
 | x :: xs,vs,e=>by
  simp only[zi] at e ⊢
  obtain⟨v,r,e1,e2,e3⟩:=e
  exact⟨v,r,e1,RelV.wmono h x v e2,zi.wmono h xs r e3⟩
theorem zZ.wmono {C C':Ctx}(h:C.wle C')(b:Nat):(xs:List LV)→(o:Nat)→zZ C b xs o→zZ C' b xs o
 | [],_,_=>by simp[zZ]
 | x :: xs,o,e=>by
  simp only[zZ] at e ⊢
  obtain⟨⟨v,e1,e2,e3,e4⟩,e5⟩:=e
  exact⟨⟨v,by rw[h.cell b o e2];exact e1,Nat.lt_of_lt_of_le e2 (h.lim b),e3,RelV.wmono h x v e4⟩,zZ.wmono h b xs (o+1) e5⟩
end
theorem RelV.mono {C C':Ctx}(h:C.le C')(x:LV)(v:Value)(r:RelV C x v):RelV C' x v:=RelV.wmono h.weak x v r
theorem zi.mono {C C':Ctx}(h:C.le C')(xs:List LV)(vs:List Value)(r:zi C xs vs):zi C' xs vs:=zi.wmono h.weak xs vs r
theorem zZ.mono {C C':Ctx}(h:C.le C')(b:Nat)(xs:List LV)(o:Nat)(r:zZ C b xs o):zZ C' b xs o:=zZ.wmono h.weak b xs o r
end Go.Hb
end
section
namespace Go.Hb
open Go Go.RowKit
structure ALoop where
 state:LoopState
 pending:Option Code
 tmps:Nat→LV
 size:Nat
 params:Array Tmp
 assign:Code
 body:Code
inductive AObj where
 | cells (cs:List LV)
 | loop (r:ALoop)
 | map (f:Int→Option LV)
def keyI:Value→Option Int
 | .int .i64 n=>some n
 | _=>none
def look:List MapEntry→Int→Option Value
 | [],_=>none
 | e :: es,k=>if keyI e.key=some k then some e.val else look es k
def KE (es:List MapEntry):Prop:=(∀ e∈es,(keyI e.key).isSome=true)∧(es.filterMap fun e=>keyI e.key).Nodup
def vc (C:Ctx):Option LV→Option Value→Prop
 | none,none=>True
 | some x,some v=>RelV C x v
 | _,_=>False
def RelT (C:Ctx)(t:Nat→LV)(tmps:Array Value):Prop:=∀ i,RelV C (t i) (tmps.getD i undef)
def RelO (C:Ctx):AObj→Nat→Prop
 | .cells cs,b=>∃ (vs:Array Value) (T:TypeId) (us ws:List Value),C.w.heap[b]? = some (.cells vs T (0,0))∧vs.toList=us++ws∧zi C cs us∧∀ u∈us,u.oneCell'=true
 | .loop r,b=>∃ L:Loop,C.w.heap[b]? = some (.loop L)∧L.state=r.state∧L.pending=r.pending∧L.params=r.params∧L.assign=r.assign∧L.body=r.body∧L.tmps.size=r.size∧RelT C r.tmps L.tmps
 | .map f,b=>∃ (es:Array MapEntry) (clock:Nat),C.w.heap[b]? = some (.map es clock)∧KE es.toList∧∀ k,vc C (f k) (look es.toList k)
structure Ok (C:Ctx)(s:List AObj):Prop where
 n:C.n=s.length
 obj:∀ i o,s[i]? = some o→RelO C o (C.ρ i)
 inj:∀ i j,i<C.n→j<C.n→C.ρ i=C.ρ j→i=j∨s[i]? = some (.cells [])∨s[j]? = some (.cells [])
 own:∀ i,i<C.n→¬ C.kept (C.ρ i)∧(s[i]? = some (.cells [])∨C.lim (C.ρ i)=0)∧C.ρ i<C.w.heap.size
 tip:∀ g,g<C.τ.length→¬ C.kept (C.θ g).b∧C.lim (C.θ g).b≤(C.θ g).stop∧∃ (vs:Array Value) (T:TypeId),C.w.heap[(C.θ g).b]? = some (.cells vs T (0,0))∧(C.θ g).stop+(C.θ g).rem*(C.θ g).sz≤vs.size
 tipinj:∀ g g',g<C.τ.length→g'<C.τ.length→(C.θ g).b=(C.θ g').b→g=g'
 tipown:∀ g i,g<C.τ.length→i<C.n→C.ρ i≠(C.θ g).b
 kept:∀ b,C.kept b→b<C.w.heap.size
 lim:∀ b,C.w.heap.size≤b→C.lim b=0
structure St where
 t:Nat→LV
 s:List AObj
 v:List Nat
def upd (d:Nat)(x:LV)(t:Nat→LV):Nat→LV:=fun i=>if i=d then x else t i
def updO (d:Option Tmp)(x:LV)(t:Nat→LV):Nat→LV:=match d with | some d=>upd d x t | none=>t
theorem vc.mono {C C':Ctx}(h:C.le C'):∀ {x:Option LV} {v:Option Value},vc C x v→vc C' x v
 | none,none,_=>trivial
 | some _,some _,r=>RelV.mono h _ _ r
theorem RelT.mono {C C':Ctx}(h:C.le C'){t:Nat→LV}{tmps:Array Value}(r:RelT C t tmps):RelT C' t tmps:=fun i=>RelV.mono h _ _ (r i)
theorem RelT.upd {C:Ctx}{t:Nat→LV}{tmps:Array Value}(r:RelT C t tmps){d:Nat}{x:LV}{v:Value}(hd:d<tmps.size)(hx:RelV C x v):RelT C (Hb.upd d x t) (tmps.setIfInBounds d v):=by
 intro i
 unfold Hb.upd
 by_cases h:i=d
 ·subst h;simp[Array.getD_eq_getD_getElem?,hd,hx]
 ·have:=r i
  simp only[h,if_false]
  rw[Array.getD_eq_getD_getElem?,Array.getElem?_setIfInBounds_ne (by omega),← Array.getD_eq_getD_getElem?]
  exact this
def Yg:Value→Option LV
 | .bool b=>some (.bool b)
 | .int k n=>some (.int k n)
 | .string s=>some (.str s)
 | .pointer none=>some .nilp
 | .slice none 0 0=>some .nils
 | .nilFunc=>some .nilf
 | .map none=>some .nilm
 | _=>none
def zbr:Value→Option LV
 | .agg cs=>(cs.toList.mapM Yg).map .agg
 | v=>Yg v
theorem Ya (C:Ctx):∀ (v:Value) (x:LV),Yg v=some x→RelV C x v∧v.oneCell'=true:=by
 intro v x h
 unfold Yg at h
 split at h<;>simp at h<;>subst h<;>simp[RelV,Value.oneCell']
theorem zbi (C:Ctx):∀ (vs:List Value) (xs:List LV),vs.mapM Yg=some xs→zi C xs vs∧∀ u∈vs,u.oneCell'=true:=by
 intro vs
 induction vs with
 | nil=>intro xs h;simp at h;subst h;simp[zi]
 | cons v vs ih=>
  intro xs h
  simp only[List.mapM_cons,Option.bind_eq_bind,Option.bind_eq_some_iff,Option.pure_def,Option.some.injEq] at h
  obtain⟨y,hy,ys,hys,rfl⟩:=h
  obtain⟨h1,h2⟩:=Ya C v y hy
  obtain⟨h3,h4⟩:=ih ys hys
  refine⟨⟨v,vs,rfl,h1,h3⟩,?_⟩
  simp[h2]
  exact h4
theorem ur (C:Ctx)(v:Value)(x:LV)(h:zbr v=some x):RelV C x v:=by
 unfold zbr at h
 split at h
 ·rename_i cs
  simp only[Option.map_eq_some_iff] at h
  obtain⟨xs,h1,rfl⟩:=h
  obtain⟨h2,h3⟩:=zbi C _ _ h1
  simp only[RelV]
  exact⟨cs,rfl,h2,by simpa using h3⟩
 ·exact(Ya C v x h).1
def aev (t:Nat→LV):Operand→LV
 | .tmp i=>t i
 | .const v=>(zbr v).getD .any
 | .global _=>.any
 | .func f=>.fn (.func f) [] []
theorem zX {C:Ctx}{t:Nat→LV}{a:Act}(r:RelT C t a.tmps)(x:Operand):RelV C (aev t x) (a.eval x):=by
 cases x with
 | tmp i=>exact r i
 | const v=>
  simp only[aev,Act.eval]
  cases h:zbr v with
  | none=>simp[RelV]
  | some x=>exact ur C v x h
 | global g=>simp[aev,RelV]
 | func f=>simp[aev,Act.eval,RelV,zi]
def LV.isCell:LV→Bool
 | .any | .agg _ | .tup _=>false
 | _=>true
def LV.cells:LV→List LV
 | .agg cs=>cs
 | x=>[x]
def LV.cellsOk:LV→Bool
 | .any | .tup _=>false
 | _=>true
theorem zdn {C:Ctx} : ∀ {x:LV} {v:Value},x.isCell=true→RelV C x v→v.oneCell'=true∧v.cells = #[v]:=by
 intro x v hx h
 cases x<;>simp[LV.isCell] at hx<;>simp only[RelV] at h
 case bool=>subst h;simp[Value.oneCell',Value.cells]
 case int=>subst h;simp[Value.oneCell',Value.cells]
 case str=>subst h;simp[Value.oneCell',Value.cells]
 case nilp=>subst h;simp[Value.oneCell',Value.cells]
 case ptr=>obtain⟨_,rfl⟩:=h;simp[Value.oneCell',Value.cells]
 case eptr=>obtain⟨b,o,rfl,_⟩:=h;simp[Value.oneCell',Value.cells]
 case nils=>subst h;simp[Value.oneCell',Value.cells]
 case emp=>obtain⟨a,cap,rfl,_⟩:=h;simp[Value.oneCell',Value.cells]
 case imm=>obtain⟨A,cap,rfl,_⟩:=h;simp[Value.oneCell',Value.cells]
 case ref=>obtain⟨_,cap,rfl,_⟩:=h;simp[Value.oneCell',Value.cells]
 case nilf=>subst h;simp[Value.oneCell',Value.cells]
 case fn=>obtain⟨fs,cs,rfl,_⟩:=h;simp[Value.oneCell',Value.cells]
 case yld=>obtain⟨_,rfl⟩:=h;simp[Value.oneCell',Value.cells]
 case nilm=>subst h;simp[Value.oneCell',Value.cells]
 case mapr=>obtain⟨_,rfl⟩:=h;simp[Value.oneCell',Value.cells]
theorem zi.one {C:Ctx}{x:LV}{v:Value}(h:RelV C x v):zi C [x] [v]:=⟨v,[],rfl,h,rfl⟩
theorem yu {C:Ctx}{x:LV}{v:Value}(hx:x.cellsOk=true)(h:RelV C x v):zi C x.cells v.cells.toList∧∀ u∈v.cells.toList,u.oneCell'=true:=by
 by_cases hc:x.isCell=true
 ·obtain⟨h1,h2⟩:=zdn hc h
  have:x.cells=[x]:=by cases x<;>simp[LV.isCell] at hc<;>rfl
  rw[this,h2]
  refine⟨zi.one h,?_⟩
  simp[h1]
 ·cases x<;>simp[LV.isCell] at hc<;>simp[LV.cellsOk] at hx
  simp only[RelV] at h
  obtain⟨vs,rfl,h1,h2⟩:=h
  exact⟨h1,by simpa[Value.cells] using h2⟩
theorem zi.length {C:Ctx} : ∀ {xs:List LV} {vs:List Value},zi C xs vs→xs.length=vs.length:=by
 intro xs
 induction xs with
 | nil=>intro vs h;simp[zi] at h;simp[h]
 | cons x xs ih=>intro vs h;obtain⟨v,r,rfl,_,h2⟩:=h;simp[ih h2]
theorem zi.get {C:Ctx} : ∀ {xs:List LV} {vs:List Value},zi C xs vs→∀ {i:Nat} {x:LV},xs[i]? = some x→∃ v,vs[i]? = some v∧RelV C x v:=by
 intro xs
 induction xs with
 | nil=>intro vs h i x hx;simp at hx
 | cons y xs ih=>
  intro vs h i x hx
  obtain⟨v,r,rfl,h1,h2⟩:=h
  cases i with
  | zero=>simp at hx;subst hx;exact⟨v,by simp,h1⟩
  | succ i=>simp at hx;simpa using ih h2 hx
theorem zi.app {C:Ctx} : ∀ {xs:List LV} {vs:List Value} {ys:List LV} {us:List Value},zi C xs vs→zi C ys us→zi C (xs++ys) (vs++us):=by
 intro xs
 induction xs with
 | nil=>intro vs ys us h k;simp[zi] at h;subst h;simpa using k
 | cons x xs ih=>intro vs ys us h k;obtain⟨v,r,rfl,h1,h2⟩:=h;exact⟨v,r++us,rfl,h1,ih h2 k⟩
theorem zi.split {C:Ctx} : ∀ {xs ys:List LV} {vs:List Value},zi C (xs++ys) vs→∃ us ws,vs=us++ws∧zi C xs us∧zi C ys ws:=by
 intro xs
 induction xs with
 | nil=>intro ys vs h;exact⟨[],vs,rfl,rfl,h⟩
 | cons x xs ih=>
  intro ys vs h
  obtain⟨v,r,rfl,h1,h2⟩:=h
  obtain⟨us,ws,rfl,h3,h4⟩:=ih h2
  exact⟨v :: us,ws,rfl,⟨v,us,rfl,h1,h3⟩,h4⟩
theorem zi.set {C:Ctx} : ∀ {xs:List LV} {vs:List Value},zi C xs vs→∀ {i:Nat} {x:LV} {v:Value},RelV C x v→zi C (xs.set i x) (vs.set i v):=by
 intro xs
 induction xs with
 | nil=>intro vs h i x v hx;simp[zi] at h;subst h;simp[zi]
 | cons y xs ih=>
  intro vs h i x v hx
  obtain⟨u,r,rfl,h1,h2⟩:=h
  cases i with
  | zero=>exact⟨v,r,rfl,hx,h2⟩
  | succ i=>exact⟨u,r.set i v,rfl,h1,ih h2 hx⟩
theorem zi.take {C:Ctx}{xs:List LV}{vs:List Value}(h:zi C xs vs)(n:Nat):zi C (xs.take n) (vs.take n):=by
 have h':zi C (xs.take n++xs.drop n) vs:=by rw[List.take_append_drop];exact h
 obtain⟨us,ws,rfl,h1,h2⟩:=h'.split
 have:=h1.length
 by_cases hn:n≤xs.length
 ·have e:n=us.length:=by simp at this;omega
  have e2:(us++ws).take n=us:=by rw[e];simp
  rw[e2];exact h1
 ·have h3:xs.drop n=[]:=by simp;omega
  have h4:xs.take n=xs:=List.take_of_length_le (by omega)
  rw[h3] at h2
  simp[zi] at h2;subst h2
  rw[h4] at h1 this ⊢
  rw[List.append_nil,List.take_of_length_le (by omega)]
  exact h1
theorem zi.drop {C:Ctx}{xs:List LV}{vs:List Value}(h:zi C xs vs)(n:Nat):zi C (xs.drop n) (vs.drop n):=by
 have h':zi C (xs.take n++xs.drop n) vs:=by rw[List.take_append_drop];exact h
 obtain⟨us,ws,rfl,h1,h2⟩:=h'.split
 have:=h1.length
 by_cases hn:n≤xs.length
 ·simp at this
  have e:n=us.length:=by omega
  subst e
  simpa using h2
 ·have h3:xs.drop n=[]:=by simp;omega
  rw[h3] at h2 ⊢
  simp[zi] at h2;subst h2
  simp at this
  simp[zi];omega
end Go.Hb
end
section
namespace Go.Hb
open Go Go.RowKit
theorem xb (w:World)(o:Obj)(k:Nat)(h:k<w.heap.size):(w.alloc o).heap[k]? = w.heap[k]?:=Below.heap_alloc w o k h
theorem yH (w:World)(o:Obj):(w.alloc o).heap[w.heap.size]? = some o:=heap_alloc_new w o
theorem Jl (w:World)(o:Obj)(b:Nat):bs w b≤bs (w.alloc o) b:=by
 rcases Nat.lt_or_ge b w.heap.size with h | h
 ·exact Nat.le_of_eq (Zd (xb w o b h)).symm
 ·rw[zlt h];exact Nat.zero_le _
theorem RelO.mono {C C':Ctx}(h:C.le C'){o:AObj}{b:Nat}(hb:C'.w.heap[b]? = C.w.heap[b]?)(r:RelO C o b):RelO C' o b:=by
 cases o with
 | cells cs=>
  obtain⟨vs,T,us,ws,h1,h2,h3,h4⟩:=r
  exact⟨vs,T,us,ws,hb.trans h1,h2,zi.mono h _ _ h3,h4⟩
 | loop r'=>
  obtain⟨L,h1,h2,h3,h4,h5,h6,h7,h8⟩:=r
  exact⟨L,hb.trans h1,h2,h3,h4,h5,h6,h7,RelT.mono h h8⟩
 | map f=>
  obtain⟨es,cl,h1,h2,h3⟩:=r
  exact⟨es,cl,hb.trans h1,h2,fun k=>vc.mono h (h3 k)⟩
def Ctx.drew (C:Ctx):Ctx:={C with w:=C.w.drew }
theorem Ctx.le_drew (C:Ctx):C.le C.drew:=
 ⟨rfl,rfl,rfl,Nat.le_refl _,fun _ h=>h,fun _ _=>rfl,fun _=>Nat.le_refl _,fun _ _ _=>rfl,fun _ _=>rfl,Nat.le_refl _,fun _ e h=>⟨e,h,Nat.le_refl _,fun _=>rfl⟩,fun _=>Nat.le_refl _,by first|exact Nat.le_refl _|exact Nat.le_succ _|exact Nat.le_add_right _ _⟩
theorem Ok.drew {C:Ctx}{s:List AObj}(h:Ok C s):Ok C.drew s:=
 ⟨h.n,fun i o ho=>RelO.mono (Ctx.le_drew C) rfl (h.obj i o ho),h.inj,h.own,h.tip,h.tipinj,h.tipown,h.kept,h.lim⟩
def Ctx.push (C:Ctx)(o:Obj):Ctx:={C with w:=C.w.alloc o,n:=C.n+1,ρ:=fun i=>if i=C.n then C.w.heap.size else C.ρ i }
theorem Ok.cell_lt {C:Ctx}{s:List AObj}(h:Ok C s){b o:Nat}(ho:o<C.lim b):b<C.w.heap.size:=by
 rcases Nat.lt_or_ge b C.w.heap.size with h' | h'
 ·exact h'
 ·have:=h.lim b h';omega
theorem Ok.le_push {C:Ctx}{s:List AObj}(h:Ok C s)(o:Obj):C.le (C.push o) where
 os:=rfl
 tape:=rfl
 output:=rfl
 size:=by simp[Ctx.push]
 kept b hb:=hb
 keep b hb:=xb _ _ _ (h.kept b hb)
 lim b:=Nat.le_refl _
 cell b o' ho:=World.cell?_alloc_lt _ _ _ (h.cell_lt ho)
 ρ i hi:=by simp[Ctx.push];intro e;omega
 n:=by simp[Ctx.push]
 τ g e he:=⟨e,he,Nat.le_refl _,fun _=>rfl⟩
 room b:=Jl _ _ b
theorem Ok.tip_lt {C:Ctx}{s:List AObj}(h:Ok C s){g:Nat}(hg:g<C.τ.length):(C.θ g).b<C.w.heap.size:=by
 obtain⟨_,_,vs,T,h1,_⟩:=h.tip g hg
 exact(Array.getElem?_eq_some_iff.1 h1).1
theorem Ok.push {C:Ctx}{s:List AObj}(h:Ok C s)(o:Obj)(ao:AObj)(hao:RelO (C.push o) ao C.w.heap.size):Ok (C.push o) (s++[ao]) where
 n:=by simp[Ctx.push,h.n]
 obj i a ha:=by
  have hl:=h.le_push o
  by_cases hi:i<s.length
  ·rw[List.getElem?_append_left hi] at ha
   have hr:=h.obj i a ha
   have hin:i<C.n:=by rw[h.n];exact hi
   rw[hl.ρ i hin]
   exact RelO.mono hl (xb _ _ _ (h.own i hin).2.2) hr
  ·rw[List.getElem?_append_right (by omega)] at ha
   have e:i=s.length:=by
    rcases Nat.lt_or_ge (i-s.length) 1 with h1 | h1
    ·omega
    ·simp[List.getElem?_eq_none (l:=[ao]) (i:=i-s.length) (by simpa using h1)] at ha
   subst e
   simp at ha
   subst ha
   have:(C.push o).ρ s.length=C.w.heap.size:=by simp[Ctx.push,h.n]
   rw[this];exact hao
 inj i j hi hj e:=by
  simp only[Ctx.push] at hi hj e
  by_cases h1:i=C.n<;>by_cases h2:j=C.n<;>simp only[h1,h2,if_true,if_false] at e
  ·left;omega
  ·have:=(h.own j (by omega)).2.2;omega
  ·have:=(h.own i (by omega)).2.2;omega
  ·have hn:=h.n
   rw[List.getElem?_append_left (by omega),List.getElem?_append_left (by omega)]
   exact h.inj i j (by omega) (by omega) e
 own i hi:=by
  simp only[Ctx.push] at hi ⊢
  by_cases h1:i=C.n
  ·simp only[h1,if_true]
   refine⟨fun hk=>?_,.inr (h.lim _ (Nat.le_refl _)),by simp⟩
   have:=h.kept _ hk;omega
  ·simp only[h1,if_false]
   obtain⟨a,b,c⟩:=h.own i (by omega)
   exact⟨a,b.imp (fun hb=>by rw[List.getElem?_append_left (List.getElem?_eq_some_iff.1 hb).1];exact hb) id,by simp;omega⟩
 tip g hg:=by
  obtain⟨a,b,vs,T,c,d⟩:=h.tip g hg
  exact⟨a,b,vs,T,(xb _ _ _ (h.tip_lt hg)).trans c,d⟩
 tipinj:=h.tipinj
 tipown g i hg hi:=by
  simp only[Ctx.push] at hi ⊢
  by_cases h1:i=C.n
  ·simp only[h1,if_true]
   have:=h.tip_lt hg
   omega
  ·simp only[h1,if_false];exact h.tipown g i hg (by omega)
 kept b hb:=by have:=h.kept b hb;simp[Ctx.push];omega
 lim b hb:=h.lim b (by simp[Ctx.push] at hb;omega)
def Ctx.row (C:Ctx)(cs:Array Value)(T:TypeId):Ctx:={C with w:=C.w.alloc (.cells cs T),lim:=fun b=>if b=C.w.heap.size then cs.size else C.lim b }
theorem Ok.le_row {C:Ctx}{s:List AObj}(h:Ok C s)(cs:Array Value)(T:TypeId):C.le (C.row cs T) where
 os:=rfl
 tape:=rfl
 output:=rfl
 size:=by simp[Ctx.row]
 kept b hb:=hb
 keep b hb:=xb _ _ _ (h.kept b hb)
 lim b:=by
  simp only[Ctx.row]
  by_cases e:b=C.w.heap.size
  ·have:=h.lim b (by omega);simp[e] at this ⊢;omega
  ·simp[e]
 cell b o' ho:=World.cell?_alloc_lt _ _ _ (h.cell_lt ho)
 ρ i hi:=rfl
 n:=Nat.le_refl _
 τ g e he:=⟨e,he,Nat.le_refl _,fun _=>rfl⟩
 room b:=Jl _ _ b
theorem Ok.row {C:Ctx}{s:List AObj}(h:Ok C s)(cs:Array Value)(T:TypeId):Ok (C.row cs T) s where
 n:=h.n
 obj i a ha:=by
  have hin:i<C.n:=by rw[h.n];exact(List.getElem?_eq_some_iff.1 ha).1
  exact RelO.mono (h.le_row cs T) (xb _ _ _ (h.own i hin).2.2) (h.obj i a ha)
 inj:=h.inj
 own i hi:=by
  obtain⟨a,b,c⟩:=h.own i hi
  refine⟨a,b.imp id fun b=>?_,by simp[Ctx.row];omega⟩
  have:C.ρ i≠C.w.heap.size:=by omega
  simpa[Ctx.row,this] using b
 tip g hg:=by
  obtain⟨a,b,vs,T',c,d⟩:=h.tip g hg
  have hb:=h.tip_lt hg
  have:(C.θ g).b≠C.w.heap.size:=by omega
  exact⟨a,by simpa[Ctx.row,this] using b,vs,T',(xb _ _ _ hb).trans c,d⟩
 tipinj:=h.tipinj
 tipown:=h.tipown
 kept b hb:=by have:=h.kept b hb;simp[Ctx.row];omega
 lim b hb:=by
  simp only[Ctx.row,World.size_alloc] at hb ⊢
  rw[if_neg (by omega)]
  exact h.lim b (by omega)
theorem zZ.of_row {C:Ctx}{b:Nat}{vs:Array Value}{T:TypeId}{fr:Nat × Nat}(hb:C.w.heap[b]? = some (.cells vs T fr)) :
  ∀ (xs:List LV) (us:List Value) (o:Nat),zi C xs us→(∀ u∈us,u.oneCell'=true)→(∀ i u,us[i]? = some u→vs[o+i]? = some u)→o+xs.length≤C.lim b→zZ C b xs o:=by
 intro xs
 induction xs with
 | nil=>intro us o _ _ _ _;simp[zZ]
 | cons x xs ih=>
  intro us o h h1 h2 h3
  obtain⟨v,r,rfl,h4,h5⟩:=h
  simp at h3
  refine⟨⟨v,?_,by omega,h1 v (by simp),h4⟩,ih r (o+1) h5 (fun u hu=>h1 u (by simp[hu])) (fun i u hu=>?_) (by omega)⟩
  ·have:=h2 0 v (by simp)
   simpa[World.cell?,hb] using this
  ·have:=h2 (i+1) u (by simpa using hu)
   rw[show o+1+i=o+(i+1) from by omega];exact this
def Ctx.set (C:Ctx)(b:Nat)(vs:Array Value):Ctx:={C with w:=C.w.setRow b vs }
theorem Ctx.le_set (C:Ctx){b:Nat}(hk:¬ C.kept b)(hl:C.lim b=0)(vs:Array Value){old:Array Value}{T:TypeId}(hold:C.w.heap[b]? = some (.cells old T (0,0)))(hsz:old.size≤vs.size):C.le (C.set b vs) where
 os:=rfl
 tape:=rfl
 output:=rfl
 size:=by simp[Ctx.set]
 kept _ h:=h
 keep b' hb:=setRow_other _ _ _ _ (by intro e;subst e;exact hk hb)
 lim _:=Nat.le_refl _
 cell b' o ho:=cell_setRow_other _ _ _ _ (by intro e;simp at e;subst e;omega)
 ρ _ _:=rfl
 n:=Nat.le_refl _
 τ g e he:=⟨e,he,Nat.le_refl _,fun _=>rfl⟩
 room b':=by
  by_cases e:b'=b
  ·subst e
   have h1:(C.w.setRow b' vs).heap[b']? = some (.cells vs T (0,0)):=setRow_heap _ _ _ _ _ _ hold
   simp only[Ctx.set,bs,hold,h1];exact hsz
  ·exact Nat.le_of_eq (Zd (setRow_other _ _ _ _ e)).symm
theorem RelO.dead {C:Ctx}{cs:List LV}{b:Nat}(h:RelO C (.cells cs) b):RelO C (.cells []) b:=by
 obtain⟨vs,T,us,ws,h1,_⟩:=h
 exact⟨vs,T,[],vs.toList,h1,by simp,rfl,by simp⟩
theorem Ok.set {C:Ctx}{s:List AObj}(h:Ok C s){id:Nat}(hid:id<s.length)(hnd:¬ s[id]? = some (.cells []))(hlv:C.lim (C.ρ id)=0)(vs:Array Value){old:Array Value}{T:TypeId}(hold:C.w.heap[C.ρ id]? = some (.cells old T (0,0)))(hsz:old.size≤vs.size)(xs:List LV)(hao:RelO (C.set (C.ρ id) vs) (.cells xs) (C.ρ id)):Ok (C.set (C.ρ id) vs) (s.set id (.cells xs)) where
 n:=by simpa[Ctx.set] using h.n
 obj i a ha:=by
  have hin:id<C.n:=by rw[h.n];exact hid
  have hl:=C.le_set (h.own id hin).1 hlv vs hold hsz
  by_cases e:i=id
  ·subst e
   simp[hid] at ha
   subst ha;exact hao
  ·rw[List.getElem?_set_ne (by omega)] at ha
   have hi:i<C.n:=by rw[h.n];exact(List.getElem?_eq_some_iff.1 ha).1
   by_cases e':C.ρ i=C.ρ id
   ·have hd:a = .cells []:=by
     rcases h.inj i id hi hin e' with h' | h' | h'
     ·exact absurd h' e
     ·rw[ha] at h';exact Option.some.inj h'
     ·exact absurd h' hnd
    subst hd
    have:=hao.dead
    rw[← e'] at this ⊢
    exact this
   ·exact RelO.mono hl (setRow_other _ _ _ _ e') (h.obj i a ha)
 inj i j hi hj e:=by
  rcases h.inj i j hi hj e with h' | h' | h'
  ·exact .inl h'
  ·have:id≠i:=by rintro rfl;exact hnd h'
   right;left;rw[List.getElem?_set_ne this];exact h'
  ·have:id≠j:=by rintro rfl;exact hnd h'
   right;right;rw[List.getElem?_set_ne this];exact h'
 own i hi:=by
  obtain⟨a,b,c⟩:=h.own i hi
  refine⟨a,?_,by simpa[Ctx.set] using c⟩
  by_cases e:i=id
  ·subst e;exact .inr hlv
  ·exact b.imp (fun hb=>by rw[List.getElem?_set_ne (by omega)];exact hb) (fun hb=>hb)
 tip g hg:=by
  obtain⟨a,b,vs',T',c,d⟩:=h.tip g hg
  exact⟨a,b,vs',T',(setRow_other _ _ _ _ (fun e=>h.tipown g id hg (by rw[h.n];exact hid) e.symm)).trans c,d⟩
 tipinj:=h.tipinj
 tipown:=h.tipown
 kept b hb:=by have:=h.kept b hb;simpa[Ctx.set] using this
 lim b hb:=h.lim b (by simpa[Ctx.set] using hb)
def Ctx.dup (C:Ctx)(id:Nat):Ctx:={C with n:=C.n+1,ρ:=fun i=>if i=C.n then C.ρ id else C.ρ i }
theorem Ctx.le_dup (C:Ctx)(id:Nat):C.le (C.dup id) where
 os:=rfl
 tape:=rfl
 output:=rfl
 size:=Nat.le_refl _
 kept _ h:=h
 keep _ _:=rfl
 lim _:=Nat.le_refl _
 cell _ _ _:=rfl
 ρ i hi:=by simp only[Ctx.dup];rw[if_neg (by omega)]
 n:=by simp[Ctx.dup]
 τ g e he:=⟨e,he,Nat.le_refl _,fun _=>rfl⟩
 room _:=Nat.le_refl _
theorem Ok.kill {C:Ctx}{s:List AObj}(h:Ok C s){id:Nat}{cs:List LV}(hs:s[id]? = some (.cells cs)):Ok C (s.set id (.cells [])) where
 n:=by simpa using h.n
 obj i o ho:=by
  have hid:=(List.getElem?_eq_some_iff.1 hs).1
  by_cases e:i=id
  ·subst e
   simp[hid] at ho;subst ho
   exact(h.obj i _ hs).dead
  ·rw[List.getElem?_set_ne (by omega)] at ho
   exact h.obj i o ho
 inj i j hi hj e:=by
  have hid:=(List.getElem?_eq_some_iff.1 hs).1
  have key:∀ k,s[k]? = some (AObj.cells [])→(s.set id (AObj.cells []))[k]? = some (AObj.cells []):=fun k hk=>by
   by_cases e9:id=k
   ·rw[← e9,List.getElem?_set_self hid]
   ·rw[List.getElem?_set_ne e9];exact hk
  exact(h.inj i j hi hj e).imp (fun x=>x) (Or.imp (key i) (key j))
 own i hi:=by
  have hid:=(List.getElem?_eq_some_iff.1 hs).1
  obtain⟨a,b,c⟩:=h.own i hi
  refine⟨a,b.imp (fun hb=>?_) (fun x=>x),c⟩
  by_cases e:id=i
  ·rw[← e,List.getElem?_set_self hid]
  ·rw[List.getElem?_set_ne e];exact hb
 tip:=h.tip
 tipinj:=h.tipinj
 tipown:=h.tipown
 kept:=h.kept
 lim:=h.lim
theorem Ok.dup {C:Ctx}{s:List AObj}(h:Ok C s){id:Nat}{cs:List LV}(hs:s[id]? = some (.cells cs))(hcs:cs≠[]):Ok (C.dup id) (s.set id (.cells [])++[.cells cs]) where
 n:=by simp[Ctx.dup,h.n]
 obj i o ho:=by
  have hid:=(List.getElem?_eq_some_iff.1 hs).1
  have hle:=C.le_dup id
  by_cases hi:i<s.length
  ·rw[List.getElem?_append_left (by simpa using hi)] at ho
   have hr:=(h.kill hs).obj i o ho
   have e:(C.dup id).ρ i=C.ρ i:=by simp only[Ctx.dup];rw[if_neg (by rw[h.n];omega)]
   rw[e]
   exact RelO.mono hle rfl hr
  ·rw[List.getElem?_append_right (by simpa using hi)] at ho
   have h0:i-s.length<1:=by
    have:=(List.getElem?_eq_some_iff.1 ho).1;simpa using this
   have hi2:i=s.length:=by omega
   subst hi2
   simp at ho;subst ho
   have e:(C.dup id).ρ s.length=C.ρ id:=by simp only[Ctx.dup];rw[if_pos h.n.symm]
   rw[e]
   exact RelO.mono hle rfl (h.obj id _ hs)
 inj i j hi hj e:=by
  have hid:=(List.getElem?_eq_some_iff.1 hs).1
  have hn:=h.n
  have key:∀ k,(s.set id (AObj.cells []))[k]? = some (AObj.cells [])→(s.set id (AObj.cells [])++[AObj.cells cs])[k]? = some (AObj.cells []):=fun k hk=>by
   rw[List.getElem?_append_left (List.getElem?_eq_some_iff.1 hk).1];exact hk
  simp only[Ctx.dup] at hi hj e
  have dead:∀ k,k<C.n→C.ρ k=C.ρ id→(s.set id (AObj.cells []))[k]? = some (AObj.cells []):=fun k hk ek=>by
   by_cases e9:id=k
   ·rw[← e9,List.getElem?_set_self hid]
   ·rcases h.inj k id hk (by omega) ek with h' | h' | h'
    ·exact absurd h'.symm e9
    ·rw[List.getElem?_set_ne e9];exact h'
    ·rw[hs] at h';exact absurd (by simpa using h') hcs
  by_cases ei:i=C.n<;>by_cases ej:j=C.n
  ·left;omega
  ·rw[if_pos ei,if_neg ej] at e
   exact .inr (.inr (key j (dead j (by omega) e.symm)))
  ·rw[if_neg ei,if_pos ej] at e
   exact .inr (.inl (key i (dead i (by omega) e)))
  ·rw[if_neg ei,if_neg ej] at e
   exact((h.kill hs).inj i j (by omega) (by omega) e).imp (fun x=>x) (Or.imp (key i) (key j))
 own i hi:=by
  have hid:=(List.getElem?_eq_some_iff.1 hs).1
  have hn:=h.n
  simp only[Ctx.dup] at hi ⊢
  by_cases ei:i=C.n
  ·rw[if_pos ei]
   obtain⟨a,b,c⟩:=h.own id (by omega)
   refine⟨a,.inr (b.resolve_left fun hb=>?_),c⟩
   rw[hs] at hb;exact hcs (by simpa using hb)
  ·rw[if_neg ei]
   obtain⟨a,b,c⟩:=(h.kill hs).own i (by omega)
   refine⟨a,b.imp (fun hb=>?_) (fun x=>x),c⟩
   rw[List.getElem?_append_left (List.getElem?_eq_some_iff.1 hb).1];exact hb
 tip:=h.tip
 tipinj:=h.tipinj
 tipown g i hg hi:=by
  have hid:=(List.getElem?_eq_some_iff.1 hs).1
  have hn:=h.n
  simp only[Ctx.dup] at hi ⊢
  by_cases ei:i=C.n
  ·rw[if_pos ei];exact h.tipown g id hg (by omega)
  ·rw[if_neg ei];exact h.tipown g i hg (by omega)
 kept:=h.kept
 lim:=h.lim
def Ctx.putO (C:Ctx)(b:Nat)(o:Obj):Ctx:={C with w:=C.w.putObj b o }
theorem Ctx.le_putO (C:Ctx){b:Nat}(hk:¬ C.kept b)(hl:C.lim b=0)(h0:bs C.w b=0)(o:Obj):C.le (C.putO b o) where
 os:=rfl
 tape:=rfl
 output:=rfl
 size:=by simp[Ctx.putO,World.putObj]
 kept _ h:=h
 keep b' hb:=World.putObj_heap_other (by intro e;subst e;exact hk hb)
 lim _:=Nat.le_refl _
 cell b' o' ho:=by
  have hne:b'≠b:=by intro e;subst e;omega
  simp only[Ctx.putO,World.cell?,World.putObj_heap_other hne]
 ρ _ _:=rfl
 n:=Nat.le_refl _
 τ g e he:=⟨e,he,Nat.le_refl _,fun _=>rfl⟩
 room b':=by
  by_cases e:b'=b
  ·subst e;rw[h0];exact Nat.zero_le _
  ·exact Nat.le_of_eq (Zd (World.putObj_heap_other e)).symm
theorem Ok.putO {C:Ctx}{s:List AObj}(h:Ok C s){id:Nat}(hid:id<s.length){a0 a1:AObj}(hlp:s[id]? = some a0)(hn0:∀ cs,a0≠.cells cs)(_hn1:∀ cs,a1≠.cells cs)(hlv:C.lim (C.ρ id)=0)(h0:bs C.w (C.ρ id)=0)(o:Obj)(hao:RelO (C.putO (C.ρ id) o) a1 (C.ρ id)):Ok (C.putO (C.ρ id) o) (s.set id a1) where
 n:=by simpa[Ctx.putO] using h.n
 obj i a ha:=by
  have hin:id<C.n:=by rw[h.n];exact hid
  have hl:=C.le_putO (h.own id hin).1 hlv h0 o
  by_cases e:i=id
  ·subst e
   simp[hid] at ha
   subst ha;exact hao
  ·rw[List.getElem?_set_ne (by omega)] at ha
   have hi:i<C.n:=by rw[h.n];exact(List.getElem?_eq_some_iff.1 ha).1
   refine RelO.mono hl (World.putObj_heap_other (fun e'=>?_)) (h.obj i a ha)
   rcases h.inj i id hi hin e' with h' | h' | h'
   ·exact e h'
   ·obtain⟨vs,T,us,ws,q1,_⟩:=h.obj i _ h'
    have e2:C.ρ i=C.ρ id:=e'
    rw[e2] at q1
    have hr:=h.obj id _ hlp
    cases a0 with
    | cells cs=>exact hn0 cs rfl
    | loop r=>obtain⟨L,q2,_⟩:=hr;rw[q2] at q1;cases q1
    | map f=>obtain⟨es,cl,q2,_⟩:=hr;rw[q2] at q1;cases q1
   ·rw[hlp] at h';exact hn0 _ (Option.some.inj h')
 inj i j hi hj e:=by
  rcases h.inj i j hi hj e with h' | h' | h'
  ·exact .inl h'
  ·have:id≠i:=by rintro rfl;rw[hlp] at h';exact hn0 _ (Option.some.inj h')
   right;left;rw[List.getElem?_set_ne this];exact h'
  ·have:id≠j:=by rintro rfl;rw[hlp] at h';exact hn0 _ (Option.some.inj h')
   right;right;rw[List.getElem?_set_ne this];exact h'
 own i hi:=by
  obtain⟨a,b,c⟩:=h.own i hi
  refine⟨a,?_,by simpa[Ctx.putO,World.putObj] using c⟩
  by_cases e:i=id
  ·subst e;exact .inr hlv
  ·exact b.imp (fun hb=>by rw[List.getElem?_set_ne (by omega)];exact hb) (fun hb=>hb)
 tip g hg:=by
  obtain⟨a,b,vs',T',c,d⟩:=h.tip g hg
  exact⟨a,b,vs',T',(World.putObj_heap_other (fun e=>h.tipown g id hg (by rw[h.n];exact hid) e.symm)).trans c,d⟩
 tipinj:=h.tipinj
 tipown:=h.tipown
 kept b hb:=by have:=h.kept b hb;simpa[Ctx.putO,World.putObj] using this
 lim b hb:=h.lim b (by simpa[Ctx.putO,World.putObj] using hb)
end Go.Hb
end
section
namespace Go.Hb
open Go Go.RowKit
def aggT (P:Program)(t:TypeId):Option Bool:=(P.underlying t).map fun | .struct _ | .array _ _=>true | _=>false
def szT (P:Program)(t:TypeId):Option Nat:=(P.info? t).map (·.size)
def zD (P:Program)(t:TypeId):Option Nat:=(P.info? t).map (·.bytes)
def zT (P:Program)(t:TypeId):Option LV:=((P.info? t).bind (·.zero)).bind zbr
def Runs (P:Program)(C:Ctx)(m:Sem Value)(x:LV)(s:List AObj)(v:List Nat):Prop:=
 ∃ C' u,C.le C'∧Ok C' s∧C'.τ = v∧RelV C' x u∧m.run P C.w = .ok u C'.w
theorem Runs.quiet {P:Program}{C:Ctx}{m:Sem Value}{x:LV}{s:List AObj}(h:Ok C s){u:Value}(hx:RelV C x u)(hm:m.run P C.w = .ok u C.w):Runs P C m x s C.τ:=
 ⟨C,u,.refl C,h,rfl,hx,hm⟩
theorem vr {P:Program}{t:TypeId}{b:Bool}(h:aggT P t=some b)(w:World):(isAgg t).run P w = .ok b w:=by
 unfold aggT at h
 simp only[Option.map_eq_some_iff] at h
 obtain⟨d,h1,h2⟩:=h
 unfold isAgg
 rw[Sem.run_bind,run_underlying h1 w]
 subst h2
 cases d<;>simp
theorem yc {P:Program}{t:TypeId}{n:Nat}(h:szT P t=some n)(w:World):(sizeOf t).run P w = .ok n w:=by
 unfold szT at h
 simp only[Option.map_eq_some_iff] at h
 obtain⟨i,h1,h2⟩:=h
 simp[sizeOf,typeInfo,h1,h2]
theorem wX {P:Program}{t:TypeId}{x:LV}(h:zT P t=some x)(C:Ctx):∃ v,(zeroValue t).run P C.w = .ok v C.w∧RelV C x v:=by
 unfold zT at h
 simp only[Option.bind_eq_some_iff] at h
 obtain⟨z,⟨i,h1,h2⟩,h3⟩:=h
 exact⟨z,by simp[zeroValue,typeInfo,h1,h2],ur C z x h3⟩
def zcQ (P:Program)(T:TypeId)(p:LV)(s:List AObj):Option LV:=
 match p with
 | .ptr id off=>match s[id]? with
  | some (.cells cs)=>match aggT P T with
   | some true=>(szT P T).bind fun n=>if off+n≤cs.length then some (.agg ((cs.drop off).take n)) else none
   | some false=>cs[off]?
   | none=>none
  | _=>none
 | .eptr cs=>match aggT P T with
  | some true=>(szT P T).bind fun n=>if n≤cs.length then some (.agg (cs.take n)) else none
  | some false=>cs[0]?
  | none=>none
 | _=>none
theorem ym (b o k:Nat):(⟨b,o,none⟩:Addr).add k=⟨b,o+k,none⟩:=by
 unfold Addr.add;split<;>simp_all
theorem zZ.get {C:Ctx}{b:Nat} : ∀ {xs:List LV} {o:Nat},zZ C b xs o→∃ us:List Value,zi C xs us∧(∀ u∈us,u.oneCell'=true)∧∀ j u,us[j]? = some u→C.w.cell? ⟨b,o+j,none⟩=some u:=by
 intro xs
 induction xs with
 | nil=>intro o _;exact⟨[],rfl,by simp,by simp⟩
 | cons x xs ih=>
  intro o h
  obtain⟨⟨v,h1,h2,h3,h4⟩,h5⟩:=h
  obtain⟨us,k1,k2,k3⟩:=ih h5
  refine⟨v :: us,⟨v,us,rfl,h4,k1⟩,by simpa[h3] using k2,fun j u hj=>?_⟩
  cases j with
  | zero=>simp at hj;subst hj;exact h1
  | succ j=>rw[show o+(j+1)=o+1+j from by omega];exact k3 j u (by simpa using hj)
theorem zZ.drop {C:Ctx}{b:Nat} : ∀ {xs:List LV} {o:Nat} (k:Nat),zZ C b xs o→zZ C b (xs.drop k) (o+k):=by
 intro xs
 induction xs with
 | nil=>intro o k _;simp[zZ]
 | cons x xs ih=>
  intro o k h
  cases k with
  | zero=>simpa using h
  | succ k=>simp only[List.drop_succ_cons];rw[show o+(k+1)=o+1+k from by omega];exact ih k h.2
theorem zZ.take {C:Ctx}{b:Nat} : ∀ {xs:List LV} {o:Nat} (k:Nat),zZ C b xs o→zZ C b (xs.take k) o:=by
 intro xs
 induction xs with
 | nil=>intro o k _;simp[zZ]
 | cons x xs ih=>
  intro o k h
  cases k with
  | zero=>simp[zZ]
  | succ k=>simp only[List.take_succ_cons];exact⟨h.1,ih k h.2⟩
theorem Za {P:Program}{C:Ctx}{s:List AObj}{T:TypeId}{p x:LV}{pv:Value}(hok:Ok C s)(hp:RelV C p pv)(h:zcQ P T p s=some x) :
  ∃ u,RelV C x u∧(Instr.loadAt T pv).run P C.w = .ok u C.w∧∃ a,pv = .pointer (some a):=by
 cases p<;>simp only[zcQ] at h<;>try (cases h;done)
 case ptr id off=>
  simp only[RelV] at hp
  obtain⟨hid,rfl⟩:=hp
  split at h
  ·rename_i cs hs
   have ho:=hok.obj id _ hs
   obtain⟨vs,T',us,ws,h1,h2,h3,h4⟩:=ho
   have hlen:=h3.length
   split at h
   ·rename_i hag
    simp only[Option.bind_eq_some_iff] at h
    obtain⟨n,hn,h⟩:=h
    split at h
    ·rename_i hle
     simp at h;subst h
     refine⟨.agg ((us.drop off).take n).toArray,?_,?_,_,rfl⟩
     ·simp only[RelV]
      refine⟨_,rfl,by simpa using (h3.drop off).take n,fun u hu=>h4 u ?_⟩
      simp at hu
      exact List.mem_of_mem_drop (List.mem_of_mem_take hu)
     ·have hl:((us.drop off).take n).length=n:=by simp;omega
      have:=run_loadCells_list (P:=P) C.w ⟨C.ρ id,off,none⟩ ((us.drop off).take n) (fun j v hv=>by
       rw[ym]
       simp only[World.cell?,h1]
       have hj:j<n:=by
        rcases Nat.lt_or_ge j n with h' | h'
        ·exact h'
        ·rw[List.getElem?_eq_none (by omega)] at hv;cases hv
       rw[List.getElem?_take_of_lt hj,List.getElem?_drop] at hv
       have:vs.toList[off+j]? = some v:=by rw[h2,List.getElem?_append_left (by rw[← hlen];omega)];exact hv
       simpa using this)
      rw[hl] at this
      simp[Instr.loadAt,Instr.sureAddr,loadVar,vr hag,yc hn,this]
    ·cases h
   ·rename_i hag
    obtain⟨v,h5,h6⟩:=h3.get h
    refine⟨v,h6,?_,_,rfl⟩
    have hc:C.w.cell? ⟨C.ρ id,off,none⟩=some v:=by
     simp only[World.cell?,h1]
     have:vs.toList[off]? = some v:=by
      rw[h2,List.getElem?_append_left (by have:=(List.getElem?_eq_some_iff.1 h5).1;omega)];exact h5
     simpa using this
    simp[Instr.loadAt,Instr.sureAddr,loadVar,vr hag,hc]
   ·cases h
  ·cases h
 case eptr cs=>
  simp only[RelV] at hp
  obtain⟨b,o,rfl,hc⟩:=hp
  obtain⟨us,h3,h4,h5⟩:=hc.get
  have hlen:=h3.length
  split at h
  ·rename_i hag
   simp only[Option.bind_eq_some_iff] at h
   obtain⟨n,hn,h⟩:=h
   split at h
   ·rename_i hle
    simp at h;subst h
    refine⟨.agg (us.take n).toArray,?_,?_,_,rfl⟩
    ·simp only[RelV]
     refine⟨_,rfl,by simpa using h3.take n,fun u hu=>h4 u ?_⟩
     simp at hu
     exact List.mem_of_mem_take hu
    ·have hl:(us.take n).length=n:=by simp;omega
     have:=run_loadCells_list (P:=P) C.w ⟨b,o,none⟩ (us.take n) (fun j v hv=>by
      rw[ym]
      have hj:j<n:=by
       rcases Nat.lt_or_ge j n with h' | h'
       ·exact h'
       ·rw[List.getElem?_eq_none (by omega)] at hv;cases hv
      rw[List.getElem?_take_of_lt hj] at hv
      exact h5 j v hv)
     rw[hl] at this
     simp[Instr.loadAt,Instr.sureAddr,loadVar,vr hag,yc hn,this]
   ·cases h
  ·rename_i hag
   obtain⟨v,h6,h7⟩:=h3.get h
   refine⟨v,h7,?_,_,rfl⟩
   have hc:C.w.cell? ⟨b,o,none⟩=some v:=by simpa using h5 0 v h6
   simp[Instr.loadAt,Instr.sureAddr,loadVar,vr hag,hc]
  ·cases h
theorem zaS {P:Program}{C:Ctx}{s:List AObj}{T:TypeId}{p x:LV}{pv:Value}(hok:Ok C s)(hp:RelV C p pv)(h:zcQ P T p s=some x):Runs P C (Instr.loadAt T pv) x s C.τ:=by
 obtain⟨u,h1,h2,_⟩:=Za hok hp h
 exact Runs.quiet hok h1 h2
def wq (cs:List LV)(off:Nat):List LV→List LV
 | []=>cs
 | x :: xs=>wq (cs.set off x) (off+1) xs
def zcq (P:Program)(T:TypeId)(p x:LV)(s:List AObj):Option (List AObj):=
 match p with
 | .ptr id off=>match s[id]? with
  | some (.cells cs)=>if x.cellsOk=true∧szT P T=some x.cells.length∧off+x.cells.length≤cs.length∧x.cells.length≠0 then some (s.set id (.cells (wq cs off x.cells))) else none
  | _=>none
 | _=>none
theorem zaj:∀ (xs cs:List LV) (off:Nat),(wq cs off xs).length=cs.length:=by
 intro xs
 induction xs with
 | nil=>intro cs off;rfl
 | cons x xs ih=>intro cs off;simp[wq,ih]
theorem XW {C:Ctx} : ∀ (xs cs:List LV) (off:Nat) (us vs:List Value),zi C cs us→zi C xs vs→off+xs.length≤cs.length→zi C (wq cs off xs) (us.take off++vs++us.drop (off+vs.length)):=by
 intro xs
 induction xs with
 | nil=>
  intro cs off us vs h1 h2 _
  simp[zi] at h2;subst h2
  simpa[wq] using h1
 | cons x xs ih=>
  intro cs off us vs h1 h2 h3
  obtain⟨v,r,rfl,h4,h5⟩:=h2
  simp at h3
  have hl:=h1.length
  have:=ih (cs.set off x) (off+1) (us.set off v) r (h1.set h4) h5 (by simp;omega)
  have e:=list_seg_step us off v r (by have:=h5.length;omega)
  simp only[wq]
  rw[e] at this
  simpa using this
theorem XB {P:Program}{C:Ctx}{s s':List AObj}{T:TypeId}{p x:LV}{pv xv:Value}(hok:Ok C s)(hp:RelV C p pv)(hx:RelV C x xv)(h:zcq P T p x s=some s') :
  ∃ C',C.le C'∧Ok C' s'∧C'.τ = C.τ∧(Instr.storeAt T pv xv).run P C.w = .ok () C'.w:=by
 cases p<;>simp only[zcq] at h<;>try (cases h;done)
 rename_i id off
 simp only[RelV] at hp
 obtain⟨hid,rfl⟩:=hp
 split at h
 ·rename_i cs hs
  split at h
  ·rename_i hc
   obtain⟨hc1,hc2,hc3,hc4⟩:=hc
   simp at h;subst h
   obtain⟨vs,T',us,ws,h1,h2,h3,h4⟩:=hok.obj id _ hs
   obtain⟨k1,k2⟩:=yu hc1 hx
   have hl1:=h3.length
   have hl2:=k1.length
   have hids:id<s.length:=(List.getElem?_eq_some_iff.1 hs).1
   have hvs:us.length≤vs.toList.length:=by rw[h2];simp
   have hown:=hok.own id hid
   let nv:List Value:=us.take off++xv.cells.toList++us.drop (off+xv.cells.toList.length)
   have hrow:=run_storeCells_at (P:=P) (C.ρ id) off T' xv.cells.toList 0 vs C.w h1 (by simp at hvs hl2 ⊢;omega) k2
   have hnv:(vs.toList.take (off+0)++xv.cells.toList++vs.toList.drop (off+0+xv.cells.toList.length))=nv++ws:=by
    simp only[nv,h2,Nat.add_zero]
    rw[List.take_append_of_le_length (by omega),List.drop_append_of_le_length (by omega)]
    simp
   rw[hnv] at hrow
   have hnd:¬ s[id]? = some (.cells []):=fun hb=>by
    rw[hs] at hb;simp at hb;subst hb
    have:x.cells.length≤0:=by
     have h9:off+x.cells.length≤0:=by simpa using hc3
     omega
    omega
   have hlim:C.lim (C.ρ id)=0:=hown.2.1.resolve_left hnd
   have hszr:vs.size≤(nv++ws).toArray.size:=by
    have e1:vs.size=(us++ws).length:=by rw[← h2];simp
    have e2:nv.length=us.length:=by simp[nv] at hvs ⊢;simp at hl2;omega
    rw[e1];simp[e2]
   have hle:=C.le_set hown.1 hlim (nv++ws).toArray h1 hszr
   refine⟨C.set (C.ρ id) (nv++ws).toArray,hle,hok.set hids hnd hlim _ h1 hszr _ ?_,rfl,?_⟩
   ·refine⟨(nv++ws).toArray,T',nv,ws,setRow_heap _ _ _ _ _ _ h1,by simp,?_,?_⟩
    ·exact XW _ _ _ _ _ (zi.mono hle _ _ h3) (zi.mono hle _ _ k1) hc3
    ·intro u hu
     simp only[nv,List.mem_append] at hu
     rcases hu with (hu | hu) | hu
     ·exact h4 u (List.mem_of_mem_take hu)
     ·exact k2 u hu
     ·exact h4 u (List.mem_of_mem_drop hu)
   ·have hsz:xv.cells.size=x.cells.length:=by simpa using hl2.symm
    simp[Instr.storeAt,Instr.sureAddr,storeVar,yc hc2,hsz]
    exact hrow
  ·cases h
 ·cases h
end Go.Hb
end
section
namespace Go.Hb
open Go Go.RowKit
def aNew (x:LV)(s:List AObj):Option (LV × List AObj):=if x.cellsOk=true then some (.ptr s.length 0,s++[.cells x.cells]) else none
theorem zaI {P:Program}{C:Ctx}{s s':List AObj}{x r:LV}{v:Value}(T:TypeId)(hok:Ok C s)(hx:RelV C x v)(h:aNew x s=some (r,s')) :
  Runs P C (do pure (.pointer (some (← newVar T v)))) r s' C.τ:=by
 unfold aNew at h
 split at h
 ·rename_i hc
  simp at h
  obtain⟨rfl,rfl⟩:=h
  obtain⟨k1,k2⟩:=yu hc hx
  have hle:=hok.le_push (.cells v.cells T)
  refine⟨C.push (.cells v.cells T),.pointer (some ⟨C.w.heap.size,0,none⟩),hle,hok.push _ _ ?_,rfl,?_,?_⟩
  ·exact⟨v.cells,T,v.cells.toList,[],yH _ _,by simp,zi.mono hle _ _ k1,k2⟩
  ·simp only[RelV]
   refine⟨by simp[Ctx.push,hok.n],?_⟩
   simp[Ctx.push,hok.n]
  ·simp[newVar,newRow,Ctx.push]
 ·cases h
def zcr (P:Program)(T:TypeId)(s:List AObj):Option (LV × List AObj):=(zT P T).bind fun z=>aNew z s
theorem zal {P:Program}{C:Ctx}{s s':List AObj}{r:LV}{T:TypeId}(hok:Ok C s)(h:zcr P T s=some (r,s')):Runs P C (Instr.alloc T true (.tuple #[])) r s' C.τ:=by
 unfold zcr at h
 simp only[Option.bind_eq_some_iff] at h
 obtain⟨z,hz,h⟩:=h
 obtain⟨v,hv,hx⟩:=wX hz C
 obtain⟨C',u,h1,h2,h3,h4,h5⟩:=zaI (P:=P) T hok hx h
 refine⟨C',u,h1,h2,h3,h4,?_⟩
 simp only[Sem.run_bind,Sem.run_pure] at h5
 simp[Instr.alloc,hv,h5]
theorem zdx {P:Program}{C:Ctx}{s s':List AObj}{x r:LV}{v:Value}{T:TypeId}(hok:Ok C s)(hx:RelV C x v)(h:aNew x s=some (r,s')):Runs P C (Instr.box T v) r s' C.τ:=by
 simpa[Instr.box] using zaI (P:=P) T hok hx h
def fldT (P:Program)(t:TypeId)(f:Nat):Option Field:=match P.underlying t with | some (.struct fs)=>fs[f]? | _=>none
def zcT (P:Program)(t:TypeId)(cs:List LV)(off:Nat):Option LV:=match aggT P t with
 | some true=>(szT P t).bind fun n=>if off+n≤cs.length then some (.agg ((cs.drop off).take n)) else none
 | some false=>cs[off]?
 | none=>none
theorem Qz {P:Program}{C:Ctx}{t:TypeId}{cs:List LV}{off:Nat}{x:LV}{vs:Array Value}(hr:zi C cs vs.toList)(h1:∀ u∈vs,u.oneCell'=true)(h:zcT P t cs off=some x) :
  ∃ v,(part t vs off).run P C.w = .ok v C.w∧RelV C x v:=by
 have hl:=hr.length
 unfold zcT at h
 split at h
 ·rename_i ha
  simp only[Option.bind_eq_some_iff] at h
  obtain⟨n,hn,h⟩:=h
  split at h
  ·rename_i hle
   simp at h;subst h
   refine⟨.agg (vs.extract off (off+n)),by simp[part,vr ha,yc hn],?_⟩
   simp only[RelV]
   refine⟨_,rfl,?_,fun u hu=>h1 u ?_⟩
   ·have:=(hr.drop off).take n
    simpa[List.extract] using this
   ·have h3:u∈(vs.extract off (off+n)).toList:=Array.mem_toList_iff.2 hu
    rw[Array.toList_extract] at h3
    have h2:=List.mem_of_mem_drop (List.mem_of_mem_take h3)
    exact Array.mem_toList_iff.1 h2
  ·cases h
 ·rename_i ha
  obtain⟨v,h2,h3⟩:=hr.get h
  have h2':vs[off]? = some v:=by simpa using h2
  exact⟨v,by simp[part,vr ha,h2'],h3⟩
 ·cases h
def zcC (P:Program)(t:TypeId)(x:LV)(f:Nat):Option LV:=match x,fldT P t f with
 | .agg cs,some fd=>zcT P fd.type cs fd.offset
 | _,_=>none
theorem zan {P:Program}{C:Ctx}{s:List AObj}{t:TypeId}{x y:LV}{v:Value}{f:Nat}(hok:Ok C s)(hx:RelV C x v)(h:zcC P t x f=some y):Runs P C (Instr.field t v f) y s C.τ:=by
 unfold zcC at h
 split at h
 ·rename_i cs fd hf
  simp only[RelV] at hx
  obtain⟨vs,rfl,h1,h2⟩:=hx
  obtain⟨u,h3,h4⟩:=Qz (P:=P) h1 h2 h
  refine Runs.quiet hok h4 ?_
  unfold fldT at hf
  split at hf
  ·rename_i fs hu
   simp[Instr.field,run_underlying hu,hf,asAgg,h3]
  ·cases hf
 ·cases h
def uL (P:Program)(t:TypeId)(x:LV)(f:Nat):Option LV:=match fldT P t f with
 | some fd=>match szT P fd.type with
  | some (_+1)=>match x with
   | .ptr id off=>some (.ptr id (off+fd.offset))
   | .eptr cs=>some (.eptr (cs.drop fd.offset))
   | _=>none
  | _=>none
 | none=>none
theorem KW {P:Program}{C:Ctx}{s:List AObj}{t:TypeId}{x y:LV}{v:Value}{f:Nat}(hok:Ok C s)(hx:RelV C x v)(h:uL P t x f=some y):Runs P C (Instr.fieldAt t v f) y s C.τ:=by
 unfold uL at h
 split at h
 ·rename_i fd hf
  split at h
  ·rename_i n hn
   unfold fldT at hf
   split at hf
   ·rename_i fs hu
    split at h
    ·rename_i id off
     simp at h;subst h
     simp only[RelV] at hx
     obtain⟨h1,rfl⟩:=hx
     refine Runs.quiet hok (u:=.pointer (some ⟨C.ρ id,off+fd.offset,none⟩)) (by simp[RelV,h1]) ?_
     simp[Instr.fieldAt,run_underlying hu,hf,Instr.sureAddr,fieldPlace,yc hn,ym]
    ·rename_i cs
     simp at h;subst h
     simp only[RelV] at hx
     obtain⟨b,o,rfl,h1⟩:=hx
     refine Runs.quiet hok (u:=.pointer (some ⟨b,o+fd.offset,none⟩)) ?_ ?_
     ·simp only[RelV];exact⟨b,_,rfl,h1.drop _⟩
     ·simp[Instr.fieldAt,run_underlying hu,hf,Instr.sureAddr,fieldPlace,yc hn,ym]
    ·cases h
   ·cases hf
  ·cases h
 ·cases h
def zt (P:Program)(t:TypeId)(x i:LV):Option LV:=match i with
 | .int _ i=>match P.underlying t with
  | some (.slice e)=>match szT P e with
   | some n=>match x with
    | .imm sz len cs _=>if sz=n∧0≤i∧i<(len:Int) then some (.eptr ((cs.drop (i.toNat*sz)).take sz)) else none
    | .ref sz id off len _=>if sz=n∧0≤i∧i<(len:Int) then some (.ptr id (off+i.toNat*sz)) else none
    | _=>none
   | none=>none
  | some (.array len e)=>match szT P e with
   | some n=>match x with
    | .ptr id off=>if 0≤i∧i<(len:Int) then some (.ptr id (off+i.toNat*n)) else none
    | .eptr cs=>if 0≤i∧i<(len:Int) then some (.eptr (cs.drop (i.toNat*n))) else none
    | _=>none
   | none=>none
  | _=>none
 | _=>none
theorem KR {P:Program}{C:Ctx}{s:List AObj}{t:TypeId}{x i y:LV}{v iv:Value}(hok:Ok C s)(hx:RelV C x v)(hi:RelV C i iv)(h:zt P t x i=some y):Runs P C (Instr.indexAt t v iv) y s C.τ:=by
 unfold zt at h
 split at h
 ·rename_i k i
  simp only[RelV] at hi;subst hi
  split at h
  ·rename_i e hu
   split at h
   ·rename_i n hn
    split at h
    ·rename_i sz len cs r
     split at h
     ·rename_i hc
      obtain⟨rfl,hc1,hc2⟩:=hc
      simp at h;subst h
      simp only[RelV] at hx
      obtain⟨A,cap,rfl,h1,h2,h3,h4,h5,h6,h7⟩:=hx
      cases A with
      | none=>have:=h4 rfl;omega
      | some a=>
       obtain⟨b,o,sp⟩:=a
       have:=h5 _ rfl (by omega);simp at this;subst this
       refine Runs.quiet hok (u:=.pointer (some ⟨b,o+i.toNat*sz,none⟩)) ?_ ?_
       ·simp only[RelV];exact⟨b,_,rfl,((h6 b o rfl).drop _).take _⟩
       ·simp[Instr.indexAt,run_underlying hu,asIntOf,hc1,hc2,yc hn,ym]
     ·cases h
    ·rename_i sz id off len full
     split at h
     ·rename_i hc
      obtain⟨rfl,hc1,hc2⟩:=hc
      simp at h;subst h
      simp only[RelV] at hx
      obtain⟨h0,cap,rfl,h1⟩:=hx
      refine Runs.quiet hok (u:=.pointer (some ⟨C.ρ id,off+i.toNat*sz,none⟩)) (by simp[RelV,h0]) ?_
      simp[Instr.indexAt,run_underlying hu,asIntOf,hc1,hc2,yc hn,ym]
     ·cases h
    ·cases h
   ·cases h
  ·rename_i len e hu
   split at h
   ·rename_i n hn
    split at h
    ·rename_i id off
     split at h
     ·rename_i hc
      obtain⟨hc1,hc2⟩:=hc
      simp at h;subst h
      simp only[RelV] at hx
      obtain⟨h0,rfl⟩:=hx
      refine Runs.quiet hok (u:=.pointer (some ⟨C.ρ id,off+i.toNat*n,none⟩)) (by simp[RelV,h0]) ?_
      simp[Instr.indexAt,run_underlying hu,asIntOf,hc1,hc2,yc hn,ym,Instr.sureAddr]
     ·cases h
    ·rename_i cs
     split at h
     ·rename_i hc
      obtain⟨hc1,hc2⟩:=hc
      simp at h;subst h
      simp only[RelV] at hx
      obtain⟨b,o,rfl,h1⟩:=hx
      refine Runs.quiet hok (u:=.pointer (some ⟨b,o+i.toNat*n,none⟩)) ?_ ?_
      ·simp only[RelV];exact⟨b,_,rfl,h1.drop _⟩
      ·simp[Instr.indexAt,run_underlying hu,asIntOf,hc1,hc2,yc hn,ym,Instr.sureAddr]
     ·cases h
    ·cases h
   ·cases h
  ·cases h
 ·cases h
def zci (P:Program)(t:TypeId)(x i:LV):Option LV:=match i with
 | .int _ i=>match P.underlying t with
  | some (.array len e)=>match szT P e,x with
   | some n,.agg cs=>if 0≤i∧i<(len:Int) then zcT P e cs (i.toNat*n) else none
   | _,_=>none
  | some .string=>match x with
   | .str s=>if 0≤i∧i<(s.size:Int) then some (.int .u8 ((s.data.getD i.toNat 0).toNat:Int)) else none
   | _=>none
  | _=>none
 | _=>none
theorem zab {P:Program}{C:Ctx}{s:List AObj}{t:TypeId}{x i y:LV}{v iv:Value}(hok:Ok C s)(hx:RelV C x v)(hi:RelV C i iv)(h:zci P t x i=some y):Runs P C (Instr.index t v iv) y s C.τ:=by
 unfold zci at h
 split at h
 ·rename_i k i
  simp only[RelV] at hi;subst hi
  split at h
  ·rename_i len e hu
   split at h
   ·rename_i n cs hn
    split at h
    ·rename_i hc
     obtain⟨hc1,hc2⟩:=hc
     simp only[RelV] at hx
     obtain⟨vs,rfl,h1,h2⟩:=hx
     obtain⟨u,h3,h4⟩:=Qz (P:=P) h1 h2 h
     refine Runs.quiet hok h4 ?_
     simp[Instr.index,run_underlying hu,asIntOf,hc1,hc2,yc hn,h3]
    ·cases h
   ·cases h
  ·rename_i hu
   split at h
   ·rename_i b
    split at h
    ·rename_i hc
     obtain⟨hc1,hc2⟩:=hc
     simp at h;subst h
     simp only[RelV] at hx;subst hx
     have hlt:i.toNat<b.size:=by omega
     have hg:b[i.toNat]? = some (b.data.getD i.toNat 0):=by
      have h2:i.toNat<b.data.size:=hlt
      rw[ByteArray.getElem?_lt' b _ hlt]
      unfold Array.getD
      rw[dif_pos h2];rfl
     refine Runs.quiet hok (u:=.int .u8 ((b.data.getD i.toNat 0).toNat:Int)) (by simp[RelV]) ?_
     simp[Instr.index,run_underlying hu,asIntOf,hc1,hg]
    ·cases h
   ·cases h
  ·cases h
 ·cases h
end Go.Hb
end
section
namespace Go.Hb
open Go Go.RowKit
def oInt:Option LV→Option (Option Int)
 | none=>some none
 | some (.int _ i)=>some (some i)
 | some _=>none
def zP (len:Nat)(lo hi mx:Option LV):Option (Nat × Nat × Option Nat):=
 match oInt lo,oInt hi,oInt mx with
 | some lo,some hi,some mx=>
  let l:=lo.getD 0
  let m:=mx.getD len
  let h:=hi.getD len
  if 0≤l∧l≤h∧h≤m∧m≤(len:Int)∧(mx.isSome=true→hi.isSome=true) then some (l.toNat,h.toNat,mx.map Int.toNat) else none
 | _,_,_=>none
theorem Xz {C:Ctx}{x:Option LV}{v:Option Value}{i:Option Int}(hr:match x,v with | none,none=>True | some x,some v=>RelV C x v | _,_=>False)(h:oInt x=some i) :
  (i=none∧v=none)∨∃ k n,i=some n∧v=some (.int k n):=by
 unfold oInt at h
 split at h
 ·simp at h;subst h;cases v<;>simp_all
 ·rename_i k n
  simp at h;subst h
  cases v with
  | none=>simp at hr
  | some v=>simp[RelV] at hr;subst hr;exact .inr ⟨k,n,rfl,rfl⟩
 ·cases h
abbrev zbc (C:Ctx)(x:Option LV)(v:Option Value):Prop:=match x,v with | none,none=>True | some x,some v=>RelV C x v | _,_=>False
theorem yn {P:Program}{k:IntKind}{i:Int}{y:Nat}{c:BoundsCode}{w:World}(h0:0≤i)(h1:i≤(y:Int)):(Instr.sliceBound (.int k i) y c).run P w = .ok i.toNat w:=by
 unfold Instr.sliceBound
 simp only[asIntOf,pure_bind]
 rw[if_pos ⟨h0,h1⟩];rfl
theorem wL {P:Program}{C:Ctx}{len cap:Nat}{isSlice:Bool}{lo hi mx:Option LV}{vlo vhi vmx:Option Value}{l h:Nat}{m:Option Nat}(hlc:len≤cap)
  (h1:zbc C lo vlo) (h2:zbc C hi vhi) (h3:zbc C mx vmx) (hb:zP len lo hi mx=some (l,h,m)) :
  l≤h∧h≤m.getD len∧m.getD len≤len∧(mx=none↔m=none)∧(hi=none→h=len)∧(Instr.sliceBounds isSlice len cap vlo vhi vmx).run P C.w = .ok (l,h,m.getD cap) C.w:=by
 unfold zP at hb
 split at hb
 ·rename_i lo' hi' mx' e1 e2 e3
  have r1:=Xz h1 e1
  have r2:=Xz h2 e2
  have r3:=Xz h3 e3
  have hmx:mx=none↔mx'=none:=by
   cases mx with
   | none=>simp only[oInt,Option.some.injEq] at e3;rw[← e3];simp
   | some x=>
    rcases r3 with ⟨rfl,rfl⟩ | ⟨k,n,rfl,rfl⟩
    ·exact h3.elim
    ·simp
  have hhi:hi=none→hi'=none:=by
   intro e;subst e;simp only[oInt,Option.some.injEq] at e2;exact e2.symm
  simp only at hb
  split at hb
  ·rename_i hc
   obtain⟨c1,c2,c3,c4,c5⟩:=hc
   simp only[Option.some.injEq,Prod.mk.injEq] at hb
   obtain⟨rfl,rfl,rfl⟩:=hb
   refine⟨by omega,?_,?_,?_,?_,?_⟩
   ·cases mx'<;>simp at c3 ⊢ <;>omega
   ·cases mx'<;>simp at c4 ⊢;omega
   ·rw[hmx];cases mx'<;>simp
   ·intro e;rw[hhi e];simp
   ·unfold Instr.sliceBounds
    rcases r3 with ⟨rfl,rfl⟩ | ⟨k3,n3,rfl,rfl⟩<;>rcases r2 with ⟨rfl,rfl⟩ | ⟨k2,n2,rfl,rfl⟩<;>rcases r1 with ⟨rfl,rfl⟩ | ⟨k1,n1,rfl,rfl⟩<;>
     simp only[Option.getD_none,Option.getD_some] at c1 c2 c3 c4<;>simp only[Option.isSome_none,Option.isSome_some] at c5
    ·simp
    ·simp only[pure_bind,Sem.run_bind];rw[yn c1 c2];simp
    ·simp only[pure_bind,Sem.run_bind];rw[yn c2 (by omega)];simp
    ·simp only[pure_bind,Sem.run_bind];rw[yn (by omega) (by omega)];simp only[Result.andThen_ok];rw[yn c1 (by omega)];simp
    ·simp at c5
    ·simp at c5
    ·simp only[pure_bind,Sem.run_bind];rw[yn (by omega) (by omega)];simp only[Result.andThen_ok];rw[yn (by omega) (by omega)];simp
    ·simp only[Sem.run_bind];rw[yn (by omega) (by omega)];simp only[Result.andThen_ok];rw[yn (by omega) (by omega)];simp only[Result.andThen_ok];rw[yn c1 (by omega)];simp
  ·cases hb
 ·cases hb
end Go.Hb
end
section
namespace Go.Hb
open Go Go.RowKit
def QQ (len l h:Nat)(m:Option Nat)(r:Right):Right:=match m with
 | some m=>if m=h then .full else .no
 | none=>if h=len then r else .no
def ya (P:Program)(t:TypeId)(x:LV)(lo hi mx:Option LV):Option LV:=match P.underlying t with
 | some (.slice e)=>match szT P e with
  | some n=>match x with
   | .imm sz len cs r=>if sz=n then (zP len lo hi mx).map fun (l,h,m)=>.imm sz (h-l) ((cs.drop (l*sz)).take ((h-l)*sz)) (QQ len l h m r) else none
   | .nils=>(zP 0 lo hi mx).map fun _=>.nils
   | .ref sz id off len full=>if sz=n then (zP len lo hi mx).bind fun (l,h,m)=>if l<m.getD len∨l=0 then some (.ref sz id (off+l*sz) (h-l) (match m with | some m=>decide (m=h) | none=>full && decide (h=len))) else none else none
   | _=>none
  | none=>none
 | some .string=>match x with
  | .str s=>match mx with
   | none=>(zP s.size lo hi none).map fun (l,h,_)=>.str (s.extract l h)
   | some _=>none
  | _=>none
 | _=>none
theorem zar {P:Program}{C:Ctx}{s:List AObj}{t:TypeId}{x y:LV}{v:Value}{lo hi mx:Option LV}{vlo vhi vmx:Option Value}(hok:Ok C s)(hx:RelV C x v)
  (h1:zbc C lo vlo) (h2:zbc C hi vhi) (h3:zbc C mx vmx) (h:ya P t x lo hi mx=some y):Runs P C (Instr.sliceAt t v vlo vhi vmx) y s C.τ:=by
 unfold ya at h
 split at h
 ·rename_i e hu
  split at h
  ·rename_i n hn
   have hst:∀ A len cap l hh m,(Instr.sliceBounds true len cap vlo vhi vmx).run P C.w = .ok (l,hh,m) C.w→(Instr.sliceAt t (.slice A len cap) vlo vhi vmx).run P C.w = .ok (.slice (if m=l then A else A.map (·.add (l*n))) (hh-l) (m-l)) C.w:=by
    intro A len cap l hh m hb
    simp[Instr.sliceAt,Instr.slice,run_underlying hu,hb,yc hn]
   split at h
   ·rename_i sz len cs r
    split at h
    ·rename_i hsz
     subst hsz
     simp only[Option.map_eq_some_iff] at h
     obtain⟨⟨l,hh,m⟩,hb,rfl⟩:=h
     simp only[RelV] at hx
     obtain⟨A,cap,rfl,k1,k2,k3,k4,k5,k6,k7⟩:=hx
     obtain⟨b1,b2,b3,b4,b5,b6⟩:=wL (P:=P) (isSlice:=true) k1 h1 h2 h3 hb
     have hm:hh≤m.getD cap:=by cases m<;>simp at b2 b3 ⊢ <;>omega
     have hm2:m.getD cap≤cap:=by cases m<;>simp at b2 b3 ⊢;omega
     have hlen:((cs.drop (l*sz)).take ((hh-l)*sz)).length=(hh-l)*sz:=by
      simp only[List.length_take,List.length_drop,k3]
      have e1:len*sz-l*sz=(len-l)*sz:=by rw[Nat.sub_mul]
      rw[e1]
      exact Nat.min_eq_left (Nat.mul_le_mul_right _ (by omega))
     refine Runs.quiet hok ?_ (hst A len cap l hh _ b6)
     simp only[RelV]
     refine⟨_,_,rfl,by omega,by omega,hlen,?_,?_,?_,?_⟩
     ·intro e
      have:A=none:=by split at e<;>simp_all
      have:=k4 this
      omega
     ·intro a ha hne
      split at ha
      ·exact k5 a ha (by omega)
      ·cases A with
       | none=>simp at ha
       | some a0=>
        obtain⟨b,o,sp⟩:=a0
        have:=k5 _ rfl (by omega);simp at this;subst this
        simp[ym] at ha;subst ha;rfl
     ·intro b o ha
      by_cases hml:m.getD cap=l∨hh-l=0
      ·have:hh-l=0:=by omega
       rw[this];simp[zZ]
      ·rw[if_neg (by omega)] at ha
       cases A with
       | none=>simp at ha
       | some a0=>
        obtain⟨b',o',sp⟩:=a0
        have:=k5 _ rfl (by omega);simp at this;subst this
        simp[ym] at ha
        obtain⟨rfl,rfl⟩:=ha
        exact((k6 b' o' rfl).drop _).take _
     ·unfold QQ
      cases m with
      | some m=>
       simp only[Option.getD_some]
       by_cases e:m=hh
       ·rw[if_pos e];subst e;simp[RelR]
       ·rw[if_neg e];trivial
      | none=>
       simp only[Option.getD_none] at hm hm2 b2 ⊢
       by_cases e:hh=len
       ·rw[if_pos e]
        subst e
        cases r with
        | no=>trivial
        | full=>simp only[RelR] at k7 ⊢;omega
        | tip g e=>
         obtain⟨e0,q1,q2,q3⟩:=k7
         refine⟨e0,q1,q2,fun he=>?_⟩
         rcases q3 he with hc | ⟨b,o,rfl,q4⟩
         ·left;omega
         by_cases hcl:cap=l
         ·left;omega
         ·right
          rw[q4,hlen]
          have hmul:(hh-l)*sz+l*sz=cs.length:=by rw[k3,← Nat.add_mul];congr 1;omega
          rw[if_neg hcl]
          refine⟨b,o+l*sz,by simp[ym],?_⟩
          simp only[Tip.mk.injEq,true_and,and_true]
          constructor<;>omega
       ·rw[if_neg e];trivial
    ·cases h
   ·simp only[Option.map_eq_some_iff] at h
    obtain⟨⟨l,hh,m⟩,hb,rfl⟩:=h
    simp only[RelV] at hx;subst hx
    obtain⟨b1,b2,b3,b4,b5,b6⟩:=wL (P:=P) (isSlice:=true) (Nat.le_refl 0) h1 h2 h3 hb
    refine Runs.quiet hok ?_ (hst none 0 0 l hh _ b6)
    have:m.getD 0=0:=by omega
    simp only[RelV]
    rw[this]
    have e1:l=0:=by omega
    have e2:hh=0:=by omega
    subst e1;subst e2;simp
   ·rename_i sz id off len full
    split at h
    ·rename_i hsz
     subst hsz
     simp only[Option.bind_eq_some_iff] at h
     obtain⟨⟨l,hh,m⟩,hb,h⟩:=h
     simp only at h
     split at h
     ·rename_i hl
      simp only[Option.some.injEq] at h;subst h
      simp only[RelV] at hx
      obtain⟨h0,cap,rfl,k1,k2,k3,k4⟩:=hx
      obtain⟨b1,b2,b3,b4,b5,b6⟩:=wL (P:=P) (isSlice:=true) k1 h1 h2 h3 hb
      have hm:hh≤m.getD cap:=by cases m<;>simp at b2 b3 ⊢ <;>omega
      have hm2:m.getD cap≤cap:=by cases m<;>simp at b2 b3 ⊢;omega
      refine Runs.quiet hok ?_ (hst _ len cap l hh _ b6)
      simp only[RelV]
      refine⟨h0,m.getD cap-l,?_,by omega,by omega,?_,?_⟩
      ·by_cases hml:m.getD cap=l
       ·rw[if_pos hml]
        have hl0:l=0:=by
         rcases hl with hl | hl
         ·cases m with
          | none=>simp at hml hl;omega
          | some m=>
           simp at hml hl;omega
         ·exact hl
        subst hl0;simp
       ·rw[if_neg hml];simp[ym]
      ·intro hf
       cases m with
       | none=>simp at hf ⊢;have:=k3 hf.1;omega
       | some m=>simp at hf ⊢;omega
      ·have e1:l+(m.getD cap-l)≤cap:=by omega
       have e2:=Nat.mul_le_mul_right sz e1
       rw[Nat.add_mul] at e2
       omega
     ·cases h
    ·cases h
   ·cases h
  ·cases h
 ·rename_i hu
  split at h
  ·rename_i b
   split at h
   ·simp only[Option.map_eq_some_iff] at h
    obtain⟨⟨l,hh,m⟩,hb,rfl⟩:=h
    simp only[RelV] at hx;subst hx
    obtain⟨b1,b2,b3,b4,b5,b6⟩:=wL (P:=P) (isSlice:=false) (Nat.le_refl b.size) h1 h2 h3 hb
    have hv:vmx=none:=by cases vmx with | none=>rfl | some _=>exact h3.elim
    subst hv
    refine Runs.quiet hok (u:=.string (b.extract l hh)) (by simp[RelV]) ?_
    simp[Instr.sliceAt,Instr.slice,run_underlying hu,b6]
   ·cases h
  ·cases h
 ·cases h
end Go.Hb
end
section
namespace Go.Hb
open Go Go.RowKit
def zbV (b:ByteArray):List LV:=b.data.toList.map fun c=>.int .u8 (c.toNat:Int)
def zQ (size:Nat)(x:LV)(s:List AObj):Option (List LV × Nat):=match x with
 | .nils=>some ([],0)
 | .emp sz=>if sz=size then some ([],0) else none
 | .imm sz len cs _=>if sz=size then some (cs,len) else none
 | .ref sz id off len _=>if sz=size then match s[id]? with
  | some (.cells cs)=>if off+len*sz≤cs.length then some ((cs.drop off).take (len*sz),len) else none
  | _=>none else none
 | .str b=>if size=1 then some (zbV b,b.size) else none
 | _=>none
theorem zaM (C:Ctx):∀ (l:List UInt8),zi C (l.map fun c=>LV.int .u8 (c.toNat:Int)) (l.map fun c=>Value.int .u8 (c.toNat:Int)):=by
 intro l
 induction l with
 | nil=>simp[zi]
 | cons a l ih=>exact⟨_,_,rfl,by simp[RelV],ih⟩
theorem xm {P:Program}{C:Ctx}{s:List AObj}{size n:Nat}{x:LV}{v:Value}{cs:List LV}(hok:Ok C s)(hx:RelV C x v)(h:zQ size x s=some (cs,n)) :
  ∃ us:List Value,zi C cs us∧(∀ u∈us,u.oneCell'=true)∧us.length=n*size∧∀ w':World,w'.heap=C.w.heap→(Builtin.lenOf v).run P w' = .ok n w'∧(Builtin.firstCells size n v).run P w' = .ok us.toArray w':=by
 cases x<;>simp only[zQ] at h<;>try (cases h;done)
 case nils=>
  simp at h;obtain⟨rfl,rfl⟩:=h
  simp only[RelV] at hx;subst hx
  exact⟨[],rfl,by simp,by simp,fun w' _=>⟨by simp[Builtin.lenOf],by simp[Builtin.firstCells]⟩⟩
 case emp sz=>
  split at h
  ·simp at h;obtain⟨rfl,rfl⟩:=h
   simp only[RelV] at hx;obtain⟨a,cap,rfl,_⟩:=hx
   exact⟨[],rfl,by simp,by simp,fun w' _=>⟨by simp[Builtin.lenOf],by simp[Builtin.firstCells,loadCells,loadCellsFrom]⟩⟩
  ·cases h
 case imm sz len cs' r=>
  split at h
  ·rename_i e
   simp at h;obtain⟨rfl,rfl⟩:=h
   subst e
   simp only[RelV] at hx
   obtain⟨A,cap,rfl,k1,k2,k3,k4,k5,k6,k7⟩:=hx
   cases A with
   | none=>
    have:=(k4 rfl).1
    subst this
    have:cs'=[]:=by apply List.eq_nil_of_length_eq_zero;simpa using k3
    subst this
    exact⟨[],rfl,by simp,by simp,fun w' _=>⟨by simp[Builtin.lenOf],by simp[Builtin.firstCells]⟩⟩
   | some a=>
    by_cases hlen0:len=0
    ·subst hlen0
     have:cs'=[]:=by apply List.eq_nil_of_length_eq_zero;simpa using k3
     subst this
     exact⟨[],rfl,by simp,by simp,fun w' _=>⟨by simp[Builtin.lenOf],by simp[Builtin.firstCells,loadCells,loadCellsFrom]⟩⟩
    obtain⟨b,o,sp⟩:=a
    have:=k5 _ rfl hlen0;simp at this;subst this
    obtain⟨us,q1,q2,q3⟩:=(k6 b o rfl).get
    have hl:=q1.length
    refine⟨us,q1,q2,by omega,fun w' hw=>⟨by simp[Builtin.lenOf],?_⟩⟩
    have:=run_loadCells_list (P:=P) w' ⟨b,o,none⟩ us (fun j v hv=>by
     rw[ym]
     have:=q3 j v hv
     simpa[World.cell?,hw] using this)
    simp only[Builtin.firstCells]
    rw[show len*sz=us.length from by omega]
    exact this
  ·cases h
 case ref sz id off len full=>
  split at h
  ·rename_i e
   subst e
   split at h
   ·rename_i cs' hs
    split at h
    ·rename_i hle
     simp at h;obtain⟨rfl,rfl⟩:=h
     simp only[RelV] at hx
     obtain⟨h0,cap,rfl,k1,k2,k3⟩:=hx
     obtain⟨vs,T',us,ws,h1,h2,h3,h4⟩:=hok.obj id _ hs
     have hl:=h3.length
     have hl2:((us.drop off).take (len*sz)).length=len*sz:=by simp;omega
     refine⟨(us.drop off).take (len*sz),(h3.drop off).take _,fun u hu=>h4 u (List.mem_of_mem_drop (List.mem_of_mem_take hu)),hl2,fun w' hw=>⟨by simp[Builtin.lenOf],?_⟩⟩
     have:=run_loadCells_list (P:=P) w' ⟨C.ρ id,off,none⟩ ((us.drop off).take (len*sz)) (fun j v hv=>by
      rw[ym]
      have hj:j<len*sz:=by
       rcases Nat.lt_or_ge j (len*sz) with h' | h'
       ·exact h'
       ·rw[List.getElem?_eq_none (by omega)] at hv;cases hv
      rw[List.getElem?_take_of_lt hj,List.getElem?_drop] at hv
      simp only[World.cell?,hw,h1]
      have:vs.toList[off+j]? = some v:=by rw[h2,List.getElem?_append_left (by omega)];exact hv
      simpa using this)
     rw[hl2] at this
     simp only[Builtin.firstCells]
     exact this
    ·cases h
   ·cases h
  ·cases h
 case str b=>
  split at h
  ·rename_i e
   subst e
   simp at h;obtain⟨rfl,rfl⟩:=h
   simp only[RelV] at hx;subst hx
   refine⟨b.data.toList.map (fun c:UInt8=>Value.int .u8 (c.toNat:Int)),zaM C b.data.toList,?_,?_,fun w' _=>⟨by simp[Builtin.lenOf],?_⟩⟩
   ·intro u hu;simp at hu;obtain⟨a,_,rfl⟩:=hu;rfl
   ·simp
   ·simp only[Builtin.firstCells,Sem.run_pure]
    have:(b.extract 0 b.size)=b:=by simp
    rw[this]
    congr 1
    apply Array.ext';simp
  ·cases h
theorem wn {P:Program}{w:World}(t t2 ty e:TypeId)(i:TypeInfo)(z:Value)(ht:P.underlying t=some (.slice e))(d2:TypeDesc)(ht2:P.underlying t2=some d2)(hd2:∀ k,d2≠.int k)
  (hi:P.info? e=some i) (hz:i.zero=some z) (A:Option Addr) (n cap:Nat) (olds news:Array Value) (m:Nat) (x:Value)
  (hold:∀ w':World,w'.heap=w.heap→(Builtin.firstCells i.size n (.slice A n cap)).run P w' = .ok olds w')
  (hnew:∀ w':World,w'.heap=w.heap→(Builtin.lenOf x).run P w' = .ok m w'∧(Builtin.firstCells i.size m x).run P w' = .ok news w')
  (hg:cap<n+m) (h63:n+m≤maxLen) (hb:(n+m)*i.bytes≤140737488355328) :
  (Builtin.append_ #[t,t2] ty #[.slice A n cap,x]).run P w =
   .ok (.slice (some ⟨w.heap.size,0,none⟩) (n+m) (grownCap w (n+m) cap e)) (w.drew.alloc (.cells (olds++news++Builtin.zeroCells z.cells (grownCap w (n+m) cap e-(n+m))) e)):=by
 have hn:¬ (n+m≤cap):=by omega
 have h63':¬ (9223372036854775807<((n:Int)+(m:Int))):=by simp only[maxLen] at h63;omega
 have h48':¬ (281474976710656<Builtin.nextslicecap (n+m) cap*i.bytes):=by have:=growslice_fits hg hb;omega
 have ho:=hold w.drew rfl
 have hn1:=hnew w rfl
 have hn2:=hnew w.drew rfl
 simp[Builtin.append_,run_underlying ht,run_underlying ht2,sizeOf,typeInfo,zeroValue,hi,hz,hn,h63',h48',Question.forced,ho,hn1.1,hn2.2,newRow,grownCap]
theorem xJ {P:Program}{w:World}(t t2 ty e:TypeId)(i:TypeInfo)(ht:P.underlying t=some (.slice e))(d2:TypeDesc)(ht2:P.underlying t2=some d2)(hd2:∀ k,d2≠.int k)
  (hi:P.info? e=some i) (A:Option Addr) (n cap:Nat) (news:Array Value) (m:Nat) (x:Value)
  (hnew:∀ w':World,w'.heap=w.heap→(Builtin.lenOf x).run P w' = .ok m w'∧(Builtin.firstCells i.size m x).run P w' = .ok news w')
  (hg:n+m≤cap) (w2:World) (hst:∀ a,A=some a→(storeCells (a.add (n*i.size)) news.toList).run P w = .ok () w2) (hno:A=none→w2=w) :
  (Builtin.append_ #[t,t2] ty #[.slice A n cap,x]).run P w = .ok (.slice A (n+m) cap) w2:=by
 have hn1:=hnew w rfl
 cases A with
 | none=>
  have:=hno rfl;subst this
  simp[Builtin.append_,run_underlying ht,run_underlying ht2,sizeOf,typeInfo,hi,hg,hn1.1,hn1.2]
 | some a=>
  have:=hst a rfl
  simp[Builtin.append_,run_underlying ht,run_underlying ht2,sizeOf,typeInfo,hi,hg,hn1.1,hn1.2,this]
end Go.Hb
end
section
namespace Go.Hb
open Go Go.RowKit
theorem zZ.app {C:Ctx}{b:Nat} : ∀ {xs ys:List LV} {o:Nat},zZ C b xs o→zZ C b ys (o+xs.length)→zZ C b (xs++ys) o:=by
 intro xs
 induction xs with
 | nil=>intro ys o _ h;simpa using h
 | cons x xs ih=>intro ys o h k;exact⟨h.1,ih h.2 (by simpa[Nat.add_assoc,Nat.add_comm 1] using k)⟩
def Ctx.tipNew (C:Ctx)(vs:Array Value)(T:TypeId)(L rem sz g:Nat)(τ':List Nat):Ctx:=
 {C with w:=C.w.drew.alloc (.cells vs T),lim:=fun b=>if b=C.w.heap.size then L else C.lim b,τ:=τ',θ:=fun g'=>if g'=g then ⟨C.w.heap.size,L,rem,sz⟩ else C.θ g' }
def uq (τ : List Nat)(g:Nat)(τ':List Nat):Prop:=(g=τ.length∧τ'=τ++[0])∨(∃ e,τ[g]? = some e∧τ'=τ.set g (e+1))
theorem uq.lt {τ τ':List Nat}{g:Nat}(h:uq τ g τ'){g':Nat}(hg:g'<τ'.length)(hne:g'≠g):g'<τ.length:=by
 rcases h with ⟨rfl,rfl⟩ | ⟨e,he,rfl⟩
 ·simp at hg;omega
 ·simpa using hg
theorem uq.old {τ τ':List Nat}{g:Nat}(h:uq τ g τ'){g' e:Nat}(he:τ[g']? = some e):∃ e',τ'[g']? = some e'∧e≤e'∧(e'=e→g'≠g):=by
 have hlt:=(List.getElem?_eq_some_iff.1 he).1
 rcases h with ⟨rfl,rfl⟩ | ⟨e0,he0,rfl⟩
 ·exact⟨e,by rw[List.getElem?_append_left hlt];exact he,Nat.le_refl _,fun _=>by omega⟩
 ·by_cases e1:g'=g
  ·subst e1
   rw[he] at he0;cases he0
   exact⟨e+1,by simp[hlt],by omega,fun h=>by omega⟩
  ·exact⟨e,by rw[List.getElem?_set_ne (by omega)];exact he,Nat.le_refl _,fun _=>e1⟩
theorem Ok.le_tipNew {C:Ctx}{s:List AObj}(h:Ok C s)(vs:Array Value)(T:TypeId)(L rem sz g:Nat){τ':List Nat}(ht:uq C.τ g τ'):C.le (C.tipNew vs T L rem sz g τ') where
 os:=rfl
 tape:=rfl
 output:=rfl
 size:=by simp[Ctx.tipNew]
 kept b hb:=hb
 keep b hb:=xb C.w.drew _ _ (h.kept b hb)
 lim b:=by
  simp only[Ctx.tipNew]
  by_cases e:b=C.w.heap.size
  ·have:=h.lim b (by omega);simp[e] at this ⊢;omega
  ·simp[e]
 cell b o' ho:=(World.cell?_alloc_lt C.w.drew _ _ (h.cell_lt ho)).trans rfl
 ρ i hi:=rfl
 n:=Nat.le_refl _
 τ g' e he:=by
  obtain⟨e',h1,h2,h3⟩:=ht.old he
  exact⟨e',h1,h2,fun e1=>by simp[Ctx.tipNew,h3 e1]⟩
 room b:=Jl C.w.drew _ b
theorem Ok.tipNew {C:Ctx}{s:List AObj}(h:Ok C s)(vs:Array Value)(T:TypeId)(L rem sz g:Nat){τ':List Nat}(ht:uq C.τ g τ')(hl:L+rem*sz≤vs.size):Ok (C.tipNew vs T L rem sz g τ') s where
 n:=h.n
 obj i a ha:=by
  have hin:i<C.n:=by rw[h.n];exact(List.getElem?_eq_some_iff.1 ha).1
  exact RelO.mono (h.le_tipNew vs T L rem sz g ht) (xb C.w.drew _ _ (h.own i hin).2.2) (h.obj i a ha)
 inj:=h.inj
 own i hi:=by
  obtain⟨a,b,c⟩:=h.own i hi
  refine⟨a,b.imp id fun b=>?_,by simp[Ctx.tipNew];omega⟩
  have:C.ρ i≠C.w.heap.size:=by omega
  simpa[Ctx.tipNew,this] using b
 tip g' hg:=by
  by_cases e:g'=g
  ·subst e
   simp only[Ctx.tipNew,if_true]
   refine⟨fun hk=>?_,Nat.le_refl _,vs,T,yH C.w.drew _,hl⟩
   have:=h.kept _ hk;omega
  ·have hg':=ht.lt hg e
   obtain⟨a,b,vs',T',c,d⟩:=h.tip g' hg'
   have hb:=h.tip_lt hg'
   have hne:(C.θ g').b≠C.w.heap.size:=by omega
   simp only[Ctx.tipNew,e,if_false]
   exact⟨a,by simpa[hne] using b,vs',T',(xb C.w.drew _ _ hb).trans c,d⟩
 tipinj g1 g2 h1 h2 e:=by
  by_cases e1:g1=g<;>by_cases e2:g2=g<;>simp only[Ctx.tipNew,e1,e2,if_true,if_false] at e
  ·omega
  ·have:=h.tip_lt (ht.lt h2 e2);omega
  ·have:=h.tip_lt (ht.lt h1 e1);omega
  ·exact h.tipinj g1 g2 (ht.lt h1 e1) (ht.lt h2 e2) e
 tipown g' i hg hi:=by
  by_cases e:g'=g
  ·subst e
   simp only[Ctx.tipNew,if_true]
   have:=(h.own i hi).2.2;omega
  ·simp only[Ctx.tipNew,e,if_false]
   exact h.tipown g' i (ht.lt hg e) hi
 kept b hb:=by have:=h.kept b hb;simp[Ctx.tipNew];omega
 lim b hb:=by
  simp only[Ctx.tipNew,World.size_alloc,World.size_drew] at hb ⊢
  rw[if_neg (by omega)]
  exact h.lim b (by omega)
def Ctx.tipGrow (C:Ctx)(vs:Array Value)(g e L rem:Nat):Ctx:=
 {C with w:=C.w.setRow (C.θ g).b vs,lim:=fun b=>if b=(C.θ g).b then L else C.lim b,τ:=C.τ.set g (e+1),θ:=fun g'=>if g'=g then ⟨(C.θ g).b,L,rem,(C.θ g).sz⟩ else C.θ g' }
theorem Ok.le_tipGrow {C:Ctx}{s:List AObj}(h:Ok C s){g e:Nat}(hg:C.τ[g]? = some e){old vs:Array Value}{T:TypeId}(hold:C.w.heap[(C.θ g).b]? = some (.cells old T (0,0)))
  (hsame:∀ o,o<(C.θ g).stop→vs[o]? = old[o]?) {L:Nat} (hL:(C.θ g).stop≤L) (rem:Nat) (hsz:old.size≤vs.size):C.le (C.tipGrow vs g e L rem) where
 os:=rfl
 tape:=rfl
 output:=rfl
 size:=by simp[Ctx.tipGrow]
 kept b hb:=hb
 keep b hb:=setRow_other _ _ _ _ (by intro e';subst e';exact(h.tip g (List.getElem?_eq_some_iff.1 hg).1).1 hb)
 lim b:=by
  simp only[Ctx.tipGrow]
  by_cases e:b=(C.θ g).b
  ·have:=(h.tip g (List.getElem?_eq_some_iff.1 hg).1).2.1;simp[e];omega
  ·simp[e]
 cell b o ho:=by
  by_cases e:b=(C.θ g).b
  ·subst e
   have:=(h.tip g (List.getElem?_eq_some_iff.1 hg).1).2.1
   have h1:(C.w.setRow (C.θ g).b vs).heap[(C.θ g).b]? = some (.cells vs T (0,0)):=setRow_heap _ _ _ _ _ _ hold
   show (C.w.setRow (C.θ g).b vs).cell? _=_
   simp[World.cell?,h1,hold,hsame o (by omega)]
  ·exact cell_setRow_other _ _ _ _ (by simpa using e)
 ρ i hi:=rfl
 n:=Nat.le_refl _
 τ g' e' he:=by
  obtain⟨e1,h1,h2,h3⟩:=(uq.old (.inr ⟨e,hg,rfl⟩) he:∃ e1,(C.τ.set g (e+1))[g']? = some e1∧e'≤e1∧(e1=e'→g'≠g))
  exact⟨e1,h1,h2,fun e2=>by simp[Ctx.tipGrow,h3 e2]⟩
 room b':=by
  by_cases e1:b'=(C.θ g).b
  ·subst e1
   have h1:(C.w.setRow (C.θ g).b vs).heap[(C.θ g).b]? = some (.cells vs T (0,0)):=setRow_heap _ _ _ _ _ _ hold
   simp only[Ctx.tipGrow,bs,hold,h1];exact hsz
  ·exact Nat.le_of_eq (Zd (setRow_other _ _ _ _ e1)).symm
theorem Ok.tipGrow {C:Ctx}{s:List AObj}(h:Ok C s){g e:Nat}(hg:C.τ[g]? = some e){old vs:Array Value}{T:TypeId}(hold:C.w.heap[(C.θ g).b]? = some (.cells old T (0,0)))
  (hsame:∀ o,o<(C.θ g).stop→vs[o]? = old[o]?) {L:Nat} (hL:(C.θ g).stop≤L) (rem:Nat) (hsz:old.size≤vs.size) (hl:L+rem*(C.θ g).sz≤vs.size):Ok (C.tipGrow vs g e L rem) s where
 n:=h.n
 obj i a ha:=by
  have hin:i<C.n:=by rw[h.n];exact(List.getElem?_eq_some_iff.1 ha).1
  exact RelO.mono (h.le_tipGrow hg hold hsame hL rem hsz) (setRow_other _ _ _ _ (h.tipown g i (List.getElem?_eq_some_iff.1 hg).1 hin)) (h.obj i a ha)
 inj:=h.inj
 own i hi:=by
  obtain⟨a,b,c⟩:=h.own i hi
  refine⟨a,b.imp id fun b=>?_,by simpa[Ctx.tipGrow] using c⟩
  have:C.ρ i≠(C.θ g).b:=h.tipown g i (List.getElem?_eq_some_iff.1 hg).1 hi
  simpa[Ctx.tipGrow,this] using b
 tip g' hg':=by
  have hg2:g'<C.τ.length:=by simpa[Ctx.tipGrow] using hg'
  obtain⟨a,b,vs',T',c,d⟩:=h.tip g' hg2
  by_cases e1:g'=g
  ·subst e1
   simp only[Ctx.tipGrow,if_true]
   exact⟨a,Nat.le_refl _,vs,T,setRow_heap _ _ _ _ _ _ hold,hl⟩
  ·have hne:(C.θ g').b≠(C.θ g).b:=fun e2=>e1 (h.tipinj g' g hg2 (List.getElem?_eq_some_iff.1 hg).1 e2)
   simp only[Ctx.tipGrow,e1,if_false]
   exact⟨a,by simpa[hne] using b,vs',T',(setRow_other _ _ _ _ hne).trans c,d⟩
 tipinj g1 g2 h1 h2 e':=by
  have h1':g1<C.τ.length:=by simpa[Ctx.tipGrow] using h1
  have h2':g2<C.τ.length:=by simpa[Ctx.tipGrow] using h2
  apply h.tipinj g1 g2 h1' h2'
  by_cases e1:g1=g<;>by_cases e2:g2=g<;>simp only[Ctx.tipGrow,e1,e2,if_true,if_false] at e'<;>simp_all
 tipown g' i hg' hi:=by
  have hg2:g'<C.τ.length:=by simpa[Ctx.tipGrow] using hg'
  have:=h.tipown g' i hg2 hi
  by_cases e1:g'=g
  ·subst e1;simpa[Ctx.tipGrow] using this
  ·simpa[Ctx.tipGrow,e1] using this
 kept b hb:=by have:=h.kept b hb;simpa[Ctx.tipGrow] using this
 lim b hb:=by
  have hlt:=h.tip_lt (List.getElem?_eq_some_iff.1 hg).1
  simp only[Ctx.tipGrow,setRow_size] at hb ⊢
  rw[if_neg (by omega)]
  exact h.lim b (by omega)
end Go.Hb
end
