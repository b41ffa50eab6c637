/-
  A layer for reasoning about the program's calls, and contracts of its functions. CONDITIONS: none; each theorem bears its own.
-/
import Derived.Test.YtieoaonaijbijaaGreatG06
import Derived.Test.YtieoaonaijbijaaGreatG05
set_option linter.unusedVariables false
set_option linter.unusedSimpArgs false
section
namespace Go.Hb
open Go
theorem Frzs.rel {id:Nat}{cs:List LV}{C:Ctx}{s:List AObj}(h:Ok C s)(hs:s[id]? = some (.cells cs))(hne:cs≠[]):∀ {xs ys:List LV} {vs:List Value},Frzs id cs xs ys→zi C xs vs→zi (C.freeze id cs.length) ys vs
 | [],[],vs,_,r=>by simpa[zi] using r
 | [],_ :: _,_,k,_=>k.elim
 | _ :: _,[],_,k,_=>k.elim
 | x :: xs,y :: ys,vs,k,r=>by
  simp only[zi] at r ⊢
  obtain⟨v,r',e1,e2,e3⟩:=r
  exact⟨v,r',e1,k.1 C s h hs hne v e2,Frzs.rel h hs hne k.2 e3⟩
theorem Frz.agg {id:Nat}{cs xs ys:List LV}(k:Frzs id cs xs ys):Frz id cs (.agg xs) (.agg ys):=fun C s h hs hne v r=>by
 simp only[RelV] at r ⊢
 obtain⟨vs,e1,e2,e3⟩:=r
 exact⟨vs,e1,Frzs.rel h hs hne k e2,e3⟩
theorem Frzs.refl (id:Nat)(cs:List LV):∀ xs,Frzs id cs xs xs
 | []=>trivial
 | x :: xs=>⟨Frz.refl id cs x,Frzs.refl id cs xs⟩
theorem zbl {P:Program}{f:FuncId}{args args':List LV}{s:List AObj}{v:List Nat}{K:LV→List AObj→List Nat→Prop}{id:Nat}{cs:List LV}(hs:s[id]? = some (.cells cs))(hne:cs≠[])(ha:Frzs id cs args args')
  (h:zp P f args' (s.set id (.cells [])) v K):zp P f args s v K:=by
 refine⟨?_,fun C vs h1 h2 h3=>?_⟩
 ·exact h.1
 ·have hle:=zck h1 hs hne
  have hid:=(List.getElem?_eq_some_iff.1 hs).1
  have hlim:C.lim (C.ρ id)=0:=(h1.own id (by rw[h1.n];exact hid)).2.1.resolve_left fun hb=>by
   rw[hs] at hb;simp at hb;exact hne hb
  refine(h.2 (C.freeze id cs.length) vs (h1.freeze hid hlim hs hne) h2 (Frzs.rel h1 hs hne ha h3)).mono ?_
  rintro e w' ⟨C',x,u,s',v',k1,k2,k3,k4⟩
  exact⟨C',x,u,s',v',k1,k2,hle.trans k3,k4⟩
section
variable {α : Type} [Enc α]
theorem GroE.appr {P:Program}{t t2:TypeId}{by_:Nat}(hok:xA P t t2 (Enc.sz α) by_=true)(hby:by_≤1000){v0 v:List Nat}{l:List α}{x:LV}(h:GroE v0 v l x)(l2:List α)(b:l.length+l2.length≤100000000) :
  ∃ x' v',GroE v0 v' (l++l2) x'∧Keep x v v'∧∀ s,zR P t t2 x (row l2) s v=some (x',v'):=by
 have hm:(l.length+l2.length)*by_≤100000000*1000:=Nat.mul_le_mul b hby
 obtain⟨x',v',h1,h2,h3⟩:=GroC.app (P:=P) (m:=l2.length) (ds:=zd l2) hok h (fun e=>by rw[List.length_eq_zero_iff.1 e];rfl) (by unfold maxLen;omega) (by omega)
 exact⟨x',v',by unfold GroE;rw[xI,List.length_append];exact h1,h2,fun s=>h3 _ s (by rw[wN,if_pos rfl])⟩
theorem GroE.slice {P:Program}{t:TypeId}(ht:yA P t=some (Enc.sz α)){v0 v:List Nat}{l:List α}{x:LV}(h:GroE v0 v l x){a:Int}(h0:0≤a)(h1:a≤l.length) :
  ∃ x',ya P t x (some (.int .i64 a)) none none=some x'∧GroE v0 v (l.drop a.toNat) x':=by
 obtain⟨e,hu,hs⟩:=yV ht
 rcases h.2 with ⟨e0,e1,hx⟩ | ⟨g,e2,hg,rfl,hv⟩
 ·have hl:l=[]:=List.length_eq_zero_iff.1 e0
  subst hl
  have ha:a=0:=by simp at h1;omega
  subst ha
  rcases hx with rfl | rfl
  ·exact⟨.nils,by unfold ya;simp[hu,hs,zP,oInt],h.1,.inl ⟨rfl,rfl,.inl rfl⟩⟩
  ·exact⟨.imm (Enc.sz α) 0 [] .full,by unfold ya;simp[hu,hs,zP,oInt,QQ],h.1,.inl ⟨rfl,rfl,.inr rfl⟩⟩
 ·refine⟨.imm (Enc.sz α) (l.drop a.toNat).length (zd (l.drop a.toNat)) (.tip g e2),?_,h.1,.inr ⟨g,e2,hg,rfl,hv⟩⟩
  have hb:zP l.length (some (.int .i64 a)) none none=some (a.toNat,l.length,none):=by simp[zP,oInt,h0,h1]
  unfold ya
  simp only[hu,hs,if_true]
  rw[hb]
  simp only[Option.map_some,wO,wi,QQ,if_true]
  have e1:(zd (l.drop a.toNat)).take ((l.length-a.toNat)*Enc.sz α)=zd (l.drop a.toNat):=by
   rw[List.take_of_length_le];rw[zY,List.length_drop];exact Nat.le_refl _
  rw[← wi]
  simp only[e1,List.length_drop]
def zis (P:Program)(f:FuncId)(args:List LV)(l:List α):Prop:=∀ s v,zp P f args s v fun x s' v'=>s=s'∧GroE v v' l x
theorem zly {P:Program}{f:FuncId}{args:List LV}{s:List AObj}{v:List Nat}{K:LV→List AObj→List Nat→Prop}{l:List α}(h:zis P f args l)(k:∀ x v',(x.cells=[x]∧x.cellsOk=true)→GroE v v' l x→K x s v'):zp P f args s v K:=
 zj (h s v) fun x s' v' ⟨e1,e2⟩=>by subst e1;exact k x v' e2.gro.cells e2
end
def ZD:LV→Option Nat
 | .imm _ _ _ (.tip g _)=>some g
 | _=>none
structure ListsG (v0 v:List Nat)(L:List (List Int))(xs:List LV):Prop where
 len:xs.length=L.length
 at_:∀ i,i<L.length→∃ x,xs[i]? = some x∧GroE v0 v (nth L i) x
 pre:v0 <+: v
 dis:∀ (i j:Nat) (x y:LV) (g:Nat),i≠j→xs[i]? = some x→xs[j]? = some y→ZD x=some g→ZD y≠some g
theorem ListsG.nil (v:List Nat):ListsG v v [] []:=⟨rfl,by simp,List.prefix_refl _,by simp⟩
theorem tip_lt {α : Type}[Enc α]{v0 v:List Nat}{l:List α}{x:LV}{g:Nat}(h:GroE v0 v l x)(ht:ZD x=some g):v0.length≤g∧g<v.length:=by
 rcases h.2 with ⟨_,_,rfl | rfl⟩ | ⟨g',e,h1,rfl,h3⟩
 ·cases ht
 ·cases ht
 ·simp only[ZD,Option.some.injEq] at ht;subst ht
  exact⟨h1,(List.getElem?_eq_some_iff.1 h3).1⟩
theorem ListsG.snoc {v0 v v':List Nat}{L:List (List Int)}{xs:List LV}{l:List Int}{x:LV}(h:ListsG v0 v L xs)(hx:GroE v v' l x):ListsG v0 v' (L++[l]) (xs++[x]):=by
 refine⟨by simp[h.len],fun i hi=>?_,h.pre.trans hx.1,fun i j a b g hij ha hb ht=>?_⟩
 ·by_cases e:i<L.length
  ·obtain⟨y,h1,h2⟩:=h.at_ i e
   refine⟨y,by rw[List.getElem?_append_left (by rw[h.len];exact e)];exact h1,?_⟩
   rw[show nth (L++[l]) i=nth L i by simp[nth,List.getD,List.getElem?_append_left e]]
   exact GroC.mono h2 hx.1
  ·have:i=L.length:=by simp at hi;omega
   subst this
   refine⟨x,by rw[← h.len];simp,?_⟩
   rw[show nth (L++[l]) L.length=l by simp[nth,List.getD]]
   exact GroC.back hx h.pre
 ·have key:∀ {k:Nat} {y:LV} {g:Nat},xs[k]? = some y→ZD y=some g→g<v.length:=fun {k y g} hk ht=>by
   have hk':=(List.getElem?_eq_some_iff.1 hk).1
   obtain⟨y',e1,e2⟩:=h.at_ k (by rw[← h.len];exact hk')
   rw[hk] at e1;cases e1
   exact(tip_lt e2 ht).2
  have hlx:∀ {k:Nat} {y:LV},(xs++[x])[k]? = some y→(k<xs.length∧xs[k]? = some y)∨(k=xs.length∧y=x):=fun {k y} hk=>by
   by_cases e:k<xs.length
   ·rw[List.getElem?_append_left e] at hk;exact .inl ⟨e,hk⟩
   ·rw[List.getElem?_append_right (by omega)] at hk
    have hk2:=(List.getElem?_eq_some_iff.1 hk).1
    simp at hk2
    have:k=xs.length:=by omega
    subst this
    simp at hk
    exact .inr ⟨rfl,hk.symm⟩
  rcases hlx ha with ⟨e1,ha'⟩ | ⟨e1,ea⟩<;>rcases hlx hb with ⟨e2,hb'⟩ | ⟨e2,eb⟩
  ·exact h.dis i j a b g hij ha' hb' ht
  ·intro hc
   rw[eb] at hc
   have:=key ha' ht
   have:=(tip_lt hx hc).1
   omega
  ·intro hc
   rw[ea] at ht
   have:=key hb' hc
   have:=(tip_lt hx ht).1
   omega
  ·omega
theorem ListsG.mono {v0 v v':List Nat}{L:List (List Int)}{xs:List LV}(h:ListsG v0 v L xs)(hv:v <+: v'):ListsG v0 v' L xs:=
 ⟨h.len,fun i hi=>by obtain⟨x,h1,h2⟩:=h.at_ i hi;exact⟨x,h1,GroC.mono h2 hv⟩,h.pre.trans hv,h.dis⟩
theorem ListsG.back {v00 v0 v:List Nat}{L:List (List Int)}{xs:List LV}(h:ListsG v0 v L xs)(hv:v00 <+: v0):ListsG v00 v L xs:=
 ⟨h.len,fun i hi=>by obtain⟨x,h1,h2⟩:=h.at_ i hi;exact⟨x,h1,GroC.back h2 hv⟩,hv.trans h.pre,h.dis⟩
def yB (L:List (List Int))(xs:List LV):Prop:=xs.length=L.length∧∀ i,i<L.length→∃ x,xs[i]? = some x∧Weak x (row (nth L i))∧x.under 0=true
theorem ListsG.weak {v0 v:List Nat}{L:List (List Int)}{xs:List LV}(h:ListsG v0 v L xs):yB L xs:=
 ⟨h.len,fun i hi=>by obtain⟨x,h1,h2⟩:=h.at_ i hi;exact⟨x,h1,h2.gro.weak,h2.gro.under 0⟩⟩
theorem yB.put {L:List (List Int)}{xs:List LV}{k:Nat}{l:List Int}{x:LV}(h:yB L xs)(hw:Weak x (row l))(hu:x.under 0=true):yB (L.set k l) (xs.set k x):=by
 refine⟨by simp[h.1],fun i hi=>?_⟩
 simp at hi
 by_cases e:k=i
 ·subst e
  refine⟨x,by rw[List.getElem?_set_self (by rw[h.1];exact hi)],by rw[wC hi];exact hw,hu⟩
 ·obtain⟨y,h1,h2⟩:=h.2 i hi
  exact⟨y,by rw[List.getElem?_set_ne e];exact h1,by rw[uS e];exact h2⟩
theorem yB.deep {S:List AObj}{n:Nat} : ∀ {L:List (List Int)} {xs:List LV},yB L xs→DeepVs S n xs (zd L)
 | [],[],_=>.nil
 | [],_ :: _,h=>by simp[yB] at h
 | _ :: _,[],h=>by simp[yB] at h
 | l :: L,x :: xs,h=>by
  obtain⟨x',h1,h2,h3⟩:=h.2 0 (by simp)
  simp at h1;subst h1
  rw[zy]
  refine .cons _ _ _ _ (.weak _ _ _ (.keep x (LV.under_mono x h3)) h2) (yB.deep ⟨by simpa using h.1,fun i hi=>?_⟩)
  obtain⟨y,q1,q2⟩:=h.2 (i+1) (by simpa using hi)
  exact⟨y,by simpa using q1,q2⟩
def zeP (sz n:Nat)(Q:List LV→List Nat→Prop)(s:List AObj)(x:LV)(s':List AObj)(v':List Nat):Prop:=
 ∃ J d cs,s++J=s'∧RowR s' sz n cs x (s.length+d)∧d≤J.length∧(n≠0→d<J.length)∧Q cs v'
theorem xg {P:Program}{f:FuncId}{args:List LV}{s:List AObj}{v:List Nat}{sz n:Nat}{Q:List LV→List Nat→Prop}{K:LV→List AObj→List Nat→Prop}(h:zp P f args s v (zeP sz n Q s))
  (k:∀ x J d cs v',(x.cells=[x]∧x.cellsOk=true)→RowR (s++J) sz n cs x (s.length+d)→d≤J.length→(n≠0→d<J.length)→Q cs v'→K x (s++J) v'):zp P f args s v K:=by
 refine zj h ?_
 rintro x s' v' ⟨J,d,cs,rfl,h1,h2,h3,h4⟩
 exact k x J d cs v' h1.cells h1 h2 h3 h4
theorem wy {S0 S1 J B:List AObj}{sz n d:Nat}{cs:List LV}{x:LV}(h:RowR (S0++J) sz n cs x (S0.length+d))(hd:n≠0→d<J.length)(hl:S1.length=S0.length):RowR (S1++(J++B)) sz n cs x (S0.length+d):=
 h.keep fun h0=>by
  rw[zL,← hl,zL,List.getElem?_append_left (hd h0)]
theorem zdA {P:Program}{t t2:TypeId}{by_:Nat}(hok:xA P t t2 1 by_=true)(hby:by_≤1000){s J:List AObj}{k d:Nat}{xs:List LV}{x:LV}(hr:RowR (s++J) 1 k xs x (s.length+d))(y:LV)(b:k+1≤100000000) :
  ∃ J2,(∀ r,zk P t t2 x (.imm 1 1 [y] r) (s++J)=some (.ref 1 (s.length+J.length) 0 (k+1) false,s++J2))∧RowR (s++J2) 1 (k+1) (xs++[y]) (.ref 1 (s.length+J.length) 0 (k+1) false) (s.length+J.length)∧J.length<J2.length:=by
 have ha:=uF (P:=P) (t:=t) (t2:=t2) (by_:=by_) (ds:=[y]) hok (by omega) hby hr rfl b
 have e:(if k=0 then s++J else (s++J).set (s.length+d) (.cells []))++[AObj.cells (xs++[y])]=s++((if k=0 then J else J.set d (.cells []))++[AObj.cells (xs++[y])]):=by
  split
  ·simp
  ·rw[vU];simp
 have hl:(if k=0 then J else J.set d (.cells [])).length=J.length:=by split<;>simp
 have hxl:xs.length=k:=by
  rcases hr with ⟨h1,h2,_⟩ | ⟨_,_,_,_,h⟩
  ·rw[h1,h2];rfl
  ·omega
 refine⟨(if k=0 then J else J.set d (.cells []))++[AObj.cells (xs++[y])],fun r=>?_,.inr ⟨by omega,by simp,rfl,?_,by simp[hxl]⟩,?_⟩
 ·rw[ha r,e,List.length_append]
 ·rw[zL,List.getElem?_append_right (by omega),hl];simp
 ·rw[List.length_append,hl];simp
structure OwnO (S:List AObj)(b:Nat)(v0 v:List Nat)(c:Cor)(y xO xC xL xW xD:LV)(cL cW cD:List LV)(iO iC iL iW iD:Nat):Prop where
 eq:y = .agg [.int .i64 c.now,row c.threads,xO,xC,row c.bufs,xL,xW,xD,row c.sendq,row c.recvq]
 owners:RowR S 1 c.owners.length (zd c.owners) xO iO
 counts:RowR S 1 c.counts.length (zd c.counts) xC iC
 lockq:RowR S 1 c.lockq.length cL xL iL
 waitq:RowR S 1 c.waitq.length cW xW iW
 downq:RowR S 1 c.downq.length cD xD iD
 gL:ListsG v0 v c.lockq cL
 gW:ListsG v0 v c.waitq cW
 gD:ListsG v0 v c.downq cD
 bO:b≤iO∧(c.owners.length≠0→iO<iC∧iO<iL∧iO<iW∧iO<iD)
 bC:b≤iC∧(c.counts.length≠0→iC<iL∧iC<iW∧iC<iD)
 bL:b≤iL∧(c.lockq.length≠0→iL<iW∧iL<iD)
 bW:b≤iW∧(c.waitq.length≠0→iW<iD)
 bD:b≤iD
def OwnR (c:Cor)(s:List AObj)(v:List Nat)(y:LV)(s':List AObj)(v':List Nat):Prop:=
 ∃ J xO xC xL xW xD cL cW cD dO dC dL dW dD,s++J=s'∧OwnO s' s.length v v' c y xO xC xL xW xD cL cW cD (s.length+dO) (s.length+dC) (s.length+dL) (s.length+dW) (s.length+dD)
theorem RowR.eq {S S':List AObj}{sz n id id':Nat}{cs:List LV}{x:LV}(h:RowR S sz n cs x id)(e1:S=S')(e2:id=id'):RowR S' sz n cs x id':=by subst e1;subst e2;exact h
def ZF (L:List (List Int)):Prop:=L.length≤1000∧∀ l∈L,l.length≤1000
structure CorB (c:Cor):Prop where
 threads:c.threads.length≤1000
 owners:c.owners.length≤1000
 counts:c.counts.length≤1000
 bufs:ZF c.bufs
 lockq:ZF c.lockq
 waitq:ZF c.waitq
 downq:ZF c.downq
 sendq:ZF c.sendq
 recvq:ZF c.recvq
theorem ZF.big {L:List (List Int)}(h:ZF L):L.length≤10000000∧∀ l∈L,l.length≤10000000:=⟨by have:=h.1;omega,fun l hl=>by have:=h.2 l hl;omega⟩
theorem zfD {S:List AObj}{b:Nat}{now:Int}{thr:List Thr}{O C:List Int}{B L W D SQ RQ:List (List Int)}{xO xC xL xW xD:LV}{cL cW cD:List LV}{iO iC iL iW iD:Nat}
  (hO:RowR S 1 O.length (zd O) xO iO) (hC:RowR S 1 C.length (zd C) xC iC) (hL:RowR S 1 L.length cL xL iL) (hW:RowR S 1 W.length cW xW iW) (hD:RowR S 1 D.length cD xD iD) (gL:yB L cL) (gW:yB W cW) (gD:yB D cD)
  (bO:b≤iO) (bC:b≤iC) (bL:b≤iL) (bW:b≤iW) (bD:b≤iD):DeepV S b (.agg [.int .i64 now,row thr,xO,xC,row B,xL,xW,xD,row SQ,row RQ]) (.agg (Cor.lv ⟨now,thr,O,C,B,L,W,D,SQ,RQ⟩)):=
 .agg _ _ (.cons _ _ _ _ (.keep _ rfl) (.cons _ _ _ _ (.keep _ (by simp)) (.cons _ _ _ _ (RowR.deep0 (α:=Int) hO bO) (.cons _ _ _ _ (RowR.deep0 (α:=Int) hC bC) (.cons _ _ _ _ (.keep _ (by simp))
  (.cons _ _ _ _ (RowR.deep (α:=List Int) hL bL gL.deep) (.cons _ _ _ _ (RowR.deep (α:=List Int) hW bW gW.deep) (.cons _ _ _ _ (RowR.deep (α:=List Int) hD bD gD.deep) (.cons _ _ _ _ (.keep _ (by simp)) (.cons _ _ _ _ (.keep _ (by simp)) .nil))))))))))
theorem Jz {P:Program}{c:Cor}{f:FuncId}{args:List LV}{s:List AObj}{v:List Nat}{K:LV→List AObj→List Nat→Prop}(h:zp P f args s v (OwnR c s v))
  (k:∀ v' J xO xC xL xW xD cL cW cD dO dC dL dW dD,(xO.cells=[xO]∧xO.cellsOk=true)→(xC.cells=[xC]∧xC.cellsOk=true)→(xL.cells=[xL]∧xL.cellsOk=true)→(xW.cells=[xW]∧xW.cellsOk=true)→(xD.cells=[xD]∧xD.cellsOk=true)→
   OwnO (s++J) s.length v v' c (.agg [.int .i64 c.now,row c.threads,xO,xC,row c.bufs,xL,xW,xD,row c.sendq,row c.recvq]) xO xC xL xW xD cL cW cD (s.length+dO) (s.length+dC) (s.length+dL) (s.length+dW) (s.length+dD)→
   K (.agg [.int .i64 c.now,row c.threads,xO,xC,row c.bufs,xL,xW,xD,row c.sendq,row c.recvq]) (s++J) v'):zp P f args s v K:=by
 refine zj h ?_
 rintro y s' v' ⟨J,xO,xC,xL,xW,xD,cL,cW,cD,dO,dC,dL,dW,dD,rfl,h⟩
 obtain⟨rfl,h2⟩:y=_∧_:=⟨h.eq,h⟩
 exact k v' J xO xC xL xW xD cL cW cD dO dC dL dW dD h2.owners.cells h2.counts.cells h2.lockq.cells h2.waitq.cells h2.downq.cells h2
theorem OwnO.lay {s J:List AObj}{a b:AObj}{v v':List Nat}{c:Cor}{y xO xC xL xW xD:LV}{cL cW cD:List LV}{dO dC dL dW dD:Nat}
  (h:OwnO ((s++[a,b])++J) (s++[a,b]).length v v' c y xO xC xL xW xD cL cW cD ((s++[a,b]).length+dO) ((s++[a,b]).length+dC) ((s++[a,b]).length+dL) ((s++[a,b]).length+dW) ((s++[a,b]).length+dD)) :
  OwnO (s++(a :: b :: J)) (s.length+2) v v' c y xO xC xL xW xD cL cW cD (s.length+(dO+2)) (s.length+(dC+2)) (s.length+(dL+2)) (s.length+(dW+2)) (s.length+(dD+2)):=by
 have e1:(s++[a,b])++J=s++(a :: b :: J):=by simp
 have e2:(s++[a,b]).length=s.length+2:=by simp
 have e3:∀ d,s.length+2+d=s.length+(d+2):=fun d=>by omega
 rw[e1,e2,e3,e3,e3,e3,e3] at h
 exact h
theorem RowR.obj {s J:List AObj}{a b:AObj}{sz n d:Nat}{cs:List LV}{x:LV}(h:RowR (s++(a :: b :: J)) sz n cs x (s.length+(d+2)))(h0:n≠0):x = .ref sz (s.length+(d+2)) 0 n false∧J[d]? = some (.cells cs)∧cs.length=n*sz∧cs≠[]:=by
 rcases h with h | ⟨_,h2,h3,h4,h5⟩
 ·exact absurd h.1 h0
 ·exact⟨h3,by rw[ze] at h4;exact h4,h5,h2⟩
theorem RowR.other {s J:List AObj}{a b a' b' o:AObj}{sz n d e:Nat}{cs:List LV}{x:LV}(h:RowR (s++(a :: b :: J)) sz n cs x (s.length+(d+2)))(hne:n≠0→e≠d):RowR (s++(a' :: b' :: J.set e o)) sz n cs x (s.length+(d+2)):=
 h.keep fun h0=>by rw[ze,ze,List.getElem?_set_ne (hne h0)]
theorem RowR.own {s J:List AObj}{a' b':AObj}{sz n d:Nat}{cs:List LV}(hn:n≠0)(hd:d<J.length)(hl:cs.length=n*sz)(hne:cs≠[]):RowR (s++(a' :: b' :: J.set d (.cells cs))) sz n cs (.ref sz (s.length+(d+2)) 0 n false) (s.length+(d+2)):=
 .inr ⟨hn,hne,rfl,by rw[ze,List.getElem?_set_self hd],hl⟩
theorem vx {l:List Int}{i:Nat}(h:i<l.length):(zd l)[i]? = some (.int .i64 (nth l i)):=by
 have h1:=Kj h
 simp only[zcv,Nat.mul_one,yG] at h1
 have h2:(((zd l).drop i).take 1)[0]? = some (.int .i64 (nth l i)):=by rw[h1];rfl
 rwa [List.getElem?_take_of_lt (by omega),List.getElem?_drop] at h2
structure OwnW (s J:List AObj)(a b:AObj)(c:Cor)(xO xC xL xW xD:LV)(cL cW cD:List LV)(dO dC dL dW dD:Nat):Prop where
 owners:RowR (s++(a :: b :: J)) 1 c.owners.length (zd c.owners) xO (s.length+(dO+2))
 counts:RowR (s++(a :: b :: J)) 1 c.counts.length (zd c.counts) xC (s.length+(dC+2))
 lockq:RowR (s++(a :: b :: J)) 1 c.lockq.length cL xL (s.length+(dL+2))
 waitq:RowR (s++(a :: b :: J)) 1 c.waitq.length cW xW (s.length+(dW+2))
 downq:RowR (s++(a :: b :: J)) 1 c.downq.length cD xD (s.length+(dD+2))
 gL:yB c.lockq cL
 gW:yB c.waitq cW
 gD:yB c.downq cD
 bO:c.owners.length≠0→dO<dC∧dO<dL∧dO<dW∧dO<dD
 bC:c.counts.length≠0→dC<dL∧dC<dW∧dC<dD
 bL:c.lockq.length≠0→dL<dW∧dL<dD
 bW:c.waitq.length≠0→dW<dD
theorem OwnO.w {s J:List AObj}{a b:AObj}{v v':List Nat}{c:Cor}{y xO xC xL xW xD:LV}{cL cW cD:List LV}{dO dC dL dW dD:Nat}
  (h:OwnO (s++(a :: b :: J)) (s.length+2) v v' c y xO xC xL xW xD cL cW cD (s.length+(dO+2)) (s.length+(dC+2)) (s.length+(dL+2)) (s.length+(dW+2)) (s.length+(dD+2))):OwnW s J a b c xO xC xL xW xD cL cW cD dO dC dL dW dD:=
 ⟨h.owners,h.counts,h.lockq,h.waitq,h.downq,h.gL.weak,h.gW.weak,h.gD.weak,fun h0=>by have:=h.bO.2 h0;omega,fun h0=>by have:=h.bC.2 h0;omega,fun h0=>by have:=h.bL.2 h0;omega,fun h0=>by have:=h.bW.2 h0;omega⟩
section
variable {s J:List AObj} {a b:AObj} {c:Cor} {xO xC xL xW xD:LV} {cL cW cD:List LV} {dO dC dL dW dD:Nat}
theorem OwnW.box (h:OwnW s J a b c xO xC xL xW xD cL cW cD dO dC dL dW dD)(a' b':AObj):OwnW s J a' b' c xO xC xL xW xD cL cW cD dO dC dL dW dD:=by
 have key:∀ {sz n d:Nat} {cs:List LV} {x:LV},RowR (s++(a :: b :: J)) sz n cs x (s.length+(d+2))→RowR (s++(a' :: b' :: J)) sz n cs x (s.length+(d+2)):=fun h=>h.keep fun _=>by rw[ze,ze]
 exact⟨key h.owners,key h.counts,key h.lockq,key h.waitq,key h.downq,h.gL,h.gW,h.gD,h.bO,h.bC,h.bL,h.bW⟩
theorem OwnW.more (h:OwnW s J a b c xO xC xL xW xD cL cW cD dO dC dL dW dD)(B:List AObj):OwnW s (J++B) a b c xO xC xL xW xD cL cW cD dO dC dL dW dD:=by
 have key:∀ {sz n d:Nat} {cs:List LV} {x:LV},RowR (s++(a :: b :: J)) sz n cs x (s.length+(d+2))→RowR (s++(a :: b :: (J++B))) sz n cs x (s.length+(d+2)):=fun h=>h.keep fun h0=>by
  have:=h.lt h0
  simp at this
  rw[ze,ze,List.getElem?_append_left (by omega)]
 exact⟨key h.owners,key h.counts,key h.lockq,key h.waitq,key h.downq,h.gL,h.gW,h.gD,h.bO,h.bC,h.bL,h.bW⟩
theorem OwnW.deep (h:OwnW s J a b c xO xC xL xW xD cL cW cD dO dC dL dW dD):DeepV (s++(a :: b :: J)) s.length (.agg [.int .i64 c.now,row c.threads,xO,xC,row c.bufs,xL,xW,xD,row c.sendq,row c.recvq]) (.agg c.lv):=
 zfD h.owners h.counts h.lockq h.waitq h.downq h.gL h.gW h.gD (by omega) (by omega) (by omega) (by omega) (by omega)
theorem OwnW.setO (h:OwnW s J a b c xO xC xL xW xD cL cW cD dO dC dL dW dD)(h0:c.owners.length≠0){l:List Int}(hl:l.length=c.owners.length):OwnW s (J.set dO (.cells (zd l))) a b {c with owners:=l } xO xC xL xW xD cL cW cD dO dC dL dW dD:=by
 have hq:=h.owners.lt h0
 simp at hq
 obtain⟨e1,e2,e3,e4⟩:=h.owners.obj h0
 have bO:=h.bO;have bC:=h.bC;have bL:=h.bL;have bW:=h.bW
 refine⟨?_,?_,?_,?_,?_,h.gL,h.gW,h.gD,fun _=>h.bO h0,h.bC,h.bL,h.bW⟩
 ·rw[e1];show RowR _ 1 l.length (zd l) (.ref 1 _ 0 c.owners.length false) _;rw[← hl] at h0 ⊢
  exact RowR.own h0 (by omega) (by rw[zY];rfl) (xe (by simp) (fun e=>h0 (by rw[e];rfl)))
 ·exact h.counts.other (fun hn=>by have:=bO h0;omega)
 ·exact h.lockq.other (fun hn=>by have:=bO h0;omega)
 ·exact h.waitq.other (fun hn=>by have:=bO h0;omega)
 ·exact h.downq.other (fun hn=>by have:=bO h0;omega)
theorem OwnW.setC (h:OwnW s J a b c xO xC xL xW xD cL cW cD dO dC dL dW dD)(h0:c.counts.length≠0){l:List Int}(hl:l.length=c.counts.length):OwnW s (J.set dC (.cells (zd l))) a b {c with counts:=l } xO xC xL xW xD cL cW cD dO dC dL dW dD:=by
 have hq:=h.counts.lt h0
 simp at hq
 obtain⟨e1,e2,e3,e4⟩:=h.counts.obj h0
 have bO:=h.bO;have bC:=h.bC;have bL:=h.bL;have bW:=h.bW
 refine⟨?_,?_,?_,?_,?_,h.gL,h.gW,h.gD,h.bO,fun _=>h.bC h0,h.bL,h.bW⟩
 ·exact h.owners.other (fun hn=>by have:=bO hn;omega)
 ·rw[e1];show RowR _ 1 l.length (zd l) (.ref 1 _ 0 c.counts.length false) _;rw[← hl] at h0 ⊢
  exact RowR.own h0 (by omega) (by rw[zY];rfl) (xe (by simp) (fun e=>h0 (by rw[e];rfl)))
 ·exact h.lockq.other (fun hn=>by have:=bC h0;omega)
 ·exact h.waitq.other (fun hn=>by have:=bC h0;omega)
 ·exact h.downq.other (fun hn=>by have:=bC h0;omega)
theorem OwnW.setL (h:OwnW s J a b c xO xC xL xW xD cL cW cD dO dC dL dW dD)(h0:c.lockq.length≠0){L:List (List Int)}{cs:List LV}(hl:L.length=c.lockq.length)(hw:yB L cs):OwnW s (J.set dL (.cells cs)) a b {c with lockq:=L } xO xC xL xW xD cs cW cD dO dC dL dW dD:=by
 have hq:=h.lockq.lt h0
 simp at hq
 obtain⟨e1,e2,e3,e4⟩:=h.lockq.obj h0
 have bO:=h.bO;have bC:=h.bC;have bL:=h.bL;have bW:=h.bW
 refine⟨?_,?_,?_,?_,?_,hw,h.gW,h.gD,h.bO,h.bC,fun _=>h.bL h0,h.bW⟩
 ·exact h.owners.other (fun hn=>by have:=bO hn;omega)
 ·exact h.counts.other (fun hn=>by have:=bC hn;omega)
 ·rw[e1];show RowR _ 1 L.length cs (.ref 1 _ 0 c.lockq.length false) _;rw[← hl] at h0 ⊢
  exact RowR.own h0 (by omega) (by rw[hw.1];omega) (fun e=>h0 (by rw[← hw.1,e];rfl))
 ·exact h.waitq.other (fun hn=>by have:=bL h0;omega)
 ·exact h.downq.other (fun hn=>by have:=bL h0;omega)
theorem OwnW.setW (h:OwnW s J a b c xO xC xL xW xD cL cW cD dO dC dL dW dD)(h0:c.waitq.length≠0){L:List (List Int)}{cs:List LV}(hl:L.length=c.waitq.length)(hw:yB L cs):OwnW s (J.set dW (.cells cs)) a b {c with waitq:=L } xO xC xL xW xD cL cs cD dO dC dL dW dD:=by
 have hq:=h.waitq.lt h0
 simp at hq
 obtain⟨e1,e2,e3,e4⟩:=h.waitq.obj h0
 have bO:=h.bO;have bC:=h.bC;have bL:=h.bL;have bW:=h.bW
 refine⟨?_,?_,?_,?_,?_,h.gL,hw,h.gD,h.bO,h.bC,h.bL,fun _=>h.bW h0⟩
 ·exact h.owners.other (fun hn=>by have:=bO hn;omega)
 ·exact h.counts.other (fun hn=>by have:=bC hn;omega)
 ·exact h.lockq.other (fun hn=>by have:=bL hn;omega)
 ·rw[e1];show RowR _ 1 L.length cs (.ref 1 _ 0 c.waitq.length false) _;rw[← hl] at h0 ⊢
  exact RowR.own h0 (by omega) (by rw[hw.1];omega) (fun e=>h0 (by rw[← hw.1,e];rfl))
 ·exact h.downq.other (fun hn=>by have:=bW h0;omega)
theorem OwnW.setD (h:OwnW s J a b c xO xC xL xW xD cL cW cD dO dC dL dW dD)(h0:c.downq.length≠0){L:List (List Int)}{cs:List LV}(hl:L.length=c.downq.length)(hw:yB L cs):OwnW s (J.set dD (.cells cs)) a b {c with downq:=L } xO xC xL xW xD cL cW cs dO dC dL dW dD:=by
 have hq:=h.downq.lt h0
 simp at hq
 obtain⟨e1,e2,e3,e4⟩:=h.downq.obj h0
 have bO:=h.bO;have bC:=h.bC;have bL:=h.bL;have bW:=h.bW
 refine⟨?_,?_,?_,?_,?_,h.gL,h.gW,hw,h.bO,h.bC,h.bL,h.bW⟩
 ·exact h.owners.other (fun hn=>by have:=bO hn;omega)
 ·exact h.counts.other (fun hn=>by have:=bC hn;omega)
 ·exact h.lockq.other (fun hn=>by have:=bL hn;omega)
 ·exact h.waitq.other (fun hn=>by have:=bW hn;omega)
 ·rw[e1];show RowR _ 1 L.length cs (.ref 1 _ 0 c.downq.length false) _;rw[← hl] at h0 ⊢
  exact RowR.own h0 (by omega) (by rw[hw.1];omega) (fun e=>h0 (by rw[← hw.1,e];rfl))
end
theorem OwnW.lift {s J:List AObj}{a b p q:AObj}{c:Cor}{xO xC xL xW xD:LV}{cL cW cD:List LV}{dO dC dL dW dD:Nat}(h:OwnW (s++[p,q]) J a b c xO xC xL xW xD cL cW cD dO dC dL dW dD) :
  OwnW s (a :: b :: J) p q c xO xC xL xW xD cL cW cD (dO+2) (dC+2) (dL+2) (dW+2) (dD+2):=by
 have key:∀ {sz n d:Nat} {cs:List LV} {x:LV},RowR ((s++[p,q])++(a :: b :: J)) sz n cs x ((s++[p,q]).length+(d+2))→RowR (s++(p :: q :: a :: b :: J)) sz n cs x (s.length+(d+2+2)):=fun h=>h.eq (by simp) (by simp;omega)
 exact⟨key h.owners,key h.counts,key h.lockq,key h.waitq,key h.downq,h.gL,h.gW,h.gD,fun h0=>by have:=h.bO h0;omega,fun h0=>by have:=h.bC h0;omega,fun h0=>by have:=h.bL h0;omega,fun h0=>by have:=h.bW h0;omega⟩
theorem OwnW.cast {s J J':List AObj}{a b:AObj}{c:Cor}{xO xC xL xW xD:LV}{cL cW cD:List LV}{dO dC dL dW dD:Nat}(h:OwnW s J a b c xO xC xL xW xD cL cW cD dO dC dL dW dD)(e:J=J'):OwnW s J' a b c xO xC xL xW xD cL cW cD dO dC dL dW dD:=e ▸ h
theorem JV {P:Program}{f:FuncId}{v:List Nat}{K:LV→List AObj→List Nat→Prop}{S:List AObj}{n id:Nat}{cs:List LV}{x:LV}(A:LV→List LV)(h:RowR S 1 n cs x id)(hA:∀ id cs x y,Frz id cs x y→Frzs id cs (A x) (A y))
  (k:∀ S',S'.length=S.length→(∀ j,(n≠0→j≠id)→S'[j]? = S[j]?)→zp P f (A (if n=0 then .nils else .imm 1 n cs .no)) S' v K):zp P f (A x) S v K:=by
 rcases h with ⟨rfl,rfl,rfl⟩ | ⟨h1,h2,rfl,h4,h5⟩
 ·exact k S rfl fun _ _=>rfl
 ·have hk:=k (S.set id (.cells [])) (by simp) fun j hj=>List.getElem?_set_ne (fun e=>hj h1 e.symm)
  rw[if_neg h1] at hk
  refine zbl h4 h2 (hA _ _ _ _ ?_) hk
  have:=Frz.ref (id:=id) (cs:=cs) (sz:=1) (off:=0) (len:=n) (fl:=false) (by omega)
  rwa [List.drop_zero,List.take_of_length_le (by omega)] at this
theorem yB.weaks:∀ {L:List (List Int)} {xs:List LV},yB L xs→yh xs (zd L)
 | [],[],_=>trivial
 | [],_ :: _,h=>by simp[yB] at h
 | _ :: _,[],h=>by simp[yB] at h
 | l :: L,x :: xs,h=>by
  obtain⟨x',h1,h2,h3⟩:=h.2 0 (by simp)
  simp at h1;subst h1
  rw[zy]
  refine⟨h2,yB.weaks ⟨by simpa using h.1,fun i hi=>?_⟩⟩
  obtain⟨y,q1,q2⟩:=h.2 (i+1) (by simpa using hi)
  exact⟨y,by simpa using q1,q2⟩
theorem Kd {α : Type}[Enc α](hsz:Enc.sz α = 1){l:List α}{n:Nat}{cs:List LV}(hn:n=l.length)(h:yh cs (zd l)):Weak (if n=0 then .nils else .imm 1 n cs .no) (row l):=by
 subst hn
 split
 ·rename_i h0
  have:l=[]:=List.length_eq_zero_iff.1 h0
  subst this
  exact Weak.nilrow
 ·have:=Weak.row (r:=.no) h rfl
  rwa [hsz] at this
theorem OwnW.call {P:Program}{f:FuncId}{v:List Nat}{K:LV→List AObj→List Nat→Prop}{rest:List LV}{s J:List AObj}{a b:AObj}{c:Cor}{xO xC xL xW xD:LV}{cL cW cD:List LV}{dO dC dL dW dD:Nat}(h:OwnW s J a b c xO xC xL xW xD cL cW cD dO dC dL dW dD)
  (k:∀ J',J'.length=J.length→zp P f (.agg c.lv :: rest) (s++(a :: b :: J')) v K) :
  zp P f (.agg [.int .i64 c.now,row c.threads,xO,xC,row c.bufs,xL,xW,xD,row c.sendq,row c.recvq] :: rest) (s++(a :: b :: J)) v K:=by
 have R:= @Frz.refl
 have bO:=h.bO;have bC:=h.bC;have bL:=h.bL;have bW:=h.bW
 refine JV (fun x=>.agg [.int .i64 c.now,row c.threads,x,xC,row c.bufs,xL,xW,xD,row c.sendq,row c.recvq] :: rest) h.owners (fun id cs x y hf=>⟨Frz.agg ⟨R _ _ _,R _ _ _,hf,R _ _ _,R _ _ _,R _ _ _,R _ _ _,R _ _ _,R _ _ _,R _ _ _,trivial⟩,Frzs.refl _ _ _⟩) fun S1 l1 q1=>?_
 refine JV (fun x=>.agg [.int .i64 c.now,row c.threads,_,x,row c.bufs,xL,xW,xD,row c.sendq,row c.recvq] :: rest) (h.counts.keep (fun h0=>q1 _ (fun h1=>by have:=bO h1;omega))) (fun id cs x y hf=>⟨Frz.agg ⟨R _ _ _,R _ _ _,R _ _ _,hf,R _ _ _,R _ _ _,R _ _ _,R _ _ _,R _ _ _,R _ _ _,trivial⟩,Frzs.refl _ _ _⟩) fun S2 l2 q2=>?_
 refine JV (fun x=>.agg [.int .i64 c.now,row c.threads,_,_,row c.bufs,x,xW,xD,row c.sendq,row c.recvq] :: rest) (h.lockq.keep (fun h0=>(q2 _ (fun h1=>by have:=bC h1;omega)).trans (q1 _ (fun h1=>by have:=bO h1;omega)))) (fun id cs x y hf=>⟨Frz.agg ⟨R _ _ _,R _ _ _,R _ _ _,R _ _ _,R _ _ _,hf,R _ _ _,R _ _ _,R _ _ _,R _ _ _,trivial⟩,Frzs.refl _ _ _⟩) fun S3 l3 q3=>?_
 refine JV (fun x=>.agg [.int .i64 c.now,row c.threads,_,_,row c.bufs,_,x,xD,row c.sendq,row c.recvq] :: rest) (h.waitq.keep (fun h0=>((q3 _ (fun h1=>by have:=bL h1;omega)).trans (q2 _ (fun h1=>by have:=bC h1;omega))).trans (q1 _ (fun h1=>by have:=bO h1;omega)))) (fun id cs x y hf=>⟨Frz.agg ⟨R _ _ _,R _ _ _,R _ _ _,R _ _ _,R _ _ _,R _ _ _,hf,R _ _ _,R _ _ _,R _ _ _,trivial⟩,Frzs.refl _ _ _⟩) fun S4 l4 q4=>?_
 refine JV (fun x=>.agg [.int .i64 c.now,row c.threads,_,_,row c.bufs,_,_,x,row c.sendq,row c.recvq] :: rest) (h.downq.keep (fun h0=>(((q4 _ (fun h1=>by have:=bW h1;omega)).trans (q3 _ (fun h1=>by have:=bL h1;omega))).trans (q2 _ (fun h1=>by have:=bC h1;omega))).trans (q1 _ (fun h1=>by have:=bO h1;omega)))) (fun id cs x y hf=>⟨Frz.agg ⟨R _ _ _,R _ _ _,R _ _ _,R _ _ _,R _ _ _,R _ _ _,R _ _ _,hf,R _ _ _,R _ _ _,trivial⟩,Frzs.refl _ _ _⟩) fun S5 l5 q5=>?_
 have hS:∃ J',J'.length=J.length∧S5=s++(a :: b :: J'):=by
  have hq:∀ j,j<s.length+2→S5[j]? = (s++(a :: b :: J))[j]?:=fun j hj=>
   ((((q5 _ (fun _=>by omega)).trans (q4 _ (fun _=>by omega))).trans (q3 _ (fun _=>by omega))).trans (q2 _ (fun _=>by omega))).trans (q1 _ (fun _=>by omega))
  have hl:S5.length=s.length+(J.length+2):=by rw[l5,l4,l3,l2,l1];simp
  refine⟨S5.drop (s.length+2),by rw[List.length_drop];omega,List.ext_getElem? fun j=>?_⟩
  by_cases hj:j<s.length+2
  ·rw[hq j hj]
   by_cases hj2:j<s.length
   ·rw[List.getElem?_append_left hj2,List.getElem?_append_left hj2]
   ·rw[List.getElem?_append_right (by omega),List.getElem?_append_right (by omega)]
    rcases Nat.lt_or_ge (j-s.length) 1 with h1 | h1
    ·rw[show j-s.length=0 by omega];rfl
    ·rw[show j-s.length=1 by omega];rfl
  ·obtain⟨d,rfl⟩:∃ d,j=s.length+(d+2):=⟨j-(s.length+2),by omega⟩
   rw[ze,List.getElem?_drop]
   congr 1;omega
 obtain⟨J',hl,rfl⟩:=hS
 refine yJ ?_ (k J' hl)
 exact⟨Weak.agg ⟨Weak.refl _,Weak.refl _,Kd rfl rfl (yh.refl _),Kd rfl rfl (yh.refl _),Weak.refl _,Kd rfl rfl h.gL.weaks,Kd rfl rfl h.gW.weaks,Kd rfl rfl h.gD.weaks,Weak.refl _,Weak.refl _,trivial⟩,yh.refl _⟩
end Go.Hb
end
section
namespace Go.Hb
open Go
structure ChO (S:List AObj)(b:Nat)(v0 v:List Nat)(c:Cor)(y xB xS xR:LV)(cB cS cR:List LV)(iB iS iR:Nat):Prop where
 eq:y = .agg [.int .i64 c.now,row c.threads,row c.owners,row c.counts,xB,row c.lockq,row c.waitq,row c.downq,xS,xR]
 bufs:RowR S 1 c.bufs.length cB xB iB
 sendq:RowR S 1 c.sendq.length cS xS iS
 recvq:RowR S 1 c.recvq.length cR xR iR
 gB:ListsG v0 v c.bufs cB
 gS:ListsG v0 v c.sendq cS
 gR:ListsG v0 v c.recvq cR
 bB:b≤iB∧(c.bufs.length≠0→iB<iS∧iB<iR)
 bS:b≤iS∧(c.sendq.length≠0→iS<iR)
 bR:b≤iR
def ChR (c:Cor)(s:List AObj)(v:List Nat)(y:LV)(s':List AObj)(v':List Nat):Prop:=
 ∃ J xB xS xR cB cS cR dB dS dR,s++J=s'∧ChO s' s.length v v' c y xB xS xR cB cS cR (s.length+dB) (s.length+dS) (s.length+dR)
theorem zcB {P:Program}{c:Cor}{f:FuncId}{args:List LV}{s:List AObj}{v:List Nat}{K:LV→List AObj→List Nat→Prop}(h:zp P f args s v (ChR c s v))
  (k:∀ v' J xB xS xR cB cS cR dB dS dR,(xB.cells=[xB]∧xB.cellsOk=true)→(xS.cells=[xS]∧xS.cellsOk=true)→(xR.cells=[xR]∧xR.cellsOk=true)→
   ChO (s++J) s.length v v' c (.agg [.int .i64 c.now,row c.threads,row c.owners,row c.counts,xB,row c.lockq,row c.waitq,row c.downq,xS,xR]) xB xS xR cB cS cR (s.length+dB) (s.length+dS) (s.length+dR)→
   K (.agg [.int .i64 c.now,row c.threads,row c.owners,row c.counts,xB,row c.lockq,row c.waitq,row c.downq,xS,xR]) (s++J) v'):zp P f args s v K:=by
 refine zj h ?_
 rintro y s' v' ⟨J,xB,xS,xR,cB,cS,cR,dB,dS,dR,rfl,h⟩
 obtain⟨rfl,h2⟩:y=_∧_:=⟨h.eq,h⟩
 exact k v' J xB xS xR cB cS cR dB dS dR h2.bufs.cells h2.sendq.cells h2.recvq.cells h2
theorem ChO.lay {s J:List AObj}{a b:AObj}{v v':List Nat}{c:Cor}{y xB xS xR:LV}{cB cS cR:List LV}{dB dS dR:Nat}
  (h:ChO ((s++[a,b])++J) (s++[a,b]).length v v' c y xB xS xR cB cS cR ((s++[a,b]).length+dB) ((s++[a,b]).length+dS) ((s++[a,b]).length+dR)) :
  ChO (s++(a :: b :: J)) (s.length+2) v v' c y xB xS xR cB cS cR (s.length+(dB+2)) (s.length+(dS+2)) (s.length+(dR+2)):=by
 have e1:(s++[a,b])++J=s++(a :: b :: J):=by simp
 have e2:(s++[a,b]).length=s.length+2:=by simp
 have e3:∀ d,s.length+2+d=s.length+(d+2):=fun d=>by omega
 rw[e1,e2,e3,e3,e3] at h
 exact h
structure ChW (s J:List AObj)(a b:AObj)(c:Cor)(xB xS xR:LV)(cB cS cR:List LV)(dB dS dR:Nat):Prop where
 bufs:RowR (s++(a :: b :: J)) 1 c.bufs.length cB xB (s.length+(dB+2))
 sendq:RowR (s++(a :: b :: J)) 1 c.sendq.length cS xS (s.length+(dS+2))
 recvq:RowR (s++(a :: b :: J)) 1 c.recvq.length cR xR (s.length+(dR+2))
 gB:yB c.bufs cB
 gS:yB c.sendq cS
 gR:yB c.recvq cR
 bB:c.bufs.length≠0→dB<dS∧dB<dR
 bS:c.sendq.length≠0→dS<dR
theorem ChO.w {s J:List AObj}{a b:AObj}{v v':List Nat}{c:Cor}{y xB xS xR:LV}{cB cS cR:List LV}{dB dS dR:Nat}
  (h:ChO (s++(a :: b :: J)) (s.length+2) v v' c y xB xS xR cB cS cR (s.length+(dB+2)) (s.length+(dS+2)) (s.length+(dR+2))):ChW s J a b c xB xS xR cB cS cR dB dS dR:=
 ⟨h.bufs,h.sendq,h.recvq,h.gB.weak,h.gS.weak,h.gR.weak,fun h0=>by have:=h.bB.2 h0;omega,fun h0=>by have:=h.bS.2 h0;omega⟩
section
variable {s J:List AObj} {a b:AObj} {c:Cor} {xB xS xR:LV} {cB cS cR:List LV} {dB dS dR:Nat}
theorem ChW.box (h:ChW s J a b c xB xS xR cB cS cR dB dS dR)(a' b':AObj):ChW s J a' b' c xB xS xR cB cS cR dB dS dR:=by
 have key:∀ {sz n d:Nat} {cs:List LV} {x:LV},RowR (s++(a :: b :: J)) sz n cs x (s.length+(d+2))→RowR (s++(a' :: b' :: J)) sz n cs x (s.length+(d+2)):=fun h=>h.keep fun _=>by rw[ze,ze]
 exact⟨key h.bufs,key h.sendq,key h.recvq,h.gB,h.gS,h.gR,h.bB,h.bS⟩
theorem ChW.more (h:ChW s J a b c xB xS xR cB cS cR dB dS dR)(B:List AObj):ChW s (J++B) a b c xB xS xR cB cS cR dB dS dR:=by
 have key:∀ {sz n d:Nat} {cs:List LV} {x:LV},RowR (s++(a :: b :: J)) sz n cs x (s.length+(d+2))→RowR (s++(a :: b :: (J++B))) sz n cs x (s.length+(d+2)):=fun h=>h.keep fun h0=>by
  have:=h.lt h0
  simp at this
  rw[ze,ze,List.getElem?_append_left (by omega)]
 exact⟨key h.bufs,key h.sendq,key h.recvq,h.gB,h.gS,h.gR,h.bB,h.bS⟩
theorem ChW.deep (h:ChW s J a b c xB xS xR cB cS cR dB dS dR):DeepV (s++(a :: b :: J)) s.length (.agg [.int .i64 c.now,row c.threads,row c.owners,row c.counts,xB,row c.lockq,row c.waitq,row c.downq,xS,xR]) (.agg c.lv):=
 .agg _ _ (.cons _ _ _ _ (.keep _ rfl) (.cons _ _ _ _ (.keep _ (by simp)) (.cons _ _ _ _ (.keep _ (by simp)) (.cons _ _ _ _ (.keep _ (by simp)) (.cons _ _ _ _ (RowR.deep (α:=List Int) h.bufs (by omega) h.gB.deep)
  (.cons _ _ _ _ (.keep _ (by simp)) (.cons _ _ _ _ (.keep _ (by simp)) (.cons _ _ _ _ (.keep _ (by simp)) (.cons _ _ _ _ (RowR.deep (α:=List Int) h.sendq (by omega) h.gS.deep) (.cons _ _ _ _ (RowR.deep (α:=List Int) h.recvq (by omega) h.gR.deep) .nil))))))))))
theorem ChW.setB (h:ChW s J a b c xB xS xR cB cS cR dB dS dR)(h0:c.bufs.length≠0){L:List (List Int)}{cs:List LV}(hl:L.length=c.bufs.length)(hw:yB L cs):ChW s (J.set dB (.cells cs)) a b {c with bufs:=L } xB xS xR cs cS cR dB dS dR:=by
 have hq:=h.bufs.lt h0
 simp at hq
 have e1:=(h.bufs.obj h0).1
 have bB:=h.bB;have bS:=h.bS
 refine⟨?_,?_,?_,hw,h.gS,h.gR,fun _=>h.bB h0,h.bS⟩
 ·rw[e1];show RowR _ 1 L.length cs (.ref 1 _ 0 c.bufs.length false) _;rw[← hl] at h0 ⊢
  exact RowR.own h0 (by omega) (by rw[hw.1];omega) (fun e=>h0 (by rw[← hw.1,e];rfl))
 ·exact h.sendq.other (fun hn=>by have:=bB h0;omega)
 ·exact h.recvq.other (fun hn=>by have:=bB h0;omega)
theorem ChW.setS (h:ChW s J a b c xB xS xR cB cS cR dB dS dR)(h0:c.sendq.length≠0){L:List (List Int)}{cs:List LV}(hl:L.length=c.sendq.length)(hw:yB L cs):ChW s (J.set dS (.cells cs)) a b {c with sendq:=L } xB xS xR cB cs cR dB dS dR:=by
 have hq:=h.sendq.lt h0
 simp at hq
 have e1:=(h.sendq.obj h0).1
 have bB:=h.bB;have bS:=h.bS
 refine⟨?_,?_,?_,h.gB,hw,h.gR,h.bB,fun _=>h.bS h0⟩
 ·exact h.bufs.other (fun hn=>by have:=bB hn;omega)
 ·rw[e1];show RowR _ 1 L.length cs (.ref 1 _ 0 c.sendq.length false) _;rw[← hl] at h0 ⊢
  exact RowR.own h0 (by omega) (by rw[hw.1];omega) (fun e=>h0 (by rw[← hw.1,e];rfl))
 ·exact h.recvq.other (fun hn=>by have:=bS h0;omega)
theorem ChW.setR (h:ChW s J a b c xB xS xR cB cS cR dB dS dR)(h0:c.recvq.length≠0){L:List (List Int)}{cs:List LV}(hl:L.length=c.recvq.length)(hw:yB L cs):ChW s (J.set dR (.cells cs)) a b {c with recvq:=L } xB xS xR cB cS cs dB dS dR:=by
 have hq:=h.recvq.lt h0
 simp at hq
 have e1:=(h.recvq.obj h0).1
 have bB:=h.bB;have bS:=h.bS
 refine⟨?_,?_,?_,h.gB,h.gS,hw,h.bB,h.bS⟩
 ·exact h.bufs.other (fun hn=>by have:=bB hn;omega)
 ·exact h.sendq.other (fun hn=>by have:=bS hn;omega)
 ·rw[e1];show RowR _ 1 L.length cs (.ref 1 _ 0 c.recvq.length false) _;rw[← hl] at h0 ⊢
  exact RowR.own h0 (by omega) (by rw[hw.1];omega) (fun e=>h0 (by rw[← hw.1,e];rfl))
end
theorem GroE.push2 {P:Program}{t t2:TypeId}{by_:Nat}(hok:xA P t t2 1 by_=true)(hby:by_≤1000){v0 v:List Nat}{l:List Int}{x:LV}(h:GroE v0 v l x)(a b:Int)(hb:l.length+2≤100000000) :
  ∃ x' v',GroE v0 v' (l++[a,b]) x'∧Keep x v v'∧∀ r s,zR P t t2 x (.imm 1 2 [.int .i64 a,.int .i64 b] r) s v=some (x',v'):=by
 have hm:(l.length+2)*by_≤100000000*1000:=Nat.mul_le_mul hb hby
 obtain⟨x',v',h1,h2,h3⟩:=GroC.app (P:=P) (m:=2) (ds:=[.int .i64 a,.int .i64 b]) hok h (by simp) (by unfold maxLen;omega) (by omega)
 exact⟨x',v',by unfold GroE;rw[xI];simpa[zy] using h1,h2,fun r s=>h3 _ s (by simp[zQ])⟩
theorem GroE.pushT {P:Program}{t t2:TypeId}{by_:Nat}(hok:xA P t t2 1 by_=true)(hby:by_≤1000){v0 v:List Nat}{l:List Int}{x:LV}(h:GroE v0 v l x)(a:Int)(hb:l.length+1≤100000000) :
  ∃ x' v',GroE v0 v' (l++[a]) x'∧(∀ g e,v[g]? = some e→ZD x≠some g→v'[g]? = some e)∧(∀ g,ZD x'=some g→ZD x=some g∨v.length≤g)∧∀ r s,zR P t t2 x (.imm 1 1 [.int .i64 a] r) s v=some (x',v'):=by
 obtain⟨x',v',h1,h2,h3⟩:=h.push (P:=P) (t:=t) (t2:=t2) (sz:=1) (by_:=by_) hok rfl hby a hb
 refine⟨x',v',h1,fun g e hg ht=>h2.2 g e hg fun sz n cs e' hx=>ht (by rw[hx];rfl),fun g hg=>?_,fun r s=>h3 r s⟩
 rcases h.2 with ⟨e0,e1,hx⟩ | ⟨g',e,hg1,rfl,hv⟩
 ·right
  have hl:l=[]:=List.length_eq_zero_iff.1 e0
  subst hl
  have hn:GroE v v ([]:List Int) x:=⟨List.prefix_refl _,.inl ⟨rfl,rfl,hx⟩⟩
  obtain⟨x2,v2,k1,k2,k3⟩:=hn.push (P:=P) (t:=t) (t2:=t2) (sz:=1) (by_:=by_) hok rfl hby a hb
  have e:=(h3 .no []).symm.trans (k3 .no [])
  simp only[Option.some.injEq,Prod.mk.injEq] at e
  obtain⟨rfl,rfl⟩:=e
  exact(tip_lt k1 hg).1
 ·left
  have e:=h3 .no []
  unfold xA at hok
  split at hok
  rotate_left
  ·cases hok
  rename_i e2 hu
  simp only[Bool.and_eq_true] at hok
  obtain⟨⟨⟨hs,hb1⟩,hn⟩,hz⟩:=hok
  cases hs':szT P e2 with
  | none=>rw[hs'] at hs;cases hs
  | some s'=>
  rw[hs'] at hs;simp at hs;subst hs
  cases hb':zD P e2 with
  | none=>rw[hb'] at hb1;cases hb1
  | some b'=>
  rw[hb'] at hb1;simp at hb1;subst hb1
  cases hz':zT P e2 with
  | none=>rw[hz'] at hz;cases hz
  | some z=>
  rw[hz'] at hz;simp only[Bool.and_eq_true,beq_iff_eq] at hz
  unfold zR at e
  simp only[hu,hs',hb',hz'] at e
  rw[if_pos ⟨hn,hz.1,hz.2⟩] at e
  simp only[zcv,uD,if_true,zQ,grow,hv] at e
  split at e
  ·simp at e
   rw[← e.1] at hg
   simpa[ZD] using hg
  ·cases e
theorem zgY {L:List (List Int)}{k i:Nat}(hk:k<L.length)(l:List Int):nth (L.set k l) i=if k=i then l else nth L i:=by
 by_cases e:k=i
 ·subst e;rw[if_pos rfl];exact wC hk _
 ·rw[if_neg e];exact uS e _
theorem ListsG.push {P:Program}{t t2:TypeId}{by_:Nat}(hok:xA P t t2 1 by_=true)(hby:by_≤1000){v0 v:List Nat}{L:List (List Int)}{xs:List LV}(h:ListsG v0 v L xs){k:Nat}(hk:k<L.length)(a:Int)(hb:(nth L k).length+1≤100000000) :
  ∃ x x' v',xs[k]? = some x∧(x.cells=[x]∧x.cellsOk=true)∧(x'.cells=[x']∧x'.cellsOk=true)∧ListsG v0 v' (L.set k (nth L k++[a])) (xs.set k x')∧∀ r s,zR P t t2 x (.imm 1 1 [.int .i64 a] r) s v=some (x',v'):=by
 obtain⟨x,h1,h2⟩:=h.at_ k hk
 obtain⟨x',v',g1,g2,g3,g4⟩:=h2.pushT (P:=P) (t:=t) (t2:=t2) (by_:=by_) hok hby a hb
 have hkx:k<xs.length:=by rw[h.len];exact hk
 have hold:∀ {i:Nat} {y:LV} {g:Nat},xs[i]? = some y→ZD y=some g→g<v.length:=fun {i y g} hi ht=>by
  have hi':=(List.getElem?_eq_some_iff.1 hi).1
  obtain⟨y',e1,e2⟩:=h.at_ i (by rw[← h.len];exact hi')
  rw[hi] at e1;cases e1
  exact(tip_lt e2 ht).2
 refine⟨x,x',v',h1,h2.gro.cells,g1.gro.cells,⟨by simp[h.len],fun i hi=>?_,g1.1,fun i j a b g hij ha hb' ht=>?_⟩,g4⟩
 ·simp at hi
  rw[zgY hk]
  by_cases e:k=i
  ·subst e
   rw[if_pos rfl]
   exact⟨x',by rw[List.getElem?_set_self hkx],g1⟩
  ·rw[if_neg e]
   obtain⟨y,q1,q2⟩:=h.at_ i hi
   refine⟨y,by rw[List.getElem?_set_ne e];exact q1,g1.1,?_⟩
   rcases q2.2 with q | ⟨g,e2,r1,rfl,r3⟩
   ·exact .inl q
   ·exact .inr ⟨g,e2,r1,rfl,g2 g e2 r3 fun hc=>h.dis k i x _ g e h1 q1 hc rfl⟩
 ·by_cases ei:k=i<;>by_cases ej:k=j
  ·omega
  ·subst ei
   rw[List.getElem?_set_self hkx] at ha;cases ha
   rw[List.getElem?_set_ne ej] at hb'
   rcases g3 g ht with hg | hg
   ·exact h.dis k j x b g hij h1 hb' hg
   ·intro hc;have:=hold hb' hc;omega
  ·subst ej
   rw[List.getElem?_set_self hkx] at hb';cases hb'
   rw[List.getElem?_set_ne ei] at ha
   intro hc
   rcases g3 g hc with hg | hg
   ·exact h.dis i k a x g hij ha h1 ht hg
   ·have:=hold ha ht;omega
  ·rw[List.getElem?_set_ne ei] at ha
   rw[List.getElem?_set_ne ej] at hb'
   exact h.dis i j a b g hij ha hb' ht
end Go.Hb
end
section
namespace Go.Hb
open Go
theorem zeA:∀ (l:List Thr) (k:Nat) (x:Thr),k<l.length→wq (zd l) (k*5) [.int .i64 x.state,.int .i64 x.on,row x.frames,row x.stack,.int .i64 x.code]=zd (l.set k x)
 | i :: l,0,x,_=>by simp[zy,wq]
 | i :: l,k+1,x,h=>by
  have ih:=zeA l k x (by simpa using h)
  rw[List.set_cons_succ,zy,zy,← ih]
  have e:(k+1)*5=k*5+1+1+1+1+1:=by omega
  simp only[wq,zba,e,List.cons_append,List.nil_append,List.set_cons_succ]
end Go.Hb
end
section
namespace Go.Hb
open Go
def is2 (t:Thr):Bool:=decide (t.state=2)
def zz (c:Cor):Nat:=c.threads.countP is2
theorem Qt (l:List Thr)(p:Thr→Bool)(x:Thr):∀ k,k<l.length→(l.set k x).countP p+(if p (nth l k)=true then 1 else 0)=l.countP p+(if p x=true then 1 else 0):=by
 induction l with
 | nil=>intro k h;simp at h
 | cons a l ih=>
  intro k h
  cases k with
  | zero=>
   rw[List.set_cons_zero,List.countP_cons,List.countP_cons,show nth (a :: l) 0=a from rfl];omega
  | succ k=>
   have:=ih k (by simpa using h)
   rw[List.set_cons_succ,List.countP_cons,List.countP_cons,show nth (a :: l) (k+1)=nth l k by simp[nth]];omega
theorem wQ {c:Cor}{t:Int}{x:Thr}(h0:0≤t)(h1:t<c.threads.length):zz (yd c t x)+(if (at' c.threads t).state=2 then 1 else 0)=zz c+(if x.state=2 then 1 else 0):=by
 have:=Qt c.threads is2 x t.toNat (by omega)
 have e:∀ y:Thr,(if is2 y=true then 1 else 0:Nat)=(if y.state=2 then 1 else 0):=fun y=>by unfold is2;by_cases h:y.state=2<;>simp[h]
 rw[e,e] at this
 exact this
structure XsB (B:Nat)(x:Xs):Prop where
 n:x.c.threads.length≤1000
 thr:∀ th∈x.c.threads,ThrB th
 seen:x.seen.length+zz x.c≤B
 woken:x.woken.length+zz x.c≤B
theorem Xu (c:Int):ThrB (zO c):=⟨by simp[zO],by simp[zO],by simp[zO]⟩
theorem Kl {c:Cor}{t:Int}{x:Thr}(h:∀ th∈c.threads,ThrB th)(hx:ThrB x):∀ th∈(yd c t x).threads,ThrB th:=fun th hth=>by
 rcases List.mem_or_eq_of_mem_set hth with hth | rfl
 ·exact h th hth
 ·exact hx
theorem zam:∀ (l:List Int) (t:Thr),ThrB t→ThrB (yi t l).1
 | [],t,h=>h
 | v :: l,t,h=>by
  unfold yi
  split
  ·exact zam l _ (zfi h v)
  ·exact Xu 2
theorem ZL (t:Thr)(v:Int):(push t v).1.state=t.state∧(push t v).1.on=t.on:=by unfold push;split<;>exact⟨rfl,rfl⟩
theorem QP:∀ (l:List Int) (t:Thr),(yi t l).2=true→(yi t l).1.state=t.state∧(yi t l).1.on=t.on
 | [],t,_=>⟨rfl,rfl⟩
 | v :: l,t,h=>by
  unfold yi at h ⊢
  split
  ·rename_i hp
   rw[if_pos hp] at h
   have:=QP l _ h
   exact⟨this.1.trans (ZL t v).1,this.2.trans (ZL t v).2⟩
  ·rename_i hp
   rw[if_neg hp] at h;cases h
end Go.Hb
end
section
namespace Go.Hb
open Go
theorem zbI (n:Nat)(code t:Int):∀ (a b:List Nat) (x:Xs),endL n code t (a++b) x=endL n code t b (endL n code t a x)
 | [],b,x=>by simp[endL]
 | k :: a,b,x=>by
  rw[List.cons_append,endL,endL]
  exact zbI n code t a b _
structure Keeps (B:Nat)(x y:Xs):Prop where
 b:XsB B y
 len:y.c.threads.length=x.c.threads.length
 c2:zz y.c≤zz x.c
 p:y.p=x.p
 t:y.t=x.t
theorem Keeps.refl {B:Nat}{x:Xs}(h:XsB B x):Keeps B x x:=⟨h,rfl,Nat.le_refl _,rfl,rfl⟩
theorem Keeps.trans {B:Nat}{x y z:Xs}(h:Keeps B x y)(k:Keeps B y z):Keeps B x z:=⟨k.b,k.len.trans h.len,Nat.le_trans k.c2 h.c2,k.p.trans h.p,k.t.trans h.t⟩
structure XsE (B:Nat)(x:Xs):Prop where
 n:x.c.threads.length≤1000
 thr:∀ th∈x.c.threads,ThrB th
 seen:x.seen.length+1+zz x.c≤B
 woken:x.woken.length+zz x.c≤B
theorem XsE.b {B:Nat}{x:Xs}(h:XsE B x):XsB B x:=⟨h.n,h.thr,by have:=h.seen;omega,h.woken⟩
def EndK (B n:Nat):Prop:=∀ x t code,0≤t→t<(x.c.threads.length:Int)→zz x.c<n→XsE B x→Keeps B x (endX n x t code)
theorem zdQ {l:List Thr}{t:Int}(h0:0≤t)(h1:t<l.length):at' l t∈l:=zm (by omega)
theorem Qa {B n:Nat}(hE:EndK B n){x:Xs}{t:Int}{l:List Int}(h0:0≤t)(h1:t<x.c.threads.length)(hc:zz x.c<n)(h:XsE B x):Keeps B x (wW n x t l):=by
 unfold wW
 split
 ·rename_i hok
  have hs:=QP l _ hok
  have hcount:=wQ (x:=(yi (at' x.c.threads t) l).1) h0 h1
  rw[hs.1] at hcount
  have e:zz (yd x.c t (yi (at' x.c.threads t) l).1)=zz x.c:=by omega
  refine⟨⟨by show (x.c.threads.set _ _).length≤1000;rw[List.length_set];exact h.n,Kl h.thr (zam l _ (h.thr _ (zdQ h0 h1))),?_,?_⟩,by show (x.c.threads.set _ _).length=_;rw[List.length_set],Nat.le_of_eq e,rfl,rfl⟩
  ·show x.seen.length+zz (yd x.c t (yi (at' x.c.threads t) l).1)≤B
   have:=h.seen;omega
  ·show x.woken.length+zz (yd x.c t (yi (at' x.c.threads t) l).1)≤B
   have:=h.woken;omega
 ·exact hE x t 2 h0 h1 hc h
theorem zbW {x:Xs}{t st on:Int}(h:∀ th∈x.c.threads,ThrB th)(h0:0≤t)(h1:t<x.c.threads.length):∀ th∈(yj x t st on).c.threads,ThrB th:=
 Kl h (by have:=h _ (zdQ h0 h1);exact this)
theorem vb (x:Xs)(t st on:Int):(yj x t st on).c.threads.length=x.c.threads.length:=by show (x.c.threads.set _ _).length=_;rw[List.length_set]
theorem JZ {x:Xs}{t:Int}(on:Int){st:Int}(hst:st≠2)(h0:0≤t)(h1:t<x.c.threads.length):zz (yj x t st on).c+(if (at' x.c.threads t).state=2 then 1 else 0)=zz x.c:=by
 have:=wQ (c:=x.c) (x:={at' x.c.threads t with state:=st,on:=on }) h0 h1
 simp only[if_neg hst] at this
 exact this
theorem zaQ {B n:Nat}(hE:EndK B n){x:Xs}{k:Nat}{l:List Int}(h1:k<x.c.threads.length)(hs:(nth x.c.threads k).state=2)(hc:zz x.c≤n)(h:XsB B x):Keeps B x (vE n x k l):=by
 have h1':(k:Int)<x.c.threads.length:=by omega
 have hr:=JZ (x:={x with woken:=x.woken++[(k:Int)] }) (t:=k) 0 (st:=0) (by omega) (by omega) h1'
 have hs':(at' x.c.threads (k:Int)).state=2:=hs
 simp only[hs',if_true] at hr
 unfold vE
 rw[if_neg (by omega)]
 have hl:=vb {x with woken:=x.woken++[(k:Int)] } k 0 0
 have hX:XsE B (yj {x with woken:=x.woken++[(k:Int)] } k 0 0):=by
  refine⟨by rw[hl];exact h.n,zbW h.thr (by omega) h1',?_,?_⟩
  ·show x.seen.length+1+zz (yj {x with woken:=x.woken++[(k:Int)] } k 0 0).c≤B
   have:=h.seen;omega
  ·show (x.woken++[(k:Int)]).length+zz (yj {x with woken:=x.woken++[(k:Int)] } k 0 0).c≤B
   have:=h.woken;simp;omega
 have ht:=Qa hE (x:=yj {x with woken:=x.woken++[(k:Int)] } k 0 0) (t:=k) (l:=l) (by omega) (by rw[hl];exact h1') (by omega) hX
 exact⟨ht.b,ht.len.trans hl,by have:=ht.c2;omega,ht.p,ht.t⟩
theorem zcR {B n:Nat}(hE:EndK B n){x:Xs}{t:Int}{l:List Int}(h1:t<x.c.threads.length)(hc:zz x.c<n)(h:XsE B x)(hw:x.woken.length+1+zz x.c≤B):Keeps B x (vE n x t l):=by
 unfold vE
 by_cases h0:t<0
 ·rw[if_pos h0];exact Keeps.refl h.b
 rw[if_neg h0]
 have hr:=JZ (x:={x with woken:=x.woken++[t] }) (t:=t) 0 (st:=0) (by omega) (by omega) h1
 have hl:=vb {x with woken:=x.woken++[t] } t 0 0
 have hX:XsE B (yj {x with woken:=x.woken++[t] } t 0 0):=by
  refine⟨by rw[hl];exact h.n,zbW h.thr (by omega) h1,?_,?_⟩
  ·show x.seen.length+1+zz (yj {x with woken:=x.woken++[t] } t 0 0).c≤B
   have:=h.seen;simp only at hr;omega
  ·show (x.woken++[t]).length+zz (yj {x with woken:=x.woken++[t] } t 0 0).c≤B
   simp only at hr;simp;omega
 have ht:=Qa hE (x:=yj {x with woken:=x.woken++[t] } t 0 0) (t:=t) (l:=l) (by omega) (by rw[hl];exact h1) (by simp only at hr;omega) hX
 exact⟨ht.b,ht.len.trans hl,by have:=ht.c2;simp only at hr;omega,ht.p,ht.t⟩
theorem uW {B n:Nat}(hE:EndK B n){code t:Int} : ∀ (ks:List Nat) (x:Xs),(∀ k∈ks,k<x.c.threads.length)→zz x.c≤n→XsB B x→Keeps B x (endL n code t ks x)
 | [],x,_,_,h=>by rw[endL];exact Keeps.refl h
 | k :: ks,x,hk,hc,h=>by
  rw[endL]
  by_cases hw:(nth x.c.threads k).state=2∧(nth x.c.threads k).on=t
  ·rw[if_pos hw]
   have h1:=zaQ hE (l:=[code]) (hk k (by simp)) hw.1 hc h
   exact h1.trans (uW hE ks _ (fun j hj=>by rw[h1.len];exact hk j (by simp[hj])) (by have:=h1.c2;omega) h1.b)
  ·rw[if_neg hw]
   exact uW hE ks x (fun j hj=>hk j (by simp[hj])) hc h
def end0 (x:Xs)(t code:Int):Xs:=seeX {x with c:=yd x.c t (zO code) } 2 t code
theorem Yd {B:Nat}{x:Xs}{t code:Int}(h0:0≤t)(h1:t<x.c.threads.length)(h:XsE B x):Keeps B x (end0 x t code):=by
 have hc:=wQ (c:=x.c) (x:=zO code) h0 h1
 have he:(zO code).state≠2:=by simp[zO]
 rw[if_neg he] at hc
 have hl:(yd x.c t (zO code)).threads.length=x.c.threads.length:=by show (x.c.threads.set _ _).length=_;rw[List.length_set]
 refine⟨⟨by show (yd x.c t (zO code)).threads.length≤1000;rw[hl];exact h.n,Kl h.thr (Xu code),?_,?_⟩,hl,?_,rfl,rfl⟩
 ·show (x.seen++[_]).length+zz (yd x.c t (zO code))≤B
  have:=h.seen;simp;omega
 ·show x.woken.length+zz (yd x.c t (zO code))≤B
  have:=h.woken;omega
 ·show zz (yd x.c t (zO code))≤_
  omega
theorem um (n:Nat)(x:Xs)(t code:Int):endX (n+1) x t code=endL n code t (List.range (end0 x t code).c.threads.length) (end0 x t code):=by
 rw[endX]
 have hl:(end0 x t code).c.threads.length=x.c.threads.length:=by show (x.c.threads.set _ _).length=_;rw[List.length_set]
 rw[hl];rfl
theorem wP (B:Nat):∀ n,EndK B n
 | 0=>fun x t code _ _ h=>absurd h (by omega)
 | n+1=>fun x t code h0 h1 hc h=>by
  rw[um]
  have hk:=Yd (code:=code) h0 h1 h
  exact hk.trans (uW (wP B n) _ _ (fun k hk=>by simpa using hk) (by have:=hk.c2;omega) hk.b)
end Go.Hb
end
section
namespace Go.Hb
open Go
theorem uh {α : Type}[Enc α]{l:List α}{t:Int}(h0:0≤t)(h1:t<l.length):at' l t∈l:=zm (by omega)
def Qx (l:List Int):Prop:=∀ x∈l, -1073741824≤x∧x≤1073741824
def FrmI (p:Prog)(f:Frm):Prop:=(0≤f.func∧f.func<p.funcs.length)∧(0≤f.pc∧f.pc≤(at' p.funcs f.func).code.length)∧(f.locals.length:Int)=(at' p.funcs f.func).locals∧Qx f.locals
structure ThrI (p:Prog)(t:Thr):Prop where
 st:0≤t.state∧t.state≤9
 code:0≤t.code∧t.code≤6
 fr:t.frames.length≤8
 sk:t.stack.length≤16
 frs:∀ f∈t.frames,FrmI p f
 sks:Qx t.stack
 over:t.state=9→t.frames=[]∧t.stack=[]
 live:t.state≠9→t.frames≠[]∧t.code=0
theorem zaa {l:List Int}{n:Int} : yf l n=true↔∀ x∈l,0≤x∧x≤n:=by unfold yf;simp
structure MayP (p:Prog):Prop where
 funcs:1≤p.funcs.length∧p.funcs.length≤16
 mutexes:0≤p.mutexes∧p.mutexes≤8
 conds:p.conds.length≤8∧∀ x∈p.conds,0≤x∧x<p.mutexes
 semas:p.semas.length≤8∧∀ x∈p.semas,0≤x∧x≤100
 chans:p.chans.length≤8∧∀ x∈p.chans,0≤x∧x≤8
 choices:p.choices.length≤8∧∀ l∈p.choices,l.Nodup∧1≤l.length∧l.length≤8∧∀ x∈l,0≤x∧x<p.chans.length
 threads:1≤p.threads∧p.threads≤32
 code:∀ f∈p.funcs,0≤f.locals∧f.locals≤8∧f.code.length≤64∧∀ i∈f.code,mayI p f i=true
theorem uK {p:Prog}(h:mayP p=true):MayP p:=by
 unfold mayP at h
 simp only[Bool.and_eq_true,decide_eq_true_eq,List.all_eq_true,zaa] at h
 obtain⟨⟨⟨⟨⟨⟨⟨⟨⟨⟨⟨⟨⟨⟨h1,h2⟩,h3⟩,h4⟩,h5⟩,h6⟩,h7⟩,h8⟩,h9⟩,h10⟩,h11⟩,h12⟩,h13⟩,h14⟩,h15⟩:=h
 refine⟨⟨h1,h2⟩,⟨h3,h4⟩,⟨h5,fun x hx=>by have:=h11 x hx;omega⟩,⟨h6,h12⟩,⟨h7,h13⟩,⟨h8,fun l hl=>?_⟩,⟨h9,h10⟩,fun f hf=>?_⟩
 ·have:=h14 l hl
  unfold wz at this
  simp only[Bool.and_eq_true,decide_eq_true_eq,zaa] at this
  exact⟨this.1.1.2,this.1.2,this.2,fun x hx=>by have:=this.1.1.1 x hx;omega⟩
 ·have:=h15 f hf
  unfold mayF at this
  simp only[Bool.and_eq_true,decide_eq_true_eq,List.all_eq_true] at this
  exact⟨this.1.1.1,this.1.1.2,this.1.2,this.2⟩
theorem zfb {p:Prog}(hp:MayP p){t:Thr}(h:ThrI p t):ThrB t:=⟨h.fr,by have:=h.sk;omega,fun f hf=>by
 have h1:=h.frs f hf
 have:=hp.code (at' p.funcs f.func) (uh h1.1.1 h1.1.2)
 have:=h1.2.2.1
 omega⟩
theorem Xh {a b:List Int}(ha:Qx a)(hb:Qx b):Qx (a++b):=fun x hx=>by
 rcases List.mem_append.1 hx with h | h
 ·exact ha x h
 ·exact hb x h
theorem zfR (n:Int):Qx [keep n]:=fun x hx=>by simp at hx;subst hx;exact Zl n
theorem zdR {l:List Int}(h:Qx l)(n:Nat):Qx (l.take n):=fun x hx=>h x (List.mem_of_mem_take hx)
theorem XG {l:List Int}(h:Qx l)(n:Nat):Qx (l.drop n):=fun x hx=>h x (List.mem_of_mem_drop hx)
theorem zhR {l:List Int}(h:Qx l)(n:Nat){x:Int}(hx : -1073741824≤x∧x≤1073741824):Qx (l.set n x):=fun y hy=>by
 rcases List.mem_or_eq_of_mem_set hy with hy | rfl
 ·exact h y hy
 ·exact hx
theorem zhz {l:List Int}(h:Qx l)(n:Nat) : -1073741824≤nth l n∧nth l n≤1073741824:=by
 by_cases hn:n<l.length
 ·exact h _ (zm hn)
 ·rw[show nth l n=0 from by unfold nth;rw[List.getD_eq_getElem?_getD,List.getElem?_eq_none (by omega)];rfl];omega
structure Goes (p:Prog)(t t':Thr):Prop where
 i:ThrI p t'
 st:t'.state=t.state
 on:t'.on=t.on
theorem Goes.refl {p:Prog}{t:Thr}(h:ThrI p t):Goes p t t:=⟨h,rfl,rfl⟩
theorem Goes.trans {p:Prog}{t t' t'':Thr}(h:Goes p t t')(k:Goes p t' t''):Goes p t t'':=⟨k.i,k.st.trans h.st,k.on.trans h.on⟩
theorem zfm {p:Prog}{t:Thr}(h:ThrI p t)(hs:t.state≠9)(v:Int):Goes p t (push t v).1:=by
 unfold push
 split
 ·exact .refl h
 ·refine⟨⟨h.st,h.code,h.fr,?_,h.frs,Xh h.sks (zfR v),fun h9=>absurd h9 hs,h.live⟩,rfl,rfl⟩
  simp;omega
theorem zmy {p:Prog}{t:Thr}(h:ThrI p t)(hs:t.state≠9):Goes p t (pop t).1:=by
 unfold pop
 split
 ·exact .refl h
 ·refine⟨⟨h.st,h.code,h.fr,?_,h.frs,zdR h.sks _,fun h9=>absurd h9 hs,h.live⟩,rfl,rfl⟩
  have:=h.sk
  simp;omega
theorem zbR {p:Prog}{t:Thr}(h:ThrI p t)(hs:t.state≠9):∀ n,Goes p t (popN n t).1
 | 0=>.refl h
 | n+1=>(zbR h hs n).trans (zmy (zbR h hs n).i (by rw[(zbR h hs n).st];exact hs))
theorem Xj {t:Thr}(h:t.frames≠[]):topF t∈t.frames:=zm (by have:t.frames.length≠0:=fun e=>h (List.length_eq_zero_iff.1 e);omega)
theorem zeX {p:Prog}{t:Thr}(h:ThrI p t)(hs:t.state≠9){f:Frm}(hf:FrmI p f):Goes p t {t with frames:=t.frames.set (t.frames.length-1) f }:=by
 refine⟨⟨h.st,h.code,by simpa using h.fr,h.sk,fun g hg=>?_,h.sks,fun h9=>absurd h9 hs,fun h9=>⟨?_,(h.live h9).2⟩⟩,rfl,rfl⟩
 ·rcases List.mem_or_eq_of_mem_set hg with hg | rfl
  ·exact h.frs g hg
  ·exact hf
 ·intro e
  have:=congrArg List.length e
  simp at this
  exact(h.live h9).1 this
theorem zez {p:Prog}{t:Thr}(h:ThrI p t)(hs:t.state≠9){pc:Int}(h0:0≤pc)(h1:pc≤(at' p.funcs (topF t).func).code.length):Goes p t (jump t pc):=by
 have:=h.frs _ (Xj (h.live hs).1)
 exact zeX h hs ⟨this.1,⟨h0,h1⟩,this.2.2⟩
theorem zkR {p:Prog}{t:Thr}(h:ThrI p t)(hs:t.state≠9)(i v:Int):Goes p t (setL t i v):=by
 have:=h.frs _ (Xj (h.live hs).1)
 exact zeX h hs ⟨this.1,this.2.1,by simpa using this.2.2.1,zhR this.2.2.2 _ (Zl v)⟩
theorem XQ {p:Prog}(hp:MayP p){f:Int}(h0:0≤f)(h1:f<p.funcs.length):FrmI p (ux p f):=by
 have:=hp.code _ (uh h0 h1)
 refine⟨⟨h0,h1⟩,⟨by simp[ux],by simp[ux]⟩,?_,fun x hx=>?_⟩
 ·simp[ux];omega
 ·simp[ux] at hx;omega
theorem zcp {p:Prog}(hp:MayP p){f:Int}(h0:0≤f)(h1:f<p.funcs.length):ThrI p (zU p f):=
 ⟨by simp[zU],by simp[zU],by simp[zU],by simp[zU],fun g hg=>by simp[zU] at hg;subst hg;exact XQ hp h0 h1,fun x hx=>by simp[zU] at hx,by simp[zU],fun _=>⟨by simp[zU],rfl⟩⟩
theorem zgG (p:Prog){c:Int}(h0:0≤c)(h1:c≤6):ThrI p (zO c):=
 ⟨by simp[zO],⟨h0,h1⟩,by simp[zO],by simp[zO],by simp[zO],fun x hx=>by simp[zO] at hx,fun _=>⟨rfl,rfl⟩,fun h=>absurd rfl h⟩
theorem zjb {p:Prog}(hp:MayP p){t:Thr}(h:ThrI p t)(hs:t.state≠9){f:Int}(h0:0≤f)(h1:f<p.funcs.length):Goes p t (enter p t f).1:=by
 unfold enter
 split
 ·exact .refl h
 ·refine⟨⟨h.st,h.code,by simp;omega,h.sk,fun g hg=>?_,h.sks,fun h9=>absurd h9 hs,fun h9=>⟨by simp,(h.live h9).2⟩⟩,rfl,rfl⟩
  rcases List.mem_append.1 hg with hg | hg
  ·exact h.frs g hg
  ·simp at hg;subst hg;exact XQ hp h0 h1
theorem zkr {p:Prog}{t:Thr}(h:ThrI p t)(hs:t.state≠9)(hl:(leave t).2=true):Goes p t (leave t).1:=by
 unfold leave at hl ⊢
 simp only[decide_eq_true_eq] at hl
 refine⟨⟨h.st,h.code,?_,h.sk,fun g hg=>h.frs g (List.mem_of_mem_take hg),h.sks,fun h9=>absurd h9 hs,fun h9=>⟨?_,(h.live h9).2⟩⟩,rfl,rfl⟩
 ·have:=h.fr;simp;omega
 ·intro e
  have:=congrArg List.length e
  simp at this
  omega
theorem XY {p:Prog} : ∀ (l:List Int) {t:Thr},ThrI p t→t.state≠9→(yi t l).2=true→Goes p t (yi t l).1
 | [],t,h,_,_=>.refl h
 | v :: l,t,h,hs,hok=>by
  unfold yi at hok ⊢
  split
  ·rename_i hp
   rw[if_pos hp] at hok
   have h1:=zfm h hs v
   exact h1.trans (XY l h1.i (by rw[h1.st];exact hs) hok)
  ·rename_i hp
   rw[if_neg hp] at hok;cases hok
structure ReqI (p:Prog)(q:Req):Prop where
 kind:0≤q.kind∧q.kind≤16∧q.kind≠1
 v : -1073741824≤q.v∧q.v≤1073741824
 spawn:q.kind=3→0≤q.a∧q.a<p.funcs.length
 mutex:q.kind=6∨q.kind=7→0≤q.a∧q.a<p.mutexes
 cond:q.kind=8∨q.kind=9∨q.kind=10→0≤q.a∧q.a<p.conds.length
 sema:q.kind=11∨q.kind=12→0≤q.a∧q.a<p.semas.length
 chan:q.kind=13∨q.kind=14→0≤q.a∧q.a<p.chans.length
 choice:q.kind=15→0≤q.a∧q.a<p.choices.length
theorem req0 (p:Prog):ReqI p ⟨0,0,0⟩:=⟨by simp,by simp,by simp,by simp,by simp,by simp,by simp,by simp⟩
def VmI (p:Prog)(t:Thr)(r:Thr × Req):Prop:=(∃ c,0≤c∧c≤6∧r=ends c)∨(Goes p t r.1∧ReqI p r.2)
theorem ZY {p:Prog}{t:Thr}{c:Int}(h0:0≤c)(h1:c≤6):VmI p t (ends c):=.inl ⟨c,h0,h1,rfl⟩
theorem XU {p:Prog}{t t':Thr}(h:Goes p t t'):VmI p t (t',⟨0,0,0⟩):=.inr ⟨h,req0 p⟩
theorem Kb {p:Prog}{t t':Thr}(hg:Goes p t t')(hs:t.state≠9)(v:Int):VmI p t (xV t' v):=by
 unfold xV
 split
 ·exact XU (hg.trans (zfm hg.i (by rw[hg.st];exact hs) v))
 ·exact ZY (by omega) (by omega)
theorem uX {p:Prog}{f:Fn_}{i:Ins}(h:mayI p f i=true)(ha:asks i.op=true)(h0:i.op≠0):0≤i.a∧i.a<most p f i.op:=by
 unfold mayI at h
 rw[if_pos ha,if_neg (by omega)] at h
 simpa using (by simpa using h:_∧_).2
theorem zjY {p:Prog}{f:Fn_}{i:Ins}(h:mayI p f i=true):0≤i.op∧i.op≤26:=by
 unfold mayI at h
 simp only[Bool.and_eq_true,decide_eq_true_eq] at h
 exact h.1
theorem zdE {t:Thr}(h:t.frames≠[])(pc:Int):topF (jump t pc) = {topF t with pc:=pc }:=by
 have:t.frames.length≠0:=fun e=>h (List.length_eq_zero_iff.1 e)
 unfold jump topF
 simp only[List.length_set]
 rw[wC (by omega)]
theorem zmz {p:Prog}(hp:MayP p){t t':Thr}{f:Fn_}{i:Ins}{l:List Int}(hg:Goes p t t')(hs:t.state≠9)(hf:at' p.funcs (topF t').func=f)(hi:mayI p f i=true):VmI p t (act p t' i l):=by
 have hs':t'.state≠9:=by rw[hg.st];exact hs
 unfold act
 by_cases h:i.op=0
 ·rw[if_pos h];exact Kb hg hs _
 rw[if_neg h];clear h
 by_cases h:i.op=2
 ·rw[if_pos h];exact Kb (hg.trans (zfm hg.i hs' _)) hs _
 rw[if_neg h];clear h
 by_cases h:i.op=3
 ·rw[if_pos h];exact Kb hg hs _
 rw[if_neg h];clear h
 by_cases h:i.op=4
 ·rw[if_pos h];exact Kb hg hs _
 rw[if_neg h];clear h
 by_cases h:i.op=5
 ·rw[if_pos h];exact Kb hg hs _
 rw[if_neg h];clear h
 by_cases h:i.op=6
 ·rw[if_pos h];exact XU (hg.trans (zkR hg.i hs' _ _))
 rw[if_neg h];clear h
 by_cases h:i.op=7
 ·rw[if_pos h]
  have:=uX hi (by rw[h];rfl) (by omega)
  rw[h] at this
  simp[most,vZ] at this
  exact XU (hg.trans (zez hg.i hs' this.1 (by rw[hf];omega)))
 rw[if_neg h];clear h
 by_cases h:i.op=8
 ·rw[if_pos h]
  have:=uX hi (by rw[h];rfl) (by omega)
  rw[h] at this
  simp[most,vZ] at this
  split
  ·exact XU (hg.trans (zez hg.i hs' this.1 (by rw[hf];omega)))
  ·exact XU hg
 rw[if_neg h];clear h
 by_cases h:i.op=9
 ·rw[if_pos h]
  have:=uX hi (by rw[h];rfl) (by omega)
  rw[h] at this
  simp[most,vZ] at this
  split
  ·exact XU (hg.trans (zjb hp hg.i hs' this.1 this.2))
  ·exact ZY (by omega) (by omega)
 rw[if_neg h];clear h
 by_cases h:i.op=10
 ·rw[if_pos h]
  split
  ·rename_i h
   exact XU (hg.trans (zkr hg.i hs' h))
  ·exact ZY (by omega) (by omega)
 rw[if_neg h];clear h
 by_cases h:i.op=26
 ·rw[if_pos h];exact ZY (by omega) (by omega)
 ·rw[if_neg h];exact XU hg
theorem zgP {p:Prog}{f:Fn_}{i:Ins}{v:Int}(hi:mayI p f i=true)(hk:0<uf i.op)(hv : -1073741824≤v∧v≤1073741824):ReqI p ⟨uf i.op,i.a,v⟩:=by
 have ho:=zjY hi
 have ha:=uX hi
 obtain⟨op,a⟩:=i
 simp only at ho ha hk ⊢
 have:op=11∨op=12∨op=13∨op=14∨op=15∨op=16∨op=17∨op=18∨op=19∨op=20∨op=21∨op=22∨op=23∨op=24∨op=25:=by
  unfold uf at hk
  apply Classical.byContradiction
  intro hn
  simp only[not_or] at hn
  simp[hn] at hk
 rcases this with rfl | rfl | rfl | rfl | rfl | rfl | rfl | rfl | rfl | rfl | rfl | rfl | rfl | rfl | rfl<;>
  refine⟨by simp[uf],hv,?_,?_,?_,?_,?_,?_⟩<;>simp[uf]<;>(have:=ha (by rfl) (by omega);simpa[most,vZ] using this)
theorem zcm {p:Prog}(hp:MayP p){t:Thr}(h:ThrI p t)(hs:t.state≠9):VmI p t (xU p t):=by
 have hfr:=(h.live hs).1
 have htop:=h.frs _ (Xj hfr)
 have hfm:=hp.code _ (uh htop.1.1 htop.1.2)
 unfold xU
 simp only
 by_cases hf:(wb p t).2=false
 ·rw[if_pos hf];exact ZY (by omega) (by omega)
 rw[if_neg hf]
 split
 ·exact ZY (by omega) (by omega)
 have hpc:(topF t).pc<(at' p.funcs (topF t).func).code.length:=by
  unfold wb at hf
  split at hf
  ·exact absurd rfl hf
  ·omega
 have hi:(wb p t).1=at' (at' p.funcs (topF t).func).code (topF t).pc:=by
  unfold wb
  rw[if_neg (by omega)]
 have hmay:mayI p (at' p.funcs (topF t).func) (wb p t).1=true:=by
  rw[hi];exact hfm.2.2.2 _ (uh htop.2.1.1 hpc)
 have hj:=zez (pc:=(topF t).pc+1) h hs (by have:=htop.2.1.1;omega) (by omega)
 have hg:=hj.trans (zbR hj.i (by rw[hj.st];exact hs) (xi (wb p t).1.op))
 split
 ·rename_i hk
  refine .inr ⟨hg,zgP hmay hk ?_⟩
  split
  ·exact zhz (zbD hj.i.sks _).2 0
  ·omega
 ·refine zmz hp hg hs ?_ hmay
  unfold topF
  rw[QA]
  exact congrArg (fun f=>at' p.funcs f.func) (zdE hfr ((topF t).pc+1))
end Go.Hb
end
section
namespace Go.Hb
open Go
def vC:List Int→List Int
 | []=>[]
 | [x]=>[x]
 | x :: _ :: l=>x :: vC l
def zJ (c:Cor)(r:Int)(k:Nat):List Int:=
 if r=3 then nth c.lockq k else if r=4 then nth c.waitq k else if r=5 then nth c.downq k else if r=6 then vC (nth c.sendq k) else if r=7 then nth c.recvq k else []
def yv (p:Prog)(r:Int):Nat:=if r=3 then p.mutexes.toNat else if r=4 then p.conds.length else if r=5 then p.semas.length else if r=6∨r=7 then p.chans.length else 0
def must (p:Prog)(st on r:Int)(k:Nat):Bool:=decide (st=r∧on=k) || decide (st=8∧r=7∧(k:Int)∈at' p.choices on)
def want (p:Prog)(st on r:Int)(k:Nat):Nat:=if must p st on r k=true then 1 else 0
structure LenI (p:Prog)(c:Cor):Prop where
 owners:c.owners.length=p.mutexes.toNat
 counts:c.counts.length=p.semas.length
 bufs:c.bufs.length=p.chans.length
 lockq:c.lockq.length=p.mutexes.toNat
 waitq:c.waitq.length=p.conds.length
 downq:c.downq.length=p.semas.length
 sendq:c.sendq.length=p.chans.length
 recvq:c.recvq.length=p.chans.length
structure OneI (p:Prog)(now:Int)(t:Thr):Prop where
 rest:t.state=0∨t.state=9→t.on=0
 sleep:t.state=1→now<t.on∧t.on≤1073741824
 join:t.state=2→0≤t.on∧t.on<1000
 on:3≤t.state→t.state≤7→0≤t.on∧t.on<yv p t.state
 choice:t.state=8→0≤t.on∧t.on<p.choices.length
def wI (D:Nat→Int→Prop)(ts:List Thr):Prop:=
 ∀ k,k<ts.length→(nth ts k).state=2→0≤(nth ts k).on∧(nth ts k).on<ts.length∧(nth ts k).on≠k∧((at' ts (nth ts k).on).state≠9∨D k (nth ts k).on)
structure ChanI (p:Prog)(k:Nat)(b s r:List Int):Prop where
 recv:r=[]∨(b=[]∧s=[])
 send:s=[]∨(b.length:Int)=nth p.chans k
 room:(b.length:Int)≤nth p.chans k
 bk:Qx b
 even:s.length%2=0
 sk:∀ i,i*2+1<s.length→ -1073741824≤nth s (i*2+1)∧nth s (i*2+1)≤1073741824
structure ThingsI (p:Prog)(n:Nat)(c:Cor):Prop where
 owners:∀ k,k<c.owners.length→ -1≤nth c.owners k∧nth c.owners k<n
 counts:∀ k,k<c.counts.length→0≤nth c.counts k∧nth c.counts k≤1073741824
 mutex:∀ k,k<c.owners.length→nth c.lockq k=[]∨nth c.owners k≠ -1
 sema:∀ k,k<c.counts.length→nth c.counts k=0∨nth c.downq k=[]
 chan:∀ k,k<p.chans.length→ChanI p k (nth c.bufs k) (nth c.sendq k) (nth c.recvq k)
structure Inv (p:Prog)(ex:Int)(D:Nat→Int→Prop)(c:Cor):Prop where
 len:LenI p c
 now:0≤c.now∧c.now≤1073741824
 nthr:1≤c.threads.length∧(c.threads.length:Int)≤p.threads
 thr:∀ t,t<c.threads.length→ThrI p (nth c.threads t)
 one:∀ t:Nat,t<c.threads.length→(t:Int)≠ex→OneI p c.now (nth c.threads t)
 exs:∀ t:Nat,t<c.threads.length→(t:Int)=ex→3≤(nth c.threads t).state∧(nth c.threads t).state≤8
 join:wI D c.threads
 mem:∀ r k t,t∈zJ c r k→0≤t∧t<c.threads.length
 cnt:∀ (r:Int) (k t:Nat),k<yv p r→t<c.threads.length→(zJ c r k).count (t:Int)=if (t:Int)=ex then 0 else want p (nth c.threads t).state (nth c.threads t).on r k
 things:ThingsI p c.threads.length c
def noD (_:Nat)(_:Int):Prop:=False
theorem zN {α : Type}[Enc α](l:List α)(i k:Nat)(x:α):nth (l.set i x) k=if i=k∧i<l.length then x else nth l k:=by
 by_cases h:i=k
 ·subst h
  by_cases h2:i<l.length
  ·rw[if_pos ⟨rfl,h2⟩,wC h2]
  ·rw[if_neg (fun h=>h2 h.2),List.set_eq_of_length_le (by omega)]
 ·rw[if_neg (fun h'=>h h'.1),uS h]
theorem uI {α : Type}[Enc α]{l:List α}{k:Nat}(h:l.length≤k):nth l k=Enc.dflt:=by unfold nth;rw[List.getD_eq_getElem?_getD,List.getElem?_eq_none h];rfl
theorem zav {α : Type}[Enc α]{l m:List α}{k:Nat}(h:k<l.length):nth (l++m) k=nth l k:=by simp[nth,List.getD,List.getElem?_append_left h]
theorem zbe {α : Type}[Enc α]{l:List α}{x:α} : nth (l++[x]) l.length=x:=by simp[nth,List.getD]
theorem zcz {α : Type}[Enc α]{l:List α}{t:Int}{x:α}(h0:0≤t)(h1:t<l.length):at' (l.set t.toNat x) t=x:=by unfold at';exact wC (by omega) x
theorem zaO:∀ {l:List Int} (t v:Int),l.length%2=0→vC (l++[t,v])=vC l++[t]
 | [],t,v,_=>rfl
 | [x],_,_,h=>by simp at h
 | x :: y :: l,t,v,h=>by
  have:=zaO (l:=l) t v (by simp at h;omega)
  simp only[List.cons_append,vC,this]
theorem QU:∀ {l:List Int},l.length%2=0→l.length=2*(vC l).length
 | [],_=>rfl
 | [x],h=>by simp at h
 | x :: y :: l,h=>by
  have:=QU (l:=l) (by simp at h;omega)
  simp only[vC,List.length_cons];omega
theorem zdg {l:List Int}(h:2≤l.length):vC l=nth l 0 :: vC (l.drop 2):=by
 match l,h with
 | x :: y :: l,_=>rfl
theorem YL {l:List Int}(h:0<l.length):l=nth l 0 :: l.drop 1:=by
 cases l with
 | nil=>simp at h
 | cons x l=>rfl
theorem zbA (c:Cor)(L:List (List Int))(r:Int)(k:Nat):zJ {c with lockq:=L } r k=if r=3 then nth L k else zJ c r k:=by unfold zJ;by_cases h3:r=3<;>by_cases h4:r=4<;>by_cases h5:r=5<;>by_cases h6:r=6<;>by_cases h7:r=7<;>simp_all
theorem zbb (c:Cor)(L:List (List Int))(r:Int)(k:Nat):zJ {c with waitq:=L } r k=if r=4 then nth L k else zJ c r k:=by unfold zJ;by_cases h3:r=3<;>by_cases h4:r=4<;>by_cases h5:r=5<;>by_cases h6:r=6<;>by_cases h7:r=7<;>simp_all
theorem zbm (c:Cor)(L:List (List Int))(r:Int)(k:Nat):zJ {c with downq:=L } r k=if r=5 then nth L k else zJ c r k:=by unfold zJ;by_cases h3:r=3<;>by_cases h4:r=4<;>by_cases h5:r=5<;>by_cases h6:r=6<;>by_cases h7:r=7<;>simp_all
theorem zbo (c:Cor)(L:List (List Int))(r:Int)(k:Nat):zJ {c with sendq:=L } r k=if r=6 then vC (nth L k) else zJ c r k:=by unfold zJ;by_cases h3:r=3<;>by_cases h4:r=4<;>by_cases h5:r=5<;>by_cases h6:r=6<;>by_cases h7:r=7<;>simp_all
theorem Qq (c:Cor)(L:List (List Int))(r:Int)(k:Nat):zJ {c with recvq:=L } r k=if r=7 then nth L k else zJ c r k:=by unfold zJ;by_cases h3:r=3<;>by_cases h4:r=4<;>by_cases h5:r=5<;>by_cases h6:r=6<;>by_cases h7:r=7<;>simp_all
theorem Xt {p:Prog}{st:Int}(h:st<3∨8<st)(on:Int){r:Int}{k:Nat}(hk:k<yv p r):want p st on r k=0:=by
 have hr:3≤r∧r≤7:=by
  unfold yv at hk
  repeat' split at hk
  all_goals omega
 unfold want must
 rw[if_neg]
 simp only[Bool.or_eq_true,decide_eq_true_eq,not_or]
 omega
theorem zec (p:Prog)(st on r:Int)(k:Nat):want p st on r k≤1:=by unfold want;split<;>omega
theorem Jd {p:Prog}{r:Int}{k:Nat}(hk:k<yv p r):3≤r∧r≤7:=by
 unfold yv at hk
 repeat' split at hk
 all_goals omega
theorem zfa {p:Prog}{st on r:Int}{k:Nat}(hr:st≠8):want p st on r k=if st=r∧on=k then 1 else 0:=by
 unfold want must
 simp[hr]
theorem zer:∀ {n:Nat} {l:List Int},(∀ t∈l,0≤t∧t<n)→(∀ t:Nat,t<n→l.count (t:Int)≤1)→l.length≤n
 | 0,l,hm,_=>by
  cases l with
  | nil=>simp
  | cons x l=>have:=hm x (by simp);omega
 | n+1,l,hm,hc=>by
  have h1:=zer (n:=n) (l:=l.filter fun x=>decide (x≠(n:Int))) (fun t ht=>by
   rw[List.mem_filter] at ht
   have:=hm t ht.1
   have h2:=ht.2
   simp at h2;omega) fun t ht=>by
    have:=hc t (by omega)
    rw[List.count_filter (by simp;omega)];exact this
  have h2:=List.length_eq_countP_add_countP (fun x=>decide (x≠(n:Int))) (l:=l)
  rw[List.countP_eq_length_filter] at h2
  have h3:l.countP (fun a=> !decide (a≠(n:Int)))=l.count (n:Int):=by
   unfold List.count
   congr 1
   funext a
   by_cases e:a=n<;>simp[e]
  have h4:=hc n (by omega)
  have h5:l.countP (fun a=>decide ¬decide (a≠(n:Int))=true)=l.count (n:Int):=by
   rw[← h3]
   congr 1
   funext a
   by_cases e:a=n<;>simp[e]
  omega
theorem Inv.cnt_le {p:Prog}{ex:Int}{D:Nat→Int→Prop}{c:Cor}(h:Inv p ex D c){r:Int}{k:Nat}(hk:k<yv p r):(zJ c r k).length≤c.threads.length:=
 zer (fun t ht=>h.mem r k t ht) fun t ht=>by
  rw[h.cnt r k t hk ht]
  split
  ·omega
  ·exact zec _ _ _ _ _
theorem Inv.rowsB {p:Prog}{ex:Int}{D:Nat→Int→Prop}{c:Cor}(h:Inv p ex D c)(hp:MayP p){L:List (List Int)}{r:Int}(hL:∀ k,nth L k=zJ c r k)(hn:L.length=yv p r)(h8:L.length≤8):ZF L:=
 ⟨by omega,fun l hl=>by
  obtain⟨k,hk,rfl⟩:=List.getElem_of_mem hl
  rw[← zK hk,hL]
  have:=h.cnt_le (r:=r) (k:=k) (by omega)
  have:=h.nthr.2
  have:=hp.threads.2
  omega⟩
theorem Inv.corB {p:Prog}{ex:Int}{D:Nat→Int→Prop}{c:Cor}(h:Inv p ex D c)(hp:MayP p):CorB c:=by
 have ht:=h.nthr.2
 have ht2:=hp.threads.2
 have hl:=h.len
 have hm:=hp.mutexes
 have e1:=hl.owners;have e2:=hl.counts;have e3:=hl.bufs;have e4:=hl.lockq;have e5:=hl.waitq;have e6:=hl.downq;have e7:=hl.sendq;have e8:=hl.recvq
 have h1:=hp.conds.1;have h2:=hp.semas.1;have h3:=hp.chans.1
 refine⟨by omega,by omega,by omega,⟨by omega,fun l hl'=>?_⟩,h.rowsB hp (r:=3) (fun k=>by simp[zJ]) (by simp[yv];omega) (by omega),h.rowsB hp (r:=4) (fun k=>by simp[zJ]) (by simp[yv];omega) (by omega),
  h.rowsB hp (r:=5) (fun k=>by simp[zJ]) (by simp[yv];omega) (by omega),⟨by omega,fun l hl'=>?_⟩,h.rowsB hp (r:=7) (fun k=>by simp[zJ]) (by simp[yv];omega) (by omega)⟩
 ·obtain⟨k,hk,rfl⟩:=List.getElem_of_mem hl'
  rw[← zK hk]
  have h4:=(h.things.chan k (by omega)).room
  have:=hp.chans.2 (nth p.chans k) (zm (by omega))
  omega
 ·obtain⟨k,hk,rfl⟩:=List.getElem_of_mem hl'
  rw[← zK hk]
  have h4:=QU (h.things.chan k (by omega)).even
  have h5:=h.cnt_le (r:=6) (k:=k) (by simp[yv];omega)
  simp[zJ] at h5
  omega
theorem Inv.change {p:Prog}{ex ex':Int}{D D':Nat→Int→Prop}{c c':Cor}(h:Inv p ex D c){t:Nat}{th:Thr}(ht:t<c.threads.length)(hth:c'.threads=c.threads.set t th)(hlen:LenI p c')(hnow:c'.now=c.now)(hI:ThrI p th)
  (hex:ex = -1∨ex=t) (hex':ex' = -1∨ex'=t) (hone:ex'≠t→OneI p c.now th) (hexs:ex'=t→3≤th.state∧th.state≤8) (hjoin:wI D' c'.threads)
  (hmem:∀ r k u,u∈zJ c' r k→u=t∨u∈zJ c r k) (hoth:∀ r k (u:Int),k<yv p r→u≠t→(zJ c' r k).count u=(zJ c r k).count u)
  (hown:∀ r k,k<yv p r→(zJ c' r k).count (t:Int)=if (t:Int)=ex' then 0 else want p th.state th.on r k) (hth2:ThingsI p c.threads.length c'):Inv p ex' D' c':=by
 have hl:c'.threads.length=c.threads.length:=by rw[hth,List.length_set]
 have hn:∀ u,nth c'.threads u=if t=u then th else nth c.threads u:=fun u=>by
  rw[hth,zN]
  by_cases e:t=u
  ·rw[if_pos ⟨e,ht⟩,if_pos e]
  ·rw[if_neg (fun h=>e h.1),if_neg e]
 refine⟨hlen,by rw[hnow];exact h.now,by rw[hl];exact h.nthr,fun u hu=>?_,fun u hu hue=>?_,fun u hu hue=>?_,hjoin,fun r k u hu=>?_,fun r k u hk hu=>?_,by rw[hl];exact hth2⟩
 ·rw[hn];split
  ·exact hI
  ·exact h.thr u (by omega)
 ·rw[hn,hnow];split
  ·rename_i e;subst e;exact hone fun e=>hue e.symm
  ·rename_i e;exact h.one u (by omega) (by omega)
 ·rw[hn];split
  ·rename_i e;subst e;exact hexs hue.symm
  ·rename_i e;omega
 ·rw[hl]
  rcases hmem r k u hu with rfl | hu
  ·omega
  ·exact h.mem r k u hu
 ·rw[hn]
  by_cases e:t=u
  ·subst e;rw[if_pos rfl];exact hown r k hk
  ·rw[if_neg e,hoth r k u hk (by omega),h.cnt r k u hk (by omega)]
   have e1:(u:Int)≠ex:=by omega
   have e2:(u:Int)≠ex':=by omega
   rw[if_neg e1,if_neg e2]
theorem wI.set {D:Nat→Int→Prop}{ts:List Thr}(h:wI D ts){t:Nat}{th:Thr}(h2:th.state≠2)(h9:th.state≠9∨(nth ts t).state=9):wI D (ts.set t th):=fun k hk hs=>by
 rw[List.length_set] at hk ⊢
 have hn:nth (ts.set t th) k=nth ts k∨nth (ts.set t th) k=th:=by rw[zN];split<;>simp
 rcases hn with e | e
 ·rw[e] at hs ⊢
  obtain⟨h1,h3,h4,h5⟩:=h k hk hs
  refine⟨h1,h3,h4,?_⟩
  unfold at' at h5 ⊢
  rw[zN]
  split
  ·rename_i e'
   rcases h9 with h9 | h9
   ·exact .inl h9
   ·rw[← e'.1] at h5
    exact h5.imp (fun h=>absurd h9 h) id
  ·exact h5
 ·rw[e] at hs;exact absurd hs h2
theorem wI.weak {D D':Nat→Int→Prop}{ts:List Thr}(h:wI D ts)(hD:∀ k on,k<ts.length→(nth ts k).state=2→(nth ts k).on=on→D k on→D' k on):wI D' ts:=fun k hk hs=>by
 obtain⟨h1,h2,h3,h4⟩:=h k hk hs
 exact⟨h1,h2,h3,h4.imp id (hD k _ hk hs rfl)⟩
end Go.Hb
end
section
namespace Go.Hb
open Go Go.RowKit
theorem zfZ {P:Program}{r:Option Nat}{N:Nat}{own:Bool}{id:Nat}{c y:Code}{Q:Exit→St→Prop}{tk:TokQ y Q}{G:Prop}(C:(Nat→LV)→List AObj→List Nat→Prop)
  (main:(∀ t s v,C t s v→aWs P r N own id c y Q tk ⟨t,s,v⟩)→G) (key:∀ t s v,C t s v→aWs P r N own id c y Q tk ⟨t,s,v⟩):G:=main key
theorem zjm {β : Type}{P:Program}{r:Option Nat}{N:Nat}{own':Bool}{id:Nat}{c y:Code}{Q:Exit→St→Prop}{tk:TokQ y Q}{t0:Nat→LV}{s0:List AObj}{v0:List Nat}(own:Bool)(n:Nat)(I:Nat→β→Prop)(L:Nat→β→List (Nat × LV))(V:Nat→β→List Nat)
  (h0:∃ p,I 0 p∧Fits (L 0 p) t0 t0∧v0=V 0 p)
  (round:∀ k p,k≤n→I k p→go (aC P r N own c (yp (KD (Jo t0 n k I L (fun _ _=>s0) V) ⟨⟩) (zE id (aSeq P r N own' y Q)))) ⟨⟩ ⟨upds (L k p) t0,s0,V k p⟩):aWs P r N own' id c y Q tk ⟨t0,s0,v0⟩:=
 zC own n I L (fun _ _=>s0) V (by obtain⟨p,h1,h2,h3⟩:=h0;exact⟨p,h1,h2,rfl,h3⟩) round
@[simp] theorem lBlock_exit2 {P:Exit→St→Prop} {st:St} (id id':Nat) (tk) (h:id'≠id):go (zE id P (.exit id')) tk st=go (P (.exit id')) ⟨⟩ st:=zbd id id' tk (by simpa using h)
end Go.Hb
namespace Go.Hb
open Go
theorem zjQ {P:Program}{r:Option Nat}{N:Nat}{c:Code}{Q:Exit→St→Prop}{tk:TokQ (.loop c) Q}{G:Prop}(C:(Nat→LV)→List AObj→List Nat→Prop)
  (main:(∀ t s v,C t s v→aWh P r N (.loop c) Q tk ⟨t,s,v⟩)→G) (key:∀ t s v,C t s v→aWh P r N (.loop c) Q tk ⟨t,s,v⟩):G:=main key
end Go.Hb
namespace Go.Hb
open Go
end Go.Hb
end
section
namespace Go.Hb
open Go
theorem zew (n:Int):1≤(zb n).length:=by unfold zb;rw[yM];split<;>simp
end Go.Hb
end
