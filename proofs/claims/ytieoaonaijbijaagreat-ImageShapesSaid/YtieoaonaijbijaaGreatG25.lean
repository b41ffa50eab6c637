/-
  A layer for reasoning about the program's calls, and contracts of its functions. CONDITIONS: none; each theorem bears its own.
-/
import Derived.Test.YtieoaonaijbijaaGreatG24
import Derived.Test.YtieoaonaijbijaaGreatG12
import Derived.Test.YtieoaonaijbijaaGreatG16
import Derived.Test.YtieoaonaijbijaaGreatG09
set_option linter.unusedVariables false
set_option linter.unusedSimpArgs false
section
namespace Go.Hb
open Go Go.Proofs Go.RowKit
set_option maxRecDepth 100000
set_option maxHeartbeats 800000
attribute [-simp] aC aL xq yp zE aIf yr zR aLen zt ya zQ zP lBr aq yP aev zk zw zF zI LV.cells LV.cellsOk getElem?_pos getElem?_neg
def dueK (c:Cor)(k:Nat):Int:=(List.range k).foldl (un c) (-1)
theorem zeF (c:Cor)(k:Nat):dueK c (k+1)=if (nth c.threads k).state=1∧(nth c.threads k).on≤c.now∧(dueK c k<0∨(nth c.threads k).on<(at' c.threads (dueK c k)).on) then (k:Int) else dueK c k:=by
 unfold dueK
 rw[List.range_succ,List.foldl_append];rfl
theorem zlX (c:Cor){k:Nat}(hk:k≤c.threads.length):dueK c k<0∨(0≤dueK c k∧dueK c k<c.threads.length):=by
 have:=(Xl c (List.range k) (-1) (fun t ht=>by simp at ht;omega) (.inl (by omega))).1
 rcases this with h | h
 ·exact .inl h
 ·exact .inr ⟨h.1,h.2.1⟩
structure TickR (p:Prog)(now0:Int)(R:Cor × List Int)(n0:Nat)(y:Cor)(w:List Int):Prop where
 inv:TickI p now0 y
 len:y.threads.length=n0
 fuel:∃ m,y.threads.countP is1<m∧zcS m y w=R
 small:w.length+y.threads.countP is1≤100
theorem zei {p:Prog}{now0:Int}{R:Cor × List Int}{n0:Nat}{y:Cor}{w:List Int}(h:TickR p now0 R n0 y w)(hd:0≤yQ y) :
  TickR p now0 R n0 (yd y (yQ y) {at' y.threads (yQ y) with state:=0,on:=0 }) (w++[yQ y])∧(yd y (yQ y) {at' y.threads (yQ y) with state:=0,on:=0 }).threads.countP is1<y.threads.countP is1:=by
 obtain⟨q1,q2,q3,q4⟩:=(ziU y).1.resolve_left (by omega)
 have hc:=Qt y.threads is1 {at' y.threads (yQ y) with state:=0,on:=0 } (yQ y).toNat (by omega)
 have e1:is1 (nth y.threads (yQ y).toNat)=true:=by unfold is1;exact decide_eq_true q3
 have e2:is1 {at' y.threads (yQ y) with state:=0,on:=0 } = false:=rfl
 rw[if_pos e1,e2,if_neg (by simp)] at hc
 have hlt:(yd y (yQ y) {at' y.threads (yQ y) with state:=0,on:=0 }).threads.countP is1+1=y.threads.countP is1:=hc
 generalize hz:yd y (yQ y) {at' y.threads (yQ y) with state:=0,on:=0 } = z at *
 refine⟨⟨by rw[← hz];exact zcF h.inv q1 q2 q3,?_,?_,?_⟩,by omega⟩
 ·rw[← hz];show (y.threads.set _ _).length=_;rw[List.length_set];exact h.len
 ·obtain⟨m,h1,h2⟩:=h.fuel
  obtain⟨j,rfl⟩:∃ j,m=j+1:=⟨m-1,by omega⟩
  refine⟨j,by omega,?_⟩
  rw[← h2]
  show _=(if yQ y<0 then (y,w) else zcS j (yd y (yQ y) {at' y.threads (yQ y) with state:=0,on:=0 }) (w++[yQ y]))
  rw[if_neg (by omega),hz]
 ·have:=h.small;simp;omega
theorem zhs {p:Prog}{now0:Int}{R:Cor × List Int}{n0:Nat}{y:Cor}{w:List Int}(h:TickR p now0 R n0 y w)(hd:yQ y<0):R=(y,w):=by
 obtain⟨m,h1,h2⟩:=h.fuel
 obtain⟨j,rfl⟩:∃ j,m=j+1:=⟨m-1,by omega⟩
 rw[← h2]
 show (if yQ y<0 then (y,w) else _)=_
 rw[if_pos hd]
set_option maxHeartbeats 8000000 in
theorem zkE {p:Prog}(hp:MayP p){c:Cor}(h:Inv p (-1) noD c){n:Int}(h0:0≤n)(h1:n≤2147483648):zG Tryz.prog 102 [.agg [.int .i64 c.now,row c.threads,row c.owners,row c.counts,row c.bufs,row c.lockq,row c.waitq,row c.downq,row c.sendq,row c.recvq],.int .i64 n] (.tup [.agg (JQ c n).1.lv,row (JQ c n).2]):=by
 refine .of fun s v=>?_
 have hnow:=h.now
 have hn1:=h.nthr.2
 have hn2:=hp.threads.2
 have hkp:=ZQ (c.now+(if 1073741824<n then 1073741824 else n))
 have hkb:=Zl (c.now+(if 1073741824<n then 1073741824 else n))
 have hR0:TickR p c.now (JQ c n) c.threads.length (if 0<n then {c with now:=keep (c.now+(if 1073741824<n then 1073741824 else n)) } else c) []:=by
  have hcl:c.threads.countP is1≤c.threads.length:=List.countP_le_length
  by_cases hn:0<n
  ·rw[if_pos hn]
   refine⟨⟨h,?_,hkb.2⟩,rfl,⟨c.threads.length+1,by show c.threads.countP is1<_;omega,?_⟩,by show 0+c.threads.countP is1≤100;omega⟩
   ·show 0≤keep (c.now+(if 1073741824<n then 1073741824 else n))
    unfold keep
    split<;>split<;>(try split)<;>omega
   ·unfold JQ;rw[if_pos hn]
  ·rw[if_neg hn]
   exact⟨⟨h,hnow⟩,rfl,⟨c.threads.length+1,by omega,by unfold JQ;rw[if_neg hn]⟩,by show 0+c.threads.countP is1≤100;omega⟩
 generalize JQ c n=R at *
 refine ac0 Tryz.func102 Tryz.ntmps102 ?_
 have hrs:Tryz.f102.results = #[.cell 4 29,.tmp 5]:=rfl
 apply zjQ (P:=Tryz.prog) (r:=none) (N:=78) (fun t' s' v'=>v=v'∧(∃ y,TickR p c.now R c.threads.length y []∧s'=s++[.cells y.lv,.cells Z10])∧t' 2 = .ptr s.length 0∧t' 4 = .ptr (s.length+1) 0∧t' 6 = .nils)
 ·intro key
  by_cases hn:0<n
  ·rw[if_pos hn] at hR0
   by_cases hm:1073741824<n
   ·rw[if_pos hm] at hR0 hkp hkb
    generalize hk:keep (c.now+1073741824)=nw at *
    repeat' (first|(with_reducible first|refine uk ?_|refine wk ?_ ?_<;>intro _|(refine dr P102 mixed ?_ ?_ ?_;kernel_rfl;kernel_rfl)|refine And.intro ?_ ?_|refine zc hkp ?_)|simp -implicitDefEqProofs(disch:=first|assumption|omega)[*])
    all_goals exact key _ _ _ ⟨rfl,⟨_,hR0,rfl⟩,by simp[zh],by simp[zh],by simp[zh]⟩
   ·rw[if_neg hm] at hR0 hkp hkb
    generalize hk:keep (c.now+n)=nw at *
    repeat' (first|(with_reducible first|refine uk ?_|refine wk ?_ ?_<;>intro _|(refine dr P102 mixed ?_ ?_ ?_;kernel_rfl;kernel_rfl)|refine And.intro ?_ ?_|refine zc hkp ?_)|simp -implicitDefEqProofs(disch:=first|assumption|omega)[*])
    all_goals exact key _ _ _ ⟨rfl,⟨_,hR0,rfl⟩,by simp[zh],by simp[zh],by simp[zh]⟩
  ·rw[if_neg hn] at hR0
   have hm:¬ 1073741824<n:=by omega
   repeat' (first|(with_reducible first|refine uk ?_|refine wk ?_ ?_<;>intro _|(refine dr P102 mixed ?_ ?_ ?_;kernel_rfl;kernel_rfl)|refine And.intro ?_ ?_)|simp -implicitDefEqProofs(disch:=first|assumption|omega)[*])
   all_goals exact key _ _ _ ⟨rfl,⟨_,hR0,rfl⟩,by simp[zh],by simp[zh],by simp[zh]⟩
 clear hkp hkb hR0
 rintro t0 s0 v0 ⟨rfl,⟨y0,hR0,rfl⟩,e2,e4,e6⟩
 refine YK (β:=Cor × List Int × LV × List Nat × List AObj) false (fun q=>TickR p c.now R c.threads.length q.1 q.2.1∧GroE v q.2.2.2.1 q.2.1 q.2.2.1) (fun q=>q.1.threads.countP is1) (fun q=>[(6,q.2.2.1),(7,.any),(8,.any),(21,.any),(22,.any),(23,.any),(24,.any),(25,.any),(28,.any),(29,.any),(30,.any),(31,.any),(32,.any),(9,.any),(33,.any),(34,.any),(35,.any),(36,.any),(37,.any),(38,.any),(39,.any),(40,.any),(41,.any),(42,.any),(43,.any),(44,.any),(45,.any),(46,.any),(47,.any),(48,.any),(49,.any),(50,.any),(51,.any),(52,.any),(53,.any),(54,.any),(55,.any),(56,.any),(57,.any),(58,.any),(26,.any),(27,.any),(59,.any),(60,.any),(61,.any),(62,.any),(5,.any),(63,.any),(64,.any),(65,.any),(66,.any),(67,.any),(10,.any),(68,.any),(69,.any),(70,.any),(71,.any),(72,.any),(73,.any),(74,.any),(75,.any),(76,.any),(77,.any)]) (fun q=>s++(.cells q.1.lv :: .cells Z10 :: q.2.2.2.2)) (fun q=>q.2.2.2.1) ?_ ?_
 ·exact⟨(y0,[],.nils,v,[]),⟨hR0,GroE.nil _⟩,by (refine Fits.of ?_ (Off.refl _ _);simp[zh,zu, *]),rfl,rfl⟩
 rintro⟨y,w,xw,v1,J⟩ ⟨hR,hG⟩
 simp only at hR hG
 clear hR0
 have hyl:=hR.len
 have hws:=hR.small
 have hynow:=hR.inv.now
 have hgc:=hG.gro.cells
 have hyn:y.threads.length≤1000:=by omega
 clear hyl
 have hdw:=fun th=>zao (c:=y) (t:=yQ y) (x:=th) hyn
 have hdo:yQ y=dueK y y.threads.length:=rfl
 rw[hdo] at hdw
 simp only[Cor.lv,Z10]
 repeat' (first|(with_reducible first|refine uk ?_|refine wk ?_ ?_<;>intro _|(refine dr P102 mixed ?_ ?_ ?_;kernel_rfl;kernel_rfl)|refine And.intro ?_ ?_)|simp -implicitDefEqProofs(disch:=first|assumption|omega)[*])
 refine zC (β:=List AObj) false y.threads.length (fun k q=>True) (fun k q=>[(7,.int .i64 (dueK y k)),(8,.int .i64 k),(21,.any),(22,.any),(23,.any),(24,.any),(25,.any),(28,.any),(29,.any),(30,.any),(31,.any),(32,.any),(9,.any),(33,.any),(34,.any),(35,.any),(36,.any),(37,.any),(38,.any),(39,.any),(40,.any),(41,.any),(42,.any),(43,.any),(44,.any),(45,.any),(46,.any),(47,.any),(48,.any),(49,.any),(50,.any),(51,.any),(52,.any),(53,.any),(54,.any),(55,.any),(56,.any),(57,.any),(58,.any),(26,.any),(27,.any)]) (fun _ q=>s++(.cells y.lv :: .cells Z10 :: (J++q))) (fun _ _=>v1) ?_ ?_
 ·exact⟨[],trivial,by (refine Fits.of ?_ (Off.refl _ _);simp[zh,zu,dueK]),by simp[Cor.lv,Z10],rfl⟩
 rintro k J2 hk -
 simp only[Cor.lv,Z10]
 by_cases hlt:k<y.threads.length
 ·have hx:=zB (l:=y.threads) (i:=(k:Int)) (by omega) (by omega)
  have hsucc:=zeF y k
  have hf:=zlX y (k:=k) (by omega)
  have hfx:0≤dueK y k→ix y.threads (dueK y k)=some (.eptr (Enc.enc (nth y.threads (dueK y k).toNat))):=fun h0=>zB h0 (by omega)
  clear hdw hdo
  unfold at' at hsucc
  by_cases h1:(nth y.threads k).state=1
  ·by_cases h2:(nth y.threads k).on≤y.now
   ·by_cases h3:dueK y k<0
    ·rw[if_pos ⟨h1,h2,.inl h3⟩] at hsucc
     clear hfx
     generalize dueK y k=f at *
     generalize hg:dueK y (k+1)=f2 at *
     subst hsucc
     repeat' (first|(with_reducible first|refine uk ?_|refine wk ?_ ?_<;>intro _|(refine dr P102 mixed ?_ ?_ ?_;kernel_rfl;kernel_rfl)|refine And.intro ?_ ?_)|simp -implicitDefEqProofs(disch:=first|assumption|omega)[*])
     exact⟨hlt,J2++[.cells [.int .i64 (nth y.threads k).state,.int .i64 (nth y.threads k).on,row (nth y.threads k).frames,row (nth y.threads k).stack,.int .i64 (nth y.threads k).code]],trivial,by (refine Fits.of ?_ ?_;rotate_left;(repeat (first|with_reducible exact Off.refl _ _|refine Off.upd rfl ?_|refine Off.updO rfl ?_|refine Off.upds rfl ?_));simp[zh,zu,hg]),by simp[Cor.lv,Z10, *],rfl⟩
    ·have hfx:=hfx (by omega)
     by_cases h4:(nth y.threads k).on<(nth y.threads (dueK y k).toNat).on
     ·rw[if_pos ⟨h1,h2,.inr h4⟩] at hsucc
      generalize dueK y k=f at *
      generalize hg:dueK y (k+1)=f2 at *
      subst hsucc
      repeat' (first|(with_reducible first|refine uk ?_|refine wk ?_ ?_<;>intro _|(refine dr P102 mixed ?_ ?_ ?_;kernel_rfl;kernel_rfl)|refine And.intro ?_ ?_)|simp -implicitDefEqProofs(disch:=first|assumption|omega)[*])
      exact⟨hlt,J2++[.cells [.int .i64 (nth y.threads k).state,.int .i64 (nth y.threads k).on,row (nth y.threads k).frames,row (nth y.threads k).stack,.int .i64 (nth y.threads k).code]],trivial,by (refine Fits.of ?_ ?_;rotate_left;(repeat (first|with_reducible exact Off.refl _ _|refine Off.upd rfl ?_|refine Off.updO rfl ?_|refine Off.upds rfl ?_));simp[zh,zu,hg]),by simp[Cor.lv,Z10, *],rfl⟩
     ·rw[if_neg (fun h=>h.2.2.elim h3 h4)] at hsucc
      generalize dueK y k=f at *
      generalize hg:dueK y (k+1)=f2 at *
      subst hsucc
      repeat' (first|(with_reducible first|refine uk ?_|refine wk ?_ ?_<;>intro _|(refine dr P102 mixed ?_ ?_ ?_;kernel_rfl;kernel_rfl)|refine And.intro ?_ ?_)|simp -implicitDefEqProofs(disch:=first|assumption|omega)[*])
      exact⟨hlt,J2++[.cells [.int .i64 (nth y.threads k).state,.int .i64 (nth y.threads k).on,row (nth y.threads k).frames,row (nth y.threads k).stack,.int .i64 (nth y.threads k).code]],trivial,by (refine Fits.of ?_ ?_;rotate_left;(repeat (first|with_reducible exact Off.refl _ _|refine Off.upd rfl ?_|refine Off.updO rfl ?_|refine Off.upds rfl ?_));simp[zh,zu,hg]),by simp[Cor.lv,Z10, *],rfl⟩
   ·rw[if_neg (fun h=>h2 h.2.1)] at hsucc
    clear hfx
    generalize dueK y k=f at *
    generalize hg:dueK y (k+1)=f2 at *
    subst hsucc
    repeat' (first|(with_reducible first|refine uk ?_|refine wk ?_ ?_<;>intro _|(refine dr P102 mixed ?_ ?_ ?_;kernel_rfl;kernel_rfl)|refine And.intro ?_ ?_)|simp -implicitDefEqProofs(disch:=first|assumption|omega)[*])
    exact⟨hlt,J2++[.cells [.int .i64 (nth y.threads k).state,.int .i64 (nth y.threads k).on,row (nth y.threads k).frames,row (nth y.threads k).stack,.int .i64 (nth y.threads k).code]],trivial,by (refine Fits.of ?_ ?_;rotate_left;(repeat (first|with_reducible exact Off.refl _ _|refine Off.upd rfl ?_|refine Off.updO rfl ?_|refine Off.upds rfl ?_));simp[zh,zu,hg]),by simp[Cor.lv,Z10, *],rfl⟩
  ·rw[if_neg (fun h=>h1 h.1)] at hsucc
   clear hfx
   generalize dueK y k=f at *
   generalize hg:dueK y (k+1)=f2 at *
   subst hsucc
   repeat' (first|(with_reducible first|refine uk ?_|refine wk ?_ ?_<;>intro _|(refine dr P102 mixed ?_ ?_ ?_;kernel_rfl;kernel_rfl)|refine And.intro ?_ ?_)|simp -implicitDefEqProofs(disch:=first|assumption|omega)[*])
   exact⟨hlt,J2++[.cells [.int .i64 (nth y.threads k).state,.int .i64 (nth y.threads k).on,row (nth y.threads k).frames,row (nth y.threads k).stack,.int .i64 (nth y.threads k).code]],trivial,by (refine Fits.of ?_ ?_;rotate_left;(repeat (first|with_reducible exact Off.refl _ _|refine Off.upd rfl ?_|refine Off.updO rfl ?_|refine Off.upds rfl ?_));simp[zh,zu,hg]),by simp[Cor.lv,Z10, *],rfl⟩
 ·have hke:k=y.threads.length:=by omega
  subst hke
  have hgw:=hG.gro.weak
  have hgu:=hG.gro.under
  have hpre:=hG.1
  by_cases hd:yQ y<0
  ·have hend:=zhs hR hd
   subst hend
   rw[hdo] at hd
   clear hdw hdo
   generalize dueK y y.threads.length=f at *
   repeat' (first|(with_reducible first|refine uk ?_|refine wk ?_ ?_<;>intro _|(refine dr P102 mixed ?_ ?_ ?_;kernel_rfl;kernel_rfl)|refine And.intro ?_ ?_)|simp -implicitDefEqProofs(disch:=first|assumption|omega)[*])
   all_goals refine Ends.at (by simp[hgu]) ?_ hpre
   all_goals exact Weak.tup ⟨Weak.refl _,hgw,trivial⟩
  ·have hst:=zei hR (by omega)
   have hdp:=(ziU y).1.resolve_left hd
   have hxf:=zB (l:=y.threads) (i:=yQ y) hdp.1 hdp.2.1
   have hdw:=hdw {at' y.threads (yQ y) with state:=0,on:=0 } (by rw[← hdo];exact hdp.1) (by rw[← hdo];exact hdp.2.1)
   obtain⟨x2,v2,g2,_,gb⟩:=hG.push (P:=Tryz.prog) (t:=23) (t2:=23) (sz:=1) (by_:=8) (by kernel_rfl) rfl (by omega) (yQ y) (by omega)
   simp only[yG] at gb
   rw[hdo] at hd hst hdp hxf g2 gb hdw
   clear hdo hR
   simp only[at'] at hst hdw
   generalize dueK y y.threads.length=f at *
   generalize yd y f {nth y.threads f.toNat with state:=0,on:=0 } = z at *
   simp only[Cor.lv,Thr.lv] at hdw
   repeat' (first|(with_reducible first|refine uk ?_|refine wk ?_ ?_<;>intro _|(refine dr P102 mixed ?_ ?_ ?_;kernel_rfl;kernel_rfl)|refine And.intro ?_ ?_|refine zc hdw ?_)|simp -implicitDefEqProofs(disch:=first|assumption|omega)[*])
   all_goals exact⟨(z,w++[f],x2,v2,J++J2++[.cells [.int .i64 0,.int .i64 0,row (nth y.threads f.toNat).frames,row (nth y.threads f.toNat).stack,.int .i64 (nth y.threads f.toNat).code]]),hst.2,⟨hst.1,g2⟩,fz,by simp,rfl⟩
def made (id m:Nat):LV:=if m=0 then row ([]:List (List Int)) else .ref 1 id 0 m true
theorem vD (id m:Nat):Weak (.ref 1 id 0 m true) (made id m):=by
 unfold made
 split
 ·rename_i h;subst h;exact Weak.ref0 _ _ _ _
 ·exact Weak.refl _
theorem zdy (m:Nat){S:List AObj}{n:Nat} : DeepVs S n (xz [LV.nils] m) (zd (List.replicate m ([]:List Int))):=by
 induction m with
 | zero=>exact .nil
 | succ m ih=>
  unfold xz at *
  rw[List.replicate_succ,List.flatten_cons,List.replicate_succ,zy]
  exact .cons _ _ _ _ (.weak _ _ _ (.keep _ rfl) Weak.nilrow) ih
theorem Ze (m:Nat):(xz [LV.nils] m).length=m:=by
 unfold xz;simp
theorem vJ {S:List AObj}{n id m:Nat}(hn:n≤id)(hS:S[id]? = some (.cells (xz [LV.nils] m))):DeepV S n (made id m) (row (List.replicate m ([]:List Int))):=by
 unfold made
 split
 ·rename_i h;subst h;exact .keep _ (by simp)
 ·rename_i h
  refine .weak _ _ _ (.ref 1 id 0 m true (xz [LV.nils] m) (zd (List.replicate m ([]:List Int))) hn hS ?_ (by rw[Ze];omega) ?_) ?_
  ·intro e
   have:=Ze m
   rw[e] at this;simp at this;omega
  ·rw[List.drop_zero,List.take_of_length_le (by rw[Ze];omega)]
   exact zdy m
  ·exact Weak.row (α:=List Int) (yh.refl _) (by simp)
theorem zkf {n:Int}(h0:0≤n)(h1:n≤1000):zM Tryz.prog 105 [.int .i64 n] (.agg (Cor.lv ⟨0,[],[],[],List.replicate n.toNat [],[],[],[],List.replicate n.toNat [],List.replicate n.toNat []⟩)):=by
 intro s v
 refine zS (xp ?_)
 have hb1:n*24≤140737488355328:=by omega
 have hb2:n≤140737488355328:=by omega
 refine ac0 Tryz.func105 Tryz.ntmps105 ?_
 have hrs:Tryz.f105.results = #[.cell 2 29]:=rfl
 repeat' (first|(with_reducible first|refine uk ?_|refine wk ?_ ?_<;>intro _|(refine dr P105 mixed ?_ ?_ ?_;kernel_rfl;kernel_rfl)|refine And.intro ?_ ?_)|simp -implicitDefEqProofs(disch:=first|assumption|omega)[*])
 all_goals
  refine⟨.agg [_,_,_,_,made _ _,_,_,_,made _ _,made _ _],Weak.agg ⟨Weak.refl _,Weak.refl _,Weak.refl _,Weak.refl _,vD _ _,Weak.refl _,Weak.refl _,Weak.refl _,vD _ _,vD _ _,trivial⟩,_,wF.refl _,⟨_,rfl⟩,.agg _ _ ?_⟩
  exact .cons _ _ _ _ (.keep _ rfl) (.cons _ _ _ _ (.weak _ _ _ (.keep _ rfl) Weak.nilrow) (.cons _ _ _ _ (.weak _ _ _ (.keep _ rfl) Weak.nilrow) (.cons _ _ _ _ (.weak _ _ _ (.keep _ rfl) Weak.nilrow) (.cons _ _ _ _ (vJ (by omega) (by simp)) (.cons _ _ _ _ (.weak _ _ _ (.keep _ rfl) Weak.nilrow) (.cons _ _ _ _ (.weak _ _ _ (.keep _ rfl) Weak.nilrow) (.cons _ _ _ _ (.weak _ _ _ (.keep _ rfl) Weak.nilrow) (.cons _ _ _ _ (vJ (by omega) (by simp)) (.cons _ _ _ _ (vJ (by omega) (by simp)) .nil)))))))))
theorem zjW {m k:Nat}{l:List Int}(h1:m≤1000)(h3:k≤1000)(hl:l.length≤1000):zG Tryz.prog 104 [.int .i64 m,.int .i64 k,row l] (.agg (Cor.lv ⟨0,[],List.replicate m (-1),l,[],List.replicate m [],List.replicate k [],List.replicate l.length [],[],[]⟩)):=by
 intro s v
 refine zS (xp ?_)
 have hb1:(m:Int)*24≤140737488355328:=by omega
 have hb2:(m:Int)≤140737488355328:=by omega
 have hb3:(k:Int)*24≤140737488355328:=by omega
 have hb4:(k:Int)≤140737488355328:=by omega
 have hb5:(l.length:Int)*24≤140737488355328:=by omega
 have hb6:(l.length:Int)≤140737488355328:=by omega
 refine ac0 Tryz.func104 Tryz.ntmps104 ?_
 have hrs:Tryz.f104.results = #[.cell 6 29]:=rfl
 apply zfZ (P:=Tryz.prog) (r:=none) (N:=33) (own:=false) (id:=0) (fun t' s' v'=>v=v'∧∃ J i7 iL iW iD,s'=s++(.cells [.int .i64 0,.nils,.nils,.nils,.nils,.nils,.nils,.nils,.nils,.nils] :: J)∧t' 0 = .int .i64 m∧t' 2=row l∧t' 6 = .ptr s.length 0∧t' 7 = .ptr (s.length+(i7+1)) 0∧t' 8 = .int .i64 0∧
  J[i7]? = some (.cells [.int .i64 0,.nils,.nils,.nils,.nils,.ref 1 (s.length+(iL+1)) 0 m true,.ref 1 (s.length+(iW+1)) 0 k true,.ref 1 (s.length+(iD+1)) 0 l.length true,.nils,.nils])∧
  J[iL]? = some (.cells (xz [LV.nils] m))∧J[iW]? = some (.cells (xz [LV.nils] k))∧J[iD]? = some (.cells (xz [LV.nils] l.length))∧iL≠i7∧iW≠i7∧iD≠i7)
 ·intro key
  repeat' (first|(with_reducible first|refine uk ?_|refine wk ?_ ?_<;>intro _|(refine dr P104 mixed ?_ ?_ ?_;kernel_rfl;kernel_rfl)|refine And.intro ?_ ?_)|simp -implicitDefEqProofs(disch:=first|assumption|omega)[*])
  all_goals exact key _ _ _ ⟨rfl,_,_,_,_,_,rfl,rfl,rfl,rfl,rfl,rfl,rfl,rfl,rfl,rfl,by omega,by omega,by omega⟩
 rintro t0 s0 v0 ⟨rfl,J,i7,iL,iW,iD,rfl,e0,e2,e6,e7,e8,h7,hL,hW,hD,n1,n2,n3⟩
 have hl7:=(List.getElem?_eq_some_iff.1 h7).1
 have hget:∀ c,(J.set i7 c)[i7]? = some c:=fun c=>List.getElem?_set_self hl7
 have hself:J.set i7 (.cells [.int .i64 0,.nils,.nils,.nils,.nils,.ref 1 (s.length+(iL+1)) 0 m true,.ref 1 (s.length+(iW+1)) 0 k true,.ref 1 (s.length+(iD+1)) 0 l.length true,.nils,.nils])=J:=by
  have e:=(List.getElem?_eq_some_iff.1 h7).2
  rw[← e,List.set_getElem_self]
 refine zC (β:=LV × List Nat) false m (fun j q=>GroE v q.2 (List.replicate j (-1:Int)) q.1) (fun j q=>[(8,.int .i64 j),(17,.any),(18,.any),(19,.any),(22,.any),(23,.any),(24,.any),(25,.any),(26,.any),(20,.any),(21,.any)]) (fun _ q=>s++(.cells [.int .i64 0,.nils,.nils,.nils,.nils,.nils,.nils,.nils,.nils,.nils] :: J.set i7 (.cells [.int .i64 0,.nils,q.1,.nils,.nils,.ref 1 (s.length+(iL+1)) 0 m true,.ref 1 (s.length+(iW+1)) 0 k true,.ref 1 (s.length+(iD+1)) 0 l.length true,.nils,.nils]))) (fun _ q=>q.2) ?_ ?_
 ·exact⟨(.nils,v),GroE.nil _,by (refine Fits.of ?_ (Off.refl _ _);simp[zh,zu, *]),by rw[hself],rfl⟩
 rintro j ⟨x,v1⟩ hj hG
 simp only at hG
 have hgc:=hG.gro.cells
 by_cases hlt:j<m
 ·obtain⟨x2,v2,g2,_,gb⟩:=hG.push (P:=Tryz.prog) (t:=23) (t2:=23) (sz:=1) (by_:=8) (by kernel_rfl) rfl (by omega) (-1:Int) (by simp;omega)
  simp only[yG] at gb
  rw[← List.replicate_succ'] at g2
  have hc2:=g2.gro.cells
  have hlt':(j:Int)<m:=by omega
  repeat' (first|(with_reducible first|refine uk ?_|refine wk ?_ ?_<;>intro _|(refine dr P104 mixed ?_ ?_ ?_;kernel_rfl;kernel_rfl)|refine And.intro ?_ ?_)|simp -implicitDefEqProofs(disch:=first|assumption|omega)[*])
  all_goals exact⟨hlt,(x2,v2),g2,fz,by simp,rfl⟩
 ·have hje:j=m:=by omega
  subst hje
  have hlt':¬ (j:Int)<j:=by omega
  obtain⟨x4,v4,g4,_,ga⟩:=(GroE.nil v1 (α:=Int)).appr (P:=Tryz.prog) (t:=23) (t2:=23) (by_:=8) (by kernel_rfl) (by omega) l (by simp;omega)
  simp only[List.nil_append] at g4
  have hc4:=g4.gro.cells
  have hpre:=hG.1.trans g4.1
  repeat' (first|(with_reducible first|refine uk ?_|refine wk ?_ ?_<;>intro _|(refine dr P104 mixed ?_ ?_ ?_;kernel_rfl;kernel_rfl)|refine And.intro ?_ ?_)|simp -implicitDefEqProofs(disch:=first|assumption|omega)[*])
  all_goals
   refine⟨.agg [_,_,_,_,_,made _ _,made _ _,made _ _,_,_],Weak.agg ⟨Weak.refl _,Weak.refl _,Weak.refl _,Weak.refl _,Weak.refl _,vD _ _,vD _ _,vD _ _,Weak.refl _,Weak.refl _,trivial⟩,_,wF.refl _,⟨_,rfl⟩,.agg _ _ ?_⟩
   have hx1:DeepV (s++(.cells [.int .i64 0,.nils,x,x4,.nils,.ref 1 (s.length+(iL+1)) 0 j true,.ref 1 (s.length+(iW+1)) 0 k true,.ref 1 (s.length+(iD+1)) 0 l.length true,.nils,.nils] :: J.set i7 (.cells [.int .i64 0,.nils,x,x4,.nils,.ref 1 (s.length+(iL+1)) 0 j true,.ref 1 (s.length+(iW+1)) 0 k true,.ref 1 (s.length+(iD+1)) 0 l.length true,.nils,.nils]))) s.length x (row (List.replicate j (-1:Int))):=.weak _ _ _ (.keep _ (hG.gro.under _)) hG.gro.weak
   have hx4:DeepV (s++(.cells [.int .i64 0,.nils,x,x4,.nils,.ref 1 (s.length+(iL+1)) 0 j true,.ref 1 (s.length+(iW+1)) 0 k true,.ref 1 (s.length+(iD+1)) 0 l.length true,.nils,.nils] :: J.set i7 (.cells [.int .i64 0,.nils,x,x4,.nils,.ref 1 (s.length+(iL+1)) 0 j true,.ref 1 (s.length+(iW+1)) 0 k true,.ref 1 (s.length+(iD+1)) 0 l.length true,.nils,.nils]))) s.length x4 (row l):=.weak _ _ _ (.keep _ (g4.gro.under _)) g4.gro.weak
   refine .cons _ _ _ _ (.keep _ rfl) (.cons _ _ _ _ (.weak _ _ _ (.keep _ rfl) Weak.nilrow) (.cons _ _ _ _ hx1 (.cons _ _ _ _ hx4 (.cons _ _ _ _ (.weak _ _ _ (.keep _ rfl) Weak.nilrow) (.cons _ _ _ _ (vJ (by omega) ?_) (.cons _ _ _ _ (vJ (by omega) ?_) (.cons _ _ _ _ (vJ (by omega) ?_) (.cons _ _ _ _ (.weak _ _ _ (.keep _ rfl) Weak.nilrow) (.cons _ _ _ _ (.weak _ _ _ (.keep _ rfl) Weak.nilrow) .nil)))))))))
   ·rw[zL,List.getElem?_cons_succ,List.getElem?_set_ne (fun e=>n1 e.symm)];exact hL
   ·rw[zL,List.getElem?_cons_succ,List.getElem?_set_ne (fun e=>n2 e.symm)];exact hW
   ·rw[zL,List.getElem?_cons_succ,List.getElem?_set_ne (fun e=>n3 e.symm)];exact hD
theorem zjR {p:Prog}(hp:MayP p):zG Tryz.prog 33 [.agg [row p.funcs,.int .i64 p.mutexes,row p.conds,row p.semas,row p.chans,row p.choices,.int .i64 p.threads]] (.agg (ye p).lv):=by
 refine .of fun s v=>?_
 have hm:=hp.mutexes
 have hn9:=zjW (m:=p.mutexes.toNat) (k:=p.conds.length) (l:=p.semas) (by omega) (by have:=hp.conds.1;omega) (by have:=hp.semas.1;omega)
 rw[show ((p.mutexes.toNat:Nat):Int)=p.mutexes by omega] at hn9
 have hn10:=zkf (n:=p.chans.length) (by omega) (by have:=hp.chans.1;omega)
 have hfn:=hp.funcs
 have hfc:=hp.code _ (uh (l:=p.funcs) (t:=0) (by omega) (by omega))
 have hnew:=zch (fs:=p.funcs) (mu:=p.mutexes) (th:=p.threads) (co:=p.conds) (se:=p.semas) (ch:=p.chans) (cho:=p.choices) (f:=0) (by omega) (by omega) hfc.1 hfc.2.1
 have hth:Weak (.imm 5 1 (zU p 0).lv .full) (row [zU p 0]):=Weak.row (l:=[zU p 0]) (by rw[zy];simp only[Zr,List.append_nil];exact yh.refl _) rfl
 unfold ye
 rw[show (p.chans.length:Int).toNat=p.chans.length from Int.toNat_natCast _] at hn10
 generalize List.replicate p.chans.length ([]:List Int)=rc at *
 generalize List.replicate p.mutexes.toNat ([]:List Int)=rm at *
 generalize List.replicate p.mutexes.toNat (-1:Int)=ro at *
 generalize List.replicate p.conds.length ([]:List Int)=rw' at *
 generalize List.replicate p.semas.length ([]:List Int)=rs at *
 have hnew':zM Tryz.prog 106 [.agg [row p.funcs,.int .i64 p.mutexes,row p.conds,row p.semas,row p.chans,row p.choices,.int .i64 p.threads],.int .i64 0] (.agg (zU p 0).lv):=hnew
 clear hnew
 generalize zU p 0=th0 at *
 simp only[Cor.lv,Thr.lv] at hn9 hn10 hnew' hth ⊢
 refine ac0 Tryz.func33 Tryz.ntmps33 ?_
 have hrs:Tryz.f33.results = #[.cell 2 29]:=rfl
 repeat' (first|(with_reducible first|refine uk ?_|refine wk ?_ ?_<;>intro _|refine And.intro ?_ ?_|refine zg hn9 (fun v1 hv1=>?_)|refine zc hn10 ?_|refine zc hnew' ?_)|simp -implicitDefEqProofs(disch:=first|assumption|omega)[*])
 all_goals refine Ends.at (by simp) (Weak.agg ?_) hv1
 all_goals exact⟨Weak.refl _,hth,Weak.refl _,Weak.refl _,Weak.refl _,Weak.refl _,Weak.refl _,Weak.refl _,Weak.refl _,Weak.refl _,trivial⟩
theorem XV (c:Cor):∀ (l:List Int) (a:Int × Nat),(l≠[]∨a.2≠0)→(∀ t∈l,c.now<(at' c.threads t).on∧(at' c.threads t).on≤1073741824)→(a.2≠0→c.now<a.1∧a.1≤1073741824)→c.now<(l.foldl (vg c) a).1∧(l.foldl (vg c) a).1≤1073741824
 | [],a,h,_,ha=>ha (h.resolve_left (by simp))
 | t :: l,a,_,hl,ha=>by
  rw[List.foldl_cons]
  refine XV c l _ (.inr (by simp[vg])) (fun u hu=>hl u (by simp[hu])) fun _=>?_
  have ht:=hl t (by simp)
  unfold vg
  simp only
  split
  ·exact ht
  ·exact ha (by omega)
theorem zjc {p:Prog}{c:Cor}(h:Inv p (-1) noD c)(hl:(KY c).2=true):c.now<(KY c).1∧(KY c).1≤1073741824:=by
 unfold KY at hl ⊢
 simp only[decide_eq_true_eq] at hl
 refine XV c _ _ (.inl fun e=>by rw[e] at hl;simp at hl) (fun t ht=>?_) (fun h=>absurd rfl h)
 have hm:=YP ht
 exact(h.one t.toNat (by omega) (by omega)).sleep hm.2.2
theorem zge {p:Prog}{c:Cor}{l:List Int}{k:Nat}(h:k<l.length):xG p c (l.take (k+1))=((QM p (xG p c (l.take k)).1 (nth l k)).1,(xG p c (l.take k)).2++(QM p (xG p c (l.take k)).1 (nth l k)).2):=by
 unfold xG
 rw[za h,List.foldl_append];rfl
theorem zjv {p:Prog}(hp:MayP p){c:Cor}(h:Inv p (-1) noD c)(k:Int):(QM p c k).2.length≤1000:=by
 unfold QM
 split
 ·split<;>simp
 ·unfold XA
  split
  ·simp
  ·split
   ·simp
   ·exact(ZO hp h (by omega) (by omega) (by omega)).2.1
set_option maxHeartbeats 8000000 in
theorem zku {p:Prog}(hp:MayP p){c:Cor}(h:Inv p (-1) noD c){l:List Int}{most:Int}(hl:l.length≤9223372036854775807)(hI:∀ x∈l,I64 x)(hm0:0≤most)(hm1:most≤200) :
  zG Tryz.prog 32 [.agg [row p.funcs,.int .i64 p.mutexes,row p.conds,row p.semas,row p.chans,row p.choices,.int .i64 p.threads],.agg [.int .i64 c.now,row c.threads,row c.owners,row c.counts,row c.bufs,row c.lockq,row c.waitq,row c.downq,row c.sendq,row c.recvq],row l,.int .i64 most] (.tup [.agg (xG p c (l.take most.toNat)).1.lv,row (xG p c (l.take most.toNat)).2]):=by
 refine .of fun s v=>?_
 have hn2:=hp.threads.2
 have hlen:(l.take most.toNat).length≤200:=by rw[List.length_take];omega
 refine ac0 Tryz.func32 Tryz.ntmps32 ?_
 have hrs:Tryz.f32.results = #[.cell 8 29,.tmp 9]:=rfl
 repeat' (first|(with_reducible first|refine uk ?_|refine wk ?_ ?_<;>intro _|(refine dr P32 mixed ?_ ?_ ?_;kernel_rfl;kernel_rfl)|refine And.intro ?_ ?_)|simp -implicitDefEqProofs(disch:=first|assumption|omega)[*])
 refine zC (β:=LV × List Nat × List AObj) false (l.take most.toNat).length (fun k q=>GroE v q.2.1 (xG p c ((l.take most.toNat).take k)).2 q.1∧(xG p c ((l.take most.toNat).take k)).2.length≤1000*k) (fun k q=>[(10,q.1),(11,.int .i64 k),(21,.any),(22,.any),(23,.any),(24,.any),(25,.any),(26,.any),(27,.any),(28,.any),(29,.any),(32,.any),(33,.any),(12,.any),(34,.any),(35,.any),(36,.any),(38,.any),(39,.any),(37,.any),(40,.any),(41,.any),(13,.any),(14,.any),(42,.any),(44,.any),(45,.any),(46,.any),(47,.any),(48,.any),(49,.any),(43,.any),(50,.any),(51,.any),(15,.any),(16,.any),(52,.any),(54,.any),(55,.any),(56,.any),(57,.any),(58,.any),(59,.any),(60,.any),(61,.any),(62,.any),(63,.any),(64,.any),(65,.any),(66,.any),(53,.any),(67,.any),(68,.any),(69,.any),(70,.any),(17,.any),(18,.any),(19,.any),(20,.any),(71,.any),(72,.any),(73,.any),(74,.any),(30,.any),(31,.any)]) (fun k q=>s++(.cells [row p.funcs,.int .i64 p.mutexes,row p.conds,row p.semas,row p.chans,row p.choices,.int .i64 p.threads] :: .cells (xG p c ((l.take most.toNat).take k)).1.lv :: .cells Z10 :: q.2.2)) (fun _ q=>q.2.1) ?_ ?_
 ·exact⟨(.nils,v,[]),⟨GroE.nil _,by simp[xG]⟩,fz0,rfl,rfl⟩
 rintro k ⟨xs,v1,J⟩ hk ⟨hG,hb⟩
 simp only at hG hb
 have hgc:=hG.gro.cells
 have hinv:=JS hp h ((l.take most.toNat).take k)
 by_cases hlt:k<(l.take most.toNat).length
 ·have hsucc:=zge (p:=p) (c:=c) hlt
  have hlt2:k<l.length∧(k:Int)<most:=by rw[List.length_take] at hlt;omega
  have hnk:nth (l.take most.toNat) k=nth l k:=by
   unfold nth;rw[List.getD_eq_getElem?_getD,List.getD_eq_getElem?_getD,List.getElem?_take_of_lt (by omega)]
  rw[hnk] at hsucc
  have hpb:=zjv hp hinv (nth l k)
  have hb2:(xG p c ((l.take most.toNat).take (k+1))).2.length≤1000*(k+1):=by rw[hsucc];simp only[List.length_append];omega
  generalize (xG p c ((l.take most.toNat).take k)).2=ev at *
  generalize hy:(xG p c ((l.take most.toNat).take k)).1=y at *
  have hsz:=hinv.nthr.2
  have hin:=in_p (c:=y) (by omega) 0
  have hilen:=zbp y 0 y.threads.length
  have hinm:=fun t=> @YP y 0 t
  have hxk:=zB (l:=l) (i:=(k:Int)) (by omega) (by omega)
  clear hnk
  obtain⟨hk1,hk2⟩:=hlt2
  have hk1':(k:Int)<l.length:=by omega
  by_cases hz:(inC y 0).length=0
  ·have hpk:QM p y (nth l k)=(if (KY y).2=true then ((JQ y ((KY y).1-y.now)).1,[]) else (y,[])):=by unfold QM;rw[if_pos hz]
   rw[hpk] at hsucc hpb
   have hnx:=zkX (c:=y) (by omega)
   have hni:=zjc hinv
   have hnow:=hinv.now
   generalize inC y 0=l0 at *
   generalize KY y=nx at *
   obtain⟨a,is⟩:=nx
   simp only at hni hsucc hnx
   cases is
   ·simp only[Bool.false_eq_true,if_false] at hsucc
    simp only[List.append_nil] at hsucc
    have hG2:GroE v v1 (xG p c ((l.take most.toNat).take (k+1))).2 xs:=by rw[hsucc];exact hG
    have hst:(xG p c ((l.take most.toNat).take (k+1))).1=y:=by rw[hsucc]
    clear hsucc hpk hni hpb hG hy
    generalize hq:xG p c ((l.take most.toNat).take (k+1))=q at *
    simp only[Cor.lv,Z10]
    repeat' (first|(with_reducible first|refine uk ?_|refine wk ?_ ?_<;>intro _|(refine dr P32 mixed ?_ ?_ ?_;kernel_rfl;kernel_rfl)|refine And.intro ?_ ?_|refine zg hin (fun v2 hv2=>?_)|refine zg hnx (fun v3 hv3=>?_))|simp -implicitDefEqProofs(disch:=first|assumption|omega)[*])
    all_goals exact⟨hlt,(xs,v3,J),⟨by rw[hq];exact(GroC.mono hG2 (hv2.trans hv3)),by rw[hq];exact hb2⟩,fz,by simp[hq,hst,Cor.lv,Z10],rfl⟩
   ·simp only[if_true,List.append_nil] at hsucc
    have hni:=hni rfl
    have htk:=zkE hp hinv (n:=a-y.now) (by omega) (by omega)
    have hti:=zaP hinv (a-y.now)
    generalize JQ y (a-y.now)=tk at *
    obtain⟨z,w⟩:=tk
    simp only at htk hsucc
    have hG2:GroE v v1 (xG p c ((l.take most.toNat).take (k+1))).2 xs:=by rw[hsucc];exact hG
    have hst:(xG p c ((l.take most.toNat).take (k+1))).1=z:=by rw[hsucc]
    clear hsucc hpk hpb hG hy
    generalize hq:xG p c ((l.take most.toNat).take (k+1))=q at *
    simp only[Cor.lv,Z10] at htk ⊢
    repeat' (first|(with_reducible first|refine uk ?_|refine wk ?_ ?_<;>intro _|(refine dr P32 mixed ?_ ?_ ?_;kernel_rfl;kernel_rfl)|refine And.intro ?_ ?_|refine zg hin (fun v2 hv2=>?_)|refine zg hnx (fun v3 hv3=>?_)|refine zg htk (fun v4 hv4=>?_))|simp -implicitDefEqProofs(disch:=first|assumption|omega)[*])
    all_goals exact⟨hlt,(xs,v4,J++[.cells [.int .i64 z.now,row z.threads,row z.owners,row z.counts,row z.bufs,row z.lockq,row z.waitq,row z.downq,row z.sendq,row z.recvq]]),⟨by rw[hq];exact(GroC.mono hG2 (hv2.trans (hv3.trans hv4))),by rw[hq];exact hb2⟩,fz,by simp[hq,hst,Cor.lv,Z10],rfl⟩
  ·have hpk:QM p y (nth l k)=((XA p y (at' (inC y 0) (zA (nth l k) (inC y 0).length))).1,(XA p y (at' (inC y 0) (zA (nth l k) (inC y 0).length))).2.1):=by unfold QM;rw[if_neg hz]
   have hz':¬ ((inC y 0).length:Int)=0:=by omega
   have har:=yw (n:=nth l k) (m:=(inC y 0).length) (hI _ (zm hk1)) (by omega)
   have hai:=yl (n:=nth l k) (m:=(inC y 0).length) (by omega)
   have hxa:=zB (l:=inC y 0) hai.1 hai.2
   have hmem:=hinm _ (uh hai.1 hai.2)
   have hstp:=zlT hp hinv hmem.1 hmem.2.1 hmem.2.2
   have hstc:XA p y (at' (inC y 0) (zA (nth l k) (inC y 0).length))=((uj p y (at' (inC y 0) (zA (nth l k) (inC y 0).length))).c,(uj p y (at' (inC y 0) (zA (nth l k) (inC y 0).length))).seen,JA (uj p y (at' (inC y 0) (zA (nth l k) (inC y 0).length))) (at' (inC y 0) (zA (nth l k) (inC y 0).length)),0):=by
    unfold XA
    rw[if_neg (by omega),if_neg (by omega)]
   rw[hpk,hstc] at hsucc hpb
   simp only at hsucc hpb
   clear hstc hpk hinm
   have hat:at' (inC y 0) (zA (nth l k) (inC y 0).length)=nth (inC y 0) (zA (nth l k) (inC y 0).length).toNat:=rfl
   rw[hat] at hstp hsucc hmem hpb
   clear hat
   generalize zA (nth l k) (inC y 0).length=r at *
   generalize inC y 0=l0 at *
   generalize JA (uj p y (nth l0 r.toNat)) (nth l0 r.toNat)=w at *
   generalize uj p y (nth l0 r.toNat)=z at *
   have hst:(xG p c ((l.take most.toNat).take (k+1))).1=z.c:=by rw[hsucc]
   have hev:(xG p c ((l.take most.toNat).take (k+1))).2=ev++z.seen:=by rw[hsucc]
   clear hsucc hy hinv
   generalize hq:xG p c ((l.take most.toNat).take (k+1))=q at *
   simp only[Cor.lv,Z10] at hstp ⊢
   repeat' (first|(with_reducible first|refine uk ?_|refine wk ?_ ?_<;>intro _|(refine dr P32 mixed ?_ ?_ ?_;kernel_rfl;kernel_rfl)|refine And.intro ?_ ?_|refine zg hin (fun v2 hv2=>?_)|refine zc har ?_|refine zg hstp (fun v3 hv3=>?_))|simp -implicitDefEqProofs(disch:=first|assumption|omega)[*])
   all_goals
    have hG2:GroE v v3 ev xs:=GroC.mono hG (hv2.trans hv3)
    obtain⟨x4,v4,g4,_,ga⟩:=hG2.appr (P:=Tryz.prog) (t:=65) (t2:=65) (by_:=24) (by kernel_rfl) (by omega) z.seen (by omega)
    have hc4:=g4.gro.cells
    repeat' (first|(with_reducible first|refine uk ?_|refine wk ?_ ?_<;>intro _|(refine dr P32 mixed ?_ ?_ ?_;kernel_rfl;kernel_rfl)|refine And.intro ?_ ?_)|simp -implicitDefEqProofs(disch:=first|assumption|omega)[*])
    exact⟨hlt,(x4,v4,J++[.cells [.int .i64 z.c.now,row z.c.threads,row z.c.owners,row z.c.counts,row z.c.bufs,row z.c.lockq,row z.c.waitq,row z.c.downq,row z.c.sendq,row z.c.recvq]]),⟨by rw[hq,hev];exact g4,by rw[hq];exact hb2⟩,fz,by simp[hq,hst,Cor.lv,Z10],rfl⟩
 ·have hke:k=(l.take most.toNat).length:=by omega
  have hlt2:¬ ((k:Int)<l.length)∨¬ (k:Int)<most:=by rw[List.length_take] at hlt;omega
  subst hke
  rw[List.take_of_length_le (Nat.le_refl _)] at hG hb
  have hfull:(l.take most.toNat).take (l.take most.toNat).length=l.take most.toNat:=List.take_of_length_le (Nat.le_refl _)
  generalize hk0:(l.take most.toNat).length=k0 at *
  have hgw:=hG.gro.weak
  have hgu:=hG.gro.under
  have hpre:=hG.1
  simp only[hfull]
  generalize xG p c (l.take most.toNat)=q at *
  simp only[Cor.lv,Z10]
  by_cases hkl:(k0:Int)<l.length
  ·have hkm:¬ (k0:Int)<most:=hlt2.resolve_left (fun h=>h hkl)
   repeat' (first|(with_reducible first|refine uk ?_|refine wk ?_ ?_<;>intro _|(refine dr P32 mixed ?_ ?_ ?_;kernel_rfl;kernel_rfl)|refine And.intro ?_ ?_)|simp -implicitDefEqProofs(disch:=first|assumption|omega)[*])
   all_goals refine Ends.at (by simp[hgu]) ?_ hpre
   all_goals exact Weak.tup ⟨Weak.refl _,hgw,trivial⟩
  ·repeat' (first|(with_reducible first|refine uk ?_|refine wk ?_ ?_<;>intro _|(refine dr P32 mixed ?_ ?_ ?_;kernel_rfl;kernel_rfl)|refine And.intro ?_ ?_)|simp -implicitDefEqProofs(disch:=first|assumption|omega)[*])
   all_goals refine Ends.at (by simp[hgu]) ?_ hpre
   all_goals exact Weak.tup ⟨Weak.refl _,hgw,trivial⟩
end Go.Hb
end
