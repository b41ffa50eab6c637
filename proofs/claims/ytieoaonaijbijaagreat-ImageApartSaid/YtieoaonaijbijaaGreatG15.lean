/-
  A layer for reasoning about the program's calls, and contracts of its functions. CONDITIONS: none; each theorem bears its own.
-/
import Derived.Test.YtieoaonaijbijaaGreatG14
import Derived.Test.YtieoaonaijbijaaGreatG09
import Derived.Shelf.Small.Bits
set_option linter.unusedVariables false
set_option linter.unusedSimpArgs false
section
namespace Go.Hb
open Go Go.Proofs Go.RowKit
set_option maxRecDepth 100000
set_option maxHeartbeats 800000
attribute [-simp] aC aL aOper aThen aInBlock aIf aPlan aAppend aLen aIndexAddr aSlice aCells aBounds lBr aq initT aev aAppendOwn aAppendNil aAppendNew aAppendRef LV.cells LV.cellsOk getElem?_pos getElem?_neg
theorem cloneI_c {l:List Int} {s:List AObj} {v:List Nat} (hb:l.length≤maxLen) (hb2:l.length*8≤140737488355328):aCalls Tryz.prog 209 [row l] s v (CloneR l s v):=by
 by_cases hl:l=[]
 ·subst hl
  refine aCalls_emp ?_ ?_
  ·refine ac1 Tryz.func209 Tryz.ntmps209 ?_
   have hrs:Tryz.f209.results = #[.tmp 2]:=rfl
   repeat' (first|(with_reducible first|refine uk ?_|refine wk ?_ ?_<;>intro _)|simp -implicitDefEqProofs(disch:=first|assumption|omega)[*])
   exact⟨rfl,.inl ⟨rfl,rfl,.inl rfl⟩⟩
  ·have ha:=own_clone0 (P:=Tryz.prog) (t:=23) (t2:=23) (sz:=1) (by_:=8) (by kernel_rfl) s
   refine ac1 Tryz.func209 Tryz.ntmps209 ?_
   have hrs:Tryz.f209.results = #[.tmp 2]:=rfl
   repeat' (first|(with_reducible first|refine uk ?_|refine wk ?_ ?_<;>intro _)|simp -implicitDefEqProofs(disch:=first|assumption|omega)[*])
   exact⟨rfl,.inl ⟨rfl,rfl,.inr rfl⟩⟩
 ·have h0:l.length≠0:=fun h=>hl (List.length_eq_zero_iff.1 h)
  have ha:=own_clone (P:=Tryz.prog) (t:=23) (t2:=23) (sz:=1) (by_:=8) (by kernel_rfl) rfl h0 hb hb2 s
  show aCalls Tryz.prog 209 [.imm 1 l.length (rowCs l) .no] s v (CloneR l s v)
  replace ha:aAppendOwn Tryz.prog 23 23 (.imm 1 0 [] .full) (.imm 1 l.length (rowCs l) .no) s=some (.ref 1 s.length 0 l.length false,s++[.cells (rowCs l)]):=ha
  refine ac1 Tryz.func209 Tryz.ntmps209 ?_
  have hrs:Tryz.f209.results = #[.tmp 2]:=rfl
  repeat' (first|(with_reducible first|refine uk ?_|refine wk ?_ ?_<;>intro _)|simp -implicitDefEqProofs(disch:=first|assumption|omega)[*])
  exact⟨rfl,.inr ⟨hl,rfl,rfl⟩⟩
theorem sort_ok:IntSortOk Tryz.prog 210:=fun blk off cap zs w h1 h2 h3=>Go.Proofs.Any.slices_Sort_int Tryz.sortInt blk off cap zs w h1 h2 h3
theorem sort_c {s:List AObj} {v:List Nat} {id:Nat} {l:List Int} (hs:s[id]? = some (.cells (rowCs l))) (hne:l≠[]) (hn:l.length<4611686018427387904) :
  aCalls Tryz.prog 210 [.ref 1 id 0 l.length false] s v fun y s' v'=>y = .tup []∧s.set id (.cells (rowCs (sorted l)))=s'∧v=v':=sortI_c (by kernel_rfl) sort_ok hs hne hn
theorem bitsLen_0:PureE Tryz.prog 259 [.int .u64 0] (.int .i64 0):=fun s v=>by
 refine⟨by kernel_rfl,fun C vs hok hτ hargs=>?_⟩
 obtain⟨v0,r0,e0,h0,e2⟩:=hargs
 subst e2
 simp only [RelV] at h0
 subst h0
 have hvs:vs = #[.int .u64 0]:=by cases vs;simp at e0;simp [e0]
 subst hvs
 refine(Go.Proofs.Any.bits_Len (P:=Tryz.prog) (ρ:=Tryz.sortInt_ren) {Tryz.sortInt with } 0 C.w (by decide) (by decide)).mono ?_
 rintro e w' ⟨rfl,rfl⟩
 exact⟨C,_,_,s,v,rfl,rfl,Ctx.le.refl C,hok,hτ,(by simp only [RelV];rfl),rfl,rfl,rfl⟩
theorem insert_0 {x:LV} : PureE Tryz.prog 285 [x,.int .i64 0,.int .i64 0] (.tup []):=by
 refine .of fun s v=>?_
 refine ac0 Tryz.func285 Tryz.ntmps285 ?_
 have hrs:Tryz.f285.results = #[]:=rfl
 repeat' (first|(with_reducible first|refine uk ?_|refine wk ?_ ?_<;>intro _)|simp -implicitDefEqProofs(disch:=first|assumption|omega)[*])
 refine aWl_for (β:=Unit) false 0 (fun _ _=>True) (fun k _=>[(6,.int .i64 1),(10,.any),(11,.any),(12,.any),(15,.any),(7,.any),(16,.any),(17,.any),(18,.any),(19,.any),(20,.any),(21,.any),(22,.any),(23,.any),(24,.any),(25,.any),(26,.any),(27,.any),(28,.any),(29,.any),(30,.any),(33,.any),(34,.any),(35,.any),(36,.any),(37,.any),(38,.any),(39,.any),(40,.any),(41,.any),(42,.any),(43,.any),(44,.any),(45,.any),(46,.any),(47,.any),(48,.any),(31,.any),(32,.any),(13,.any),(14,.any)]) (fun _ _=>s) (fun _ _=>v) ?_ ?_
 ·exact⟨(),trivial,fz0,rfl,rfl⟩
 rintro k _ hk -
 repeat' (first|(with_reducible first|refine uk ?_|refine wk ?_ ?_<;>intro _|(refine dr P285 mixed ?_ ?_ ?_;kernel_rfl;kernel_rfl))|simp -implicitDefEqProofs(disch:=first|assumption|omega)[*])
 exact EndsE.eq rfl rfl
theorem pdq_0 {x:LV} : PureE Tryz.prog 258 [x,.int .i64 0,.int .i64 0,.int .i64 0] (.tup []):=by
 refine .of fun s v=>?_
 refine ac0 Tryz.func258 Tryz.ntmps258 ?_
 have hrs:Tryz.f258.results = #[]:=rfl
 repeat' (first|(with_reducible first|refine uk ?_|refine wk ?_ ?_<;>intro _|(refine dr P258 mixed ?_ ?_ ?_;kernel_rfl;kernel_rfl)|refine callE insert_0 ?_)|simp -implicitDefEqProofs(disch:=first|assumption|omega)[*])
 refine aWl_for (β:=Unit) false 0 (fun _ _=>True) (fun k _=>[(1,.int .i64 0),(2,.int .i64 0),(3,.int .i64 0),(8,.bool true),(9,.bool true),(19,.any),(20,.any),(21,.any),(10,.any),(22,.any),(23,.any),(24,.any),(25,.any),(26,.any),(27,.any),(28,.any),(29,.any),(30,.any),(31,.any),(32,.any),(33,.any),(34,.any),(35,.any),(36,.any),(37,.any),(38,.any),(39,.any),(40,.any),(41,.any),(43,.any),(44,.any),(45,.any),(46,.any),(42,.any),(47,.any),(48,.any),(11,.any),(12,.any),(49,.any),(50,.any),(51,.any),(52,.any),(53,.any),(54,.any),(55,.any),(56,.any),(57,.any),(58,.any),(59,.any),(60,.any),(61,.any),(62,.any),(63,.any),(64,.any),(65,.any),(66,.any),(67,.any),(68,.any),(69,.any),(70,.any),(71,.any),(72,.any),(73,.any),(74,.any),(75,.any),(76,.any),(77,.any),(78,.any),(79,.any),(80,.any),(81,.any),(82,.any),(83,.any),(84,.any),(85,.any),(86,.any),(87,.any),(88,.any),(89,.any),(90,.any),(91,.any),(92,.any),(13,.any),(93,.any),(95,.any),(96,.any),(97,.any),(98,.any),(99,.any),(94,.any),(100,.any),(101,.any),(14,.any),(15,.any),(102,.any),(103,.any),(104,.any),(105,.any),(106,.any),(107,.any),(108,.any),(16,.any),(17,.any),(109,.any),(110,.any),(18,.any),(111,.any),(112,.any),(113,.any),(114,.any),(115,.any),(116,.any),(117,.any),(118,.any),(119,.any),(120,.any),(121,.any),(122,.any),(123,.any),(124,.any),(125,.any),(126,.any),(127,.any),(128,.any),(129,.any),(130,.any),(131,.any),(132,.any),(133,.any)]) (fun _ _=>s) (fun _ _=>v) ?_ ?_
 ·exact⟨(),trivial,fz0,rfl,rfl⟩
 rintro k _ hk -
 repeat' (first|(with_reducible first|refine uk ?_|refine wk ?_ ?_<;>intro _|(refine dr P258 mixed ?_ ?_ ?_;kernel_rfl;kernel_rfl)|refine callE insert_0 ?_)|simp -implicitDefEqProofs(disch:=first|assumption|omega)[*])
 exact EndsE.eq rfl rfl
theorem sort_0 {x:LV} (hx:aLen Tryz.prog 23 x=some (.int .i64 0)):PureE Tryz.prog 210 [x] (.tup []):=by
 refine .of fun s v=>?_
 have hw:IntKind.u64.wrap 0=0:=by decide
 refine ac0 Tryz.func210 Tryz.ntmps210 ?_
 have hrs:Tryz.f210.results = #[]:=rfl
 repeat' (first|(with_reducible first|refine uk ?_|refine wk ?_ ?_<;>intro _|refine callE bitsLen_0 ?_|refine callE pdq_0 ?_)|simp -implicitDefEqProofs(disch:=first|assumption|omega)[*])
 exact EndsE.eq rfl rfl
def adj (l:List Int):Prop:=∀ j,j+1<l.length→nth l j≠nth l (j+1)
def CompactR (s:List AObj) (v:List Nat) (id:Nat) (L:List Int) (y:LV) (s':List AObj) (v':List Nat):Prop:=
 v=v'∧((adj L∧y = .ref 1 id 0 L.length false∧s=s')∨(¬ adj L∧∃ k cs fl,k<L.length∧y = .ref 1 id 0 k fl∧s.set id (.cells cs)=s'))
set_option maxHeartbeats 4000000 in
theorem compact_c {s:List AObj} {v:List Nat} {id:Nat} {L:List Int} (hs:s[id]? = some (.cells (rowCs L))) (hL:1≤L.length) (hb:L.length<4611686018427387904) :
  aCalls Tryz.prog 211 [.ref 1 id 0 L.length false] s v (CompactR s v id L):=by
 have hid:=(List.getElem?_eq_some_iff.1 hs).1
 by_cases h1:L.length<2
 ·refine ac0 Tryz.func211 Tryz.ntmps211 ?_
  have hrs:Tryz.f211.results = #[.tmp 2]:=rfl
  repeat' (first|(with_reducible first|refine uk ?_|refine wk ?_ ?_<;>intro _|(refine dr P211 mixed ?_ ?_ ?_;kernel_rfl;kernel_rfl))|simp -implicitDefEqProofs(disch:=first|assumption|omega)[*])
  all_goals first|(exfalso;omega)|exact⟨rfl,.inl ⟨fun j hj=>by omega,rfl,rfl⟩⟩
 have hlen:(rowCs L).length=L.length:=by rw [rowCs_len];simp
 refine ac0 Tryz.func211 Tryz.ntmps211 ?_
 have hrs:Tryz.f211.results = #[.tmp 2]:=rfl
 repeat' (first|(with_reducible first|refine uk ?_|refine wk ?_ ?_<;>intro _|(refine dr P211 mixed ?_ ?_ ?_;kernel_rfl;kernel_rfl))|simp -implicitDefEqProofs(disch:=first|assumption|omega)[*])
 all_goals first|(exfalso;omega)|skip
 refine aW_for (β:=Nat) false (L.length - 1) (fun k q=>q≤k+1∧k+1≤q∧∀ j,j<k→nth L j≠nth L (j+1)) (fun k q=>[(3,.int .i64 q),(10,.any),(11,.any),(12,.any),(13,.any),(16,.any),(17,.any),(18,.any),(19,.any),(20,.any),(21,.any),(22,.any),(23,.any),(24,.any),(25,.any),(26,.any),(27,.any),(28,.any),(4,.any),(5,.any),(29,.any),(30,.any),(31,.any),(32,.any),(35,.any),(36,.any),(37,.any),(38,.any),(39,.any),(40,.any),(41,.any),(42,.any),(43,.any),(44,.any),(45,.any),(46,.any),(47,.any),(48,.any),(49,.any),(50,.any),(51,.any),(52,.any),(53,.any),(33,.any),(34,.any),(54,.any),(55,.any),(56,.any),(57,.any),(58,.any),(59,.any),(2,.any),(14,.any),(15,.any)]) (fun _ _=>s) (fun _ _=>v) ?_ ?_
 ·exact⟨1,⟨by omega,by omega,fun j hj=>by omega⟩,fz0,rfl,rfl⟩
 rintro k q hk ⟨hq1,hq2,hI⟩
 by_cases hq:q<L.length
 ·have hm:((q:Int) - 1).toNat=q - 1:=by omega
  have h11:(1:Int)≤q:=by omega
  have h12:(q:Int) - 1<L.length:=by omega
  have h13:q<L.length+1:=by omega
  have h14:(q:Int)<L.length:=by omega
  have hsl:=aSlice_ref_l (P:=Tryz.prog) (t:=23) (sz:=1) (id:=id) (off:=0) (n:=L.length) (fl:=false) (κ:=.i64) (a:=q) (by omega) h14
  have hl1:=rowInt_at (l:=L) (i:=q) hq
  have hl2:=rowInt_at (l:=L) (i:=q - 1) (by omega)
  by_cases he:nth L q=nth L (q - 1)
  ·repeat' (first|(with_reducible first|refine uk ?_|refine wk ?_ ?_<;>intro _|(refine dr P211 mixed ?_ ?_ ?_;kernel_rfl;kernel_rfl))|simp -implicitDefEqProofs(disch:=first|assumption|omega)[*])
   have hget:∀ a,(s.set id a)[id]? = some a:=fun a=>by simp [hid]
   have hset:∀ a b,(s.set id a).set id b=s.set id b:=fun a b=>by simp
   refine aW_for (β:=List Int × Nat × Nat) false (L.length - q - 1) (fun m p=>p.1.length=L.length∧q≤p.2.1∧p.2.1≤q+m∧p.2.2≤m+1∧m+1≤p.2.2) (fun m p=>[(3,.int .i64 p.2.1),(5,.int .i64 p.2.2),(29,.any),(30,.any),(31,.any),(32,.any),(35,.any),(36,.any),(37,.any),(38,.any),(39,.any),(40,.any),(41,.any),(42,.any),(43,.any),(44,.any),(45,.any),(46,.any),(47,.any),(48,.any),(49,.any),(50,.any),(51,.any),(52,.any),(53,.any),(33,.any),(34,.any)]) (fun _ p=>s.set id (.cells (rowCs p.1))) (fun _ _=>v) ?_ ?_
   ·refine⟨(L,q,1),⟨rfl,by simp,by simp,by simp,by simp⟩,fz0,?_,rfl⟩
    apply List.ext_getElem?
    intro i
    by_cases e:id=i
    ·subst e;rw [hget,hs]
    ·rw [List.getElem?_set_ne e]
   rintro m ⟨L',k3,q2⟩ hm2 ⟨hL',hk1,hk2,hk3,hk4⟩
   simp only at hL' hk1 hk2 hk3 hk4
   clear hs hl1 hl2 hsl hI hlen
   have hlen':(rowCs L').length=L.length:=by rw [rowCs_len,hL'];simp
   have hidu:∀ a,id<(s.set id a).length:=fun a=>by simpa using hid
   by_cases hq2:q2<L.length - q
   ·have hl1:=rowInt_at (l:=L') (i:=q+q2) (by omega)
    have hl2:=rowInt_at (l:=L') (i:=q+(q2 - 1)) (by omega)
    have hm':((q2:Int) - 1).toNat=q2 - 1:=by omega
    have g1:(1:Int)≤q2:=by omega
    have g2:(q2:Int) - 1<((L.length - q:Nat):Int):=by omega
    have g3:(q2:Int)<((L.length - q:Nat):Int):=by omega
    have g4:k3<L.length:=by omega
    have g5:(k3:Int)<L.length:=by omega
    have hst:=setAt_int L' k3 (nth L' (q+q2)) (by omega)
    have g6:k3+1≤L.length:=by omega
    by_cases hne:nth L' (q+q2)=nth L' (q+(q2 - 1))
    ·repeat' (first|(with_reducible first|refine uk ?_|refine wk ?_ ?_<;>intro _|(refine dr P211 mixed ?_ ?_ ?_;kernel_rfl;kernel_rfl))|simp -implicitDefEqProofs(disch:=first|assumption|omega)[*])
     all_goals first|(exfalso;omega)|skip
     exact⟨by omega,(L',k3,q2+1),⟨hL',hk1,by show k3≤q+(m+1);omega,by show q2+1≤m+1+1;omega,by show m+1+1≤q2+1;omega⟩,fz,rfl,rfl⟩
    ·repeat' (first|(with_reducible first|refine uk ?_|refine wk ?_ ?_<;>intro _|(refine dr P211 mixed ?_ ?_ ?_;kernel_rfl;kernel_rfl))|simp -implicitDefEqProofs(disch:=first|assumption|omega)[*])
     all_goals first|(exfalso;omega)|skip
     exact⟨by omega,(L'.set k3 (nth L' (q+q2)),k3+1,q2+1),⟨by simp [hL'],by show q≤k3+1;omega,by show k3+1≤q+(m+1);omega,by show q2+1≤m+1+1;omega,by show m+1+1≤q2+1;omega⟩,fz,rfl,rfl⟩
   ·have g4:k3<L.length:=by omega
    have g5:(k3:Int)<L.length:=by omega
    have hsl:=aSlice_ref_l (P:=Tryz.prog) (t:=23) (sz:=1) (id:=id) (off:=0) (n:=L.length) (fl:=false) (κ:=.i64) (a:=k3) (by omega) g5
    have hsh:=aSlice_ref_h (P:=Tryz.prog) (t:=23) (sz:=1) (id:=id) (off:=0) (n:=L.length) (fl:=false) (κ:=.i64) (b:=k3) (by omega) (by omega)
    have g6:¬ L.length - k3=0:=by omega
    repeat' (first|(with_reducible first|refine uk ?_|refine wk ?_ ?_<;>intro _|(refine dr P211 mixed ?_ ?_ ?_;kernel_rfl;kernel_rfl))|simp -implicitDefEqProofs(disch:=first|assumption|omega)[*])
    all_goals first|(exfalso;omega)|skip
    refine⟨rfl,.inr ⟨fun ha=>?_,k3,_,_,g4,rfl,rfl⟩⟩
    have:=ha (q - 1) (by omega)
    rw [show q - 1+1=q by omega] at this
    exact this he.symm
  ·repeat' (first|(with_reducible first|refine uk ?_|refine wk ?_ ?_<;>intro _|(refine dr P211 mixed ?_ ?_ ?_;kernel_rfl;kernel_rfl))|simp -implicitDefEqProofs(disch:=first|assumption|omega)[*])
   refine⟨by omega,q+1,⟨by omega,by omega,fun j hj=>?_⟩,fz,rfl,rfl⟩
   by_cases hjk:j<k
   ·exact hI j hjk
   ·have e1:j=q - 1:=by omega
    have e2:j+1=q:=by omega
    rw [e2,e1];exact fun h=>he h.symm
 ·repeat' (first|(with_reducible first|refine uk ?_|refine wk ?_ ?_<;>intro _|(refine dr P211 mixed ?_ ?_ ?_;kernel_rfl;kernel_rfl))|simp -implicitDefEqProofs(disch:=first|assumption|omega)[*])
  exact⟨rfl,.inl ⟨fun j hj=>hI j (by omega),rfl,rfl⟩⟩
theorem adj_nodup {L:List Int} (h:L.Pairwise (· ≤ ·)):adj L↔L.Nodup:=by
 rw [List.pairwise_iff_getElem] at h
 constructor
 ·intro ha
  unfold List.Nodup
  rw [List.pairwise_iff_getElem]
  intro i j hi hj hij
  have h1:L[i]≤L[j - 1]:=by
   by_cases e:i=j - 1
   ·subst e;exact Int.le_refl _
   ·exact h i (j - 1) hi (by omega) (by omega)
  have h2:L[j - 1]≤L[j]:=h (j - 1) j (by omega) hj (by omega)
  have h3:=ha (j - 1) (by omega)
  rw [nth_eq (by omega),nth_eq (by omega)] at h3
  have e:L[j - 1+1]'(by omega)=L[j]:=by congr 1;omega
  rw [e] at h3
  omega
 ·intro hn j hj he
  unfold List.Nodup at hn
  rw [List.pairwise_iff_getElem] at hn
  rw [nth_eq (by omega),nth_eq hj] at he
  exact hn j (j+1) (by omega) hj (by omega) he
theorem nodup_len:∀ (n:Nat) (l:List Int),l.Nodup→(∀ x∈l,0≤x∧x<n)→l.length≤n
 | 0,l,_,h=>by
  cases l with
  | nil=>simp
  | cons a l=>have:=h a (by simp);omega
 | n+1,l,hn,h=>by
  have ih:=nodup_len n (l.erase n) (hn.erase _) (fun x hx=>by
   have h1:=(hn.mem_erase_iff).1 hx
   have h2:=h x h1.2
   have h3:=h1.1
   omega)
  by_cases hm:(n:Int)∈l
  ·rw [List.length_erase_of_mem hm] at ih;omega
  ·rw [List.erase_of_not_mem hm] at ih;omega
theorem cchoice_p {fs:List Fn_} {mu th:Int} {co se ch l:List Int} {cho:List (List Int)} (hb:l.length≤maxLen) (hb2:l.length*8≤140737488355328) (hch:ch.length≤8) :
  PureC Tryz.prog 129 [.agg [row fs,.int .i64 mu,row co,row se,row ch,row cho,.int .i64 th],row l] (.bool (mayCh ⟨fs,mu,co,se,ch,cho,th⟩ l)):=by
 refine .of fun s v=>?_
 have hw:=within_p (l:=l) (most:=ch.length - 1) (by unfold maxLen at hb;omega)
 by_cases hl:l=[]
 ·subst hl
  have hm:mayCh ⟨fs,mu,co,se,ch,cho,th⟩ []=false:=by simp [mayCh]
  rw [hm]
  refine ac0 Tryz.func129 Tryz.ntmps129 ?_
  have hrs:Tryz.f129.results = #[.tmp 4]:=rfl
  repeat' (first|(with_reducible first|refine uk ?_|refine wk ?_ ?_<;>intro _|refine aCalls_mono (cloneI_c hb hb2) ?_)|simp -implicitDefEqProofs(disch:=first|assumption|omega)[*])
  rintro x _ _ ⟨rfl,⟨_,rfl,hx⟩ | ⟨h,_⟩⟩
  rotate_left
  ·exact absurd rfl h
  have hxl:aLen Tryz.prog 23 x=some (.int .i64 0):=by rcases hx with rfl | rfl<;>simp
  clear hx
  repeat' (first|(with_reducible first|refine uk ?_|refine wk ?_ ?_<;>intro _|refine callE (sort_0 hxl) ?_)|simp -implicitDefEqProofs(disch:=first|assumption|omega)[*])
  exact Ends.eqat rfl rfl (List.prefix_refl _)
 ·have h0:1≤l.length:=by
   cases l with
   | nil=>exact absurd rfl hl
   | cons a l=>simp
  have hsl:=sorted_len l
  have had:=adj_nodup (sorted_le l)
  have hnd:(sorted l).Nodup↔l.Nodup:=(sorted_perm l).nodup_iff
  have hm:mayCh ⟨fs,mu,co,se,ch,cho,th⟩ l=(decide l.Nodup && allTo l (ch.length - 1)):=by
   unfold mayCh
   by_cases hN:l.Nodup
   ·by_cases hA:allTo l (ch.length - 1)=true
    ·have h8:l.length≤ch.length:=nodup_len _ l hN fun x hx=>by
      unfold allTo at hA
      have:=List.all_eq_true.1 hA x hx
      simp only [Bool.and_eq_true,decide_eq_true_eq] at this
      omega
     have h8':l.length≤8:=by omega
     simp [hN,hA,h0,h8']
    ·simp only [Bool.not_eq_true] at hA
     simp [hA]
   ·simp [hN]
  rw [hm]
  clear hm
  have hls:(sorted l)≠[]:=fun e=>by rw [e] at hsl;simp at hsl;omega
  have hbb:l.length<4611686018427387904:=by omega
  refine ac0 Tryz.func129 Tryz.ntmps129 ?_
  have hrs:Tryz.f129.results = #[.tmp 4]:=rfl
  repeat' (first|(with_reducible first|refine uk ?_|refine wk ?_ ?_<;>intro _|refine aCalls_mono (cloneI_c hb hb2) ?_)|simp -implicitDefEqProofs(disch:=first|assumption|omega)[*])
  rintro x _ _ ⟨rfl,⟨e,_,_⟩ | ⟨_,rfl,rfl⟩⟩
  ·exact absurd e hl
  repeat' (first|(with_reducible first|refine uk ?_|refine wk ?_ ?_<;>intro _|refine aCalls_mono (sort_c (l:=l) (by simp [get_app]) hl hbb) ?_)|simp -implicitDefEqProofs(disch:=first|assumption|omega)[*])
  all_goals first|(exfalso;omega)|skip
  have hc:=compact_c (s:=s++[.cells [row fs,.int .i64 mu,row co,row se,row ch,row cho,.int .i64 th],.cells (rowCs (sorted l))]) (v:=v) (id:=s.length+1) (L:=sorted l) (by simp [get_app]) (by omega) (by omega)
  rw [hsl] at hc
  generalize allTo l (ch.length - 1)=xa at *
  refine aCalls_mono hc ?_
  rintro y _ _ ⟨rfl,⟨ha,rfl,rfl⟩ | ⟨ha,k,cs,fl,hk,rfl,rfl⟩⟩
  ·have hN:l.Nodup:=hnd.1 (had.1 ha)
   repeat' (first|(with_reducible first|refine uk ?_|refine wk ?_ ?_<;>intro _|refine callC hw (fun v2 hv2=>?_))|simp -implicitDefEqProofs(disch:=first|assumption|omega)[*])
   exact Ends.eqat rfl rfl hv2
  ·have hN:¬ l.Nodup:=fun h=>ha (had.2 (hnd.2 h))
   rw [hsl] at hk
   have hk2:(k:Int)≠l.length:=by omega
   repeat' (first|(with_reducible first|refine uk ?_|refine wk ?_ ?_<;>intro _|refine callC hw (fun v2 hv2=>?_))|simp -implicitDefEqProofs(disch:=first|assumption|omega)[*])
   exact Ends.eqat rfl rfl (List.prefix_refl _)
end Go.Hb
end
