/-
  A layer for reasoning about the program's calls, and contracts of its functions. CONDITIONS: none; each theorem bears its own.
-/
import Derived.Test.YtieoaonaijbijaaGreatG31
import Derived.Test.YtieoaonaijbijaaGreatG11
import Derived.Test.YtieoaonaijbijaaGreatG07
import Derived.Test.YtieoaonaijbijaaGreatG10
import Derived.Test.YtieoaonaijbijaaGreatG14
import Derived.Test.YtieoaonaijbijaaGreatG12
set_option linter.unusedVariables false
set_option linter.unusedSimpArgs false
section
namespace Go.Hb
open Go Go.Proofs Go.RowKit
set_option maxRecDepth 100000
set_option maxHeartbeats 800000
attribute [-simp] aC aL aOper aThen aInBlock aIf aPlan aAppend aLen aIndexAddr aSlice aCells aBounds lBr aq initT aev aAppendOwn aAppendNil aAppendNew aAppendRef LV.cells LV.cellsOk getElem?_pos getElem?_neg
@[simp] def P84:Nat→Plan
 | 1=>(.qs [0,1,2,3,5] (.w 4 [0] (.w 6 [] .nil)))
 | _=>.nil
@[simp] def P87:Nat→Plan
 | 0=>(.qs [0,1,2,3,4,5] (.w 6 [] .nil))
 | 1=>(.qs [0,1,2,3,4,5,6,7] (.w 8 [] .nil))
 | _=>.nil
@[simp] def P91:Nat→Plan
 | 1=>(.qs [0,1,2,3,5] (.w 4 [0] (.w 6 [] .nil)))
 | _=>.nil
@[simp] def P92:Nat→Plan
 | 0=>(.qs [0,1,2,3,4,5] (.w 6 [] .nil))
 | 1=>(.qs [0,1,2,3,4,5,6,7] (.w 8 [] .nil))
 | _=>.nil
@[simp] def P93:Nat→Plan
 | 1=>(.qs [0,1,2,3,5] (.w 4 [0] (.w 6 [] .nil)))
 | _=>.nil
@[simp] def P94:Nat→Plan
 | 0=>(.qs [0,1,2,3,4,5,6,7] (.w 8 [] .nil))
 | 1=>(.qs [0,1,2,3,4,5,8] (.w 6 [0] (.w 7 [0] (.w 9 [] .nil))))
 | 2=>(.qs [0,1,2,3,4,5,6,7] (.w 8 [] .nil))
 | _=>.nil
@[simp] def P97:Nat→Plan
 | 0=>(.qs [0,1,2,3] (.w 4 [] .nil))
 | 1=>(.qs [0,1,2,3] (.w 4 [] .nil))
 | _=>.nil
theorem places_p {n:Nat} (hn:n≤1000):PureC Tryz.prog 86 [.int .i64 n] (row (ints n)):=by
 refine Fresh.pure (Fresh.of fun s v=>?_)
 refine ac0 Tryz.func86 Tryz.ntmps86 ?_
 have hrs:Tryz.f86.results = #[.tmp 2]:=rfl
 repeat' (first|(with_reducible first|refine uk ?_|refine wk ?_ ?_<;>intro _)|simp -implicitDefEqProofs(disch:=first|assumption|omega)[*])
 refine aW_for (β:=LV × List Nat) false n (fun k p=>GroE v p.2 (ints k) p.1) (fun k p=>[(3,p.1),(6,.int .i64 k),(7,.any),(8,.any),(4,.any),(9,.any),(10,.any),(11,.any),(12,.any),(13,.any)]) (fun _ _=>s) (fun _ p=>p.2) ?_ ?_
 ·exact⟨(.nils,v),GroE.nil _,fz0,rfl,rfl⟩
 rintro k ⟨x,v1⟩ hk hG
 simp only at hG
 have hgc:=hG.gro.cells
 by_cases hlt:k<n
 ·obtain⟨x2,v2,g2,_,gb⟩:=hG.push (P:=Tryz.prog) (t:=23) (t2:=23) (sz:=1) (by_:=8) (by kernel_rfl) rfl (by omega) (k:Int) (by simp;omega)
  rw [← ints_succ] at g2
  simp only [enc_int] at gb
  have hlt':(k:Int)<n:=by omega
  repeat' (first|(with_reducible first|refine uk ?_|refine wk ?_ ?_<;>intro _)|simp -implicitDefEqProofs(disch:=first|assumption|omega)[*])
  exact⟨hlt,(x2,v2),g2,fz,rfl,rfl⟩
 ·have:k=n:=by omega
  subst this
  repeat' (first|(with_reducible first|refine uk ?_|refine wk ?_ ?_<;>intro _)|simp -implicitDefEqProofs(disch:=first|assumption|omega)[*])
  exact hG.gro
theorem lock_w {c:Cor} {k id iw ic:Nat} (hk:k<c.owners.length) (hk2:k<c.lockq.length) (h:RowW (nth c.lockq k)):Wrt Tryz.prog 87 [.int .i64 k,.ptr iw 0,.ptr ic 0] id [(iw,.cells [.ptr id 0]),(ic,AObj.cells [.int .i64 c.now,row c.threads,row c.owners,row c.counts,row c.bufs,row c.lockq,row c.waitq,row c.downq,row c.sendq,row c.recvq])] (lockB c k) 1009:=fun S x v0 v bs B hL hS hx hB=>by
 refine WPost.of ?_
 have hid:=(List.getElem?_eq_some_iff.1 hS).1;have hat:=at_app hS;have hself:=at_self hS;have s1:=sw1 hid;have s3:=sw3 hid;have s4:=sw4 hid;have s6:=sw6 (S:=S) (id:=id);have s7:=sw7 (S:=S) (id:=id)
 obtain⟨n1,g1⟩:=hL _ (List.mem_cons_self);dsimp only at n1 g1;have hi:=at_app g1;have hi8:=sw8 n1 g1;have hi9:=fun o=>(show (S.set id o)[_]? = _ by simpa using hi8 o [])
 obtain⟨n2,g2⟩:=hL _ (List.mem_cons_of_mem _ (List.mem_cons_self));dsimp only at n2 g2;have hj:=at_app g2;have hj8:=sw8 n2 g2;have hj9:=fun o=>(show (S.set id o)[_]? = _ by simpa using hj8 o [])
 have x1:=ix_in (l:=c.owners) (i:=(k:Int)) (by omega) (by omega)
 have x2:=ix_in (l:=c.lockq) (i:=(k:Int)) (by omega) (by omega)
 rw [Int.toNat_natCast] at x1 x2
 have hw:=shs_w (id:=id) h
 have h1:=h.1
 have hk':(k:Int)<c.owners.length:=by omega
 have hk2':(k:Int)<c.lockq.length:=by omega
 refine ac0 Tryz.func87 Tryz.ntmps87 ?_
 have hrs:Tryz.f87.results = #[]:=rfl
 repeat' (first|(with_reducible first|refine uk ?_|refine wk ?_ ?_<;>intro _|(refine dr P87 mixed ?_ ?_ ?_;kernel_rfl;kernel_rfl)|refine callWt signed_w EnvW.nil (by first|exact hS|exact hat _|exact hself _|exact s4 _ _) hx (by omega) (fun y x v hx=>?_)|refine callWt hw (by first|exact EnvW.nil|exact hE _|exact hE2 _ _) (by first|exact hS|exact hat _|exact hself _|exact s4 _ _) hx (by omega) (fun y x v hx=>?_))|simp -implicitDefEqProofs(disch:=first|assumption|omega)[*])
 all_goals exact⟨x,[],by simp,by simp,wat_eq hx (by simp [lockB]) (by omega)⟩
theorem wait_w {l:List Int} {id iw:Nat} (h:RowW l):Wrt Tryz.prog 90 [row l,.ptr iw 0] id [(iw,.cells [.ptr id 0])] (listB l) 1000:=fun S x v0 v bs B hL hS hx hB=>by
 refine WPost.of ?_
 have hid:=(List.getElem?_eq_some_iff.1 hS).1;have hat:=at_app hS;have hself:=at_self hS;have s1:=sw1 hid;have s3:=sw3 hid;have s4:=sw4 hid;have s6:=sw6 (S:=S) (id:=id);have s7:=sw7 (S:=S) (id:=id)
 obtain⟨n1,g1⟩:=hL _ (List.mem_cons_self);dsimp only at n1 g1;have hi:=at_app g1;have hi8:=sw8 n1 g1;have hi9:=fun o=>(show (S.set id o)[_]? = _ by simpa using hi8 o [])
 have hw:=shs_w (id:=id) h
 have h1:=h.1
 refine ac0 Tryz.func90 Tryz.ntmps90 ?_
 have hrs:Tryz.f90.results = #[]:=rfl
 repeat' (first|(with_reducible first|refine uk ?_|refine wk ?_ ?_<;>intro _|refine callWt hw (by first|exact EnvW.nil|exact hE _|exact hE2 _ _) (by first|exact hS|exact hat _|exact hself _|exact s4 _ _) hx (by omega) (fun y x v hx=>?_))|simp -implicitDefEqProofs(disch:=first|assumption|omega)[*])
 all_goals exact⟨x,[],by simp,by simp,wat_eq hx rfl (by omega)⟩
theorem sec3_w {c:Cor} {id ic:Nat} (h:WrC c):Wrt Tryz.prog 84 [.ptr id 0,.ptr ic 0] id [(ic,AObj.cells [.int .i64 c.now,row c.threads,row c.owners,row c.counts,row c.bufs,row c.lockq,row c.waitq,row c.downq,row c.sendq,row c.recvq])] (locksB c) 300000:=fun S x v0 v bs B hL hS hx hB=>by
 refine WPost.of ?_
 have hid:=(List.getElem?_eq_some_iff.1 hS).1;have hat:=at_app hS;have hself:=at_self hS;have s1:=sw1 hid;have s3:=sw3 hid;have s4:=sw4 hid;have s6:=sw6 (S:=S) (id:=id);have s7:=sw7 (S:=S) (id:=id)
 obtain⟨n1,g1⟩:=hL _ (List.mem_cons_self);dsimp only at n1 g1;have hi:=at_app g1;have hi8:=sw8 n1 g1;have hi9:=fun o=>(show (S.set id o)[_]? = _ by simpa using hi8 o [])
 have ht:=h.owners
 have ht2:=h.lockn
 have ht3:=h.waitn
 have hp:=places_p (n:=c.owners.length) (by omega)
 have hic:=(List.getElem?_eq_some_iff.1 g1).1
 have hw:=ilist_int (l:=ints c.owners.length) (w:=fun z=>lockB c z.toNat) (m:=1009) (id:=id) (L:=[(S.length,.cells [.ptr id 0]),(ic,AObj.cells [.int .i64 c.now,row c.threads,row c.owners,row c.counts,row c.bufs,row c.lockq,row c.waitq,row c.downq,row c.sendq,row c.recvq])]) (g:=87) (pre:=[]) (post:=[.ptr S.length 0,.ptr ic 0]) (by simp;omega) fun k hk=>by
  have hk':k<c.owners.length:=by simpa using hk
  rw [ints_nth hk']
  exact lock_w hk' (by omega) (h.lockq _ (nth_mem (by omega)))
 have hw2:=ilist_ints (l:=c.waitq) (w:=listB) (m:=1000) (id:=id) (L:=[(S.length,.cells [.ptr id 0])]) (g:=90) (pre:=[]) (post:=[.ptr S.length 0]) (by omega) fun k hk=>wait_w (h.waitq _ (nth_mem hk))
 rw [ints_len,ints_flat] at hw
 have hE:∀ J,EnvW id [(S.length,.cells [.ptr id 0]),(ic,AObj.cells [.int .i64 c.now,row c.threads,row c.owners,row c.counts,row c.bufs,row c.lockq,row c.waitq,row c.downq,row c.sendq,row c.recvq])] (S++(.cells [.ptr id 0] :: J)):=fun J=>.cons (by omega) (by rw [get_app0];rfl) (.cons n1 (hi _) .nil)
 have hE2:∀ o J,EnvW id [(S.length,.cells [.ptr id 0])] (S.set id o++(.cells [.ptr id 0] :: J)):=fun o J=>.cons (by omega) (by rw [s6];rfl) .nil
 clear h
 refine ac0 Tryz.func84 Tryz.ntmps84 ?_
 have hrs:Tryz.f84.results = #[]:=rfl
 repeat' (first|(with_reducible first|refine uk ?_|refine wk ?_ ?_<;>intro _|(refine dr P84 mixed ?_ ?_ ?_;kernel_rfl;kernel_rfl)|refine callC hp (fun v1 hv1=>?_)|refine callWt hw (by first|exact EnvW.nil|exact hE _|exact hE2 _ _) (by first|exact hS|exact hat _|exact hself _|exact s4 _ _) (hx.mo hv1) (by omega) (fun y x v hx=>?_)|refine callWt hw2 (by first|exact EnvW.nil|exact hE _|exact hE2 _ _) (by first|exact hS|exact hat _|exact hself _|exact s4 _ _) hx (by omega) (fun y x v hx=>?_))|simp -implicitDefEqProofs(disch:=first|assumption|omega)[*])
 all_goals exact⟨x,_,rfl,by simp,wat_eq hx (by simp [locksB]) (by omega)⟩
theorem sema_w {c:Cor} {k id iw ic:Nat} (hk:k<c.counts.length) (hk2:k<c.downq.length) (h:RowW (nth c.downq k)) (hn:nth c.counts k≤9223372036854775807):Wrt Tryz.prog 92 [.int .i64 k,.ptr iw 0,.ptr ic 0] id [(iw,.cells [.ptr id 0]),(ic,AObj.cells [.int .i64 c.now,row c.threads,row c.owners,row c.counts,row c.bufs,row c.lockq,row c.waitq,row c.downq,row c.sendq,row c.recvq])] (semaB c k) 1009:=fun S x v0 v bs B hL hS hx hB=>by
 refine WPost.of ?_
 have hid:=(List.getElem?_eq_some_iff.1 hS).1;have hat:=at_app hS;have hself:=at_self hS;have s1:=sw1 hid;have s3:=sw3 hid;have s4:=sw4 hid;have s6:=sw6 (S:=S) (id:=id);have s7:=sw7 (S:=S) (id:=id)
 obtain⟨n1,g1⟩:=hL _ (List.mem_cons_self);dsimp only at n1 g1;have hi:=at_app g1;have hi8:=sw8 n1 g1;have hi9:=fun o=>(show (S.set id o)[_]? = _ by simpa using hi8 o [])
 obtain⟨n2,g2⟩:=hL _ (List.mem_cons_of_mem _ (List.mem_cons_self));dsimp only at n2 g2;have hj:=at_app g2;have hj8:=sw8 n2 g2;have hj9:=fun o=>(show (S.set id o)[_]? = _ by simpa using hj8 o [])
 have x1:=ix_in (l:=c.counts) (i:=(k:Int)) (by omega) (by omega)
 have x2:=ix_in (l:=c.downq) (i:=(k:Int)) (by omega) (by omega)
 rw [Int.toNat_natCast] at x1 x2
 have hw:=shs_w (id:=id) h
 have h1:=h.1
 have hk':(k:Int)<c.counts.length:=by omega
 have hk2':(k:Int)<c.downq.length:=by omega
 refine ac0 Tryz.func92 Tryz.ntmps92 ?_
 have hrs:Tryz.f92.results = #[]:=rfl
 repeat' (first|(with_reducible first|refine uk ?_|refine wk ?_ ?_<;>intro _|(refine dr P92 mixed ?_ ?_ ?_;kernel_rfl;kernel_rfl)|refine callWt (short_w (by omega)) EnvW.nil (by first|exact hS|exact hat _|exact hself _|exact s4 _ _) hx (by omega) (fun y x v hx=>?_)|refine callWt hw (by first|exact EnvW.nil|exact hE _|exact hE2 _ _) (by first|exact hS|exact hat _|exact hself _|exact s4 _ _) hx (by omega) (fun y x v hx=>?_))|simp -implicitDefEqProofs(disch:=first|assumption|omega)[*])
 all_goals exact⟨x,[],by simp,by simp,wat_eq hx (by simp [semaB]) (by omega)⟩
theorem sec4_w {c:Cor} {id ic:Nat} (h:WrC c):Wrt Tryz.prog 91 [.ptr id 0,.ptr ic 0] id [(ic,AObj.cells [.int .i64 c.now,row c.threads,row c.owners,row c.counts,row c.bufs,row c.lockq,row c.waitq,row c.downq,row c.sendq,row c.recvq])] (semasB c) 300000:=fun S x v0 v bs B hL hS hx hB=>by
 refine WPost.of ?_
 have hid:=(List.getElem?_eq_some_iff.1 hS).1;have hat:=at_app hS;have hself:=at_self hS;have s1:=sw1 hid;have s3:=sw3 hid;have s4:=sw4 hid;have s6:=sw6 (S:=S) (id:=id);have s7:=sw7 (S:=S) (id:=id)
 obtain⟨n1,g1⟩:=hL _ (List.mem_cons_self);dsimp only at n1 g1;have hi:=at_app g1;have hi8:=sw8 n1 g1;have hi9:=fun o=>(show (S.set id o)[_]? = _ by simpa using hi8 o [])
 have ht:=h.counts
 have ht2:=h.downn
 have hp:=places_p (n:=c.counts.length) (by omega)
 have hw:=ilist_int (l:=ints c.counts.length) (w:=fun z=>semaB c z.toNat) (m:=1009) (id:=id) (L:=[(S.length,.cells [.ptr id 0]),(ic,AObj.cells [.int .i64 c.now,row c.threads,row c.owners,row c.counts,row c.bufs,row c.lockq,row c.waitq,row c.downq,row c.sendq,row c.recvq])]) (g:=92) (pre:=[]) (post:=[.ptr S.length 0,.ptr ic 0]) (by simp;omega) fun k hk=>by
  have hk':k<c.counts.length:=by simpa using hk
  rw [ints_nth hk']
  exact sema_w hk' (by omega) (h.downq _ (nth_mem (by omega))) (ht.2 k hk')
 rw [ints_len,ints_flat] at hw
 have hE:∀ J,EnvW id [(S.length,.cells [.ptr id 0]),(ic,AObj.cells [.int .i64 c.now,row c.threads,row c.owners,row c.counts,row c.bufs,row c.lockq,row c.waitq,row c.downq,row c.sendq,row c.recvq])] (S++(.cells [.ptr id 0] :: J)):=fun J=>.cons (by omega) (by rw [get_app0];rfl) (.cons n1 (hi _) .nil)
 clear h
 refine ac0 Tryz.func91 Tryz.ntmps91 ?_
 have hrs:Tryz.f91.results = #[]:=rfl
 repeat' (first|(with_reducible first|refine uk ?_|refine wk ?_ ?_<;>intro _|(refine dr P91 mixed ?_ ?_ ?_;kernel_rfl;kernel_rfl)|refine callC hp (fun v1 hv1=>?_)|refine callWt hw (by first|exact EnvW.nil|exact hE _|exact hE2 _ _) (by first|exact hS|exact hat _|exact hself _|exact s4 _ _) (hx.mo hv1) (by omega) (fun y x v hx=>?_))|simp -implicitDefEqProofs(disch:=first|assumption|omega)[*])
 all_goals exact⟨x,_,rfl,by simp,wat_eq hx (by simp [semasB]) (by omega)⟩
def twoB (l:List Int):List UInt8:=shortB (nth l 0)++signedB (nth l 1)
theorem two_w {a b:Int} {id iw:Nat} (ha:a≤9223372036854775807):Wrt Tryz.prog 97 [row [a,b],.ptr iw 0] id [(iw,.cells [.ptr id 0])] (twoB [a,b]) 18:=fun S x v0 v bs B hL hS hx hB=>by
 refine WPost.of ?_
 have hid:=(List.getElem?_eq_some_iff.1 hS).1;have hat:=at_app hS;have hself:=at_self hS;have s1:=sw1 hid;have s3:=sw3 hid;have s4:=sw4 hid;have s6:=sw6 (S:=S) (id:=id);have s7:=sw7 (S:=S) (id:=id)
 obtain⟨n1,g1⟩:=hL _ (List.mem_cons_self);dsimp only at n1 g1;have hi:=at_app g1;have hi8:=sw8 n1 g1;have hi9:=fun o=>(show (S.set id o)[_]? = _ by simpa using hi8 o [])
 have x0:ix [a,b] 0=some (.eptr [.int .i64 a]):=by rw [ix_in (by omega) (by simp)];rfl
 have x1:ix [a,b] 1=some (.eptr [.int .i64 b]):=by rw [ix_in (by omega) (by simp)];rfl
 have e:twoB [a,b]=shortB a++signedB b:=rfl
 rw [e]
 generalize [a,b]=l at *
 refine ac0 Tryz.func97 Tryz.ntmps97 ?_
 have hrs:Tryz.f97.results = #[]:=rfl
 repeat' (first|(with_reducible first|refine uk ?_|refine wk ?_ ?_<;>intro _|(refine dr P97 mixed ?_ ?_ ?_;kernel_rfl;kernel_rfl)|refine callWt (short_w (by omega)) EnvW.nil (by first|exact hS|exact hat _|exact hself _|exact s4 _ _) hx (by omega) (fun y x v hx=>?_)|refine callWt signed_w EnvW.nil (by first|exact hS|exact hat _|exact hself _|exact s4 _ _) hx (by omega) (fun y x v hx=>?_))|simp -implicitDefEqProofs(disch:=first|assumption|omega)[*])
 all_goals exact⟨x,[],by simp,by simp,wat_eq hx (by simp) (by omega)⟩
theorem prs_flat (l:List Int):(prs l).flatMap twoB=(List.range (l.length / 2)).flatMap (pairB l):=by
 rw [← range_map twoB (prs l),prs_len]
 unfold List.flatMap
 congr 1
 apply List.map_congr_left
 intro i hi
 rw [prs_nth l (by simpa using hi)]
 rfl
theorem chunk_c {l:List Int} {s:List AObj} {v:List Nat} : aCalls Tryz.prog 96 [row l,.int .i64 2] s v fun x s' v'=>.fn (.func 195) [] [.ptr s.length 0,.ptr (s.length+1) 0]=x∧s++[.cells [row l],.cells [.int .i64 2]]=s'∧v=v':=
 aCalls_mono chunk_t fun _ _ _ ⟨a,b,c⟩=>⟨a.symm,b,c⟩
theorem chan_w {c:Cor} {k id iw ic:Nat} (hk:k<c.bufs.length) (hk2:k<c.sendq.length) (hk3:k<c.recvq.length) (h1:(nth c.bufs k).length≤100) (h2:RowW (nth c.sendq k)∧(nth c.sendq k).length % 2=0) (h3:RowW (nth c.recvq k)) :
  Wrt Tryz.prog 94 [.int .i64 k,.ptr iw 0,.ptr ic 0] id [(iw,.cells [.ptr id 0]),(ic,AObj.cells [.int .i64 c.now,row c.threads,row c.owners,row c.counts,row c.bufs,row c.lockq,row c.waitq,row c.downq,row c.sendq,row c.recvq])] (chanB c k) 3000:=fun S x v0 v bs B hL hS hx hB=>by
 refine WPost.of ?_
 have hid:=(List.getElem?_eq_some_iff.1 hS).1;have hat:=at_app hS;have hself:=at_self hS;have s1:=sw1 hid;have s3:=sw3 hid;have s4:=sw4 hid;have s6:=sw6 (S:=S) (id:=id);have s7:=sw7 (S:=S) (id:=id)
 obtain⟨n1,g1⟩:=hL _ (List.mem_cons_self);dsimp only at n1 g1;have hi:=at_app g1;have hi8:=sw8 n1 g1;have hi9:=fun o=>(show (S.set id o)[_]? = _ by simpa using hi8 o [])
 obtain⟨n2,g2⟩:=hL _ (List.mem_cons_of_mem _ (List.mem_cons_self));dsimp only at n2 g2;have hj:=at_app g2;have hj8:=sw8 n2 g2;have hj9:=fun o=>(show (S.set id o)[_]? = _ by simpa using hj8 o [])
 have x1:=ix_in (l:=c.bufs) (i:=(k:Int)) (by omega) (by omega)
 have x2:=ix_in (l:=c.sendq) (i:=(k:Int)) (by omega) (by omega)
 have x3:=ix_in (l:=c.recvq) (i:=(k:Int)) (by omega) (by omega)
 rw [Int.toNat_natCast] at x1 x2 x3
 have hw:=sgns_w (l:=nth c.bufs k) (id:=id) (by omega)
 have hw2:=shs_w (id:=id) h3
 have b2:=h2.1.1
 have b3:=h3.1
 have hpl:=prs_len (nth c.sendq k)
 have hw3:=ilist_ints (l:=prs (nth c.sendq k)) (w:=twoB) (m:=18) (id:=id) (L:=[(iw,.cells [.ptr id 0])]) (g:=97) (pre:=[]) (post:=[.ptr iw 0]) (by omega) fun j hj=>by
  rw [prs_nth _ (by omega)]
  exact two_w (h2.1.2 (2*j) (by omega))
 rw [prs_flat,hpl] at hw3
 have hcol:=fun s i1 i2 a1 a2=>collect_p (q:=nth c.sendq k) (i1:=i1) (i2:=i2) (s:=s) a1 a2 h2.2 (by omega)
 have hE:∀ o J,EnvW id [(iw,.cells [.ptr id 0])] (S.set id o++J):=fun o J=>.cons n1 (hi8 _ _) .nil
 have hk':(k:Int)<c.bufs.length:=by omega
 have hk2':(k:Int)<c.sendq.length:=by omega
 have hk3':(k:Int)<c.recvq.length:=by omega
 refine ac0 Tryz.func94 Tryz.ntmps94 ?_
 have hrs:Tryz.f94.results = #[]:=rfl
 repeat' (first|(with_reducible first|refine uk ?_|refine wk ?_ ?_<;>intro _|(refine dr P94 mixed ?_ ?_ ?_;kernel_rfl;kernel_rfl)|refine callWt hw (by first|exact EnvW.nil|exact hE _|exact hE2 _ _) (by first|exact hS|exact hat _|exact hself _|exact s4 _ _) hx (by omega) (fun y x v hx=>?_)|refine callWt hw2 (by first|exact EnvW.nil|exact hE _|exact hE2 _ _) (by first|exact hS|exact hat _|exact hself _|exact s4 _ _) hx (by omega) (fun y x v hx=>?_)|refine callU chunk_c ?_|refine callR (hcol _ _ _ (by simp [s6]) (by simp [s7])) (fun v1 hv1=>?_)|refine callWt hw3 (hE _ _) (s4 _ _) (hx.mo hv1) (by omega) (fun y x v hx=>?_))|simp -implicitDefEqProofs(disch:=first|assumption|omega)[*])
 all_goals exact⟨x,_,rfl,by simp,wat_eq hx (by simp [chanB]) (by omega)⟩
theorem cstep_p {n:Nat} (h:n<4294967296):PureE Tryz.prog 301 [.int .u32 n] (.int .u32 (cS n)):=by
 refine .of fun s v=>?_
 have hl:=xor_lt32 (a:=n / 2) (b:=3988292384) (by omega) (by omega)
 have hh:n / 2<4294967296:=by omega
 unfold cS cPoly
 by_cases ho:n % 2=1
 ·rw [if_pos ho]
  have hoI:(n:Int) % 2=1:=by omega
  refine ac0 Tryz.func301 Tryz.ntmps301 ?_
  have hrs:Tryz.f301.results = #[.tmp 2]:=rfl
  repeat' (first|(with_reducible first|refine uk ?_|refine wk ?_ ?_<;>intro _)|simp -implicitDefEqProofs(disch:=first|assumption|omega)[*])
  all_goals exact EndsE.eq (by simp [hl,hh]) (by simp)
 ·rw [if_neg ho]
  have hoI:¬ (n:Int) % 2=1:=by omega
  have ho0:n % 2=0:=by omega
  refine ac0 Tryz.func301 Tryz.ntmps301 ?_
  have hrs:Tryz.f301.results = #[.tmp 2]:=rfl
  repeat' (first|(with_reducible first|refine uk ?_|refine wk ?_ ?_<;>intro _)|simp -implicitDefEqProofs(disch:=first|assumption|omega)[*])
  all_goals exact EndsE.eq (by simp [hl,hh]) (by simp)
@[simp] theorem ze_tab:zeroT Tryz.prog 298=some (.agg (tabU 0)):=by kernel_rfl
theorem table_p:PureE Tryz.prog 284 [] (.agg (tabU 256)):=by
 refine .of fun s v=>?_
 have h0:LV.cellsOk (.agg (tabU 0))=true:=by decide
 refine ac0 Tryz.func284 Tryz.ntmps284 ?_
 have hrs:Tryz.f284.results = #[.cell 0 298]:=rfl
 repeat' (first|(with_reducible first|refine uk ?_|refine wk ?_ ?_<;>intro _)|simp -implicitDefEqProofs(disch:=first|assumption|omega)[*])
 refine aW_for (β:=Unit) false 256 (fun _ _=>True) (fun k _=>[(5,.int .i64 k),(6,.any),(7,.any),(3,.any),(8,.any),(9,.any),(4,.any),(10,.any),(11,.any),(12,.any),(13,.any),(14,.any),(15,.any),(16,.any),(17,.any),(18,.any),(19,.any)]) (fun k _=>s++[.cells (tabU 0),.cells (tabU k)]) (fun _ _=>v) ?_ ?_
 ·exact⟨(),trivial,fz0,rfl,rfl⟩
 rintro k _ hk -
 have hlen:=tabU_len hk
 by_cases hlt:k<256
 ·have hlt':(k:Int)<256:=by omega
  have hk32:k<4294967296:=by omega
  have hst:=tabU_set hlt
  repeat' (first|(with_reducible first|refine uk ?_|refine wk ?_ ?_<;>intro _)|simp -implicitDefEqProofs(disch:=first|assumption|omega)[*])
  refine aW_for (β:=Unit) false 8 (fun _ _=>True) (fun j _=>[(4,.int .u32 (cN j k:Nat)),(10,.int .i64 j),(11,.any),(12,.any),(13,.any),(14,.any),(15,.any)]) (fun _ _=>s++[.cells (tabU 0),.cells (tabU k)]) (fun _ _=>v) ?_ ?_
  ·exact⟨(),trivial,by (refine Fits.of ?_ (Off.refl _ _);simp [upd_apply,upds_cons,cN, *]),rfl,rfl⟩
  rintro j _ hj -
  by_cases hjt:j<8
  ·have hjt':(j:Int)<8:=by omega
   have hcs:=cstep_p (cN_lt hk32 j)
   have hc:cN (j+1) k=cS (cN j k):=rfl
   repeat' (first|(with_reducible first|refine uk ?_|refine wk ?_ ?_<;>intro _|refine callE hcs ?_)|simp -implicitDefEqProofs(disch:=first|assumption|omega)[*])
   exact⟨hjt,(),trivial,by (refine Fits.of ?_ ?_;rotate_left;(repeat (first|with_reducible exact Off.refl _ _|refine Off.upd rfl ?_|refine Off.updO rfl ?_|refine Off.upds rfl ?_));first|(simp [upd_apply,upds_cons];done)|(simp [upd_apply,upds_cons, *,hc];done)|(simp [upd_apply,upds_cons, *,hc];omega)|simp [upd_apply,upds_cons]),rfl,rfl⟩
  ·have hje:j=8:=by omega
   subst hje
   have hl0:k+1≤(tabU k).length:=by omega
   have hl1:k≤(tabU k).length:=by omega
   have hl2:k+1≤256:=by omega
   repeat' (first|(with_reducible first|refine uk ?_|refine wk ?_ ?_<;>intro _)|simp -implicitDefEqProofs(disch:=first|assumption|omega)[*])
   exact⟨hlt,(),trivial,fz,by simp,rfl⟩
 ·have hke:k=256:=by omega
  subst hke
  have hsa:setAt (tabU 0) 0 (tabU 256)=tabU 256:=setAt_eq (by rw [tabU_len (by omega),tabU_len (by omega)])
  have hl0:256≤(tabU 0).length:=by rw [tabU_len (by omega)];exact Nat.le_refl _
  have hl1:256≤(tabU 256).length:=by omega
  have htk:(tabU 256).take 256=tabU 256:=List.take_of_length_le (by omega)
  repeat' (first|(with_reducible first|refine uk ?_|refine wk ?_ ?_<;>intro _)|simp -implicitDefEqProofs(disch:=first|assumption|omega)[*])
  exact EndsE.eqat rfl (by simp [tabU_und])
@[simp] theorem ze_sum:zeroT Tryz.prog 301=some (.agg (tabU 0++[.int .u32 0,.int .i64 0])):=by kernel_rfl
theorem cnew_t {s:List AObj} {v:List Nat} : aCalls Tryz.prog 255 [] s v fun x s' v'=>x = .ptr s.length 0∧s++[.cells (sumU 4294967295 0)]=s'∧v=v':=by
 have ht:=table_p
 have h0:LV.cellsOk (.agg (tabU 0++[.int .u32 0,.int .i64 0]))=true:=by decide
 have h1:LV.cellsOk (.agg (tabU 256))=true:=by kernel_rfl
 have hsa:=fun r=>setAt_0 (old:=tabU 0) (new:=tabU 256) r (by rw [tabU_len (by omega),tabU_len (by omega)])
 have hl:(tabU 256).length=256:=tabU_len (by omega)
 have hl0:(tabU 0).length=256:=tabU_len (by omega)
 have hsu:tabU 256++[.int .u32 4294967295,.int .i64 0]=sumU 4294967295 0:=rfl
 refine ac0 Tryz.func255 Tryz.ntmps255 ?_
 have hrs:Tryz.f255.results = #[.tmp 0]:=rfl
 repeat' (first|(with_reducible first|refine uk ?_|refine wk ?_ ?_<;>intro _|refine callE ht ?_)|simp -implicitDefEqProofs(disch:=first|assumption|omega)[*])
@[simp] def P256:Nat→Plan
 | 3=>(.qs [0,1,2,3,4,5,6,7,8,9,10,11,12,13,14,15,16,17,18,19,20] (.w 21 [] .nil))
 | _=>.nil
theorem cadd_t {l:List UInt8} (hb:l.length≤1000000000000) {r:Nat} (hr:r<4294967296) {m:Int} (hm:0≤m∧m≤1000000000000) {s:List AObj} {v:List Nat} :
  aCalls Tryz.prog 256 [.ptr s.length 0,row l] (s++[.cells (sumU r m)]) v fun _ s' v'=>s++[.cells (sumU (crcL r l) (m+l.length))]=s'∧v=v':=by
 have hlen:=fun r m=>sumU_len r m
 refine ac0 Tryz.func256 Tryz.ntmps256 ?_
 have hrs:Tryz.f256.results = #[]:=rfl
 repeat' (first|(with_reducible first|refine uk ?_|refine wk ?_ ?_<;>intro _|(refine dr P256 mixed ?_ ?_ ?_;kernel_rfl;kernel_rfl))|simp -implicitDefEqProofs(disch:=first|assumption|omega)[*])
 refine aW_for (β:=Unit) false l.length (fun _ _=>True) (fun k _=>[(8,.int .i64 k),(9,.any),(10,.any),(11,.any),(5,.any),(12,.any),(13,.any),(14,.any),(15,.any),(16,.any),(17,.any),(18,.any),(19,.any),(20,.any),(21,.any),(22,.any),(23,.any),(24,.any),(25,.any),(26,.any),(27,.any),(28,.any),(29,.any),(30,.any),(31,.any),(32,.any),(33,.any)]) (fun k _=>s++[.cells (sumU (crcL r (l.take k)) m)]) (fun _ _=>v) ?_ ?_
 ·exact⟨(),trivial,fz0,by simp [crcL],rfl⟩
 rintro k _ hk -
 have hr2:=crcL_lt (l.take k) hr
 by_cases hlt:k<l.length
 ·have hx:=ix_in (l:=l) (i:=(k:Int)) (by omega) (by omega)
  rw [Int.toNat_natCast] at hx
  have hlt':(k:Int)<l.length:=by omega
  have hs:crcL r (l.take (k+1))=crcB (crcL r (l.take k)) (nth l k):=by rw [take_succ_nth hlt,crcL_snoc]
  rw [crcB_table] at hs
  have hbt:=(nth l k).toNat_lt
  have hb8:(nth l k).toNat<256:=by omega
  generalize crcL r (l.take k)=q at *
  have h8:q % 256<256:=by omega
  have hx8:=xor_lt8 h8 hb8
  have hw0:((IntKind.u8.wrap (q:Int)) % 256).toNat=q % 256:=by rw [u8_wrap];omega
  have hrr:=sumU_r q m
  have hst:=fun r'=>sumU_setr q r' m
  have hq8:q / 256<4294967296:=by omega
  have hle1:256+1≤(sumU q m).length:=by rw [hlen];omega
  have hle2:256≤(sumU q m).length:=by rw [hlen];omega
  obtain⟨i,hi⟩:∃ i,q % 256 ^^^ (nth l k).toNat=i:=⟨_,rfl⟩
  rw [hi] at hs hx8
  have hwi:=wrap_u8' hx8
  have hii:(i:Int)<256:=by omega
  have htl:=sumU_t q m hx8
  have hcn:=cN_lt (n:=i) (by omega) 8
  have hxl:=xor_lt32 hcn hq8
  have hq':((q:Int) / 256 % 4294967296).toNat=q / 256:=by omega
  clear h8 hr
  repeat' (first|(with_reducible first|refine uk ?_|refine wk ?_ ?_<;>intro _|(refine dr P256 mixed ?_ ?_ ?_;kernel_rfl;kernel_rfl))|simp -implicitDefEqProofs(disch:=first|assumption|omega)[*])
  exact⟨hlt,(),trivial,fz,by simp [hs,hq',hxl,hst],rfl⟩
 ·have hke:k=l.length:=by omega
  subst hke
  rw [List.take_of_length_le (Nat.le_refl _)] at *
  have hle1:257+1≤(sumU (crcL r l) m).length:=by rw [hlen];omega
  have hle2:257≤(sumU (crcL r l) m).length:=by rw [hlen];omega
  have hrr:=sumU_m (crcL r l) m
  have hst:=fun m'=>sumU_setm (crcL r l) m m'
  generalize crcL r l=q at *
  repeat' (first|(with_reducible first|refine uk ?_|refine wk ?_ ?_<;>intro _|(refine dr P256 mixed ?_ ?_ ?_;kernel_rfl;kernel_rfl))|simp -implicitDefEqProofs(disch:=first|assumption|omega)[*])
  all_goals first|exact⟨rfl,rfl⟩|simp
theorem cnow_t {r:Nat} (hr:r<4294967296) {m:Int} {s:List AObj} {v:List Nat} : aCalls Tryz.prog 257 [.ptr s.length 0] (s++[.cells (sumU r m)]) v fun x s' v'=>x = .int .u32 (r ^^^ 4294967295:Nat)∧s++[.cells (sumU r m)]=s'∧v=v':=by
 have hrr:=sumU_r r m
 have hl:=xor_lt32 (a:=r) (b:=4294967295) hr (by omega)
 refine ac0 Tryz.func257 Tryz.ntmps257 ?_
 have hrs:Tryz.f257.results = #[.tmp 2]:=rfl
 repeat' (first|(with_reducible first|refine uk ?_|refine wk ?_ ?_<;>intro _)|simp -implicitDefEqProofs(disch:=first|assumption|omega)[*])
theorem crcOf_p {l:List UInt8} (hb:l.length≤1000000000000):PureE Tryz.prog 205 [row l] (.int .u32 (crcOf l)):=by
 refine .of fun s v=>?_
 have hn:=fun s v=>cnew_t (s:=s) (v:=v)
 have ha:=fun s v=>cadd_t hb (r:=4294967295) (by omega) (m:=0) (by omega) (s:=s) (v:=v)
 have hlt:=crcL_lt l (r:=4294967295) (by omega)
 have hw:=fun s v=>cnow_t hlt (m:=(l.length:Int)) (s:=s) (v:=v)
 have hv:crcOf l=crcL 4294967295 l ^^^ 4294967295:=(inv32 hlt).symm
 rw [hv]
 generalize crcL 4294967295 l=q at *
 refine ac0 Tryz.func205 Tryz.ntmps205 ?_
 have hrs:Tryz.f205.results = #[.tmp 2]:=rfl
 repeat' (first|(with_reducible first|refine uk ?_|refine wk ?_ ?_<;>intro _)|simp -implicitDefEqProofs(disch:=first|assumption|omega)[*])
 refine aCalls_mono (hn _ _) ?_
 rintro _ _ _ ⟨rfl,rfl,rfl⟩
 repeat' (first|(with_reducible first|refine uk ?_|refine wk ?_ ?_<;>intro _)|simp -implicitDefEqProofs(disch:=first|assumption|omega)[*])
 refine aCalls_mono (ha _ _) ?_
 rintro _ _ _ ⟨rfl,rfl⟩
 repeat' (first|(with_reducible first|refine uk ?_|refine wk ?_ ?_<;>intro _)|simp -implicitDefEqProofs(disch:=first|assumption|omega)[*])
 refine aCalls_mono (hw _ _) ?_
 rintro _ _ _ ⟨rfl,rfl,rfl⟩
 repeat' (first|(with_reducible first|refine uk ?_|refine wk ?_ ?_<;>intro _)|simp -implicitDefEqProofs(disch:=first|assumption|omega)[*])
 all_goals exact EndsE.eqat rfl (by simp)
@[simp] def P269:Nat→Plan
 | 6=>(.qs [0,1,2,3,4,5,6,7,8] .nil)
 | _=>.nil
theorem bclone_f {l:List UInt8} (hb:l.length≤90000000):Fresh Tryz.prog 174 [row l] l:=by
 by_cases hl:l=[]
 ·subst hl
  refine Fresh.of fun s v=>?_
  refine aCalls_emp ?_ ?_
  ·refine ac0 Tryz.func174 Tryz.ntmps174 ?_
   have hrs:Tryz.f174.results = #[.tmp 2]:=rfl
   repeat' (first|(with_reducible first|refine uk ?_|refine wk ?_ ?_<;>intro _)|simp -implicitDefEqProofs(disch:=first|assumption|omega)[*])
   exact Gro.nil _
  ·obtain⟨x',v',hx',_,ha⟩:=GroC.app (P:=Tryz.prog) (t:=36) (t2:=36) (sz:=1) (by_:=1) (v0:=v) (v:=v) (n:=0) (m:=0) (cs:=[]) (ds:=[]) (x:=.imm 1 0 [] .full) (by kernel_rfl) ⟨List.prefix_refl _,.inl ⟨rfl,rfl,.inr rfl⟩⟩ (fun _=>rfl) (by unfold maxLen;omega) (by omega)
   replace ha:=fun s=>ha (.emp 1) s (by simp [aCells])
   have hg:GroE v v' ([]:List UInt8) x':=by unfold GroE;simpa using hx'
   refine ac0 Tryz.func174 Tryz.ntmps174 ?_
   have hrs:Tryz.f174.results = #[.tmp 2]:=rfl
   repeat' (first|(with_reducible first|refine uk ?_|refine wk ?_ ?_<;>intro _)|simp -implicitDefEqProofs(disch:=first|assumption|omega)[*])
   exact hg.gro
 ·have hne:l.length≠0:=fun h=>hl (List.length_eq_zero_iff.1 h)
  refine Fresh.of fun s v=>?_
  obtain⟨x',v',hx',_,ha⟩:=GroC.app (P:=Tryz.prog) (t:=36) (t2:=36) (sz:=1) (by_:=1) (v0:=v) (v:=v) (n:=0) (m:=l.length) (cs:=[]) (ds:=rowCs l) (x:=.imm 1 0 [] .full) (by kernel_rfl) ⟨List.prefix_refl _,.inl ⟨rfl,rfl,.inr rfl⟩⟩ (fun h=>absurd h hne) (by unfold maxLen;omega) (by omega)
  replace ha:=fun s=>ha (.imm 1 l.length (rowCs l) .no) s (by simp [aCells])
  have hg:GroE v v' l x':=by unfold GroE;simpa using hx'
  show aCalls Tryz.prog 174 [.imm 1 l.length (rowCs l) .no] s v _
  refine ac0 Tryz.func174 Tryz.ntmps174 ?_
  have hrs:Tryz.f174.results = #[.tmp 2]:=rfl
  repeat' (first|(with_reducible first|refine uk ?_|refine wk ?_ ?_<;>intro _)|simp -implicitDefEqProofs(disch:=first|assumption|omega)[*])
  exact hg.gro
theorem seal_p {l:List UInt8} (hb:l.length≤80000000):PureC Tryz.prog 117 [row l] (row (sealB l)):=by
 refine Fresh.pure (Fresh.of fun s v=>?_)
 have hof:=crcOf_p (l:=l) (by omega)
 have hcl:=bclone_f (l:=l) (by omega)
 have hn:=crcOf_lt l
 unfold sealB
 generalize crcOf l=n at *
 refine ac0 Tryz.func117 Tryz.ntmps117 ?_
 have hrs:Tryz.f117.results = #[.tmp 2]:=rfl
 repeat' (first|(with_reducible first|refine uk ?_|refine wk ?_ ?_<;>intro _|refine callE hof ?_|refine callF hcl (fun x v1 hx=>?_))|simp -implicitDefEqProofs(disch:=first|assumption|omega)[*])
 obtain⟨x2,v2,g2,_,gb⟩:=Gro.appi (P:=Tryz.prog) (t:=36) (t2:=36) (by_:=1) (by kernel_rfl) (by omega) hx (le4 n) (by simp [le4];omega)
 rw [le4_cs] at gb
 simp only [show (le4 n).length=4 from rfl,show Enc.sz UInt8=1 from rfl] at gb
 have w1:=u8_w0 n
 have w2:=u8_w0 ((n:Int) / 256)
 have w3:=u8_w0 ((n:Int) / 65536)
 have w4:=u8_w0 ((n:Int) / 16777216)
 have hc:=g2.cells
 have hxc:=hx.cells
 repeat' (first|(with_reducible first|refine uk ?_|refine wk ?_ ?_<;>intro _)|simp -implicitDefEqProofs(disch:=first|assumption|omega)[*])
@[simp] def P187:Nat→Plan
 | 7=>(.qs [0,1,2,3,4,5,6,7,8] .nil)
 | _=>.nil
theorem RowW.v {l:List Int} (h:RowW l):∀ k,k<l.length→nth l k≤9223372036854775807:=h.2
theorem RowW.n {l:List Int} (h:RowW l):l.length≤1000:=by have:=h.1;omega
@[simp] def P20:Nat→Plan
 | 1=>(.qs [0,1,3,4,5] (.w 2 [5] (.w 6 [] (.w 7 [] (.qs [8] .nil)))))
 | 2=>(.qs [0,1,2,3,6,7,10,11,14,15,18,19] (.w 4 [19,15,11,7] (.qs [5] (.w 8 [19,15,11] (.qs [9] (.w 12 [19,15] (.qs [13] (.w 16 [19] (.qs [17] (.w 20 [] (.qs [21,22,23] .nil)))))))))))
 | _=>.nil
theorem indexFunc_sec {l:List Sec} {p:Sec→Bool} {g:FuncId} {ca:List LV} {s:List AObj} (hb:l.length≤9223372036854775807) (h:∀ k,k<l.length→Ret Tryz.prog g (.agg [.int .i64 (nth l k).kind,row (nth l k).body] :: ca) s (.bool (p (nth l k)))) :
  Ret Tryz.prog 254 [row l,.fn (.func g) [] ca] s (.int .i64 (fidx p l)):=by
 refine .of fun v=>?_
 refine ac0 Tryz.func254 Tryz.ntmps254 ?_
 have hrs:Tryz.f254.results = #[.tmp 4]:=rfl
 repeat' (first|(with_reducible first|refine uk ?_|refine wk ?_ ?_<;>intro _)|simp -implicitDefEqProofs(disch:=first|assumption|omega)[*])
 refine aW_for (β:=List Nat) false l.length (fun k v1=>v <+: v1∧∀ j,j<k→p (nth l j)=false) (fun k _=>[(8,.int .i64 k),(9,.any),(10,.any),(5,.any),(11,.any),(12,.any),(13,.any),(14,.any),(15,.any),(16,.any),(17,.any),(4,.any),(18,.any)]) (fun _ _=>s) (fun _ v1=>v1) ?_ ?_
 ·exact⟨v,⟨List.prefix_refl _,by simp⟩,fz0,rfl,rfl⟩
 rintro k v1 hk ⟨hv,hI⟩
 by_cases hlt:k<l.length
 ·have hh:=h k hlt
  cases hp:p (nth l k)
  ·rw [hp] at hh
   repeat' (first|(with_reducible first|refine uk ?_|refine wk ?_ ?_<;>intro _|refine callR hh (fun v2 hv2=>?_))|simp -implicitDefEqProofs(disch:=first|assumption|omega)[*])
   exact⟨hlt,v2,⟨hv.trans hv2,fun j hj=>by
    by_cases e:j=k
    ·subst e;exact hp
    ·exact hI j (by omega)⟩,fz,rfl,rfl⟩
  ·rw [hp] at hh
   have hf:=fidx_at hlt hI hp
   repeat' (first|(with_reducible first|refine uk ?_|refine wk ?_ ?_<;>intro _|refine callR hh (fun v2 hv2=>?_))|simp -implicitDefEqProofs(disch:=first|assumption|omega)[*])
   exact Ends.eq rfl (by simp) (hv.trans hv2)
 ·have hf:=fidx_none (p:=p) (l:=l) (fun j hj=>hI j (by omega))
  have:k=l.length:=by omega
  subst this
  repeat' (first|(with_reducible first|refine uk ?_|refine wk ?_ ?_<;>intro _)|simp -implicitDefEqProofs(disch:=first|assumption|omega)[*])
  exact Ends.eq rfl (by simp) hv
theorem containsFunc_sec {l:List Sec} {p:Sec→Bool} {g:FuncId} {ca:List LV} {s:List AObj} (hb:l.length≤9223372036854775807) (h:∀ k,k<l.length→Ret Tryz.prog g (.agg [.int .i64 (nth l k).kind,row (nth l k).body] :: ca) s (.bool (p (nth l k)))) :
  Ret Tryz.prog 204 [row l,.fn (.func g) [] ca] s (.bool (l.any p)):=by
 refine .of fun v=>?_
 refine ac0 Tryz.func204 Tryz.ntmps204 ?_
 have hrs:Tryz.f204.results = #[.tmp 4]:=rfl
 have hi:=indexFunc_sec hb h
 rw [← fidx_any p l]
 repeat' (first|(with_reducible first|refine uk ?_|refine wk ?_ ?_<;>intro _|refine callR hi (fun v2 hv2=>?_))|simp -implicitDefEqProofs(disch:=first|assumption|omega)[*])
 exact Ends.eq rfl (by simp) hv2
def oddS (s:Sec):Bool:=decide (s.kind<0) || decide (255<s.kind) || decide ((1048576:Int)<s.body.length)
theorem odd_p (x:Sec):PureE Tryz.prog 203 [.agg [.int .i64 x.kind,row x.body]] (.bool (oddS x)):=by
 refine .of fun s v=>?_
 refine ac0 Tryz.func203 Tryz.ntmps203 ?_
 have hrs:Tryz.f203.results = #[.tmp 2]:=rfl
 repeat' (first|(with_reducible first|refine uk ?_|refine wk ?_ ?_<;>intro _|refine And.intro ?_ ?_)|simp -implicitDefEqProofs(disch:=first|assumption|omega)[*])
 all_goals exact EndsE.eqat (by simp [oddS, *]) (by simp)
def mayS (v:Int) (l:List Sec):Bool:=decide (0≤v) && (decide (v≤255) && (decide ((l.length:Int)≤16) && !l.any oddS))
theorem smay_p {ver:Int} {l:List Sec} (hl:l.length≤1000000):PureC Tryz.prog 115 [.int .i64 ver,row l] (.bool (mayS ver l)):=by
 refine .of fun s v=>?_
 have hc:Ret Tryz.prog 204 [row l,.fn (.func 203) [] []] s (.bool (l.any oddS)):=containsFunc_sec (by omega) fun k hk=>(odd_p (nth l k)).c.ret
 unfold mayS
 generalize l.any oddS=b at *
 refine ac0 Tryz.func115 Tryz.ntmps115 ?_
 have hrs:Tryz.f115.results = #[.tmp 4]:=rfl
 repeat' (first|(with_reducible first|refine uk ?_|refine wk ?_ ?_<;>intro _|refine And.intro ?_ ?_|refine callR hc (fun v2 hv2=>?_))|simp -implicitDefEqProofs(disch:=first|assumption|omega)[*])
 all_goals first|exact Ends.eqat (by simp [*]) (by simp) (by first|assumption|exact List.prefix_refl _)|exact Ends.eq (by simp [*]) (by simp) (by first|assumption|exact List.prefix_refl _)
end Go.Hb
end
