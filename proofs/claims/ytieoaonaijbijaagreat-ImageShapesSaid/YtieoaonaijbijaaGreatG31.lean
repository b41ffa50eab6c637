/-
  A layer for reasoning about the program's calls, and contracts of its functions. CONDITIONS: none; each theorem bears its own.
-/
import Derived.Test.YtieoaonaijbijaaGreatG30
import Derived.Test.YtieoaonaijbijaaGreatG11
import Derived.Test.YtieoaonaijbijaaGreatG07
import Derived.Test.YtieoaonaijbijaaGreatG10
set_option linter.unusedVariables false
set_option linter.unusedSimpArgs false
section
namespace Go.Hb
open Go Go.Proofs Go.RowKit
set_option maxRecDepth 100000
set_option maxHeartbeats 800000
attribute [-simp] aC aL xq yp zE aIf yr zR aLen zt ya zQ zP lBr aq yP aev zk zw zF zI LV.cells LV.cellsOk getElem?_pos getElem?_neg
@[simp] def P84:Nat→Plan
 | 1=>(.qs [0,1,2,3,5] (.w 4 [0] (.w 6 [] .nil)))
 | _=>.nil
@[simp] def P87:Nat→Plan
 | 0=>(.qs [0,1,2,3,4,5] (.w 6 [] .nil))
 | 1=>(.qs [0,1,2,3,4,5,6,7] (.w 8 [] .nil))
 | _=>.nil
@[simp] def P91:Nat→Plan
 | 1=>(.qs [0,1,2,3,5] (.w 4 [0] (.w 6 [] .nil)))
 | _=>.nil
@[simp] def P92:Nat→Plan
 | 0=>(.qs [0,1,2,3,4,5] (.w 6 [] .nil))
 | 1=>(.qs [0,1,2,3,4,5,6,7] (.w 8 [] .nil))
 | _=>.nil
@[simp] def P93:Nat→Plan
 | 1=>(.qs [0,1,2,3,5] (.w 4 [0] (.w 6 [] .nil)))
 | _=>.nil
@[simp] def P94:Nat→Plan
 | 0=>(.qs [0,1,2,3,4,5,6,7] (.w 8 [] .nil))
 | 1=>(.qs [0,1,2,3,4,5,8] (.w 6 [0] (.w 7 [0] (.w 9 [] .nil))))
 | 2=>(.qs [0,1,2,3,4,5,6,7] (.w 8 [] .nil))
 | _=>.nil
@[simp] def P97:Nat→Plan
 | 0=>(.qs [0,1,2,3] (.w 4 [] .nil))
 | 1=>(.qs [0,1,2,3] (.w 4 [] .nil))
 | _=>.nil
theorem YO {n:Nat}(hn:n≤1000):zG Tryz.prog 86 [.int .i64 n] (row (ints n)):=by
 refine xX.pure (xX.of fun s v=>?_)
 refine ac0 Tryz.func86 Tryz.ntmps86 ?_
 have hrs:Tryz.f86.results = #[.tmp 2]:=rfl
 repeat' (first|(with_reducible first|refine uk ?_|refine wk ?_ ?_<;>intro _)|simp -implicitDefEqProofs(disch:=first|assumption|omega)[*])
 refine zC (β:=LV × List Nat) false n (fun k p=>GroE v p.2 (ints k) p.1) (fun k p=>[(3,p.1),(6,.int .i64 k),(7,.any),(8,.any),(4,.any),(9,.any),(10,.any),(11,.any),(12,.any),(13,.any)]) (fun _ _=>s) (fun _ p=>p.2) ?_ ?_
 ·exact⟨(.nils,v),GroE.nil _,fz0,rfl,rfl⟩
 rintro k ⟨x,v1⟩ hk hG
 simp only at hG
 have hgc:=hG.gro.cells
 by_cases hlt:k<n
 ·obtain⟨x2,v2,g2,_,gb⟩:=hG.push (P:=Tryz.prog) (t:=23) (t2:=23) (sz:=1) (by_:=8) (by kernel_rfl) rfl (by omega) (k:Int) (by simp;omega)
  rw[← zfS] at g2
  simp only[yG] at gb
  have hlt':(k:Int)<n:=by omega
  repeat' (first|(with_reducible first|refine uk ?_|refine wk ?_ ?_<;>intro _)|simp -implicitDefEqProofs(disch:=first|assumption|omega)[*])
  exact⟨hlt,(x2,v2),g2,fz,rfl,rfl⟩
 ·have:k=n:=by omega
  subst this
  repeat' (first|(with_reducible first|refine uk ?_|refine wk ?_ ?_<;>intro _)|simp -implicitDefEqProofs(disch:=first|assumption|omega)[*])
  exact hG.gro
theorem zkL {c:Cor}{k id iw ic:Nat}(hk:k<c.owners.length)(hk2:k<c.lockq.length)(h:RowW (nth c.lockq k)):Wrt Tryz.prog 87 [.int .i64 k,.ptr iw 0,.ptr ic 0] id [(iw,.cells [.ptr id 0]),(ic,AObj.cells [.int .i64 c.now,row c.threads,row c.owners,row c.counts,row c.bufs,row c.lockq,row c.waitq,row c.downq,row c.sendq,row c.recvq])] (Zq c k) 1009:=fun S x v0 v bs B hL hS hx hB=>by
 refine wu.of ?_
 have hid:=(List.getElem?_eq_some_iff.1 hS).1;have hat:=yg hS;have hself:=yY hS;have s1:=sw1 hid;have s3:=sw3 hid;have s4:=sw4 hid;have s6:=sw6 (S:=S) (id:=id);have s7:=sw7 (S:=S) (id:=id)
 obtain⟨n1,g1⟩:=hL _ (List.mem_cons_self);dsimp only at n1 g1;have hi:=yg g1;have hi8:=sw8 n1 g1;have hi9:=fun o=>(show (S.set id o)[_]? = _ by simpa using hi8 o [])
 obtain⟨n2,g2⟩:=hL _ (List.mem_cons_of_mem _ (List.mem_cons_self));dsimp only at n2 g2;have hj:=yg g2;have hj8:=sw8 n2 g2;have hj9:=fun o=>(show (S.set id o)[_]? = _ by simpa using hj8 o [])
 have x1:=zB (l:=c.owners) (i:=(k:Int)) (by omega) (by omega)
 have x2:=zB (l:=c.lockq) (i:=(k:Int)) (by omega) (by omega)
 rw[Int.toNat_natCast] at x1 x2
 have hw:=zgA (id:=id) h
 have h1:=h.1
 have hk':(k:Int)<c.owners.length:=by omega
 have hk2':(k:Int)<c.lockq.length:=by omega
 refine ac0 Tryz.func87 Tryz.ntmps87 ?_
 have hrs:Tryz.f87.results = #[]:=rfl
 repeat' (first|(with_reducible first|refine uk ?_|refine wk ?_ ?_<;>intro _|(refine dr P87 mixed ?_ ?_ ?_;kernel_rfl;kernel_rfl)|refine yy Jg EnvW.nil (by first|exact hS|exact hat _|exact hself _|exact s4 _ _) hx (by omega) (fun y x v hx=>?_)|refine yy hw (by first|exact EnvW.nil|exact hE _|exact hE2 _ _) (by first|exact hS|exact hat _|exact hself _|exact s4 _ _) hx (by omega) (fun y x v hx=>?_))|simp -implicitDefEqProofs(disch:=first|assumption|omega)[*])
 all_goals exact⟨x,[],by simp,by simp,xH hx (by simp[Zq]) (by omega)⟩
theorem zlS {l:List Int}{id iw:Nat}(h:RowW l):Wrt Tryz.prog 90 [row l,.ptr iw 0] id [(iw,.cells [.ptr id 0])] (yz l) 1000:=fun S x v0 v bs B hL hS hx hB=>by
 refine wu.of ?_
 have hid:=(List.getElem?_eq_some_iff.1 hS).1;have hat:=yg hS;have hself:=yY hS;have s1:=sw1 hid;have s3:=sw3 hid;have s4:=sw4 hid;have s6:=sw6 (S:=S) (id:=id);have s7:=sw7 (S:=S) (id:=id)
 obtain⟨n1,g1⟩:=hL _ (List.mem_cons_self);dsimp only at n1 g1;have hi:=yg g1;have hi8:=sw8 n1 g1;have hi9:=fun o=>(show (S.set id o)[_]? = _ by simpa using hi8 o [])
 have hw:=zgA (id:=id) h
 have h1:=h.1
 refine ac0 Tryz.func90 Tryz.ntmps90 ?_
 have hrs:Tryz.f90.results = #[]:=rfl
 repeat' (first|(with_reducible first|refine uk ?_|refine wk ?_ ?_<;>intro _|refine yy hw (by first|exact EnvW.nil|exact hE _|exact hE2 _ _) (by first|exact hS|exact hat _|exact hself _|exact s4 _ _) hx (by omega) (fun y x v hx=>?_))|simp -implicitDefEqProofs(disch:=first|assumption|omega)[*])
 all_goals exact⟨x,[],by simp,by simp,xH hx rfl (by omega)⟩
theorem zlC {c:Cor}{id ic:Nat}(h:WrC c):Wrt Tryz.prog 84 [.ptr id 0,.ptr ic 0] id [(ic,AObj.cells [.int .i64 c.now,row c.threads,row c.owners,row c.counts,row c.bufs,row c.lockq,row c.waitq,row c.downq,row c.sendq,row c.recvq])] (vt c) 300000:=fun S x v0 v bs B hL hS hx hB=>by
 refine wu.of ?_
 have hid:=(List.getElem?_eq_some_iff.1 hS).1;have hat:=yg hS;have hself:=yY hS;have s1:=sw1 hid;have s3:=sw3 hid;have s4:=sw4 hid;have s6:=sw6 (S:=S) (id:=id);have s7:=sw7 (S:=S) (id:=id)
 obtain⟨n1,g1⟩:=hL _ (List.mem_cons_self);dsimp only at n1 g1;have hi:=yg g1;have hi8:=sw8 n1 g1;have hi9:=fun o=>(show (S.set id o)[_]? = _ by simpa using hi8 o [])
 have ht:=h.owners
 have ht2:=h.lockn
 have ht3:=h.waitn
 have hp:=YO (n:=c.owners.length) (by omega)
 have hic:=(List.getElem?_eq_some_iff.1 g1).1
 have hw:=uz (l:=ints c.owners.length) (w:=fun z=>Zq c z.toNat) (m:=1009) (id:=id) (L:=[(S.length,.cells [.ptr id 0]),(ic,AObj.cells [.int .i64 c.now,row c.threads,row c.owners,row c.counts,row c.bufs,row c.lockq,row c.waitq,row c.downq,row c.sendq,row c.recvq])]) (g:=87) (pre:=[]) (post:=[.ptr S.length 0,.ptr ic 0]) (by simp;omega) fun k hk=>by
  have hk':k<c.owners.length:=by simpa using hk
  rw[Xf hk']
  exact zkL hk' (by omega) (h.lockq _ (zm (by omega)))
 have hw2:=ZS (l:=c.waitq) (w:=yz) (m:=1000) (id:=id) (L:=[(S.length,.cells [.ptr id 0])]) (g:=90) (pre:=[]) (post:=[.ptr S.length 0]) (by omega) fun k hk=>zlS (h.waitq _ (zm hk))
 rw[Yu,Js] at hw
 have hE:∀ J,EnvW id [(S.length,.cells [.ptr id 0]),(ic,AObj.cells [.int .i64 c.now,row c.threads,row c.owners,row c.counts,row c.bufs,row c.lockq,row c.waitq,row c.downq,row c.sendq,row c.recvq])] (S++(.cells [.ptr id 0] :: J)):=fun J=>.cons (by omega) (by rw[xy];rfl) (.cons n1 (hi _) .nil)
 have hE2:∀ o J,EnvW id [(S.length,.cells [.ptr id 0])] (S.set id o++(.cells [.ptr id 0] :: J)):=fun o J=>.cons (by omega) (by rw[s6];rfl) .nil
 clear h
 refine ac0 Tryz.func84 Tryz.ntmps84 ?_
 have hrs:Tryz.f84.results = #[]:=rfl
 repeat' (first|(with_reducible first|refine uk ?_|refine wk ?_ ?_<;>intro _|(refine dr P84 mixed ?_ ?_ ?_;kernel_rfl;kernel_rfl)|refine zg hp (fun v1 hv1=>?_)|refine yy hw (by first|exact EnvW.nil|exact hE _|exact hE2 _ _) (by first|exact hS|exact hat _|exact hself _|exact s4 _ _) (hx.mo hv1) (by omega) (fun y x v hx=>?_)|refine yy hw2 (by first|exact EnvW.nil|exact hE _|exact hE2 _ _) (by first|exact hS|exact hat _|exact hself _|exact s4 _ _) hx (by omega) (fun y x v hx=>?_))|simp -implicitDefEqProofs(disch:=first|assumption|omega)[*])
 all_goals exact⟨x,_,rfl,by simp,xH hx (by simp[vt]) (by omega)⟩
theorem zlF {c:Cor}{k id iw ic:Nat}(hk:k<c.counts.length)(hk2:k<c.downq.length)(h:RowW (nth c.downq k))(hn:nth c.counts k≤9223372036854775807):Wrt Tryz.prog 92 [.int .i64 k,.ptr iw 0,.ptr ic 0] id [(iw,.cells [.ptr id 0]),(ic,AObj.cells [.int .i64 c.now,row c.threads,row c.owners,row c.counts,row c.bufs,row c.lockq,row c.waitq,row c.downq,row c.sendq,row c.recvq])] (Xg c k) 1009:=fun S x v0 v bs B hL hS hx hB=>by
 refine wu.of ?_
 have hid:=(List.getElem?_eq_some_iff.1 hS).1;have hat:=yg hS;have hself:=yY hS;have s1:=sw1 hid;have s3:=sw3 hid;have s4:=sw4 hid;have s6:=sw6 (S:=S) (id:=id);have s7:=sw7 (S:=S) (id:=id)
 obtain⟨n1,g1⟩:=hL _ (List.mem_cons_self);dsimp only at n1 g1;have hi:=yg g1;have hi8:=sw8 n1 g1;have hi9:=fun o=>(show (S.set id o)[_]? = _ by simpa using hi8 o [])
 obtain⟨n2,g2⟩:=hL _ (List.mem_cons_of_mem _ (List.mem_cons_self));dsimp only at n2 g2;have hj:=yg g2;have hj8:=sw8 n2 g2;have hj9:=fun o=>(show (S.set id o)[_]? = _ by simpa using hj8 o [])
 have x1:=zB (l:=c.counts) (i:=(k:Int)) (by omega) (by omega)
 have x2:=zB (l:=c.downq) (i:=(k:Int)) (by omega) (by omega)
 rw[Int.toNat_natCast] at x1 x2
 have hw:=zgA (id:=id) h
 have h1:=h.1
 have hk':(k:Int)<c.counts.length:=by omega
 have hk2':(k:Int)<c.downq.length:=by omega
 refine ac0 Tryz.func92 Tryz.ntmps92 ?_
 have hrs:Tryz.f92.results = #[]:=rfl
 repeat' (first|(with_reducible first|refine uk ?_|refine wk ?_ ?_<;>intro _|(refine dr P92 mixed ?_ ?_ ?_;kernel_rfl;kernel_rfl)|refine yy (vi (by omega)) EnvW.nil (by first|exact hS|exact hat _|exact hself _|exact s4 _ _) hx (by omega) (fun y x v hx=>?_)|refine yy hw (by first|exact EnvW.nil|exact hE _|exact hE2 _ _) (by first|exact hS|exact hat _|exact hself _|exact s4 _ _) hx (by omega) (fun y x v hx=>?_))|simp -implicitDefEqProofs(disch:=first|assumption|omega)[*])
 all_goals exact⟨x,[],by simp,by simp,xH hx (by simp[Xg]) (by omega)⟩
theorem zlL {c:Cor}{id ic:Nat}(h:WrC c):Wrt Tryz.prog 91 [.ptr id 0,.ptr ic 0] id [(ic,AObj.cells [.int .i64 c.now,row c.threads,row c.owners,row c.counts,row c.bufs,row c.lockq,row c.waitq,row c.downq,row c.sendq,row c.recvq])] (ub c) 300000:=fun S x v0 v bs B hL hS hx hB=>by
 refine wu.of ?_
 have hid:=(List.getElem?_eq_some_iff.1 hS).1;have hat:=yg hS;have hself:=yY hS;have s1:=sw1 hid;have s3:=sw3 hid;have s4:=sw4 hid;have s6:=sw6 (S:=S) (id:=id);have s7:=sw7 (S:=S) (id:=id)
 obtain⟨n1,g1⟩:=hL _ (List.mem_cons_self);dsimp only at n1 g1;have hi:=yg g1;have hi8:=sw8 n1 g1;have hi9:=fun o=>(show (S.set id o)[_]? = _ by simpa using hi8 o [])
 have ht:=h.counts
 have ht2:=h.downn
 have hp:=YO (n:=c.counts.length) (by omega)
 have hw:=uz (l:=ints c.counts.length) (w:=fun z=>Xg c z.toNat) (m:=1009) (id:=id) (L:=[(S.length,.cells [.ptr id 0]),(ic,AObj.cells [.int .i64 c.now,row c.threads,row c.owners,row c.counts,row c.bufs,row c.lockq,row c.waitq,row c.downq,row c.sendq,row c.recvq])]) (g:=92) (pre:=[]) (post:=[.ptr S.length 0,.ptr ic 0]) (by simp;omega) fun k hk=>by
  have hk':k<c.counts.length:=by simpa using hk
  rw[Xf hk']
  exact zlF hk' (by omega) (h.downq _ (zm (by omega))) (ht.2 k hk')
 rw[Yu,Js] at hw
 have hE:∀ J,EnvW id [(S.length,.cells [.ptr id 0]),(ic,AObj.cells [.int .i64 c.now,row c.threads,row c.owners,row c.counts,row c.bufs,row c.lockq,row c.waitq,row c.downq,row c.sendq,row c.recvq])] (S++(.cells [.ptr id 0] :: J)):=fun J=>.cons (by omega) (by rw[xy];rfl) (.cons n1 (hi _) .nil)
 clear h
 refine ac0 Tryz.func91 Tryz.ntmps91 ?_
 have hrs:Tryz.f91.results = #[]:=rfl
 repeat' (first|(with_reducible first|refine uk ?_|refine wk ?_ ?_<;>intro _|(refine dr P91 mixed ?_ ?_ ?_;kernel_rfl;kernel_rfl)|refine zg hp (fun v1 hv1=>?_)|refine yy hw (by first|exact EnvW.nil|exact hE _|exact hE2 _ _) (by first|exact hS|exact hat _|exact hself _|exact s4 _ _) (hx.mo hv1) (by omega) (fun y x v hx=>?_))|simp -implicitDefEqProofs(disch:=first|assumption|omega)[*])
 all_goals exact⟨x,_,rfl,by simp,xH hx (by simp[ub]) (by omega)⟩
def twoB (l:List Int):List UInt8:=zb (nth l 0)++yb (nth l 1)
theorem zmr {a b:Int}{id iw:Nat}(ha:a≤9223372036854775807):Wrt Tryz.prog 97 [row [a,b],.ptr iw 0] id [(iw,.cells [.ptr id 0])] (twoB [a,b]) 18:=fun S x v0 v bs B hL hS hx hB=>by
 refine wu.of ?_
 have hid:=(List.getElem?_eq_some_iff.1 hS).1;have hat:=yg hS;have hself:=yY hS;have s1:=sw1 hid;have s3:=sw3 hid;have s4:=sw4 hid;have s6:=sw6 (S:=S) (id:=id);have s7:=sw7 (S:=S) (id:=id)
 obtain⟨n1,g1⟩:=hL _ (List.mem_cons_self);dsimp only at n1 g1;have hi:=yg g1;have hi8:=sw8 n1 g1;have hi9:=fun o=>(show (S.set id o)[_]? = _ by simpa using hi8 o [])
 have x0:ix [a,b] 0=some (.eptr [.int .i64 a]):=by rw[zB (by omega) (by simp)];rfl
 have x1:ix [a,b] 1=some (.eptr [.int .i64 b]):=by rw[zB (by omega) (by simp)];rfl
 have e:twoB [a,b]=zb a++yb b:=rfl
 rw[e]
 generalize [a,b]=l at *
 refine ac0 Tryz.func97 Tryz.ntmps97 ?_
 have hrs:Tryz.f97.results = #[]:=rfl
 repeat' (first|(with_reducible first|refine uk ?_|refine wk ?_ ?_<;>intro _|(refine dr P97 mixed ?_ ?_ ?_;kernel_rfl;kernel_rfl)|refine yy (vi (by omega)) EnvW.nil (by first|exact hS|exact hat _|exact hself _|exact s4 _ _) hx (by omega) (fun y x v hx=>?_)|refine yy Jg EnvW.nil (by first|exact hS|exact hat _|exact hself _|exact s4 _ _) hx (by omega) (fun y x v hx=>?_))|simp -implicitDefEqProofs(disch:=first|assumption|omega)[*])
 all_goals exact⟨x,[],by simp,by simp,xH hx (by simp) (by omega)⟩
theorem zgk (l:List Int):(prs l).flatMap twoB=(List.range (l.length/2)).flatMap (YV l):=by
 rw[← zdG twoB (prs l),JB]
 unfold List.flatMap
 congr 1
 apply List.map_congr_left
 intro i hi
 rw[Yn l (by simpa using hi)]
 rfl
theorem zjE {l:List Int}{s:List AObj}{v:List Nat} : zp Tryz.prog 96 [row l,.int .i64 2] s v fun x s' v'=>.fn (.func 195) [] [.ptr s.length 0,.ptr (s.length+1) 0]=x∧s++[.cells [row l],.cells [.int .i64 2]]=s'∧v=v':=
 zj ziV fun _ _ _ ⟨a,b,c⟩=>⟨a.symm,b,c⟩
theorem zlb {c:Cor}{k id iw ic:Nat}(hk:k<c.bufs.length)(hk2:k<c.sendq.length)(hk3:k<c.recvq.length)(h1:(nth c.bufs k).length≤100)(h2:RowW (nth c.sendq k)∧(nth c.sendq k).length%2=0)(h3:RowW (nth c.recvq k)) :
  Wrt Tryz.prog 94 [.int .i64 k,.ptr iw 0,.ptr ic 0] id [(iw,.cells [.ptr id 0]),(ic,AObj.cells [.int .i64 c.now,row c.threads,row c.owners,row c.counts,row c.bufs,row c.lockq,row c.waitq,row c.downq,row c.sendq,row c.recvq])] (Zf c k) 3000:=fun S x v0 v bs B hL hS hx hB=>by
 refine wu.of ?_
 have hid:=(List.getElem?_eq_some_iff.1 hS).1;have hat:=yg hS;have hself:=yY hS;have s1:=sw1 hid;have s3:=sw3 hid;have s4:=sw4 hid;have s6:=sw6 (S:=S) (id:=id);have s7:=sw7 (S:=S) (id:=id)
 obtain⟨n1,g1⟩:=hL _ (List.mem_cons_self);dsimp only at n1 g1;have hi:=yg g1;have hi8:=sw8 n1 g1;have hi9:=fun o=>(show (S.set id o)[_]? = _ by simpa using hi8 o [])
 obtain⟨n2,g2⟩:=hL _ (List.mem_cons_of_mem _ (List.mem_cons_self));dsimp only at n2 g2;have hj:=yg g2;have hj8:=sw8 n2 g2;have hj9:=fun o=>(show (S.set id o)[_]? = _ by simpa using hj8 o [])
 have x1:=zB (l:=c.bufs) (i:=(k:Int)) (by omega) (by omega)
 have x2:=zB (l:=c.sendq) (i:=(k:Int)) (by omega) (by omega)
 have x3:=zB (l:=c.recvq) (i:=(k:Int)) (by omega) (by omega)
 rw[Int.toNat_natCast] at x1 x2 x3
 have hw:=zfM (l:=nth c.bufs k) (id:=id) (by omega)
 have hw2:=zgA (id:=id) h3
 have b2:=h2.1.1
 have b3:=h3.1
 have hpl:=JB (nth c.sendq k)
 have hw3:=ZS (l:=prs (nth c.sendq k)) (w:=twoB) (m:=18) (id:=id) (L:=[(iw,.cells [.ptr id 0])]) (g:=97) (pre:=[]) (post:=[.ptr iw 0]) (by omega) fun j hj=>by
  rw[Yn _ (by omega)]
  exact zmr (h2.1.2 (2*j) (by omega))
 rw[zgk,hpl] at hw3
 have hcol:=fun s i1 i2 a1 a2=>zgf (q:=nth c.sendq k) (i1:=i1) (i2:=i2) (s:=s) a1 a2 h2.2 (by omega)
 have hE:∀ o J,EnvW id [(iw,.cells [.ptr id 0])] (S.set id o++J):=fun o J=>.cons n1 (hi8 _ _) .nil
 have hk':(k:Int)<c.bufs.length:=by omega
 have hk2':(k:Int)<c.sendq.length:=by omega
 have hk3':(k:Int)<c.recvq.length:=by omega
 refine ac0 Tryz.func94 Tryz.ntmps94 ?_
 have hrs:Tryz.f94.results = #[]:=rfl
 repeat' (first|(with_reducible first|refine uk ?_|refine wk ?_ ?_<;>intro _|(refine dr P94 mixed ?_ ?_ ?_;kernel_rfl;kernel_rfl)|refine yy hw (by first|exact EnvW.nil|exact hE _|exact hE2 _ _) (by first|exact hS|exact hat _|exact hself _|exact s4 _ _) hx (by omega) (fun y x v hx=>?_)|refine yy hw2 (by first|exact EnvW.nil|exact hE _|exact hE2 _ _) (by first|exact hS|exact hat _|exact hself _|exact s4 _ _) hx (by omega) (fun y x v hx=>?_)|refine zmm zjE ?_|refine yE (hcol _ _ _ (by simp[s6]) (by simp[s7])) (fun v1 hv1=>?_)|refine yy hw3 (hE _ _) (s4 _ _) (hx.mo hv1) (by omega) (fun y x v hx=>?_))|simp -implicitDefEqProofs(disch:=first|assumption|omega)[*])
 all_goals exact⟨x,_,rfl,by simp,xH hx (by simp[Zf]) (by omega)⟩
theorem zhL {l:List UInt8}(hb:l.length≤1000000000000):zM Tryz.prog 75 [row l] (.int .u32 (ZA l)):=by
 refine .of fun s v=>?_
 refine ac0 Tryz.func75 Tryz.ntmps75 ?_
 have hrs:Tryz.f75.results = #[.tmp 2]:=rfl
 repeat' (first|(with_reducible first|refine uk ?_|refine wk ?_ ?_<;>intro _)|simp -implicitDefEqProofs(disch:=first|assumption|omega)[*])
 refine zC (β:=Unit) false l.length (fun _ _=>True) (fun k _=>[(3,.int .u32 (crcL 4294967295 (l.take k))),(4,.int .i64 k),(6,.any),(7,.any),(8,.any),(9,.any),(12,.any),(13,.any),(14,.any),(15,.any),(16,.any),(17,.any),(18,.any),(5,.any),(19,.any),(20,.any),(23,.any),(24,.any),(25,.any),(26,.any),(27,.any),(28,.any),(29,.any),(30,.any),(21,.any),(22,.any),(10,.any),(11,.any)]) (fun _ _=>s) (fun _ _=>v) ?_ ?_
 ·exact⟨(),trivial,by (refine Fits.of ?_ (Off.refl _ _);simp[zh,zu,crcL]),rfl,rfl⟩
 rintro k _ hk -
 have hr:=YG (l.take k) (r:=4294967295) (by omega)
 by_cases hlt:k<l.length
 ·have hx:=zB (l:=l) (i:=(k:Int)) (by omega) (by omega)
  rw[Int.toNat_natCast] at hx
  have hs:crcL 4294967295 (l.take (k+1))=crcB (crcL 4294967295 (l.take k)) (nth l k):=by rw[za hlt,zah]
  have hlt':(k:Int)<l.length:=by omega
  have hbt:=(nth l k).toNat_lt
  generalize crcL 4294967295 (l.take k)=r at *
  have hb32:(nth l k).toNat<4294967296:=by omega
  have hx32:=QX hr hb32
  obtain⟨x,hxx⟩:∃ x,r ^^^ (nth l k).toNat=x:=⟨_,rfl⟩
  have hs2:crcB r (nth l k)=cN 8 x:=by unfold crcB;rw[hxx]
  rw[hs2] at hs
  rw[hxx] at hx32
  clear hs2
  repeat' (first|(with_reducible first|refine uk ?_|refine wk ?_ ?_<;>intro _)|simp -implicitDefEqProofs(disch:=first|assumption|omega)[*])
  refine yW (β:=Unit) false 8 (fun _ _=>True) (fun j _=>[(3,.int .u32 (cN j x)),(5,.int .i64 j),(19,.any),(20,.any),(23,.any),(24,.any),(25,.any),(26,.any),(27,.any),(28,.any),(29,.any),(30,.any),(21,.any),(22,.any)]) (fun _ _=>s) (fun _ _=>v) ?_ ?_
  ·exact⟨(),trivial,by (refine Fits.of ?_ (Off.refl _ _);simp[zh,zu,cN, *]),rfl,rfl⟩
  rintro j _ hj -
  have hy:=zee hx32 j
  by_cases hjt:j<8
  ·have hjt':(j:Int)<8:=by omega
   have hc:cN (j+1) x=cS (cN j x):=rfl
   generalize cN j x=y at *
   by_cases hod:y%2=1
   ·have hc2:cN (j+1) x=(y/2) ^^^ 3988292384:=by rw[hc];unfold cS zdr;rw[if_pos hod]
    have hl:=QX (a:=y/2) (b:=3988292384) (by omega) (by omega)
    have hod':(y:Int).tmod 2=1:=by rw[Int.tmod_eq_emod_of_nonneg (by omega)];omega
    have hq:y/2<4294967296:=by omega
    have hq':(y:Int).tdiv 2=((y/2:Nat):Int):=by rw[Int.tdiv_eq_ediv_of_nonneg (by omega)];omega
    have hq32:y/2<4294967296:=hq
    clear hc
    repeat' (first|(with_reducible first|refine uk ?_|refine wk ?_ ?_<;>intro _)|simp -implicitDefEqProofs(disch:=first|assumption|omega)[*])
    exact⟨hjt,(),trivial,by (refine Fits.of ?_ ?_;rotate_left;(repeat (first|with_reducible exact Off.refl _ _|refine Off.upd rfl ?_|refine Off.updO rfl ?_|refine Off.upds rfl ?_));first|(simp[zh,zu];done)|(simp[zh,zu, *,hc2];done)|(simp[zh,zu, *,hc2];omega)|simp[zh,zu]),rfl,rfl⟩
   ·have hc2:cN (j+1) x=y/2:=by rw[hc];unfold cS;rw[if_neg hod]
    have hod':¬ (y:Int).tmod 2=1:=by rw[Int.tmod_eq_emod_of_nonneg (by omega)];omega
    have hq:y/2<4294967296:=by omega
    have hq':(y:Int).tdiv 2=((y/2:Nat):Int):=by rw[Int.tdiv_eq_ediv_of_nonneg (by omega)];omega
    clear hc
    repeat' (first|(with_reducible first|refine uk ?_|refine wk ?_ ?_<;>intro _)|simp -implicitDefEqProofs(disch:=first|assumption|omega)[*])
    exact⟨hjt,(),trivial,by (refine Fits.of ?_ ?_;rotate_left;(repeat (first|with_reducible exact Off.refl _ _|refine Off.upd rfl ?_|refine Off.updO rfl ?_|refine Off.upds rfl ?_));first|(simp[zh,zu];done)|(simp[zh,zu, *,hc2];done)|(simp[zh,zu, *,hc2];omega)|simp[zh,zu]),rfl,rfl⟩
  ·have hje:j=8:=by omega
   subst hje
   repeat' (first|(with_reducible first|refine uk ?_|refine wk ?_ ?_<;>intro _)|simp -implicitDefEqProofs(disch:=first|assumption|omega)[*])
   exact⟨hlt,(),trivial,by (refine Fits.of ?_ ?_;rotate_left;(repeat (first|with_reducible exact Off.refl _ _|refine Off.upd rfl ?_|refine Off.updO rfl ?_|refine Off.upds rfl ?_));first|(simp[zh,zu];done)|(simp[zh,zu, *,hs];done)|(simp[zh,zu, *,hs];omega)|simp[zh,zu]),rfl,rfl⟩
 ·have hke:k=l.length:=by omega
  subst hke
  rw[List.take_of_length_le (Nat.le_refl _)] at *
  have hv:((4294967295:Int)-(crcL 4294967295 l:Nat))=((ZA l:Nat):Int):=by unfold ZA;omega
  have hv2:=Xx l
  generalize crcL 4294967295 l=r at *
  repeat' (first|(with_reducible first|refine uk ?_|refine wk ?_ ?_<;>intro _)|simp -implicitDefEqProofs(disch:=first|assumption|omega)[*])
  exact zn.eq (by simp[hv,hv2]) (by simp)
theorem XT {l:List UInt8}(hb:l.length≤10000000):zG Tryz.prog 28 [row l] (row (vO l)):=by
 refine xX.pure (xX.of fun s v=>?_)
 have hof:=zhL (l:=l) (by omega)
 have hcl:=Xx l
 unfold vO
 generalize ZA l=n at *
 refine ac0 Tryz.func28 Tryz.ntmps28 ?_
 have hrs:Tryz.f28.results = #[.tmp 2]:=rfl
 obtain⟨x1,v1,g1,_,ga⟩:=(Gro.nil v (α:=UInt8)).appr (P:=Tryz.prog) (t:=36) (t2:=36) (by_:=1) (by kernel_rfl) (by omega) l (by simp;omega)
 simp only[List.nil_append] at g1
 have hx1:=g1.cells
 repeat' (first|(with_reducible first|refine uk ?_|refine wk ?_ ?_<;>intro _|refine zc hof ?_)|simp -implicitDefEqProofs(disch:=first|assumption|omega)[*])
 clear ga
 refine zC (β:=LV × List Nat) false 4 (fun k q=>Gro v q.2 (l++(le4 n).take k) q.1) (fun k q=>[(3,q.1),(4,.int .u32 (n/256 ^ k:Nat)),(5,.int .i64 k),(11,.any),(12,.any),(15,.any),(16,.any),(17,.any),(18,.any),(19,.any),(20,.any),(21,.any),(22,.any),(13,.any),(14,.any)]) (fun _ _=>s) (fun _ q=>q.2) ?_ ?_
 ·exact⟨(x1,v1),by simpa[le4] using g1,by (refine Fits.of ?_ (Off.refl _ _);simp[zh,zu]),by simp,rfl⟩
 rintro k ⟨x,v2⟩ hk hG
 simp only at hG
 by_cases hlt:k<4
 ·have hlt':(k:Int)<4:=by omega
  have hp:=zkB n k
  have ht:=zhw n hlt
  have h256:(n:Int)/256 ^ (k+1)=((n/256 ^ k:Nat):Int)/256:=by
   have h:=congrArg (fun a:Nat=>(a:Int)) hp
   simpa using h
  have hm:n/256 ^ k<4294967296:=Nat.lt_of_le_of_lt (Nat.div_le_self _ _) hcl
  generalize n/256 ^ (k+1)=m2 at *
  generalize n/256 ^ k=m at *
  subst hp
  obtain⟨x2,v3,g2,_,gb⟩:=hG.push (P:=Tryz.prog) (t:=36) (t2:=36) (sz:=1) (by_:=1) (by kernel_rfl) rfl (by omega) (UInt8.ofNat m) (ds:=[.int .u8 (UInt8.ofNat m).toNat]) ⟨Weak.refl _,trivial⟩ (by simp) (by simp[le4];omega)
  rw[List.append_assoc,← ht] at g2
  have hc:=g2.cells
  have hmo:(m:Int).tmod 256=((m%256:Nat):Int):=by rw[Int.tmod_eq_emod_of_nonneg (by omega)];omega
  have hdi:(m:Int).tdiv 256=((m/256:Nat):Int):=by rw[Int.tdiv_eq_ediv_of_nonneg (by omega)];omega
  rw[zlP] at gb
  clear hof hcl
  repeat' (first|(with_reducible first|refine uk ?_|refine wk ?_ ?_<;>intro _)|simp -implicitDefEqProofs(disch:=first|assumption|omega)[*])
  exact⟨hlt,(x2,v3),g2,by (refine Fits.of ?_ ?_;rotate_left;(repeat (first|with_reducible exact Off.refl _ _|refine Off.upd rfl ?_|refine Off.updO rfl ?_|refine Off.upds rfl ?_));first|(simp[zh,zu];done)|(simp[zh,zu, *,h256];done)|(simp[zh,zu, *,h256];omega)|simp[zh,zu]),rfl,rfl⟩
 ·have hke:k=4:=by omega
  subst hke
  rw[show (le4 n).take 4=le4 n from rfl] at hG
  have hc:=hG.cells
  have hu:=hG.under
  clear hof
  repeat' (first|(with_reducible first|refine uk ?_|refine wk ?_ ?_<;>intro _)|simp -implicitDefEqProofs(disch:=first|assumption|omega)[*])
  all_goals exact⟨⟨_,rfl⟩,hG⟩
theorem ziM {n:Nat}(h:n<4294967296):zM Tryz.prog 301 [.int .u32 n] (.int .u32 (cS n)):=by
 refine .of fun s v=>?_
 have hl:=QX (a:=n/2) (b:=3988292384) (by omega) (by omega)
 have hh:n/2<4294967296:=by omega
 unfold cS zdr
 by_cases ho:n%2=1
 ·rw[if_pos ho]
  have hoI:(n:Int)%2=1:=by omega
  refine ac0 Tryz.func301 Tryz.ntmps301 ?_
  have hrs:Tryz.f301.results = #[.tmp 2]:=rfl
  repeat' (first|(with_reducible first|refine uk ?_|refine wk ?_ ?_<;>intro _)|simp -implicitDefEqProofs(disch:=first|assumption|omega)[*])
  all_goals exact zn.eq (by simp[hl,hh]) (by simp)
 ·rw[if_neg ho]
  have hoI:¬ (n:Int)%2=1:=by omega
  have ho0:n%2=0:=by omega
  refine ac0 Tryz.func301 Tryz.ntmps301 ?_
  have hrs:Tryz.f301.results = #[.tmp 2]:=rfl
  repeat' (first|(with_reducible first|refine uk ?_|refine wk ?_ ?_<;>intro _)|simp -implicitDefEqProofs(disch:=first|assumption|omega)[*])
  all_goals exact zn.eq (by simp[hl,hh]) (by simp)
@[simp] theorem ze_tab:zT Tryz.prog 298=some (.agg (tabU 0)):=by kernel_rfl
theorem zkm:zM Tryz.prog 284 [] (.agg (tabU 256)):=by
 refine .of fun s v=>?_
 have h0:LV.cellsOk (.agg (tabU 0))=true:=by decide
 refine ac0 Tryz.func284 Tryz.ntmps284 ?_
 have hrs:Tryz.f284.results = #[.cell 0 298]:=rfl
 repeat' (first|(with_reducible first|refine uk ?_|refine wk ?_ ?_<;>intro _)|simp -implicitDefEqProofs(disch:=first|assumption|omega)[*])
 refine zC (β:=Unit) false 256 (fun _ _=>True) (fun k _=>[(5,.int .i64 k),(6,.any),(7,.any),(3,.any),(8,.any),(9,.any),(4,.any),(10,.any),(11,.any),(12,.any),(13,.any),(14,.any),(15,.any),(16,.any),(17,.any),(18,.any),(19,.any)]) (fun k _=>s++[.cells (tabU 0),.cells (tabU k)]) (fun _ _=>v) ?_ ?_
 ·exact⟨(),trivial,fz0,rfl,rfl⟩
 rintro k _ hk -
 have hlen:=yD hk
 by_cases hlt:k<256
 ·have hlt':(k:Int)<256:=by omega
  have hk32:k<4294967296:=by omega
  have hst:=zgh hlt
  repeat' (first|(with_reducible first|refine uk ?_|refine wk ?_ ?_<;>intro _)|simp -implicitDefEqProofs(disch:=first|assumption|omega)[*])
  refine zC (β:=Unit) false 8 (fun _ _=>True) (fun j _=>[(4,.int .u32 (cN j k:Nat)),(10,.int .i64 j),(11,.any),(12,.any),(13,.any),(14,.any),(15,.any)]) (fun _ _=>s++[.cells (tabU 0),.cells (tabU k)]) (fun _ _=>v) ?_ ?_
  ·exact⟨(),trivial,by (refine Fits.of ?_ (Off.refl _ _);simp[zh,zu,cN, *]),rfl,rfl⟩
  rintro j _ hj -
  by_cases hjt:j<8
  ·have hjt':(j:Int)<8:=by omega
   have hcs:=ziM (zee hk32 j)
   have hc:cN (j+1) k=cS (cN j k):=rfl
   repeat' (first|(with_reducible first|refine uk ?_|refine wk ?_ ?_<;>intro _|refine zc hcs ?_)|simp -implicitDefEqProofs(disch:=first|assumption|omega)[*])
   exact⟨hjt,(),trivial,by (refine Fits.of ?_ ?_;rotate_left;(repeat (first|with_reducible exact Off.refl _ _|refine Off.upd rfl ?_|refine Off.updO rfl ?_|refine Off.upds rfl ?_));first|(simp[zh,zu];done)|(simp[zh,zu, *,hc];done)|(simp[zh,zu, *,hc];omega)|simp[zh,zu]),rfl,rfl⟩
  ·have hje:j=8:=by omega
   subst hje
   have hl0:k+1≤(tabU k).length:=by omega
   have hl1:k≤(tabU k).length:=by omega
   have hl2:k+1≤256:=by omega
   repeat' (first|(with_reducible first|refine uk ?_|refine wk ?_ ?_<;>intro _)|simp -implicitDefEqProofs(disch:=first|assumption|omega)[*])
   exact⟨hlt,(),trivial,fz,by simp,rfl⟩
 ·have hke:k=256:=by omega
  subst hke
  have hsa:wq (tabU 0) 0 (tabU 256)=tabU 256:=zgr (by rw[yD (by omega),yD (by omega)])
  have hl0:256≤(tabU 0).length:=by rw[yD (by omega)];exact Nat.le_refl _
  have hl1:256≤(tabU 256).length:=by omega
  have htk:(tabU 256).take 256=tabU 256:=List.take_of_length_le (by omega)
  repeat' (first|(with_reducible first|refine uk ?_|refine wk ?_ ?_<;>intro _)|simp -implicitDefEqProofs(disch:=first|assumption|omega)[*])
  exact zn.eqat rfl (by simp[zhi])
@[simp] theorem ze_sum:zT Tryz.prog 301=some (.agg (tabU 0++[.int .u32 0,.int .i64 0])):=by kernel_rfl
theorem zmh {s:List AObj}{v:List Nat} : zp Tryz.prog 255 [] s v fun x s' v'=>x = .ptr s.length 0∧s++[.cells (sumU 4294967295 0)]=s'∧v=v':=by
 have ht:=zkm
 have h0:LV.cellsOk (.agg (tabU 0++[.int .u32 0,.int .i64 0]))=true:=by decide
 have h1:LV.cellsOk (.agg (tabU 256))=true:=by kernel_rfl
 have hsa:=fun r=>zeV (old:=tabU 0) (new:=tabU 256) r (by rw[yD (by omega),yD (by omega)])
 have hl:(tabU 256).length=256:=yD (by omega)
 have hl0:(tabU 0).length=256:=yD (by omega)
 have hsu:tabU 256++[.int .u32 4294967295,.int .i64 0]=sumU 4294967295 0:=rfl
 refine ac0 Tryz.func255 Tryz.ntmps255 ?_
 have hrs:Tryz.f255.results = #[.tmp 0]:=rfl
 repeat' (first|(with_reducible first|refine uk ?_|refine wk ?_ ?_<;>intro _|refine zc ht ?_)|simp -implicitDefEqProofs(disch:=first|assumption|omega)[*])
@[simp] def P256:Nat→Plan
 | 3=>(.qs [0,1,2,3,4,5,6,7,8,9,10,11,12,13,14,15,16,17,18,19,20] (.w 21 [] .nil))
 | _=>.nil
theorem zlu {l:List UInt8}(hb:l.length≤1000000000000){r:Nat}(hr:r<4294967296){m:Int}(hm:0≤m∧m≤1000000000000){s:List AObj}{v:List Nat} :
  zp Tryz.prog 256 [.ptr s.length 0,row l] (s++[.cells (sumU r m)]) v fun _ s' v'=>s++[.cells (sumU (crcL r l) (m+l.length))]=s'∧v=v':=by
 have hlen:=fun r m=>zgs r m
 refine ac0 Tryz.func256 Tryz.ntmps256 ?_
 have hrs:Tryz.f256.results = #[]:=rfl
 repeat' (first|(with_reducible first|refine uk ?_|refine wk ?_ ?_<;>intro _|(refine dr P256 mixed ?_ ?_ ?_;kernel_rfl;kernel_rfl))|simp -implicitDefEqProofs(disch:=first|assumption|omega)[*])
 refine zC (β:=Unit) false l.length (fun _ _=>True) (fun k _=>[(8,.int .i64 k),(9,.any),(10,.any),(11,.any),(5,.any),(12,.any),(13,.any),(14,.any),(15,.any),(16,.any),(17,.any),(18,.any),(19,.any),(20,.any),(21,.any),(22,.any),(23,.any),(24,.any),(25,.any),(26,.any),(27,.any),(28,.any),(29,.any),(30,.any),(31,.any),(32,.any),(33,.any)]) (fun k _=>s++[.cells (sumU (crcL r (l.take k)) m)]) (fun _ _=>v) ?_ ?_
 ·exact⟨(),trivial,fz0,by simp[crcL],rfl⟩
 rintro k _ hk -
 have hr2:=YG (l.take k) hr
 by_cases hlt:k<l.length
 ·have hx:=zB (l:=l) (i:=(k:Int)) (by omega) (by omega)
  rw[Int.toNat_natCast] at hx
  have hlt':(k:Int)<l.length:=by omega
  have hs:crcL r (l.take (k+1))=crcB (crcL r (l.take k)) (nth l k):=by rw[za hlt,zah]
  rw[zcW] at hs
  have hbt:=(nth l k).toNat_lt
  have hb8:(nth l k).toNat<256:=by omega
  generalize crcL r (l.take k)=q at *
  have h8:q%256<256:=by omega
  have hx8:=zjZ h8 hb8
  have hw0:((IntKind.u8.wrap (q:Int))%256).toNat=q%256:=by rw[Xm];omega
  have hrr:=ziG q m
  have hst:=fun r'=>zgc q r' m
  have hq8:q/256<4294967296:=by omega
  have hle1:256+1≤(sumU q m).length:=by rw[hlen];omega
  have hle2:256≤(sumU q m).length:=by rw[hlen];omega
  obtain⟨i,hi⟩:∃ i,q%256 ^^^ (nth l k).toNat=i:=⟨_,rfl⟩
  rw[hi] at hs hx8
  have hwi:=zgL hx8
  have hii:(i:Int)<256:=by omega
  have htl:=zlU q m hx8
  have hcn:=zee (n:=i) (by omega) 8
  have hxl:=QX hcn hq8
  have hq':((q:Int)/256%4294967296).toNat=q/256:=by omega
  clear h8 hr
  repeat' (first|(with_reducible first|refine uk ?_|refine wk ?_ ?_<;>intro _|(refine dr P256 mixed ?_ ?_ ?_;kernel_rfl;kernel_rfl))|simp -implicitDefEqProofs(disch:=first|assumption|omega)[*])
  exact⟨hlt,(),trivial,fz,by simp[hs,hq',hxl,hst],rfl⟩
 ·have hke:k=l.length:=by omega
  subst hke
  rw[List.take_of_length_le (Nat.le_refl _)] at *
  have hle1:257+1≤(sumU (crcL r l) m).length:=by rw[hlen];omega
  have hle2:257≤(sumU (crcL r l) m).length:=by rw[hlen];omega
  have hrr:=zlY (crcL r l) m
  have hst:=fun m'=>zdO (crcL r l) m m'
  generalize crcL r l=q at *
  repeat' (first|(with_reducible first|refine uk ?_|refine wk ?_ ?_<;>intro _|(refine dr P256 mixed ?_ ?_ ?_;kernel_rfl;kernel_rfl))|simp -implicitDefEqProofs(disch:=first|assumption|omega)[*])
  all_goals first|exact⟨rfl,rfl⟩|simp
theorem zlv {r:Nat}(hr:r<4294967296){m:Int}{s:List AObj}{v:List Nat} : zp Tryz.prog 257 [.ptr s.length 0] (s++[.cells (sumU r m)]) v fun x s' v'=>x = .int .u32 (r ^^^ 4294967295:Nat)∧s++[.cells (sumU r m)]=s'∧v=v':=by
 have hrr:=ziG r m
 have hl:=QX (a:=r) (b:=4294967295) hr (by omega)
 refine ac0 Tryz.func257 Tryz.ntmps257 ?_
 have hrs:Tryz.f257.results = #[.tmp 2]:=rfl
 repeat' (first|(with_reducible first|refine uk ?_|refine wk ?_ ?_<;>intro _)|simp -implicitDefEqProofs(disch:=first|assumption|omega)[*])
theorem zjL {l:List UInt8}(hb:l.length≤1000000000000):zM Tryz.prog 205 [row l] (.int .u32 (ZA l)):=by
 refine .of fun s v=>?_
 have hn:=fun s v=>zmh (s:=s) (v:=v)
 have ha:=fun s v=>zlu hb (r:=4294967295) (by omega) (m:=0) (by omega) (s:=s) (v:=v)
 have hlt:=YG l (r:=4294967295) (by omega)
 have hw:=fun s v=>zlv hlt (m:=(l.length:Int)) (s:=s) (v:=v)
 have hv:ZA l=crcL 4294967295 l ^^^ 4294967295:=(zmi hlt).symm
 rw[hv]
 generalize crcL 4294967295 l=q at *
 refine ac0 Tryz.func205 Tryz.ntmps205 ?_
 have hrs:Tryz.f205.results = #[.tmp 2]:=rfl
 repeat' (first|(with_reducible first|refine uk ?_|refine wk ?_ ?_<;>intro _)|simp -implicitDefEqProofs(disch:=first|assumption|omega)[*])
 refine zj (hn _ _) ?_
 rintro _ _ _ ⟨rfl,rfl,rfl⟩
 repeat' (first|(with_reducible first|refine uk ?_|refine wk ?_ ?_<;>intro _)|simp -implicitDefEqProofs(disch:=first|assumption|omega)[*])
 refine zj (ha _ _) ?_
 rintro _ _ _ ⟨rfl,rfl⟩
 repeat' (first|(with_reducible first|refine uk ?_|refine wk ?_ ?_<;>intro _)|simp -implicitDefEqProofs(disch:=first|assumption|omega)[*])
 refine zj (hw _ _) ?_
 rintro _ _ _ ⟨rfl,rfl,rfl⟩
 repeat' (first|(with_reducible first|refine uk ?_|refine wk ?_ ?_<;>intro _)|simp -implicitDefEqProofs(disch:=first|assumption|omega)[*])
 all_goals exact zn.eqat rfl (by simp)
end Go.Hb
end
