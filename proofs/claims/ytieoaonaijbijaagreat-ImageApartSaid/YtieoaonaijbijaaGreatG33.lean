/-
  A layer for reasoning about the program's calls, and contracts of its functions. CONDITIONS: none; each theorem bears its own.
-/
import Derived.Test.YtieoaonaijbijaaGreatG32
import Derived.Test.YtieoaonaijbijaaGreatG10
import Derived.Test.YtieoaonaijbijaaGreatG17
import Derived.Test.YtieoaonaijbijaaGreatG18
import Derived.Test.YtieoaonaijbijaaGreatG09
set_option linter.unusedVariables false
set_option linter.unusedSimpArgs false
section
namespace Go.Hb
open Go Go.Proofs Go.RowKit
set_option maxRecDepth 100000
set_option maxHeartbeats 800000
attribute [-simp] aC aL aOper aThen aInBlock aIf aPlan aAppend aLen aIndexAddr aSlice aCells aBounds lBr aq initT aev aAppendOwn aAppendNil aAppendNew aAppendRef LV.cells LV.cellsOk getElem?_pos getElem?_neg
theorem WAt.on {v0 v v':List Nat} {bs:List UInt8} {x:LV} {B:Nat} (h:WAt v0 v bs x B) (hv:v <+: v'):WAt v0 v' bs x B:=⟨GroC.mono h.1 hv,h.2⟩
theorem wraws_c {s:List AObj} {id B B2:Nat} {x y:LV} {v0 v:List Nat} {bs l2:List UInt8} (hs:s[id]? = some (.cells [x])) (hx:WAt v0 v bs x B) (hy:Weak y (row l2)) (hl:l2.length≤B2) (hB:B+B2≤90000000) :
  aCalls Tryz.prog 116 [.ptr id 0,y] s v (WPost s id v0 (bs++l2) (B+B2)):=by
 refine aCalls_argw (args':=[.ptr id 0,row l2]) ⟨Weak.refl _,hy,trivial⟩ ?_
 obtain⟨hx,hb⟩:=hx
 have hid:=(List.getElem?_eq_some_iff.1 hs).1
 have hxc:=hx.gro.cells
 obtain⟨x',v',hx',_,ha⟩:=GroE.appw (P:=Tryz.prog) (t:=36) (t2:=36) (by_:=1) (by kernel_rfl) (by omega) hx l2 (by omega)
 have hxc':=hx'.gro.cells
 refine ac0 Tryz.func116 Tryz.ntmps116 ?_
 have hrs:Tryz.f116.results = #[]:=rfl
 repeat' (first|(with_reducible first|refine uk ?_|refine wk ?_ ?_<;>intro _)|simp -implicitDefEqProofs(disch:=first|assumption|omega)[*])
 exact⟨x',rfl,hx',by simp only [List.length_append];omega⟩
set_option maxHeartbeats 4000000 in
theorem swrite_p {ver:Int} {l:List Sec} (hm:mayS ver l=true) (hb:∀ x∈l,x.body.length≤500000):PureC Tryz.prog 40 [.int .i64 ver,row l] (.tup [row (fileB ver l),.int .i64 0]):=by
 refine .of fun s vz=>?_
 have hl:l.length≤16:=by
  unfold mayS at hm
  simp only [Bool.and_eq_true,decide_eq_true_eq] at hm
  omega
 have hsm:=smay_p (ver:=ver) (l:=l) (by omega)
 rw [hm] at hsm
 clear hm
 unfold fileB
 refine aCalls_cut Tryz.func40 rfl (by decide) Tryz.ntmps40 (by simp) ?_
 refine aWh_cut false ?_
 repeat' (first|(with_reducible first|refine uk ?_|refine wk ?_ ?_<;>intro _)|simp -implicitDefEqProofs(disch:=first|assumption|omega)[*])
 refine aWh_cut false ?_
 repeat' (first|(with_reducible first|refine uk ?_|refine wk ?_ ?_<;>intro _|refine callC hsm (fun v1 hv1=>?_))|simp -implicitDefEqProofs(disch:=first|assumption|omega)[*])
 refine aWh_cut false ?_
 repeat' (first|(with_reducible first|refine uk ?_|refine wk ?_ ?_<;>intro _)|simp -implicitDefEqProofs(disch:=first|assumption|omega)[*])
 have hx:WAt v1 v1 [] .nils 0:=⟨GroE.nil _,by simp⟩
 have hw4:Weak (.imm 1 4 [.int .u8 72,.int .u8 73,.int .u8 66,.int .u8 82] .full) (row ([72,73,66,82]:List UInt8)):=Weak.row (α:=UInt8) (l:=[72,73,66,82]) (by rw [show rowCs ([72,73,66,82]:List UInt8)=[.int .u8 72,.int .u8 73,.int .u8 66,.int .u8 82] from rfl];exact Weaks.refl _) rfl
 have hl4:([72,73,66,82]:List UInt8).length≤4:=by simp
 refine aWh_lit (e:=5) false _ _ _ rfl rfl rfl rfl rfl rfl rfl (by kernel_rfl) (by kernel_rfl) (by decide) (by decide) (by decide) (by simp [aBuildSlice];rfl) ?_
 repeat' (first|(with_reducible first|refine uk ?_|refine wk ?_ ?_<;>intro _|refine callW (wraws_c (by simp [get_app]) hx hw4 hl4 (by omega)) (fun y x v hx=>?_))|simp -implicitDefEqProofs(disch:=first|assumption|omega)[*])
 refine aWh_go false ?_
 repeat' (first|(with_reducible first|refine uk ?_|refine wk ?_ ?_<;>intro _|refine callW (wraw_c (b:=UInt8.ofInt ver) (by simp [get_app]) hx (by first|exact u8_op _|exact u8_op2 _) (by omega)) (fun y x v hx=>?_)|refine callW (wshort_c (by simp [get_app]) hx (by omega) (by omega)) (fun y x v hx=>?_))|simp -implicitDefEqProofs(disch:=first|assumption|omega)[*])
 refine aW_for (β:=LV × List AObj × List Nat) true l.length (fun k p=>WAt v1 p.2.2 ([72,73,66,82,UInt8.ofInt ver]++shortB l.length++(l.take k).flatMap secH) p.1 (14+10*k)) (fun k p=>[(27,.int .i64 k),(28,.any),(29,.any),(30,.any),(8,.any),(31,.any),(32,.any),(33,.any),(34,.any),(35,.any),(36,.any),(37,.any),(38,.any),(39,.any),(40,.any)]) (fun _ p=>s++(.cells [p.1] :: p.2.1)) (fun _ p=>p.2.2) ?_ ?_
 ·exact⟨(x,[],v),hx.eq (by simp) (by omega),fz0,rfl,rfl⟩
 clear hx hw4 hl4
 rintro k ⟨x,J,v⟩ hk hx
 simp only at hx
 by_cases hlt:k<l.length
 ·have hbd:=hb _ (nthM hlt)
  have hlt':(k:Int)<l.length:=by omega
  have hxf:=ix_in (l:=l) (i:=(k:Int)) (by omega) (by omega)
  rw [Int.toNat_natCast] at hxf
  repeat' (first|(with_reducible first|refine uk ?_|refine wk ?_ ?_<;>intro _|refine callW (wraw_c (b:=UInt8.ofInt (nth l k).kind) (by simp [get_app]) hx (by first|exact u8_op _|exact u8_op2 _) (by omega)) (fun y x v hx=>?_)|refine callW (wshort_c (by simp [get_app]) hx (by omega) (by omega)) (fun y x v hx=>?_))|simp -implicitDefEqProofs(disch:=first|assumption|omega)[*])
  exact⟨hlt,(x,_,v),hx.eq (by simp [take_succ_nth hlt,secH]) (by omega),fz,rfl,rfl⟩
 ·have:k=l.length:=by omega
  subst this
  rw [List.take_of_length_le (Nat.le_refl _),show [72,73,66,82,UInt8.ofInt ver]++shortB l.length++l.flatMap secH=headB ver l from rfl] at hx
  repeat' (first|(with_reducible first|refine uk ?_|refine wk ?_ ?_<;>intro _)|simp -implicitDefEqProofs(disch:=first|assumption|omega)[*])
  refine aW_for (β:=LV × List AObj × List Nat) true l.length (fun k p=>WAt v1 p.2.2 (headB ver l++(l.take k).flatMap fun s=>sealB s.body) p.1 (200+500004*k)) (fun k p=>[(43,.int .i64 k),(44,.any),(45,.any),(46,.any),(10,.any),(47,.any),(48,.any),(49,.any),(50,.any),(51,.any)]) (fun _ p=>s++(.cells [p.1] :: p.2.1)) (fun _ p=>p.2.2) ?_ ?_
  ·exact⟨(x,J,v),hx.eq (by simp) (by omega),fz0,rfl,rfl⟩
  clear hx
  rintro k ⟨x,J,v⟩ hk hx
  simp only at hx
  by_cases hlt:k<l.length
  ·have hbd:=hb _ (nthM hlt)
   have hlt':(k:Int)<l.length:=by omega
   have hxf:=ix_in (l:=l) (i:=(k:Int)) (by omega) (by omega)
   rw [Int.toNat_natCast] at hxf
   have hse:=seal_p (l:=(nth l k).body) (by omega)
   have hle:(sealB (nth l k).body).length≤500004:=by rw [sealB_len];omega
   repeat' (first|(with_reducible first|refine uk ?_|refine wk ?_ ?_<;>intro _|refine callC hse (fun v2 hv2=>?_)|refine callW (wraws_c (by simp [get_app]) (hx.on hv2) (Weak.refl _) hle (by omega)) (fun y x v hx=>?_))|simp -implicitDefEqProofs(disch:=first|assumption|omega)[*])
   exact⟨hlt,(x,_,v),hx.eq (by simp [take_succ_nth hlt]) (by omega),fz,rfl,rfl⟩
  ·have:k=l.length:=by omega
   subst this
   rw [List.take_of_length_le (Nat.le_refl _)] at hx
   have hse:=seal_p (l:=headB ver l++l.flatMap fun s=>sealB s.body) (by have:=hx.2;omega)
   have hne:(headB ver l++l.flatMap fun s=>sealB s.body).length≠0:=by simp [headB]
   generalize headB ver l++(l.flatMap fun s=>sealB s.body)=o at *
   repeat' (first|(with_reducible first|refine uk ?_|refine wk ?_ ?_<;>intro _|refine callV (wbytes_c (by simp [get_app]) hx hne (by omega)) (fun v2 hv2=>?_)|refine callC hse (fun v5 hv5=>?_))|simp -implicitDefEqProofs(disch:=first|assumption|omega)[*])
   exact Ends.eqat (by simp) (by simp) (((hv1.trans hx.1.1).trans (by assumption)).trans hv5)
theorem sec5_w {c:Cor} {id ic:Nat} (h:WrC c):Wrt Tryz.prog 93 [.ptr id 0,.ptr ic 0] id [(ic,AObj.cells [.int .i64 c.now,row c.threads,row c.owners,row c.counts,row c.bufs,row c.lockq,row c.waitq,row c.downq,row c.sendq,row c.recvq])] (chansB c) 300009:=fun S x v0 v bs B hL hS hx hB=>by
 refine WPost.of ?_
 have hid:=(List.getElem?_eq_some_iff.1 hS).1;have hat:=at_app hS;have hself:=at_self hS;have s1:=sw1 hid;have s3:=sw3 hid;have s4:=sw4 hid;have s6:=sw6 (S:=S) (id:=id);have s7:=sw7 (S:=S) (id:=id)
 obtain⟨n1,g1⟩:=hL _ (List.mem_cons_self);dsimp only at n1 g1;have hi:=at_app g1;have hi8:=sw8 n1 g1;have hi9:=fun o=>(show (S.set id o)[_]? = _ by simpa using hi8 o [])
 have ht:=h.bufn
 have ht2:=h.sendn
 have ht3:=h.recvn
 have hp:=places_p (n:=c.bufs.length) (by omega)
 have hw:=ilist_int (l:=ints c.bufs.length) (w:=fun z=>chanB c z.toNat) (m:=3000) (id:=id) (L:=[(S.length,.cells [.ptr id 0]),(ic,AObj.cells [.int .i64 c.now,row c.threads,row c.owners,row c.counts,row c.bufs,row c.lockq,row c.waitq,row c.downq,row c.sendq,row c.recvq])]) (g:=94) (pre:=[]) (post:=[.ptr S.length 0,.ptr ic 0]) (by simp;omega) fun k hk=>by
  have hk':k<c.bufs.length:=by simpa using hk
  rw [ints_nth hk']
  exact chan_w hk' (by omega) (by omega) (h.bufs _ (nth_mem hk')) (h.sendq _ (nth_mem (by omega))) (h.recvq _ (nth_mem (by omega)))
 rw [ints_len,ints_flat] at hw
 have hE:∀ J,EnvW id [(S.length,.cells [.ptr id 0]),(ic,AObj.cells [.int .i64 c.now,row c.threads,row c.owners,row c.counts,row c.bufs,row c.lockq,row c.waitq,row c.downq,row c.sendq,row c.recvq])] (S++(.cells [.ptr id 0] :: J)):=fun J=>.cons (by omega) (by rw [get_app0];rfl) (.cons n1 (hi _) .nil)
 clear h
 refine ac0 Tryz.func93 Tryz.ntmps93 ?_
 have hrs:Tryz.f93.results = #[]:=rfl
 repeat' (first|(with_reducible first|refine uk ?_|refine wk ?_ ?_<;>intro _|(refine dr P93 mixed ?_ ?_ ?_;kernel_rfl;kernel_rfl)|refine callC hp (fun v1 hv1=>?_)|refine callWt hw (by first|exact EnvW.nil|exact hE _|exact hE2 _ _) (by first|exact hS|exact hat _|exact hself _|exact s4 _ _) (hx.mo hv1) (by omega) (fun y x v hx=>?_))|simp -implicitDefEqProofs(disch:=first|assumption|omega)[*])
 all_goals exact⟨x,_,rfl,by simp,wat_eq hx (by simp [chansB]) (by omega)⟩
theorem body_c {g:FuncId} {ca:List LV} {w:List UInt8} {n:Nat} {L:List (Nat × AObj)} {s:List AObj} (h:Wrt Tryz.prog g (.ptr s.length 0 :: ca) s.length L w n) (hL:∀ q∈L,s[q.1]? = some q.2) (hw:w.length≠0) (hn:n≤70000000):Ret Tryz.prog 77 [.fn (.func g) [] ca] s (row w):=by
 refine .of fun v=>?_
 have hE:EnvW s.length L (s++[.cells [.nils]]):=fun q hq=>by
  have:=hL q hq
  have hlt:=(List.getElem?_eq_some_iff.1 this).1
  exact⟨by omega,by rw [List.getElem?_append_left hlt];exact this⟩
 have hx:WAt v v [] .nils 0:=⟨GroE.nil _,by simp⟩
 refine ac0 Tryz.func77 Tryz.ntmps77 ?_
 have hrs:Tryz.f77.results = #[.tmp 2]:=rfl
 repeat' (first|(with_reducible first|refine uk ?_|refine wk ?_ ?_<;>intro _|refine callWt h hE (by simp [get_app0]) hx (by omega) (fun y x v hx=>?_)|refine callV (wbytes_c (by simp [get_app0]) (wat_eq hx (List.nil_append _) (Nat.le_refl _)) hw (by omega)) (fun v2 hv2=>?_))|simp -implicitDefEqProofs(disch:=first|assumption|omega)[*])
 exact Ends.eqat rfl (by simp) (hx.1.1.trans hv2)
set_option maxHeartbeats 4000000 in
theorem isections_p {ver ep:Int} {p:Prog} {c:Cor} (hp:mayP p=true) (h:WrC c) (he:ep≤9223372036854775807) (hn:c.now≤9223372036854775807):PureC Tryz.prog 29 [.agg [.int .i64 ver,.int .i64 ep,row p.funcs,.int .i64 p.mutexes,row p.conds,row p.semas,row p.chans,row p.choices,.int .i64 p.threads,.int .i64 c.now,row c.threads,row c.owners,row c.counts,row c.bufs,row c.lockq,row c.waitq,row c.downq,row c.sendq,row c.recvq]] (row (sectsB ep p c)):=by
 refine Fresh.pure (Fresh.of fun s v=>?_)
 have hm:=may_ok (ok_of_may hp)
 rw [hp] at hm
 have hcw:=cwrite_p (fs:=p.funcs) (mu:=p.mutexes) (th:=p.threads) (co:=p.conds) (se:=p.semas) (ch:=p.chans) (cho:=p.choices) hm hp
 have hne:∀ (n:Int) (l:List UInt8),(shortB n++l).length≠0:=fun n l=>by rw [List.length_append];have:=shortB_ge n;omega
 have q1:(shortB ep++shortB c.now).length≠0:=hne _ _
 have q2:(thrsB c).length≠0:=hne _ _
 have q3:(locksB c).length≠0:=by unfold locksB;rw [List.append_assoc,List.append_assoc];exact hne _ _
 have q4:(semasB c).length≠0:=hne _ _
 have q5:(chansB c).length≠0:=hne _ _
 have r1:Ret Tryz.prog 77 [.fn (.func 78) [] [.ptr s.length 0,.ptr (s.length+1) 0]] (s++[.cells [.int .i64 ver,.int .i64 ep,row p.funcs,.int .i64 p.mutexes,row p.conds,row p.semas,row p.chans,row p.choices,.int .i64 p.threads,.int .i64 c.now,row c.threads,row c.owners,row c.counts,row c.bufs,row c.lockq,row c.waitq,row c.downq,row c.sendq,row c.recvq],AObj.cells [.int .i64 c.now,row c.threads,row c.owners,row c.counts,row c.bufs,row c.lockq,row c.waitq,row c.downq,row c.sendq,row c.recvq]]) (row (shortB ep++shortB c.now)):=body_c (sec1_w (X:=[.int .i64 ver,.int .i64 ep,row p.funcs,.int .i64 p.mutexes,row p.conds,row p.semas,row p.chans,row p.choices,.int .i64 p.threads,.int .i64 c.now,row c.threads,row c.owners,row c.counts,row c.bufs,row c.lockq,row c.waitq,row c.downq,row c.sendq,row c.recvq]) (C:=[.int .i64 c.now,row c.threads,row c.owners,row c.counts,row c.bufs,row c.lockq,row c.waitq,row c.downq,row c.sendq,row c.recvq]) he hn rfl rfl) (by simp [get_app0,get_app]) q1 (by omega)
 have r2:Ret Tryz.prog 77 [.fn (.func 80) [] [.ptr (s.length+1) 0]] (s++[.cells [.int .i64 ver,.int .i64 ep,row p.funcs,.int .i64 p.mutexes,row p.conds,row p.semas,row p.chans,row p.choices,.int .i64 p.threads,.int .i64 c.now,row c.threads,row c.owners,row c.counts,row c.bufs,row c.lockq,row c.waitq,row c.downq,row c.sendq,row c.recvq],AObj.cells [.int .i64 c.now,row c.threads,row c.owners,row c.counts,row c.bufs,row c.lockq,row c.waitq,row c.downq,row c.sendq,row c.recvq]]) (row (thrsB c)):=body_c (sec2_w h) (by simp [get_app]) q2 (by omega)
 have r3:Ret Tryz.prog 77 [.fn (.func 84) [] [.ptr (s.length+1) 0]] (s++[.cells [.int .i64 ver,.int .i64 ep,row p.funcs,.int .i64 p.mutexes,row p.conds,row p.semas,row p.chans,row p.choices,.int .i64 p.threads,.int .i64 c.now,row c.threads,row c.owners,row c.counts,row c.bufs,row c.lockq,row c.waitq,row c.downq,row c.sendq,row c.recvq],AObj.cells [.int .i64 c.now,row c.threads,row c.owners,row c.counts,row c.bufs,row c.lockq,row c.waitq,row c.downq,row c.sendq,row c.recvq]]) (row (locksB c)):=body_c (sec3_w h) (by simp [get_app]) q3 (by omega)
 have r4:Ret Tryz.prog 77 [.fn (.func 91) [] [.ptr (s.length+1) 0]] (s++[.cells [.int .i64 ver,.int .i64 ep,row p.funcs,.int .i64 p.mutexes,row p.conds,row p.semas,row p.chans,row p.choices,.int .i64 p.threads,.int .i64 c.now,row c.threads,row c.owners,row c.counts,row c.bufs,row c.lockq,row c.waitq,row c.downq,row c.sendq,row c.recvq],AObj.cells [.int .i64 c.now,row c.threads,row c.owners,row c.counts,row c.bufs,row c.lockq,row c.waitq,row c.downq,row c.sendq,row c.recvq]]) (row (semasB c)):=body_c (sec4_w h) (by simp [get_app]) q4 (by omega)
 have r5:Ret Tryz.prog 77 [.fn (.func 93) [] [.ptr (s.length+1) 0]] (s++[.cells [.int .i64 ver,.int .i64 ep,row p.funcs,.int .i64 p.mutexes,row p.conds,row p.semas,row p.chans,row p.choices,.int .i64 p.threads,.int .i64 c.now,row c.threads,row c.owners,row c.counts,row c.bufs,row c.lockq,row c.waitq,row c.downq,row c.sendq,row c.recvq],AObj.cells [.int .i64 c.now,row c.threads,row c.owners,row c.counts,row c.bufs,row c.lockq,row c.waitq,row c.downq,row c.sendq,row c.recvq]]) (row (chansB c)):=body_c (sec5_w h) (by simp [get_app]) q5 (by omega)
 have hsb:sectsB ep p c=[⟨1,shortB ep++shortB c.now⟩,⟨2,writeP p⟩,⟨3,thrsB c⟩,⟨4,locksB c⟩,⟨5,semasB c⟩,⟨6,chansB c⟩]:=rfl
 rw [hsb]
 clear hsb q1 q2 q3 q4 q5 hne hm h
 generalize shortB ep++shortB c.now=w1 at *
 generalize thrsB c=w3 at *
 generalize locksB c=w4 at *
 generalize semasB c=w5 at *
 generalize chansB c=w6 at *
 have hcw':PureC Tryz.prog 76 [.agg [row p.funcs,.int .i64 p.mutexes,row p.conds,row p.semas,row p.chans,row p.choices,.int .i64 p.threads]] (.tup [row (writeP p),.int .i64 0]):=hcw
 clear hcw
 generalize writeP p=w2 at *
 refine ac0 Tryz.func29 Tryz.ntmps29 ?_
 have hrs:Tryz.f29.results = #[.tmp 2]:=rfl
 repeat' (first|(with_reducible first|refine uk ?_|refine wk ?_ ?_<;>intro _|refine callC hcw' (fun v1 hv1=>?_)|refine callR r1 (fun v2 hv2=>?_)|refine callR r2 (fun v3 hv3=>?_)|refine callR r3 (fun v4 hv4=>?_)|refine callR r4 (fun v5 hv5=>?_)|refine callR r5 (fun v6 hv6=>?_))|simp -implicitDefEqProofs(disch:=first|assumption|omega)[*])
 have hv:v <+: v6:=hv1.trans (hv2.trans (hv3.trans (hv4.trans (hv5.trans hv6))))
 clear r1 r2 r3 r4 r5 hcw' hv1 hv2 hv3 hv4 hv5 hv6
 refine aW_for (β:=LV × List Nat) false 6 (fun k p=>GroE v p.2 (([⟨1,w1⟩,⟨2,w2⟩,⟨3,w3⟩,⟨4,w4⟩,⟨5,w5⟩,⟨6,w6⟩]:List Sec).take k) p.1) (fun k p=>[(7,p.1),(31,.int .i64 k),(32,.any),(33,.any),(34,.any),(8,.any),(9,.any),(35,.any),(36,.any),(37,.any),(38,.any),(39,.any),(40,.any),(41,.any),(42,.any)]) (fun _ _=>s++[.cells [.int .i64 ver,.int .i64 ep,row p.funcs,.int .i64 p.mutexes,row p.conds,row p.semas,row p.chans,row p.choices,.int .i64 p.threads,.int .i64 c.now,row c.threads,row c.owners,row c.counts,row c.bufs,row c.lockq,row c.waitq,row c.downq,row c.sendq,row c.recvq],AObj.cells [.int .i64 c.now,row c.threads,row c.owners,row c.counts,row c.bufs,row c.lockq,row c.waitq,row c.downq,row c.sendq,row c.recvq],.cells [row w1,row w2,row w3,row w4,row w5,row w6]]) (fun _ p=>p.2) ?_ ?_
 ·exact⟨(.nils,v6),GroC.mono (GroE.nil _) hv,fz0,rfl,rfl⟩
 rintro k ⟨x,v1⟩ hk hG
 simp only at hG
 have hgc:=hG.gro.cells
 have hk6:k=0∨k=1∨k=2∨k=3∨k=4∨k=5∨k=6:=by omega
 rcases hk6 with rfl | rfl | rfl | rfl | rfl | rfl | rfl
 rotate_right
 ·simp only [List.take_succ_cons,List.take_zero] at hG
  repeat' (first|(with_reducible first|refine uk ?_|refine wk ?_ ?_<;>intro _)|simp -implicitDefEqProofs(disch:=first|assumption|omega)[*])
  exact hG.gro
 ·obtain⟨x2,v2,g2,_,gb⟩:=hG.push (P:=Tryz.prog) (t:=44) (t2:=44) (sz:=2) (by_:=32) (by kernel_rfl) rfl (by omega) (⟨1,w1⟩:Sec) (by simp)
  simp only [enc_sec] at gb
  repeat' (first|(with_reducible first|refine uk ?_|refine wk ?_ ?_<;>intro _)|simp -implicitDefEqProofs(disch:=first|assumption|omega)[*])
  exact⟨by omega,(x2,v2),g2,fz,rfl,rfl⟩
 ·obtain⟨x2,v2,g2,_,gb⟩:=hG.push (P:=Tryz.prog) (t:=44) (t2:=44) (sz:=2) (by_:=32) (by kernel_rfl) rfl (by omega) (⟨2,w2⟩:Sec) (by simp)
  simp only [enc_sec] at gb
  repeat' (first|(with_reducible first|refine uk ?_|refine wk ?_ ?_<;>intro _)|simp -implicitDefEqProofs(disch:=first|assumption|omega)[*])
  exact⟨by omega,(x2,v2),g2,fz,rfl,rfl⟩
 ·obtain⟨x2,v2,g2,_,gb⟩:=hG.push (P:=Tryz.prog) (t:=44) (t2:=44) (sz:=2) (by_:=32) (by kernel_rfl) rfl (by omega) (⟨3,w3⟩:Sec) (by simp)
  simp only [enc_sec] at gb
  repeat' (first|(with_reducible first|refine uk ?_|refine wk ?_ ?_<;>intro _)|simp -implicitDefEqProofs(disch:=first|assumption|omega)[*])
  exact⟨by omega,(x2,v2),g2,fz,rfl,rfl⟩
 ·obtain⟨x2,v2,g2,_,gb⟩:=hG.push (P:=Tryz.prog) (t:=44) (t2:=44) (sz:=2) (by_:=32) (by kernel_rfl) rfl (by omega) (⟨4,w4⟩:Sec) (by simp)
  simp only [enc_sec] at gb
  repeat' (first|(with_reducible first|refine uk ?_|refine wk ?_ ?_<;>intro _)|simp -implicitDefEqProofs(disch:=first|assumption|omega)[*])
  exact⟨by omega,(x2,v2),g2,fz,rfl,rfl⟩
 ·obtain⟨x2,v2,g2,_,gb⟩:=hG.push (P:=Tryz.prog) (t:=44) (t2:=44) (sz:=2) (by_:=32) (by kernel_rfl) rfl (by omega) (⟨5,w5⟩:Sec) (by simp)
  simp only [enc_sec] at gb
  repeat' (first|(with_reducible first|refine uk ?_|refine wk ?_ ?_<;>intro _)|simp -implicitDefEqProofs(disch:=first|assumption|omega)[*])
  exact⟨by omega,(x2,v2),g2,fz,rfl,rfl⟩
 ·obtain⟨x2,v2,g2,_,gb⟩:=hG.push (P:=Tryz.prog) (t:=44) (t2:=44) (sz:=2) (by_:=32) (by kernel_rfl) rfl (by omega) (⟨6,w6⟩:Sec) (by simp)
  simp only [enc_sec] at gb
  repeat' (first|(with_reducible first|refine uk ?_|refine wk ?_ ?_<;>intro _)|simp -implicitDefEqProofs(disch:=first|assumption|omega)[*])
  exact⟨by omega,(x2,v2),g2,fz,rfl,rfl⟩
theorem indexFunc_frm {l:List Frm} {p:Frm→Bool} {g:FuncId} {ca:List LV} {s:List AObj} (hb:l.length≤9223372036854775807) (h:∀ k,k<l.length→Ret Tryz.prog g (.agg [.int .i64 (nth l k).func,.int .i64 (nth l k).pc,row (nth l k).locals] :: ca) s (.bool (p (nth l k)))) :
  Ret Tryz.prog 218 [row l,.fn (.func g) [] ca] s (.int .i64 (fidx p l)):=by
 refine .of fun v=>?_
 refine ac0 Tryz.func218 Tryz.ntmps218 ?_
 have hrs:Tryz.f218.results = #[.tmp 4]:=rfl
 repeat' (first|(with_reducible first|refine uk ?_|refine wk ?_ ?_<;>intro _)|simp -implicitDefEqProofs(disch:=first|assumption|omega)[*])
 refine aW_for (β:=List Nat) false l.length (fun k v1=>v <+: v1∧∀ j,j<k→p (nth l j)=false) (fun k _=>[(8,.int .i64 k),(9,.any),(10,.any),(5,.any),(11,.any),(12,.any),(13,.any),(14,.any),(15,.any),(16,.any),(17,.any),(4,.any),(18,.any)]) (fun _ _=>s) (fun _ v1=>v1) ?_ ?_
 ·exact⟨v,⟨List.prefix_refl _,by simp⟩,fz0,rfl,rfl⟩
 rintro k v1 hk ⟨hv,hI⟩
 by_cases hlt:k<l.length
 ·have hh:=h k hlt
  cases hp:p (nth l k)
  ·rw [hp] at hh
   repeat' (first|(with_reducible first|refine uk ?_|refine wk ?_ ?_<;>intro _|refine callR hh (fun v2 hv2=>?_))|simp -implicitDefEqProofs(disch:=first|assumption|omega)[*])
   exact⟨hlt,v2,⟨hv.trans hv2,fun j hj=>by
    by_cases e:j=k
    ·subst e;exact hp
    ·exact hI j (by omega)⟩,fz,rfl,rfl⟩
  ·rw [hp] at hh
   have hf:=fidx_at hlt hI hp
   repeat' (first|(with_reducible first|refine uk ?_|refine wk ?_ ?_<;>intro _|refine callR hh (fun v2 hv2=>?_))|simp -implicitDefEqProofs(disch:=first|assumption|omega)[*])
   exact Ends.eq rfl (by simp) (hv.trans hv2)
 ·have hf:=fidx_none (p:=p) (l:=l) (fun j hj=>hI j (by omega))
  have:k=l.length:=by omega
  subst this
  repeat' (first|(with_reducible first|refine uk ?_|refine wk ?_ ?_<;>intro _)|simp -implicitDefEqProofs(disch:=first|assumption|omega)[*])
  exact Ends.eq rfl (by simp) hv
theorem containsFunc_frm {l:List Frm} {p:Frm→Bool} {g:FuncId} {ca:List LV} {s:List AObj} (hb:l.length≤9223372036854775807) (h:∀ k,k<l.length→Ret Tryz.prog g (.agg [.int .i64 (nth l k).func,.int .i64 (nth l k).pc,row (nth l k).locals] :: ca) s (.bool (p (nth l k)))) :
  Ret Tryz.prog 138 [row l,.fn (.func g) [] ca] s (.bool (l.any p)):=by
 refine .of fun v=>?_
 refine ac0 Tryz.func138 Tryz.ntmps138 ?_
 have hrs:Tryz.f138.results = #[.tmp 4]:=rfl
 have hi:=indexFunc_frm hb h
 rw [← fidx_any p l]
 repeat' (first|(with_reducible first|refine uk ?_|refine wk ?_ ?_<;>intro _|refine callR hi (fun v2 hv2=>?_))|simp -implicitDefEqProofs(disch:=first|assumption|omega)[*])
 exact Ends.eq rfl (by simp) hv2
theorem indexFunc_thr {l:List Thr} {p:Thr→Bool} {g:FuncId} {ca:List LV} {s:List AObj} (hb:l.length≤9223372036854775807) (h:∀ k,k<l.length→Ret Tryz.prog g (.agg [.int .i64 (nth l k).state,.int .i64 (nth l k).on,row (nth l k).frames,row (nth l k).stack,.int .i64 (nth l k).code] :: ca) s (.bool (p (nth l k)))) :
  Ret Tryz.prog 135 [row l,.fn (.func g) [] ca] s (.int .i64 (fidx p l)):=by
 refine .of fun v=>?_
 refine ac0 Tryz.func135 Tryz.ntmps135 ?_
 have hrs:Tryz.f135.results = #[.tmp 4]:=rfl
 repeat' (first|(with_reducible first|refine uk ?_|refine wk ?_ ?_<;>intro _)|simp -implicitDefEqProofs(disch:=first|assumption|omega)[*])
 refine aW_for (β:=List Nat) false l.length (fun k v1=>v <+: v1∧∀ j,j<k→p (nth l j)=false) (fun k _=>[(8,.int .i64 k),(9,.any),(10,.any),(5,.any),(11,.any),(12,.any),(13,.any),(14,.any),(15,.any),(16,.any),(17,.any),(4,.any),(18,.any)]) (fun _ _=>s) (fun _ v1=>v1) ?_ ?_
 ·exact⟨v,⟨List.prefix_refl _,by simp⟩,fz0,rfl,rfl⟩
 rintro k v1 hk ⟨hv,hI⟩
 by_cases hlt:k<l.length
 ·have hh:=h k hlt
  cases hp:p (nth l k)
  ·rw [hp] at hh
   repeat' (first|(with_reducible first|refine uk ?_|refine wk ?_ ?_<;>intro _|refine callR hh (fun v2 hv2=>?_))|simp -implicitDefEqProofs(disch:=first|assumption|omega)[*])
   exact⟨hlt,v2,⟨hv.trans hv2,fun j hj=>by
    by_cases e:j=k
    ·subst e;exact hp
    ·exact hI j (by omega)⟩,fz,rfl,rfl⟩
  ·rw [hp] at hh
   have hf:=fidx_at hlt hI hp
   repeat' (first|(with_reducible first|refine uk ?_|refine wk ?_ ?_<;>intro _|refine callR hh (fun v2 hv2=>?_))|simp -implicitDefEqProofs(disch:=first|assumption|omega)[*])
   exact Ends.eq rfl (by simp) (hv.trans hv2)
 ·have hf:=fidx_none (p:=p) (l:=l) (fun j hj=>hI j (by omega))
  have:k=l.length:=by omega
  subst this
  repeat' (first|(with_reducible first|refine uk ?_|refine wk ?_ ?_<;>intro _)|simp -implicitDefEqProofs(disch:=first|assumption|omega)[*])
  exact Ends.eq rfl (by simp) hv
theorem containsFunc_thr {l:List Thr} {p:Thr→Bool} {g:FuncId} {ca:List LV} {s:List AObj} (hb:l.length≤9223372036854775807) (h:∀ k,k<l.length→Ret Tryz.prog g (.agg [.int .i64 (nth l k).state,.int .i64 (nth l k).on,row (nth l k).frames,row (nth l k).stack,.int .i64 (nth l k).code] :: ca) s (.bool (p (nth l k)))) :
  Ret Tryz.prog 45 [row l,.fn (.func g) [] ca] s (.bool (l.any p)):=by
 refine .of fun v=>?_
 refine ac0 Tryz.func45 Tryz.ntmps45 ?_
 have hrs:Tryz.f45.results = #[.tmp 4]:=rfl
 have hi:=indexFunc_thr hb h
 rw [← fidx_any p l]
 repeat' (first|(with_reducible first|refine uk ?_|refine wk ?_ ?_<;>intro _|refine callR hi (fun v2 hv2=>?_))|simp -implicitDefEqProofs(disch:=first|assumption|omega)[*])
 exact Ends.eq rfl (by simp) hv2
theorem keepK (n:Int):(!(decide (n < -1073741824) || decide (1073741824<n)))=decide (n=keep n):=by
 unfold keep
 rw [Bool.eq_iff_iff]
 simp only [Bool.not_eq_true',Bool.or_eq_false_iff,decide_eq_false_iff_not,decide_eq_true_eq]
 split
 ·omega
 ·split<;>omega
theorem keptK_any (l:List Int):keptK l = !(l.any fun n=> !decide (n=keep n)):=by
 unfold keptK betC
 rw [List.not_any_eq_all_not]
 congr 1
 funext n
 rw [keepK,Bool.not_not]
theorem skeep_p (n:Int):PureE Tryz.prog 217 [.int .i64 n] (.int .i64 (keep n)):=by
 refine .of fun s v=>?_
 unfold keep
 refine ac0 Tryz.func217 Tryz.ntmps217 ?_
 have hrs:Tryz.f217.results = #[.tmp 2]:=rfl
 repeat' (first|(with_reducible first|refine uk ?_|refine wk ?_ ?_<;>intro _)|simp -implicitDefEqProofs(disch:=first|assumption|omega)[*])
 all_goals (refine EndsE.eq ?_ (by simp);simp;(repeat' split)<;>omega)
theorem skept1_p (n:Int):PureE Tryz.prog 216 [.int .i64 n] (.bool (!decide (n=keep n))):=by
 refine .of fun s v=>?_
 have hk:=skeep_p n
 generalize keep n=m at *
 refine ac0 Tryz.func216 Tryz.ntmps216 ?_
 have hrs:Tryz.f216.results = #[.tmp 2]:=rfl
 repeat' (first|(with_reducible first|refine uk ?_|refine wk ?_ ?_<;>intro _|refine callE hk ?_)|simp -implicitDefEqProofs(disch:=first|assumption|omega)[*])
 all_goals exact EndsE.eq (by simp [*]) (by simp)
theorem skept_p {l:List Int} (hl:l.length≤1000000000):PureC Tryz.prog 137 [row l] (.bool (keptK l)):=by
 refine .of fun s v=>?_
 have hc:Ret Tryz.prog 124 [row l,.fn (.func 216) [] []] s (.bool (l.any fun n=> !decide (n=keep n))):=containsFunc_int (by omega) fun k hk=>(skept1_p (nth l k)).c.ret
 rw [keptK_any]
 generalize (l.any fun n=> !decide (n=keep n))=b at *
 refine ac0 Tryz.func137 Tryz.ntmps137 ?_
 have hrs:Tryz.f137.results = #[.tmp 2]:=rfl
 repeat' (first|(with_reducible first|refine uk ?_|refine wk ?_ ?_<;>intro _|refine callR hc (fun v2 hv2=>?_))|simp -implicitDefEqProofs(disch:=first|assumption|omega)[*])
 exact Ends.eq (by simp) (by simp) hv2
theorem skept_one (n:Int):PureC Tryz.prog 137 [.imm 1 1 [.int .i64 n] .full] (.bool (decide (n=keep n))):=fun s v=>by
 have h:=skept_p (l:=[n]) (by simp)
 rw [show keptK [n]=decide (n=keep n) from by simp only [keptK,betC,List.all_cons,List.all_nil,keepK,Bool.and_true]] at h
 exact aCalls_argw (args':=[row [n]]) ⟨Weak.row (l:=[n]) (Weaks.refl _) rfl,trivial⟩ (h s v)
theorem sodd_p {p:Prog} {f:Frm} {s:List AObj} {id:Nat} (hs:s[id]? = some (.cells [row p.funcs,.int .i64 p.mutexes,row p.conds,row p.semas,row p.chans,row p.choices,.int .i64 p.threads])) (hl:f.locals.length≤1000000) (hp:p.funcs.length≤1000000):Ret Tryz.prog 136 [.agg [.int .i64 f.func,.int .i64 f.pc,row f.locals],.ptr id 0] s (.bool (!frmK p f)):=by
 refine .of fun v=>?_
 have hid:=(List.getElem?_eq_some_iff.1 hs).1
 have hsl:∀ l,(s++l)[id]? = some (.cells [row p.funcs,.int .i64 p.mutexes,row p.conds,row p.semas,row p.chans,row p.choices,.int .i64 p.threads]):=fun l=>by rw [List.getElem?_append_left hid];exact hs
 unfold frmK
 by_cases h0:f.func<0∨(p.funcs.length:Int)≤f.func
 ·rw [if_pos h0]
  refine ac0 Tryz.func136 Tryz.ntmps136 ?_
  have hrs:Tryz.f136.results = #[.tmp 3]:=rfl
  repeat' (first|(with_reducible first|refine uk ?_|refine wk ?_ ?_<;>intro _)|simp -implicitDefEqProofs(disch:=first|assumption|omega)[*])
  all_goals first|(exfalso;omega)|exact Ends.eqat (by simp) (by simp) (List.prefix_refl _)
 rw [if_neg h0]
 have hx:=ix_in (l:=p.funcs) (i:=f.func) (by omega) (by omega)
 have hk:=skept_p (l:=f.locals) (by omega)
 have h1:¬ f.func<0:=by omega
 have h2:¬ (p.funcs.length:Int)≤f.func:=by omega
 have h3:f.func<(p.funcs.length:Int):=by omega
 have h4:0≤f.func:=by omega
 clear h0
 generalize keptK f.locals=b at *
 refine ac0 Tryz.func136 Tryz.ntmps136 ?_
 have hrs:Tryz.f136.results = #[.tmp 3]:=rfl
 repeat' (first|(with_reducible first|refine uk ?_|refine wk ?_ ?_<;>intro _|refine callC hk (fun v2 hv2=>?_))|simp -implicitDefEqProofs(disch:=first|assumption|omega)[*])
 all_goals first|(exfalso;omega)|exact Ends.eqat (by cases b<;>first|(simp [*];done)|(simp [*];intros;omega)|(simp [*];omega)) (by simp) (by first|assumption|exact List.prefix_refl _)
def preS (t:Thr):Bool:=decide (t.state<0) || decide (10≤t.state) || decide (t.code<0) || decide (7≤t.code) || (decide (t.state=9) != decide (t.frames.length=0)) || (decide (t.state=9) && decide (0<t.stack.length)) || (!decide (t.state=9) && !decide (t.code=0))
theorem thrK_eq (p:Prog) (t:Thr):thrK p t=if preS t=true then false else decide ((t.frames.length:Int)≤8) && (decide ((t.stack.length:Int)≤16) && (keptK t.stack && (decide (t.on=keep t.on) && !t.frames.any fun f=> !frmK p f))):=by
 rw [List.not_any_eq_all_not]
 simp only [Bool.not_not]
 show thrK p t=if preS t=true then false else decide ((t.frames.length:Int)≤8) && (decide ((t.stack.length:Int)≤16) && (keptK t.stack && (decide (t.on=keep t.on) && t.frames.all (frmK p))))
 unfold thrK thrK0 preS
 generalize keptK t.stack=b1
 generalize keep t.on=k
 generalize t.frames.all (frmK p)=b2
 generalize t.frames.length=n1
 generalize t.stack.length=n2
 rw [Bool.eq_iff_iff]
 by_cases h9:t.state=9
 ·cases b1<;>cases b2<;>simp [h9]<;>omega
 ·cases b1<;>cases b2<;>simp [h9]<;>omega
set_option maxHeartbeats 4000000 in
theorem smayT_p {p:Prog} {t:Thr} (h1:t.frames.length≤1000000) (h2:t.stack.length≤1000000) (h3:∀ f∈t.frames,f.locals.length≤1000000) (hp:p.funcs.length≤1000000):PureC Tryz.prog 47 [.agg [row p.funcs,.int .i64 p.mutexes,row p.conds,row p.semas,row p.chans,row p.choices,.int .i64 p.threads],.agg t.lv] (.bool (thrK p t)):=by
 refine .of fun s v=>?_
 rw [thrK_eq]
 have hk:=skept_p (l:=t.stack) (by omega)
 have ho:=skept_one t.on
 have hc:∀ x,Ret Tryz.prog 138 [row t.frames,.fn (.func 136) [] [.ptr s.length 0]] (s++[.cells [row p.funcs,.int .i64 p.mutexes,row p.conds,row p.semas,row p.chans,row p.choices,.int .i64 p.threads],x]) (.bool (t.frames.any fun f=> !frmK p f)):=fun x=>containsFunc_frm (by omega) fun k hk=>sodd_p (by simp) (h3 _ (nth_mem hk)) hp
 clear h3
 generalize (t.frames.any fun f=> !frmK p f)=b3 at *
 obtain⟨st,on,fr,sk,co⟩:=t
 simp only [Thr.lv] at *
 generalize keptK sk=b1 at *
 generalize decide (on=keep on)=b2 at *
 by_cases h0:preS ⟨st,on,fr,sk,co⟩=true
 ·rw [if_pos h0]
  unfold preS at h0
  simp only at h0
  have e1:decide (fr.length=0)=decide ((fr.length:Int)=0):=by rw [decide_eq_decide];omega
  have e2:decide (0<sk.length)=decide ((0:Int)<sk.length):=by rw [decide_eq_decide];omega
  rw [e1,e2] at h0
  clear e1 e2 hk ho hc
  simp only [Bool.or_eq_true,Bool.and_eq_true,decide_eq_true_eq,bne_iff_ne,ne_eq,decide_eq_decide,Bool.not_eq_true',decide_eq_false_iff_not] at h0
  by_cases h9:st=9<;>by_cases g1:(fr.length:Int)=0
  all_goals
   refine ac0 Tryz.func47 Tryz.ntmps47 ?_
   have hrs:Tryz.f47.results = #[.tmp 4]:=rfl
   repeat' (first|(with_reducible first|refine uk ?_|refine wk ?_ ?_<;>intro _)|simp -implicitDefEqProofs(disch:=first|assumption|omega)[*])
   all_goals first|exact Ends.eqat rfl (by simp) (List.prefix_refl _)|(exfalso;omega)|(exfalso;apply g1;simp [*];done)|(exfalso;simp only [decide_eq_true_eq] at *;omega)
 rw [if_neg h0]
 simp only [preS,Bool.or_eq_true,Bool.and_eq_true,decide_eq_true_eq,not_or,Bool.not_eq_true',not_and,decide_eq_false_iff_not,Decidable.not_not,bne_iff_ne,ne_eq,decide_eq_decide] at h0
 obtain⟨⟨⟨⟨⟨⟨a1,a2⟩,a3⟩,a4⟩,a5⟩,a6⟩,a7⟩:=h0
 by_cases h9:st=9
 ·have g1:(fr.length:Int)=0:=by omega
  have g2:(sk.length:Int)=0:=by omega
  clear a5 a6 a7
  subst h9
  refine ac0 Tryz.func47 Tryz.ntmps47 ?_
  have hrs:Tryz.f47.results = #[.tmp 4]:=rfl
  repeat' (first|(with_reducible first|refine uk ?_|refine wk ?_ ?_<;>intro _|refine callC hk (fun v1 hv1=>?_)|refine callC ho (fun v2 hv2=>?_)|refine callR (hc _) (fun v3 hv3=>?_))|simp -implicitDefEqProofs(disch:=first|assumption|omega)[*])
  all_goals first|(exfalso;omega)|(exfalso;apply g1;simp [*];done)|exact Ends.eqat (by simp [*]) (by simp) (by first|exact List.prefix_refl _|exact hv1|exact hv1.trans hv2|exact(hv1.trans hv2).trans hv3)
 ·have g1:¬ (fr.length:Int)=0:=by omega
  have g7:=a7 h9
  clear a5 a6 a7
  subst g7
  refine ac0 Tryz.func47 Tryz.ntmps47 ?_
  have hrs:Tryz.f47.results = #[.tmp 4]:=rfl
  repeat' (first|(with_reducible first|refine uk ?_|refine wk ?_ ?_<;>intro _|refine callC hk (fun v1 hv1=>?_)|refine callC ho (fun v2 hv2=>?_)|refine callR (hc _) (fun v3 hv3=>?_))|simp -implicitDefEqProofs(disch:=first|assumption|omega)[*])
  all_goals first|(exfalso;omega)|(exfalso;apply g1;simp [*];done)|exact Ends.eqat (by simp [*]) (by simp) (by first|exact List.prefix_refl _|exact hv1|exact hv1.trans hv2|exact(hv1.trans hv2).trans hv3)
end Go.Hb
end
