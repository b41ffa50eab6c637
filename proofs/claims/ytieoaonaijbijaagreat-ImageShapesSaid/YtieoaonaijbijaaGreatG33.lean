/-
  A layer for reasoning about the program's calls, and contracts of its functions. CONDITIONS: none; each theorem bears its own.
-/
import Derived.Test.YtieoaonaijbijaaGreatG32
import Derived.Test.YtieoaonaijbijaaGreatG12
import Derived.Test.YtieoaonaijbijaaGreatG10
import Derived.Test.YtieoaonaijbijaaGreatG31
import Derived.Test.YtieoaonaijbijaaGreatG17
set_option linter.unusedVariables false
set_option linter.unusedSimpArgs false
section
namespace Go.Hb
open Go Go.Proofs Go.RowKit
set_option maxRecDepth 100000
set_option maxHeartbeats 800000
attribute [-simp] aC aL xq yp zE aIf yr zR aLen zt ya zQ zP lBr aq yP aev zk zw zF zI LV.cells LV.cellsOk getElem?_pos getElem?_neg
theorem Xp {l:List Sec}{p:Sec→Bool}{g:FuncId}{ca:List LV}{s:List AObj}(hb:l.length≤9223372036854775807)(h:∀ k,k<l.length→Ret Tryz.prog g (.agg [.int .i64 (nth l k).kind,row (nth l k).body] :: ca) s (.bool (p (nth l k)))) :
  Ret Tryz.prog 254 [row l,.fn (.func g) [] ca] s (.int .i64 (fidx p l)):=by
 refine .of fun v=>?_
 refine ac0 Tryz.func254 Tryz.ntmps254 ?_
 have hrs:Tryz.f254.results = #[.tmp 4]:=rfl
 repeat' (first|(with_reducible first|refine uk ?_|refine wk ?_ ?_<;>intro _)|simp -implicitDefEqProofs(disch:=first|assumption|omega)[*])
 refine zC (β:=List Nat) false l.length (fun k v1=>v <+: v1∧∀ j,j<k→p (nth l j)=false) (fun k _=>[(8,.int .i64 k),(9,.any),(10,.any),(5,.any),(11,.any),(12,.any),(13,.any),(14,.any),(15,.any),(16,.any),(17,.any),(4,.any),(18,.any)]) (fun _ _=>s) (fun _ v1=>v1) ?_ ?_
 ·exact⟨v,⟨List.prefix_refl _,by simp⟩,fz0,rfl,rfl⟩
 rintro k v1 hk ⟨hv,hI⟩
 by_cases hlt:k<l.length
 ·have hh:=h k hlt
  cases hp:p (nth l k)
  ·rw[hp] at hh
   repeat' (first|(with_reducible first|refine uk ?_|refine wk ?_ ?_<;>intro _|refine yE hh (fun v2 hv2=>?_))|simp -implicitDefEqProofs(disch:=first|assumption|omega)[*])
   exact⟨hlt,v2,⟨hv.trans hv2,fun j hj=>by
    by_cases e:j=k
    ·subst e;exact hp
    ·exact hI j (by omega)⟩,fz,rfl,rfl⟩
  ·rw[hp] at hh
   have hf:=uu hlt hI hp
   repeat' (first|(with_reducible first|refine uk ?_|refine wk ?_ ?_<;>intro _|refine yE hh (fun v2 hv2=>?_))|simp -implicitDefEqProofs(disch:=first|assumption|omega)[*])
   exact Ends.eq rfl (by simp) (hv.trans hv2)
 ·have hf:=wv (p:=p) (l:=l) (fun j hj=>hI j (by omega))
  have:k=l.length:=by omega
  subst this
  repeat' (first|(with_reducible first|refine uk ?_|refine wk ?_ ?_<;>intro _)|simp -implicitDefEqProofs(disch:=first|assumption|omega)[*])
  exact Ends.eq rfl (by simp) hv
theorem KX {l:List Sec}{p:Sec→Bool}{g:FuncId}{ca:List LV}{s:List AObj}(hb:l.length≤9223372036854775807)(h:∀ k,k<l.length→Ret Tryz.prog g (.agg [.int .i64 (nth l k).kind,row (nth l k).body] :: ca) s (.bool (p (nth l k)))) :
  Ret Tryz.prog 204 [row l,.fn (.func g) [] ca] s (.bool (l.any p)):=by
 refine .of fun v=>?_
 refine ac0 Tryz.func204 Tryz.ntmps204 ?_
 have hrs:Tryz.f204.results = #[.tmp 4]:=rfl
 have hi:=Xp hb h
 rw[← vQ p l]
 repeat' (first|(with_reducible first|refine uk ?_|refine wk ?_ ?_<;>intro _|refine yE hi (fun v2 hv2=>?_))|simp -implicitDefEqProofs(disch:=first|assumption|omega)[*])
 exact Ends.eq rfl (by simp) hv2
def oddS (s:Sec):Bool:=decide (s.kind<0) || decide (255<s.kind) || decide ((1048576:Int)<s.body.length)
theorem zml (x:Sec):zM Tryz.prog 203 [.agg [.int .i64 x.kind,row x.body]] (.bool (oddS x)):=by
 refine .of fun s v=>?_
 refine ac0 Tryz.func203 Tryz.ntmps203 ?_
 have hrs:Tryz.f203.results = #[.tmp 2]:=rfl
 repeat' (first|(with_reducible first|refine uk ?_|refine wk ?_ ?_<;>intro _|refine And.intro ?_ ?_)|simp -implicitDefEqProofs(disch:=first|assumption|omega)[*])
 all_goals exact zn.eqat (by simp[oddS, *]) (by simp)
def mayS (v:Int)(l:List Sec):Bool:=decide (0≤v) && (decide (v≤255) && (decide ((l.length:Int)≤16) && !l.any oddS))
theorem zlq {ver:Int}{l:List Sec}(hl:l.length≤1000000):zG Tryz.prog 115 [.int .i64 ver,row l] (.bool (mayS ver l)):=by
 refine .of fun s v=>?_
 have hc:Ret Tryz.prog 204 [row l,.fn (.func 203) [] []] s (.bool (l.any oddS)):=KX (by omega) fun k hk=>(zml (nth l k)).c.ret
 unfold mayS
 generalize l.any oddS=b at *
 refine ac0 Tryz.func115 Tryz.ntmps115 ?_
 have hrs:Tryz.f115.results = #[.tmp 4]:=rfl
 repeat' (first|(with_reducible first|refine uk ?_|refine wk ?_ ?_<;>intro _|refine And.intro ?_ ?_|refine yE hc (fun v2 hv2=>?_))|simp -implicitDefEqProofs(disch:=first|assumption|omega)[*])
 all_goals first|exact Ends.eqat (by simp[*]) (by simp) (by first|assumption|exact List.prefix_refl _)|exact Ends.eq (by simp[*]) (by simp) (by first|assumption|exact List.prefix_refl _)
theorem WAt.on {v0 v v':List Nat}{bs:List UInt8}{x:LV}{B:Nat}(h:WAt v0 v bs x B)(hv:v <+: v'):WAt v0 v' bs x B:=⟨GroC.mono h.1 hv,h.2⟩
theorem zfF {s:List AObj}{id B B2:Nat}{x y:LV}{v0 v:List Nat}{bs l2:List UInt8}(hs:s[id]? = some (.cells [x]))(hx:WAt v0 v bs x B)(hy:Weak y (row l2))(hl:l2.length≤B2)(hB:B+B2≤90000000) :
  zp Tryz.prog 116 [.ptr id 0,y] s v (wu s id v0 (bs++l2) (B+B2)):=by
 refine yJ (args':=[.ptr id 0,row l2]) ⟨Weak.refl _,hy,trivial⟩ ?_
 obtain⟨hx,hb⟩:=hx
 have hid:=(List.getElem?_eq_some_iff.1 hs).1
 have hxc:=hx.gro.cells
 obtain⟨x',v',hx',_,ha⟩:=GroE.appw (P:=Tryz.prog) (t:=36) (t2:=36) (by_:=1) (by kernel_rfl) (by omega) hx l2 (by omega)
 have hxc':=hx'.gro.cells
 refine ac0 Tryz.func116 Tryz.ntmps116 ?_
 have hrs:Tryz.f116.results = #[]:=rfl
 repeat' (first|(with_reducible first|refine uk ?_|refine wk ?_ ?_<;>intro _)|simp -implicitDefEqProofs(disch:=first|assumption|omega)[*])
 exact⟨x',rfl,hx',by simp only[List.length_append];omega⟩
set_option maxHeartbeats 4000000 in
theorem zhG {ver:Int}{l:List Sec}(hm:mayS ver l=true)(hb:∀ x∈l,x.body.length≤500000):zG Tryz.prog 40 [.int .i64 ver,row l] (.tup [row (Qr ver l),.int .i64 0]):=by
 refine .of fun s vz=>?_
 have hl:l.length≤16:=by
  unfold mayS at hm
  simp only[Bool.and_eq_true,decide_eq_true_eq] at hm
  omega
 have hsm:=zlq (ver:=ver) (l:=l) (by omega)
 rw[hm] at hsm
 clear hm
 unfold Qr
 refine zcY Tryz.func40 rfl (by decide) Tryz.ntmps40 (by simp) ?_
 refine zbn false ?_
 repeat' (first|(with_reducible first|refine uk ?_|refine wk ?_ ?_<;>intro _)|simp -implicitDefEqProofs(disch:=first|assumption|omega)[*])
 refine zbn false ?_
 repeat' (first|(with_reducible first|refine uk ?_|refine wk ?_ ?_<;>intro _|refine zg hsm (fun v1 hv1=>?_))|simp -implicitDefEqProofs(disch:=first|assumption|omega)[*])
 refine zbn false ?_
 repeat' (first|(with_reducible first|refine uk ?_|refine wk ?_ ?_<;>intro _)|simp -implicitDefEqProofs(disch:=first|assumption|omega)[*])
 have hx:WAt v1 v1 [] .nils 0:=⟨GroE.nil _,by simp⟩
 have hw4:Weak (.imm 1 4 [.int .u8 72,.int .u8 73,.int .u8 66,.int .u8 82] .full) (row ([72,73,66,82]:List UInt8)):=Weak.row (α:=UInt8) (l:=[72,73,66,82]) (by rw[show zd ([72,73,66,82]:List UInt8)=[.int .u8 72,.int .u8 73,.int .u8 66,.int .u8 82] from rfl];exact yh.refl _) rfl
 have hl4:([72,73,66,82]:List UInt8).length≤4:=by simp
 refine zjM (e:=5) false _ _ _ rfl rfl rfl rfl rfl rfl rfl (by kernel_rfl) (by kernel_rfl) (by decide) (by decide) (by decide) (by simp[yX];rfl) ?_
 repeat' (first|(with_reducible first|refine uk ?_|refine wk ?_ ?_<;>intro _|refine wK (zfF (by simp[zL]) hx hw4 hl4 (by omega)) (fun y x v hx=>?_))|simp -implicitDefEqProofs(disch:=first|assumption|omega)[*])
 refine zkJ false ?_
 repeat' (first|(with_reducible first|refine uk ?_|refine wk ?_ ?_<;>intro _|refine wK (zdJ (b:=UInt8.ofInt ver) (by simp[zL]) hx (by first|exact zgK _|exact zfI _) (by omega)) (fun y x v hx=>?_)|refine wK (xd (by simp[zL]) hx (by omega) (by omega)) (fun y x v hx=>?_))|simp -implicitDefEqProofs(disch:=first|assumption|omega)[*])
 refine zC (β:=LV × List AObj × List Nat) true l.length (fun k p=>WAt v1 p.2.2 ([72,73,66,82,UInt8.ofInt ver]++zb l.length++(l.take k).flatMap secH) p.1 (14+10*k)) (fun k p=>[(27,.int .i64 k),(28,.any),(29,.any),(30,.any),(8,.any),(31,.any),(32,.any),(33,.any),(34,.any),(35,.any),(36,.any),(37,.any),(38,.any),(39,.any),(40,.any)]) (fun _ p=>s++(.cells [p.1] :: p.2.1)) (fun _ p=>p.2.2) ?_ ?_
 ·exact⟨(x,[],v),hx.eq (by simp) (by omega),fz0,rfl,rfl⟩
 clear hx hw4 hl4
 rintro k ⟨x,J,v⟩ hk hx
 simp only at hx
 by_cases hlt:k<l.length
 ·have hbd:=hb _ (nthM hlt)
  have hlt':(k:Int)<l.length:=by omega
  have hxf:=zB (l:=l) (i:=(k:Int)) (by omega) (by omega)
  rw[Int.toNat_natCast] at hxf
  repeat' (first|(with_reducible first|refine uk ?_|refine wk ?_ ?_<;>intro _|refine wK (zdJ (b:=UInt8.ofInt (nth l k).kind) (by simp[zL]) hx (by first|exact zgK _|exact zfI _) (by omega)) (fun y x v hx=>?_)|refine wK (xd (by simp[zL]) hx (by omega) (by omega)) (fun y x v hx=>?_))|simp -implicitDefEqProofs(disch:=first|assumption|omega)[*])
  exact⟨hlt,(x,_,v),hx.eq (by simp[za hlt,secH]) (by omega),fz,rfl,rfl⟩
 ·have:k=l.length:=by omega
  subst this
  rw[List.take_of_length_le (Nat.le_refl _),show [72,73,66,82,UInt8.ofInt ver]++zb l.length++l.flatMap secH=Kn ver l from rfl] at hx
  repeat' (first|(with_reducible first|refine uk ?_|refine wk ?_ ?_<;>intro _)|simp -implicitDefEqProofs(disch:=first|assumption|omega)[*])
  refine zC (β:=LV × List AObj × List Nat) true l.length (fun k p=>WAt v1 p.2.2 (Kn ver l++(l.take k).flatMap fun s=>vO s.body) p.1 (200+500004*k)) (fun k p=>[(43,.int .i64 k),(44,.any),(45,.any),(46,.any),(10,.any),(47,.any),(48,.any),(49,.any),(50,.any),(51,.any)]) (fun _ p=>s++(.cells [p.1] :: p.2.1)) (fun _ p=>p.2.2) ?_ ?_
  ·exact⟨(x,J,v),hx.eq (by simp) (by omega),fz0,rfl,rfl⟩
  clear hx
  rintro k ⟨x,J,v⟩ hk hx
  simp only at hx
  by_cases hlt:k<l.length
  ·have hbd:=hb _ (nthM hlt)
   have hlt':(k:Int)<l.length:=by omega
   have hxf:=zB (l:=l) (i:=(k:Int)) (by omega) (by omega)
   rw[Int.toNat_natCast] at hxf
   have hse:=zie (l:=(nth l k).body) (by omega)
   have hle:(vO (nth l k).body).length≤500004:=by rw[Kg];omega
   repeat' (first|(with_reducible first|refine uk ?_|refine wk ?_ ?_<;>intro _|refine zg hse (fun v2 hv2=>?_)|refine wK (zfF (by simp[zL]) (hx.on hv2) (Weak.refl _) hle (by omega)) (fun y x v hx=>?_))|simp -implicitDefEqProofs(disch:=first|assumption|omega)[*])
   exact⟨hlt,(x,_,v),hx.eq (by simp[za hlt]) (by omega),fz,rfl,rfl⟩
  ·have:k=l.length:=by omega
   subst this
   rw[List.take_of_length_le (Nat.le_refl _)] at hx
   have hse:=zie (l:=Kn ver l++l.flatMap fun s=>vO s.body) (by have:=hx.2;omega)
   have hne:(Kn ver l++l.flatMap fun s=>vO s.body).length≠0:=by simp[Kn]
   generalize Kn ver l++(l.flatMap fun s=>vO s.body)=o at *
   repeat' (first|(with_reducible first|refine uk ?_|refine wk ?_ ?_<;>intro _|refine zjn (YF (by simp[zL]) hx hne (by omega)) (fun v2 hv2=>?_)|refine zg hse (fun v5 hv5=>?_))|simp -implicitDefEqProofs(disch:=first|assumption|omega)[*])
   exact Ends.eqat (by simp) (by simp) (((hv1.trans hx.1.1).trans (by assumption)).trans hv5)
theorem zls {c:Cor}{id ic:Nat}(h:WrC c):Wrt Tryz.prog 93 [.ptr id 0,.ptr ic 0] id [(ic,AObj.cells [.int .i64 c.now,row c.threads,row c.owners,row c.counts,row c.bufs,row c.lockq,row c.waitq,row c.downq,row c.sendq,row c.recvq])] (ug c) 300009:=fun S x v0 v bs B hL hS hx hB=>by
 refine wu.of ?_
 have hid:=(List.getElem?_eq_some_iff.1 hS).1;have hat:=yg hS;have hself:=yY hS;have s1:=sw1 hid;have s3:=sw3 hid;have s4:=sw4 hid;have s6:=sw6 (S:=S) (id:=id);have s7:=sw7 (S:=S) (id:=id)
 obtain⟨n1,g1⟩:=hL _ (List.mem_cons_self);dsimp only at n1 g1;have hi:=yg g1;have hi8:=sw8 n1 g1;have hi9:=fun o=>(show (S.set id o)[_]? = _ by simpa using hi8 o [])
 have ht:=h.bufn
 have ht2:=h.sendn
 have ht3:=h.recvn
 have hp:=YO (n:=c.bufs.length) (by omega)
 have hw:=uz (l:=ints c.bufs.length) (w:=fun z=>Zf c z.toNat) (m:=3000) (id:=id) (L:=[(S.length,.cells [.ptr id 0]),(ic,AObj.cells [.int .i64 c.now,row c.threads,row c.owners,row c.counts,row c.bufs,row c.lockq,row c.waitq,row c.downq,row c.sendq,row c.recvq])]) (g:=94) (pre:=[]) (post:=[.ptr S.length 0,.ptr ic 0]) (by simp;omega) fun k hk=>by
  have hk':k<c.bufs.length:=by simpa using hk
  rw[Xf hk']
  exact zlb hk' (by omega) (by omega) (h.bufs _ (zm hk')) (h.sendq _ (zm (by omega))) (h.recvq _ (zm (by omega)))
 rw[Yu,Js] at hw
 have hE:∀ J,EnvW id [(S.length,.cells [.ptr id 0]),(ic,AObj.cells [.int .i64 c.now,row c.threads,row c.owners,row c.counts,row c.bufs,row c.lockq,row c.waitq,row c.downq,row c.sendq,row c.recvq])] (S++(.cells [.ptr id 0] :: J)):=fun J=>.cons (by omega) (by rw[xy];rfl) (.cons n1 (hi _) .nil)
 clear h
 refine ac0 Tryz.func93 Tryz.ntmps93 ?_
 have hrs:Tryz.f93.results = #[]:=rfl
 repeat' (first|(with_reducible first|refine uk ?_|refine wk ?_ ?_<;>intro _|(refine dr P93 mixed ?_ ?_ ?_;kernel_rfl;kernel_rfl)|refine zg hp (fun v1 hv1=>?_)|refine yy hw (by first|exact EnvW.nil|exact hE _|exact hE2 _ _) (by first|exact hS|exact hat _|exact hself _|exact s4 _ _) (hx.mo hv1) (by omega) (fun y x v hx=>?_))|simp -implicitDefEqProofs(disch:=first|assumption|omega)[*])
 all_goals exact⟨x,_,rfl,by simp,xH hx (by simp[ug]) (by omega)⟩
theorem zac {g:FuncId}{ca:List LV}{w:List UInt8}{n:Nat}{L:List (Nat × AObj)}{s:List AObj}(h:Wrt Tryz.prog g (.ptr s.length 0 :: ca) s.length L w n)(hL:∀ q∈L,s[q.1]? = some q.2)(hw:w.length≠0)(hn:n≤70000000):Ret Tryz.prog 77 [.fn (.func g) [] ca] s (row w):=by
 refine .of fun v=>?_
 have hE:EnvW s.length L (s++[.cells [.nils]]):=fun q hq=>by
  have:=hL q hq
  have hlt:=(List.getElem?_eq_some_iff.1 this).1
  exact⟨by omega,by rw[List.getElem?_append_left hlt];exact this⟩
 have hx:WAt v v [] .nils 0:=⟨GroE.nil _,by simp⟩
 refine ac0 Tryz.func77 Tryz.ntmps77 ?_
 have hrs:Tryz.f77.results = #[.tmp 2]:=rfl
 repeat' (first|(with_reducible first|refine uk ?_|refine wk ?_ ?_<;>intro _|refine yy h hE (by simp[xy]) hx (by omega) (fun y x v hx=>?_)|refine zjn (YF (by simp[xy]) (xH hx (List.nil_append _) (Nat.le_refl _)) hw (by omega)) (fun v2 hv2=>?_))|simp -implicitDefEqProofs(disch:=first|assumption|omega)[*])
 exact Ends.eqat rfl (by simp) (hx.1.1.trans hv2)
set_option maxHeartbeats 4000000 in
theorem JP {ver ep:Int}{p:Prog}{c:Cor}(hp:mayP p=true)(h:WrC c)(he:ep≤9223372036854775807)(hn:c.now≤9223372036854775807):zG Tryz.prog 29 [.agg [.int .i64 ver,.int .i64 ep,row p.funcs,.int .i64 p.mutexes,row p.conds,row p.semas,row p.chans,row p.choices,.int .i64 p.threads,.int .i64 c.now,row c.threads,row c.owners,row c.counts,row c.bufs,row c.lockq,row c.waitq,row c.downq,row c.sendq,row c.recvq]] (row (yx ep p c)):=by
 refine xX.pure (xX.of fun s v=>?_)
 have hm:=zid (QF hp)
 rw[hp] at hm
 have hcw:=zhr (fs:=p.funcs) (mu:=p.mutexes) (th:=p.threads) (co:=p.conds) (se:=p.semas) (ch:=p.chans) (cho:=p.choices) hm hp
 have hne:∀ (n:Int) (l:List UInt8),(zb n++l).length≠0:=fun n l=>by rw[List.length_append];have:=zew n;omega
 have q1:(zb ep++zb c.now).length≠0:=hne _ _
 have q2:(KL c).length≠0:=hne _ _
 have q3:(vt c).length≠0:=by unfold vt;rw[List.append_assoc,List.append_assoc];exact hne _ _
 have q4:(ub c).length≠0:=hne _ _
 have q5:(ug c).length≠0:=hne _ _
 have r1:Ret Tryz.prog 77 [.fn (.func 78) [] [.ptr s.length 0,.ptr (s.length+1) 0]] (s++[.cells [.int .i64 ver,.int .i64 ep,row p.funcs,.int .i64 p.mutexes,row p.conds,row p.semas,row p.chans,row p.choices,.int .i64 p.threads,.int .i64 c.now,row c.threads,row c.owners,row c.counts,row c.bufs,row c.lockq,row c.waitq,row c.downq,row c.sendq,row c.recvq],AObj.cells [.int .i64 c.now,row c.threads,row c.owners,row c.counts,row c.bufs,row c.lockq,row c.waitq,row c.downq,row c.sendq,row c.recvq]]) (row (zb ep++zb c.now)):=zac (zlp (X:=[.int .i64 ver,.int .i64 ep,row p.funcs,.int .i64 p.mutexes,row p.conds,row p.semas,row p.chans,row p.choices,.int .i64 p.threads,.int .i64 c.now,row c.threads,row c.owners,row c.counts,row c.bufs,row c.lockq,row c.waitq,row c.downq,row c.sendq,row c.recvq]) (C:=[.int .i64 c.now,row c.threads,row c.owners,row c.counts,row c.bufs,row c.lockq,row c.waitq,row c.downq,row c.sendq,row c.recvq]) he hn rfl rfl) (by simp[xy,zL]) q1 (by omega)
 have r2:Ret Tryz.prog 77 [.fn (.func 80) [] [.ptr (s.length+1) 0]] (s++[.cells [.int .i64 ver,.int .i64 ep,row p.funcs,.int .i64 p.mutexes,row p.conds,row p.semas,row p.chans,row p.choices,.int .i64 p.threads,.int .i64 c.now,row c.threads,row c.owners,row c.counts,row c.bufs,row c.lockq,row c.waitq,row c.downq,row c.sendq,row c.recvq],AObj.cells [.int .i64 c.now,row c.threads,row c.owners,row c.counts,row c.bufs,row c.lockq,row c.waitq,row c.downq,row c.sendq,row c.recvq]]) (row (KL c)):=zac (zlr h) (by simp[zL]) q2 (by omega)
 have r3:Ret Tryz.prog 77 [.fn (.func 84) [] [.ptr (s.length+1) 0]] (s++[.cells [.int .i64 ver,.int .i64 ep,row p.funcs,.int .i64 p.mutexes,row p.conds,row p.semas,row p.chans,row p.choices,.int .i64 p.threads,.int .i64 c.now,row c.threads,row c.owners,row c.counts,row c.bufs,row c.lockq,row c.waitq,row c.downq,row c.sendq,row c.recvq],AObj.cells [.int .i64 c.now,row c.threads,row c.owners,row c.counts,row c.bufs,row c.lockq,row c.waitq,row c.downq,row c.sendq,row c.recvq]]) (row (vt c)):=zac (zlC h) (by simp[zL]) q3 (by omega)
 have r4:Ret Tryz.prog 77 [.fn (.func 91) [] [.ptr (s.length+1) 0]] (s++[.cells [.int .i64 ver,.int .i64 ep,row p.funcs,.int .i64 p.mutexes,row p.conds,row p.semas,row p.chans,row p.choices,.int .i64 p.threads,.int .i64 c.now,row c.threads,row c.owners,row c.counts,row c.bufs,row c.lockq,row c.waitq,row c.downq,row c.sendq,row c.recvq],AObj.cells [.int .i64 c.now,row c.threads,row c.owners,row c.counts,row c.bufs,row c.lockq,row c.waitq,row c.downq,row c.sendq,row c.recvq]]) (row (ub c)):=zac (zlL h) (by simp[zL]) q4 (by omega)
 have r5:Ret Tryz.prog 77 [.fn (.func 93) [] [.ptr (s.length+1) 0]] (s++[.cells [.int .i64 ver,.int .i64 ep,row p.funcs,.int .i64 p.mutexes,row p.conds,row p.semas,row p.chans,row p.choices,.int .i64 p.threads,.int .i64 c.now,row c.threads,row c.owners,row c.counts,row c.bufs,row c.lockq,row c.waitq,row c.downq,row c.sendq,row c.recvq],AObj.cells [.int .i64 c.now,row c.threads,row c.owners,row c.counts,row c.bufs,row c.lockq,row c.waitq,row c.downq,row c.sendq,row c.recvq]]) (row (ug c)):=zac (zls h) (by simp[zL]) q5 (by omega)
 have hsb:yx ep p c=[⟨1,zb ep++zb c.now⟩,⟨2,ue p⟩,⟨3,KL c⟩,⟨4,vt c⟩,⟨5,ub c⟩,⟨6,ug c⟩]:=rfl
 rw[hsb]
 clear hsb q1 q2 q3 q4 q5 hne hm h
 generalize zb ep++zb c.now=w1 at *
 generalize KL c=w3 at *
 generalize vt c=w4 at *
 generalize ub c=w5 at *
 generalize ug c=w6 at *
 have hcw':zG Tryz.prog 76 [.agg [row p.funcs,.int .i64 p.mutexes,row p.conds,row p.semas,row p.chans,row p.choices,.int .i64 p.threads]] (.tup [row (ue p),.int .i64 0]):=hcw
 clear hcw
 generalize ue p=w2 at *
 refine ac0 Tryz.func29 Tryz.ntmps29 ?_
 have hrs:Tryz.f29.results = #[.tmp 2]:=rfl
 repeat' (first|(with_reducible first|refine uk ?_|refine wk ?_ ?_<;>intro _|refine zg hcw' (fun v1 hv1=>?_)|refine yE r1 (fun v2 hv2=>?_)|refine yE r2 (fun v3 hv3=>?_)|refine yE r3 (fun v4 hv4=>?_)|refine yE r4 (fun v5 hv5=>?_)|refine yE r5 (fun v6 hv6=>?_))|simp -implicitDefEqProofs(disch:=first|assumption|omega)[*])
 have hv:v <+: v6:=hv1.trans (hv2.trans (hv3.trans (hv4.trans (hv5.trans hv6))))
 clear r1 r2 r3 r4 r5 hcw' hv1 hv2 hv3 hv4 hv5 hv6
 refine zC (β:=LV × List Nat) false 6 (fun k p=>GroE v p.2 (([⟨1,w1⟩,⟨2,w2⟩,⟨3,w3⟩,⟨4,w4⟩,⟨5,w5⟩,⟨6,w6⟩]:List Sec).take k) p.1) (fun k p=>[(7,p.1),(31,.int .i64 k),(32,.any),(33,.any),(34,.any),(8,.any),(9,.any),(35,.any),(36,.any),(37,.any),(38,.any),(39,.any),(40,.any),(41,.any),(42,.any)]) (fun _ _=>s++[.cells [.int .i64 ver,.int .i64 ep,row p.funcs,.int .i64 p.mutexes,row p.conds,row p.semas,row p.chans,row p.choices,.int .i64 p.threads,.int .i64 c.now,row c.threads,row c.owners,row c.counts,row c.bufs,row c.lockq,row c.waitq,row c.downq,row c.sendq,row c.recvq],AObj.cells [.int .i64 c.now,row c.threads,row c.owners,row c.counts,row c.bufs,row c.lockq,row c.waitq,row c.downq,row c.sendq,row c.recvq],.cells [row w1,row w2,row w3,row w4,row w5,row w6]]) (fun _ p=>p.2) ?_ ?_
 ·exact⟨(.nils,v6),GroC.mono (GroE.nil _) hv,fz0,rfl,rfl⟩
 rintro k ⟨x,v1⟩ hk hG
 simp only at hG
 have hgc:=hG.gro.cells
 have hk6:k=0∨k=1∨k=2∨k=3∨k=4∨k=5∨k=6:=by omega
 rcases hk6 with rfl | rfl | rfl | rfl | rfl | rfl | rfl
 rotate_right
 ·simp only[List.take_succ_cons,List.take_zero] at hG
  repeat' (first|(with_reducible first|refine uk ?_|refine wk ?_ ?_<;>intro _)|simp -implicitDefEqProofs(disch:=first|assumption|omega)[*])
  exact hG.gro
 ·obtain⟨x2,v2,g2,_,gb⟩:=hG.push (P:=Tryz.prog) (t:=44) (t2:=44) (sz:=2) (by_:=32) (by kernel_rfl) rfl (by omega) (⟨1,w1⟩:Sec) (by simp)
  simp only[Kx] at gb
  repeat' (first|(with_reducible first|refine uk ?_|refine wk ?_ ?_<;>intro _)|simp -implicitDefEqProofs(disch:=first|assumption|omega)[*])
  exact⟨by omega,(x2,v2),g2,fz,rfl,rfl⟩
 ·obtain⟨x2,v2,g2,_,gb⟩:=hG.push (P:=Tryz.prog) (t:=44) (t2:=44) (sz:=2) (by_:=32) (by kernel_rfl) rfl (by omega) (⟨2,w2⟩:Sec) (by simp)
  simp only[Kx] at gb
  repeat' (first|(with_reducible first|refine uk ?_|refine wk ?_ ?_<;>intro _)|simp -implicitDefEqProofs(disch:=first|assumption|omega)[*])
  exact⟨by omega,(x2,v2),g2,fz,rfl,rfl⟩
 ·obtain⟨x2,v2,g2,_,gb⟩:=hG.push (P:=Tryz.prog) (t:=44) (t2:=44) (sz:=2) (by_:=32) (by kernel_rfl) rfl (by omega) (⟨3,w3⟩:Sec) (by simp)
  simp only[Kx] at gb
  repeat' (first|(with_reducible first|refine uk ?_|refine wk ?_ ?_<;>intro _)|simp -implicitDefEqProofs(disch:=first|assumption|omega)[*])
  exact⟨by omega,(x2,v2),g2,fz,rfl,rfl⟩
 ·obtain⟨x2,v2,g2,_,gb⟩:=hG.push (P:=Tryz.prog) (t:=44) (t2:=44) (sz:=2) (by_:=32) (by kernel_rfl) rfl (by omega) (⟨4,w4⟩:Sec) (by simp)
  simp only[Kx] at gb
  repeat' (first|(with_reducible first|refine uk ?_|refine wk ?_ ?_<;>intro _)|simp -implicitDefEqProofs(disch:=first|assumption|omega)[*])
  exact⟨by omega,(x2,v2),g2,fz,rfl,rfl⟩
 ·obtain⟨x2,v2,g2,_,gb⟩:=hG.push (P:=Tryz.prog) (t:=44) (t2:=44) (sz:=2) (by_:=32) (by kernel_rfl) rfl (by omega) (⟨5,w5⟩:Sec) (by simp)
  simp only[Kx] at gb
  repeat' (first|(with_reducible first|refine uk ?_|refine wk ?_ ?_<;>intro _)|simp -implicitDefEqProofs(disch:=first|assumption|omega)[*])
  exact⟨by omega,(x2,v2),g2,fz,rfl,rfl⟩
 ·obtain⟨x2,v2,g2,_,gb⟩:=hG.push (P:=Tryz.prog) (t:=44) (t2:=44) (sz:=2) (by_:=32) (by kernel_rfl) rfl (by omega) (⟨6,w6⟩:Sec) (by simp)
  simp only[Kx] at gb
  repeat' (first|(with_reducible first|refine uk ?_|refine wk ?_ ?_<;>intro _)|simp -implicitDefEqProofs(disch:=first|assumption|omega)[*])
  exact⟨by omega,(x2,v2),g2,fz,rfl,rfl⟩
end Go.Hb
end
