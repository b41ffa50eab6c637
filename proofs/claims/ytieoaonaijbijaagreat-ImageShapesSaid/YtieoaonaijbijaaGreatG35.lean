/-
  A layer for reasoning about the program's calls, and contracts of its functions. CONDITIONS: none; each theorem bears its own.
-/
import Derived.Test.YtieoaonaijbijaaGreatG33
import Derived.Test.YtieoaonaijbijaaGreatG34
import Derived.Test.YtieoaonaijbijaaGreatG26
import Derived.Test.YtieoaonaijbijaaGreatG10
import Derived.Test.YtieoaonaijbijaaGreatG27
import Derived.Test.YtieoaonaijbijaaGreatG29
set_option linter.unusedVariables false
set_option linter.unusedSimpArgs false
section
namespace Go.Hb
open Go Go.Proofs Go.RowKit
set_option maxRecDepth 100000
set_option maxHeartbeats 800000
attribute [-simp] aC aL xq yp zE aIf yr zR aLen zt ya zQ zP lBr aq yP aev zk zw zF zI LV.cells LV.cellsOk getElem?_pos getElem?_neg
@[simp] def P13:Nat→Plan
 | _=>.nil
theorem zhh {ver ep:Int}{p:Prog}{c:Cor}(hp:mayP p=true)(hb:BigC c)(hv:ver=3)(hs:wR ep p c=true):zG Tryz.prog 14 [.agg [.int .i64 ver,.int .i64 ep,row p.funcs,.int .i64 p.mutexes,row p.conds,row p.semas,row p.chans,row p.choices,.int .i64 p.threads,.int .i64 c.now,row c.threads,row c.owners,row c.counts,row c.bufs,row c.lockq,row c.waitq,row c.downq,row c.sendq,row c.recvq]] (.tup [row (Qr 3 (yx ep p c)),.int .i64 0]):=by
 subst hv
 obtain⟨hc,he⟩:=uZ (uK hp) hs
 have h1:=Jh (ver:=3) (e:=ep) hp hb
 rw[QT,hs] at h1
 have h2:=JP (ver:=3) hp hc.w he.2 hc.now.2
 have h3:=zhG (ver:=3) (l:=yx ep p c) (by simp[mayS,yx,oddS];have:=QR (ep:=ep) (p:=p) hc.w he.2 hc.now.2 (by have:=QY hp;omega);simp[yx] at this;omega) (QR hc.w he.2 hc.now.2 (by have:=QY hp;omega))
 generalize Qr 3 (yx ep p c)=F at *
 generalize yx ep p c=S at *
 refine .of fun s v=>?_
 refine ac0 Tryz.func14 Tryz.ntmps14 ?_
 have hrs:Tryz.f14.results = #[.tmp 2,.tmp 3]:=rfl
 repeat' (first|(with_reducible first|refine uk ?_|refine wk ?_ ?_<;>intro _|refine zg h1 (fun v1 hv1=>?_)|refine zg h2 (fun v2 hv2=>?_)|refine zg h3 (fun v3 hv3=>?_))|simp -implicitDefEqProofs(disch:=first|assumption|omega)[*])
 all_goals exact Ends.eqat rfl (by simp) (hv1.trans (hv2.trans hv3))
theorem zfJ {ver ep:Int}{p:Prog}{c:Cor}(hp:mayP p=true)(hb:BigC c)(h:ver≠3∨wR ep p c=false):zG Tryz.prog 14 [.agg [.int .i64 ver,.int .i64 ep,row p.funcs,.int .i64 p.mutexes,row p.conds,row p.semas,row p.chans,row p.choices,.int .i64 p.threads,.int .i64 c.now,row c.threads,row c.owners,row c.counts,row c.bufs,row c.lockq,row c.waitq,row c.downq,row c.sendq,row c.recvq]] (.tup [.nils,.int .i64 1]):=by
 refine .of fun s v=>?_
 by_cases hv:ver=3
 ·have hs:wR ep p c=false:=h.resolve_left (fun e=>e hv)
  subst hv
  have h1:=Jh (ver:=3) (e:=ep) hp hb
  rw[QT,hs] at h1
  clear h hs
  refine ac0 Tryz.func14 Tryz.ntmps14 ?_
  have hrs:Tryz.f14.results = #[.tmp 2,.tmp 3]:=rfl
  repeat' (first|(with_reducible first|refine uk ?_|refine wk ?_ ?_<;>intro _|refine zg h1 (fun v1 hv1=>?_))|simp -implicitDefEqProofs(disch:=first|assumption|omega)[*])
  all_goals exact Ends.eqat rfl (by simp) hv1
 ·clear h
  refine ac0 Tryz.func14 Tryz.ntmps14 ?_
  have hrs:Tryz.f14.results = #[.tmp 2,.tmp 3]:=rfl
  repeat' (first|(with_reducible first|refine uk ?_|refine wk ?_ ?_<;>intro _)|simp -implicitDefEqProofs(disch:=first|assumption|omega)[*])
  all_goals exact Ends.eqat rfl (by simp) (List.prefix_refl _)
theorem zfs {c:Cor}(h:SizeC c 0):BigC c:=by
 have q:∀ {L:List (List Int)},Qi L 0→BigR L:=fun {L} h=>⟨by have:=h.1;omega,fun l hl=>by have:=h.2 l hl;omega⟩
 exact⟨⟨by have:=h.thr;omega,fun t ht=>by have:=h.th t ht;exact⟨by have:=this.1;omega,by have:=this.2.1;omega,fun f hf=>by have:=this.2.2 f hf;omega⟩⟩,by have:=h.owners;omega,by have:=h.counts;omega,q h.bufs,q h.lockq,q h.waitq,q h.downq,q h.sendq,q h.recvq⟩
theorem zfH:zG Tryz.prog 13 [] (.bool true):=by
 refine .of fun s v=>?_
 have hmk:zG Tryz.prog 10 [.agg [.nils,.int .i64 0,.nils,.nils,.nils,.nils,.int .i64 0],.nils,.int .i64 0] (.agg (.int .i64 3 :: .int .i64 (zA 0 1000) :: ((good ⟨[],0,[],[],[],[],0⟩).lv++(xG (good ⟨[],0,[],[],[],[],0⟩) (ye (good ⟨[],0,[],[],[],[],0⟩)) (([]:List Int).take 80)).1.lv))):=fun s v=>
  yJ (args':=[.agg (Prog.lv ⟨[],0,[],[],[],[],0⟩),row ([]:List Int),.int .i64 0]) ⟨Weak.agg ⟨Weak.nilrow,Weak.refl _,Weak.nilrow,Weak.nilrow,Weak.nilrow,Weak.nilrow,Weak.refl _,trivial⟩,Weak.nilrow,Weak.refl _,trivial⟩
   (zbO (p:=⟨[],0,[],[],[],[],0⟩) (l:=[]) (e:=0) ⟨⟨by simp,by simp⟩,by constructor<;>simp,⟨by simp,by simp⟩,⟨by simp,by simp⟩,⟨by simp,by simp⟩,⟨by simp,by simp⟩,by constructor<;>simp⟩ ⟨by simp,by simp⟩ (by constructor<;>omega) s v)
 rw[show zA 0 1000=0 by decide] at hmk
 have hmy:=YN ⟨[],0,[],[],[],[],0⟩
 generalize good ⟨[],0,[],[],[],[],0⟩=g at *
 have hp:=uK hmy
 have hinv:=JS hp (QB hp) (([]:List Int).take 80)
 have hnow:(xG g (ye g) (([]:List Int).take 80)).1.now=0:=rfl
 generalize (xG g (ye g) (([]:List Int).take 80)).1=c at *
 have hsh:=hinv.shape hp (e:=0) (by omega)
 have hb:=zfs (hinv.size hp)
 obtain⟨hc,he⟩:=uZ hp hsh
 have h1:=Jh (ver:=3) (e:=0) hmy hb
 rw[QT,hsh] at h1
 have h2:=JP (ver:=3) hmy hc.w he.2 hc.now.2
 have hs:zM Tryz.prog 15 [row ([0,0]:List UInt8),.imm 1 2 [.int .u8 0,.int .u8 0] .full] (.bool true):=fun s v=>
  yJ (args':=[row ([0,0]:List UInt8),row ([0,0]:List UInt8)]) ⟨Weak.refl _,Weak.row (l:=([0,0]:List UInt8)) (yh.refl _) rfl,trivial⟩ (by have h:=zfL (a:=([0,0]:List UInt8)) (b:=[0,0]) (by simp) s v;simpa using h)
 have e00:zb 0++zb c.now=[0,0]:=by rw[hnow];simp[zb,yM]
 obtain⟨T,hT⟩:∃ T,yx 0 g c=⟨1,zb 0++zb c.now⟩ :: T:=⟨_,rfl⟩
 rw[e00] at hT
 have hl6:(yx 0 g c).length=6:=rfl
 have hx:(nth (yx 0 g c) 0).body=[0,0]:=by rw[hT];rfl
 clear hinv hsh hb hc he hT e00 hmy hp hnow
 have h1':=h1
 simp only[Prog.lv,Cor.lv,List.cons_append,List.nil_append] at hmk
 generalize yx 0 g c=S at *
 refine ac0 Tryz.func13 Tryz.ntmps13 ?_
 have hrs:Tryz.f13.results = #[.tmp 0]:=rfl
 repeat' (first|(with_reducible first|refine uk ?_|refine wk ?_ ?_<;>intro _|refine And.intro ?_ ?_|refine zg hmk (fun v1 hv1=>?_)|refine zg h2 (fun v2 hv2=>?_)|refine zg h1 (fun v3 hv3=>?_)|refine zc hs ?_)|simp -implicitDefEqProofs(disch:=first|assumption|omega)[*])
 all_goals first|exact Ends.eqat rfl (by simp) (hv1.trans (hv2.trans hv3))
@[simp] def P4:Nat→Plan
 | 6=>(.qs [0,2] (.w 1 [] (.qs [3,4,5,6,7,8,9,10,11,12,14,15] (.w 13 [15,14] (.w 16 [] (.qs [17,18] .nil))))))
 | _=>.nil
theorem zgZ {e:Int}{p:Prog}{c:Cor}(hmy:mayP p=true)(hsh:wR e p c=true):(Qr 3 (yx e p c)).length≤9223372036854775807:=by
 have hwl:=QY hmy
 have q1:∀ x∈yx e p c,x.body.length≤500000:=by
  obtain⟨hc,he⟩:=uZ (uK hmy) hsh
  exact QR hc.w he.2 hc.now.2 (by omega)
 have q2:=wT (f:=fun s:Sec=>vO s.body) (m:=500004) (l:=yx e p c) fun x hx=>by have:=q1 x hx;rw[Kg];omega
 have q3:=wT (f:=secH) (m:=10) (l:=yx e p c) fun x hx=>by have:=q1 x hx;have:=zq (n:=(x.body.length:Int)) (by omega);simp only[secH,List.length_cons];omega
 have q4:(yx e p c).length=6:=rfl
 have q5:=zq (n:=((yx e p c).length:Int)) (by omega)
 unfold Qr Kn
 rw[Kg]
 simp only[List.length_append,List.length_cons,List.length_nil]
 omega
set_option maxHeartbeats 4000000 in
theorem zbg {p:Prog}{l:List Int}{what at_ n:Int}(h:Qj p)(hl:wB I64 l)(h1:I64 what)(h2:I64 at_):zG Tryz.prog 4 [.agg p.lv,row l,.int .i64 what,.int .i64 at_,.int .i64 n] (.bool true):=by
 have hmk:=zbO h hl (e:=5) (by constructor<;>omega)
 rw[show zA 5 1000=5 by decide] at hmk
 have hmy:=YN p
 have hp:=uK hmy
 generalize good p=g at *
 have hmay:=zgv hp hmy
 have hinv:=JS hp (QB hp) (l.take 80)
 generalize (xG g (ye g) (l.take 80)).1=c0 at *
 have hs0:=hinv.size hp
 clear hinv
 have ht1:=zkv (x:=⟨3,5,g,c0⟩) (n:=n) hs0 (by omega) h1 h2
 have hg1:(Ku ⟨3,5,g,c0⟩ what at_ n).p=g:=rfl
 have hs1:SizeC (Ku ⟨3,5,g,c0⟩ what at_ n).c 1:=zeH hs0 _ _ _
 generalize Ku ⟨3,5,g,c0⟩ what at_ n=Y at *
 obtain⟨vy,ey,g',cy⟩:=Y
 obtain rfl:g=g':=hg1.symm
 have hby:=zhv hs1.up
 simp only at hby
 have hlv:=zfH
 have hshp:=ziY (ver:=vy) (e:=ey) hp hmay hby
 have hish:=Jh (ver:=vy) (e:=ey) hmy hby
 rw[QT] at hish
 have hs17:=zfA (p:=g) (q:=g) (c:=cy) (d:=c0) (v1:=vy) (e1:=ey) (v2:=3) (e2:=5) (QF hmy) hby
 have his:=zke (p:=g) (q:=g) (c:=cy) (d:=c0) (v1:=vy) (e1:=ey) (v2:=3) (e2:=5) (QF hmy) hby
 have hwn:=zfJ (ver:=vy) (ep:=ey) hmy hby
 have hwy:=zhh (ver:=vy) (ep:=ey) hmy hby
 have hrw:wR ey g cy=true→zG Tryz.prog 19 _ _:=fun hsk=>zej (ver:=vy) (ep:=ey) hmy (uZ hp hsk).1.w (uZ hp hsk).2.2 (uZ hp hsk).1.now.2 (by have:=QY hmy;omega)
 have hsm:wR ey g cy=true→zM Tryz.prog 15 [row (Qr 3 (yx ey g cy)),row (Qr 3 (yx ey g cy))] (.bool true):=fun hsk=>by
  have:=zfL (a:=Qr 3 (yx ey g cy)) (b:=Qr 3 (yx ey g cy)) (zgZ hmy hsk)
  rwa [decide_eq_true rfl] at this
 clear hg1 hs0 hs1 hmay hby hmy hp
 generalize decide ((⟨vy,ey,g,cy⟩:Img)=⟨3,5,g,c0⟩)=b at *
 generalize Qr 3 (yx ey g cy)=F at *
 generalize wR ey g cy=sk at *
 simp only[Img.lv,Prog.lv,Cor.lv,List.cons_append,List.nil_append] at hmk ht1 ⊢
 refine .of fun s v=>?_
 cases sk
 ·replace hwn:=hwn (.inr rfl)
  clear hwy hrw hsm
  cases b
  all_goals
   refine ac0 Tryz.func4 Tryz.ntmps4 ?_
   have hrs:Tryz.f4.results = #[.tmp 10]:=rfl
   repeat' (first|(with_reducible first|refine uk ?_|refine wk ?_ ?_<;>intro _|(refine dr P4 mixed ?_ ?_ ?_;kernel_rfl;kernel_rfl)|refine And.intro ?_ ?_|refine zg hmk (fun v1 hv1=>?_)|refine zg ht1 (fun v2 hv2=>?_)|refine zc hshp ?_|refine zg hwn (fun v3 hv3=>?_)|refine zg hish (fun v4 hv4=>?_)|refine zg his (fun v5 hv5=>?_)|refine zc hs17 ?_|refine zg hlv (fun w1 hw1=>?_))|simp -implicitDefEqProofs(disch:=first|assumption|omega)[*])
   all_goals exact Ends.eqat rfl (by simp) (by repeat' (first|exact List.prefix_refl _|assumption|refine List.IsPrefix.trans ?_ (by assumption)))
 by_cases hv:vy=3
 ·replace hwy:=hwy hv rfl
  replace hrw:=hrw rfl
  replace hsm:=hsm rfl
  clear hwn
  subst hv
  cases b
  all_goals
   refine ac0 Tryz.func4 Tryz.ntmps4 ?_
   have hrs:Tryz.f4.results = #[.tmp 10]:=rfl
   repeat' (first|(with_reducible first|refine uk ?_|refine wk ?_ ?_<;>intro _|(refine dr P4 mixed ?_ ?_ ?_;kernel_rfl;kernel_rfl)|refine And.intro ?_ ?_|refine zg hmk (fun v1 hv1=>?_)|refine zg ht1 (fun v2 hv2=>?_)|refine zc hshp ?_|refine zg hwy (fun v3 hv3=>?_)|refine zg hish (fun v4 hv4=>?_)|refine zg his (fun v5 hv5=>?_)|refine zc hs17 ?_|refine zg hrw (fun v6 hv6=>?_)|refine zc hsm ?_|refine zg hlv (fun w1 hw1=>?_))|simp -implicitDefEqProofs(disch:=first|assumption|omega)[*])
   all_goals exact Ends.eqat rfl (by simp) (by repeat' (first|exact List.prefix_refl _|assumption|refine List.IsPrefix.trans ?_ (by assumption)))
 ·replace hwn:=hwn (.inl hv)
  clear hwy hrw hsm
  cases b
  all_goals
   refine ac0 Tryz.func4 Tryz.ntmps4 ?_
   have hrs:Tryz.f4.results = #[.tmp 10]:=rfl
   repeat' (first|(with_reducible first|refine uk ?_|refine wk ?_ ?_<;>intro _|(refine dr P4 mixed ?_ ?_ ?_;kernel_rfl;kernel_rfl)|refine And.intro ?_ ?_|refine zg hmk (fun v1 hv1=>?_)|refine zg ht1 (fun v2 hv2=>?_)|refine zc hshp ?_|refine zg hwn (fun v3 hv3=>?_)|refine zg hish (fun v4 hv4=>?_)|refine zg his (fun v5 hv5=>?_)|refine zc hs17 ?_|refine zg hlv (fun w1 hw1=>?_))|simp -implicitDefEqProofs(disch:=first|assumption|omega)[*])
   all_goals exact Ends.eqat rfl (by simp) (by repeat' (first|exact List.prefix_refl _|assumption|refine List.IsPrefix.trans ?_ (by assumption)))
end Go.Hb
end
