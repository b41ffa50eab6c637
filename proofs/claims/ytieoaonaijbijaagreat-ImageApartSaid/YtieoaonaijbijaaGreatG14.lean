/-
  A layer for reasoning about the program's calls, and contracts of its functions. CONDITIONS: none; each theorem bears its own.
-/
import Derived.Test.YtieoaonaijbijaaGreatG13
import Derived.Test.YtieoaonaijbijaaGreatG06
import Derived.Test.YtieoaonaijbijaaGreatG11
import Derived.Shelf.Sort.Plain
import Derived.Ground.Names2Prog
set_option linter.unusedVariables false
set_option linter.unusedSimpArgs false
section
namespace Go.Hb
open Go Go.Proofs Go.RowKit
set_option maxRecDepth 100000
set_option maxHeartbeats 800000
attribute [-simp] aC aL aOper aThen aInBlock aIf aPlan aAppend aLen aIndexAddr aSlice aCells aBounds lBr aq initT aev aAppendOwn aAppendNil aAppendNew aAppendRef LV.cells LV.cellsOk getElem?_pos getElem?_neg
set_option maxHeartbeats 8000000 in
theorem cmay_p {fs:List Fn_} {mu th:Int} {co se ch:List Int} {cho:List (List Int)} (h1:fs.length≤9223372036854775807) (h2:co.length≤9223372036854775807) (h3:se.length≤9223372036854775807) (h4:ch.length≤9223372036854775807) (h5:cho.length≤9223372036854775807) (hmu:I64 mu)
  (hc:ch.length≤8→∀ k,k<cho.length→PureC Tryz.prog 129 [.agg [row fs,.int .i64 mu,row co,row se,row ch,row cho,.int .i64 th],row (nth cho k)] (.bool (mayCh ⟨fs,mu,co,se,ch,cho,th⟩ (nth cho k)))) :
  PureC Tryz.prog 44 [.agg [row fs,.int .i64 mu,row co,row se,row ch,row cho,.int .i64 th]] (.bool (mayP ⟨fs,mu,co,se,ch,cho,th⟩)):=by
 refine .of fun s v=>?_
 obtain⟨hm1,hm2⟩:=hmu
 have w5:PureC Tryz.prog 126 [.int .i64 8,.imm 1 5 [.int .i64 mu,.int .i64 co.length,.int .i64 se.length,.int .i64 ch.length,.int .i64 cho.length] .full] (.bool (allTo [mu,co.length,se.length,ch.length,cho.length] 8)):=
  fun s v=>aCalls_argw (args':=[.int .i64 8,row [mu,(co.length:Int),(se.length:Int),(ch.length:Int),(cho.length:Int)]]) (by simp;exact Weak.cells (Weaks.refl _)) (within_p (by simp) s v)
 have hmp:mayP ⟨fs,mu,co,se,ch,cho,th⟩=(decide (1≤fs.length) && decide (fs.length≤16) && allTo [mu,co.length,se.length,ch.length,cho.length] 8 && decide (1≤th) && decide (th≤32) && allTo co (mu - 1) && allTo se 100 && allTo ch 8
   && !(cho.any fun l=> !mayCh ⟨fs,mu,co,se,ch,cho,th⟩ l) && !(fs.any fun f=> !mayF ⟨fs,mu,co,se,ch,cho,th⟩ f)):=by
  have e1:(!(cho.any fun l=> !mayCh ⟨fs,mu,co,se,ch,cho,th⟩ l))=cho.all (mayCh ⟨fs,mu,co,se,ch,cho,th⟩):=by rw [List.not_any_eq_all_not];simp
  have e2:(!(fs.any fun f=> !mayF ⟨fs,mu,co,se,ch,cho,th⟩ f))=fs.all (mayF ⟨fs,mu,co,se,ch,cho,th⟩):=by rw [List.not_any_eq_all_not];simp
  rw [e1,e2]
  have e3:allTo [mu,(co.length:Int),(se.length:Int),(ch.length:Int),(cho.length:Int)] 8=(decide (0≤mu) && decide (mu≤8) && decide (co.length≤8) && decide (se.length≤8) && decide (ch.length≤8) && decide (cho.length≤8)):=by
   rw [Bool.eq_iff_iff];simp [allTo];omega
  rw [e3]
  unfold mayP
  generalize cho.all (mayCh ⟨fs,mu,co,se,ch,cho,th⟩)=x1
  generalize fs.all (mayF ⟨fs,mu,co,se,ch,cho,th⟩)=x2
  generalize allTo co (mu - 1)=x3
  generalize allTo se 100=x4
  generalize allTo ch 8=x5
  simp only [Bool.and_assoc]
 rw [hmp]
 have wc:=fun (hm:0≤mu)=>within_p (l:=co) (most:=mu - 1) h2
 have ws:=within_p (l:=se) (most:=100) h3
 have wh:=within_p (l:=ch) (most:=8) h4
 have c2:=containsFunc_fn (l:=fs) (p:=fun f=> !mayF ⟨fs,mu,co,se,ch,cho,th⟩ f) (g:=131) (ca:=[.ptr s.length 0]) (s:=s++[.cells [row fs,.int .i64 mu,row co,row se,row ch,row cho,.int .i64 th]]) h1 (fun k hk=>may2_r (by simp [get_app0]) _)
 clear hmp
 by_cases hmn:0≤mu∧ch.length≤8
 ·have c1:=containsFunc_ints (l:=cho) (p:=fun l=> !mayCh ⟨fs,mu,co,se,ch,cho,th⟩ l) (g:=128) (ca:=[.ptr s.length 0]) (s:=s++[.cells [row fs,.int .i64 mu,row co,row se,row ch,row cho,.int .i64 th]]) h5 (fun k hk=>may1_r (by simp [get_app0]) _ (hc hmn.2 k hk))
  have wc:=wc hmn.1
  replace hmn:=hmn.1
  generalize (cho.any fun l=> !mayCh ⟨fs,mu,co,se,ch,cho,th⟩ l)=x1 at *
  generalize (fs.any fun f=> !mayF ⟨fs,mu,co,se,ch,cho,th⟩ f)=x2 at *
  generalize allTo co (mu - 1)=x3 at *
  generalize allTo se 100=x4 at *
  generalize allTo ch 8=x5 at *
  generalize allTo [mu,(co.length:Int),(se.length:Int),(ch.length:Int),(cho.length:Int)] 8=x6 at *
  clear hc
  refine ac0 Tryz.func44 Tryz.ntmps44 ?_
  have hrs:Tryz.f44.results = #[.tmp 2]:=rfl
  cases x6
  all_goals
   repeat' (first|(with_reducible first|refine uk ?_|refine wk ?_ ?_<;>intro _|refine callC w5 (fun v1 hv1=>?_)|refine callC wc (fun v2 hv2=>?_)|refine callC ws (fun v3 hv3=>?_)|refine callC wh (fun v4 hv4=>?_)|refine callR c1 (fun v5 hv5=>?_)|refine callR c2 (fun v6 hv6=>?_))|simp -implicitDefEqProofs(disch:=first|assumption|omega)[*])
  all_goals first|(exfalso;omega)|(refine Ends.eqat ?_ (by simp) (by first|exact List.prefix_refl _|exact hv1|exact hv1.trans hv2|exact(hv1.trans hv2).trans hv3|exact((hv1.trans hv2).trans hv3).trans hv4|exact(((hv1.trans hv2).trans hv3).trans hv4).trans hv5|exact((((hv1.trans hv2).trans hv3).trans hv4).trans hv5).trans hv6);(first|with_reducible rfl|(simp [*, ];done)|(simp [*, ];omega)|(simp only [LV.bool.injEq];rw [Bool.eq_iff_iff];simp [*, ];done)|(simp only [LV.bool.injEq];rw [Bool.eq_iff_iff];simp [*, ];omega)|(simp only [LV.bool.injEq];rw [Bool.eq_iff_iff];simp (disch:=omega) only [if_pos,if_neg,if_true,if_false, *, ];simp<;>omega)|(simp only [LV.bool.injEq,Bool.and_eq_false_imp,Bool.and_eq_true,decide_eq_true_eq];intros;exfalso;omega)|(simp only [LV.bool.injEq,Bool.and_eq_false_imp,Bool.and_eq_true,decide_eq_true_eq];intros;simp_all;done)))
 ·have hx6:allTo [mu,(co.length:Int),(se.length:Int),(ch.length:Int),(cho.length:Int)] 8=false:=by
   unfold allTo;simp;intros;omega
  rw [hx6] at w5 ⊢
  clear wc ws wh c2 hc
  generalize (cho.any fun l=> !mayCh ⟨fs,mu,co,se,ch,cho,th⟩ l)=x1 at *
  generalize (fs.any fun f=> !mayF ⟨fs,mu,co,se,ch,cho,th⟩ f)=x2 at *
  clear hx6
  refine ac0 Tryz.func44 Tryz.ntmps44 ?_
  have hrs:Tryz.f44.results = #[.tmp 2]:=rfl
  repeat' (first|(with_reducible first|refine uk ?_|refine wk ?_ ?_<;>intro _|refine callC w5 (fun v1 hv1=>?_))|simp -implicitDefEqProofs(disch:=first|assumption|omega)[*])
  all_goals first|(exfalso;omega)|(refine Ends.eqat ?_ (by simp) (by first|exact List.prefix_refl _|exact hv1);simp)
theorem wshort_c {s:List AObj} {id B:Nat} {x:LV} {v0 v:List Nat} {bs:List UInt8} {n:Int} (hs:s[id]? = some (.cells [x])) (hx:WAt v0 v bs x B) (hn:n≤9223372036854775807) (hB:B≤90000000) :
  aCalls Tryz.prog 79 [.ptr id 0,.int .i64 n] s v (WPost s id v0 (bs++shortB n) (B+9)):=by
 obtain⟨hx,hb⟩:=hx
 have hid:=(List.getElem?_eq_some_iff.1 hs).1
 have hlen:=shortB_len hn
 obtain⟨m,hm⟩:∃ m:Nat,m=n.toNat:=⟨_,rfl⟩
 have hmx:(if n<0 then (0:Int) else n)=(m:Int):=by split<;>omega
 have hsb:shortB n=shortN m:=by unfold shortB;rw [hm]
 rw [hsb] at hlen ⊢
 have hset:∀ a b,(s.set id a).set id b=s.set id b:=fun a b=>by simp
 have hget:∀ a,(s.set id a)[id]? = some a:=fun a=>by simp [hid]
 have hs0:s=s.set id (.cells [x]):=by
  apply List.ext_getElem?
  intro i
  by_cases e:id=i
  ·subst e;rw [hget,hs]
  ·rw [List.getElem?_set_ne e]
 rw [hs0]
 refine aCalls_mono (R:=fun _ s' v'=>∃ x',s'=s.set id (.cells [x'])∧WAt v0 v' (bs++shortN m) x' (B+9)) ?_ fun _ _ _ ⟨x',e1,e2⟩=>⟨x',by rw [hset];exact e1,e2⟩
 clear hs0 hs hm
 refine ac0 Tryz.func79 Tryz.ntmps79 ?_
 have hrs:Tryz.f79.results = #[]:=rfl
 repeat' (first|(with_reducible first|refine uk ?_|refine wk ?_ ?_<;>intro _)|simp -implicitDefEqProofs(disch:=first|assumption|omega)[*])
 refine aW_fall (β:=Nat × LV × List UInt8 × List Nat) false (fun p=>p.2.2.1++shortN p.1=bs++shortN m∧GroE v0 p.2.2.2 p.2.2.1 p.2.1∧p.1≤9223372036854775807) (fun p=>p.1) (fun p=>[(1,.int .i64 p.1),(6,.any),(7,.any),(10,.any),(11,.any),(12,.any),(13,.any),(14,.any),(15,.any),(16,.any),(17,.any),(18,.any),(19,.any),(20,.any),(21,.any),(8,.any),(9,.any)]) (fun p=>s.set id (.cells [p.2.1])) (fun p=>p.2.2.2) ?_ ?_
 ·exact⟨(m,x,bs,v),⟨rfl,hx,by omega⟩,fz0,rfl,rfl⟩
 rintro ⟨q,x,cs,v⟩ ⟨he,hx,hq⟩
 simp only at he hx hq
 have hxc:=hx.gro.cells
 have hcl:cs.length+(shortN q).length≤B+9:=by
  have:=congrArg List.length he
  simp only [List.length_append] at this
  omega
 have hidu:∀ a,id<(s.set id a).length:=fun a=>by simpa using hid
 by_cases h128:q<128
 ·have hsq:shortN q=[UInt8.ofNat q]:=by rw [shortN];simp [h128]
  rw [hsq] at he hcl
  simp only [List.length_cons,List.length_nil] at hcl
  obtain⟨x',v',hx',_,ha⟩:=GroE.push (P:=Tryz.prog) (t:=36) (t2:=36) (sz:=1) (by_:=1) (by kernel_rfl) rfl (by omega) hx (UInt8.ofNat q) (by omega)
  simp only [enc_u8] at ha
  have hxc':=hx'.gro.cells
  obtain⟨z,hz⟩:∃ z:Int,z=((UInt8.ofNat q).toNat:Int):=⟨_,rfl⟩
  obtain⟨hz1,hz2⟩:=u8_z hz
  rw [← hz] at ha
  clear hz
  repeat' (first|(with_reducible first|refine uk ?_|refine wk ?_ ?_<;>intro _)|simp -implicitDefEqProofs(disch:=first|assumption|omega)[*])
  all_goals first|(exfalso;omega)|skip
  exact⟨x',rfl,by show GroE v0 v' _ x';rw [← he];exact hx',by rw [← he];simp only [List.length_append,List.length_cons,List.length_nil];omega⟩
 ·have hsq:shortN q=UInt8.ofNat (128+q % 128) :: shortN (q / 128):=by rw [shortN];simp [h128]
  rw [hsq] at he hcl
  obtain⟨x',v',hx',_,ha⟩:=GroE.push (P:=Tryz.prog) (t:=36) (t2:=36) (sz:=1) (by_:=1) (by kernel_rfl) rfl (by omega) hx (UInt8.ofNat (128+q % 128)) (by simp at hcl;omega)
  simp only [enc_u8] at ha
  have hxc':=hx'.gro.cells
  obtain⟨z,hz⟩:∃ z:Int,z=((UInt8.ofNat (128+q % 128)).toNat:Int):=⟨_,rfl⟩
  have hz1:=u8_or1 q
  have hz2:=u8_or2 q
  rw [← hz] at ha hz1 hz2
  clear hz
  repeat' (first|(with_reducible first|refine uk ?_|refine wk ?_ ?_<;>intro _)|simp -implicitDefEqProofs(disch:=first|assumption|omega)[*])
  all_goals first|(exfalso;omega)|skip
  refine⟨(q / 128,x',cs++[UInt8.ofNat (128+q % 128)],v'),by show q / 128<q;omega,⟨by simpa using he,hx',by show q / 128≤_;omega⟩,?_,rfl,rfl⟩
  (refine Fits.of ?_ ?_;rotate_left;(repeat (first|with_reducible exact Off.refl _ _|refine Off.upd rfl ?_|refine Off.updO rfl ?_|refine Off.upds rfl ?_));simp [upd_apply,upds_cons])
  all_goals exact Int.fdiv_eq_ediv_of_nonneg _ (by decide)
theorem wraw_c {s:List AObj} {id B:Nat} {x:LV} {v0 v:List Nat} {bs:List UInt8} {b:UInt8} {z:Int} {r:Right} (hs:s[id]? = some (.cells [x])) (hx:WAt v0 v bs x B) (hz:z=(b.toNat:Int)) (hB:B≤90000000) :
  aCalls Tryz.prog 116 [.ptr id 0,.imm 1 1 [.int .u8 z] r] s v (WPost s id v0 (bs++[b]) (B+1)):=by
 obtain⟨hx,hb⟩:=hx
 have hid:=(List.getElem?_eq_some_iff.1 hs).1
 have hxc:=hx.gro.cells
 obtain⟨x',v',hx',_,ha⟩:=GroE.push (P:=Tryz.prog) (t:=36) (t2:=36) (sz:=1) (by_:=1) (by kernel_rfl) rfl (by omega) hx b (by omega)
 simp only [enc_u8] at ha
 have hxc':=hx'.gro.cells
 rw [← hz] at ha
 clear hz
 refine ac0 Tryz.func116 Tryz.ntmps116 ?_
 have hrs:Tryz.f116.results = #[]:=rfl
 repeat' (first|(with_reducible first|refine uk ?_|refine wk ?_ ?_<;>intro _)|simp -implicitDefEqProofs(disch:=first|assumption|omega)[*])
 exact⟨x',rfl,hx',by simp only [List.length_append,List.length_cons,List.length_nil];omega⟩
theorem wsigned_c {s:List AObj} {id B:Nat} {x:LV} {v0 v:List Nat} {bs:List UInt8} {n:Int} (hs:s[id]? = some (.cells [x])) (hx:WAt v0 v bs x B) (hB:B≤90000000) :
  aCalls Tryz.prog 88 [.ptr id 0,.int .i64 n] s v (WPost s id v0 (bs++signedB n) (B+9)):=by
 have hid:=(List.getElem?_eq_some_iff.1 hs).1
 by_cases h1:n < -2305843009213693952
 ·have hsb:signedB n=shortB 4611686018427387903:=by unfold signedB;simp [h1]
  rw [hsb]
  refine ac0 Tryz.func88 Tryz.ntmps88 ?_
  have hrs:Tryz.f88.results = #[]:=rfl
  repeat' (first|(with_reducible first|refine uk ?_|refine wk ?_ ?_<;>intro _|refine callW (wshort_c (x:=x) (by assumption) hx (by omega) (by omega)) (fun y x v hx=>?_))|simp -implicitDefEqProofs(disch:=first|assumption|omega)[*])
  exact⟨_,rfl,hx⟩
 by_cases h2:2305843009213693951<n
 ·have hsb:signedB n=shortB 4611686018427387902:=by unfold signedB;simp [h1,h2]
  rw [hsb]
  refine ac0 Tryz.func88 Tryz.ntmps88 ?_
  have hrs:Tryz.f88.results = #[]:=rfl
  repeat' (first|(with_reducible first|refine uk ?_|refine wk ?_ ?_<;>intro _|refine callW (wshort_c (x:=x) (by assumption) hx (by omega) (by omega)) (fun y x v hx=>?_))|simp -implicitDefEqProofs(disch:=first|assumption|omega)[*])
  exact⟨_,rfl,hx⟩
 by_cases h3:n<0
 ·have hsb:signedB n=shortB (2 * -(n+1)+1):=by unfold signedB;simp [h1,h2,h3]
  rw [hsb]
  refine ac0 Tryz.func88 Tryz.ntmps88 ?_
  have hrs:Tryz.f88.results = #[]:=rfl
  repeat' (first|(with_reducible first|refine uk ?_|refine wk ?_ ?_<;>intro _|refine callW (wshort_c (x:=x) (by assumption) hx (by omega) (by omega)) (fun y x v hx=>?_))|simp -implicitDefEqProofs(disch:=first|assumption|omega)[*])
  all_goals exact⟨_,rfl,hx⟩
 ·have hsb:signedB n=shortB (2*n):=by unfold signedB;simp [h1,h2,h3]
  rw [hsb]
  refine ac0 Tryz.func88 Tryz.ntmps88 ?_
  have hrs:Tryz.f88.results = #[]:=rfl
  repeat' (first|(with_reducible first|refine uk ?_|refine wk ?_ ?_<;>intro _|refine callW (wshort_c (x:=x) (by assumption) hx (by omega) (by omega)) (fun y x v hx=>?_))|simp -implicitDefEqProofs(disch:=first|assumption|omega)[*])
  all_goals exact⟨_,rfl,hx⟩
theorem wclone_c {bs:List UInt8} {r:Right} (hne:bs.length≠0) (hb:bs.length≤90000000) :
  PureC Tryz.prog 174 [.imm 1 bs.length (rowCs bs) r] (row bs):=by
 refine .of fun s v=>?_
 obtain⟨x',v',hx',_,ha⟩:=GroC.app (P:=Tryz.prog) (t:=36) (t2:=36) (sz:=1) (by_:=1) (v0:=v) (v:=v) (n:=0) (m:=bs.length) (cs:=[]) (ds:=rowCs bs) (x:=.imm 1 0 [] .full) (by kernel_rfl) ⟨List.prefix_refl _,.inl ⟨rfl,rfl,.inr rfl⟩⟩ (fun h=>absurd h hne) (by unfold maxLen;omega) (by omega)
 replace ha:=fun s=>ha (.imm 1 bs.length (rowCs bs) r) s (by simp [aCells])
 have hg:GroE v v' bs x':=by unfold GroE;simpa using hx'
 have hu:=hg.gro.under s.length
 refine ac0 Tryz.func174 Tryz.ntmps174 ?_
 have hrs:Tryz.f174.results = #[.tmp 2]:=rfl
 repeat' (first|(with_reducible first|refine uk ?_|refine wk ?_ ?_<;>intro _)|simp -implicitDefEqProofs(disch:=first|assumption|omega)[*])
 exact Ends.same hu hg.gro.weak hg.1
theorem wbytes_c {s:List AObj} {id B:Nat} {x:LV} {v0 v:List Nat} {bs:List UInt8} (hs:s[id]? = some (.cells [x])) (hx:WAt v0 v bs x B) (hne:bs.length≠0) (hB:B≤90000000) :
  aCalls Tryz.prog 118 [.ptr id 0] s v fun y s' v'=>row bs=y∧s=s'∧v <+: v':=by
 obtain⟨hx,hb⟩:=hx
 have hid:=(List.getElem?_eq_some_iff.1 hs).1
 obtain⟨g,e,_,rfl,_⟩:=hx.2.resolve_left (fun h=>hne h.1)
 have hc:=wclone_c (bs:=bs) (r:=.tip g e) hne (by omega)
 simp only [show Enc.sz UInt8=1 from rfl] at hs
 refine aCalls_ends ?_
 refine ac0 Tryz.func118 Tryz.ntmps118 ?_
 have hrs:Tryz.f118.results = #[.tmp 2]:=rfl
 repeat' (first|(with_reducible first|refine uk ?_|refine wk ?_ ?_<;>intro _|refine callC hc (fun v2 hv2=>?_))|simp -implicitDefEqProofs(disch:=first|assumption|omega)[*])
 exact Ends.eq rfl (by simp) hv2
theorem wlist_c {l:List Int} {s:List AObj} {id B:Nat} {x:LV} {v0 v:List Nat} {bs:List UInt8} (hs:s[id]? = some (.cells [x])) (hx:WAt v0 v bs x B) (hl:∀ k<l.length,nth l k≤9223372036854775807) (hll:l.length≤1000) (hB:B≤80000000) :
  aCalls Tryz.prog 191 [row l,.ptr id 0] s v (WPost s id v0 (bs++listB l) (B+9+9*l.length)):=by
 have hid:=(List.getElem?_eq_some_iff.1 hs).1
 refine ac0 Tryz.func191 Tryz.ntmps191 ?_
 have hrs:Tryz.f191.results = #[]:=rfl
 repeat' (first|(with_reducible first|refine uk ?_|refine wk ?_ ?_<;>intro _|refine callW (wshort_c (x:=x) (by assumption) hx (by omega) (by omega)) (fun y x v hx=>?_))|simp -implicitDefEqProofs(disch:=first|assumption|omega)[*])
 refine aWl_for (β:=LV × List Nat) false l.length (fun k p=>WAt v0 p.2 (bs++shortB l.length++(l.take k).flatMap shortB) p.1 (B+9+9*k)) (fun k p=>[(10,.int .i64 k),(11,.any),(12,.any),(13,.any),(4,.any),(14,.any),(15,.any),(16,.any)]) (fun _ p=>s.set id (.cells [p.1])) (fun _ p=>p.2) ?_ ?_
 ·exact⟨(x,v),by simpa using hx,fz0,rfl,rfl⟩
 rintro k ⟨x,v⟩ hk hx
 simp only at hx
 have hidu:∀ a,(s.set id a)[id]? = some a:=fun a=>by simp [hid]
 have hset:∀ a b,(s.set id a).set id b=s.set id b:=fun a b=>by simp
 by_cases hlt:k<l.length
 ·have hn:=hl k hlt
  repeat' (first|(with_reducible first|refine uk ?_|refine wk ?_ ?_<;>intro _|refine callW (wshort_c (x:=x) (hidu _) hx (by omega) (by omega)) (fun y x v hx=>?_))|simp -implicitDefEqProofs(disch:=first|assumption|omega)[*])
  refine⟨hlt,(x,v),?_,fz,by simp,rfl⟩
  have e:B+9+9*k+9=B+9+9*(k+1):=by omega
  rw [e] at hx
  simpa [take_succ_nth hlt] using hx
 ·have:k=l.length:=by omega
  subst this
  repeat' (first|(with_reducible first|refine uk ?_|refine wk ?_ ?_<;>intro _)|simp -implicitDefEqProofs(disch:=first|assumption|omega)[*])
  exact⟨x,rfl,by simpa [listB] using hx⟩
theorem u8_ofInt (z:Int):((UInt8.ofInt z).toNat:Int)=z % 256:=by
 unfold UInt8.ofInt
 simp
 omega
theorem u8_wrapI (z:Int):IntKind.u8.wrap z=z % 256:=by
 simp [IntKind.wrap,IntKind.signed,IntKind.bits]
theorem u8_op (z:Int):IntKind.u8.wrap z=((UInt8.ofInt z).toNat:Int):=by rw [u8_ofInt,u8_wrapI]
theorem u8_op2 (z:Int):z % 256=((UInt8.ofInt z).toNat:Int):=by rw [u8_ofInt]
theorem callV {P:Program} {f:FuncId} {args:List LV} {s:List AObj} {v:List Nat} {y:LV} {K:LV→List AObj→List Nat→Prop} (h:aCalls P f args s v fun x s' v'=>y=x∧s=s'∧v <+: v') (k:∀ v',v <+: v'→K y s v'):aCalls P f args s v K:=
 aCalls_mono h fun x s' v' ⟨e1,e2,e3⟩=>by subst e1;subst e2;exact k v' e3
theorem shortB_pos (n:Int):0<(shortB n).length:=by unfold shortB;rw [shortN];split<;>simp
theorem WAt.up {v0 v:List Nat} {bs:List UInt8} {x:LV} {B B':Nat} (h:WAt v0 v bs x B) (hb:B≤B'):WAt v0 v bs x B':=⟨h.1,Nat.le_trans h.2 hb⟩
theorem WAt.eq {v0 v:List Nat} {bs bs':List UInt8} {x:LV} {B B':Nat} (h:WAt v0 v bs x B) (e:bs=bs') (hb:B≤B'):WAt v0 v bs' x B':=by subst e;exact h.up hb
theorem mayCh_facts {p:Prog} {l:List Int} (h:mayCh p l=true) (hc:p.chans.length≤8):l.length≤8∧∀ k<l.length,nth l k≤9223372036854775807:=by
 unfold mayCh allTo at h
 simp only [Bool.and_eq_true,decide_eq_true_eq,List.all_eq_true] at h
 obtain⟨⟨⟨h1,_⟩,_⟩,h2⟩:=h
 refine⟨h2,fun k hk=>?_⟩
 rw [nth_eq hk]
 have:=(h1 _ (List.getElem_mem hk)).2
 omega
theorem allTo_facts {l:List Int} {to:Int} (h:allTo l to=true) (ht:to≤1000):∀ k<l.length,nth l k≤9223372036854775807:=by
 unfold allTo at h
 simp only [Bool.and_eq_true,decide_eq_true_eq,List.all_eq_true] at h
 intro k hk
 rw [nth_eq hk]
 have:=(h _ (List.getElem_mem hk)).2
 omega
set_option maxHeartbeats 8000000 in
theorem cwrite_p {fs:List Fn_} {mu th:Int} {co se ch:List Int} {cho:List (List Int)} (hm:PureC Tryz.prog 44 [.agg [row fs,.int .i64 mu,row co,row se,row ch,row cho,.int .i64 th]] (.bool true)) (hp:mayP ⟨fs,mu,co,se,ch,cho,th⟩=true) :
  PureC Tryz.prog 76 [.agg [row fs,.int .i64 mu,row co,row se,row ch,row cho,.int .i64 th]] (.tup [row (writeP ⟨fs,mu,co,se,ch,cho,th⟩),.int .i64 0]):=by
 obtain⟨q1,q2,q3,q4,q5,q6,q7,q8,q9,q10,q11,q12,q13,q14⟩:fs.length≤16∧mu≤8∧co.length≤8∧se.length≤8∧ch.length≤8∧cho.length≤8∧th≤32∧(∀ k<co.length,nth co k≤9223372036854775807)∧(∀ k<se.length,nth se k≤9223372036854775807)∧(∀ k<ch.length,nth ch k≤9223372036854775807)∧(∀ k<cho.length,(nth cho k).length≤8)∧(∀ k<cho.length,∀ j<(nth cho k).length,nth (nth cho k) j≤9223372036854775807)∧(∀ k<fs.length,(nth fs k).locals≤8)∧(∀ k<fs.length,(nth fs k).code.length≤64):=by
  unfold mayP at hp
  simp only [Bool.and_eq_true,decide_eq_true_eq] at hp
  obtain⟨⟨⟨⟨⟨⟨⟨⟨⟨⟨⟨⟨⟨⟨p1,p2⟩,p3⟩,p4⟩,p5⟩,p6⟩,p7⟩,p8⟩,p9⟩,p10⟩,p11⟩,p12⟩,p13⟩,p14⟩,p15⟩:=hp
  refine⟨p2,p4,p5,p6,p7,p8,p10,allTo_facts p11 (by omega),allTo_facts p12 (by omega),allTo_facts p13 (by omega),fun k hk=>?_,fun k hk=>?_,fun k hk=>?_,fun k hk=>?_⟩
  ·rw [nth_eq hk];exact(mayCh_facts (List.all_eq_true.1 p14 _ (List.getElem_mem hk)) p7).1
  ·rw [nth_eq hk];exact(mayCh_facts (List.all_eq_true.1 p14 _ (List.getElem_mem hk)) p7).2
  ·have:=List.all_eq_true.1 p15 _ (List.getElem_mem hk)
   unfold mayF at this
   simp only [Bool.and_eq_true,decide_eq_true_eq] at this
   rw [nth_eq hk];omega
  ·have:=List.all_eq_true.1 p15 _ (List.getElem_mem hk)
   unfold mayF at this
   simp only [Bool.and_eq_true,decide_eq_true_eq] at this
   rw [nth_eq hk];omega
 clear hp
 refine .of fun s v=>?_
 refine ac0 Tryz.func76 Tryz.ntmps76 ?_
 have hrs:Tryz.f76.results = #[.tmp 2,.tmp 3]:=rfl
 repeat' (first|(with_reducible first|refine uk ?_|refine wk ?_ ?_<;>intro _|refine callC hm (fun v1 hv1=>?_))|simp -implicitDefEqProofs(disch:=first|assumption|omega)[*])
 have hx:WAt v1 v1 [] .nils 0:=⟨GroE.nil _,by simp⟩
 repeat' (first|(with_reducible first|refine uk ?_|refine wk ?_ ?_<;>intro _|refine callW (wshort_c (by simp [get_app]) hx (by omega) (by omega)) (fun y x v hx=>?_)|refine callW (wlist_c (by simp [get_app]) hx (by assumption) (by omega) (by omega)) (fun y x v hx=>?_))|simp -implicitDefEqProofs(disch:=first|assumption|omega)[*])
 refine aW_for (β:=LV × List AObj × List Nat) true fs.length (fun k p=>WAt v1 p.2.2 (shortB fs.length++(fs.take k).flatMap fnB) p.1 (9+700*k)) (fun k p=>[(23,.int .i64 k),(24,.any),(25,.any),(26,.any),(7,.any),(27,.any),(28,.any),(29,.any),(30,.any),(31,.any),(32,.any),(33,.any),(34,.any),(35,.any),(36,.any),(37,.any),(38,.any),(39,.any),(40,.any),(9,.any),(41,.any),(42,.any),(43,.any),(44,.any),(45,.any),(46,.any),(47,.any),(48,.any),(49,.any),(50,.any)]) (fun _ p=>s++(.cells [row fs,.int .i64 mu,row co,row se,row ch,row cho,.int .i64 th] :: .cells [p.1] :: p.2.1)) (fun _ p=>p.2.2) ?_ ?_
 ·exact⟨(x,[],v),hx.eq (by simp) (by omega),fz0,rfl,rfl⟩
 rintro k ⟨x,J,v⟩ hk hx
 simp only at hx
 by_cases hlt:k<fs.length
 ·have e1:=q13 k hlt
  have e2:=q14 k hlt
  repeat' (first|(with_reducible first|refine uk ?_|refine wk ?_ ?_<;>intro _|refine callW (wshort_c (by simp [get_app]) hx (by omega) (by omega)) (fun y x v hx=>?_)|refine callW (wlist_c (by simp [get_app]) hx (by assumption) (by omega) (by omega)) (fun y x v hx=>?_))|simp -implicitDefEqProofs(disch:=first|assumption|omega)[*])
  refine aWl_for (β:=LV × List AObj × List Nat) true (nth fs k).code.length (fun j p=>WAt v1 p.2.2 (shortB fs.length++(fs.take k).flatMap fnB++(shortB (nth fs k).locals++shortB (nth fs k).code.length++((nth fs k).code.take j).flatMap insB)) p.1 (9+700*k+18+10*j)) (fun j p=>[(37,.int .i64 j),(38,.any),(39,.any),(40,.any),(9,.any),(41,.any),(42,.any),(43,.any),(44,.any),(45,.any),(46,.any),(47,.any),(48,.any),(49,.any)]) (fun _ p=>s++(.cells [row fs,.int .i64 mu,row co,row se,row ch,row cho,.int .i64 th] :: .cells [p.1] :: p.2.1)) (fun _ p=>p.2.2) ?_ ?_
  ·exact⟨(_,_,_),hx.eq (by simp) (by omega),fz0,rfl,rfl⟩
  rintro j ⟨x,J',v⟩ hj hx
  simp only at hx
  by_cases hjl:j<(nth fs k).code.length
  ·repeat' (first|(with_reducible first|refine uk ?_|refine wk ?_ ?_<;>intro _|refine callW (wraw_c (b:=UInt8.ofInt (nth (nth fs k).code j).op) (by simp [get_app]) hx (by first|exact u8_op _|exact u8_op2 _) (by omega)) (fun y x v hx=>?_)|refine callW (wsigned_c (by simp [get_app]) hx (by omega)) (fun y x v hx=>?_))|simp -implicitDefEqProofs(disch:=first|assumption|omega)[*])
   refine⟨hjl,(_,_,_),hx.eq (by simp [take_succ_nth hjl,insB]) (by omega),fz,rfl,rfl⟩
  ·have:j=(nth fs k).code.length:=by omega
   subst this
   repeat' (first|(with_reducible first|refine uk ?_|refine wk ?_ ?_<;>intro _)|simp -implicitDefEqProofs(disch:=first|assumption|omega)[*])
   refine⟨hlt,(_,_,_),hx.eq (by simp [take_succ_nth hlt,fnB]) (by omega),fz,rfl,rfl⟩
 ·have:k=fs.length:=by omega
  subst this
  repeat' (first|(with_reducible first|refine uk ?_|refine wk ?_ ?_<;>intro _|refine callW (wshort_c (by simp [get_app]) hx (by omega) (by omega)) (fun y x v hx=>?_)|refine callW (wlist_c (by simp [get_app]) hx (by assumption) (by omega) (by omega)) (fun y x v hx=>?_))|simp -implicitDefEqProofs(disch:=first|assumption|omega)[*])
  obtain⟨B,hB,hx⟩:∃ B,B≤12000∧WAt v1 v (shortB fs.length++fs.flatMap fnB++shortB mu++listB co++listB se++listB ch++shortB cho.length) x B:=⟨_,by omega,hx.eq (by simp) (Nat.le_refl _)⟩
  refine aW_for (β:=LV × List Nat) false cho.length (fun k p=>WAt v1 p.2 (shortB fs.length++fs.flatMap fnB++shortB mu++listB co++listB se++listB ch++(shortB cho.length++(cho.take k).flatMap listB)) p.1 (B+90*k)) (fun k p=>[(73,.int .i64 k),(74,.any),(75,.any),(76,.any),(11,.any),(77,.any),(78,.any),(79,.any),(80,.any)]) (fun _ p=>s++(.cells [row fs,.int .i64 mu,row co,row se,row ch,row cho,.int .i64 th] :: .cells [p.1] :: J)) (fun _ p=>p.2) ?_ ?_
  ·exact⟨(_,_),hx.eq (by simp) (by omega),fz0,rfl,rfl⟩
  rintro k ⟨x,v⟩ hk hx
  simp only at hx
  by_cases hlt:k<cho.length
  ·have e1:=q11 k hlt
   have e2:=q12 k hlt
   repeat' (first|(with_reducible first|refine uk ?_|refine wk ?_ ?_<;>intro _|refine callW (wshort_c (by simp [get_app]) hx (by omega) (by omega)) (fun y x v hx=>?_)|refine callW (wlist_c (by simp [get_app]) hx (by assumption) (by omega) (by omega)) (fun y x v hx=>?_))|simp -implicitDefEqProofs(disch:=first|assumption|omega)[*])
   refine⟨hlt,(_,_),hx.eq (by simp [take_succ_nth hlt]) (by omega),fz,rfl,rfl⟩
  ·have:k=cho.length:=by omega
   subst this
   have hpos:∀ l:List UInt8,(l++shortB th).length≠0:=fun l=>by rw [List.length_append];have:=shortB_pos th;omega
   repeat' (first|(with_reducible first|refine uk ?_|refine wk ?_ ?_<;>intro _|refine callW (wshort_c (by simp [get_app]) hx (by omega) (by omega)) (fun y x v hx=>?_)|refine callV (wbytes_c (by simp [get_app]) hx (hpos _) (by omega)) (fun v2 hv2=>?_))|simp -implicitDefEqProofs(disch:=first|assumption|omega)[*])
   exact Ends.eqat (by simp [writeP]) (by simp) ((hv1.trans hx.1.1).trans hv2)
theorem mayP_facts {fs:List Fn_} {mu th:Int} {co se ch:List Int} {cho:List (List Int)} (hp:mayP ⟨fs,mu,co,se,ch,cho,th⟩=true):fs.length≤16∧mu≤8∧co.length≤8∧se.length≤8∧ch.length≤8∧cho.length≤8∧th≤32∧(∀ k<co.length,nth co k≤9223372036854775807)∧(∀ k<se.length,nth se k≤9223372036854775807)∧(∀ k<ch.length,nth ch k≤9223372036854775807)∧(∀ k<cho.length,(nth cho k).length≤8)∧(∀ k<cho.length,∀ j<(nth cho k).length,nth (nth cho k) j≤9223372036854775807)∧(∀ k<fs.length,(nth fs k).locals≤8)∧(∀ k<fs.length,(nth fs k).code.length≤64):=by
 unfold mayP at hp
 simp only [Bool.and_eq_true,decide_eq_true_eq] at hp
 obtain⟨⟨⟨⟨⟨⟨⟨⟨⟨⟨⟨⟨⟨⟨p1,p2⟩,p3⟩,p4⟩,p5⟩,p6⟩,p7⟩,p8⟩,p9⟩,p10⟩,p11⟩,p12⟩,p13⟩,p14⟩,p15⟩:=hp
 refine⟨p2,p4,p5,p6,p7,p8,p10,allTo_facts p11 (by omega),allTo_facts p12 (by omega),allTo_facts p13 (by omega),fun k hk=>?_,fun k hk=>?_,fun k hk=>?_,fun k hk=>?_⟩
 ·rw [nth_eq hk];exact(mayCh_facts (List.all_eq_true.1 p14 _ (List.getElem_mem hk)) p7).1
 ·rw [nth_eq hk];exact(mayCh_facts (List.all_eq_true.1 p14 _ (List.getElem_mem hk)) p7).2
 ·have:=List.all_eq_true.1 p15 _ (List.getElem_mem hk)
  unfold mayF at this
  simp only [Bool.and_eq_true,decide_eq_true_eq] at this
  rw [nth_eq hk];omega
 ·have:=List.all_eq_true.1 p15 _ (List.getElem_mem hk)
  unfold mayF at this
  simp only [Bool.and_eq_true,decide_eq_true_eq] at this
  rw [nth_eq hk];omega
end Go.Hb
end
section
namespace Go.Proofs
open Go.Shelf
def Tryz.sortInt_ren:Go.Shelf.Ren:=⟨fun | 189=>210 | 125=>259 | 257=>258 | 128=>294 | 129=>295 | 294=>285 | 295=>286 | 296=>287 | 297=>288 | 298=>289 | 299=>290 | 216=>291 | 300=>292 | 301=>293 | 328=>302 | 329=>303 | 330=>304 | 331=>305 | 332=>306 | 215=>307 | 343=>308 | n=>n,fun | 28=>23 | 3=>3 | 46=>215 | 0=>0 | 51=>112 | 53=>210 | 4=>4 | 183=>304 | 182=>303 | 131=>139 | 5=>5 | 9=>9 | 218=>315 | 222=>319 | 228=>321 | 229=>322 | n=>n,fun | n=>n⟩
theorem Tryz.sortInt:Go.Proofs.Lays.n189 Tryz.prog Tryz.sortInt_ren:={
 mixed:=by kernel_rfl
 f125:=Tryz.func259.trans (congrArg some (by kernel_rfl))
 f128:=Tryz.func294.trans (congrArg some (by kernel_rfl))
 f129:=Tryz.func295.trans (congrArg some (by kernel_rfl))
 f189:=Tryz.func210.trans (congrArg some (by kernel_rfl))
 f215:=Tryz.func307.trans (congrArg some (by kernel_rfl))
 f216:=Tryz.func291.trans (congrArg some (by kernel_rfl))
 f257:=Tryz.func258.trans (congrArg some (by kernel_rfl))
 f294:=Tryz.func285.trans (congrArg some (by kernel_rfl))
 f295:=Tryz.func286.trans (congrArg some (by kernel_rfl))
 f296:=Tryz.func287.trans (congrArg some (by kernel_rfl))
 f297:=Tryz.func288.trans (congrArg some (by kernel_rfl))
 f298:=Tryz.func289.trans (congrArg some (by kernel_rfl))
 f299:=Tryz.func290.trans (congrArg some (by kernel_rfl))
 f300:=Tryz.func292.trans (congrArg some (by kernel_rfl))
 f301:=Tryz.func293.trans (congrArg some (by kernel_rfl))
 f328:=Tryz.func302.trans (congrArg some (by kernel_rfl))
 f329:=Tryz.func303.trans (congrArg some (by kernel_rfl))
 f330:=Tryz.func304.trans (congrArg some (by kernel_rfl))
 f331:=Tryz.func305.trans (congrArg some (by kernel_rfl))
 f332:=Tryz.func306.trans (congrArg some (by kernel_rfl))
 f343:=Tryz.func308.trans (congrArg some (by kernel_rfl))
 t0:=Tryz.underlying0
 a0:=Tryz.isAgg0
 z0:=Tryz.sizeOf0
 v0:=Tryz.zeroValue0
 t3:=Tryz.underlying3
 a3:=Tryz.isAgg3
 z3:=Tryz.sizeOf3
 v3:=Tryz.zeroValue3
 t4:=Tryz.underlying4
 a4:=Tryz.isAgg4
 z4:=Tryz.sizeOf4
 v4:=Tryz.zeroValue4
 t5:=Tryz.underlying5
 a5:=Tryz.isAgg5
 z5:=Tryz.sizeOf5
 v5:=Tryz.zeroValue5
 t9:=Tryz.underlying9
 a9:=Tryz.isAgg9
 z9:=Tryz.sizeOf9
 v9:=Tryz.zeroValue9
 t28:=Tryz.underlying23
 a28:=Tryz.isAgg23
 z28:=Tryz.sizeOf23
 v28:=Tryz.zeroValue23
 t46:=Tryz.underlying215
 a46:=Tryz.isAgg215
 z46:=Tryz.sizeOf215
 v46:=Tryz.zeroValue215
 t51:=Tryz.underlying112
 a51:=Tryz.isAgg112
 z51:=Tryz.sizeOf112
 v51:=Tryz.zeroValue112
 t53:=Tryz.underlying210
 a53:=Tryz.isAgg210
 z53:=Tryz.sizeOf210
 v53:=Tryz.zeroValue210
 t131:=Tryz.underlying139
 a131:=Tryz.isAgg139
 z131:=Tryz.sizeOf139
 v131:=Tryz.zeroValue139
 t182:=Tryz.underlying303
 a182:=Tryz.isAgg303
 z182:=Tryz.sizeOf303
 v182:=Tryz.zeroValue303
 t183:=Tryz.underlying304
 a183:=Tryz.isAgg304
 z183:=Tryz.sizeOf304
 v183:=Tryz.zeroValue304
 t218:=Tryz.underlying315
 a218:=Tryz.isAgg315
 z218:=Tryz.sizeOf315
 v218:=Tryz.zeroValue315
 t222:=Tryz.underlying319
 a222:=Tryz.isAgg319
 z222:=Tryz.sizeOf319
 v222:=Tryz.zeroValue319
 t228:=Tryz.underlying321
 a228:=Tryz.isAgg321
 z228:=Tryz.sizeOf321
 v228:=Tryz.zeroValue321
 t229:=Tryz.underlying322
 a229:=Tryz.isAgg322
 z229:=Tryz.sizeOf322
 v229:=Tryz.zeroValue322 }
end Go.Proofs
end
