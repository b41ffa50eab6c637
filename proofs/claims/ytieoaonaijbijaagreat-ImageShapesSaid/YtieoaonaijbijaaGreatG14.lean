/-
  A layer for reasoning about the program's calls, and contracts of its functions. CONDITIONS: none; each theorem bears its own.
-/
import Derived.Test.YtieoaonaijbijaaGreatG13
import Derived.Test.YtieoaonaijbijaaGreatG06
set_option linter.unusedVariables false
set_option linter.unusedSimpArgs false
section
namespace Go.Hb
open Go Go.Proofs Go.RowKit
set_option maxRecDepth 100000
set_option maxHeartbeats 800000
attribute [-simp] aC aL xq yp zE aIf yr zR aLen zt ya zQ zP lBr aq yP aev zk zw zF zI LV.cells LV.cellsOk getElem?_pos getElem?_neg
theorem xd {s:List AObj}{id B:Nat}{x:LV}{v0 v:List Nat}{bs:List UInt8}{n:Int}(hs:s[id]? = some (.cells [x]))(hx:WAt v0 v bs x B)(hn:n≤9223372036854775807)(hB:B≤90000000) :
  zp Tryz.prog 79 [.ptr id 0,.int .i64 n] s v (wu s id v0 (bs++zb n) (B+9)):=by
 obtain⟨hx,hb⟩:=hx
 have hid:=(List.getElem?_eq_some_iff.1 hs).1
 have hlen:=uP hn
 obtain⟨m,hm⟩:∃ m:Nat,m=n.toNat:=⟨_,rfl⟩
 have hmx:(if n<0 then (0:Int) else n)=(m:Int):=by split<;>omega
 have hsb:zb n=yM m:=by unfold zb;rw[hm]
 rw[hsb] at hlen ⊢
 have hset:∀ a b,(s.set id a).set id b=s.set id b:=fun a b=>by simp
 have hget:∀ a,(s.set id a)[id]? = some a:=fun a=>by simp[hid]
 have hs0:s=s.set id (.cells [x]):=by
  apply List.ext_getElem?
  intro i
  by_cases e:id=i
  ·subst e;rw[hget,hs]
  ·rw[List.getElem?_set_ne e]
 rw[hs0]
 refine zj (R:=fun _ s' v'=>∃ x',s'=s.set id (.cells [x'])∧WAt v0 v' (bs++yM m) x' (B+9)) ?_ fun _ _ _ ⟨x',e1,e2⟩=>⟨x',by rw[hset];exact e1,e2⟩
 clear hs0 hs hm
 refine ac0 Tryz.func79 Tryz.ntmps79 ?_
 have hrs:Tryz.f79.results = #[]:=rfl
 repeat' (first|(with_reducible first|refine uk ?_|refine wk ?_ ?_<;>intro _)|simp -implicitDefEqProofs(disch:=first|assumption|omega)[*])
 refine zbz (β:=Nat × LV × List UInt8 × List Nat) false (fun p=>p.2.2.1++yM p.1=bs++yM m∧GroE v0 p.2.2.2 p.2.2.1 p.2.1∧p.1≤9223372036854775807) (fun p=>p.1) (fun p=>[(1,.int .i64 p.1),(6,.any),(7,.any),(10,.any),(11,.any),(12,.any),(13,.any),(14,.any),(15,.any),(16,.any),(17,.any),(18,.any),(19,.any),(20,.any),(21,.any),(8,.any),(9,.any)]) (fun p=>s.set id (.cells [p.2.1])) (fun p=>p.2.2.2) ?_ ?_
 ·exact⟨(m,x,bs,v),⟨rfl,hx,by omega⟩,fz0,rfl,rfl⟩
 rintro⟨q,x,cs,v⟩ ⟨he,hx,hq⟩
 simp only at he hx hq
 have hxc:=hx.gro.cells
 have hcl:cs.length+(yM q).length≤B+9:=by
  have:=congrArg List.length he
  simp only[List.length_append] at this
  omega
 have hidu:∀ a,id<(s.set id a).length:=fun a=>by simpa using hid
 by_cases h128:q<128
 ·have hsq:yM q=[UInt8.ofNat q]:=by rw[yM];simp[h128]
  rw[hsq] at he hcl
  simp only[List.length_cons,List.length_nil] at hcl
  obtain⟨x',v',hx',_,ha⟩:=GroE.push (P:=Tryz.prog) (t:=36) (t2:=36) (sz:=1) (by_:=1) (by kernel_rfl) rfl (by omega) hx (UInt8.ofNat q) (by omega)
  simp only[zak] at ha
  have hxc':=hx'.gro.cells
  obtain⟨z,hz⟩:∃ z:Int,z=((UInt8.ofNat q).toNat:Int):=⟨_,rfl⟩
  obtain⟨hz1,hz2⟩:=u8_z hz
  rw[← hz] at ha
  clear hz
  repeat' (first|(with_reducible first|refine uk ?_|refine wk ?_ ?_<;>intro _)|simp -implicitDefEqProofs(disch:=first|assumption|omega)[*])
  all_goals first|(exfalso;omega)|skip
  exact⟨x',rfl,by show GroE v0 v' _ x';rw[← he];exact hx',by rw[← he];simp only[List.length_append,List.length_cons,List.length_nil];omega⟩
 ·have hsq:yM q=UInt8.ofNat (128+q%128) :: yM (q/128):=by rw[yM];simp[h128]
  rw[hsq] at he hcl
  obtain⟨x',v',hx',_,ha⟩:=GroE.push (P:=Tryz.prog) (t:=36) (t2:=36) (sz:=1) (by_:=1) (by kernel_rfl) rfl (by omega) hx (UInt8.ofNat (128+q%128)) (by simp at hcl;omega)
  simp only[zak] at ha
  have hxc':=hx'.gro.cells
  obtain⟨z,hz⟩:∃ z:Int,z=((UInt8.ofNat (128+q%128)).toNat:Int):=⟨_,rfl⟩
  have hz1:=ziw q
  have hz2:=zlB q
  rw[← hz] at ha hz1 hz2
  clear hz
  repeat' (first|(with_reducible first|refine uk ?_|refine wk ?_ ?_<;>intro _)|simp -implicitDefEqProofs(disch:=first|assumption|omega)[*])
  all_goals first|(exfalso;omega)|skip
  refine⟨(q/128,x',cs++[UInt8.ofNat (128+q%128)],v'),by show q/128<q;omega,⟨by simpa using he,hx',by show q/128≤_;omega⟩,?_,rfl,rfl⟩
  (refine Fits.of ?_ ?_;rotate_left;(repeat (first|with_reducible exact Off.refl _ _|refine Off.upd rfl ?_|refine Off.updO rfl ?_|refine Off.upds rfl ?_));simp[zh,zu])
  all_goals exact Int.fdiv_eq_ediv_of_nonneg _ (by decide)
theorem zdJ {s:List AObj}{id B:Nat}{x:LV}{v0 v:List Nat}{bs:List UInt8}{b:UInt8}{z:Int}{r:Right}(hs:s[id]? = some (.cells [x]))(hx:WAt v0 v bs x B)(hz:z=(b.toNat:Int))(hB:B≤90000000) :
  zp Tryz.prog 116 [.ptr id 0,.imm 1 1 [.int .u8 z] r] s v (wu s id v0 (bs++[b]) (B+1)):=by
 obtain⟨hx,hb⟩:=hx
 have hid:=(List.getElem?_eq_some_iff.1 hs).1
 have hxc:=hx.gro.cells
 obtain⟨x',v',hx',_,ha⟩:=GroE.push (P:=Tryz.prog) (t:=36) (t2:=36) (sz:=1) (by_:=1) (by kernel_rfl) rfl (by omega) hx b (by omega)
 simp only[zak] at ha
 have hxc':=hx'.gro.cells
 rw[← hz] at ha
 clear hz
 refine ac0 Tryz.func116 Tryz.ntmps116 ?_
 have hrs:Tryz.f116.results = #[]:=rfl
 repeat' (first|(with_reducible first|refine uk ?_|refine wk ?_ ?_<;>intro _)|simp -implicitDefEqProofs(disch:=first|assumption|omega)[*])
 exact⟨x',rfl,hx',by simp only[List.length_append,List.length_cons,List.length_nil];omega⟩
theorem zau {s:List AObj}{id B:Nat}{x:LV}{v0 v:List Nat}{bs:List UInt8}{n:Int}(hs:s[id]? = some (.cells [x]))(hx:WAt v0 v bs x B)(hB:B≤90000000) :
  zp Tryz.prog 88 [.ptr id 0,.int .i64 n] s v (wu s id v0 (bs++yb n) (B+9)):=by
 have hid:=(List.getElem?_eq_some_iff.1 hs).1
 by_cases h1:n < -2305843009213693952
 ·have hsb:yb n=zb 4611686018427387903:=by unfold yb;simp[h1]
  rw[hsb]
  refine ac0 Tryz.func88 Tryz.ntmps88 ?_
  have hrs:Tryz.f88.results = #[]:=rfl
  repeat' (first|(with_reducible first|refine uk ?_|refine wk ?_ ?_<;>intro _|refine wK (xd (x:=x) (by assumption) hx (by omega) (by omega)) (fun y x v hx=>?_))|simp -implicitDefEqProofs(disch:=first|assumption|omega)[*])
  exact⟨_,rfl,hx⟩
 by_cases h2:2305843009213693951<n
 ·have hsb:yb n=zb 4611686018427387902:=by unfold yb;simp[h1,h2]
  rw[hsb]
  refine ac0 Tryz.func88 Tryz.ntmps88 ?_
  have hrs:Tryz.f88.results = #[]:=rfl
  repeat' (first|(with_reducible first|refine uk ?_|refine wk ?_ ?_<;>intro _|refine wK (xd (x:=x) (by assumption) hx (by omega) (by omega)) (fun y x v hx=>?_))|simp -implicitDefEqProofs(disch:=first|assumption|omega)[*])
  exact⟨_,rfl,hx⟩
 by_cases h3:n<0
 ·have hsb:yb n=zb (2 * -(n+1)+1):=by unfold yb;simp[h1,h2,h3]
  rw[hsb]
  refine ac0 Tryz.func88 Tryz.ntmps88 ?_
  have hrs:Tryz.f88.results = #[]:=rfl
  repeat' (first|(with_reducible first|refine uk ?_|refine wk ?_ ?_<;>intro _|refine wK (xd (x:=x) (by assumption) hx (by omega) (by omega)) (fun y x v hx=>?_))|simp -implicitDefEqProofs(disch:=first|assumption|omega)[*])
  all_goals exact⟨_,rfl,hx⟩
 ·have hsb:yb n=zb (2*n):=by unfold yb;simp[h1,h2,h3]
  rw[hsb]
  refine ac0 Tryz.func88 Tryz.ntmps88 ?_
  have hrs:Tryz.f88.results = #[]:=rfl
  repeat' (first|(with_reducible first|refine uk ?_|refine wk ?_ ?_<;>intro _|refine wK (xd (x:=x) (by assumption) hx (by omega) (by omega)) (fun y x v hx=>?_))|simp -implicitDefEqProofs(disch:=first|assumption|omega)[*])
  all_goals exact⟨_,rfl,hx⟩
theorem zgm {bs:List UInt8}{r:Right}(hne:bs.length≠0)(hb:bs.length≤90000000) :
  zG Tryz.prog 174 [.imm 1 bs.length (zd bs) r] (row bs):=by
 refine .of fun s v=>?_
 obtain⟨x',v',hx',_,ha⟩:=GroC.app (P:=Tryz.prog) (t:=36) (t2:=36) (sz:=1) (by_:=1) (v0:=v) (v:=v) (n:=0) (m:=bs.length) (cs:=[]) (ds:=zd bs) (x:=.imm 1 0 [] .full) (by kernel_rfl) ⟨List.prefix_refl _,.inl ⟨rfl,rfl,.inr rfl⟩⟩ (fun h=>absurd h hne) (by unfold maxLen;omega) (by omega)
 replace ha:=fun s=>ha (.imm 1 bs.length (zd bs) r) s (by simp[zQ])
 have hg:GroE v v' bs x':=by unfold GroE;simpa using hx'
 have hu:=hg.gro.under s.length
 refine ac0 Tryz.func174 Tryz.ntmps174 ?_
 have hrs:Tryz.f174.results = #[.tmp 2]:=rfl
 repeat' (first|(with_reducible first|refine uk ?_|refine wk ?_ ?_<;>intro _)|simp -implicitDefEqProofs(disch:=first|assumption|omega)[*])
 exact Ends.same hu hg.gro.weak hg.1
theorem YF {s:List AObj}{id B:Nat}{x:LV}{v0 v:List Nat}{bs:List UInt8}(hs:s[id]? = some (.cells [x]))(hx:WAt v0 v bs x B)(hne:bs.length≠0)(hB:B≤90000000) :
  zp Tryz.prog 118 [.ptr id 0] s v fun y s' v'=>row bs=y∧s=s'∧v <+: v':=by
 obtain⟨hx,hb⟩:=hx
 have hid:=(List.getElem?_eq_some_iff.1 hs).1
 obtain⟨g,e,_,rfl,_⟩:=hx.2.resolve_left (fun h=>hne h.1)
 have hc:=zgm (bs:=bs) (r:=.tip g e) hne (by omega)
 simp only[show Enc.sz UInt8=1 from rfl] at hs
 refine Qp ?_
 refine ac0 Tryz.func118 Tryz.ntmps118 ?_
 have hrs:Tryz.f118.results = #[.tmp 2]:=rfl
 repeat' (first|(with_reducible first|refine uk ?_|refine wk ?_ ?_<;>intro _|refine zg hc (fun v2 hv2=>?_))|simp -implicitDefEqProofs(disch:=first|assumption|omega)[*])
 exact Ends.eq rfl (by simp) hv2
theorem Yz {l:List Int}{s:List AObj}{id B:Nat}{x:LV}{v0 v:List Nat}{bs:List UInt8}(hs:s[id]? = some (.cells [x]))(hx:WAt v0 v bs x B)(hl:∀ k<l.length,nth l k≤9223372036854775807)(hll:l.length≤1000)(hB:B≤80000000) :
  zp Tryz.prog 191 [row l,.ptr id 0] s v (wu s id v0 (bs++yz l) (B+9+9*l.length)):=by
 have hid:=(List.getElem?_eq_some_iff.1 hs).1
 refine ac0 Tryz.func191 Tryz.ntmps191 ?_
 have hrs:Tryz.f191.results = #[]:=rfl
 repeat' (first|(with_reducible first|refine uk ?_|refine wk ?_ ?_<;>intro _|refine wK (xd (x:=x) (by assumption) hx (by omega) (by omega)) (fun y x v hx=>?_))|simp -implicitDefEqProofs(disch:=first|assumption|omega)[*])
 refine yW (β:=LV × List Nat) false l.length (fun k p=>WAt v0 p.2 (bs++zb l.length++(l.take k).flatMap zb) p.1 (B+9+9*k)) (fun k p=>[(10,.int .i64 k),(11,.any),(12,.any),(13,.any),(4,.any),(14,.any),(15,.any),(16,.any)]) (fun _ p=>s.set id (.cells [p.1])) (fun _ p=>p.2) ?_ ?_
 ·exact⟨(x,v),by simpa using hx,fz0,rfl,rfl⟩
 rintro k ⟨x,v⟩ hk hx
 simp only at hx
 have hidu:∀ a,(s.set id a)[id]? = some a:=fun a=>by simp[hid]
 have hset:∀ a b,(s.set id a).set id b=s.set id b:=fun a b=>by simp
 by_cases hlt:k<l.length
 ·have hn:=hl k hlt
  repeat' (first|(with_reducible first|refine uk ?_|refine wk ?_ ?_<;>intro _|refine wK (xd (x:=x) (hidu _) hx (by omega) (by omega)) (fun y x v hx=>?_))|simp -implicitDefEqProofs(disch:=first|assumption|omega)[*])
  refine⟨hlt,(x,v),?_,fz,by simp,rfl⟩
  have e:B+9+9*k+9=B+9+9*(k+1):=by omega
  rw[e] at hx
  simpa[za hlt] using hx
 ·have:k=l.length:=by omega
  subst this
  repeat' (first|(with_reducible first|refine uk ?_|refine wk ?_ ?_<;>intro _)|simp -implicitDefEqProofs(disch:=first|assumption|omega)[*])
  exact⟨x,rfl,by simpa[yz] using hx⟩
theorem zcj (z:Int):((UInt8.ofInt z).toNat:Int)=z%256:=by
 unfold UInt8.ofInt
 simp
 omega
theorem zgH (z:Int):IntKind.u8.wrap z=z%256:=by
 simp[IntKind.wrap,IntKind.signed,IntKind.bits]
theorem zgK (z:Int):IntKind.u8.wrap z=((UInt8.ofInt z).toNat:Int):=by rw[zcj,zgH]
theorem zfI (z:Int):z%256=((UInt8.ofInt z).toNat:Int):=by rw[zcj]
theorem zjn {P:Program}{f:FuncId}{args:List LV}{s:List AObj}{v:List Nat}{y:LV}{K:LV→List AObj→List Nat→Prop}(h:zp P f args s v fun x s' v'=>y=x∧s=s'∧v <+: v')(k:∀ v',v <+: v'→K y s v'):zp P f args s v K:=
 zj h fun x s' v' ⟨e1,e2,e3⟩=>by subst e1;subst e2;exact k v' e3
theorem zdl (n:Int):0<(zb n).length:=by unfold zb;rw[yM];split<;>simp
theorem WAt.up {v0 v:List Nat}{bs:List UInt8}{x:LV}{B B':Nat}(h:WAt v0 v bs x B)(hb:B≤B'):WAt v0 v bs x B':=⟨h.1,Nat.le_trans h.2 hb⟩
theorem WAt.eq {v0 v:List Nat}{bs bs':List UInt8}{x:LV}{B B':Nat}(h:WAt v0 v bs x B)(e:bs=bs')(hb:B≤B'):WAt v0 v bs' x B':=by subst e;exact h.up hb
theorem vS {p:Prog}{l:List Int}(h:wz p l=true)(hc:p.chans.length≤8):l.length≤8∧∀ k<l.length,nth l k≤9223372036854775807:=by
 unfold wz yf at h
 simp only[Bool.and_eq_true,decide_eq_true_eq,List.all_eq_true] at h
 obtain⟨⟨⟨h1,_⟩,_⟩,h2⟩:=h
 refine⟨h2,fun k hk=>?_⟩
 rw[zK hk]
 have:=(h1 _ (List.getElem_mem hk)).2
 omega
theorem wm {l:List Int}{to:Int}(h:yf l to=true)(ht:to≤1000):∀ k<l.length,nth l k≤9223372036854775807:=by
 unfold yf at h
 simp only[Bool.and_eq_true,decide_eq_true_eq,List.all_eq_true] at h
 intro k hk
 rw[zK hk]
 have:=(h _ (List.getElem_mem hk)).2
 omega
set_option maxHeartbeats 8000000 in
theorem zhr {fs:List Fn_}{mu th:Int}{co se ch:List Int}{cho:List (List Int)}(hm:zG Tryz.prog 44 [.agg [row fs,.int .i64 mu,row co,row se,row ch,row cho,.int .i64 th]] (.bool true))(hp:mayP ⟨fs,mu,co,se,ch,cho,th⟩=true) :
  zG Tryz.prog 76 [.agg [row fs,.int .i64 mu,row co,row se,row ch,row cho,.int .i64 th]] (.tup [row (ue ⟨fs,mu,co,se,ch,cho,th⟩),.int .i64 0]):=by
 obtain⟨q1,q2,q3,q4,q5,q6,q7,q8,q9,q10,q11,q12,q13,q14⟩:fs.length≤16∧mu≤8∧co.length≤8∧se.length≤8∧ch.length≤8∧cho.length≤8∧th≤32∧(∀ k<co.length,nth co k≤9223372036854775807)∧(∀ k<se.length,nth se k≤9223372036854775807)∧(∀ k<ch.length,nth ch k≤9223372036854775807)∧(∀ k<cho.length,(nth cho k).length≤8)∧(∀ k<cho.length,∀ j<(nth cho k).length,nth (nth cho k) j≤9223372036854775807)∧(∀ k<fs.length,(nth fs k).locals≤8)∧(∀ k<fs.length,(nth fs k).code.length≤64):=by
  unfold mayP at hp
  simp only[Bool.and_eq_true,decide_eq_true_eq] at hp
  obtain⟨⟨⟨⟨⟨⟨⟨⟨⟨⟨⟨⟨⟨⟨p1,p2⟩,p3⟩,p4⟩,p5⟩,p6⟩,p7⟩,p8⟩,p9⟩,p10⟩,p11⟩,p12⟩,p13⟩,p14⟩,p15⟩:=hp
  refine⟨p2,p4,p5,p6,p7,p8,p10,wm p11 (by omega),wm p12 (by omega),wm p13 (by omega),fun k hk=>?_,fun k hk=>?_,fun k hk=>?_,fun k hk=>?_⟩
  ·rw[zK hk];exact(vS (List.all_eq_true.1 p14 _ (List.getElem_mem hk)) p7).1
  ·rw[zK hk];exact(vS (List.all_eq_true.1 p14 _ (List.getElem_mem hk)) p7).2
  ·have:=List.all_eq_true.1 p15 _ (List.getElem_mem hk)
   unfold mayF at this
   simp only[Bool.and_eq_true,decide_eq_true_eq] at this
   rw[zK hk];omega
  ·have:=List.all_eq_true.1 p15 _ (List.getElem_mem hk)
   unfold mayF at this
   simp only[Bool.and_eq_true,decide_eq_true_eq] at this
   rw[zK hk];omega
 clear hp
 refine .of fun s v=>?_
 refine ac0 Tryz.func76 Tryz.ntmps76 ?_
 have hrs:Tryz.f76.results = #[.tmp 2,.tmp 3]:=rfl
 repeat' (first|(with_reducible first|refine uk ?_|refine wk ?_ ?_<;>intro _|refine zg hm (fun v1 hv1=>?_))|simp -implicitDefEqProofs(disch:=first|assumption|omega)[*])
 have hx:WAt v1 v1 [] .nils 0:=⟨GroE.nil _,by simp⟩
 repeat' (first|(with_reducible first|refine uk ?_|refine wk ?_ ?_<;>intro _|refine wK (xd (by simp[zL]) hx (by omega) (by omega)) (fun y x v hx=>?_)|refine wK (Yz (by simp[zL]) hx (by assumption) (by omega) (by omega)) (fun y x v hx=>?_))|simp -implicitDefEqProofs(disch:=first|assumption|omega)[*])
 refine zC (β:=LV × List AObj × List Nat) true fs.length (fun k p=>WAt v1 p.2.2 (zb fs.length++(fs.take k).flatMap fnB) p.1 (9+700*k)) (fun k p=>[(23,.int .i64 k),(24,.any),(25,.any),(26,.any),(7,.any),(27,.any),(28,.any),(29,.any),(30,.any),(31,.any),(32,.any),(33,.any),(34,.any),(35,.any),(36,.any),(37,.any),(38,.any),(39,.any),(40,.any),(9,.any),(41,.any),(42,.any),(43,.any),(44,.any),(45,.any),(46,.any),(47,.any),(48,.any),(49,.any),(50,.any)]) (fun _ p=>s++(.cells [row fs,.int .i64 mu,row co,row se,row ch,row cho,.int .i64 th] :: .cells [p.1] :: p.2.1)) (fun _ p=>p.2.2) ?_ ?_
 ·exact⟨(x,[],v),hx.eq (by simp) (by omega),fz0,rfl,rfl⟩
 rintro k ⟨x,J,v⟩ hk hx
 simp only at hx
 by_cases hlt:k<fs.length
 ·have e1:=q13 k hlt
  have e2:=q14 k hlt
  repeat' (first|(with_reducible first|refine uk ?_|refine wk ?_ ?_<;>intro _|refine wK (xd (by simp[zL]) hx (by omega) (by omega)) (fun y x v hx=>?_)|refine wK (Yz (by simp[zL]) hx (by assumption) (by omega) (by omega)) (fun y x v hx=>?_))|simp -implicitDefEqProofs(disch:=first|assumption|omega)[*])
  refine yW (β:=LV × List AObj × List Nat) true (nth fs k).code.length (fun j p=>WAt v1 p.2.2 (zb fs.length++(fs.take k).flatMap fnB++(zb (nth fs k).locals++zb (nth fs k).code.length++((nth fs k).code.take j).flatMap insB)) p.1 (9+700*k+18+10*j)) (fun j p=>[(37,.int .i64 j),(38,.any),(39,.any),(40,.any),(9,.any),(41,.any),(42,.any),(43,.any),(44,.any),(45,.any),(46,.any),(47,.any),(48,.any),(49,.any)]) (fun _ p=>s++(.cells [row fs,.int .i64 mu,row co,row se,row ch,row cho,.int .i64 th] :: .cells [p.1] :: p.2.1)) (fun _ p=>p.2.2) ?_ ?_
  ·exact⟨(_,_,_),hx.eq (by simp) (by omega),fz0,rfl,rfl⟩
  rintro j ⟨x,J',v⟩ hj hx
  simp only at hx
  by_cases hjl:j<(nth fs k).code.length
  ·repeat' (first|(with_reducible first|refine uk ?_|refine wk ?_ ?_<;>intro _|refine wK (zdJ (b:=UInt8.ofInt (nth (nth fs k).code j).op) (by simp[zL]) hx (by first|exact zgK _|exact zfI _) (by omega)) (fun y x v hx=>?_)|refine wK (zau (by simp[zL]) hx (by omega)) (fun y x v hx=>?_))|simp -implicitDefEqProofs(disch:=first|assumption|omega)[*])
   refine⟨hjl,(_,_,_),hx.eq (by simp[za hjl,insB]) (by omega),fz,rfl,rfl⟩
  ·have:j=(nth fs k).code.length:=by omega
   subst this
   repeat' (first|(with_reducible first|refine uk ?_|refine wk ?_ ?_<;>intro _)|simp -implicitDefEqProofs(disch:=first|assumption|omega)[*])
   refine⟨hlt,(_,_,_),hx.eq (by simp[za hlt,fnB]) (by omega),fz,rfl,rfl⟩
 ·have:k=fs.length:=by omega
  subst this
  repeat' (first|(with_reducible first|refine uk ?_|refine wk ?_ ?_<;>intro _|refine wK (xd (by simp[zL]) hx (by omega) (by omega)) (fun y x v hx=>?_)|refine wK (Yz (by simp[zL]) hx (by assumption) (by omega) (by omega)) (fun y x v hx=>?_))|simp -implicitDefEqProofs(disch:=first|assumption|omega)[*])
  obtain⟨B,hB,hx⟩:∃ B,B≤12000∧WAt v1 v (zb fs.length++fs.flatMap fnB++zb mu++yz co++yz se++yz ch++zb cho.length) x B:=⟨_,by omega,hx.eq (by simp) (Nat.le_refl _)⟩
  refine zC (β:=LV × List Nat) false cho.length (fun k p=>WAt v1 p.2 (zb fs.length++fs.flatMap fnB++zb mu++yz co++yz se++yz ch++(zb cho.length++(cho.take k).flatMap yz)) p.1 (B+90*k)) (fun k p=>[(73,.int .i64 k),(74,.any),(75,.any),(76,.any),(11,.any),(77,.any),(78,.any),(79,.any),(80,.any)]) (fun _ p=>s++(.cells [row fs,.int .i64 mu,row co,row se,row ch,row cho,.int .i64 th] :: .cells [p.1] :: J)) (fun _ p=>p.2) ?_ ?_
  ·exact⟨(_,_),hx.eq (by simp) (by omega),fz0,rfl,rfl⟩
  rintro k ⟨x,v⟩ hk hx
  simp only at hx
  by_cases hlt:k<cho.length
  ·have e1:=q11 k hlt
   have e2:=q12 k hlt
   repeat' (first|(with_reducible first|refine uk ?_|refine wk ?_ ?_<;>intro _|refine wK (xd (by simp[zL]) hx (by omega) (by omega)) (fun y x v hx=>?_)|refine wK (Yz (by simp[zL]) hx (by assumption) (by omega) (by omega)) (fun y x v hx=>?_))|simp -implicitDefEqProofs(disch:=first|assumption|omega)[*])
   refine⟨hlt,(_,_),hx.eq (by simp[za hlt]) (by omega),fz,rfl,rfl⟩
  ·have:k=cho.length:=by omega
   subst this
   have hpos:∀ l:List UInt8,(l++zb th).length≠0:=fun l=>by rw[List.length_append];have:=zdl th;omega
   repeat' (first|(with_reducible first|refine uk ?_|refine wk ?_ ?_<;>intro _|refine wK (xd (by simp[zL]) hx (by omega) (by omega)) (fun y x v hx=>?_)|refine zjn (YF (by simp[zL]) hx (hpos _) (by omega)) (fun v2 hv2=>?_))|simp -implicitDefEqProofs(disch:=first|assumption|omega)[*])
   exact Ends.eqat (by simp[ue]) (by simp) ((hv1.trans hx.1.1).trans hv2)
theorem zV {n:Int}(hn:n≤9223372036854775807):xX Tryz.prog 54 [.int .i64 n] (zb n):=by
 refine .of fun s v=>?_
 have hlen:=uP hn
 obtain⟨m,hm⟩:∃ m:Nat,m=n.toNat:=⟨_,rfl⟩
 have hsb:zb n=yM m:=by unfold zb;rw[hm]
 rw[hsb] at hlen ⊢
 obtain⟨y,hy1,hy2,hy3⟩:∃ y:Int,(n<0→y=0)∧(0≤n→y=n)∧y=m:=⟨m,by omega,by omega,rfl⟩
 refine ac0 Tryz.func54 Tryz.ntmps54 ?_
 have hrs:Tryz.f54.results = #[.tmp 2]:=rfl
 repeat' (first|(with_reducible first|refine uk ?_|refine wk ?_ ?_<;>intro _)|simp -implicitDefEqProofs(disch:=first|assumption|omega)[*])
 all_goals
  refine zbz (β:=Nat × LV × List UInt8 × List Nat) false (fun p=>p.2.2.1++yM p.1=yM m∧GroE v p.2.2.2 p.2.2.1 p.2.1∧p.1≤9223372036854775807) (fun p=>p.1) (fun p=>[(0,.int .i64 p.1),(3,p.2.1),(6,.any),(7,.any),(8,.any),(9,.any),(10,.any),(11,.any),(12,.any),(13,.any),(14,.any),(15,.any),(16,.any)]) (fun p=>s) (fun p=>p.2.2.2) ?_ ?_
  ·refine⟨(m,.nils,[],v),⟨by simp,GroE.nil _,by show m≤_;omega⟩,?_,rfl,rfl⟩
   (refine Fits.of ?_ (Off.refl _ _);simp[zh,zu])
   omega
  rintro⟨q,x,cs,v1⟩ ⟨he,hx,hq⟩
  simp only at he hx hq
  have hxc:=hx.gro.cells
  have hcl:cs.length+(yM q).length≤9:=by
   have:=congrArg List.length he
   simp only[List.length_append] at this
   omega
  by_cases h128:q<128
  ·have hsq:yM q=[UInt8.ofNat q]:=by rw[yM];simp[h128]
   rw[hsq] at he hcl
   simp only[List.length_cons,List.length_nil] at hcl
   obtain⟨x',v',hx',_,ha⟩:=GroE.push (P:=Tryz.prog) (t:=36) (t2:=36) (sz:=1) (by_:=1) (by kernel_rfl) rfl (by omega) hx (UInt8.ofNat q) (by omega)
   simp only[zak] at ha
   have hxc':=hx'.gro.cells
   obtain⟨z,hz⟩:∃ z:Int,z=((UInt8.ofNat q).toNat:Int):=⟨_,rfl⟩
   obtain⟨hz1,hz2⟩:=u8_z hz
   rw[← hz] at ha
   clear hz
   repeat' (first|(with_reducible first|refine uk ?_|refine wk ?_ ?_<;>intro _)|simp -implicitDefEqProofs(disch:=first|assumption|omega)[*])
   all_goals first|(exfalso;omega)|skip
   rw[← hm,← he];exact hx'.gro
  ·have hsq:yM q=UInt8.ofNat (128+q%128) :: yM (q/128):=by rw[yM];simp[h128]
   rw[hsq] at he hcl
   obtain⟨x',v',hx',_,ha⟩:=GroE.push (P:=Tryz.prog) (t:=36) (t2:=36) (sz:=1) (by_:=1) (by kernel_rfl) rfl (by omega) hx (UInt8.ofNat (128+q%128)) (by simp at hcl;omega)
   simp only[zak] at ha
   have hxc':=hx'.gro.cells
   obtain⟨z,hz⟩:∃ z:Int,z=((UInt8.ofNat (128+q%128)).toNat:Int):=⟨_,rfl⟩
   have ht:(q:Int).tmod 128=((q%128:Nat):Int):=by rw[Int.tmod_eq_emod_of_nonneg (by omega)];omega
   have htd:(q:Int).tdiv 128=((q/128:Nat):Int):=by rw[Int.tdiv_eq_ediv_of_nonneg (by omega)];omega
   have hz1:IntKind.u8.wrap (128+((q%128:Nat):Int))=z:=by
    have:=(u8_z hz).1
    rw[← this];congr 1
   have hz2:IntKind.u8.wrap (128+(q:Int)%128)=z:=by
    rw[← hz1];congr 1
   rw[← hz] at ha
   clear hz
   repeat' (first|(with_reducible first|refine uk ?_|refine wk ?_ ?_<;>intro _)|simp -implicitDefEqProofs(disch:=first|assumption|omega)[*])
   all_goals first|(exfalso;omega)|skip
   refine⟨(q/128,x',cs++[UInt8.ofNat (128+q%128)],v'),by show q/128<q;omega,⟨by simpa using he,hx',by show q/128≤_;omega⟩,?_,rfl,rfl⟩
   (refine Fits.of ?_ ?_;rotate_left;(repeat (first|with_reducible exact Off.refl _ _|refine Off.upd rfl ?_|refine Off.updO rfl ?_|refine Off.upds rfl ?_));simp[zh,zu])
theorem xY {n:Int} : xX Tryz.prog 149 [.int .i64 n] (yb n):=by
 refine .of fun s v=>?_
 by_cases h1:n < -2305843009213693952
 ·have hsb:yb n=zb 4611686018427387903:=by unfold yb;simp[h1]
  rw[hsb]
  refine ac0 Tryz.func149 Tryz.ntmps149 ?_
  have hrs:Tryz.f149.results = #[.tmp 2]:=rfl
  repeat' (first|(with_reducible first|refine uk ?_|refine wk ?_ ?_<;>intro _|refine Qs (zV (by omega)) (fun x v hx=>?_))|simp -implicitDefEqProofs(disch:=first|assumption|omega)[*])
  all_goals first|(exfalso;omega)|exact⟨⟨[],by simp⟩,hx⟩
 by_cases h2:2305843009213693951<n
 ·have hsb:yb n=zb 4611686018427387902:=by unfold yb;simp[h1,h2]
  rw[hsb]
  refine ac0 Tryz.func149 Tryz.ntmps149 ?_
  have hrs:Tryz.f149.results = #[.tmp 2]:=rfl
  repeat' (first|(with_reducible first|refine uk ?_|refine wk ?_ ?_<;>intro _|refine Qs (zV (by omega)) (fun x v hx=>?_))|simp -implicitDefEqProofs(disch:=first|assumption|omega)[*])
  all_goals first|(exfalso;omega)|exact⟨⟨[],by simp⟩,hx⟩
 by_cases h3:n<0
 ·have hsb:yb n=zb (2 * -(n+1)+1):=by unfold yb;simp[h1,h2,h3]
  rw[hsb]
  refine ac0 Tryz.func149 Tryz.ntmps149 ?_
  have hrs:Tryz.f149.results = #[.tmp 2]:=rfl
  repeat' (first|(with_reducible first|refine uk ?_|refine wk ?_ ?_<;>intro _|refine Qs (zV (by omega)) (fun x v hx=>?_))|simp -implicitDefEqProofs(disch:=first|assumption|omega)[*])
  all_goals first|(exfalso;omega)|exact⟨⟨[],by simp⟩,hx⟩
 ·have hsb:yb n=zb (2*n):=by unfold yb;simp[h1,h2,h3]
  rw[hsb]
  refine ac0 Tryz.func149 Tryz.ntmps149 ?_
  have hrs:Tryz.f149.results = #[.tmp 2]:=rfl
  repeat' (first|(with_reducible first|refine uk ?_|refine wk ?_ ?_<;>intro _|refine Qs (zV (by omega)) (fun x v hx=>?_))|simp -implicitDefEqProofs(disch:=first|assumption|omega)[*])
  all_goals first|(exfalso;omega)|exact⟨⟨[],by simp⟩,hx⟩
theorem JK {l:List Int}(hl:∀ k<l.length,nth l k≤9223372036854775807)(hll:l.length≤1000):xX Tryz.prog 150 [row l] (yz l):=by
 refine .of fun s v=>?_
 refine ac0 Tryz.func150 Tryz.ntmps150 ?_
 have hrs:Tryz.f150.results = #[.tmp 2]:=rfl
 repeat' (first|(with_reducible first|refine uk ?_|refine wk ?_ ?_<;>intro _|refine Qs (zV (by omega)) (fun x v1 hx=>?_))|simp -implicitDefEqProofs(disch:=first|assumption|omega)[*])
 have hx:Gro v v1 (zb l.length) x∧(zb l.length).length≤9:=⟨hx,zq (by omega)⟩
 refine zC (β:=LV × List Nat) false l.length (fun k p=>Gro v p.2 (zb l.length++(l.take k).flatMap zb) p.1∧(zb l.length++(l.take k).flatMap zb).length≤9+9*k) (fun k p=>[(3,p.1),(4,.int .i64 k),(8,.any),(9,.any),(10,.any),(11,.any),(14,.any),(15,.any),(16,.any),(17,.any),(18,.any),(19,.any),(20,.any),(12,.any),(13,.any)]) (fun _ _=>s) (fun _ p=>p.2) ?_ ?_
 ·exact⟨(x,v1),yC hx (by simp) (by omega),fz0,rfl,rfl⟩
 rintro k ⟨x,v⟩ hk hx
 simp only at hx
 have hxc:=hx.1.cells
 by_cases hlt:k<l.length
 ·have hn:=hl k hlt
  repeat' (first|(with_reducible first|refine uk ?_|refine wk ?_ ?_<;>intro _|refine yU (P:=Tryz.prog) (t:=36) (t2:=36) (by_:=1) (by kernel_rfl) (by omega) (zV (by omega)).pure hx (zq (by omega)) (by omega) (fun v2 x v hx ha hxc=>?_))|simp -implicitDefEqProofs(disch:=first|assumption|omega)[*])
  exact⟨hlt,(x,v),yC hx (by simp[za hlt]) (by omega),fz,rfl,rfl⟩
 ·have:k=l.length:=by omega
  subst this
  repeat' (first|(with_reducible first|refine uk ?_|refine wk ?_ ?_<;>intro _)|simp -implicitDefEqProofs(disch:=first|assumption|omega)[*])
  simpa[yz] using hx.1
end Go.Hb
end
