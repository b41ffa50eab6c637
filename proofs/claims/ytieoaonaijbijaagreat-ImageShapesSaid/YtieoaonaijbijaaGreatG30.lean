/-
  A layer for reasoning about the program's calls, and contracts of its functions. CONDITIONS: none; each theorem bears its own.
-/
import Derived.Test.YtieoaonaijbijaaGreatG14
import Derived.Test.YtieoaonaijbijaaGreatG10
import Derived.Test.YtieoaonaijbijaaGreatG11
import Derived.Test.YtieoaonaijbijaaGreatG07
set_option linter.unusedVariables false
set_option linter.unusedSimpArgs false
section
namespace Go.Hb
open Go Go.Proofs Go.RowKit
set_option maxRecDepth 100000
set_option maxHeartbeats 800000
attribute [-simp] aC aL xq yp zE aIf yr zR aLen zt ya zQ zP lBr aq yP aev zk zw zF zI LV.cells LV.cellsOk getElem?_pos getElem?_neg
theorem vi {n:Int}{id:Nat}(h:n≤9223372036854775807):Wrt Tryz.prog 79 [.ptr id 0,.int .i64 n] id [] (zb n) 9:=fun S x v0 v bs B _ hS hx hB=>xd hS hx h (by omega)
theorem Jg {n:Int}{id:Nat} : Wrt Tryz.prog 88 [.ptr id 0,.int .i64 n] id [] (yb n) 9:=fun S x v0 v bs B _ hS hx hB=>zau hS hx (by omega)
theorem uz {l:List (Int)}{w:Int→List UInt8}{m id:Nat}{L:List (Nat × AObj)}{g:FuncId}{pre post:List LV}(hl:l.length≤1000)(h:∀ k,k<l.length→Wrt Tryz.prog g (pre++(.int .i64 (nth l k) :: post)) id L (w (nth l k)) m) :
  Wrt Tryz.prog 85 [.ptr id 0,row l,.fn (.func g) pre post] id L (zb l.length++l.flatMap w) (9+m*l.length):=fun S x v0 v bs B hL hS hx hB=>by
 refine wu.of ?_
 have hid:=(List.getElem?_eq_some_iff.1 hS).1
 have hat:=yg hS
 have hst:=zaJ hS
 have hself:=yY hS
 have hsame:=Jc hS
 have hset:∀ a b,(S.set id a).set id b=S.set id b:=fun a b=>by simp
 refine ac0 Tryz.func85 Tryz.ntmps85 ?_
 have hrs:Tryz.f85.results = #[]:=rfl
 repeat' (first|(with_reducible first|refine uk ?_|refine wk ?_ ?_<;>intro _|refine yy (vi (n:=l.length) (by omega)) EnvW.nil hS hx (by omega) (fun y x v hx=>?_))|simp -implicitDefEqProofs(disch:=first|assumption|omega)[*])
 refine yW (β:=LV × List AObj × List Nat) true l.length (fun k p=>WAt v0 p.2.2 (bs++zb l.length++(l.take k).flatMap w) p.1 (B+9+m*k)) (fun k p=>[(14,.int .i64 k),(15,.any),(16,.any),(17,.any),(7,.any),(18,.any),(19,.any),(20,.any),(21,.any)]) (fun _ p=>S.set id (.cells [p.1])++p.2.1) (fun _ p=>p.2.2) ?_ ?_
 ·exact⟨(x,[],v),by simpa using hx,fz0,by simp,rfl⟩
 clear hx
 rintro k ⟨x,J,v⟩ hk hx
 simp only at hx
 by_cases hlt:k<l.length
 ·have hh:=h k hlt
  have hm:m*k+m≤m*l.length:=by rw[← Nat.mul_succ];exact Nat.mul_le_mul_left m hlt
  have hlt':(k:Int)<l.length:=by omega
  have hxf:=zB (l:=l) (i:=(k:Int)) (by omega) (by omega)
  rw[Int.toNat_natCast] at hxf
  obtain⟨S',hS'⟩:∃ S',S.set id (.cells [x])++J=S':=⟨_,rfl⟩
  have hE:EnvW id L S':=hS' ▸ (hL.set _).app _
  have hS2:S'[id]? = some (.cells [x]):=hS' ▸ yg (hself _) _
  have hst2:=zaJ hS2
  have hat2:=yg hS2
  have hlen2:id<S'.length:=(List.getElem?_eq_some_iff.1 hS2).1
  rw[hS']
  clear hat hst hself hsame hset hid
  repeat' (first|(with_reducible first|refine uk ?_|refine wk ?_ ?_<;>intro _|refine yy hh hE hS2 hx (by omega) (fun y x v hx=>?_))|simp -implicitDefEqProofs(disch:=first|assumption|omega)[*])
  exact⟨hlt,(x,J,v),xH hx (by simp[za hlt]) (by rw[Nat.mul_succ];omega),fz,by subst hS';simp[List.set_append_left _ _ (show id<(S.set id _).length by simpa using (List.getElem?_eq_some_iff.1 hS).1)],rfl⟩
 ·have:k=l.length:=by omega
  subst this
  repeat' (first|(with_reducible first|refine uk ?_|refine wk ?_ ?_<;>intro _)|simp -implicitDefEqProofs(disch:=first|assumption|omega)[*])
  exact⟨x,J,by simp,by simp,xH hx (by simp) (by omega)⟩
theorem ZS {l:List (List Int)}{w:List Int→List UInt8}{m id:Nat}{L:List (Nat × AObj)}{g:FuncId}{pre post:List LV}(hl:l.length≤1000)(h:∀ k,k<l.length→Wrt Tryz.prog g (pre++(row (nth l k) :: post)) id L (w (nth l k)) m) :
  Wrt Tryz.prog 89 [.ptr id 0,row l,.fn (.func g) pre post] id L (zb l.length++l.flatMap w) (9+m*l.length):=fun S x v0 v bs B hL hS hx hB=>by
 refine wu.of ?_
 have hid:=(List.getElem?_eq_some_iff.1 hS).1
 have hat:=yg hS
 have hst:=zaJ hS
 have hself:=yY hS
 have hsame:=Jc hS
 have hset:∀ a b,(S.set id a).set id b=S.set id b:=fun a b=>by simp
 refine ac0 Tryz.func89 Tryz.ntmps89 ?_
 have hrs:Tryz.f89.results = #[]:=rfl
 repeat' (first|(with_reducible first|refine uk ?_|refine wk ?_ ?_<;>intro _|refine yy (vi (n:=l.length) (by omega)) EnvW.nil hS hx (by omega) (fun y x v hx=>?_))|simp -implicitDefEqProofs(disch:=first|assumption|omega)[*])
 refine yW (β:=LV × List AObj × List Nat) true l.length (fun k p=>WAt v0 p.2.2 (bs++zb l.length++(l.take k).flatMap w) p.1 (B+9+m*k)) (fun k p=>[(14,.int .i64 k),(15,.any),(16,.any),(17,.any),(7,.any),(18,.any),(19,.any),(20,.any),(21,.any)]) (fun _ p=>S.set id (.cells [p.1])++p.2.1) (fun _ p=>p.2.2) ?_ ?_
 ·exact⟨(x,[],v),by simpa using hx,fz0,by simp,rfl⟩
 clear hx
 rintro k ⟨x,J,v⟩ hk hx
 simp only at hx
 by_cases hlt:k<l.length
 ·have hh:=h k hlt
  have hm:m*k+m≤m*l.length:=by rw[← Nat.mul_succ];exact Nat.mul_le_mul_left m hlt
  have hlt':(k:Int)<l.length:=by omega
  have hxf:=zB (l:=l) (i:=(k:Int)) (by omega) (by omega)
  rw[Int.toNat_natCast] at hxf
  obtain⟨S',hS'⟩:∃ S',S.set id (.cells [x])++J=S':=⟨_,rfl⟩
  have hE:EnvW id L S':=hS' ▸ (hL.set _).app _
  have hS2:S'[id]? = some (.cells [x]):=hS' ▸ yg (hself _) _
  have hst2:=zaJ hS2
  have hat2:=yg hS2
  have hlen2:id<S'.length:=(List.getElem?_eq_some_iff.1 hS2).1
  rw[hS']
  clear hat hst hself hsame hset hid
  repeat' (first|(with_reducible first|refine uk ?_|refine wk ?_ ?_<;>intro _|refine yy hh hE hS2 hx (by omega) (fun y x v hx=>?_))|simp -implicitDefEqProofs(disch:=first|assumption|omega)[*])
  exact⟨hlt,(x,J,v),xH hx (by simp[za hlt]) (by rw[Nat.mul_succ];omega),fz,by subst hS';simp[List.set_append_left _ _ (show id<(S.set id _).length by simpa using (List.getElem?_eq_some_iff.1 hS).1)],rfl⟩
 ·have:k=l.length:=by omega
  subst this
  repeat' (first|(with_reducible first|refine uk ?_|refine wk ?_ ?_<;>intro _)|simp -implicitDefEqProofs(disch:=first|assumption|omega)[*])
  exact⟨x,J,by simp,by simp,xH hx (by simp) (by omega)⟩
theorem zeW {l:List (Frm)}{w:Frm→List UInt8}{m id:Nat}{L:List (Nat × AObj)}{g:FuncId}{pre post:List LV}(hl:l.length≤1000)(h:∀ k,k<l.length→Wrt Tryz.prog g (pre++(.agg [.int .i64 (nth l k).func,.int .i64 (nth l k).pc,row (nth l k).locals] :: post)) id L (w (nth l k)) m) :
  Wrt Tryz.prog 192 [.ptr id 0,row l,.fn (.func g) pre post] id L (zb l.length++l.flatMap w) (9+m*l.length):=fun S x v0 v bs B hL hS hx hB=>by
 refine wu.of ?_
 have hid:=(List.getElem?_eq_some_iff.1 hS).1
 have hat:=yg hS
 have hst:=zaJ hS
 have hself:=yY hS
 have hsame:=Jc hS
 have hset:∀ a b,(S.set id a).set id b=S.set id b:=fun a b=>by simp
 refine ac0 Tryz.func192 Tryz.ntmps192 ?_
 have hrs:Tryz.f192.results = #[]:=rfl
 repeat' (first|(with_reducible first|refine uk ?_|refine wk ?_ ?_<;>intro _|refine yy (vi (n:=l.length) (by omega)) EnvW.nil hS hx (by omega) (fun y x v hx=>?_))|simp -implicitDefEqProofs(disch:=first|assumption|omega)[*])
 refine yW (β:=LV × List AObj × List Nat) true l.length (fun k p=>WAt v0 p.2.2 (bs++zb l.length++(l.take k).flatMap w) p.1 (B+9+m*k)) (fun k p=>[(14,.int .i64 k),(15,.any),(16,.any),(17,.any),(7,.any),(18,.any),(19,.any),(20,.any),(21,.any)]) (fun _ p=>S.set id (.cells [p.1])++p.2.1) (fun _ p=>p.2.2) ?_ ?_
 ·exact⟨(x,[],v),by simpa using hx,fz0,by simp,rfl⟩
 clear hx
 rintro k ⟨x,J,v⟩ hk hx
 simp only at hx
 by_cases hlt:k<l.length
 ·have hh:=h k hlt
  have hm:m*k+m≤m*l.length:=by rw[← Nat.mul_succ];exact Nat.mul_le_mul_left m hlt
  have hlt':(k:Int)<l.length:=by omega
  have hxf:=zB (l:=l) (i:=(k:Int)) (by omega) (by omega)
  rw[Int.toNat_natCast] at hxf
  obtain⟨S',hS'⟩:∃ S',S.set id (.cells [x])++J=S':=⟨_,rfl⟩
  have hE:EnvW id L S':=hS' ▸ (hL.set _).app _
  have hS2:S'[id]? = some (.cells [x]):=hS' ▸ yg (hself _) _
  have hst2:=zaJ hS2
  have hat2:=yg hS2
  have hlen2:id<S'.length:=(List.getElem?_eq_some_iff.1 hS2).1
  rw[hS']
  clear hat hst hself hsame hset hid
  repeat' (first|(with_reducible first|refine uk ?_|refine wk ?_ ?_<;>intro _|refine yy hh (hE.app _) (hat2 _) hx (by omega) (fun y x v hx=>?_))|simp -implicitDefEqProofs(disch:=first|assumption|omega)[*])
  exact⟨hlt,(x,J++[.cells (Enc.enc (nth l k))],v),xH hx (by simp[za hlt]) (by rw[Nat.mul_succ];omega),fz,by subst hS';simp[List.set_append_left _ _ (show id<(S.set id _).length by simpa using (List.getElem?_eq_some_iff.1 hS).1)],rfl⟩
 ·have:k=l.length:=by omega
  subst this
  repeat' (first|(with_reducible first|refine uk ?_|refine wk ?_ ?_<;>intro _)|simp -implicitDefEqProofs(disch:=first|assumption|omega)[*])
  exact⟨x,J,by simp,by simp,xH hx (by simp) (by omega)⟩
theorem zeJ {l:List (Thr)}{w:Thr→List UInt8}{m id:Nat}{L:List (Nat × AObj)}{g:FuncId}{pre post:List LV}(hl:l.length≤1000)(h:∀ k,k<l.length→Wrt Tryz.prog g (pre++(.agg [.int .i64 (nth l k).state,.int .i64 (nth l k).on,row (nth l k).frames,row (nth l k).stack,.int .i64 (nth l k).code] :: post)) id L (w (nth l k)) m) :
  Wrt Tryz.prog 81 [.ptr id 0,row l,.fn (.func g) pre post] id L (zb l.length++l.flatMap w) (9+m*l.length):=fun S x v0 v bs B hL hS hx hB=>by
 refine wu.of ?_
 have hid:=(List.getElem?_eq_some_iff.1 hS).1
 have hat:=yg hS
 have hst:=zaJ hS
 have hself:=yY hS
 have hsame:=Jc hS
 have hset:∀ a b,(S.set id a).set id b=S.set id b:=fun a b=>by simp
 refine ac0 Tryz.func81 Tryz.ntmps81 ?_
 have hrs:Tryz.f81.results = #[]:=rfl
 repeat' (first|(with_reducible first|refine uk ?_|refine wk ?_ ?_<;>intro _|refine yy (vi (n:=l.length) (by omega)) EnvW.nil hS hx (by omega) (fun y x v hx=>?_))|simp -implicitDefEqProofs(disch:=first|assumption|omega)[*])
 refine yW (β:=LV × List AObj × List Nat) true l.length (fun k p=>WAt v0 p.2.2 (bs++zb l.length++(l.take k).flatMap w) p.1 (B+9+m*k)) (fun k p=>[(14,.int .i64 k),(15,.any),(16,.any),(17,.any),(7,.any),(18,.any),(19,.any),(20,.any),(21,.any)]) (fun _ p=>S.set id (.cells [p.1])++p.2.1) (fun _ p=>p.2.2) ?_ ?_
 ·exact⟨(x,[],v),by simpa using hx,fz0,by simp,rfl⟩
 clear hx
 rintro k ⟨x,J,v⟩ hk hx
 simp only at hx
 by_cases hlt:k<l.length
 ·have hh:=h k hlt
  have hm:m*k+m≤m*l.length:=by rw[← Nat.mul_succ];exact Nat.mul_le_mul_left m hlt
  have hlt':(k:Int)<l.length:=by omega
  have hxf:=zB (l:=l) (i:=(k:Int)) (by omega) (by omega)
  rw[Int.toNat_natCast] at hxf
  obtain⟨S',hS'⟩:∃ S',S.set id (.cells [x])++J=S':=⟨_,rfl⟩
  have hE:EnvW id L S':=hS' ▸ (hL.set _).app _
  have hS2:S'[id]? = some (.cells [x]):=hS' ▸ yg (hself _) _
  have hst2:=zaJ hS2
  have hat2:=yg hS2
  have hlen2:id<S'.length:=(List.getElem?_eq_some_iff.1 hS2).1
  rw[hS']
  clear hat hst hself hsame hset hid
  repeat' (first|(with_reducible first|refine uk ?_|refine wk ?_ ?_<;>intro _|refine yy hh (hE.app _) (hat2 _) hx (by omega) (fun y x v hx=>?_))|simp -implicitDefEqProofs(disch:=first|assumption|omega)[*])
  exact⟨hlt,(x,J++[.cells (Enc.enc (nth l k))],v),xH hx (by simp[za hlt]) (by rw[Nat.mul_succ];omega),fz,by subst hS';simp[List.set_append_left _ _ (show id<(S.set id _).length by simpa using (List.getElem?_eq_some_iff.1 hS).1)],rfl⟩
 ·have:k=l.length:=by omega
  subst this
  repeat' (first|(with_reducible first|refine uk ?_|refine wk ?_ ?_<;>intro _)|simp -implicitDefEqProofs(disch:=first|assumption|omega)[*])
  exact⟨x,J,by simp,by simp,xH hx (by simp) (by omega)⟩
@[simp] def P195:Nat→Plan
 | 3=>(.qs [0,1,2,3,4,5,6] .nil)
 | _=>.nil
theorem zaY {P:Program}{l:Nat}{args args':List LV}{s:List AObj}{v:List Nat}{Q:LV→List AObj→List Nat→Prop}(hw:yh args args')(h:QO P l args' s v Q):QO P l args s v Q:=
 fun C vs h1 h2 h3=>h C vs h1 h2 (hw.rel h3)
theorem ziV {l:List Int}{s:List AObj}{v:List Nat} :
  zp Tryz.prog 96 [row l,.int .i64 2] s v fun x s' v'=>x = .fn (.func 195) [] [.ptr s.length 0,.ptr (s.length+1) 0]∧s++[.cells [row l],.cells [.int .i64 2]]=s'∧v=v':=by
 refine ac0 Tryz.func96 Tryz.ntmps96 ?_
 have hrs:Tryz.f96.results = #[.tmp 4]:=rfl
 repeat' (first|(with_reducible first|refine uk ?_|refine wk ?_ ?_<;>intro _)|simp -implicitDefEqProofs(disch:=first|assumption|omega)[*])
theorem zhj {l i1 i2:Nat}{q:List Int}{J:Nat→List AObj→List Nat→Prop}{s:List AObj}{v:List Nat}(he:q.length%2=0)(hb:q.length≤1000000)(h0:J 0 s v)
  (hJ:∀ k s v,J k s v→s[i1]? = some (.cells [row q])∧s[i2]? = some (.cells [.int .i64 2]))
  (hY:∀ k s v,J k s v→2*k+1<q.length→QO Tryz.prog l [row [nth q (2*k),nth q (2*k+1)]] s v fun x s' v'=>x = .bool true∧J (k+1) s' v') :
  zp Tryz.prog 195 [.yld l,.ptr i1 0,.ptr i2 0] s v fun _ s' v'=>J (q.length/2) s' v':=by
 refine ac0 Tryz.func195 Tryz.ntmps195 ?_
 have hrs:Tryz.f195.results = #[]:=rfl
 repeat' (first|(with_reducible first|refine uk ?_|refine wk ?_ ?_<;>intro _|(refine dr P195 mixed ?_ ?_ ?_;kernel_rfl;kernel_rfl))|simp -implicitDefEqProofs(disch:=first|assumption|omega)[*])
 refine YK (β:=Nat × List AObj × List Nat) false (fun p=>2*p.1≤q.length∧J p.1 p.2.1 p.2.2) (fun p=>q.length-2*p.1) (fun p=>[(4,.int .i64 (2*p.1:Nat)),(6,.any),(7,.any),(8,.any),(9,.any),(13,.any),(14,.any),(15,.any),(16,.any),(17,.any),(18,.any),(5,.any),(19,.any),(20,.any),(21,.any),(22,.any),(23,.any),(24,.any),(25,.any),(26,.any),(27,.any),(28,.any),(29,.any),(30,.any),(10,.any),(11,.any),(12,.any)]) (fun p=>p.2.1) (fun p=>p.2.2) ?_ ?_
 ·exact⟨(0,s,v),⟨by simp,h0⟩,fz0,rfl,rfl⟩
 rintro⟨k,s1,v1⟩ ⟨hk,hJk⟩
 simp only at hk hJk
 obtain⟨a1,a2⟩:=hJ _ _ _ hJk
 by_cases hlt:2*k<q.length
 ·have hY':=hY _ _ _ hJk (by omega)
  have hsl:ya Tryz.prog 23 (row q) (some (.int .i64 (2*k:Nat))) (some (.int .i64 ((2*k:Nat)+2))) (some (.int .i64 ((2*k:Nat)+2)))=some (.imm 1 2 [.int .i64 (nth q (2*k)),.int .i64 (nth q (2*k+1))] .full):=by
   have hc:((zd q).drop (2*k)).take 2=[.int .i64 (nth q (2*k)),.int .i64 (nth q (2*k+1))]:=by
    have e1:zd (q.drop (2*k))=(zd q).drop (2*k):=by have:=wO q (2*k);simpa using this.symm
    rw[← e1,QE (by omega),QE (by omega),zy,zy]
    rfl
   unfold ya row
   simp[zP,oInt,QQ,hc]
   have t1:(2*(k:Int)).toNat=2*k:=by omega
   have t2:(2*(k:Int)+2).toNat=2*k+2:=by omega
   rw[t1,t2,show 2*k+2-2*k=2 by omega]
   exact⟨by omega,rfl,hc⟩
  generalize nth q (2*k)=a at *
  generalize nth q (2*k+1)=c at *
  have hw:Weak (.imm 1 2 [.int .i64 a,.int .i64 c] .full) (row [a,c]):=Weak.row (l:=[a,c]) (yh.refl _) rfl
  have hsl2:=KJ (P:=Tryz.prog) (t:=23) (κ:=.i64) (l:=q) (a:=(2*k:Nat)) (by omega) (by omega)
  have hlt':((2*k:Nat):Int)<q.length:=by omega
  have hdl:(q.drop ((2*k:Nat):Int).toNat).length=q.length-2*k:=by rw[List.length_drop];omega
  have hdl2:¬ ((q.length-2*k:Nat):Int)<2:=by omega
  generalize hm:2*k=m at *
  repeat' (first|(with_reducible first|refine uk ?_|refine wk ?_ ?_<;>intro _|(refine dr P195 mixed ?_ ?_ ?_;kernel_rfl;kernel_rfl))|simp -implicitDefEqProofs(disch:=first|assumption|omega)[*])
  refine zaY (args':=[row [a,c]]) ⟨hw,trivial⟩ (zbw hY' ?_)
  rintro _ s' v' ⟨rfl,hJ1⟩
  have b1:=(hJ _ _ _ hJ1).1
  have b2:=(hJ _ _ _ hJ1).2
  clear a1 a2
  repeat' (first|(with_reducible first|refine uk ?_|refine wk ?_ ?_<;>intro _|(refine dr P195 mixed ?_ ?_ ?_;kernel_rfl;kernel_rfl))|simp -implicitDefEqProofs(disch:=first|assumption|omega)[*])
  exact⟨(k+1,s',v'),by show q.length-2*(k+1)<q.length-m;omega,⟨by show 2*(k+1)≤q.length;omega,hJ1⟩,fz (h1:=by simp[zh,zu];omega),rfl,rfl⟩
 ·have hke:k=q.length/2:=by omega
  have hnl:¬ ((2*k:Nat):Int)<q.length:=by omega
  rw[hke] at hJk
  clear hke
  generalize hm:2*k=m at *
  repeat' (first|(with_reducible first|refine uk ?_|refine wk ?_ ?_<;>intro _|(refine dr P195 mixed ?_ ?_ ?_;kernel_rfl;kernel_rfl))|simp -implicitDefEqProofs(disch:=first|assumption|omega)[*])
def prs:List Int→List (List Int)
 | a :: b :: l=>[a,b] :: prs l
 | _=>[]
theorem JB:∀ l:List Int,(prs l).length=l.length/2
 | []=>rfl
 | [_]=>by simp[prs]
 | _ :: _ :: l=>by simp only[prs,List.length_cons,JB l];omega
theorem Yn:∀ (l:List Int) {k:Nat},k<l.length/2→nth (prs l) k=[nth l (2*k),nth l (2*k+1)]
 | [],_,h=>by simp at h
 | [_],_,h=>by simp at h
 | a :: b :: l,0,_=>rfl
 | a :: b :: l,k+1,h=>by
  have ih:=Yn l (k:=k) (by simp only[List.length_cons] at h;omega)
  rw[show 2*(k+1)=2*k+1+1 by omega]
  exact ih
set_option maxHeartbeats 8000000 in
theorem zgN {q:List Int}{i1 i2:Nat}{s:List AObj}(h1:s[i1]? = some (.cells [row q]))(h2:s[i2]? = some (.cells [.int .i64 2]))(he:q.length%2=0)(hb:q.length≤1000000) :
  Ret Tryz.prog 194 [.nils,.fn (.func 195) [] [.ptr i1 0,.ptr i2 0]] s (row (prs q)):=by
 refine .of fun v=>?_
 have hi1:=(List.getElem?_eq_some_iff.1 h1).1
 have hi2:=(List.getElem?_eq_some_iff.1 h2).1
 refine ac0 Tryz.func194 Tryz.ntmps194 ?_
 have hrs:Tryz.f194.results = #[.tmp 4]:=rfl
 repeat' (first|(with_reducible first|refine uk ?_|refine wk ?_ ?_<;>intro _)|simp -implicitDefEqProofs(disch:=first|assumption|omega)[*])
 show aW _ _ _ _ _ _
 refine zgX (g:=195) (fa:=[]) (ca:=[.ptr i1 0,.ptr i2 0]) (by simp[zh]) rfl ?_
 simp only[List.nil_append,List.append_assoc,List.cons_append,List.length_append,List.length_cons,List.length_nil]
 generalize hlo:ALoop.mk LoopState.ready none _ _ _ _ _=lo
 let J:Nat→List AObj→List Nat→Prop:=fun k s' v'=>∃ x K,s++(.cells [x] :: .loop lo :: K)=s'∧GroE v v' ((prs q).take k) x
 refine zj (zhj (J:=J) (q:=q) he hb ?_ ?_ ?_) ?_
 ·exact⟨.nils,[],rfl,GroE.nil _⟩
 ·rintro k _ _ ⟨x,K,rfl,_⟩
  exact⟨by rw[List.getElem?_append_left hi1];exact h1,by rw[List.getElem?_append_left hi2];exact h2⟩
 ·rintro k _ v1 ⟨x,K,rfl,hG⟩ hlt
  refine zdH (lp:=lo) (by rw[zL];rfl) (by subst hlo;rfl) (by subst hlo;simp) ?_
  have hla:=congrArg ALoop.assign hlo.symm
  have hbo:=congrArg ALoop.body hlo.symm
  have ht:=congrArg ALoop.tmps hlo.symm
  have hpa:=congrArg ALoop.params hlo.symm
  have hsz:=congrArg ALoop.size hlo.symm
  have hst':=congrArg ALoop.state hlo.symm
  have hpe:=congrArg ALoop.pending hlo.symm
  simp only at hla hbo ht hpa hsz hst' hpe
  rw[hla,hbo,hsz,hpa,ht]
  clear hla hbo ht
  have hpl:=JB q
  have hes:(prs q).take (k+1)=(prs q).take k++[[nth q (2*k),nth q (2*k+1)]]:=by rw[za (by omega),Yn q (by omega)]
  obtain⟨x2,v2,g2,_,gb⟩:=hG.push (P:=Tryz.prog) (t:=24) (t2:=24) (sz:=1) (by_:=24) (by kernel_rfl) rfl (by omega) [nth q (2*k),nth q (2*k+1)] (by simp;omega)
  rw[← hes] at g2
  simp only[zhx] at gb
  have hgc:=g2.gro.cells
  have hgc0:=hG.gro.cells
  clear hes
  generalize [nth q (2*k),nth q (2*k+1)]=el at *
  refine wt (own:=false) _ _ _ (show go _ ⟨⟩ _ from ?_)
  simp only[List.toList_toArray,List.zip_cons_cons,List.zip_nil_right,List.zip_nil_left,wV,List.foldl_cons,List.foldl_nil]
  repeat' (first|(with_reducible first|refine uk ?_|refine wk ?_ ?_<;>intro _)|simp -implicitDefEqProofs(disch:=first|assumption|omega)[*])
  refine wt (own:=false) _ _ _ (show go _ ⟨⟩ _ from ?_)
  repeat' (first|(with_reducible first|refine uk ?_|refine wk ?_ ?_<;>intro _)|simp -implicitDefEqProofs(disch:=first|assumption|omega)[*])
  have hlo2:(⟨.ready,none,lo.tmps,13, #[7],lo.assign,lo.body⟩:ALoop)=lo:=by
   cases lo;simp only at hst' hpe hsz hpa;subst hst';subst hpe;subst hsz;subst hpa;rfl
  refine⟨_,by rw[zL];rfl,rfl,x2,K,?_,g2⟩
  rw[vU]
  simp only[List.set_cons_succ,List.set_cons_zero,hlo2]
 ·rintro _ _ _ ⟨x,K,rfl,hG⟩
  have hfull:(prs q).take (q.length/2)=prs q:=List.take_of_length_le (by rw[JB];omega)
  rw[hfull] at hG
  have hgu:=hG.gro
  have hgc:=hG.gro.cells
  have hpe:lo.pending=none:=by subst hlo;rfl
  refine⟨lo,by rw[zL];rfl,by subst hlo;simp,?_⟩
  rw[hpe,vU]
  simp only[List.set_cons_succ,List.set_cons_zero]
  generalize AObj.loop _=ob
  refine(show go (zE 0 (aSeq Tryz.prog none _ false _ _) .normal) ⟨⟩ ⟨_,_,_⟩ from ?_)
  repeat' (first|(with_reducible first|refine uk ?_|refine wk ?_ ?_<;>intro _)|simp -implicitDefEqProofs(disch:=first|assumption|omega)[*])
  exact Ends.at (hgu.under _) hgu.weak hgu.pre
theorem zgf {q:List Int}{i1 i2:Nat}{s:List AObj}(h1:s[i1]? = some (.cells [row q]))(h2:s[i2]? = some (.cells [.int .i64 2]))(he:q.length%2=0)(hb:q.length≤1000000) :
  Ret Tryz.prog 95 [.fn (.func 195) [] [.ptr i1 0,.ptr i2 0]] s (row (prs q)):=by
 refine .of fun v=>?_
 have hc:=zgN h1 h2 he hb
 generalize prs q=l at *
 refine ac0 Tryz.func95 Tryz.ntmps95 ?_
 have hrs:Tryz.f95.results = #[.tmp 2]:=rfl
 repeat' (first|(with_reducible first|refine uk ?_|refine wk ?_ ?_<;>intro _|refine yE hc (fun v2 hv2=>?_))|simp -implicitDefEqProofs(disch:=first|assumption|omega)[*])
 exact Ends.eq rfl (by simp) hv2
theorem zfM {l:List Int}{id:Nat}(hl:l.length≤1000):Wrt Tryz.prog 85 [.ptr id 0,row l,.fn (.func 88) [.ptr id 0] []] id [] (sgnB l) (9+9*l.length):=uz hl fun k _=>Jg
theorem zgA {l:List Int}{id:Nat}(hl:RowW l):Wrt Tryz.prog 85 [.ptr id 0,row l,.fn (.func 79) [.ptr id 0] []] id [] (yz l) (9+9*l.length):=uz (by have:=hl.1;omega) fun k hk=>vi (hl.2 k hk)
theorem zmu {f:Frm}{id iw:Nat}(h:f.func≤9223372036854775807∧f.pc≤9223372036854775807∧f.locals.length≤8):Wrt Tryz.prog 193 [.agg [.int .i64 f.func,.int .i64 f.pc,row f.locals],.ptr iw 0] id [(iw,.cells [.ptr id 0])] (frmB f) 100:=fun S x v0 v bs B hL hS hx hB=>by
 refine wu.of ?_
 have hid:=(List.getElem?_eq_some_iff.1 hS).1;have hat:=yg hS;have hself:=yY hS;have s1:=sw1 hid;have s3:=sw3 hid;have s4:=sw4 hid;have s6:=sw6 (S:=S) (id:=id);have s7:=sw7 (S:=S) (id:=id)
 obtain⟨n1,g1⟩:=hL _ (List.mem_cons_self)
 have hi:=yg g1
 have hi8:=sw8 n1 g1
 obtain⟨h1,h2,h3⟩:=h
 have hw:=zfM (l:=f.locals) (id:=id) (by omega)
 refine ac0 Tryz.func193 Tryz.ntmps193 ?_
 have hrs:Tryz.f193.results = #[]:=rfl
 repeat' (first|(with_reducible first|refine uk ?_|refine wk ?_ ?_<;>intro _|refine yy (vi (by omega)) EnvW.nil (by first|exact hS|exact hat _|exact hself _|exact s4 _ _) hx (by omega) (fun y x v hx=>?_)|refine yy hw EnvW.nil (by first|exact hS|exact hat _|exact hself _|exact s4 _ _) hx (by omega) (fun y x v hx=>?_))|simp -implicitDefEqProofs(disch:=first|assumption|omega)[*])
 exact⟨x,_,rfl,by simp,xH hx (by simp[frmB]) (by omega)⟩
theorem zms {t:Thr}{id:Nat}(h:WrT t):Wrt Tryz.prog 83 [.ptr id 0,.agg [.int .i64 t.state,.int .i64 t.on,row t.frames,row t.stack,.int .i64 t.code]] id [] (KM t) 2000:=fun S x v0 v bs B hL hS hx hB=>by
 refine wu.of ?_
 have hid:=(List.getElem?_eq_some_iff.1 hS).1;have hat:=yg hS;have hself:=yY hS;have s1:=sw1 hid;have s3:=sw3 hid;have s4:=sw4 hid;have s6:=sw6 (S:=S) (id:=id);have s7:=sw7 (S:=S) (id:=id)
 have h1:=h.st
 have h2:=h.code
 have h3:=h.fr
 have h4:=h.sk
 have hw:=zfM (l:=t.stack) (id:=id) (by omega)
 have hf:=zeW (l:=t.frames) (w:=frmB) (m:=100) (id:=id) (L:=[(S.length,.cells [.ptr id 0])]) (g:=193) (pre:=[]) (post:=[.ptr S.length 0]) (by omega) fun k hk=>zmu (h.frs _ (zm hk))
 have hE2:∀ o J,EnvW id [(S.length,.cells [.ptr id 0])] (S.set id o++(.cells [.ptr id 0] :: J)):=fun o J=>.cons (by omega) (by rw[s6];rfl) .nil
 clear h
 refine ac0 Tryz.func83 Tryz.ntmps83 ?_
 have hrs:Tryz.f83.results = #[]:=rfl
 repeat' (first|(with_reducible first|refine uk ?_|refine wk ?_ ?_<;>intro _|refine yy (vi (by omega)) EnvW.nil (by first|exact hS|exact hat _|exact hself _|exact s4 _ _) hx (by omega) (fun y x v hx=>?_)|refine yy Jg EnvW.nil (by first|exact hS|exact hat _|exact hself _|exact s4 _ _) hx (by omega) (fun y x v hx=>?_)|refine yy hw EnvW.nil (by first|exact hS|exact hat _|exact hself _|exact s4 _ _) hx (by omega) (fun y x v hx=>?_)|refine yy hf (by first|exact EnvW.nil|exact hE _|exact hE2 _ _) (by first|exact hS|exact hat _|exact hself _|exact s4 _ _) hx (by omega) (fun y x v hx=>?_))|simp -implicitDefEqProofs(disch:=first|assumption|omega)[*])
 exact⟨x,_,rfl,by simp,xH hx (by simp[KM,sgnB]) (by omega)⟩
theorem zlJ {t:Thr}{id iw:Nat}(h:WrT t):Wrt Tryz.prog 82 [.agg [.int .i64 t.state,.int .i64 t.on,row t.frames,row t.stack,.int .i64 t.code],.ptr iw 0] id [(iw,.cells [.ptr id 0])] (KM t) 2000:=fun S x v0 v bs B hL hS hx hB=>by
 refine wu.of ?_
 have hid:=(List.getElem?_eq_some_iff.1 hS).1;have hat:=yg hS;have hself:=yY hS;have s1:=sw1 hid;have s3:=sw3 hid;have s4:=sw4 hid;have s6:=sw6 (S:=S) (id:=id);have s7:=sw7 (S:=S) (id:=id)
 obtain⟨n1,g1⟩:=hL _ (List.mem_cons_self)
 have hi:=yg g1
 have hi8:=sw8 n1 g1
 have hw:=zms (id:=id) h
 clear h
 refine ac0 Tryz.func82 Tryz.ntmps82 ?_
 have hrs:Tryz.f82.results = #[]:=rfl
 repeat' (first|(with_reducible first|refine uk ?_|refine wk ?_ ?_<;>intro _|refine yy hw EnvW.nil (by first|exact hS|exact hat _|exact hself _|exact s4 _ _) hx (by omega) (fun y x v hx=>?_))|simp -implicitDefEqProofs(disch:=first|assumption|omega)[*])
 exact⟨x,_,rfl,by simp,hx⟩
theorem zlp {ep now:Int}{id ix_ ic:Nat}{X C:List LV}(he:ep≤9223372036854775807)(hn:now≤9223372036854775807)(hx2:X[1]? = some (.int .i64 ep))(hc2:C[0]? = some (.int .i64 now)):Wrt Tryz.prog 78 [.ptr id 0,.ptr ix_ 0,.ptr ic 0] id [(ix_,.cells X),(ic,.cells C)] (zb ep++zb now) 18:=fun S x v0 v bs B hL hS hx hB=>by
 refine wu.of ?_
 have hid:=(List.getElem?_eq_some_iff.1 hS).1;have hat:=yg hS;have hself:=yY hS;have s1:=sw1 hid;have s3:=sw3 hid;have s4:=sw4 hid;have s6:=sw6 (S:=S) (id:=id);have s7:=sw7 (S:=S) (id:=id)
 obtain⟨n1,g1⟩:=hL _ (List.mem_cons_self)
 obtain⟨n2,g2⟩:=hL _ (List.mem_cons_of_mem _ (List.mem_cons_self))
 have hi:=yg g1
 have hi8:=sw8 n1 g1
 have hj:=yg g2
 have hj8:=sw8 n2 g2
 have hj9:∀ o,(S.set id o)[ic]? = some (.cells C):=fun o=>by simpa using hj8 o []
 refine ac0 Tryz.func78 Tryz.ntmps78 ?_
 have hrs:Tryz.f78.results = #[]:=rfl
 repeat' (first|(with_reducible first|refine uk ?_|refine wk ?_ ?_<;>intro _|refine yy (vi (by omega)) EnvW.nil (by first|exact hS|exact hat _|exact hself _|exact s4 _ _) hx (by omega) (fun y x v hx=>?_))|simp -implicitDefEqProofs(disch:=first|assumption|omega)[*])
 exact⟨x,[],by simp,by simp,xH hx (by simp) (by omega)⟩
theorem zlr {c:Cor}{id ic:Nat}(h:WrC c):Wrt Tryz.prog 80 [.ptr id 0,.ptr ic 0] id [(ic,AObj.cells [.int .i64 c.now,row c.threads,row c.owners,row c.counts,row c.bufs,row c.lockq,row c.waitq,row c.downq,row c.sendq,row c.recvq])] (KL c) 200009:=fun S x v0 v bs B hL hS hx hB=>by
 refine wu.of ?_
 have hid:=(List.getElem?_eq_some_iff.1 hS).1;have hat:=yg hS;have hself:=yY hS;have s1:=sw1 hid;have s3:=sw3 hid;have s4:=sw4 hid;have s6:=sw6 (S:=S) (id:=id);have s7:=sw7 (S:=S) (id:=id)
 obtain⟨n1,g1⟩:=hL _ (List.mem_cons_self)
 have hi:=yg g1
 have hi8:=sw8 n1 g1
 have ht:=h.threads
 have hf:=zeJ (l:=c.threads) (w:=KM) (m:=2000) (id:=id) (L:=[(S.length,.cells [.ptr id 0])]) (g:=82) (pre:=[]) (post:=[.ptr S.length 0]) (by omega) fun k hk=>zlJ (h.thr _ (zm hk))
 have hE:∀ J,EnvW id [(S.length,.cells [.ptr id 0])] (S++(.cells [.ptr id 0] :: J)):=fun J=>.cons (by omega) (by rw[xy];rfl) .nil
 clear h
 refine ac0 Tryz.func80 Tryz.ntmps80 ?_
 have hrs:Tryz.f80.results = #[]:=rfl
 repeat' (first|(with_reducible first|refine uk ?_|refine wk ?_ ?_<;>intro _|refine yy hf (by first|exact EnvW.nil|exact hE _|exact hE2 _ _) (by first|exact hS|exact hat _|exact hself _|exact s4 _ _) hx (by omega) (fun y x v hx=>?_))|simp -implicitDefEqProofs(disch:=first|assumption|omega)[*])
 exact⟨x,_,rfl,by simp,xH hx (by simp[KL]) (by omega)⟩
end Go.Hb
end
