/-
  A layer for reasoning about the program's calls, and contracts of its functions. CONDITIONS: none; each theorem bears its own.
-/
import Derived.Test.YtieoaonaijbijaaGreatG11
import Derived.Test.YtieoaonaijbijaaGreatG05
import Derived.Test.YtieoaonaijbijaaGreatG04
import Derived.Test.YtieoaonaijbijaaGreatG16
import Derived.Test.YtieoaonaijbijaaGreatG14
import Derived.Test.YtieoaonaijbijaaGreatG15
import Derived.Test.YtieoaonaijbijaaGreatG06
import Derived.Test.YtieoaonaijbijaaGreatG09
set_option linter.unusedVariables false
set_option linter.unusedSimpArgs false
section
namespace Go.Hb
open Go Go.Proofs Go.RowKit
set_option maxRecDepth 100000
set_option maxHeartbeats 800000
attribute [-simp] aC aL xq yp zE aIf yr zR aLen zt ya zQ zP lBr aq yP aev zk zw zF zI LV.cells LV.cellsOk getElem?_pos getElem?_neg
section
open Go.ChangeShapes Go.WideShapes
def ziK (i:Ins):Prop:=I64 i.op∧I64 i.a
def OkFn (f:Fn_):Prop:=I64 f.locals∧(∀ i∈f.code,ziK i)∧f.code.length*8≤140737488351232
def wB {α : Type}(ok:α→Prop)(l:List α):Prop:=(∀ a∈l,ok a)∧l.length*8≤140737488351232
theorem wB.of {α : Type}{ok:α→Prop}{l:List α}{b:Nat}(hb:8≤b)(h:(∀ a∈l,ok a)∧l.length≤maxLen∧l.length*b≤reachBytes):wB ok l:=by
 refine⟨h.1,?_⟩
 have h1:=Nat.mul_le_mul_left l.length hb
 have h2:=h.2.2
 have e:reachBytes=140737488351232:=by decide
 omega
def Qj (p:Prog):Prop:=wB OkFn p.funcs∧I64 p.mutexes∧wB I64 p.conds∧wB I64 p.semas∧wB I64 p.chans∧wB (wB I64) p.choices∧I64 p.threads
section
variable {H:Type} {enc:TypeId × Value→H} {W:World}
theorem xx:ui enc Tryz.prog W 3 I64 (fun n=>[.int .i64 n]):=zdB Tryz.underlying3
theorem zdK:ui enc Tryz.prog W 136 ziK Ins.lv:=by
 refine xQ (fun p:Int × Int × Unit=>(⟨p.1,p.2.1⟩:Ins)) (uJ Tryz.underlying136 (N:=2) (by kernel_rfl)
  (yo (m:=1) rfl (by kernel_rfl) xx (yo (m:=1) rfl (by kernel_rfl) xx (Qy 2)))) ?_
 rintro⟨a,b,u⟩ ⟨h1,h2,_⟩
 exact⟨⟨h1,h2⟩,rfl⟩
theorem zdd:ui enc Tryz.prog W 132 (wB ziK) (fun l=>[row l]):=
 xQ id (vP Tryz.underlying132 (m := 2) (by kernel_rfl) (by omega) (fun _ _ => rfl) zdK) fun l h => ⟨wB.of (by decide +kernel) h, rfl⟩
theorem zhU:ui enc Tryz.prog W 134 OkFn Fn_.lv:=by
 refine xQ (fun p:Int × List Ins × Unit=>(⟨p.1,p.2.1⟩:Fn_)) (uJ Tryz.underlying134 (N:=2) (by kernel_rfl)
  (yo (m:=1) rfl (by kernel_rfl) xx (yo (m:=1) rfl (by kernel_rfl) zdd (Qy 2)))) ?_
 rintro⟨a,b,u⟩ ⟨h1,h2,_⟩
 exact⟨⟨h1,h2⟩,rfl⟩
theorem zfc:ui enc Tryz.prog W 22 (wB OkFn) (fun l=>[row l]):=
 xQ id (vP Tryz.underlying22 (m := 2) (by kernel_rfl) (by omega) (fun _ _ => rfl) zhU) fun l h => ⟨wB.of (by decide +kernel) h, rfl⟩
theorem vF:ui enc Tryz.prog W 23 (wB I64) (fun l=>[row l]):=
 xQ id (vP Tryz.underlying23 (m := 1) (by kernel_rfl) (by omega) (fun _ _ => rfl) xx) fun l h => ⟨wB.of (by decide +kernel) h, rfl⟩
theorem zaX:ui enc Tryz.prog W 24 (wB (wB I64)) (fun l=>[row l]):=
 xQ id (vP Tryz.underlying24 (m := 1) (by kernel_rfl) (by omega) (fun _ _ => rfl) vF) fun l h => ⟨wB.of (by decide +kernel) h, rfl⟩
theorem zdu:ui enc Tryz.prog W 26 Qj Prog.lv:=by
 refine xQ (fun p:List Fn_ × Int × List Int × List Int × List Int × List (List Int) × Int × Unit=>(⟨p.1,p.2.1,p.2.2.1,p.2.2.2.1,p.2.2.2.2.1,p.2.2.2.2.2.1,p.2.2.2.2.2.2.1⟩:Prog)) (uJ Tryz.underlying26 (N:=7) (by kernel_rfl)
  (yo (m:=1) rfl (by kernel_rfl) zfc (yo (m:=1) rfl (by kernel_rfl) xx (yo (m:=1) rfl (by kernel_rfl) vF (yo (m:=1) rfl (by kernel_rfl) vF (yo (m:=1) rfl (by kernel_rfl) vF
  (yo (m:=1) rfl (by kernel_rfl) zaX (yo (m:=1) rfl (by kernel_rfl) xx (Qy 7))))))))) ?_
 rintro⟨a,b,c,d,e,f,g,u⟩ ⟨h1,h2,h3,h4,h5,h6,h7,_⟩
 exact⟨⟨h1,h2,h3,h4,h5,h6,h7⟩,rfl⟩
end
end
theorem ziW {p:Prog}(h:Qj p):zG Tryz.prog 31 [.agg p.lv] (.agg (good p).lv):=by
 obtain⟨⟨h1,k1⟩,h2,⟨h3,k3⟩,⟨h4,k4⟩,⟨h5,k5⟩,⟨h6,k6⟩,h7⟩:=h
 obtain⟨fs,mu,co,se,ch,cho,th⟩:=p
 simp only at *
 refine zlQ (by simp only;omega) (by simp only;omega) (by simp only;omega) (by simp only;omega) (by simp only;omega) (fun l hl=>⟨by have:=(h6 l hl).2;omega,(h6 l hl).1⟩) h2 h7 h3 h4 h5 (fun f hf=>?_)
 obtain⟨a,b,c⟩:=h1 f hf
 exact⟨a,by omega,b⟩
theorem zfL {a b:List UInt8}(ha:a.length≤9223372036854775807):zM Tryz.prog 15 [row a,row b] (.bool (decide (a=b))):=by
 refine .of fun s v=>?_
 refine ac0 Tryz.func15 Tryz.ntmps15 ?_
 have hrs:Tryz.f15.results = #[.tmp 4]:=rfl
 by_cases hl:a.length=b.length
 ·repeat' (first|(with_reducible first|refine uk ?_|refine wk ?_ ?_<;>intro _|(refine dr P15 mixed ?_ ?_ ?_;kernel_rfl;kernel_rfl))|simp -implicitDefEqProofs(disch:=first|assumption|omega)[*])
  refine zC (β:=Unit) false a.length (fun k _=>a.take k=b.take k) (fun k _=>[(5,.int .i64 k),(11,.any),(12,.any),(13,.any),(14,.any),(17,.any),(18,.any),(19,.any),(20,.any),(21,.any),(22,.any),(23,.any),(24,.any),(25,.any),(4,.any),(15,.any),(16,.any)]) (fun _ _=>s) (fun _ _=>v) ?_ ?_
  ·exact⟨(),by simp,fz0,rfl,rfl⟩
  rintro k _ hk hI
  by_cases hlt:k<a.length
  ·have hlb:k<b.length:=by omega
   by_cases hn:nth a k=nth b k
   ·repeat' (first|(with_reducible first|refine uk ?_|refine wk ?_ ?_<;>intro _|(refine dr P15 mixed ?_ ?_ ?_;kernel_rfl;kernel_rfl))|simp -implicitDefEqProofs(disch:=first|assumption|omega)[*])
    exact⟨hlt,(),by show a.take (k+1)=b.take (k+1);rw[za hlt,za hlb,hI,hn],fz,rfl,rfl⟩
   ·have hne:((nth a k).toNat:Int)≠((nth b k).toNat:Int):=by
     intro h;apply hn;apply UInt8.toNat_inj.1;omega
    have hd:a≠b:=by rintro rfl;exact hn rfl
    repeat' (first|(with_reducible first|refine uk ?_|refine wk ?_ ?_<;>intro _|(refine dr P15 mixed ?_ ?_ ?_;kernel_rfl;kernel_rfl))|simp -implicitDefEqProofs(disch:=first|assumption|omega)[*])
    exact zn.eq (by simp[hd]) (by simp)
  ·have:k=a.length:=by omega
   subst this
   have hd:a=b:=by rw[List.take_of_length_le (Nat.le_refl _),List.take_of_length_le (by omega)] at hI;exact hI
   repeat' (first|(with_reducible first|refine uk ?_|refine wk ?_ ?_<;>intro _|(refine dr P15 mixed ?_ ?_ ?_;kernel_rfl;kernel_rfl))|simp -implicitDefEqProofs(disch:=first|assumption|omega)[*])
   exact zn.eq (by simp[hd]) (by simp)
 ·have hd:a≠b:=by rintro rfl;exact hl rfl
  have hl':(a.length:Int)≠b.length:=by omega
  repeat' (first|(with_reducible first|refine uk ?_|refine wk ?_ ?_<;>intro _|(refine dr P15 mixed ?_ ?_ ?_;kernel_rfl;kernel_rfl))|simp -implicitDefEqProofs(disch:=first|assumption|omega)[*])
  exact zn.eq (by simp[hd]) (by simp)
theorem zid {p:Prog}(h:Qj p):zG Tryz.prog 44 [.agg p.lv] (.bool (mayP p)):=by
 obtain⟨⟨h1,k1⟩,h2,⟨h3,k3⟩,⟨h4,k4⟩,⟨h5,k5⟩,⟨h6,k6⟩,h7⟩:=h
 obtain⟨fs,mu,co,se,ch,cho,th⟩:=p
 simp only at *
 refine zlz (by simp only;omega) (by simp only;omega) (by simp only;omega) (by simp only;omega) (by simp only;omega) h2 fun hc k hk=>?_
 have:=(h6 (nth cho k) (by rw[zK hk];exact List.getElem_mem hk)).2
 exact zeS (by unfold maxLen;simp only;omega) (by simp only;omega) hc
theorem QG {l:List Int}{to:Int}(h:yf l to=true)(ht:to≤1000):∀ x∈l,I64 x:=by
 unfold yf at h
 rw[List.all_eq_true] at h
 intro x hx
 have:=h x hx
 simp only[Bool.and_eq_true,decide_eq_true_eq] at this
 constructor<;>omega
theorem QF {p:Prog}(h:mayP p=true):Qj p:=by
 obtain⟨fs,mu,co,se,ch,cho,th⟩:=p
 unfold mayP at h
 simp only[Bool.and_eq_true,decide_eq_true_eq] at h
 obtain⟨⟨⟨⟨⟨⟨⟨⟨⟨⟨⟨⟨⟨⟨p1,p2⟩,p3⟩,p4⟩,p5⟩,p6⟩,p7⟩,p8⟩,p9⟩,p10⟩,p11⟩,p12⟩,p13⟩,p14⟩,p15⟩:=h
 show wB OkFn fs∧I64 mu∧wB I64 co∧wB I64 se∧wB I64 ch∧wB (wB I64) cho∧I64 th
 refine⟨⟨fun f hf=>?_,by omega⟩,⟨by omega,by omega⟩,⟨QG p11 (by omega),by omega⟩,⟨QG p12 (by omega),by omega⟩,⟨QG p13 (by omega),by omega⟩,⟨fun l hl=>?_,by omega⟩,⟨by omega,by omega⟩⟩
 ·have:=List.all_eq_true.1 p15 f hf
  unfold mayF at this
  simp only[Bool.and_eq_true,decide_eq_true_eq] at this
  obtain⟨⟨⟨q1,q2⟩,q3⟩,q4⟩:=this
  refine⟨⟨by omega,by omega⟩,fun i hi=>?_,by omega⟩
  have q5:=List.all_eq_true.1 q4 i hi
  unfold mayI at q5
  simp only[Bool.and_eq_true,decide_eq_true_eq] at q5
  obtain⟨⟨r1,r2⟩,r3⟩:=q5
  refine⟨⟨by omega,by omega⟩,?_⟩
  have hmost:most ⟨fs,mu,co,se,ch,cho,th⟩ f i.op≤1073741825:=by
   unfold most vZ
   repeat' split
   all_goals ((try simp only);omega)
  split at r3
  ·split at r3
   ·simp at r3;constructor<;>omega
   ·simp at r3;constructor<;>omega
  ·simp at r3;constructor<;>omega
 ·have:=List.all_eq_true.1 p14 l hl
  unfold wz at this
  simp only[Bool.and_eq_true,decide_eq_true_eq] at this
  obtain⟨⟨⟨q1,q2⟩,q3⟩,q4⟩:=this
  exact⟨QG q1 (by omega),by omega⟩
theorem zcH {α β : Type}{f:α→List β}{n:Nat} : ∀ {l:List α},(∀ x∈l,(f x).length≤n)→(l.flatMap f).length≤l.length*n
 | [],_=>by simp
 | x :: l,h=>by
  have h1:=h x (by simp)
  have h2:=zcH (f:=f) (n:=n) (l:=l) fun y hy=>h y (by simp[hy])
  rw[List.flatMap_cons,List.length_append,List.length_cons,Nat.add_mul]
  omega
theorem JW {α β : Type}{f:α→List β}{n m:Nat}{l:List α}(h:∀ x∈l,(f x).length≤n)(hl:l.length≤m):(l.flatMap f).length≤m*n:=Nat.le_trans (zcH h) (Nat.mul_le_mul_right n hl)
theorem QY {p:Prog}(h:mayP p=true):(ue p).length≤20000:=by
 obtain⟨fs,mu,co,se,ch,cho,th⟩:=p
 obtain⟨q1,q2,q3,q4,q5,q6,q7,q8,q9,q10,q11,q12,q13,q14⟩:=ZN h
 have hl:∀ l:List Int,l.length≤8→(∀ k<l.length,nth l k≤9223372036854775807)→(yz l).length≤81:=fun l h1 h2=>by
  have:=vY h2 (by omega)
  omega
 have h1:(fs.flatMap fnB).length≤16*658:=JW (fun f hf=>by
  obtain⟨k,hk,rfl⟩:=List.getElem_of_mem hf
  have a1:=q13 k hk
  have a2:=q14 k hk
  rw[zK hk] at a1 a2
  have b1:=zq (n:=fs[k].locals) (by omega)
  have b2:=zq (n:=fs[k].code.length) (by omega)
  have b3:(fs[k].code.flatMap insB).length≤64*10:=JW (fun i _=>by have:=yq (n:=i.a);simp only[insB,List.length_cons];omega) a2
  simp only[fnB,List.length_append];omega) q1
 have h2:(cho.flatMap yz).length≤8*81:=JW (fun l hl'=>by
  obtain⟨k,hk,rfl⟩:=List.getElem_of_mem hl'
  have a1:=q11 k hk
  have a2:=q12 k hk
  rw[zK hk] at a1 a2
  exact hl _ a1 a2) q6
 have h3:=hl co q3 q8
 have h4:=hl se q4 q9
 have h5:=hl ch q5 q10
 have h6:=zq (n:=fs.length) (by omega)
 have h7:=zq (n:=mu) (by omega)
 have h8:=zq (n:=th) (by omega)
 have h9:=zq (n:=cho.length) (by omega)
 simp only[ue,List.length_append]
 omega
theorem ZQ (n:Int):zM Tryz.prog 113 [.int .i64 n] (.int .i64 (keep n)):=by
 refine .of fun s v=>?_
 refine ac0 Tryz.func113 Tryz.ntmps113 ?_
 have hrs:Tryz.f113.results = #[.tmp 2]:=rfl
 repeat' (first|(with_reducible first|refine uk ?_|refine wk ?_ ?_<;>intro _)|simp -implicitDefEqProofs(disch:=first|assumption|omega)[*])
 all_goals exact zn.eq (by simp[keep, *]) (by simp)
theorem Ym (c:Int):zM Tryz.prog 271 [.int .i64 c] (.agg (zO c).lv):=by
 refine .of fun s v=>?_
 refine ac0 Tryz.func271 Tryz.ntmps271 ?_
 have hrs:Tryz.f271.results = #[.cell 2 73]:=rfl
 repeat' (first|(with_reducible first|refine uk ?_|refine wk ?_ ?_<;>intro _)|simp -implicitDefEqProofs(disch:=first|assumption|omega)[*])
 refine zn.at (by simp) (Weak.agg ?_)
 exact⟨Weak.refl _,Weak.refl _,Weak.nilrow,Weak.nilrow,Weak.refl _,trivial⟩
theorem zeG {fs:List Fn_}{mu th f:Int}{co se ch:List Int}{cho:List (List Int)}(h0:0≤f)(h1:f<fs.length)(h2:0≤(nth fs f.toNat).locals)(h3:(nth fs f.toNat).locals≤8) :
  zM Tryz.prog 201 [.agg [row fs,.int .i64 mu,row co,row se,row ch,row cho,.int .i64 th],.int .i64 f] (.agg [.int .i64 f,.int .i64 0,row (List.replicate (nth fs f.toNat).locals.toNat (0:Int))]):=by
 intro s v
 have hb1:(nth fs f.toNat).locals*8≤140737488355328:=by omega
 have hb2:(nth fs f.toNat).locals≤140737488355328:=by omega
 refine zS (xp ?_)
 refine ac0 Tryz.func201 Tryz.ntmps201 ?_
 have hrs:Tryz.f201.results = #[.cell 4 75]:=rfl
 have hx:=zB h0 h1
 repeat' (first|(with_reducible first|refine uk ?_|refine wk ?_ ?_<;>intro _)|simp -implicitDefEqProofs(disch:=first|assumption|omega)[*])
 generalize (nth fs f.toNat).locals.toNat=n at *
 by_cases hn:n=0
 ·subst hn
  exact⟨.agg [.int .i64 f,.int .i64 0,row ([]:List Int)],Weak.agg ⟨Weak.refl _,Weak.refl _,Weak.ref0 _ _ _ _,trivial⟩,_,wF.refl _,⟨_,rfl⟩,.agg _ _ (.cons _ _ _ _ (.keep _ rfl) (.cons _ _ _ _ (.keep _ rfl) (.cons _ _ _ _ (.keep _ rfl) .nil)))⟩
 ·refine⟨_,Weak.refl _,_,wF.refl _,⟨_,rfl⟩,.agg _ _ (.cons _ _ _ _ (.keep _ rfl) (.cons _ _ _ _ (.keep _ rfl) (.cons _ _ _ _ ?_ .nil)))⟩
  have:=DeepV.ref_row (S:=s++[AObj.cells [row fs,LV.int IntKind.i64 mu,row co,row se,row ch,row cho,LV.int IntKind.i64 th],AObj.cells [LV.int IntKind.i64 f,LV.int IntKind.i64 0,LV.ref 1 (s.length+2) 0 n true],AObj.cells (xz [LV.int IntKind.i64 0] n)]) (n:=s.length) (id:=s.length+2) (fl:=true) (l:=List.replicate n (0:Int)) (by omega) (by rw[zL,← zdS];rfl) (by simp[← List.length_eq_zero_iff,zY,hn])
  simpa using this
theorem zch {fs:List Fn_}{mu th f:Int}{co se ch:List Int}{cho:List (List Int)}(h0:0≤f)(h1:f<fs.length)(h2:0≤(nth fs f.toNat).locals)(h3:(nth fs f.toNat).locals≤8) :
  zM Tryz.prog 106 [.agg [row fs,.int .i64 mu,row co,row se,row ch,row cho,.int .i64 th],.int .i64 f] (.agg (zU ⟨fs,mu,co,se,ch,cho,th⟩ f).lv):=by
 refine .of fun s v=>?_
 have hf:=zeG (mu:=mu) (th:=th) (co:=co) (se:=se) (ch:=ch) (cho:=cho) h0 h1 h2 h3
 refine ac0 Tryz.func106 Tryz.ntmps106 ?_
 have hrs:Tryz.f106.results = #[.cell 4 73]:=rfl
 repeat' (first|(with_reducible first|refine uk ?_|refine wk ?_ ?_<;>intro _|refine zc hf ?_)|simp -implicitDefEqProofs(disch:=first|assumption|omega)[*])
 refine zn.at (by simp) (Weak.agg ⟨Weak.refl _,Weak.refl _,?_,Weak.nilrow,Weak.refl _,trivial⟩)
 refine Weak.row (α:=Frm) ?_ rfl
 unfold zU
 rw[zy]
 exact yh.refl _
theorem zkW {fr:List Frm}{sk:List Int}{st on co i:Int}(h0:fr≠[])(h1:0≤i)(h2:i<(nth fr (fr.length-1)).locals.length)(hb:fr.length≤8) :
  zM Tryz.prog 242 [.agg [.int .i64 st,.int .i64 on,row fr,row sk,.int .i64 co],.int .i64 i] (.int .i64 (getL ⟨st,on,fr,sk,co⟩ i)):=by
 refine .of fun s v=>?_
 have hf0:fr.length≠0:=fun e=>h0 (List.length_eq_zero_iff.1 e)
 refine ac0 Tryz.func242 Tryz.ntmps242 ?_
 have hrs:Tryz.f242.results = #[.tmp 4]:=rfl
 have hx:=zB (l:=fr) (i:=(fr.length:Int)-1) (by omega) (by omega)
 have hx2:=zB h1 h2
 have e1:((fr.length:Int)-1).toNat=fr.length-1:=by omega
 rw[e1] at hx
 repeat' (first|(with_reducible first|refine uk ?_|refine wk ?_ ?_<;>intro _)|simp -implicitDefEqProofs(disch:=first|assumption|omega)[*])
 exact zn.eqat rfl (by simp)
theorem zjx {fs:List Fn_}{mu th:Int}{cn se ch:List Int}{cho:List (List Int)}{fr:List Frm}{sk:List Int}{st on co:Int}(h0:fr≠[])(hb:fr.length≤8)
  (h1:0≤(nth fr (fr.length-1)).func) (h2:(nth fr (fr.length-1)).func<fs.length) (h3:0≤(nth fr (fr.length-1)).pc) (h4:(nth fs (nth fr (fr.length-1)).func.toNat).code.length≤1000) :
  zM Tryz.prog 234 [.agg [row fs,.int .i64 mu,row cn,row se,row ch,row cho,.int .i64 th],.agg [.int .i64 st,.int .i64 on,row fr,row sk,.int .i64 co]] (.tup [.agg (wb ⟨fs,mu,cn,se,ch,cho,th⟩ ⟨st,on,fr,sk,co⟩).1.lv,.bool (wb ⟨fs,mu,cn,se,ch,cho,th⟩ ⟨st,on,fr,sk,co⟩).2]):=by
 refine .of fun s v=>?_
 have hf0:fr.length≠0:=fun e=>h0 (List.length_eq_zero_iff.1 e)
 refine ac0 Tryz.func234 Tryz.ntmps234 ?_
 have hrs:Tryz.f234.results = #[.cell 4 136,.tmp 5]:=rfl
 have hx:=zB (l:=fr) (i:=(fr.length:Int)-1) (by omega) (by omega)
 have hx2:=zB h1 h2
 have e1:((fr.length:Int)-1).toNat=fr.length-1:=by omega
 rw[e1] at hx
 by_cases hc:((nth fs (nth fr (fr.length-1)).func.toNat).code.length:Int)≤(nth fr (fr.length-1)).pc
 ·repeat' (first|(with_reducible first|refine uk ?_|refine wk ?_ ?_<;>intro _)|simp -implicitDefEqProofs(disch:=first|assumption|omega)[*])
  refine zn.eqat ?_ (by simp)
  unfold wb topF at'
  simp only
  rw[if_pos hc]
  rfl
 ·have hx3:=zB (l:=(nth fs (nth fr (fr.length-1)).func.toNat).code) h3 (by omega)
  repeat' (first|(with_reducible first|refine uk ?_|refine wk ?_ ?_<;>intro _)|simp -implicitDefEqProofs(disch:=first|assumption|omega)[*])
  refine zn.eqat ?_ (by simp)
  unfold wb topF at'
  simp only
  rw[if_neg hc]
  rfl
def ThrG (t:Thr)(s:List AObj)(v:List Nat)(y:LV)(s':List AObj)(v':List Nat):Prop:=s=s'∧∃ xF xS,y = .agg [.int .i64 t.state,.int .i64 t.on,xF,xS,.int .i64 t.code]∧Gro v v' t.frames xF∧Gro v v' t.stack xS
theorem YS {fr:List Frm}{sk:List Int}{st on co:Int}(hb:ThrB ⟨st,on,fr,sk,co⟩){s:List AObj}{v:List Nat} : zp Tryz.prog 107 [.agg [.int .i64 st,.int .i64 on,row fr,row sk,.int .i64 co]] s v (ThrG ⟨st,on,fr,sk,co⟩ s v):=by
 obtain⟨hb1,hb2,hb3⟩:=hb
 simp only at hb1 hb2 hb3
 suffices h:zp Tryz.prog 107 [.agg [.int .i64 st,.int .i64 on,row fr,row sk,.int .i64 co]] s v (fun y s' v'=>(∃ J,s++J=s')∧∃ xF xS,y = .agg [.int .i64 st,.int .i64 on,xF,xS,.int .i64 co]∧Gro v v' fr xF∧Gro v v' sk xS) by
  refine wo (zj h ?_)
  rintro x s' v' ⟨⟨J,h1⟩,xF,xS,h2,h3,h4⟩
  subst h2
  exact⟨s,J,h1.symm,rfl,by simp[h3.under,h4.under],fun _ _ ho=>.inl ho,rfl,xF,xS,rfl,h3,h4⟩
 refine ac0 Tryz.func107 Tryz.ntmps107 ?_
 have hrs:Tryz.f107.results = #[.cell 2 73]:=rfl
 repeat' (first|(with_reducible first|refine uk ?_|refine wk ?_ ?_<;>intro _)|simp -implicitDefEqProofs(disch:=first|assumption|omega)[*])
 refine zC (β:=LV × List Nat × List AObj) false fr.length (fun k p=>Gro v p.2.1 (fr.take k) p.1) (fun k p=>[(3,p.1),(4,.int .i64 k),(8,.any),(9,.any),(10,.any),(11,.any),(12,.any),(15,.any),(16,.any),(17,.any),(18,.any),(19,.any),(5,.any),(6,.any),(20,.any),(21,.any),(22,.any),(23,.any),(24,.any),(25,.any),(26,.any),(27,.any),(28,.any),(13,.any),(14,.any)]) (fun _ p=>s++(.cells [.int .i64 st,.int .i64 on,row fr,row sk,.int .i64 co] :: .cells [.int .i64 0,.int .i64 0,.nils,.nils,.int .i64 0] :: p.2.2)) (fun _ p=>p.2.1) ?_ ?_
 ·exact⟨(.nils,v,[]),Gro.nil _,fz0,rfl,rfl⟩
 rintro k ⟨xF,v1,J⟩ hk hF
 simp only at hF
 by_cases hlt:k<fr.length
 ·have hlc:=hb3 _ (zm hlt)
  have hx:=zB (l:=fr) (i:=(k:Int)) (by omega) (by omega)
  obtain⟨x1,v2,g1,_,ga⟩:=(Gro.nil v1 (α:=Int)).appr (P:=Tryz.prog) (t:=23) (t2:=23) (by_:=8) (by kernel_rfl) (by omega) (nth fr k).locals (by simp;omega)
  have hF2:=hF.mono g1.pre
  have g1w:=g1.weak
  simp only[List.nil_append] at g1w
  obtain⟨xF2,v3,f1,fk,fa⟩:=hF2.push (P:=Tryz.prog) (t:=71) (t2:=71) (sz:=3) (by_:=40) (by kernel_rfl) rfl (by omega) (nth fr k) (ds:=[.int .i64 (nth fr k).func,.int .i64 (nth fr k).pc,x1]) ⟨Weak.refl _,Weak.refl _,g1w,trivial⟩ (by simp[g1.under]) (by simp;omega)
  have hx1:=g1.cells
  have hxF:=hF.cells
  repeat' (first|(with_reducible first|refine uk ?_|refine wk ?_ ?_<;>intro _)|simp -implicitDefEqProofs(disch:=first|assumption|omega)[*])
  exact⟨hlt,(xF2,v3,J++[.cells [.int .i64 (nth fr k).func,.int .i64 (nth fr k).pc,x1]]),by show Gro v v3 (fr.take (k+1)) xF2;rw[za hlt];exact f1,fz,by simp,rfl⟩
 ·have:k=fr.length:=by omega
  subst this
  rw[List.take_of_length_le (Nat.le_refl _)] at hF
  obtain⟨x1,v2,g1,_,ga⟩:=(Gro.nil v1 (α:=Int)).appr (P:=Tryz.prog) (t:=23) (t2:=23) (by_:=8) (by kernel_rfl) (by omega) sk (by simp;omega)
  have hF2:=hF.mono g1.pre
  have g1b:=g1.back hF.pre
  simp only[List.nil_append] at g1b
  have hx1:=g1.cells
  have hxF:=hF.cells
  repeat' (first|(with_reducible first|refine uk ?_|refine wk ?_ ?_<;>intro _)|simp -implicitDefEqProofs(disch:=first|assumption|omega)[*])
  exact⟨xF,x1,⟨rfl,rfl⟩,hF2,g1b⟩
theorem ThrG.weak {t:Thr}{s s':List AObj}{v v':List Nat}{y:LV}(h:ThrG t s v y s' v'):Weak y (.agg t.lv)∧s=s'∧v <+: v':=by
 obtain⟨h1,xF,xS,rfl,h3,h4⟩:=h
 exact⟨Weak.agg ⟨Weak.refl _,Weak.refl _,h3.weak,h4.weak,Weak.refl _,trivial⟩,h1,h3.pre⟩
theorem QZ {fr:List Frm}{sk:List Int}{st on co:Int}(hb:ThrB ⟨st,on,fr,sk,co⟩):zG Tryz.prog 107 [.agg [.int .i64 st,.int .i64 on,row fr,row sk,.int .i64 co]] (.agg [.int .i64 st,.int .i64 on,row fr,row sk,.int .i64 co]):=fun s v=>
 xp (zj (YS hb) fun x s' v' h=>⟨_,s',h.weak.1,wF.refl _,rfl,h.weak.2.1,h.weak.2.2⟩)
theorem zih {t:Thr}{f:FuncId}{args:List LV}{s:List AObj}{v:List Nat}{K:LV→List AObj→List Nat→Prop}(h:zp Tryz.prog f args s v (ThrG t s v))(k:∀ xF xS v',(xF.cells=[xF]∧xF.cellsOk=true)→(xS.cells=[xS]∧xS.cellsOk=true)→Gro v v' t.frames xF→Gro v v' t.stack xS→K (.agg [.int .i64 t.state,.int .i64 t.on,xF,xS,.int .i64 t.code]) s v'):zp Tryz.prog f args s v K:=by
 refine zj h ?_
 rintro y s' v' ⟨rfl,xF,xS,rfl,h3,h4⟩
 exact k xF xS v' h3.cells h4.cells h3 h4
theorem zeQ {fr:List Frm}{sk:List Int}{st on co x:Int}(hb:ThrB ⟨st,on,fr,sk,co⟩):zG Tryz.prog 241 [.agg [.int .i64 st,.int .i64 on,row fr,row sk,.int .i64 co],.int .i64 x] (.tup [.agg (push ⟨st,on,fr,sk,co⟩ x).1.lv,.bool (push ⟨st,on,fr,sk,co⟩ x).2]):=by
 refine .of fun s v=>?_
 have hb':=hb
 obtain⟨hb1,hb2,hb3⟩:=hb'
 simp only at hb1 hb2 hb3
 refine ac0 Tryz.func241 Tryz.ntmps241 ?_
 have hrs:Tryz.f241.results = #[.cell 4 73,.tmp 5]:=rfl
 unfold push
 simp only
 by_cases hl:16≤sk.length
 ·rw[if_pos hl]
  have hl':(16:Int)≤sk.length:=by omega
  repeat' (first|(with_reducible first|refine uk ?_|refine wk ?_ ?_<;>intro _|(refine dr P241 mixed ?_ ?_ ?_;kernel_rfl;kernel_rfl))|simp -implicitDefEqProofs(disch:=first|assumption|omega)[*])
  exact Ends.eqat rfl (by simp) (List.prefix_refl _)
 ·rw[if_neg hl]
  have hl':¬ (16:Int)≤sk.length:=by omega
  have hk:=ZQ x
  generalize keep x=kx at *
  repeat' (first|(with_reducible first|refine uk ?_|refine wk ?_ ?_<;>intro _|(refine dr P241 mixed ?_ ?_ ?_;kernel_rfl;kernel_rfl)|refine zih (YS hb) (fun xF xS v1 cF cS g1 g2=>?_)|refine zc hk ?_)|simp -implicitDefEqProofs(disch:=first|assumption|omega)[*])
  obtain⟨x1,v2,f1,_,fa⟩:=g2.push (P:=Tryz.prog) (t:=23) (t2:=23) (sz:=1) (by_:=8) (by kernel_rfl) rfl (by omega) kx (ds:=[.int .i64 kx]) ⟨Weak.refl _,trivial⟩ (by simp) (by simp;omega)
  have c1:=f1.cells
  have u1:=f1.under
  have u2:=g1.under
  repeat' (first|(with_reducible first|refine uk ?_|refine wk ?_ ?_<;>intro _|(refine dr P241 mixed ?_ ?_ ?_;kernel_rfl;kernel_rfl))|simp -implicitDefEqProofs(disch:=first|assumption|omega)[*])
  exact Ends.at (by simp[*]) (Weak.tup ⟨Weak.agg ⟨Weak.refl _,Weak.refl _,g1.weak,f1.weak,Weak.refl _,trivial⟩,Weak.refl _,trivial⟩) f1.pre
theorem zmn {fr:List Frm}{sk:List Int}{st on co:Int}(hb:ThrB ⟨st,on,fr,sk,co⟩):zG Tryz.prog 238 [.agg [.int .i64 st,.int .i64 on,row fr,row sk,.int .i64 co]] (.tup [.agg (pop ⟨st,on,fr,sk,co⟩).1.lv,.int .i64 (pop ⟨st,on,fr,sk,co⟩).2.1,.bool (pop ⟨st,on,fr,sk,co⟩).2.2]):=by
 refine .of fun s v=>?_
 have hb':=hb
 obtain⟨hb1,hb2,hb3⟩:=hb'
 simp only at hb1 hb2 hb3
 refine ac0 Tryz.func238 Tryz.ntmps238 ?_
 have hrs:Tryz.f238.results = #[.cell 2 73,.tmp 3,.tmp 4]:=rfl
 unfold pop
 simp only
 by_cases hl:sk.length=0
 ·rw[if_pos hl]
  repeat' (first|(with_reducible first|refine uk ?_|refine wk ?_ ?_<;>intro _)|simp -implicitDefEqProofs(disch:=first|assumption|omega)[*])
  exact Ends.eqat rfl (by simp) (List.prefix_refl _)
 ·rw[if_neg hl]
  have hx:=zB (l:=sk) (i:=(sk.length:Int)-1) (by omega) (by omega)
  have e1:((sk.length:Int)-1).toNat=sk.length-1:=by omega
  rw[e1] at hx
  have hsl:=ut (P:=Tryz.prog) (t:=23) (κ':=.i64) (l:=sk) (b:=(sk.length:Int)-1) (by omega) (by omega)
  rw[e1] at hsl
  repeat' (first|(with_reducible first|refine uk ?_|refine wk ?_ ?_<;>intro _|refine zg (QZ hb) (fun v1 hv1=>?_))|simp -implicitDefEqProofs(disch:=first|assumption|omega)[*])
  exact Ends.eqat rfl (by simp) hv1
theorem zkb {fs:List Fn_}{mu th f:Int}{cn se ch:List Int}{cho:List (List Int)}{fr:List Frm}{sk:List Int}{st on co:Int}(hb:ThrB ⟨st,on,fr,sk,co⟩)(h0:0≤f)(h1:f<fs.length)(h2:0≤(nth fs f.toNat).locals)(h3:(nth fs f.toNat).locals≤8) :
  zG Tryz.prog 244 [.agg [row fs,.int .i64 mu,row cn,row se,row ch,row cho,.int .i64 th],.agg [.int .i64 st,.int .i64 on,row fr,row sk,.int .i64 co],.int .i64 f] (.tup [.agg (enter ⟨fs,mu,cn,se,ch,cho,th⟩ ⟨st,on,fr,sk,co⟩ f).1.lv,.bool (enter ⟨fs,mu,cn,se,ch,cho,th⟩ ⟨st,on,fr,sk,co⟩ f).2]):=by
 refine .of fun s v=>?_
 have hb':=hb
 obtain⟨hb1,hb2,hb3⟩:=hb'
 simp only at hb1 hb2 hb3
 have hf:=zeG (mu:=mu) (th:=th) (co:=cn) (se:=se) (ch:=ch) (cho:=cho) h0 h1 h2 h3
 refine ac0 Tryz.func244 Tryz.ntmps244 ?_
 have hrs:Tryz.f244.results = #[.cell 6 73,.tmp 7]:=rfl
 unfold enter ux at'
 simp only
 generalize hL:List.replicate (nth fs f.toNat).locals.toNat (0:Int)=lo at *
 by_cases hl:8≤fr.length
 ·rw[if_pos hl]
  have hl':(8:Int)≤fr.length:=by omega
  repeat' (first|(with_reducible first|refine uk ?_|refine wk ?_ ?_<;>intro _|(refine dr P244 mixed ?_ ?_ ?_;kernel_rfl;kernel_rfl))|simp -implicitDefEqProofs(disch:=first|assumption|omega)[*])
  exact Ends.eqat rfl (by simp) (List.prefix_refl _)
 ·rw[if_neg hl]
  have hl':¬ (8:Int)≤fr.length:=by omega
  repeat' (first|(with_reducible first|refine uk ?_|refine wk ?_ ?_<;>intro _|(refine dr P244 mixed ?_ ?_ ?_;kernel_rfl;kernel_rfl)|refine zih (YS hb) (fun xF xS v1 cF cS g1 g2=>?_)|refine zc hf ?_)|simp -implicitDefEqProofs(disch:=first|assumption|omega)[*])
  obtain⟨x1,v2,f1,_,fa⟩:=g1.push (P:=Tryz.prog) (t:=71) (t2:=71) (sz:=3) (by_:=40) (by kernel_rfl) rfl (by omega) ⟨f,0,lo⟩ (ds:=[.int .i64 f,.int .i64 0,row lo]) (yh.refl _) (by simp) (by simp;omega)
  have c1:=f1.cells
  have u1:=f1.under
  have u2:=g2.under
  repeat' (first|(with_reducible first|refine uk ?_|refine wk ?_ ?_<;>intro _|(refine dr P244 mixed ?_ ?_ ?_;kernel_rfl;kernel_rfl))|simp -implicitDefEqProofs(disch:=first|assumption|omega)[*])
  exact Ends.at (by simp[*]) (Weak.tup ⟨Weak.agg ⟨Weak.refl _,Weak.refl _,f1.weak,g2.weak,Weak.refl _,trivial⟩,Weak.refl _,trivial⟩) f1.pre
theorem zjI {fr:List Frm}{sk:List Int}{st on co:Int}(hb:ThrB ⟨st,on,fr,sk,co⟩)(h0:fr≠[]):zG Tryz.prog 245 [.agg [.int .i64 st,.int .i64 on,row fr,row sk,.int .i64 co]] (.tup [.agg (leave ⟨st,on,fr,sk,co⟩).1.lv,.bool (leave ⟨st,on,fr,sk,co⟩).2]):=by
 refine .of fun s v=>?_
 have hb':=hb
 obtain⟨hb1,hb2,hb3⟩:=hb'
 simp only at hb1 hb2 hb3
 have hf0:fr.length≠0:=fun e=>h0 (List.length_eq_zero_iff.1 e)
 refine ac0 Tryz.func245 Tryz.ntmps245 ?_
 have hrs:Tryz.f245.results = #[.cell 2 73,.tmp 3]:=rfl
 unfold leave
 simp only
 have e1:((fr.length:Int)-1).toNat=fr.length-1:=by omega
 have hsl:=ut (P:=Tryz.prog) (t:=71) (κ':=.i64) (l:=fr) (b:=(fr.length:Int)-1) (by omega) (by omega)
 rw[e1] at hsl
 repeat' (first|(with_reducible first|refine uk ?_|refine wk ?_ ?_<;>intro _|(refine dr P245 mixed ?_ ?_ ?_;kernel_rfl;kernel_rfl)|refine zg (QZ hb) (fun v1 hv1=>?_))|simp -implicitDefEqProofs(disch:=first|assumption|omega)[*])
 exact Ends.eqat rfl (by simp) hv1
theorem Ke {l:List Int}{a b:Int}(hb:l.length≤1000000000):zM Tryz.prog 37 [row l,.int .i64 a,.int .i64 b] (.bool (betC l a b)):=by
 refine .of fun s v=>?_
 refine ac0 Tryz.func37 Tryz.ntmps37 ?_
 have hrs:Tryz.f37.results = #[.tmp 6]:=rfl
 repeat' (first|(with_reducible first|refine uk ?_|refine wk ?_ ?_<;>intro _)|simp -implicitDefEqProofs(disch:=first|assumption|omega)[*])
 refine zC (β:=Unit) false l.length (fun k _=>∀ j,j<k→(!(decide (nth l j<a) || decide (b<nth l j)))=true) (fun k _=>[(7,.int .i64 k),(8,.any),(9,.any),(10,.any),(11,.any),(14,.any),(15,.any),(16,.any),(17,.any),(18,.any),(19,.any),(20,.any),(21,.any),(22,.any),(23,.any),(24,.any),(25,.any),(26,.any),(27,.any),(6,.any),(12,.any),(13,.any)]) (fun _ _=>s) (fun _ _=>v) ?_ ?_
 ·exact⟨(),by simp,fz0,rfl,rfl⟩
 rintro k _ hk hI
 by_cases hlt:k<l.length
 ·have hx:=zB (l:=l) (i:=(k:Int)) (by omega) (by omega)
  rw[Int.toNat_natCast] at hx
  have hbad:(!(decide (nth l k<a) || decide (b<nth l k)))=false→betC l a b=false:=fun h=>XF (f:=fun x=> !(decide (x<a) || decide (b<x))) hlt h
  have hgo:(!(decide (nth l k<a) || decide (b<nth l k)))=true→∀ j,j<k+1→(!(decide (nth l j<a) || decide (b<nth l j)))=true:=fun hy j hj=>by
   by_cases e:j=k
   ·subst e;exact hy
   ·exact hI j (by omega)
  clear hI
  have hlt':(k:Int)<l.length:=by omega
  by_cases h1:nth l k<a
  ·rw[hbad (by simp[h1])]
   clear hbad hgo
   repeat' (first|(with_reducible first|refine uk ?_|refine wk ?_ ?_<;>intro _|refine And.intro ?_ ?_)|simp -implicitDefEqProofs(disch:=first|assumption|omega)[*])
   all_goals exact zn.eq rfl (by simp)
  ·by_cases h2:b<nth l k
   ·rw[hbad (by simp[h2])]
    clear hbad hgo
    repeat' (first|(with_reducible first|refine uk ?_|refine wk ?_ ?_<;>intro _|refine And.intro ?_ ?_)|simp -implicitDefEqProofs(disch:=first|assumption|omega)[*])
    all_goals exact zn.eq rfl (by simp)
   ·have hg:=hgo (by simp[h1,h2])
    clear hbad hgo
    repeat' (first|(with_reducible first|refine uk ?_|refine wk ?_ ?_<;>intro _|refine And.intro ?_ ?_)|simp -implicitDefEqProofs(disch:=first|assumption|omega)[*])
    all_goals exact⟨hlt,(),hg,fz,rfl,rfl⟩
 ·have:k=l.length:=by omega
  subst this
  rw[show betC l a b=true from KA (f:=fun x=> !(decide (x<a) || decide (b<x))) hI]
  clear hI
  repeat' (first|(with_reducible first|refine uk ?_|refine wk ?_ ?_<;>intro _|refine And.intro ?_ ?_)|simp -implicitDefEqProofs(disch:=first|assumption|omega)[*])
  all_goals exact zn.eq rfl (by simp)
theorem ziz {l:List Int}(hb:l.length≤1000000000):zM Tryz.prog 112 [row l] (.bool (vq l)):=by
 refine .of fun s v=>?_
 refine ac0 Tryz.func112 Tryz.ntmps112 ?_
 have hrs:Tryz.f112.results = #[.tmp 2]:=rfl
 repeat' (first|(with_reducible first|refine uk ?_|refine wk ?_ ?_<;>intro _)|simp -implicitDefEqProofs(disch:=first|assumption|omega)[*])
 refine zC (β:=Unit) false l.length (fun k _=>∀ j,j<k→(!(decide (nth l j < -1073741824) || decide (1073741824<nth l j)))=true) (fun k _=>[(3,.int .i64 k),(4,.any),(5,.any),(6,.any),(7,.any),(10,.any),(11,.any),(12,.any),(13,.any),(14,.any),(15,.any),(16,.any),(17,.any),(18,.any),(19,.any),(20,.any),(21,.any),(2,.any),(8,.any),(9,.any)]) (fun _ _=>s) (fun _ _=>v) ?_ ?_
 ·exact⟨(),by simp,fz0,rfl,rfl⟩
 rintro k _ hk hI
 by_cases hlt:k<l.length
 ·have hx:=zB (l:=l) (i:=(k:Int)) (by omega) (by omega)
  rw[Int.toNat_natCast] at hx
  have hbad:(!(decide (nth l k < -1073741824) || decide (1073741824<nth l k)))=false→vq l=false:=fun h=>XF (f:=fun x=> !(decide (x < -1073741824) || decide (1073741824<x))) hlt h
  have hgo:(!(decide (nth l k < -1073741824) || decide (1073741824<nth l k)))=true→∀ j,j<k+1→(!(decide (nth l j < -1073741824) || decide (1073741824<nth l j)))=true:=fun hy j hj=>by
   by_cases e:j=k
   ·subst e;exact hy
   ·exact hI j (by omega)
  clear hI
  have hlt':(k:Int)<l.length:=by omega
  by_cases h1:nth l k < -1073741824
  ·rw[hbad (by simp[h1])]
   clear hbad hgo
   repeat' (first|(with_reducible first|refine uk ?_|refine wk ?_ ?_<;>intro _|refine And.intro ?_ ?_)|simp -implicitDefEqProofs(disch:=first|assumption|omega)[*])
   all_goals exact zn.eq rfl (by simp)
  ·by_cases h2:1073741824<nth l k
   ·rw[hbad (by simp[h2])]
    clear hbad hgo
    repeat' (first|(with_reducible first|refine uk ?_|refine wk ?_ ?_<;>intro _|refine And.intro ?_ ?_)|simp -implicitDefEqProofs(disch:=first|assumption|omega)[*])
    all_goals exact zn.eq rfl (by simp)
   ·have hg:=hgo (by simp[h1,h2])
    clear hbad hgo
    repeat' (first|(with_reducible first|refine uk ?_|refine wk ?_ ?_<;>intro _|refine And.intro ?_ ?_)|simp -implicitDefEqProofs(disch:=first|assumption|omega)[*])
    all_goals exact⟨hlt,(),hg,fz,rfl,rfl⟩
 ·have:k=l.length:=by omega
  subst this
  rw[show vq l=true from KA (f:=fun x=> !(decide (x < -1073741824) || decide (1073741824<x))) hI]
  clear hI
  repeat' (first|(with_reducible first|refine uk ?_|refine wk ?_ ?_<;>intro _|refine And.intro ?_ ?_)|simp -implicitDefEqProofs(disch:=first|assumption|omega)[*])
  all_goals exact zn.eq rfl (by simp)
def BigR (L:List (List Int)):Prop:=L.length≤1000000∧∀ l∈L,l.length≤1000000
theorem zcL {L:List (List Int)}{n t:Int}(hb:BigR L)(ht:0≤t∧t≤1000000):zM Tryz.prog 38 [row L,.int .i64 n,.int .i64 t] (.bool (rowsK L n t)):=by
 refine .of fun s v=>?_
 have hL:=hb.1
 by_cases hn:¬ (L.length:Int)=n
 ·rw[show rowsK L n t=false by unfold rowsK;rw[if_neg hn]]
  refine ac0 Tryz.func38 Tryz.ntmps38 ?_
  have hrs:Tryz.f38.results = #[.tmp 6]:=rfl
  repeat' (first|(with_reducible first|refine uk ?_|refine wk ?_ ?_<;>intro _|refine And.intro ?_ ?_)|simp -implicitDefEqProofs(disch:=first|assumption|omega)[*])
  all_goals exact zn.eq rfl (by simp)
 obtain rfl:n=L.length:=by omega
 clear hn
 rw[show rowsK L L.length t=L.all (rowK t) by unfold rowsK;rw[if_pos rfl]]
 refine ac0 Tryz.func38 Tryz.ntmps38 ?_
 have hrs:Tryz.f38.results = #[.tmp 6]:=rfl
 repeat' (first|(with_reducible first|refine uk ?_|refine wk ?_ ?_<;>intro _|refine And.intro ?_ ?_)|simp -implicitDefEqProofs(disch:=first|assumption|omega)[*])
 refine zC (β:=Unit) false L.length (fun k _=>∀ j,j<k→rowK t (nth L j)=true) (fun k _=>[(7,.int .i64 k),(13,.any),(14,.any),(15,.any),(18,.any),(19,.any),(20,.any),(21,.any),(22,.any),(23,.any),(24,.any),(8,.any),(25,.any),(26,.any),(27,.any),(28,.any),(29,.any),(30,.any),(31,.any),(32,.any),(33,.any),(34,.any),(6,.any),(16,.any),(17,.any)]) (fun _ _=>s) (fun _ _=>v) ?_ ?_
 ·exact⟨(),by simp,fz0,rfl,rfl⟩
 rintro k _ hk hI
 by_cases hlt:k<L.length
 ·have hx:=zB (l:=L) (i:=(k:Int)) (by omega) (by omega)
  rw[Int.toNat_natCast] at hx
  have hbt:=Ke (l:=nth L k) (a:=0) (b:=t-1) (by have:=hb.2 _ (zm hlt);omega)
  have hbad:rowK t (nth L k)=false→L.all (rowK t)=false:=fun h=>XF hlt h
  have hgo:rowK t (nth L k)=true→∀ j,j<k+1→rowK t (nth L j)=true:=fun hy j hj=>by
   by_cases e:j=k
   ·subst e;exact hy
   ·exact hI j (by omega)
  clear hI
  have hlt':(k:Int)<L.length:=by omega
  have e:rowK t (nth L k)=(betC (nth L k) 0 (t-1) && !decide (32<(nth L k).length)):=rfl
  rw[e] at hbad hgo
  clear e
  generalize betC (nth L k) 0 (t-1)=b at *
  cases b
  ·rw[hbad rfl]
   clear hbad hgo
   repeat' (first|(with_reducible first|refine uk ?_|refine wk ?_ ?_<;>intro _|refine And.intro ?_ ?_|refine zc hbt ?_)|simp -implicitDefEqProofs(disch:=first|assumption|omega)[*])
   all_goals exact zn.eq rfl (by simp)
  ·by_cases h2:32<(nth L k).length
   ·have h2':(32:Int)<(nth L k).length:=by omega
    rw[hbad (by simp[h2])]
    clear hbad hgo
    repeat' (first|(with_reducible first|refine uk ?_|refine wk ?_ ?_<;>intro _|refine And.intro ?_ ?_|refine zc hbt ?_)|simp -implicitDefEqProofs(disch:=first|assumption|omega)[*])
    all_goals exact zn.eq rfl (by simp)
   ·have h2':¬ (32:Int)<(nth L k).length:=by omega
    have hg:=hgo (by simp[h2])
    clear hbad hgo
    repeat' (first|(with_reducible first|refine uk ?_|refine wk ?_ ?_<;>intro _|refine And.intro ?_ ?_|refine zc hbt ?_)|simp -implicitDefEqProofs(disch:=first|assumption|omega)[*])
    all_goals exact⟨hlt,(),hg,fz,rfl,rfl⟩
 ·have:k=L.length:=by omega
  subst this
  rw[show L.all (rowK t)=true from KA hI]
  clear hI
  repeat' (first|(with_reducible first|refine uk ?_|refine wk ?_ ?_<;>intro _|refine And.intro ?_ ?_)|simp -implicitDefEqProofs(disch:=first|assumption|omega)[*])
  all_goals exact zn.eq rfl (by simp)
end Go.Hb
end
