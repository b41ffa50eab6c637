/-
  A layer for reasoning about the program's calls, and contracts of its functions. CONDITIONS: none; each theorem bears its own.
-/
import Derived.Test.YtieoaonaijbijaaGreatG33
import Derived.Test.YtieoaonaijbijaaGreatG18
import Derived.Test.YtieoaonaijbijaaGreatG09
import Derived.Test.YtieoaonaijbijaaGreatG17
import Derived.Test.YtieoaonaijbijaaGreatG10
set_option linter.unusedVariables false
set_option linter.unusedSimpArgs false
section
namespace Go.Hb
open Go Go.Proofs Go.RowKit
set_option maxRecDepth 100000
set_option maxHeartbeats 800000
attribute [-simp] aC aL xq yp zE aIf yr zR aLen zt ya zQ zP lBr aq yP aev zk zw zF zI LV.cells LV.cellsOk getElem?_pos getElem?_neg
theorem Xo {l:List Frm}{p:Frm→Bool}{g:FuncId}{ca:List LV}{s:List AObj}(hb:l.length≤9223372036854775807)(h:∀ k,k<l.length→Ret Tryz.prog g (.agg [.int .i64 (nth l k).func,.int .i64 (nth l k).pc,row (nth l k).locals] :: ca) s (.bool (p (nth l k)))) :
  Ret Tryz.prog 218 [row l,.fn (.func g) [] ca] s (.int .i64 (fidx p l)):=by
 refine .of fun v=>?_
 refine ac0 Tryz.func218 Tryz.ntmps218 ?_
 have hrs:Tryz.f218.results = #[.tmp 4]:=rfl
 repeat' (first|(with_reducible first|refine uk ?_|refine wk ?_ ?_<;>intro _)|simp -implicitDefEqProofs(disch:=first|assumption|omega)[*])
 refine zC (β:=List Nat) false l.length (fun k v1=>v <+: v1∧∀ j,j<k→p (nth l j)=false) (fun k _=>[(8,.int .i64 k),(9,.any),(10,.any),(5,.any),(11,.any),(12,.any),(13,.any),(14,.any),(15,.any),(16,.any),(17,.any),(4,.any),(18,.any)]) (fun _ _=>s) (fun _ v1=>v1) ?_ ?_
 ·exact⟨v,⟨List.prefix_refl _,by simp⟩,fz0,rfl,rfl⟩
 rintro k v1 hk ⟨hv,hI⟩
 by_cases hlt:k<l.length
 ·have hh:=h k hlt
  cases hp:p (nth l k)
  ·rw[hp] at hh
   repeat' (first|(with_reducible first|refine uk ?_|refine wk ?_ ?_<;>intro _|refine yE hh (fun v2 hv2=>?_))|simp -implicitDefEqProofs(disch:=first|assumption|omega)[*])
   exact⟨hlt,v2,⟨hv.trans hv2,fun j hj=>by
    by_cases e:j=k
    ·subst e;exact hp
    ·exact hI j (by omega)⟩,fz,rfl,rfl⟩
  ·rw[hp] at hh
   have hf:=uu hlt hI hp
   repeat' (first|(with_reducible first|refine uk ?_|refine wk ?_ ?_<;>intro _|refine yE hh (fun v2 hv2=>?_))|simp -implicitDefEqProofs(disch:=first|assumption|omega)[*])
   exact Ends.eq rfl (by simp) (hv.trans hv2)
 ·have hf:=wv (p:=p) (l:=l) (fun j hj=>hI j (by omega))
  have:k=l.length:=by omega
  subst this
  repeat' (first|(with_reducible first|refine uk ?_|refine wk ?_ ?_<;>intro _)|simp -implicitDefEqProofs(disch:=first|assumption|omega)[*])
  exact Ends.eq rfl (by simp) hv
theorem KS {l:List Frm}{p:Frm→Bool}{g:FuncId}{ca:List LV}{s:List AObj}(hb:l.length≤9223372036854775807)(h:∀ k,k<l.length→Ret Tryz.prog g (.agg [.int .i64 (nth l k).func,.int .i64 (nth l k).pc,row (nth l k).locals] :: ca) s (.bool (p (nth l k)))) :
  Ret Tryz.prog 138 [row l,.fn (.func g) [] ca] s (.bool (l.any p)):=by
 refine .of fun v=>?_
 refine ac0 Tryz.func138 Tryz.ntmps138 ?_
 have hrs:Tryz.f138.results = #[.tmp 4]:=rfl
 have hi:=Xo hb h
 rw[← vQ p l]
 repeat' (first|(with_reducible first|refine uk ?_|refine wk ?_ ?_<;>intro _|refine yE hi (fun v2 hv2=>?_))|simp -implicitDefEqProofs(disch:=first|assumption|omega)[*])
 exact Ends.eq rfl (by simp) hv2
theorem YB {l:List Thr}{p:Thr→Bool}{g:FuncId}{ca:List LV}{s:List AObj}(hb:l.length≤9223372036854775807)(h:∀ k,k<l.length→Ret Tryz.prog g (.agg [.int .i64 (nth l k).state,.int .i64 (nth l k).on,row (nth l k).frames,row (nth l k).stack,.int .i64 (nth l k).code] :: ca) s (.bool (p (nth l k)))) :
  Ret Tryz.prog 135 [row l,.fn (.func g) [] ca] s (.int .i64 (fidx p l)):=by
 refine .of fun v=>?_
 refine ac0 Tryz.func135 Tryz.ntmps135 ?_
 have hrs:Tryz.f135.results = #[.tmp 4]:=rfl
 repeat' (first|(with_reducible first|refine uk ?_|refine wk ?_ ?_<;>intro _)|simp -implicitDefEqProofs(disch:=first|assumption|omega)[*])
 refine zC (β:=List Nat) false l.length (fun k v1=>v <+: v1∧∀ j,j<k→p (nth l j)=false) (fun k _=>[(8,.int .i64 k),(9,.any),(10,.any),(5,.any),(11,.any),(12,.any),(13,.any),(14,.any),(15,.any),(16,.any),(17,.any),(4,.any),(18,.any)]) (fun _ _=>s) (fun _ v1=>v1) ?_ ?_
 ·exact⟨v,⟨List.prefix_refl _,by simp⟩,fz0,rfl,rfl⟩
 rintro k v1 hk ⟨hv,hI⟩
 by_cases hlt:k<l.length
 ·have hh:=h k hlt
  cases hp:p (nth l k)
  ·rw[hp] at hh
   repeat' (first|(with_reducible first|refine uk ?_|refine wk ?_ ?_<;>intro _|refine yE hh (fun v2 hv2=>?_))|simp -implicitDefEqProofs(disch:=first|assumption|omega)[*])
   exact⟨hlt,v2,⟨hv.trans hv2,fun j hj=>by
    by_cases e:j=k
    ·subst e;exact hp
    ·exact hI j (by omega)⟩,fz,rfl,rfl⟩
  ·rw[hp] at hh
   have hf:=uu hlt hI hp
   repeat' (first|(with_reducible first|refine uk ?_|refine wk ?_ ?_<;>intro _|refine yE hh (fun v2 hv2=>?_))|simp -implicitDefEqProofs(disch:=first|assumption|omega)[*])
   exact Ends.eq rfl (by simp) (hv.trans hv2)
 ·have hf:=wv (p:=p) (l:=l) (fun j hj=>hI j (by omega))
  have:k=l.length:=by omega
  subst this
  repeat' (first|(with_reducible first|refine uk ?_|refine wk ?_ ?_<;>intro _)|simp -implicitDefEqProofs(disch:=first|assumption|omega)[*])
  exact Ends.eq rfl (by simp) hv
theorem KT {l:List Thr}{p:Thr→Bool}{g:FuncId}{ca:List LV}{s:List AObj}(hb:l.length≤9223372036854775807)(h:∀ k,k<l.length→Ret Tryz.prog g (.agg [.int .i64 (nth l k).state,.int .i64 (nth l k).on,row (nth l k).frames,row (nth l k).stack,.int .i64 (nth l k).code] :: ca) s (.bool (p (nth l k)))) :
  Ret Tryz.prog 45 [row l,.fn (.func g) [] ca] s (.bool (l.any p)):=by
 refine .of fun v=>?_
 refine ac0 Tryz.func45 Tryz.ntmps45 ?_
 have hrs:Tryz.f45.results = #[.tmp 4]:=rfl
 have hi:=YB hb h
 rw[← vQ p l]
 repeat' (first|(with_reducible first|refine uk ?_|refine wk ?_ ?_<;>intro _|refine yE hi (fun v2 hv2=>?_))|simp -implicitDefEqProofs(disch:=first|assumption|omega)[*])
 exact Ends.eq rfl (by simp) hv2
theorem zlx (n:Int):(!(decide (n < -1073741824) || decide (1073741824<n)))=decide (n=keep n):=by
 unfold keep
 rw[Bool.eq_iff_iff]
 simp only[Bool.not_eq_true',Bool.or_eq_false_iff,decide_eq_false_iff_not,decide_eq_true_eq]
 split
 ·omega
 ·split<;>omega
theorem zex (l:List Int):vq l = !(l.any fun n=> !decide (n=keep n)):=by
 unfold vq betC
 rw[List.not_any_eq_all_not]
 congr 1
 funext n
 rw[zlx,Bool.not_not]
theorem zja (n:Int):zM Tryz.prog 217 [.int .i64 n] (.int .i64 (keep n)):=by
 refine .of fun s v=>?_
 unfold keep
 refine ac0 Tryz.func217 Tryz.ntmps217 ?_
 have hrs:Tryz.f217.results = #[.tmp 2]:=rfl
 repeat' (first|(with_reducible first|refine uk ?_|refine wk ?_ ?_<;>intro _)|simp -implicitDefEqProofs(disch:=first|assumption|omega)[*])
 all_goals (refine zn.eq ?_ (by simp);simp;(repeat' split)<;>omega)
theorem zhS (n:Int):zM Tryz.prog 216 [.int .i64 n] (.bool (!decide (n=keep n))):=by
 refine .of fun s v=>?_
 have hk:=zja n
 generalize keep n=m at *
 refine ac0 Tryz.func216 Tryz.ntmps216 ?_
 have hrs:Tryz.f216.results = #[.tmp 2]:=rfl
 repeat' (first|(with_reducible first|refine uk ?_|refine wk ?_ ?_<;>intro _|refine zc hk ?_)|simp -implicitDefEqProofs(disch:=first|assumption|omega)[*])
 all_goals exact zn.eq (by simp[*]) (by simp)
theorem zaV {l:List Int}(hl:l.length≤1000000000):zG Tryz.prog 137 [row l] (.bool (vq l)):=by
 refine .of fun s v=>?_
 have hc:Ret Tryz.prog 124 [row l,.fn (.func 216) [] []] s (.bool (l.any fun n=> !decide (n=keep n))):=wA (by omega) fun k hk=>(zhS (nth l k)).c.ret
 rw[zex]
 generalize (l.any fun n=> !decide (n=keep n))=b at *
 refine ac0 Tryz.func137 Tryz.ntmps137 ?_
 have hrs:Tryz.f137.results = #[.tmp 2]:=rfl
 repeat' (first|(with_reducible first|refine uk ?_|refine wk ?_ ?_<;>intro _|refine yE hc (fun v2 hv2=>?_))|simp -implicitDefEqProofs(disch:=first|assumption|omega)[*])
 exact Ends.eq (by simp) (by simp) hv2
theorem zeq (n:Int):zG Tryz.prog 137 [.imm 1 1 [.int .i64 n] .full] (.bool (decide (n=keep n))):=fun s v=>by
 have h:=zaV (l:=[n]) (by simp)
 rw[show vq [n]=decide (n=keep n) from by simp only[vq,betC,List.all_cons,List.all_nil,zlx,Bool.and_true]] at h
 exact yJ (args':=[row [n]]) ⟨Weak.row (l:=[n]) (yh.refl _) rfl,trivial⟩ (h s v)
theorem zlZ {p:Prog}{f:Frm}{s:List AObj}{id:Nat}(hs:s[id]? = some (.cells [row p.funcs,.int .i64 p.mutexes,row p.conds,row p.semas,row p.chans,row p.choices,.int .i64 p.threads]))(hl:f.locals.length≤1000000)(hp:p.funcs.length≤1000000):Ret Tryz.prog 136 [.agg [.int .i64 f.func,.int .i64 f.pc,row f.locals],.ptr id 0] s (.bool (!frmK p f)):=by
 refine .of fun v=>?_
 have hid:=(List.getElem?_eq_some_iff.1 hs).1
 have hsl:∀ l,(s++l)[id]? = some (.cells [row p.funcs,.int .i64 p.mutexes,row p.conds,row p.semas,row p.chans,row p.choices,.int .i64 p.threads]):=fun l=>by rw[List.getElem?_append_left hid];exact hs
 unfold frmK
 by_cases h0:f.func<0∨(p.funcs.length:Int)≤f.func
 ·rw[if_pos h0]
  refine ac0 Tryz.func136 Tryz.ntmps136 ?_
  have hrs:Tryz.f136.results = #[.tmp 3]:=rfl
  repeat' (first|(with_reducible first|refine uk ?_|refine wk ?_ ?_<;>intro _)|simp -implicitDefEqProofs(disch:=first|assumption|omega)[*])
  all_goals first|(exfalso;omega)|exact Ends.eqat (by simp) (by simp) (List.prefix_refl _)
 rw[if_neg h0]
 have hx:=zB (l:=p.funcs) (i:=f.func) (by omega) (by omega)
 have hk:=zaV (l:=f.locals) (by omega)
 have h1:¬ f.func<0:=by omega
 have h2:¬ (p.funcs.length:Int)≤f.func:=by omega
 have h3:f.func<(p.funcs.length:Int):=by omega
 have h4:0≤f.func:=by omega
 clear h0
 generalize vq f.locals=b at *
 refine ac0 Tryz.func136 Tryz.ntmps136 ?_
 have hrs:Tryz.f136.results = #[.tmp 3]:=rfl
 repeat' (first|(with_reducible first|refine uk ?_|refine wk ?_ ?_<;>intro _|refine zg hk (fun v2 hv2=>?_))|simp -implicitDefEqProofs(disch:=first|assumption|omega)[*])
 all_goals first|(exfalso;omega)|exact Ends.eqat (by cases b<;>first|(simp[*];done)|(simp[*];intros;omega)|(simp[*];omega)) (by simp) (by first|assumption|exact List.prefix_refl _)
def preS (t:Thr):Bool:=decide (t.state<0) || decide (10≤t.state) || decide (t.code<0) || decide (7≤t.code) || (decide (t.state=9) != decide (t.frames.length=0)) || (decide (t.state=9) && decide (0<t.stack.length)) || (!decide (t.state=9) && !decide (t.code=0))
theorem ziN (p:Prog)(t:Thr):thrK p t=if preS t=true then false else decide ((t.frames.length:Int)≤8) && (decide ((t.stack.length:Int)≤16) && (vq t.stack && (decide (t.on=keep t.on) && !t.frames.any fun f=> !frmK p f))):=by
 rw[List.not_any_eq_all_not]
 simp only[Bool.not_not]
 show thrK p t=if preS t=true then false else decide ((t.frames.length:Int)≤8) && (decide ((t.stack.length:Int)≤16) && (vq t.stack && (decide (t.on=keep t.on) && t.frames.all (frmK p))))
 unfold thrK zaH preS
 generalize vq t.stack=b1
 generalize keep t.on=k
 generalize t.frames.all (frmK p)=b2
 generalize t.frames.length=n1
 generalize t.stack.length=n2
 rw[Bool.eq_iff_iff]
 by_cases h9:t.state=9
 ·cases b1<;>cases b2<;>simp[h9]<;>omega
 ·cases b1<;>cases b2<;>simp[h9]<;>omega
set_option maxHeartbeats 4000000 in
theorem zjd {p:Prog}{t:Thr}(h1:t.frames.length≤1000000)(h2:t.stack.length≤1000000)(h3:∀ f∈t.frames,f.locals.length≤1000000)(hp:p.funcs.length≤1000000):zG Tryz.prog 47 [.agg [row p.funcs,.int .i64 p.mutexes,row p.conds,row p.semas,row p.chans,row p.choices,.int .i64 p.threads],.agg t.lv] (.bool (thrK p t)):=by
 refine .of fun s v=>?_
 rw[ziN]
 have hk:=zaV (l:=t.stack) (by omega)
 have ho:=zeq t.on
 have hc:∀ x,Ret Tryz.prog 138 [row t.frames,.fn (.func 136) [] [.ptr s.length 0]] (s++[.cells [row p.funcs,.int .i64 p.mutexes,row p.conds,row p.semas,row p.chans,row p.choices,.int .i64 p.threads],x]) (.bool (t.frames.any fun f=> !frmK p f)):=fun x=>KS (by omega) fun k hk=>zlZ (by simp) (h3 _ (zm hk)) hp
 clear h3
 generalize (t.frames.any fun f=> !frmK p f)=b3 at *
 obtain⟨st,on,fr,sk,co⟩:=t
 simp only[Thr.lv] at *
 generalize vq sk=b1 at *
 generalize decide (on=keep on)=b2 at *
 by_cases h0:preS ⟨st,on,fr,sk,co⟩=true
 ·rw[if_pos h0]
  unfold preS at h0
  simp only at h0
  have e1:decide (fr.length=0)=decide ((fr.length:Int)=0):=by rw[decide_eq_decide];omega
  have e2:decide (0<sk.length)=decide ((0:Int)<sk.length):=by rw[decide_eq_decide];omega
  rw[e1,e2] at h0
  clear e1 e2 hk ho hc
  simp only[Bool.or_eq_true,Bool.and_eq_true,decide_eq_true_eq,bne_iff_ne,ne_eq,decide_eq_decide,Bool.not_eq_true',decide_eq_false_iff_not] at h0
  by_cases h9:st=9<;>by_cases g1:(fr.length:Int)=0
  all_goals
   refine ac0 Tryz.func47 Tryz.ntmps47 ?_
   have hrs:Tryz.f47.results = #[.tmp 4]:=rfl
   repeat' (first|(with_reducible first|refine uk ?_|refine wk ?_ ?_<;>intro _)|simp -implicitDefEqProofs(disch:=first|assumption|omega)[*])
   all_goals first|exact Ends.eqat rfl (by simp) (List.prefix_refl _)|(exfalso;omega)|(exfalso;apply g1;simp[*];done)|(exfalso;simp only[decide_eq_true_eq] at *;omega)
 rw[if_neg h0]
 simp only[preS,Bool.or_eq_true,Bool.and_eq_true,decide_eq_true_eq,not_or,Bool.not_eq_true',not_and,decide_eq_false_iff_not,Decidable.not_not,bne_iff_ne,ne_eq,decide_eq_decide] at h0
 obtain⟨⟨⟨⟨⟨⟨a1,a2⟩,a3⟩,a4⟩,a5⟩,a6⟩,a7⟩:=h0
 by_cases h9:st=9
 ·have g1:(fr.length:Int)=0:=by omega
  have g2:(sk.length:Int)=0:=by omega
  clear a5 a6 a7
  subst h9
  refine ac0 Tryz.func47 Tryz.ntmps47 ?_
  have hrs:Tryz.f47.results = #[.tmp 4]:=rfl
  repeat' (first|(with_reducible first|refine uk ?_|refine wk ?_ ?_<;>intro _|refine zg hk (fun v1 hv1=>?_)|refine zg ho (fun v2 hv2=>?_)|refine yE (hc _) (fun v3 hv3=>?_))|simp -implicitDefEqProofs(disch:=first|assumption|omega)[*])
  all_goals first|(exfalso;omega)|(exfalso;apply g1;simp[*];done)|exact Ends.eqat (by simp[*]) (by simp) (by first|exact List.prefix_refl _|exact hv1|exact hv1.trans hv2|exact(hv1.trans hv2).trans hv3)
 ·have g1:¬ (fr.length:Int)=0:=by omega
  have g7:=a7 h9
  clear a5 a6 a7
  subst g7
  refine ac0 Tryz.func47 Tryz.ntmps47 ?_
  have hrs:Tryz.f47.results = #[.tmp 4]:=rfl
  repeat' (first|(with_reducible first|refine uk ?_|refine wk ?_ ?_<;>intro _|refine zg hk (fun v1 hv1=>?_)|refine zg ho (fun v2 hv2=>?_)|refine yE (hc _) (fun v3 hv3=>?_))|simp -implicitDefEqProofs(disch:=first|assumption|omega)[*])
  all_goals first|(exfalso;omega)|(exfalso;apply g1;simp[*];done)|exact Ends.eqat (by simp[*]) (by simp) (by first|exact List.prefix_refl _|exact hv1|exact hv1.trans hv2|exact(hv1.trans hv2).trans hv3)
theorem zkH {a b n:Int}{s:List AObj}{i j:Nat}(hi:s[i]? = some (.cells [.int .i64 a]))(hj:s[j]? = some (.cells [.int .i64 b])):Ret Tryz.prog 125 [.int .i64 n,.ptr i 0,.ptr j 0] s (.bool (decide (n<a) || decide (b<n))):=by
 refine .of fun v=>?_
 refine ac0 Tryz.func125 Tryz.ntmps125 ?_
 have hrs:Tryz.f125.results = #[.tmp 4]:=rfl
 repeat' (first|(with_reducible first|refine uk ?_|refine wk ?_ ?_<;>intro _)|simp -implicitDefEqProofs(disch:=first|assumption|omega)[*])
 all_goals first|(exfalso;omega)|exact Ends.eq (by simp[*]) (by simp) (List.prefix_refl _)
theorem zae {l:List Int}{a b:Int}(hl:l.length≤1000000):zG Tryz.prog 43 [row l,.int .i64 a,.int .i64 b] (.bool (betC l a b)):=by
 refine .of fun s v=>?_
 have hc:Ret Tryz.prog 124 [row l,.fn (.func 125) [] [.ptr s.length 0,.ptr (s.length+1) 0]] (s++[.cells [.int .i64 a],.cells [.int .i64 b]]) (.bool (l.any fun n=>decide (n<a) || decide (b<n))):=wA (by omega) fun k hk=>zkH (by simp) (by simp[zL])
 have e:betC l a b = !(l.any fun n=>decide (n<a) || decide (b<n)):=by unfold betC;rw[List.not_any_eq_all_not]
 rw[e]
 generalize (l.any fun n=>decide (n<a) || decide (b<n))=x at *
 refine ac0 Tryz.func43 Tryz.ntmps43 ?_
 have hrs:Tryz.f43.results = #[.tmp 6]:=rfl
 repeat' (first|(with_reducible first|refine uk ?_|refine wk ?_ ?_<;>intro _|refine yE hc (fun v2 hv2=>?_))|simp -implicitDefEqProofs(disch:=first|assumption|omega)[*])
 exact Ends.eqat (by simp) (by simp) hv2
theorem YZ {l:List Int}{a b:Int}{cs:List LV}{r:Right}(hl:l.length≤1000000)(h:cs=zd l):zG Tryz.prog 43 [.imm 1 l.length cs r,.int .i64 a,.int .i64 b] (.bool (betC l a b)):=fun s v=>by
 subst h
 exact yJ (args':=[row l,.int .i64 a,.int .i64 b]) ⟨Weak.row (yh.refl _) rfl,Weak.refl _,Weak.refl _,trivial⟩ (zae hl s v)
theorem zbf {L:List (List Int)}{n:Int}{f:Nat→Bool}{g:FuncId}{ca:List LV}{s:List AObj}(hb:L.length≤1000000)(h:∀ k,k<L.length→(k:Int)<n→Ret Tryz.prog g (.int .i64 k :: row (nth L k) :: ca) s (.bool (f k))) :
  Ret Tryz.prog 51 [row L,.int .i64 n,.fn (.func g) [] ca] s (.bool (wd L n f)):=by
 refine .of fun v=>?_
 have hno:∀ k,k<L.length→((n:Int)≤k∨f k=false)→wd L n f=false:=fun k hk hc=>by
  unfold wd
  rcases hc with hc | hc
  ·rw[decide_eq_false (by omega)];rfl
  ·have:(List.range L.length).all f=false:=by
    rw[Bool.eq_false_iff];intro h1
    have:=List.all_eq_true.1 h1 k (by simpa using hk)
    rw[hc] at this;cases this
   rw[this];simp
 have hyes:(∀ k,k<L.length→f k=true)→wd L n f=decide ((L.length:Int)=n):=fun h1=>by
  unfold wd;rw[uy.2 h1];simp
 generalize wd L n f=R at *
 refine ac0 Tryz.func51 Tryz.ntmps51 ?_
 have hrs:Tryz.f51.results = #[.tmp 6]:=rfl
 repeat' (first|(with_reducible first|refine uk ?_|refine wk ?_ ?_<;>intro _)|simp -implicitDefEqProofs(disch:=first|assumption|omega)[*])
 refine zC (β:=List Nat) false L.length (fun k v1=>v <+: v1∧∀ j,j<k→f j=true) (fun k _=>[(11,.int .i64 k),(12,.any),(13,.any),(14,.any),(15,.any),(7,.any),(8,.any),(16,.any),(17,.any),(18,.any),(19,.any),(20,.any),(21,.any),(22,.any),(23,.any),(24,.any),(25,.any),(6,.any),(26,.any)]) (fun _ _=>s) (fun _ v1=>v1) ?_ ?_
 ·exact⟨v,⟨List.prefix_refl _,by simp⟩,fz0,rfl,rfl⟩
 rintro k v1 hk ⟨hv,hI⟩
 by_cases hlt:k<L.length
 ·have hix:=zB (l:=L) (i:=(k:Int)) (by omega) (by omega)
  rw[Int.toNat_natCast] at hix
  have hlt':(k:Int)<L.length:=by omega
  by_cases hn:n≤(k:Int)
  ·rw[hno k hlt (.inl hn)]
   clear hno hyes hI
   repeat' (first|(with_reducible first|refine uk ?_|refine wk ?_ ?_<;>intro _)|simp -implicitDefEqProofs(disch:=first|assumption|omega)[*])
   all_goals exact Ends.eq rfl (by simp) hv
  ·have hh:=h k hlt (by omega)
   have hno':=fun e=>hno k hlt (.inr e)
   have hg:f k=true→∀ j,j<k+1→f j=true:=fun hp j hj=>by
    by_cases e:j=k
    ·subst e;exact hp
    ·exact hI j (by omega)
   clear hno hyes hI
   generalize f k=b at *
   cases b
   ·rw[hno' rfl]
    clear hno' hg
    repeat' (first|(with_reducible first|refine uk ?_|refine wk ?_ ?_<;>intro _|refine yE hh (fun v2 hv2=>?_))|simp -implicitDefEqProofs(disch:=first|assumption|omega)[*])
    all_goals exact Ends.eq rfl (by simp) (hv.trans hv2)
   ·have hg':=hg rfl
    clear hno' hg
    repeat' (first|(with_reducible first|refine uk ?_|refine wk ?_ ?_<;>intro _|refine yE hh (fun v2 hv2=>?_))|simp -implicitDefEqProofs(disch:=first|assumption|omega)[*])
    all_goals exact⟨hlt,v2,⟨hv.trans hv2,hg'⟩,fz,rfl,rfl⟩
 ·have:k=L.length:=by omega
  subst this
  rw[hyes hI]
  clear hno hyes hI
  repeat' (first|(with_reducible first|refine uk ?_|refine wk ?_ ?_<;>intro _)|simp -implicitDefEqProofs(disch:=first|assumption|omega)[*])
  all_goals exact Ends.eq (by simp) (by simp) hv
theorem zdV {p:Prog}{t:Thr}{s:List AObj}{i:Nat}(hi:s[i]? = some (.cells [row p.funcs,.int .i64 p.mutexes,row p.conds,row p.semas,row p.chans,row p.choices,.int .i64 p.threads]))(h1:t.frames.length≤1000000)(h2:t.stack.length≤1000000)(h3:∀ f∈t.frames,f.locals.length≤1000000)(hp:p.funcs.length≤1000000):Ret Tryz.prog 46 [.agg [.int .i64 t.state,.int .i64 t.on,row t.frames,row t.stack,.int .i64 t.code],.ptr i 0] s (.bool (!thrK p t)):=by
 refine .of fun v=>?_
 have hid:=(List.getElem?_eq_some_iff.1 hi).1
 have hsl:∀ l,(s++l)[i]? = some (.cells [row p.funcs,.int .i64 p.mutexes,row p.conds,row p.semas,row p.chans,row p.choices,.int .i64 p.threads]):=fun l=>by rw[List.getElem?_append_left hid];exact hi
 have hm:=zjd (p:=p) h1 h2 h3 hp
 simp only[Thr.lv] at hm
 generalize thrK p t=b at *
 clear h1 h2 h3
 refine ac0 Tryz.func46 Tryz.ntmps46 ?_
 have hrs:Tryz.f46.results = #[.tmp 3]:=rfl
 repeat' (first|(with_reducible first|refine uk ?_|refine wk ?_ ?_<;>intro _|refine zg hm (fun v2 hv2=>?_))|simp -implicitDefEqProofs(disch:=first|assumption|omega)[*])
 all_goals exact Ends.eqat (by simp) (by simp) hv2
theorem zfe {l:List Int}{t:Int}{k:Int}{s:List AObj}{i:Nat}(hi:s[i]? = some (.cells [.int .i64 (t-1)]))(hl:l.length≤1000000):Ret Tryz.prog 48 [.int .i64 k,row l,.ptr i 0] s (.bool (rowK t l)):=by
 refine .of fun v=>?_
 have hb:=zae (l:=l) (a:=0) (b:=t-1) hl
 have e:rowK t l=(decide ((l.length:Int)≤32) && betC l 0 (t-1)):=by
  unfold rowK
  rw[Bool.and_comm]
  congr 1
  rw[Bool.eq_iff_iff];simp;omega
 rw[e]
 clear e
 generalize betC l 0 (t-1)=b at *
 refine ac0 Tryz.func48 Tryz.ntmps48 ?_
 have hrs:Tryz.f48.results = #[.tmp 5]:=rfl
 repeat' (first|(with_reducible first|refine uk ?_|refine wk ?_ ?_<;>intro _|refine zg hb (fun v2 hv2=>?_))|simp -implicitDefEqProofs(disch:=first|assumption|omega)[*])
 all_goals exact Ends.eq (by simp[*]) (by simp) (by first|assumption|exact List.prefix_refl _)
theorem zfE {l:List Int}{p:Prog}{k:Nat}{s:List AObj}{i j:Nat}(hi:s[i]? = some (.cells [row p.funcs,.int .i64 p.mutexes,row p.conds,row p.semas,row p.chans,row p.choices,.int .i64 p.threads]))(hj:s[j]? = some (.cells [.int .i64 1073741824]))(hk:k<p.chans.length)(hl:l.length≤1000000):Ret Tryz.prog 49 [.int .i64 k,row l,.ptr i 0,.ptr j 0] s (.bool (bufI p l k)):=by
 refine .of fun v=>?_
 have hb:=zae (l:=l) (a:= -1073741824) (b:=1073741824) hl
 have hix:=zB (l:=p.chans) (i:=(k:Int)) (by omega) (by omega)
 rw[Int.toNat_natCast] at hix
 have hk':(k:Int)<p.chans.length:=by omega
 unfold bufI
 generalize betC l (-1073741824) 1073741824=b at *
 refine ac0 Tryz.func49 Tryz.ntmps49 ?_
 have hrs:Tryz.f49.results = #[.tmp 6]:=rfl
 repeat' (first|(with_reducible first|refine uk ?_|refine wk ?_ ?_<;>intro _|refine zg hb (fun v2 hv2=>?_))|simp -implicitDefEqProofs(disch:=first|assumption|omega)[*])
 all_goals exact Ends.eq (by simp[*]) (by simp) (by first|assumption|exact List.prefix_refl _)
theorem zhb (k:Nat):(k:Int).tmod 2=((k%2:Nat):Int):=by rw[Int.tmod_eq_emod_of_nonneg (by omega)];omega
theorem zjF (n a b:Int):betC [n] a b=inB n a b:=by simp[betC,inB]
set_option maxHeartbeats 4000000 in
theorem zfz {l:List Int}{t:Int}{z:Int}{s:List AObj}{i j:Nat}(hi:s[i]? = some (.cells [.int .i64 (t-1)]))(hj:s[j]? = some (.cells [.int .i64 1073741824]))(hl:l.length≤1000000):Ret Tryz.prog 50 [.int .i64 z,row l,.ptr i 0,.ptr j 0] s (.bool (KN t l)):=by
 refine .of fun v=>?_
 have hno:∀ k,k<l.length→Kq t l k=false→KN t l=false:=fun k hk hc=>by
  unfold KN
  have:(List.range l.length).all (Kq t l)=false:=by
   rw[Bool.eq_false_iff];intro h1
   have:=List.all_eq_true.1 h1 k (by simpa using hk)
   rw[hc] at this;cases this
  rw[this];rfl
 have hyes:(∀ k,k<l.length→Kq t l k=true)→KN t l=(decide ((l.length:Int)≤64) && decide ((l.length:Int).tmod 2=0)):=fun h1=>by
  unfold KN;rw[uy.2 h1,Bool.true_and]
  congr 1
  rw[decide_eq_decide,zhb];omega
 generalize KN t l=R at *
 refine ac0 Tryz.func50 Tryz.ntmps50 ?_
 have hrs:Tryz.f50.results = #[.tmp 6]:=rfl
 repeat' (first|(with_reducible first|refine uk ?_|refine wk ?_ ?_<;>intro _)|simp -implicitDefEqProofs(disch:=first|assumption|omega)[*])
 refine zC (β:=List Nat) false l.length (fun k v1=>v <+: v1∧∀ j,j<k→Kq t l j=true) (fun k _=>[(11,.int .i64 k),(12,.any),(13,.any),(14,.any),(15,.any),(7,.any),(8,.any),(16,.any),(17,.any),(18,.any),(19,.any),(20,.any),(21,.any),(22,.any),(23,.any),(24,.any),(25,.any),(26,.any),(27,.any),(28,.any),(29,.any),(30,.any),(31,.any),(32,.any),(33,.any),(34,.any),(35,.any),(36,.any),(37,.any),(38,.any),(39,.any),(6,.any),(40,.any)]) (fun _ _=>s) (fun _ v1=>v1) ?_ ?_
 ·exact⟨v,⟨List.prefix_refl _,by simp⟩,fz0,rfl,rfl⟩
 rintro k v1 hk ⟨hv,hI⟩
 by_cases hlt:k<l.length
 ·have hix:=zB (l:=l) (i:=(k:Int)) (by omega) (by omega)
  rw[Int.toNat_natCast] at hix
  have hlt':(k:Int)<l.length:=by omega
  have hno':=hno k hlt
  have hg:Kq t l k=true→∀ j,j<k+1→Kq t l j=true:=fun hp j hj=>by
   by_cases e:j=k
   ·subst e;exact hp
   ·exact hI j (by omega)
  have hb1:=YZ (l:=[nth l k]) (a:=0) (b:=t-1) (r:=.full) (by simp) rfl
  have hb2:=YZ (l:=[nth l k]) (a:= -1073741824) (b:=1073741824) (r:=.full) (by simp) rfl
  rw[zjF] at hb1 hb2
  simp only[List.length_cons,List.length_nil,Nat.zero_add,zy,Zr,yG,List.append_nil] at hb1 hb2
  clear hno hyes hI
  by_cases h2:k%2=0
  ·have hs:Kq t l k=inB (nth l k) 0 (t-1):=by unfold Kq;rw[if_pos h2]
   have hm:(k:Int).tmod 2=0:=by rw[zhb];omega
   rw[hs] at hno' hg
   clear hs hb2
   generalize inB (nth l k) 0 (t-1)=b at *
   cases b
   ·rw[hno' rfl]
    clear hno' hg
    repeat' (first|(with_reducible first|refine uk ?_|refine wk ?_ ?_<;>intro _|refine zg hb1 (fun v2 hv2=>?_))|simp -implicitDefEqProofs(disch:=first|assumption|omega)[*])
    all_goals exact Ends.eq rfl (by simp) (hv.trans hv2)
   ·have hg':=hg rfl
    clear hno' hg
    repeat' (first|(with_reducible first|refine uk ?_|refine wk ?_ ?_<;>intro _|refine zg hb1 (fun v2 hv2=>?_))|simp -implicitDefEqProofs(disch:=first|assumption|omega)[*])
    all_goals exact⟨hlt,v2,⟨hv.trans hv2,hg'⟩,fz,rfl,rfl⟩
  ·have hs:Kq t l k=inB (nth l k) (-1073741824) 1073741824:=by unfold Kq;rw[if_neg h2]
   have hm:¬ (k:Int).tmod 2=0:=by rw[zhb];omega
   have hm1:(k:Int).tmod 2=1:=by rw[zhb];omega
   rw[hs] at hno' hg
   clear hs hb1
   generalize inB (nth l k) (-1073741824) 1073741824=b at *
   cases b
   ·rw[hno' rfl]
    clear hno' hg
    repeat' (first|(with_reducible first|refine uk ?_|refine wk ?_ ?_<;>intro _|refine zg hb2 (fun v2 hv2=>?_))|simp -implicitDefEqProofs(disch:=first|assumption|omega)[*])
    all_goals exact Ends.eq rfl (by simp) (hv.trans hv2)
   ·have hg':=hg rfl
    clear hno' hg
    repeat' (first|(with_reducible first|refine uk ?_|refine wk ?_ ?_<;>intro _|refine zg hb2 (fun v2 hv2=>?_))|simp -implicitDefEqProofs(disch:=first|assumption|omega)[*])
    all_goals exact⟨hlt,v2,⟨hv.trans hv2,hg'⟩,fz,rfl,rfl⟩
 ·have:k=l.length:=by omega
  subst this
  rw[hyes hI]
  clear hno hyes hI
  repeat' (first|(with_reducible first|refine uk ?_|refine wk ?_ ?_<;>intro _)|simp -implicitDefEqProofs(disch:=first|assumption|omega)[*])
  all_goals exact Ends.eq (by simp[*]) (by simp) hv
@[simp] def P17:Nat→Plan
 | 1=>(.qs [0,1,2,3] (.or (.w 4 [3,1] (.w 5 [3,1] (.w 6 [3] (.w 7 [] .nil)))) (.w 5 [3,1] (.w 4 [3,1] (.w 6 [3] (.w 7 [] .nil))))))
 | _=>.nil
theorem zko (m n a b:Int):betC [m,n] a b=(inB m a b && inB n a b):=by simp[betC,inB]
set_option maxHeartbeats 8000000 in
theorem Jh {p:Prog}{c:Cor}{ver e:Int}(hp:mayP p=true)(h:BigC c):zG Tryz.prog 17 [.agg [.int .i64 ver,.int .i64 e,row p.funcs,.int .i64 p.mutexes,row p.conds,row p.semas,row p.chans,row p.choices,.int .i64 p.threads,.int .i64 c.now,row c.threads,row c.owners,row c.counts,row c.bufs,row c.lockq,row c.waitq,row c.downq,row c.sendq,row c.recvq]] (.bool (zbU e p c)):=by
 refine .of fun s v=>?_
 have hmp:=uK hp
 have hpf:=hmp.funcs.2
 have hm:=zid (QF hp)
 rw[hp] at hm
 have ht:=h.threads.1
 have hb0:=YZ (l:=[e,c.now]) (a:=0) (b:=1073741824) (r:=.full) (by simp) rfl
 rw[zko] at hb0
 simp only[List.length_cons,List.length_nil,Nat.zero_add,zy,Zr,yG,List.append_nil,List.cons_append,List.nil_append,Nat.reduceAdd] at hb0
 have hb1:=zae (l:=c.owners) (a:= -1) (b:=(c.threads.length:Int)-1) h.owners
 have hb2:=zae (l:=c.counts) (a:=0) (b:=1073741824) h.counts
 have hc:∀ (S:List AObj) (ip:Nat),S[ip]? = some (.cells [row p.funcs,.int .i64 p.mutexes,row p.conds,row p.semas,row p.chans,row p.choices,.int .i64 p.threads])→Ret Tryz.prog 45 [row c.threads,.fn (.func 46) [] [.ptr ip 0]] S (.bool (c.threads.any fun t=> !thrK p t)):=fun S ip hS=>KT (by omega) fun k hk=>by
  have hb:=h.threads.2 _ (zm hk)
  exact zdV hS hb.1 hb.2.1 hb.2.2 (by omega)
 have hs2:∀ (L:List (List Int)) (n:Int),BigR L→∀ (S:List AObj) (il:Nat),S[il]? = some (.cells [.int .i64 ((c.threads.length:Int)-1)])→Ret Tryz.prog 51 [row L,.int .i64 n,.fn (.func 48) [] [.ptr il 0]] S (.bool (wd L n fun k=>rowK c.threads.length (nth L k))):=fun L n hL S il hS=>zbf (by have:=hL.1;omega) fun k hk _=>zfe hS (by have:=hL.2 _ (zm hk);omega)
 have r1:=hs2 c.lockq p.mutexes h.lockq
 have r2:=hs2 c.waitq p.conds.length h.waitq
 have r3:=hs2 c.downq p.semas.length h.downq
 have r4:=hs2 c.recvq p.chans.length h.recvq
 have r5:∀ (S:List AObj) (ip im:Nat),S[ip]? = some (.cells [row p.funcs,.int .i64 p.mutexes,row p.conds,row p.semas,row p.chans,row p.choices,.int .i64 p.threads])→S[im]? = some (.cells [.int .i64 1073741824])→Ret Tryz.prog 51 [row c.bufs,.int .i64 p.chans.length,.fn (.func 49) [] [.ptr ip 0,.ptr im 0]] S (.bool (wd c.bufs p.chans.length fun k=>bufI p (nth c.bufs k) k)):=fun S ip im h1 h2=>zbf (by have:=h.bufs.1;omega) fun k hk hn=>zfE h1 h2 (by omega) (by have:=h.bufs.2 _ (zm hk);omega)
 have r6:∀ (S:List AObj) (il im:Nat),S[il]? = some (.cells [.int .i64 ((c.threads.length:Int)-1)])→S[im]? = some (.cells [.int .i64 1073741824])→Ret Tryz.prog 51 [row c.sendq,.int .i64 p.chans.length,.fn (.func 50) [] [.ptr il 0,.ptr im 0]] S (.bool (wd c.sendq p.chans.length fun k=>KN c.threads.length (nth c.sendq k))):=fun S il im h1 h2=>zbf (by have:=h.sendq.1;omega) fun k hk hn=>zfz h1 h2 (by have:=h.sendq.2 _ (zm hk);omega)
 clear hs2 h hmp hp
 have hm':zG Tryz.prog 44 [.agg [row p.funcs,.int .i64 p.mutexes,row p.conds,row p.semas,row p.chans,row p.choices,.int .i64 p.threads]] (.bool true):=hm
 clear hm
 unfold zbU barI zkj ziP zhl
 generalize (inB e 0 1073741824 && inB c.now 0 1073741824)=b0 at *
 generalize (c.threads.any fun t=> !thrK p t)=b3 at *
 generalize betC c.owners (-1) ((c.threads.length:Int)-1)=b1 at *
 generalize betC c.counts 0 1073741824=b2 at *
 generalize (wd c.lockq p.mutexes fun k=>rowK c.threads.length (nth c.lockq k))=x1 at *
 generalize (wd c.waitq p.conds.length fun k=>rowK c.threads.length (nth c.waitq k))=x2 at *
 generalize (wd c.downq p.semas.length fun k=>rowK c.threads.length (nth c.downq k))=x3 at *
 generalize (wd c.recvq p.chans.length fun k=>rowK c.threads.length (nth c.recvq k))=x4 at *
 generalize (wd c.bufs p.chans.length fun k=>bufI p (nth c.bufs k) k)=x5 at *
 generalize (wd c.sendq p.chans.length fun k=>KN c.threads.length (nth c.sendq k))=x6 at *
 have hfe:decide (c.counts.length=p.semas.length)=decide ((c.counts.length:Int)=(p.semas.length:Int)):=by rw[decide_eq_decide];omega
 refine ac0 Tryz.func17 Tryz.ntmps17 ?_
 have hrs:Tryz.f17.results = #[.tmp 2]:=rfl
 repeat' (first|(with_reducible first|refine uk ?_|refine wk ?_ ?_<;>intro _|(refine dr P17 mixed ?_ ?_ ?_;kernel_rfl;kernel_rfl)|refine And.intro ?_ ?_|refine zg hb0 (fun v1 hv1=>?_)|refine zg hm' (fun v1 hv1=>?_)|refine yE (hc _ _ (by simp[zL])) (fun v1 hv1=>?_)|refine zg hb1 (fun v1 hv1=>?_)|refine zg hb2 (fun v1 hv1=>?_)|refine yE (r1 _ _ (by simp[zL])) (fun v1 hv1=>?_)|refine yE (r2 _ _ (by simp[zL])) (fun v1 hv1=>?_)|refine yE (r3 _ _ (by simp[zL])) (fun v1 hv1=>?_)|refine yE (r4 _ _ (by simp[zL])) (fun v1 hv1=>?_)|refine yE (r5 _ _ _ (by simp[zL]) (by simp[zL])) (fun v1 hv1=>?_)|refine yE (r6 _ _ _ (by simp[zL]) (by simp[zL])) (fun v1 hv1=>?_))|simp -implicitDefEqProofs(disch:=first|assumption|omega)[*])
 all_goals first|(exfalso;omega)|exact Ends.eqat rfl (by simp) (by repeat' (first|exact List.prefix_refl _|assumption|refine List.IsPrefix.trans ?_ (by assumption)))|(refine Ends.eqat ?_ ?_ (by repeat' (first|exact List.prefix_refl _|assumption|refine List.IsPrefix.trans ?_ (by assumption)));(simp[*];done);simp;done)
end Go.Hb
end
