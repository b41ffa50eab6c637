/-
  A layer for reasoning about the program's calls, and contracts of its functions. CONDITIONS: none; each theorem bears its own.
-/
import Derived.Test.YtieoaonaijbijaaGreatG12
set_option linter.unusedVariables false
set_option linter.unusedSimpArgs false
section
namespace Go.Hb
open Go Go.Proofs Go.RowKit
set_option maxRecDepth 100000
set_option maxHeartbeats 800000
attribute [-simp] aC aL xq yp zE aIf yr zR aLen zt ya zQ zP lBr aq yP aev zk zw zF zI LV.cells LV.cellsOk getElem?_pos getElem?_neg
theorem is_p (n:Int):zM Tryz.prog 214 [.int .i64 n] (.bool (decide (0≤n) && decide (n<27))):=by
 refine .of fun s v=>?_
 refine ac0 Tryz.func214 Tryz.ntmps214 ?_
 have hrs:Tryz.f214.results = #[.tmp 2]:=rfl
 repeat' (first|(with_reducible first|refine uk ?_|refine wk ?_ ?_<;>intro _)|simp -implicitDefEqProofs(disch:=first|assumption|omega)[*])
 all_goals (first|(exfalso;omega)|((try subst_vars);(first|refine zn.eq ?_ (by simp)|refine zn.eqat ?_ (by simp));(first|with_reducible rfl|(simp[*, ];done)|(simp[*, ];omega)|(simp only[LV.bool.injEq];rw[Bool.eq_iff_iff];simp[*, ];done)|(simp only[LV.bool.injEq];rw[Bool.eq_iff_iff];simp[*, ];omega)|(simp only[LV.bool.injEq];rw[Bool.eq_iff_iff];simp (disch:=omega) only[if_pos,if_neg,if_true,if_false, *, ];simp<;>omega)|(simp only[LV.bool.injEq,Bool.and_eq_false_imp,Bool.and_eq_true,decide_eq_true_eq];intros;exfalso;omega)|(simp only[LV.bool.injEq,Bool.and_eq_false_imp,Bool.and_eq_true,decide_eq_true_eq];intros;simp_all;done))))
theorem zdY {s:List AObj}{id:Nat}{most n:Int}(hs:s[id]? = some (.cells [.int .i64 most])):Ret Tryz.prog 207 (.int .i64 n :: [.ptr id 0]) s (.bool (decide (n<0) || decide (most<n))):=by
 refine .of fun v=>?_
 refine ac0 Tryz.func207 Tryz.ntmps207 ?_
 have hrs:Tryz.f207.results = #[.tmp 3]:=rfl
 repeat' (first|(with_reducible first|refine uk ?_|refine wk ?_ ?_<;>intro _)|simp -implicitDefEqProofs(disch:=first|assumption|omega)[*])
 all_goals exact Ends.eq (by simp[*]) (by simp) (List.prefix_refl _)
theorem zfO (l:List Int)(most:Int):(!(l.any fun n=>decide (n<0) || decide (most<n)))=yf l most:=by
 unfold yf
 rw[List.not_any_eq_all_not]
 congr 1;funext n
 rw[Bool.eq_iff_iff];simp
theorem uV {l:List Int}{most:Int}(hb:l.length≤9223372036854775807):zG Tryz.prog 126 [.int .i64 most,row l] (.bool (yf l most)):=by
 refine .of fun s v=>?_
 have hc:=wA (l:=l) (p:=fun n=>decide (n<0) || decide (most<n)) (g:=207) (ca:=[.ptr s.length 0]) (s:=s++[.cells [.int .i64 most]]) hb (fun k _=>zdY (by simp[xy]))
 rw[← zfO]
 refine ac0 Tryz.func126 Tryz.ntmps126 ?_
 have hrs:Tryz.f126.results = #[.tmp 4]:=rfl
 repeat' (first|(with_reducible first|refine uk ?_|refine wk ?_ ?_<;>intro _|refine yE hc (fun v2 hv2=>?_))|simp -implicitDefEqProofs(disch:=first|assumption|omega)[*])
 exact Ends.eqat rfl (by simp) hv2
theorem zkM {fs:List Fn_}{mu th lo:Int}{co se ch:List Int}{cho:List (List Int)}{cl:List Ins} : zM Tryz.prog 260 [.agg [row fs,.int .i64 mu,row co,row se,row ch,row cho,.int .i64 th],.agg [.int .i64 lo,row cl]] (.int .i64 lo):=by
 refine .of fun s v=>?_
 refine ac0 Tryz.func260 Tryz.ntmps260 ?_
 have hrs:Tryz.f260.results = #[.tmp 4]:=rfl
 repeat' (first|(with_reducible first|refine uk ?_|refine wk ?_ ?_<;>intro _)|simp -implicitDefEqProofs(disch:=first|assumption|omega)[*])
 all_goals exact zn.eqat rfl (by simp)
theorem zlG {fs:List Fn_}{mu th lo:Int}{co se ch:List Int}{cho:List (List Int)}{cl:List Ins}(hb:cl.length<4611686018427387904):zM Tryz.prog 261 [.agg [row fs,.int .i64 mu,row co,row se,row ch,row cho,.int .i64 th],.agg [.int .i64 lo,row cl]] (.int .i64 (cl.length+1)):=by
 refine .of fun s v=>?_
 refine ac0 Tryz.func261 Tryz.ntmps261 ?_
 have hrs:Tryz.f261.results = #[.tmp 4]:=rfl
 repeat' (first|(with_reducible first|refine uk ?_|refine wk ?_ ?_<;>intro _)|simp -implicitDefEqProofs(disch:=first|assumption|omega)[*])
 all_goals exact zn.eqat rfl (by simp)
theorem zlE {fs:List Fn_}{mu th lo:Int}{co se ch:List Int}{cho:List (List Int)}{cl:List Ins} : zM Tryz.prog 262 [.agg [row fs,.int .i64 mu,row co,row se,row ch,row cho,.int .i64 th],.agg [.int .i64 lo,row cl]] (.int .i64 fs.length):=by
 refine .of fun s v=>?_
 refine ac0 Tryz.func262 Tryz.ntmps262 ?_
 have hrs:Tryz.f262.results = #[.tmp 4]:=rfl
 repeat' (first|(with_reducible first|refine uk ?_|refine wk ?_ ?_<;>intro _)|simp -implicitDefEqProofs(disch:=first|assumption|omega)[*])
 all_goals exact zn.eqat rfl (by simp)
theorem zlw {fs:List Fn_}{mu th lo:Int}{co se ch:List Int}{cho:List (List Int)}{cl:List Ins} : zM Tryz.prog 263 [.agg [row fs,.int .i64 mu,row co,row se,row ch,row cho,.int .i64 th],.agg [.int .i64 lo,row cl]] (.int .i64 mu):=by
 refine .of fun s v=>?_
 refine ac0 Tryz.func263 Tryz.ntmps263 ?_
 have hrs:Tryz.f263.results = #[.tmp 4]:=rfl
 repeat' (first|(with_reducible first|refine uk ?_|refine wk ?_ ?_<;>intro _)|simp -implicitDefEqProofs(disch:=first|assumption|omega)[*])
 all_goals exact zn.eqat rfl (by simp)
theorem zlk {fs:List Fn_}{mu th lo:Int}{co se ch:List Int}{cho:List (List Int)}{cl:List Ins} : zM Tryz.prog 264 [.agg [row fs,.int .i64 mu,row co,row se,row ch,row cho,.int .i64 th],.agg [.int .i64 lo,row cl]] (.int .i64 co.length):=by
 refine .of fun s v=>?_
 refine ac0 Tryz.func264 Tryz.ntmps264 ?_
 have hrs:Tryz.f264.results = #[.tmp 4]:=rfl
 repeat' (first|(with_reducible first|refine uk ?_|refine wk ?_ ?_<;>intro _)|simp -implicitDefEqProofs(disch:=first|assumption|omega)[*])
 all_goals exact zn.eqat rfl (by simp)
theorem zma {fs:List Fn_}{mu th lo:Int}{co se ch:List Int}{cho:List (List Int)}{cl:List Ins} : zM Tryz.prog 265 [.agg [row fs,.int .i64 mu,row co,row se,row ch,row cho,.int .i64 th],.agg [.int .i64 lo,row cl]] (.int .i64 se.length):=by
 refine .of fun s v=>?_
 refine ac0 Tryz.func265 Tryz.ntmps265 ?_
 have hrs:Tryz.f265.results = #[.tmp 4]:=rfl
 repeat' (first|(with_reducible first|refine uk ?_|refine wk ?_ ?_<;>intro _)|simp -implicitDefEqProofs(disch:=first|assumption|omega)[*])
 all_goals exact zn.eqat rfl (by simp)
theorem zlO {fs:List Fn_}{mu th lo:Int}{co se ch:List Int}{cho:List (List Int)}{cl:List Ins} : zM Tryz.prog 266 [.agg [row fs,.int .i64 mu,row co,row se,row ch,row cho,.int .i64 th],.agg [.int .i64 lo,row cl]] (.int .i64 ch.length):=by
 refine .of fun s v=>?_
 refine ac0 Tryz.func266 Tryz.ntmps266 ?_
 have hrs:Tryz.f266.results = #[.tmp 4]:=rfl
 repeat' (first|(with_reducible first|refine uk ?_|refine wk ?_ ?_<;>intro _)|simp -implicitDefEqProofs(disch:=first|assumption|omega)[*])
 all_goals exact zn.eqat rfl (by simp)
theorem zkI {fs:List Fn_}{mu th lo:Int}{co se ch:List Int}{cho:List (List Int)}{cl:List Ins} : zM Tryz.prog 267 [.agg [row fs,.int .i64 mu,row co,row se,row ch,row cho,.int .i64 th],.agg [.int .i64 lo,row cl]] (.int .i64 cho.length):=by
 refine .of fun s v=>?_
 refine ac0 Tryz.func267 Tryz.ntmps267 ?_
 have hrs:Tryz.f267.results = #[.tmp 4]:=rfl
 repeat' (first|(with_reducible first|refine uk ?_|refine wk ?_ ?_<;>intro _)|simp -implicitDefEqProofs(disch:=first|assumption|omega)[*])
 all_goals exact zn.eqat rfl (by simp)
theorem zkD {fs:List Fn_}{mu th lo:Int}{co se ch:List Int}{cho:List (List Int)}{cl:List Ins} : zM Tryz.prog 268 [.agg [row fs,.int .i64 mu,row co,row se,row ch,row cho,.int .i64 th],.agg [.int .i64 lo,row cl]] (.int .i64 1073741825):=by
 refine .of fun s v=>?_
 refine ac0 Tryz.func268 Tryz.ntmps268 ?_
 have hrs:Tryz.f268.results = #[.tmp 4]:=rfl
 repeat' (first|(with_reducible first|refine uk ?_|refine wk ?_ ?_<;>intro _)|simp -implicitDefEqProofs(disch:=first|assumption|omega)[*])
 all_goals exact zn.eqat rfl (by simp)
def opsV : List LV := [.str "push".toUTF8, .fn (.func 268) [] [], .str "pop".toUTF8, .nilf, .str "dup".toUTF8, .nilf, .str "add".toUTF8, .nilf, .str "sub".toUTF8, .nilf, .str "get".toUTF8, .fn (.func 260) [] [], .str "set".toUTF8, .fn (.func 260) [] [], .str "jump".toUTF8, .fn (.func 261) [] [], .str "zero".toUTF8, .fn (.func 261) [] [], .str "call".toUTF8, .fn (.func 262) [] [], .str "ret".toUTF8, .nilf, .str "spawn".toUTF8, .fn (.func 262) [] [], .str "yield".toUTF8, .nilf, .str "sleep".toUTF8, .nilf, .str "join".toUTF8, .nilf, .str "lock".toUTF8, .fn (.func 263) [] [], .str "unlock".toUTF8, .fn (.func 263) [] [], .str "wait".toUTF8, .fn (.func 264) [] [], .str "signal".toUTF8, .fn (.func 264) [] [], .str "broadcast".toUTF8, .fn (.func 264) [] [], .str "down".toUTF8, .fn (.func 265) [] [], .str "up".toUTF8, .fn (.func 265) [] [], .str "send".toUTF8, .fn (.func 266) [] [], .str "recv".toUTF8, .fn (.func 266) [] [], .str "select".toUTF8, .fn (.func 267) [] [], .str "print".toUTF8, .nilf, .str "exit".toUTF8, .nilf]
@[simp] theorem opsV_len:opsV.length=54:=rfl
@[simp] theorem opsV_t0 : List.take 2 (opsV) = [.str "push".toUTF8, .fn (.func 268) [] []] := rfl
@[simp] theorem opsV_t1 : List.take 2 (List.drop 2 opsV) = [.str "pop".toUTF8, .nilf] := rfl
@[simp] theorem opsV_t2 : List.take 2 (List.drop 4 opsV) = [.str "dup".toUTF8, .nilf] := rfl
@[simp] theorem opsV_t3 : List.take 2 (List.drop 6 opsV) = [.str "add".toUTF8, .nilf] := rfl
@[simp] theorem opsV_t4 : List.take 2 (List.drop 8 opsV) = [.str "sub".toUTF8, .nilf] := rfl
@[simp] theorem opsV_t5 : List.take 2 (List.drop 10 opsV) = [.str "get".toUTF8, .fn (.func 260) [] []] := rfl
@[simp] theorem opsV_t6 : List.take 2 (List.drop 12 opsV) = [.str "set".toUTF8, .fn (.func 260) [] []] := rfl
@[simp] theorem opsV_t7 : List.take 2 (List.drop 14 opsV) = [.str "jump".toUTF8, .fn (.func 261) [] []] := rfl
@[simp] theorem opsV_t8 : List.take 2 (List.drop 16 opsV) = [.str "zero".toUTF8, .fn (.func 261) [] []] := rfl
@[simp] theorem opsV_t9 : List.take 2 (List.drop 18 opsV) = [.str "call".toUTF8, .fn (.func 262) [] []] := rfl
@[simp] theorem opsV_t10 : List.take 2 (List.drop 20 opsV) = [.str "ret".toUTF8, .nilf] := rfl
@[simp] theorem opsV_t11 : List.take 2 (List.drop 22 opsV) = [.str "spawn".toUTF8, .fn (.func 262) [] []] := rfl
@[simp] theorem opsV_t12 : List.take 2 (List.drop 24 opsV) = [.str "yield".toUTF8, .nilf] := rfl
@[simp] theorem opsV_t13 : List.take 2 (List.drop 26 opsV) = [.str "sleep".toUTF8, .nilf] := rfl
@[simp] theorem opsV_t14 : List.take 2 (List.drop 28 opsV) = [.str "join".toUTF8, .nilf] := rfl
@[simp] theorem opsV_t15 : List.take 2 (List.drop 30 opsV) = [.str "lock".toUTF8, .fn (.func 263) [] []] := rfl
@[simp] theorem opsV_t16 : List.take 2 (List.drop 32 opsV) = [.str "unlock".toUTF8, .fn (.func 263) [] []] := rfl
@[simp] theorem opsV_t17 : List.take 2 (List.drop 34 opsV) = [.str "wait".toUTF8, .fn (.func 264) [] []] := rfl
@[simp] theorem opsV_t18 : List.take 2 (List.drop 36 opsV) = [.str "signal".toUTF8, .fn (.func 264) [] []] := rfl
@[simp] theorem opsV_t19 : List.take 2 (List.drop 38 opsV) = [.str "broadcast".toUTF8, .fn (.func 264) [] []] := rfl
@[simp] theorem opsV_t20 : List.take 2 (List.drop 40 opsV) = [.str "down".toUTF8, .fn (.func 265) [] []] := rfl
@[simp] theorem opsV_t21 : List.take 2 (List.drop 42 opsV) = [.str "up".toUTF8, .fn (.func 265) [] []] := rfl
@[simp] theorem opsV_t22 : List.take 2 (List.drop 44 opsV) = [.str "send".toUTF8, .fn (.func 266) [] []] := rfl
@[simp] theorem opsV_t23 : List.take 2 (List.drop 46 opsV) = [.str "recv".toUTF8, .fn (.func 266) [] []] := rfl
@[simp] theorem opsV_t24 : List.take 2 (List.drop 48 opsV) = [.str "select".toUTF8, .fn (.func 267) [] []] := rfl
@[simp] theorem opsV_t25 : List.take 2 (List.drop 50 opsV) = [.str "print".toUTF8, .nilf] := rfl
@[simp] theorem opsV_t26 : List.take 2 (List.drop 52 opsV) = [.str "exit".toUTF8, .nilf] := rfl
set_option maxHeartbeats 4000000 in
theorem zmp:zM Tryz.prog 215 [] (.agg opsV):=by
 refine .of fun s v=>?_
 refine ac0 Tryz.func215 Tryz.ntmps215 ?_
 have hrs:Tryz.f215.results = #[.cell 0 239]:=rfl
 repeat' (first|(with_reducible first|refine uk ?_|refine wk ?_ ?_<;>intro _)|simp -implicitDefEqProofs(disch:=first|assumption|omega)[*])
 exact zn.eqat rfl (by simp)
set_option maxHeartbeats 20000000 in
theorem zhn {fs:List Fn_}{mu th lo op a:Int}{co se ch:List Int}{cho:List (List Int)}{cl:List Ins}(hb:cl.length<4611686018427387904) :
  zM Tryz.prog 134 [.agg [row fs,.int .i64 mu,row co,row se,row ch,row cho,.int .i64 th],.agg [.int .i64 lo,row cl],.agg [.int .i64 op,.int .i64 a]] (.bool (mayI ⟨fs,mu,co,se,ch,cho,th⟩ ⟨lo,cl⟩ ⟨op,a⟩)):=by
 refine .of fun s v=>?_
 by_cases hop:0≤op∧op<27
 ·have:op=0∨op=1∨op=2∨op=3∨op=4∨op=5∨op=6∨op=7∨op=8∨op=9∨op=10∨op=11∨op=12∨op=13∨op=14∨op=15∨op=16∨op=17∨op=18∨op=19∨op=20∨op=21∨op=22∨op=23∨op=24∨op=25∨op=26:=by omega
  unfold mayI most vZ asks
  rcases this with rfl | rfl | rfl | rfl | rfl | rfl | rfl | rfl | rfl | rfl | rfl | rfl | rfl | rfl | rfl | rfl | rfl | rfl | rfl | rfl | rfl | rfl | rfl | rfl | rfl | rfl | rfl
  all_goals
   clear hop
   refine ac0 Tryz.func134 Tryz.ntmps134 ?_
   have hrs:Tryz.f134.results = #[.tmp 6]:=rfl
   repeat' (first|(with_reducible first|refine uk ?_|refine wk ?_ ?_<;>intro _|(refine dr P134 mixed ?_ ?_ ?_;kernel_rfl;kernel_rfl)|refine zc (is_p _) ?_|refine zc zmp ?_|refine zc (zkM) ?_|refine zc (zlG hb) ?_|refine zc (zlE) ?_|refine zc (zlw) ?_|refine zc (zlk) ?_|refine zc (zma) ?_|refine zc (zlO) ?_|refine zc (zkI) ?_|refine zc (zkD) ?_)|simp -implicitDefEqProofs(disch:=first|assumption|omega)[*])
  all_goals first|(exfalso;omega)|(first|(exfalso;omega)|((try subst_vars);(first|refine zn.eq ?_ (by simp)|refine zn.eqat ?_ (by simp));(first|with_reducible rfl|(simp[*, ];done)|(simp[*, ];omega)|(simp only[LV.bool.injEq];rw[Bool.eq_iff_iff];simp[*, ];done)|(simp only[LV.bool.injEq];rw[Bool.eq_iff_iff];simp[*, ];omega)|(simp only[LV.bool.injEq];rw[Bool.eq_iff_iff];simp (disch:=omega) only[if_pos,if_neg,if_true,if_false, *, ];simp<;>omega)|(simp only[LV.bool.injEq,Bool.and_eq_false_imp,Bool.and_eq_true,decide_eq_true_eq];intros;exfalso;omega)|(simp only[LV.bool.injEq,Bool.and_eq_false_imp,Bool.and_eq_true,decide_eq_true_eq];intros;simp_all;done))))
 ·have hm:mayI ⟨fs,mu,co,se,ch,cho,th⟩ ⟨lo,cl⟩ ⟨op,a⟩=false:=by
   unfold mayI
   have:(decide (0≤op) && decide (op≤26))=false:=by simp;omega
   rw[this,Bool.false_and]
  have hi:(decide (0≤op) && decide (op<27))=false:=by simp;omega
  rw[hm]
  have his:=is_p op
  rw[hi] at his
  refine ac0 Tryz.func134 Tryz.ntmps134 ?_
  have hrs:Tryz.f134.results = #[.tmp 6]:=rfl
  repeat' (first|(with_reducible first|refine uk ?_|refine wk ?_ ?_<;>intro _|(refine dr P134 mixed ?_ ?_ ?_;kernel_rfl;kernel_rfl)|refine zc his ?_)|simp -implicitDefEqProofs(disch:=first|assumption|omega)[*])
  all_goals exact zn.eqat rfl (by simp)
theorem JD {α : Type}[Enc α]{l:List α}{p:α→Bool}{k:Nat}(h:k<l.length)(hp:p (nth l k)=false):l.all p=false:=by
 rw[List.all_eq_false]
 refine⟨nth l k,by rw[zK h];exact List.getElem_mem h,by simp[hp]⟩
theorem Ys {α : Type}[Enc α]{l:List α}{p:α→Bool}{k:Nat}(h:k<l.length)(hp:p (nth l k)=true)(hk:(l.take k).all p=true):(l.take (k+1)).all p=true:=by
 rw[za h,List.all_append,hk];simp[hp]
set_option maxHeartbeats 8000000 in
theorem zgD {fs:List Fn_}{mu th:Int}{co se ch:List Int}{cho:List (List Int)}(h1:fs.length≤9223372036854775807)(h2:co.length≤9223372036854775807)(h3:se.length≤9223372036854775807)(h4:ch.length≤9223372036854775807)(h5:cho.length≤9223372036854775807)
  (h6:∀ l∈cho,l.length≤9223372036854775807) (hmu:I64 mu) :
  zM Tryz.prog 35 [.agg [row fs,.int .i64 mu,row co,row se,row ch,row cho,.int .i64 th]] (.bool (mayP ⟨fs,mu,co,se,ch,cho,th⟩)):=by
 refine .of fun s v=>?_
 obtain⟨hm1,hm2⟩:=hmu
 obtain⟨p,hp⟩:∃ p:Prog,(⟨fs,mu,co,se,ch,cho,th⟩:Prog)=p:=⟨_,rfl⟩
 have hall:∀ (A B C:Bool),mayP p=(decide (1≤fs.length) && decide (fs.length≤16) && decide (0≤mu) && decide (mu≤8) && decide (co.length≤8) && decide (se.length≤8) && decide (ch.length≤8) && decide (cho.length≤8)
   && decide (1≤th) && decide (th≤32) && yf co (mu-1) && yf se 100 && yf ch 8 && cho.all (wz p) && fs.all (mayF p)):=fun _ _ _=>by subst hp;rfl
 rw[hp,hall false false false]
 clear hall
 refine ac0 Tryz.func35 Tryz.ntmps35 ?_
 have hrs:Tryz.f35.results = #[.tmp 2]:=rfl
 by_cases hmn:mu<0
 ·repeat' (first|(with_reducible first|refine uk ?_|refine wk ?_ ?_<;>intro _|(refine dr P35 mixed ?_ ?_ ?_;kernel_rfl;kernel_rfl))|simp -implicitDefEqProofs(disch:=first|assumption|omega)[*])
  all_goals first|(first|(exfalso;omega)|((try subst_vars);(first|refine zn.eq ?_ (by simp)|refine zn.eqat ?_ (by simp));(first|with_reducible rfl|(simp[*, ];done)|(simp[*, ];omega)|(simp only[LV.bool.injEq];rw[Bool.eq_iff_iff];simp[*, ];done)|(simp only[LV.bool.injEq];rw[Bool.eq_iff_iff];simp[*, ];omega)|(simp only[LV.bool.injEq];rw[Bool.eq_iff_iff];simp (disch:=omega) only[if_pos,if_neg,if_true,if_false, *, ];simp<;>omega)|(simp only[LV.bool.injEq,Bool.and_eq_false_imp,Bool.and_eq_true,decide_eq_true_eq];intros;exfalso;omega)|(simp only[LV.bool.injEq,Bool.and_eq_false_imp,Bool.and_eq_true,decide_eq_true_eq];intros;simp_all;done))))
 repeat' (first|(with_reducible first|refine uk ?_|refine wk ?_ ?_<;>intro _|(refine dr P35 mixed ?_ ?_ ?_;kernel_rfl;kernel_rfl)|refine zc (zhM h2) ?_|refine zc (zhM h3) ?_|refine zc (zhM h4) ?_)|simp -implicitDefEqProofs(disch:=first|assumption|omega)[*])
 all_goals first|(first|(exfalso;omega)|((try subst_vars);(first|refine zn.eq ?_ (by simp)|refine zn.eqat ?_ (by simp));(first|with_reducible rfl|(simp[*, ];done)|(simp[*, ];omega)|(simp only[LV.bool.injEq];rw[Bool.eq_iff_iff];simp[*, ];done)|(simp only[LV.bool.injEq];rw[Bool.eq_iff_iff];simp[*, ];omega)|(simp only[LV.bool.injEq];rw[Bool.eq_iff_iff];simp (disch:=omega) only[if_pos,if_neg,if_true,if_false, *, ];simp<;>omega)|(simp only[LV.bool.injEq,Bool.and_eq_false_imp,Bool.and_eq_true,decide_eq_true_eq];intros;exfalso;omega)|(simp only[LV.bool.injEq,Bool.and_eq_false_imp,Bool.and_eq_true,decide_eq_true_eq];intros;simp_all;done))))|skip
 refine zC (β:=Unit) false cho.length (fun k _=>(cho.take k).all (wz p)=true) (fun k _=>[(6,.int .i64 k),(88,.any),(89,.any),(90,.any),(91,.any),(92,.any),(95,.any),(96,.any),(97,.any),(98,.any),(99,.any),(100,.any),(101,.any),(7,.any),(102,.any),(103,.any),(2,.any),(93,.any),(94,.any)]) (fun _ _=>s++[.cells [row fs,.int .i64 mu,row co,row se,row ch,row cho,.int .i64 th]]) (fun _ _=>v) ?_ ?_
 ·exact⟨(),by simp,fz0,rfl,rfl⟩
 intro k _ hk hI
 by_cases hlt:k<cho.length
 ·have hch:=h6 (nth cho k) (by rw[zK hlt];exact List.getElem_mem hlt)
  have hspec:(yf (nth cho k) (ch.length-1) && decide (nth cho k).Nodup && decide (1≤(nth cho k).length) && decide ((nth cho k).length≤8))=wz p (nth cho k):=by subst hp;rfl
  have hc:=zgI (xf:=row fs) (xc:=row co) (xs:=row se) (xo:=row cho) (mu:=mu) (th:=th) (ch:=ch) hch h4
  rw[hspec] at hc
  cases hm:wz p (nth cho k)
  ·have:=JD hlt hm
   rw[hm] at hc
   repeat' (first|(with_reducible first|refine uk ?_|refine wk ?_ ?_<;>intro _|(refine dr P35 mixed ?_ ?_ ?_;kernel_rfl;kernel_rfl)|refine zc hc ?_)|simp -implicitDefEqProofs(disch:=first|assumption|omega)[*])
   all_goals first|(first|(exfalso;omega)|((try subst_vars);(first|refine zn.eq ?_ (by simp)|refine zn.eqat ?_ (by simp));(first|with_reducible rfl|(simp[*, ];done)|(simp[*, ];omega)|(simp only[LV.bool.injEq];rw[Bool.eq_iff_iff];simp[*, ];done)|(simp only[LV.bool.injEq];rw[Bool.eq_iff_iff];simp[*, ];omega)|(simp only[LV.bool.injEq];rw[Bool.eq_iff_iff];simp (disch:=omega) only[if_pos,if_neg,if_true,if_false, *, ];simp<;>omega)|(simp only[LV.bool.injEq,Bool.and_eq_false_imp,Bool.and_eq_true,decide_eq_true_eq];intros;exfalso;omega)|(simp only[LV.bool.injEq,Bool.and_eq_false_imp,Bool.and_eq_true,decide_eq_true_eq];intros;simp_all;done))))
  ·have:=Ys hlt hm hI
   rw[hm] at hc
   repeat' (first|(with_reducible first|refine uk ?_|refine wk ?_ ?_<;>intro _|(refine dr P35 mixed ?_ ?_ ?_;kernel_rfl;kernel_rfl)|refine zc hc ?_)|simp -implicitDefEqProofs(disch:=first|assumption|omega)[*])
   exact⟨hlt,(),this,fz,rfl,rfl⟩
 ·have:k=cho.length:=by omega
  subst this
  rw[List.take_length] at hI
  repeat' (first|(with_reducible first|refine uk ?_|refine wk ?_ ?_<;>intro _|(refine dr P35 mixed ?_ ?_ ?_;kernel_rfl;kernel_rfl))|simp -implicitDefEqProofs(disch:=first|assumption|omega)[*])
  refine zC (β:=List AObj) false fs.length (fun k J=>(fs.take k).all (mayF p)=true) (fun k _=>[(8,.int .i64 k),(104,.any),(105,.any),(106,.any),(107,.any),(108,.any),(111,.any),(112,.any),(113,.any),(114,.any),(115,.any),(9,.any),(116,.any),(117,.any),(118,.any),(119,.any),(120,.any),(121,.any),(122,.any),(123,.any),(124,.any),(125,.any),(126,.any),(127,.any),(128,.any),(129,.any),(2,.any),(10,.any),(130,.any),(131,.any),(132,.any),(133,.any),(134,.any),(137,.any),(138,.any),(139,.any),(140,.any),(141,.any),(142,.any),(143,.any),(144,.any),(11,.any),(145,.any),(146,.any),(135,.any),(136,.any),(109,.any),(110,.any)]) (fun _ J=>s++(.cells [row fs,.int .i64 mu,row co,row se,row ch,row cho,.int .i64 th] :: J)) (fun _ _=>v) ?_ ?_
  ·exact⟨[],by simp,fz0,by simp,rfl⟩
  intro k J hk hF
  by_cases hlt:k<fs.length
  ·have hmf:∀ b,mayF p (nth fs k)=b↔(decide (0≤(nth fs k).locals) && decide ((nth fs k).locals≤8) && decide ((nth fs k).code.length≤64) && (nth fs k).code.all (mayI p (nth fs k)))=b:=fun b=>by rfl
   have hbad:=fun h=>JD (p:=mayF p) hlt h
   by_cases hpre:0≤(nth fs k).locals∧(nth fs k).locals≤8∧(nth fs k).code.length≤64
   ·obtain⟨q1,q2,q3⟩:=hpre
    repeat' (first|(with_reducible first|refine uk ?_|refine wk ?_ ?_<;>intro _|(refine dr P35 mixed ?_ ?_ ?_;kernel_rfl;kernel_rfl))|simp -implicitDefEqProofs(disch:=first|assumption|omega)[*])
    all_goals first|(exfalso;omega)|skip
    refine yW (β:=Unit) false (nth fs k).code.length (fun j _=>((nth fs k).code.take j).all (mayI p (nth fs k))=true) (fun j _=>[(10,.int .i64 j),(130,.any),(131,.any),(132,.any),(133,.any),(134,.any),(137,.any),(138,.any),(139,.any),(140,.any),(141,.any),(142,.any),(143,.any),(144,.any),(11,.any),(145,.any),(146,.any),(2,.any),(135,.any),(136,.any)]) (fun _ _=>s++(.cells [row fs,.int .i64 mu,row co,row se,row ch,row cho,.int .i64 th] :: (J++[.cells [.int .i64 (nth fs k).locals,row (nth fs k).code]]))) (fun _ _=>v) ?_ ?_
    ·exact⟨(),by simp,fz0,rfl,rfl⟩
    intro j _ hj hC
    by_cases hltj:j<(nth fs k).code.length
    ·have hi:=zjX (fs:=fs) (mu:=mu) (th:=th) (lo:=(nth fs k).locals) (op:=(nth (nth fs k).code j).op) (a:=(nth (nth fs k).code j).a) (co:=co) (se:=se) (ch:=ch) (cho:=cho) (cl:=(nth fs k).code) (by omega)
     have hspec:mayI ⟨fs,mu,co,se,ch,cho,th⟩ ⟨(nth fs k).locals,(nth fs k).code⟩ ⟨(nth (nth fs k).code j).op,(nth (nth fs k).code j).a⟩=mayI p (nth fs k) (nth (nth fs k).code j):=by subst hp;rfl
     rw[hspec] at hi
     cases hm:mayI p (nth fs k) (nth (nth fs k).code j)
     ·have hf:=hbad ((hmf false).2 (by rw[JD hltj hm,Bool.and_false]))
      clear hbad hmf
      rw[hm] at hi
      repeat' (first|(with_reducible first|refine uk ?_|refine wk ?_ ?_<;>intro _|(refine dr P35 mixed ?_ ?_ ?_;kernel_rfl;kernel_rfl)|refine zc hi ?_)|simp -implicitDefEqProofs(disch:=first|assumption|omega)[*])
      all_goals first|(first|(exfalso;omega)|((try subst_vars);(first|refine zn.eq ?_ (by simp)|refine zn.eqat ?_ (by simp));(first|with_reducible rfl|(simp[*, ];done)|(simp[*, ];omega)|(simp only[LV.bool.injEq];rw[Bool.eq_iff_iff];simp[*, ];done)|(simp only[LV.bool.injEq];rw[Bool.eq_iff_iff];simp[*, ];omega)|(simp only[LV.bool.injEq];rw[Bool.eq_iff_iff];simp (disch:=omega) only[if_pos,if_neg,if_true,if_false, *, ];simp<;>omega)|(simp only[LV.bool.injEq,Bool.and_eq_false_imp,Bool.and_eq_true,decide_eq_true_eq];intros;exfalso;omega)|(simp only[LV.bool.injEq,Bool.and_eq_false_imp,Bool.and_eq_true,decide_eq_true_eq];intros;simp_all;done))))
     ·have:=Ys hltj hm hC
      rw[hm] at hi
      repeat' (first|(with_reducible first|refine uk ?_|refine wk ?_ ?_<;>intro _|(refine dr P35 mixed ?_ ?_ ?_;kernel_rfl;kernel_rfl)|refine zc hi ?_)|simp -implicitDefEqProofs(disch:=first|assumption|omega)[*])
      all_goals first|(exfalso;omega)|skip
      exact⟨hltj,(),this,fz,rfl,rfl⟩
    ·have:j=(nth fs k).code.length:=by omega
     subst this
     rw[List.take_length] at hC
     have ht:=Ys (p:=mayF p) hlt ((hmf true).2 (by rw[hC];simp only[Bool.and_true,Bool.and_eq_true,decide_eq_true_eq];omega)) hF
     clear hbad hmf
     repeat' (first|(with_reducible first|refine uk ?_|refine wk ?_ ?_<;>intro _|(refine dr P35 mixed ?_ ?_ ?_;kernel_rfl;kernel_rfl))|simp -implicitDefEqProofs(disch:=first|assumption|omega)[*])
     all_goals first|(exfalso;omega)|skip
     exact⟨hlt,J++[.cells [.int .i64 (nth fs k).locals,row (nth fs k).code]],ht,fz,rfl,rfl⟩
   ·have hf:=hbad ((hmf false).2 (by
     rw[Bool.and_eq_false_imp];intro h;exfalso;simp only[Bool.and_eq_true,decide_eq_true_eq] at h;omega))
    clear hbad hmf
    repeat' (first|(with_reducible first|refine uk ?_|refine wk ?_ ?_<;>intro _|(refine dr P35 mixed ?_ ?_ ?_;kernel_rfl;kernel_rfl))|simp -implicitDefEqProofs(disch:=first|assumption|omega)[*])
    all_goals first|(exfalso;omega)|(first|(exfalso;omega)|((try subst_vars);(first|refine zn.eq ?_ (by simp)|refine zn.eqat ?_ (by simp));(first|with_reducible rfl|(simp[*, ];done)|(simp[*, ];omega)|(simp only[LV.bool.injEq];rw[Bool.eq_iff_iff];simp[*, ];done)|(simp only[LV.bool.injEq];rw[Bool.eq_iff_iff];simp[*, ];omega)|(simp only[LV.bool.injEq];rw[Bool.eq_iff_iff];simp (disch:=omega) only[if_pos,if_neg,if_true,if_false, *, ];simp<;>omega)|(simp only[LV.bool.injEq,Bool.and_eq_false_imp,Bool.and_eq_true,decide_eq_true_eq];intros;exfalso;omega)|(simp only[LV.bool.injEq,Bool.and_eq_false_imp,Bool.and_eq_true,decide_eq_true_eq];intros;simp_all;done))))
  ·have:k=fs.length:=by omega
   subst this
   rw[List.take_length] at hF
   repeat' (first|(with_reducible first|refine uk ?_|refine wk ?_ ?_<;>intro _|(refine dr P35 mixed ?_ ?_ ?_;kernel_rfl;kernel_rfl))|simp -implicitDefEqProofs(disch:=first|assumption|omega)[*])
   refine zn.eqat ?_ (by simp)
   simp only[hI,hF,Bool.and_true,LV.bool.injEq]
   simp only[*,Bool.and_true,Bool.and_eq_true,decide_eq_true_eq]
   omega
theorem zju {fs:List Fn_}{mu th lo:Int}{co se ch:List Int}{cho:List (List Int)}{cl:List Ins}{s:List AObj}{i1 i2:Nat}(hb:cl.length<4611686018427387904)(h1:s[i1]? = some (.cells [row fs,.int .i64 mu,row co,row se,row ch,row cho,.int .i64 th]))(h2:s[i2]? = some (.cells [.int .i64 lo,row cl]))(op a:Int) :
  Ret Tryz.prog 133 (.agg [.int .i64 op,.int .i64 a] :: [.ptr i1 0,.ptr i2 0]) s (.bool (!mayI ⟨fs,mu,co,se,ch,cho,th⟩ ⟨lo,cl⟩ ⟨op,a⟩)):=by
 refine .of fun v=>?_
 have l1:=(List.getElem?_eq_some_iff.1 h1).1
 have l2:=(List.getElem?_eq_some_iff.1 h2).1
 have h1':∀ J,(s++J)[i1]? = some (.cells [row fs,.int .i64 mu,row co,row se,row ch,row cho,.int .i64 th]):=fun J=>by rw[List.getElem?_append_left l1];exact h1
 have h2':∀ J,(s++J)[i2]? = some (.cells [.int .i64 lo,row cl]):=fun J=>by rw[List.getElem?_append_left l2];exact h2
 refine ac0 Tryz.func133 Tryz.ntmps133 ?_
 have hrs:Tryz.f133.results = #[.tmp 4]:=rfl
 repeat' (first|(with_reducible first|refine uk ?_|refine wk ?_ ?_<;>intro _|refine zc (zhn hb) ?_)|simp -implicitDefEqProofs(disch:=first|assumption|omega)[*])
 exact Ends.eqat rfl (by simp) (List.prefix_refl _)
theorem zlD {fs:List Fn_}{mu th:Int}{co se ch:List Int}{cho:List (List Int)}{s:List AObj}{i1:Nat}(h1:s[i1]? = some (.cells [row fs,.int .i64 mu,row co,row se,row ch,row cho,.int .i64 th]))(f:Fn_) :
  Ret Tryz.prog 131 (.agg [.int .i64 f.locals,row f.code] :: [.ptr i1 0]) s (.bool (!mayF ⟨fs,mu,co,se,ch,cho,th⟩ f)):=by
 refine .of fun v=>?_
 have l1:=(List.getElem?_eq_some_iff.1 h1).1
 have h1':∀ J,(s++J)[i1]? = some (.cells [row fs,.int .i64 mu,row co,row se,row ch,row cho,.int .i64 th]):=fun J=>by rw[List.getElem?_append_left l1];exact h1
 have hw:zG Tryz.prog 126 [.int .i64 8,.imm 1 1 [.int .i64 f.locals] .full] (.bool (yf [f.locals] 8)):=fun s v=>yJ (args':=[.int .i64 8,row [f.locals]]) (by simp;exact Weak.cells (yh.refl _)) (uV (by simp) s v)
 have hm:mayF ⟨fs,mu,co,se,ch,cho,th⟩ f=(yf [f.locals] 8 && decide (f.code.length≤64) && f.code.all (mayI ⟨fs,mu,co,se,ch,cho,th⟩ f)):=by
  unfold mayF yf;simp
 have hall:(!f.code.all (mayI ⟨fs,mu,co,se,ch,cho,th⟩ f))=f.code.any fun i=> !mayI ⟨fs,mu,co,se,ch,cho,th⟩ f i:=by rw[List.not_all_eq_any_not]
 rw[hm]
 by_cases hl:f.code.length≤64
 ·have hc:=KO (l:=f.code) (p:=fun i=> !mayI ⟨fs,mu,co,se,ch,cho,th⟩ f i) (g:=133) (ca:=[.ptr i1 0,.ptr s.length 0]) (s:=s++[.cells [.int .i64 f.locals,row f.code]]) (by omega) (fun k hk=>zju (lo:=f.locals) (cl:=f.code) (by omega) (h1' _) (by simp[xy]) _ _)
  rw[← hall] at hc
  clear hall hm
  generalize f.code.all (mayI ⟨fs,mu,co,se,ch,cho,th⟩ f)=b2 at *
  generalize yf [f.locals] 8=b1 at *
  refine ac0 Tryz.func131 Tryz.ntmps131 ?_
  have hrs:Tryz.f131.results = #[.tmp 3]:=rfl
  cases b1
  all_goals
   repeat' (first|(with_reducible first|refine uk ?_|refine wk ?_ ?_<;>intro _|refine zg hw (fun v1 hv1=>?_)|refine yE hc (fun v2 hv2=>?_))|simp -implicitDefEqProofs(disch:=first|assumption|omega)[*])
  all_goals first|(exfalso;omega)|exact Ends.eqat (by simp[hl]) (by simp) (by first|exact hv1.trans hv2|exact hv1)
 ·have hd:decide (f.code.length≤64)=false:=by simp;omega
  rw[hd]
  clear hall hm
  generalize yf [f.locals] 8=b1 at *
  refine ac0 Tryz.func131 Tryz.ntmps131 ?_
  have hrs:Tryz.f131.results = #[.tmp 3]:=rfl
  cases b1
  all_goals
   repeat' (first|(with_reducible first|refine uk ?_|refine wk ?_ ?_<;>intro _|refine zg hw (fun v1 hv1=>?_))|simp -implicitDefEqProofs(disch:=first|assumption|omega)[*])
  all_goals first|(exfalso;omega)|exact Ends.eqat (by simp) (by simp) hv1
theorem zln {fs:List Fn_}{mu th:Int}{co se ch:List Int}{cho:List (List Int)}{s:List AObj}{i1:Nat}(h1:s[i1]? = some (.cells [row fs,.int .i64 mu,row co,row se,row ch,row cho,.int .i64 th]))(l:List Int)
  (hc:zG Tryz.prog 129 [.agg [row fs,.int .i64 mu,row co,row se,row ch,row cho,.int .i64 th],row l] (.bool (wz ⟨fs,mu,co,se,ch,cho,th⟩ l))) :
  Ret Tryz.prog 128 (row l :: [.ptr i1 0]) s (.bool (!wz ⟨fs,mu,co,se,ch,cho,th⟩ l)):=by
 refine .of fun v=>?_
 refine ac0 Tryz.func128 Tryz.ntmps128 ?_
 have hrs:Tryz.f128.results = #[.tmp 3]:=rfl
 repeat' (first|(with_reducible first|refine uk ?_|refine wk ?_ ?_<;>intro _|refine zg hc (fun v1 hv1=>?_))|simp -implicitDefEqProofs(disch:=first|assumption|omega)[*])
 exact Ends.eq rfl (by simp) hv1
set_option maxHeartbeats 8000000 in
theorem zlz {fs:List Fn_}{mu th:Int}{co se ch:List Int}{cho:List (List Int)}(h1:fs.length≤9223372036854775807)(h2:co.length≤9223372036854775807)(h3:se.length≤9223372036854775807)(h4:ch.length≤9223372036854775807)(h5:cho.length≤9223372036854775807)(hmu:I64 mu)
  (hc:ch.length≤8→∀ k,k<cho.length→zG Tryz.prog 129 [.agg [row fs,.int .i64 mu,row co,row se,row ch,row cho,.int .i64 th],row (nth cho k)] (.bool (wz ⟨fs,mu,co,se,ch,cho,th⟩ (nth cho k)))) :
  zG Tryz.prog 44 [.agg [row fs,.int .i64 mu,row co,row se,row ch,row cho,.int .i64 th]] (.bool (mayP ⟨fs,mu,co,se,ch,cho,th⟩)):=by
 refine .of fun s v=>?_
 obtain⟨hm1,hm2⟩:=hmu
 have w5:zG Tryz.prog 126 [.int .i64 8,.imm 1 5 [.int .i64 mu,.int .i64 co.length,.int .i64 se.length,.int .i64 ch.length,.int .i64 cho.length] .full] (.bool (yf [mu,co.length,se.length,ch.length,cho.length] 8)):=
  fun s v=>yJ (args':=[.int .i64 8,row [mu,(co.length:Int),(se.length:Int),(ch.length:Int),(cho.length:Int)]]) (by simp;exact Weak.cells (yh.refl _)) (uV (by simp) s v)
 have hmp:mayP ⟨fs,mu,co,se,ch,cho,th⟩=(decide (1≤fs.length) && decide (fs.length≤16) && yf [mu,co.length,se.length,ch.length,cho.length] 8 && decide (1≤th) && decide (th≤32) && yf co (mu-1) && yf se 100 && yf ch 8
   && !(cho.any fun l=> !wz ⟨fs,mu,co,se,ch,cho,th⟩ l) && !(fs.any fun f=> !mayF ⟨fs,mu,co,se,ch,cho,th⟩ f)):=by
  have e1:(!(cho.any fun l=> !wz ⟨fs,mu,co,se,ch,cho,th⟩ l))=cho.all (wz ⟨fs,mu,co,se,ch,cho,th⟩):=by rw[List.not_any_eq_all_not];simp
  have e2:(!(fs.any fun f=> !mayF ⟨fs,mu,co,se,ch,cho,th⟩ f))=fs.all (mayF ⟨fs,mu,co,se,ch,cho,th⟩):=by rw[List.not_any_eq_all_not];simp
  rw[e1,e2]
  have e3:yf [mu,(co.length:Int),(se.length:Int),(ch.length:Int),(cho.length:Int)] 8=(decide (0≤mu) && decide (mu≤8) && decide (co.length≤8) && decide (se.length≤8) && decide (ch.length≤8) && decide (cho.length≤8)):=by
   rw[Bool.eq_iff_iff];simp[yf];omega
  rw[e3]
  unfold mayP
  generalize cho.all (wz ⟨fs,mu,co,se,ch,cho,th⟩)=x1
  generalize fs.all (mayF ⟨fs,mu,co,se,ch,cho,th⟩)=x2
  generalize yf co (mu-1)=x3
  generalize yf se 100=x4
  generalize yf ch 8=x5
  simp only[Bool.and_assoc]
 rw[hmp]
 have wc:=fun (hm:0≤mu)=>uV (l:=co) (most:=mu-1) h2
 have ws:=uV (l:=se) (most:=100) h3
 have wh:=uV (l:=ch) (most:=8) h4
 have c2:=Zj (l:=fs) (p:=fun f=> !mayF ⟨fs,mu,co,se,ch,cho,th⟩ f) (g:=131) (ca:=[.ptr s.length 0]) (s:=s++[.cells [row fs,.int .i64 mu,row co,row se,row ch,row cho,.int .i64 th]]) h1 (fun k hk=>zlD (by simp[xy]) _)
 clear hmp
 by_cases hmn:0≤mu∧ch.length≤8
 ·have c1:=Ks (l:=cho) (p:=fun l=> !wz ⟨fs,mu,co,se,ch,cho,th⟩ l) (g:=128) (ca:=[.ptr s.length 0]) (s:=s++[.cells [row fs,.int .i64 mu,row co,row se,row ch,row cho,.int .i64 th]]) h5 (fun k hk=>zln (by simp[xy]) _ (hc hmn.2 k hk))
  have wc:=wc hmn.1
  replace hmn:=hmn.1
  generalize (cho.any fun l=> !wz ⟨fs,mu,co,se,ch,cho,th⟩ l)=x1 at *
  generalize (fs.any fun f=> !mayF ⟨fs,mu,co,se,ch,cho,th⟩ f)=x2 at *
  generalize yf co (mu-1)=x3 at *
  generalize yf se 100=x4 at *
  generalize yf ch 8=x5 at *
  generalize yf [mu,(co.length:Int),(se.length:Int),(ch.length:Int),(cho.length:Int)] 8=x6 at *
  clear hc
  refine ac0 Tryz.func44 Tryz.ntmps44 ?_
  have hrs:Tryz.f44.results = #[.tmp 2]:=rfl
  cases x6
  all_goals
   repeat' (first|(with_reducible first|refine uk ?_|refine wk ?_ ?_<;>intro _|refine zg w5 (fun v1 hv1=>?_)|refine zg wc (fun v2 hv2=>?_)|refine zg ws (fun v3 hv3=>?_)|refine zg wh (fun v4 hv4=>?_)|refine yE c1 (fun v5 hv5=>?_)|refine yE c2 (fun v6 hv6=>?_))|simp -implicitDefEqProofs(disch:=first|assumption|omega)[*])
  all_goals first|(exfalso;omega)|(refine Ends.eqat ?_ (by simp) (by first|exact List.prefix_refl _|exact hv1|exact hv1.trans hv2|exact(hv1.trans hv2).trans hv3|exact((hv1.trans hv2).trans hv3).trans hv4|exact(((hv1.trans hv2).trans hv3).trans hv4).trans hv5|exact((((hv1.trans hv2).trans hv3).trans hv4).trans hv5).trans hv6);(first|with_reducible rfl|(simp[*, ];done)|(simp[*, ];omega)|(simp only[LV.bool.injEq];rw[Bool.eq_iff_iff];simp[*, ];done)|(simp only[LV.bool.injEq];rw[Bool.eq_iff_iff];simp[*, ];omega)|(simp only[LV.bool.injEq];rw[Bool.eq_iff_iff];simp (disch:=omega) only[if_pos,if_neg,if_true,if_false, *, ];simp<;>omega)|(simp only[LV.bool.injEq,Bool.and_eq_false_imp,Bool.and_eq_true,decide_eq_true_eq];intros;exfalso;omega)|(simp only[LV.bool.injEq,Bool.and_eq_false_imp,Bool.and_eq_true,decide_eq_true_eq];intros;simp_all;done)))
 ·have hx6:yf [mu,(co.length:Int),(se.length:Int),(ch.length:Int),(cho.length:Int)] 8=false:=by
   unfold yf;simp;intros;omega
  rw[hx6] at w5 ⊢
  clear wc ws wh c2 hc
  generalize (cho.any fun l=> !wz ⟨fs,mu,co,se,ch,cho,th⟩ l)=x1 at *
  generalize (fs.any fun f=> !mayF ⟨fs,mu,co,se,ch,cho,th⟩ f)=x2 at *
  clear hx6
  refine ac0 Tryz.func44 Tryz.ntmps44 ?_
  have hrs:Tryz.f44.results = #[.tmp 2]:=rfl
  repeat' (first|(with_reducible first|refine uk ?_|refine wk ?_ ?_<;>intro _|refine zg w5 (fun v1 hv1=>?_))|simp -implicitDefEqProofs(disch:=first|assumption|omega)[*])
  all_goals first|(exfalso;omega)|(refine Ends.eqat ?_ (by simp) (by first|exact List.prefix_refl _|exact hv1);simp)
end Go.Hb
end
