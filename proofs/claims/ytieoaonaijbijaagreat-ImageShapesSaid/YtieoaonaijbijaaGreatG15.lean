/-
  A layer for reasoning about the program's calls, and contracts of its functions. CONDITIONS: none; each theorem bears its own.
-/
import Derived.Test.YtieoaonaijbijaaGreatG14
import Derived.Test.YtieoaonaijbijaaGreatG11
import Derived.Shelf.Sort.Plain
import Derived.Ground.Names2Prog
import Derived.Test.YtieoaonaijbijaaGreatG13
import Derived.Test.YtieoaonaijbijaaGreatG09
import Derived.Shelf.Small.Bits
set_option linter.unusedVariables false
set_option linter.unusedSimpArgs false
section
namespace Go.Hb
open Go Go.Proofs Go.RowKit
set_option maxRecDepth 100000
set_option maxHeartbeats 800000
attribute [-simp] aC aL xq yp zE aIf yr zR aLen zt ya zQ zP lBr aq yP aev zk zw zF zI LV.cells LV.cellsOk getElem?_pos getElem?_neg
theorem ZN {fs:List Fn_}{mu th:Int}{co se ch:List Int}{cho:List (List Int)}(hp:mayP ⟨fs,mu,co,se,ch,cho,th⟩=true):fs.length≤16∧mu≤8∧co.length≤8∧se.length≤8∧ch.length≤8∧cho.length≤8∧th≤32∧(∀ k<co.length,nth co k≤9223372036854775807)∧(∀ k<se.length,nth se k≤9223372036854775807)∧(∀ k<ch.length,nth ch k≤9223372036854775807)∧(∀ k<cho.length,(nth cho k).length≤8)∧(∀ k<cho.length,∀ j<(nth cho k).length,nth (nth cho k) j≤9223372036854775807)∧(∀ k<fs.length,(nth fs k).locals≤8)∧(∀ k<fs.length,(nth fs k).code.length≤64):=by
 unfold mayP at hp
 simp only[Bool.and_eq_true,decide_eq_true_eq] at hp
 obtain⟨⟨⟨⟨⟨⟨⟨⟨⟨⟨⟨⟨⟨⟨p1,p2⟩,p3⟩,p4⟩,p5⟩,p6⟩,p7⟩,p8⟩,p9⟩,p10⟩,p11⟩,p12⟩,p13⟩,p14⟩,p15⟩:=hp
 refine⟨p2,p4,p5,p6,p7,p8,p10,wm p11 (by omega),wm p12 (by omega),wm p13 (by omega),fun k hk=>?_,fun k hk=>?_,fun k hk=>?_,fun k hk=>?_⟩
 ·rw[zK hk];exact(vS (List.all_eq_true.1 p14 _ (List.getElem_mem hk)) p7).1
 ·rw[zK hk];exact(vS (List.all_eq_true.1 p14 _ (List.getElem_mem hk)) p7).2
 ·have:=List.all_eq_true.1 p15 _ (List.getElem_mem hk)
  unfold mayF at this
  simp only[Bool.and_eq_true,decide_eq_true_eq] at this
  rw[zK hk];omega
 ·have:=List.all_eq_true.1 p15 _ (List.getElem_mem hk)
  unfold mayF at this
  simp only[Bool.and_eq_true,decide_eq_true_eq] at this
  rw[zK hk];omega
set_option maxHeartbeats 8000000 in
theorem zhy {fs:List Fn_}{mu th:Int}{co se ch:List Int}{cho:List (List Int)}(hp:mayP ⟨fs,mu,co,se,ch,cho,th⟩=true) :
  xX Tryz.prog 55 [.agg [row fs,.int .i64 mu,row co,row se,row ch,row cho,.int .i64 th]] (ue ⟨fs,mu,co,se,ch,cho,th⟩):=by
 obtain⟨q1,q2,q3,q4,q5,q6,q7,q8,q9,q10,q11,q12,q13,q14⟩:=ZN hp
 clear hp
 refine .of fun s vz=>?_
 refine ac0 Tryz.func55 Tryz.ntmps55 ?_
 have hrs:Tryz.f55.results = #[.tmp 2]:=rfl
 repeat' (first|(with_reducible first|refine uk ?_|refine wk ?_ ?_<;>intro _|refine Qs (zV (by omega)) (fun x v1 hx=>?_))|simp -implicitDefEqProofs(disch:=first|assumption|omega)[*])
 have hx:Gro vz v1 (zb fs.length) x∧(zb fs.length).length≤9:=⟨hx,zq (by omega)⟩
 refine zC (β:=LV × List AObj × List Nat) false fs.length (fun k p=>Gro vz p.2.2 (zb fs.length++(fs.take k).flatMap fnB) p.1∧(zb fs.length++(fs.take k).flatMap fnB).length≤9+700*k) (fun k p=>[(3,p.1),(4,.int .i64 k),(12,.any),(13,.any),(14,.any),(15,.any),(16,.any),(19,.any),(20,.any),(21,.any),(22,.any),(23,.any),(5,.any),(24,.any),(25,.any),(26,.any),(27,.any),(28,.any),(29,.any),(30,.any),(31,.any),(32,.any),(33,.any),(34,.any),(6,.any),(35,.any),(36,.any),(37,.any),(38,.any),(39,.any),(42,.any),(43,.any),(44,.any),(45,.any),(46,.any),(47,.any),(48,.any),(49,.any),(50,.any),(51,.any),(52,.any),(53,.any),(54,.any),(55,.any),(56,.any),(57,.any),(58,.any),(59,.any),(60,.any),(40,.any),(41,.any),(17,.any),(18,.any)]) (fun _ p=>s++(.cells [row fs,.int .i64 mu,row co,row se,row ch,row cho,.int .i64 th] :: p.2.1)) (fun _ p=>p.2.2) ?_ ?_
 ·exact⟨(x,[],v1),yC hx (by simp) (by omega),fz0,rfl,rfl⟩
 rintro k ⟨x,J,v⟩ hk hx
 simp only at hx
 have hxc:=hx.1.cells
 by_cases hlt:k<fs.length
 ·have e1:=q13 k hlt
  have e2:=q14 k hlt
  repeat' (first|(with_reducible first|refine uk ?_|refine wk ?_ ?_<;>intro _|refine yU (P:=Tryz.prog) (t:=36) (t2:=36) (by_:=1) (by kernel_rfl) (by omega) (zV (by omega)).pure hx (zq (by omega)) (by omega) (fun v2 x v hx ha hxc=>?_)|refine yU (P:=Tryz.prog) (t:=36) (t2:=36) (by_:=1) (by kernel_rfl) (by omega) xY.pure hx yq (by omega) (fun v2 x v hx ha hxc=>?_)|refine yU (P:=Tryz.prog) (t:=36) (t2:=36) (by_:=1) (by kernel_rfl) (by omega) (JK (by assumption) (by omega)).pure hx (vY (by assumption) (by omega)) (by omega) (fun v2 x v hx ha hxc=>?_))|simp -implicitDefEqProofs(disch:=first|assumption|omega)[*])
  refine yW (β:=LV × List Nat) false (nth fs k).code.length (fun j p=>Gro vz p.2 (zb fs.length++(fs.take k).flatMap fnB++(zb (nth fs k).locals++zb (nth fs k).code.length++((nth fs k).code.take j).flatMap insB)) p.1∧(zb fs.length++(fs.take k).flatMap fnB++(zb (nth fs k).locals++zb (nth fs k).code.length++((nth fs k).code.take j).flatMap insB)).length≤9+700*k+18+10*j) (fun j p=>[(3,p.1),(6,.int .i64 j),(35,.any),(36,.any),(37,.any),(38,.any),(39,.any),(42,.any),(43,.any),(44,.any),(45,.any),(46,.any),(47,.any),(48,.any),(49,.any),(50,.any),(51,.any),(52,.any),(53,.any),(54,.any),(55,.any),(56,.any),(57,.any),(58,.any),(59,.any),(60,.any),(40,.any),(41,.any)]) (fun _ _=>s++(.cells [row fs,.int .i64 mu,row co,row se,row ch,row cho,.int .i64 th] :: (J++[.cells [.int .i64 (nth fs k).locals,row (nth fs k).code]]))) (fun _ p=>p.2) ?_ ?_
  ·exact⟨(_,_),yC hx (by simp) (by omega),fz0,rfl,rfl⟩
  rintro j ⟨x,v⟩ hj hx
  simp only at hx
  have hxc:=hx.1.cells
  by_cases hjl:j<(nth fs k).code.length
  ·obtain⟨x1,w1,hx1,ha1,hxc1⟩:=zcD (P:=Tryz.prog) (t:=36) (t2:=36) (by kernel_rfl) hx (UInt8.ofInt (nth (nth fs k).code j).op) (by omega)
   have hu1:=zgK (nth (nth fs k).code j).op
   obtain⟨z,hz⟩:∃ z:Int,z=((UInt8.ofInt (nth (nth fs k).code j).op).toNat:Int):=⟨_,rfl⟩
   rw[← hz] at hu1 ha1
   clear hz
   clear hx hxc
   have hx:=hx1
   repeat' (first|(with_reducible first|refine uk ?_|refine wk ?_ ?_<;>intro _|refine yU (P:=Tryz.prog) (t:=36) (t2:=36) (by_:=1) (by kernel_rfl) (by omega) (zV (by omega)).pure hx (zq (by omega)) (by omega) (fun v2 x v hx ha hxc=>?_)|refine yU (P:=Tryz.prog) (t:=36) (t2:=36) (by_:=1) (by kernel_rfl) (by omega) xY.pure hx yq (by omega) (fun v2 x v hx ha hxc=>?_)|refine yU (P:=Tryz.prog) (t:=36) (t2:=36) (by_:=1) (by kernel_rfl) (by omega) (JK (by assumption) (by omega)).pure hx (vY (by assumption) (by omega)) (by omega) (fun v2 x v hx ha hxc=>?_))|simp -implicitDefEqProofs(disch:=first|assumption|omega)[*])
   exact⟨hjl,(_,_),yC hx (by simp[za hjl,insB]) (by omega),fz,rfl,rfl⟩
  ·have:j=(nth fs k).code.length:=by omega
   subst this
   repeat' (first|(with_reducible first|refine uk ?_|refine wk ?_ ?_<;>intro _)|simp -implicitDefEqProofs(disch:=first|assumption|omega)[*])
   exact⟨hlt,(_,_,_),yC hx (by simp[za hlt,fnB]) (by omega),fz,rfl,rfl⟩
 ·have:k=fs.length:=by omega
  subst this
  repeat' (first|(with_reducible first|refine uk ?_|refine wk ?_ ?_<;>intro _|refine yU (P:=Tryz.prog) (t:=36) (t2:=36) (by_:=1) (by kernel_rfl) (by omega) (zV (by omega)).pure hx (zq (by omega)) (by omega) (fun v2 x v hx ha hxc=>?_)|refine yU (P:=Tryz.prog) (t:=36) (t2:=36) (by_:=1) (by kernel_rfl) (by omega) xY.pure hx yq (by omega) (fun v2 x v hx ha hxc=>?_)|refine yU (P:=Tryz.prog) (t:=36) (t2:=36) (by_:=1) (by kernel_rfl) (by omega) (JK (by assumption) (by omega)).pure hx (vY (by assumption) (by omega)) (by omega) (fun v2 x v hx ha hxc=>?_))|simp -implicitDefEqProofs(disch:=first|assumption|omega)[*])
  obtain⟨B,hB,hx⟩:∃ B,B≤12000∧(Gro vz v (zb fs.length++fs.flatMap fnB++zb mu++yz co++yz se++yz ch++zb cho.length) x∧(zb fs.length++fs.flatMap fnB++zb mu++yz co++yz se++yz ch++zb cho.length).length≤B):=⟨_,by omega,yC hx (by simp) (Nat.le_refl _)⟩
  refine zC (β:=LV × List Nat) false cho.length (fun k p=>Gro vz p.2 (zb fs.length++fs.flatMap fnB++zb mu++yz co++yz se++yz ch++(zb cho.length++(cho.take k).flatMap yz)) p.1∧(zb fs.length++fs.flatMap fnB++zb mu++yz co++yz se++yz ch++(zb cho.length++(cho.take k).flatMap yz)).length≤B+90*k) (fun k p=>[(3,p.1),(7,.int .i64 k),(87,.any),(88,.any),(89,.any),(90,.any),(91,.any),(94,.any),(95,.any),(96,.any),(97,.any),(98,.any),(99,.any),(100,.any),(101,.any),(92,.any),(93,.any)]) (fun _ _=>s++(.cells [row fs,.int .i64 mu,row co,row se,row ch,row cho,.int .i64 th] :: J)) (fun _ p=>p.2) ?_ ?_
  ·exact⟨(_,_),yC hx (by simp) (by omega),fz0,rfl,rfl⟩
  rintro k ⟨x,v⟩ hk hx
  simp only at hx
  have hxc:=hx.1.cells
  by_cases hlt:k<cho.length
  ·have e1:=q11 k hlt
   have e2:=q12 k hlt
   repeat' (first|(with_reducible first|refine uk ?_|refine wk ?_ ?_<;>intro _|refine yU (P:=Tryz.prog) (t:=36) (t2:=36) (by_:=1) (by kernel_rfl) (by omega) (zV (by omega)).pure hx (zq (by omega)) (by omega) (fun v2 x v hx ha hxc=>?_)|refine yU (P:=Tryz.prog) (t:=36) (t2:=36) (by_:=1) (by kernel_rfl) (by omega) xY.pure hx yq (by omega) (fun v2 x v hx ha hxc=>?_)|refine yU (P:=Tryz.prog) (t:=36) (t2:=36) (by_:=1) (by kernel_rfl) (by omega) (JK (by assumption) (by omega)).pure hx (vY (by assumption) (by omega)) (by omega) (fun v2 x v hx ha hxc=>?_))|simp -implicitDefEqProofs(disch:=first|assumption|omega)[*])
   exact⟨hlt,(_,_),yC hx (by simp[za hlt]) (by omega),fz,rfl,rfl⟩
  ·have:k=cho.length:=by omega
   subst this
   repeat' (first|(with_reducible first|refine uk ?_|refine wk ?_ ?_<;>intro _|refine yU (P:=Tryz.prog) (t:=36) (t2:=36) (by_:=1) (by kernel_rfl) (by omega) (zV (by omega)).pure hx (zq (by omega)) (by omega) (fun v2 x v hx ha hxc=>?_)|refine yU (P:=Tryz.prog) (t:=36) (t2:=36) (by_:=1) (by kernel_rfl) (by omega) xY.pure hx yq (by omega) (fun v2 x v hx ha hxc=>?_)|refine yU (P:=Tryz.prog) (t:=36) (t2:=36) (by_:=1) (by kernel_rfl) (by omega) (JK (by assumption) (by omega)).pure hx (vY (by assumption) (by omega)) (by omega) (fun v2 x v hx ha hxc=>?_))|simp -implicitDefEqProofs(disch:=first|assumption|omega)[*])
   simpa[ue] using hx.1
end Go.Hb
end
section
namespace Go.Proofs
open Go.Shelf
def Tryz.sortInt_ren:Go.Shelf.Ren:=⟨fun | 189=>210 | 125=>259 | 257=>258 | 128=>294 | 129=>295 | 294=>285 | 295=>286 | 296=>287 | 297=>288 | 298=>289 | 299=>290 | 216=>291 | 300=>292 | 301=>293 | 328=>302 | 329=>303 | 330=>304 | 331=>305 | 332=>306 | 215=>307 | 343=>308 | n=>n,fun | 28=>23 | 3=>3 | 46=>215 | 0=>0 | 51=>112 | 53=>210 | 4=>4 | 183=>304 | 182=>303 | 131=>139 | 5=>5 | 9=>9 | 218=>315 | 222=>319 | 228=>321 | 229=>322 | n=>n,fun | n=>n⟩
theorem Tryz.sortInt:Go.Proofs.Lays.n189 Tryz.prog Tryz.sortInt_ren:={
 mixed:=by kernel_rfl
 f125:=Tryz.func259.trans (congrArg some (by kernel_rfl))
 f128:=Tryz.func294.trans (congrArg some (by kernel_rfl))
 f129:=Tryz.func295.trans (congrArg some (by kernel_rfl))
 f189:=Tryz.func210.trans (congrArg some (by kernel_rfl))
 f215:=Tryz.func307.trans (congrArg some (by kernel_rfl))
 f216:=Tryz.func291.trans (congrArg some (by kernel_rfl))
 f257:=Tryz.func258.trans (congrArg some (by kernel_rfl))
 f294:=Tryz.func285.trans (congrArg some (by kernel_rfl))
 f295:=Tryz.func286.trans (congrArg some (by kernel_rfl))
 f296:=Tryz.func287.trans (congrArg some (by kernel_rfl))
 f297:=Tryz.func288.trans (congrArg some (by kernel_rfl))
 f298:=Tryz.func289.trans (congrArg some (by kernel_rfl))
 f299:=Tryz.func290.trans (congrArg some (by kernel_rfl))
 f300:=Tryz.func292.trans (congrArg some (by kernel_rfl))
 f301:=Tryz.func293.trans (congrArg some (by kernel_rfl))
 f328:=Tryz.func302.trans (congrArg some (by kernel_rfl))
 f329:=Tryz.func303.trans (congrArg some (by kernel_rfl))
 f330:=Tryz.func304.trans (congrArg some (by kernel_rfl))
 f331:=Tryz.func305.trans (congrArg some (by kernel_rfl))
 f332:=Tryz.func306.trans (congrArg some (by kernel_rfl))
 f343:=Tryz.func308.trans (congrArg some (by kernel_rfl))
 t0:=Tryz.underlying0
 a0:=Tryz.isAgg0
 z0:=Tryz.sizeOf0
 v0:=Tryz.zeroValue0
 t3:=Tryz.underlying3
 a3:=Tryz.isAgg3
 z3:=Tryz.sizeOf3
 v3:=Tryz.zeroValue3
 t4:=Tryz.underlying4
 a4:=Tryz.isAgg4
 z4:=Tryz.sizeOf4
 v4:=Tryz.zeroValue4
 t5:=Tryz.underlying5
 a5:=Tryz.isAgg5
 z5:=Tryz.sizeOf5
 v5:=Tryz.zeroValue5
 t9:=Tryz.underlying9
 a9:=Tryz.isAgg9
 z9:=Tryz.sizeOf9
 v9:=Tryz.zeroValue9
 t28:=Tryz.underlying23
 a28:=Tryz.isAgg23
 z28:=Tryz.sizeOf23
 v28:=Tryz.zeroValue23
 t46:=Tryz.underlying215
 a46:=Tryz.isAgg215
 z46:=Tryz.sizeOf215
 v46:=Tryz.zeroValue215
 t51:=Tryz.underlying112
 a51:=Tryz.isAgg112
 z51:=Tryz.sizeOf112
 v51:=Tryz.zeroValue112
 t53:=Tryz.underlying210
 a53:=Tryz.isAgg210
 z53:=Tryz.sizeOf210
 v53:=Tryz.zeroValue210
 t131:=Tryz.underlying139
 a131:=Tryz.isAgg139
 z131:=Tryz.sizeOf139
 v131:=Tryz.zeroValue139
 t182:=Tryz.underlying303
 a182:=Tryz.isAgg303
 z182:=Tryz.sizeOf303
 v182:=Tryz.zeroValue303
 t183:=Tryz.underlying304
 a183:=Tryz.isAgg304
 z183:=Tryz.sizeOf304
 v183:=Tryz.zeroValue304
 t218:=Tryz.underlying315
 a218:=Tryz.isAgg315
 z218:=Tryz.sizeOf315
 v218:=Tryz.zeroValue315
 t222:=Tryz.underlying319
 a222:=Tryz.isAgg319
 z222:=Tryz.sizeOf319
 v222:=Tryz.zeroValue319
 t228:=Tryz.underlying321
 a228:=Tryz.isAgg321
 z228:=Tryz.sizeOf321
 v228:=Tryz.zeroValue321
 t229:=Tryz.underlying322
 a229:=Tryz.isAgg322
 z229:=Tryz.sizeOf322
 v229:=Tryz.zeroValue322 }
end Go.Proofs
end
section
namespace Go.Hb
open Go Go.Proofs Go.RowKit
set_option maxRecDepth 100000
set_option maxHeartbeats 800000
attribute [-simp] aC aL xq yp zE aIf yr zR aLen zt ya zQ zP lBr aq yP aev zk zw zF zI LV.cells LV.cellsOk getElem?_pos getElem?_neg
theorem zca {l:List Int}{s:List AObj}{v:List Nat}(hb:l.length≤maxLen)(hb2:l.length*8≤140737488355328):zp Tryz.prog 209 [row l] s v (zir l s v):=by
 by_cases hl:l=[]
 ·subst hl
  refine ZR ?_ ?_
  ·refine ac1 Tryz.func209 Tryz.ntmps209 ?_
   have hrs:Tryz.f209.results = #[.tmp 2]:=rfl
   repeat' (first|(with_reducible first|refine uk ?_|refine wk ?_ ?_<;>intro _)|simp -implicitDefEqProofs(disch:=first|assumption|omega)[*])
   exact⟨rfl,.inl ⟨rfl,rfl,.inl rfl⟩⟩
  ·have ha:=zdz (P:=Tryz.prog) (t:=23) (t2:=23) (sz:=1) (by_:=8) (by kernel_rfl) s
   refine ac1 Tryz.func209 Tryz.ntmps209 ?_
   have hrs:Tryz.f209.results = #[.tmp 2]:=rfl
   repeat' (first|(with_reducible first|refine uk ?_|refine wk ?_ ?_<;>intro _)|simp -implicitDefEqProofs(disch:=first|assumption|omega)[*])
   exact⟨rfl,.inl ⟨rfl,rfl,.inr rfl⟩⟩
 ·have h0:l.length≠0:=fun h=>hl (List.length_eq_zero_iff.1 h)
  have ha:=zfd (P:=Tryz.prog) (t:=23) (t2:=23) (sz:=1) (by_:=8) (by kernel_rfl) rfl h0 hb hb2 s
  show zp Tryz.prog 209 [.imm 1 l.length (zd l) .no] s v (zir l s v)
  replace ha:zk Tryz.prog 23 23 (.imm 1 0 [] .full) (.imm 1 l.length (zd l) .no) s=some (.ref 1 s.length 0 l.length false,s++[.cells (zd l)]):=ha
  refine ac1 Tryz.func209 Tryz.ntmps209 ?_
  have hrs:Tryz.f209.results = #[.tmp 2]:=rfl
  repeat' (first|(with_reducible first|refine uk ?_|refine wk ?_ ?_<;>intro _)|simp -implicitDefEqProofs(disch:=first|assumption|omega)[*])
  exact⟨rfl,.inr ⟨hl,rfl,rfl⟩⟩
theorem zjf:zay Tryz.prog 210:=fun blk off cap zs w h1 h2 h3=>Go.Proofs.Any.slices_Sort_int Tryz.sortInt blk off cap zs w h1 h2 h3
theorem zlK {s:List AObj}{v:List Nat}{id:Nat}{l:List Int}(hs:s[id]? = some (.cells (zd l)))(hne:l≠[])(hn:l.length<4611686018427387904) :
  zp Tryz.prog 210 [.ref 1 id 0 l.length false] s v fun y s' v'=>y = .tup []∧s.set id (.cells (zd (vu l)))=s'∧v=v':=zjS (by kernel_rfl) zjf hs hne hn
theorem zeK:zM Tryz.prog 259 [.int .u64 0] (.int .i64 0):=fun s v=>by
 refine⟨by kernel_rfl,fun C vs hok hτ hargs=>?_⟩
 obtain⟨v0,r0,e0,h0,e2⟩:=hargs
 subst e2
 simp only[RelV] at h0
 subst h0
 have hvs:vs = #[.int .u64 0]:=by cases vs;simp at e0;simp[e0]
 subst hvs
 refine(Go.Proofs.Any.bits_Len (P:=Tryz.prog) (ρ:=Tryz.sortInt_ren) {Tryz.sortInt with } 0 C.w (by decide) (by decide)).mono ?_
 rintro e w' ⟨rfl,rfl⟩
 exact⟨C,_,_,s,v,rfl,rfl,Ctx.le.refl C,hok,hτ,(by simp only[RelV];rfl),rfl,rfl,rfl⟩
theorem zcw {x:LV} : zM Tryz.prog 285 [x,.int .i64 0,.int .i64 0] (.tup []):=by
 refine .of fun s v=>?_
 refine ac0 Tryz.func285 Tryz.ntmps285 ?_
 have hrs:Tryz.f285.results = #[]:=rfl
 repeat' (first|(with_reducible first|refine uk ?_|refine wk ?_ ?_<;>intro _)|simp -implicitDefEqProofs(disch:=first|assumption|omega)[*])
 refine yW (β:=Unit) false 0 (fun _ _=>True) (fun k _=>[(6,.int .i64 1),(10,.any),(11,.any),(12,.any),(15,.any),(7,.any),(16,.any),(17,.any),(18,.any),(19,.any),(20,.any),(21,.any),(22,.any),(23,.any),(24,.any),(25,.any),(26,.any),(27,.any),(28,.any),(29,.any),(30,.any),(33,.any),(34,.any),(35,.any),(36,.any),(37,.any),(38,.any),(39,.any),(40,.any),(41,.any),(42,.any),(43,.any),(44,.any),(45,.any),(46,.any),(47,.any),(48,.any),(31,.any),(32,.any),(13,.any),(14,.any)]) (fun _ _=>s) (fun _ _=>v) ?_ ?_
 ·exact⟨(),trivial,fz0,rfl,rfl⟩
 rintro k _ hk -
 repeat' (first|(with_reducible first|refine uk ?_|refine wk ?_ ?_<;>intro _|(refine dr P285 mixed ?_ ?_ ?_;kernel_rfl;kernel_rfl))|simp -implicitDefEqProofs(disch:=first|assumption|omega)[*])
 exact zn.eq rfl rfl
theorem zmx {x:LV} : zM Tryz.prog 258 [x,.int .i64 0,.int .i64 0,.int .i64 0] (.tup []):=by
 refine .of fun s v=>?_
 refine ac0 Tryz.func258 Tryz.ntmps258 ?_
 have hrs:Tryz.f258.results = #[]:=rfl
 repeat' (first|(with_reducible first|refine uk ?_|refine wk ?_ ?_<;>intro _|(refine dr P258 mixed ?_ ?_ ?_;kernel_rfl;kernel_rfl)|refine zc zcw ?_)|simp -implicitDefEqProofs(disch:=first|assumption|omega)[*])
 refine yW (β:=Unit) false 0 (fun _ _=>True) (fun k _=>[(1,.int .i64 0),(2,.int .i64 0),(3,.int .i64 0),(8,.bool true),(9,.bool true),(19,.any),(20,.any),(21,.any),(10,.any),(22,.any),(23,.any),(24,.any),(25,.any),(26,.any),(27,.any),(28,.any),(29,.any),(30,.any),(31,.any),(32,.any),(33,.any),(34,.any),(35,.any),(36,.any),(37,.any),(38,.any),(39,.any),(40,.any),(41,.any),(43,.any),(44,.any),(45,.any),(46,.any),(42,.any),(47,.any),(48,.any),(11,.any),(12,.any),(49,.any),(50,.any),(51,.any),(52,.any),(53,.any),(54,.any),(55,.any),(56,.any),(57,.any),(58,.any),(59,.any),(60,.any),(61,.any),(62,.any),(63,.any),(64,.any),(65,.any),(66,.any),(67,.any),(68,.any),(69,.any),(70,.any),(71,.any),(72,.any),(73,.any),(74,.any),(75,.any),(76,.any),(77,.any),(78,.any),(79,.any),(80,.any),(81,.any),(82,.any),(83,.any),(84,.any),(85,.any),(86,.any),(87,.any),(88,.any),(89,.any),(90,.any),(91,.any),(92,.any),(13,.any),(93,.any),(95,.any),(96,.any),(97,.any),(98,.any),(99,.any),(94,.any),(100,.any),(101,.any),(14,.any),(15,.any),(102,.any),(103,.any),(104,.any),(105,.any),(106,.any),(107,.any),(108,.any),(16,.any),(17,.any),(109,.any),(110,.any),(18,.any),(111,.any),(112,.any),(113,.any),(114,.any),(115,.any),(116,.any),(117,.any),(118,.any),(119,.any),(120,.any),(121,.any),(122,.any),(123,.any),(124,.any),(125,.any),(126,.any),(127,.any),(128,.any),(129,.any),(130,.any),(131,.any),(132,.any),(133,.any)]) (fun _ _=>s) (fun _ _=>v) ?_ ?_
 ·exact⟨(),trivial,fz0,rfl,rfl⟩
 rintro k _ hk -
 repeat' (first|(with_reducible first|refine uk ?_|refine wk ?_ ?_<;>intro _|(refine dr P258 mixed ?_ ?_ ?_;kernel_rfl;kernel_rfl)|refine zc zcw ?_)|simp -implicitDefEqProofs(disch:=first|assumption|omega)[*])
 exact zn.eq rfl rfl
theorem zmd {x:LV}(hx:aLen Tryz.prog 23 x=some (.int .i64 0)):zM Tryz.prog 210 [x] (.tup []):=by
 refine .of fun s v=>?_
 have hw:IntKind.u64.wrap 0=0:=by decide
 refine ac0 Tryz.func210 Tryz.ntmps210 ?_
 have hrs:Tryz.f210.results = #[]:=rfl
 repeat' (first|(with_reducible first|refine uk ?_|refine wk ?_ ?_<;>intro _|refine zc zeK ?_|refine zc zmx ?_)|simp -implicitDefEqProofs(disch:=first|assumption|omega)[*])
 exact zn.eq rfl rfl
def adj (l:List Int):Prop:=∀ j,j+1<l.length→nth l j≠nth l (j+1)
def zgR (s:List AObj)(v:List Nat)(id:Nat)(L:List Int)(y:LV)(s':List AObj)(v':List Nat):Prop:=
 v=v'∧((adj L∧y = .ref 1 id 0 L.length false∧s=s')∨(¬ adj L∧∃ k cs fl,k<L.length∧y = .ref 1 id 0 k fl∧s.set id (.cells cs)=s'))
set_option maxHeartbeats 4000000 in
theorem zfo {s:List AObj}{v:List Nat}{id:Nat}{L:List Int}(hs:s[id]? = some (.cells (zd L)))(hL:1≤L.length)(hb:L.length<4611686018427387904) :
  zp Tryz.prog 211 [.ref 1 id 0 L.length false] s v (zgR s v id L):=by
 have hid:=(List.getElem?_eq_some_iff.1 hs).1
 by_cases h1:L.length<2
 ·refine ac0 Tryz.func211 Tryz.ntmps211 ?_
  have hrs:Tryz.f211.results = #[.tmp 2]:=rfl
  repeat' (first|(with_reducible first|refine uk ?_|refine wk ?_ ?_<;>intro _|(refine dr P211 mixed ?_ ?_ ?_;kernel_rfl;kernel_rfl))|simp -implicitDefEqProofs(disch:=first|assumption|omega)[*])
  all_goals first|(exfalso;omega)|exact⟨rfl,.inl ⟨fun j hj=>by omega,rfl,rfl⟩⟩
 have hlen:(zd L).length=L.length:=by rw[zY];simp
 refine ac0 Tryz.func211 Tryz.ntmps211 ?_
 have hrs:Tryz.f211.results = #[.tmp 2]:=rfl
 repeat' (first|(with_reducible first|refine uk ?_|refine wk ?_ ?_<;>intro _|(refine dr P211 mixed ?_ ?_ ?_;kernel_rfl;kernel_rfl))|simp -implicitDefEqProofs(disch:=first|assumption|omega)[*])
 all_goals first|(exfalso;omega)|skip
 refine zC (β:=Nat) false (L.length-1) (fun k q=>q≤k+1∧k+1≤q∧∀ j,j<k→nth L j≠nth L (j+1)) (fun k q=>[(3,.int .i64 q),(10,.any),(11,.any),(12,.any),(13,.any),(16,.any),(17,.any),(18,.any),(19,.any),(20,.any),(21,.any),(22,.any),(23,.any),(24,.any),(25,.any),(26,.any),(27,.any),(28,.any),(4,.any),(5,.any),(29,.any),(30,.any),(31,.any),(32,.any),(35,.any),(36,.any),(37,.any),(38,.any),(39,.any),(40,.any),(41,.any),(42,.any),(43,.any),(44,.any),(45,.any),(46,.any),(47,.any),(48,.any),(49,.any),(50,.any),(51,.any),(52,.any),(53,.any),(33,.any),(34,.any),(54,.any),(55,.any),(56,.any),(57,.any),(58,.any),(59,.any),(2,.any),(14,.any),(15,.any)]) (fun _ _=>s) (fun _ _=>v) ?_ ?_
 ·exact⟨1,⟨by omega,by omega,fun j hj=>by omega⟩,fz0,rfl,rfl⟩
 rintro k q hk ⟨hq1,hq2,hI⟩
 by_cases hq:q<L.length
 ·have hm:((q:Int)-1).toNat=q-1:=by omega
  have h11:(1:Int)≤q:=by omega
  have h12:(q:Int)-1<L.length:=by omega
  have h13:q<L.length+1:=by omega
  have h14:(q:Int)<L.length:=by omega
  have hsl:=KH (P:=Tryz.prog) (t:=23) (sz:=1) (id:=id) (off:=0) (n:=L.length) (fl:=false) (κ:=.i64) (a:=q) (by omega) h14
  have hl1:=Kk (l:=L) (i:=q) hq
  have hl2:=Kk (l:=L) (i:=q-1) (by omega)
  by_cases he:nth L q=nth L (q-1)
  ·repeat' (first|(with_reducible first|refine uk ?_|refine wk ?_ ?_<;>intro _|(refine dr P211 mixed ?_ ?_ ?_;kernel_rfl;kernel_rfl))|simp -implicitDefEqProofs(disch:=first|assumption|omega)[*])
   have hget:∀ a,(s.set id a)[id]? = some a:=fun a=>by simp[hid]
   have hset:∀ a b,(s.set id a).set id b=s.set id b:=fun a b=>by simp
   refine zC (β:=List Int × Nat × Nat) false (L.length-q-1) (fun m p=>p.1.length=L.length∧q≤p.2.1∧p.2.1≤q+m∧p.2.2≤m+1∧m+1≤p.2.2) (fun m p=>[(3,.int .i64 p.2.1),(5,.int .i64 p.2.2),(29,.any),(30,.any),(31,.any),(32,.any),(35,.any),(36,.any),(37,.any),(38,.any),(39,.any),(40,.any),(41,.any),(42,.any),(43,.any),(44,.any),(45,.any),(46,.any),(47,.any),(48,.any),(49,.any),(50,.any),(51,.any),(52,.any),(53,.any),(33,.any),(34,.any)]) (fun _ p=>s.set id (.cells (zd p.1))) (fun _ _=>v) ?_ ?_
   ·refine⟨(L,q,1),⟨rfl,by simp,by simp,by simp,by simp⟩,fz0,?_,rfl⟩
    apply List.ext_getElem?
    intro i
    by_cases e:id=i
    ·subst e;rw[hget,hs]
    ·rw[List.getElem?_set_ne e]
   rintro m ⟨L',k3,q2⟩ hm2 ⟨hL',hk1,hk2,hk3,hk4⟩
   simp only at hL' hk1 hk2 hk3 hk4
   clear hs hl1 hl2 hsl hI hlen
   have hlen':(zd L').length=L.length:=by rw[zY,hL'];simp
   have hidu:∀ a,id<(s.set id a).length:=fun a=>by simpa using hid
   by_cases hq2:q2<L.length-q
   ·have hl1:=Kk (l:=L') (i:=q+q2) (by omega)
    have hl2:=Kk (l:=L') (i:=q+(q2-1)) (by omega)
    have hm':((q2:Int)-1).toNat=q2-1:=by omega
    have g1:(1:Int)≤q2:=by omega
    have g2:(q2:Int)-1<((L.length-q:Nat):Int):=by omega
    have g3:(q2:Int)<((L.length-q:Nat):Int):=by omega
    have g4:k3<L.length:=by omega
    have g5:(k3:Int)<L.length:=by omega
    have hst:=XK L' k3 (nth L' (q+q2)) (by omega)
    have g6:k3+1≤L.length:=by omega
    by_cases hne:nth L' (q+q2)=nth L' (q+(q2-1))
    ·repeat' (first|(with_reducible first|refine uk ?_|refine wk ?_ ?_<;>intro _|(refine dr P211 mixed ?_ ?_ ?_;kernel_rfl;kernel_rfl))|simp -implicitDefEqProofs(disch:=first|assumption|omega)[*])
     all_goals first|(exfalso;omega)|skip
     exact⟨by omega,(L',k3,q2+1),⟨hL',hk1,by show k3≤q+(m+1);omega,by show q2+1≤m+1+1;omega,by show m+1+1≤q2+1;omega⟩,fz,rfl,rfl⟩
    ·repeat' (first|(with_reducible first|refine uk ?_|refine wk ?_ ?_<;>intro _|(refine dr P211 mixed ?_ ?_ ?_;kernel_rfl;kernel_rfl))|simp -implicitDefEqProofs(disch:=first|assumption|omega)[*])
     all_goals first|(exfalso;omega)|skip
     exact⟨by omega,(L'.set k3 (nth L' (q+q2)),k3+1,q2+1),⟨by simp[hL'],by show q≤k3+1;omega,by show k3+1≤q+(m+1);omega,by show q2+1≤m+1+1;omega,by show m+1+1≤q2+1;omega⟩,fz,rfl,rfl⟩
   ·have g4:k3<L.length:=by omega
    have g5:(k3:Int)<L.length:=by omega
    have hsl:=KH (P:=Tryz.prog) (t:=23) (sz:=1) (id:=id) (off:=0) (n:=L.length) (fl:=false) (κ:=.i64) (a:=k3) (by omega) g5
    have hsh:=XN (P:=Tryz.prog) (t:=23) (sz:=1) (id:=id) (off:=0) (n:=L.length) (fl:=false) (κ:=.i64) (b:=k3) (by omega) (by omega)
    have g6:¬ L.length-k3=0:=by omega
    repeat' (first|(with_reducible first|refine uk ?_|refine wk ?_ ?_<;>intro _|(refine dr P211 mixed ?_ ?_ ?_;kernel_rfl;kernel_rfl))|simp -implicitDefEqProofs(disch:=first|assumption|omega)[*])
    all_goals first|(exfalso;omega)|skip
    refine⟨rfl,.inr ⟨fun ha=>?_,k3,_,_,g4,rfl,rfl⟩⟩
    have:=ha (q-1) (by omega)
    rw[show q-1+1=q by omega] at this
    exact this he.symm
  ·repeat' (first|(with_reducible first|refine uk ?_|refine wk ?_ ?_<;>intro _|(refine dr P211 mixed ?_ ?_ ?_;kernel_rfl;kernel_rfl))|simp -implicitDefEqProofs(disch:=first|assumption|omega)[*])
   refine⟨by omega,q+1,⟨by omega,by omega,fun j hj=>?_⟩,fz,rfl,rfl⟩
   by_cases hjk:j<k
   ·exact hI j hjk
   ·have e1:j=q-1:=by omega
    have e2:j+1=q:=by omega
    rw[e2,e1];exact fun h=>he h.symm
 ·repeat' (first|(with_reducible first|refine uk ?_|refine wk ?_ ?_<;>intro _|(refine dr P211 mixed ?_ ?_ ?_;kernel_rfl;kernel_rfl))|simp -implicitDefEqProofs(disch:=first|assumption|omega)[*])
  exact⟨rfl,.inl ⟨fun j hj=>hI j (by omega),rfl,rfl⟩⟩
theorem zeZ {L:List Int}(h:L.Pairwise (· ≤ ·)):adj L↔L.Nodup:=by
 rw[List.pairwise_iff_getElem] at h
 constructor
 ·intro ha
  unfold List.Nodup
  rw[List.pairwise_iff_getElem]
  intro i j hi hj hij
  have h1:L[i]≤L[j-1]:=by
   by_cases e:i=j-1
   ·subst e;exact Int.le_refl _
   ·exact h i (j-1) hi (by omega) (by omega)
  have h2:L[j-1]≤L[j]:=h (j-1) j (by omega) hj (by omega)
  have h3:=ha (j-1) (by omega)
  rw[zK (by omega),zK (by omega)] at h3
  have e:L[j-1+1]'(by omega)=L[j]:=by congr 1;omega
  rw[e] at h3
  omega
 ·intro hn j hj he
  unfold List.Nodup at hn
  rw[List.pairwise_iff_getElem] at hn
  rw[zK (by omega),zK hj] at he
  exact hn j (j+1) (by omega) hj (by omega) he
theorem zaN:∀ (n:Nat) (l:List Int),l.Nodup→(∀ x∈l,0≤x∧x<n)→l.length≤n
 | 0,l,_,h=>by
  cases l with
  | nil=>simp
  | cons a l=>have:=h a (by simp);omega
 | n+1,l,hn,h=>by
  have ih:=zaN n (l.erase n) (hn.erase _) (fun x hx=>by
   have h1:=(hn.mem_erase_iff).1 hx
   have h2:=h x h1.2
   have h3:=h1.1
   omega)
  by_cases hm:(n:Int)∈l
  ·rw[List.length_erase_of_mem hm] at ih;omega
  ·rw[List.erase_of_not_mem hm] at ih;omega
theorem zeS {fs:List Fn_}{mu th:Int}{co se ch l:List Int}{cho:List (List Int)}(hb:l.length≤maxLen)(hb2:l.length*8≤140737488355328)(hch:ch.length≤8) :
  zG Tryz.prog 129 [.agg [row fs,.int .i64 mu,row co,row se,row ch,row cho,.int .i64 th],row l] (.bool (wz ⟨fs,mu,co,se,ch,cho,th⟩ l)):=by
 refine .of fun s v=>?_
 have hw:=uV (l:=l) (most:=ch.length-1) (by unfold maxLen at hb;omega)
 by_cases hl:l=[]
 ·subst hl
  have hm:wz ⟨fs,mu,co,se,ch,cho,th⟩ []=false:=by simp[wz]
  rw[hm]
  refine ac0 Tryz.func129 Tryz.ntmps129 ?_
  have hrs:Tryz.f129.results = #[.tmp 4]:=rfl
  repeat' (first|(with_reducible first|refine uk ?_|refine wk ?_ ?_<;>intro _|refine zj (zca hb hb2) ?_)|simp -implicitDefEqProofs(disch:=first|assumption|omega)[*])
  rintro x _ _ ⟨rfl,⟨_,rfl,hx⟩ | ⟨h,_⟩⟩
  rotate_left
  ·exact absurd rfl h
  have hxl:aLen Tryz.prog 23 x=some (.int .i64 0):=by rcases hx with rfl | rfl<;>simp
  clear hx
  repeat' (first|(with_reducible first|refine uk ?_|refine wk ?_ ?_<;>intro _|refine zc (zmd hxl) ?_)|simp -implicitDefEqProofs(disch:=first|assumption|omega)[*])
  exact Ends.eqat rfl rfl (List.prefix_refl _)
 ·have h0:1≤l.length:=by
   cases l with
   | nil=>exact absurd rfl hl
   | cons a l=>simp
  have hsl:=ZW l
  have had:=zeZ (zeY l)
  have hnd:(vu l).Nodup↔l.Nodup:=(Zk l).nodup_iff
  have hm:wz ⟨fs,mu,co,se,ch,cho,th⟩ l=(decide l.Nodup && yf l (ch.length-1)):=by
   unfold wz
   by_cases hN:l.Nodup
   ·by_cases hA:yf l (ch.length-1)=true
    ·have h8:l.length≤ch.length:=zaN _ l hN fun x hx=>by
      unfold yf at hA
      have:=List.all_eq_true.1 hA x hx
      simp only[Bool.and_eq_true,decide_eq_true_eq] at this
      omega
     have h8':l.length≤8:=by omega
     simp[hN,hA,h0,h8']
    ·simp only[Bool.not_eq_true] at hA
     simp[hA]
   ·simp[hN]
  rw[hm]
  clear hm
  have hls:(vu l)≠[]:=fun e=>by rw[e] at hsl;simp at hsl;omega
  have hbb:l.length<4611686018427387904:=by omega
  refine ac0 Tryz.func129 Tryz.ntmps129 ?_
  have hrs:Tryz.f129.results = #[.tmp 4]:=rfl
  repeat' (first|(with_reducible first|refine uk ?_|refine wk ?_ ?_<;>intro _|refine zj (zca hb hb2) ?_)|simp -implicitDefEqProofs(disch:=first|assumption|omega)[*])
  rintro x _ _ ⟨rfl,⟨e,_,_⟩ | ⟨_,rfl,rfl⟩⟩
  ·exact absurd e hl
  repeat' (first|(with_reducible first|refine uk ?_|refine wk ?_ ?_<;>intro _|refine zj (zlK (l:=l) (by simp[zL]) hl hbb) ?_)|simp -implicitDefEqProofs(disch:=first|assumption|omega)[*])
  all_goals first|(exfalso;omega)|skip
  have hc:=zfo (s:=s++[.cells [row fs,.int .i64 mu,row co,row se,row ch,row cho,.int .i64 th],.cells (zd (vu l))]) (v:=v) (id:=s.length+1) (L:=vu l) (by simp[zL]) (by omega) (by omega)
  rw[hsl] at hc
  generalize yf l (ch.length-1)=xa at *
  refine zj hc ?_
  rintro y _ _ ⟨rfl,⟨ha,rfl,rfl⟩ | ⟨ha,k,cs,fl,hk,rfl,rfl⟩⟩
  ·have hN:l.Nodup:=hnd.1 (had.1 ha)
   repeat' (first|(with_reducible first|refine uk ?_|refine wk ?_ ?_<;>intro _|refine zg hw (fun v2 hv2=>?_))|simp -implicitDefEqProofs(disch:=first|assumption|omega)[*])
   exact Ends.eqat rfl rfl hv2
  ·have hN:¬ l.Nodup:=fun h=>ha (had.2 (hnd.2 h))
   rw[hsl] at hk
   have hk2:(k:Int)≠l.length:=by omega
   repeat' (first|(with_reducible first|refine uk ?_|refine wk ?_ ?_<;>intro _|refine zg hw (fun v2 hv2=>?_))|simp -implicitDefEqProofs(disch:=first|assumption|omega)[*])
   exact Ends.eqat rfl rfl (List.prefix_refl _)
end Go.Hb
end
