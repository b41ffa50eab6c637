/-
  A layer for reasoning about the program's calls, and contracts of its functions. CONDITIONS: none; each theorem bears its own.
-/
import Derived.Test.YtieoaonaijbijaaGreatG12
import Derived.Test.YtieoaonaijbijaaGreatG05
set_option linter.unusedVariables false
set_option linter.unusedSimpArgs false
section
namespace Go.Hb
open Go Go.Proofs Go.RowKit
set_option maxRecDepth 100000
set_option maxHeartbeats 800000
attribute [-simp] aC aL xq yp zE aIf yr zR aLen zt ya zQ zP lBr aq yP aev zk zw zF zI LV.cells LV.cellsOk getElem?_pos getElem?_neg
theorem XI {n:Nat}{L:List (List Int)}{k:Nat}(h:k<L.length):xE n (L.take (k+1))=if 0<(uG n (nth L k)).length then xE n (L.take k)++[uG n (nth L k)] else xE n (L.take k):=by
 unfold xE
 rw[za h,List.map_append,List.filter_append]
 by_cases h0:0<(uG n (nth L k)).length
 ·simp[h0]
 ·simp[h0]
theorem zbE {n k:Nat}{L:List (List Int)} : (xE n (L.take k)).length≤k:=by
 unfold xE
 refine Nat.le_trans (List.length_filter_le _ _) ?_
 simp;omega
set_option maxHeartbeats 20000000 in
theorem zlQ {fs:List Fn_}{mu th:Int}{co se ch:List Int}{cho:List (List Int)}(h1:fs.length≤9223372036854775807)(h2:co.length≤9223372036854775807)(h3:se.length≤9223372036854775807)(h4:ch.length≤9223372036854775807)(h5:cho.length≤9223372036854775807)
  (h6:∀ l∈cho,l.length≤9223372036854775807∧∀ x∈l,I64 x) (hmu:I64 mu) (hth:I64 th) (hco:∀ x∈co,I64 x) (hse:∀ x∈se,I64 x) (hch:∀ x∈ch,I64 x) (hfs:∀ f∈fs,I64 f.locals∧f.code.length≤9223372036854775807∧∀ i∈f.code,I64 i.op∧I64 i.a) :
  zG Tryz.prog 31 [.agg [row fs,.int .i64 mu,row co,row se,row ch,row cho,.int .i64 th]] (.agg (good ⟨fs,mu,co,se,ch,cho,th⟩).lv):=by
 intro s v
 refine zS ?_
 refine ac0 Tryz.func31 Tryz.ntmps31 ?_
 have hrs:Tryz.f31.results = #[.cell 2 26]:=rfl
 have a1:=yl (n:=mu) (m:=4) (by omega)
 have a2:=yl (n:=th) (m:=8) (by omega)
 obtain⟨g0,hg0⟩:∃ g,XO ⟨fs,mu,co,se,ch,cho,th⟩=g:=⟨_,rfl⟩
 have g1:g0.mutexes=zA mu 4:=by rw[← hg0];rfl
 have g2:g0.conds=things co (zA mu 4-1):=by rw[← hg0];rfl
 have g3:g0.semas=things se 3:=by rw[← hg0];rfl
 have g4:g0.chans=things ch 3:=by rw[← hg0];rfl
 have g5:xE g0.chans.length (cho.take 4)=g0.choices:=by rw[← hg0];rfl
 have g6:g0.threads=1+zA th 8:=by rw[← hg0];rfl
 have g7:Qk fs=g0.funcs:=by rw[← hg0];rfl
 have gg:good ⟨fs,mu,co,se,ch,cho,th⟩ = {g0 with funcs:=g0.funcs.map fun f=>⟨f.locals,f.code.map (xn g0 f)⟩ }:=by unfold good;rw[hg0]
 rw[gg]
 clear gg hg0
 generalize hmu':zA mu 4=mu' at *
 generalize hth':zA th 8=th' at *
 have k1:=(Jj hco h2 (to:=mu'-1) (by omega) (by omega)).pure
 have k2:=(Jj hse h3 (to:=3) (by omega) (by omega)).pure
 have k3:=(Jj hch h4 (to:=3) (by omega) (by omega)).pure
 have a3:=yw hmu (m:=4) (by omega)
 have a4:=yw hth (m:=8) (by omega)
 rw[hmu'] at a3;rw[hth'] at a4
 have hn:(things ch 3).length≤4:=wM _ _
 generalize things co (mu'-1)=co' at *
 generalize things se 3=se' at *
 generalize things ch 3=ch' at *
 rw[g4] at g5
 repeat' (first|(with_reducible first|refine uk ?_|refine wk ?_ ?_<;>intro _|(refine dr P31 mixed ?_ ?_ ?_;kernel_rfl;kernel_rfl)|refine zc a3 ?_|refine zc a4 ?_|refine zg k1 (fun v1 hv1=>?_)|refine zg k2 (fun v2 hv2=>?_)|refine zg k3 (fun v3 hv3=>?_))|simp -implicitDefEqProofs(disch:=first|assumption|omega)[*])
 have hprev:v <+: v3:=(hv1.trans hv2).trans hv3
 clear k1 k2 k3 hv1 hv2 hv3 a3 a4 hmu' hth' hmu hth hco hse hch h2 h3 h4
 refine Zs (β:=LV × List Nat) (γ:=LV × List Nat) false (min cho.length 4) (fun k p=>Gro v3 p.2 (xE ch'.length (cho.take k)) p.1) (fun k p=>[(4,.int .i64 k),(40,.any),(41,.any),(42,.any),(43,.any),(44,.any),(45,.any),(46,.any),(47,.any),(48,.any),(51,.any),(52,.any),(53,.any),(54,.any),(55,.any),(56,.any),(57,.any),(58,.any),(59,.any),(60,.any),(5,.any),(6,.any),(7,.any),(61,.any),(62,.any),(63,.any),(64,.any),(8,.any),(9,.any),(67,.any),(68,.any),(69,.any),(70,.any),(73,.any),(74,.any),(75,.any),(76,.any),(77,.any),(78,.any),(79,.any),(80,.any),(81,.any),(82,.any),(83,.any),(84,.any),(71,.any),(72,.any),(85,.any),(86,.any),(87,.any),(88,.any),(89,.any),(90,.any),(91,.any),(92,.any),(93,.any),(65,.any),(66,.any),(94,.any),(95,.any),(96,.any),(97,.any),(98,.any),(99,.any),(100,.any),(101,.any),(102,.any),(49,.any),(50,.any)])
  (fun _ p=>s++[.cells [row fs,.int .i64 mu,row co,row se,row ch,row cho,.int .i64 th],.cells [.nils,.int .i64 0,.nils,.nils,.nils,.nils,.int .i64 0],.cells [.nils,.int .i64 mu',row co',row se',row ch',p.1,.int .i64 (1+th')]]) (fun _ p=>p.2)
  (fun p=>Gro v3 p.2 g0.choices p.1) (fun p=>[(40,.any),(41,.any),(42,.any),(43,.any),(44,.any),(45,.any),(46,.any),(47,.any),(48,.any),(51,.any),(52,.any),(53,.any),(54,.any),(55,.any),(56,.any),(57,.any),(58,.any),(59,.any),(60,.any),(5,.any),(6,.any),(7,.any),(61,.any),(62,.any),(63,.any),(64,.any),(8,.any),(9,.any),(67,.any),(68,.any),(69,.any),(70,.any),(73,.any),(74,.any),(75,.any),(76,.any),(77,.any),(78,.any),(79,.any),(80,.any),(81,.any),(82,.any),(83,.any),(84,.any),(71,.any),(72,.any),(85,.any),(86,.any),(87,.any),(88,.any),(89,.any),(90,.any),(91,.any),(92,.any),(93,.any),(65,.any),(66,.any),(94,.any),(95,.any),(96,.any),(97,.any),(98,.any),(99,.any),(100,.any),(101,.any),(102,.any),(49,.any),(50,.any),(4,.any)]) (fun p=>s++[.cells [row fs,.int .i64 mu,row co,row se,row ch,row cho,.int .i64 th],.cells [.nils,.int .i64 0,.nils,.nils,.nils,.nils,.int .i64 0],.cells [.nils,.int .i64 mu',row co',row se',row ch',p.1,.int .i64 (1+th')]]) (fun p=>p.2) ?_ ?_ ?_
 ·exact⟨(.nils,v3),Gro.nil _,fz0,rfl,rfl⟩
 ·clear g1 g2 g3 g4 g6 g7 hfs h1
  rintro k ⟨xo,v4⟩ hk hxo
  simp only at hxo
  have hxc:=hxo.cells
  have hgl:=zbE (n:=ch'.length) (k:=k) (L:=cho)
  by_cases hlt:k<cho.length∧k<4
  ·obtain⟨hlt,hlt4⟩:=hlt
   have hmem:nth cho k∈cho:=by rw[zK hlt];exact List.getElem_mem hlt
   have kk:=(Jj (h6 _ hmem).2 (h6 _ hmem).1 (to:=(ch'.length:Int)-1) (by omega) (by omega)).pure
   generalize hown:things (nth cho k) ((ch'.length:Int)-1)=own at kk
   have hol:own.length≤4:=by rw[← hown];exact wM _ _
   repeat' (first|(with_reducible first|refine uk ?_|refine wk ?_ ?_<;>intro _|(refine dr P31 mixed ?_ ?_ ?_;kernel_rfl;kernel_rfl)|refine zg kk (fun v5 hv5=>?_))|simp -implicitDefEqProofs(disch:=first|assumption|omega)[*])
   all_goals first|(exfalso;omega)|skip
   have hxo5:=hxo.mono hv5
   refine zC (β:=LV × List Nat) false own.length (fun j p=>GroE v5 p.2 (dd (own.take j)) p.1) (fun j p=>[(6,p.1),(7,.int .i64 j),(61,.any),(62,.any),(63,.any),(64,.any),(8,.any),(9,.any),(67,.any),(68,.any),(69,.any),(70,.any),(73,.any),(74,.any),(75,.any),(76,.any),(77,.any),(78,.any),(79,.any),(80,.any),(81,.any),(82,.any),(83,.any),(84,.any),(71,.any),(72,.any),(85,.any),(86,.any),(87,.any),(88,.any),(89,.any),(90,.any),(91,.any),(92,.any),(93,.any),(65,.any),(66,.any)])
    (fun _ _=>s++[.cells [row fs,.int .i64 mu,row co,row se,row ch,row cho,.int .i64 th],.cells [.nils,.int .i64 0,.nils,.nils,.nils,.nils,.int .i64 0],.cells [.nils,.int .i64 mu',row co',row se',row ch',xo,.int .i64 (1+th')]]) (fun _ p=>p.2) ?_ ?_
   ·exact⟨(.nils,v5),GroE.nil _,fz0,rfl,rfl⟩
   rintro j ⟨xl,v6⟩ hj hxl
   simp only at hxl
   have hdl:(dd (own.take j)).length≤4:=by have:=ziv (own.take j);simp at this;omega
   have hxll:=hxl.gro.len (P:=Tryz.prog) (t:=23) (by kernel_rfl)
   have hxlc:=hxl.gro.cells
   by_cases hjl:j<own.length
   ·repeat' (first|(with_reducible first|refine uk ?_|refine wk ?_ ?_<;>intro _|(refine dr P31 mixed ?_ ?_ ?_;kernel_rfl;kernel_rfl))|simp -implicitDefEqProofs(disch:=first|assumption|omega)[*])
    have hxi:=fun κ i=>hxl.ix (P:=Tryz.prog) (t:=23) (κ:=κ) (i:=i)
    generalize hd:dd (own.take j)=d at *
    refine zC (β:=Bool) false d.length (fun i b=>(d.take i).any (fun y=>decide (y=nth own j))=b) (fun i b=>[(8,.bool b),(9,.int .i64 i),(67,.any),(68,.any),(69,.any),(70,.any),(73,.any),(74,.any),(75,.any),(76,.any),(77,.any),(78,.any),(79,.any),(80,.any),(81,.any),(82,.any),(83,.any),(84,.any),(71,.any),(72,.any)])
     (fun _ _=>s++[.cells [row fs,.int .i64 mu,row co,row se,row ch,row cho,.int .i64 th],.cells [.nils,.int .i64 0,.nils,.nils,.nils,.nils,.int .i64 0],.cells [.nils,.int .i64 mu',row co',row se',row ch',xo,.int .i64 (1+th')]]) (fun _ _=>v6) ?_ ?_
    ·exact⟨false,by simp,fz0,rfl,rfl⟩
    intro i b hi hb
    by_cases hil:i<d.length
    ·have hs:(d.take (i+1)).any (fun y=>decide (y=nth own j))=(b || decide (nth d i=nth own j)):=by
      rw[za hil,List.any_append,hb];simp
     cases b
     all_goals
      repeat' (first|(with_reducible first|refine uk ?_|refine wk ?_ ?_<;>intro _|(refine dr P31 mixed ?_ ?_ ?_;kernel_rfl;kernel_rfl))|simp -implicitDefEqProofs(disch:=first|assumption|omega)[*])
     all_goals exact⟨hil,_,hs,fz,rfl,rfl⟩
    ·have:i=d.length:=by omega
     subst this
     rw[List.take_length] at hb
     have hst:dd (own.take (j+1))=if b=true then d else d++[nth own j]:=by
      rw[zjO hjl,hd];unfold va;rw[hb]
     obtain⟨x',v',hx',_,ha⟩:=GroE.push (P:=Tryz.prog) (t:=23) (t2:=23) (sz:=1) (by_:=8) (by kernel_rfl) rfl (by omega) hxl (nth own j) (by omega)
     simp only[yG] at ha
     cases b
     all_goals
      repeat' (first|(with_reducible first|refine uk ?_|refine wk ?_ ?_<;>intro _|(refine dr P31 mixed ?_ ?_ ?_;kernel_rfl;kernel_rfl))|simp -implicitDefEqProofs(disch:=first|assumption|omega)[*])
     ·exact⟨hjl,(x',v'),by show GroE v5 v' (dd (own.take (j+1))) x';rw[hst];exact hx',fz,rfl,rfl⟩
     ·exact⟨hjl,(xl,v6),by show GroE v5 v6 (dd (own.take (j+1))) xl;rw[hst];exact hxl,fz,rfl,rfl⟩
   ·have:j=own.length:=by omega
    subst this
    rw[List.take_length] at hxl hxll hdl
    have hst:=XI (n:=ch'.length) hlt
    have hgo:uG ch'.length (nth cho k)=dd own:=by unfold uG;rw[← hown]
    rw[hgo] at hst
    obtain⟨x',v',hx',_,ha⟩:=Gro.push (P:=Tryz.prog) (t:=24) (t2:=24) (sz:=1) (by_:=24) (by kernel_rfl) rfl (by omega) (hxo5.mono hxl.gro.pre) (dd own) (ds:=[xl]) (by simp[hxl.gro.weak]) (by simp[hxl.gro.under]) (by omega)
    have hx'c:=hx'.cells
    by_cases h0:0<(dd own).length
    ·repeat' (first|(with_reducible first|refine uk ?_|refine wk ?_ ?_<;>intro _|(refine dr P31 mixed ?_ ?_ ?_;kernel_rfl;kernel_rfl))|simp -implicitDefEqProofs(disch:=first|assumption|omega)[*])
     all_goals first|(exfalso;omega)|skip
     exact⟨by omega,(x',v'),by show Gro v3 v' (xE ch'.length (cho.take (k+1))) x';rw[hst,if_pos h0];exact hx',fz,rfl,rfl⟩
    ·repeat' (first|(with_reducible first|refine uk ?_|refine wk ?_ ?_<;>intro _|(refine dr P31 mixed ?_ ?_ ?_;kernel_rfl;kernel_rfl))|simp -implicitDefEqProofs(disch:=first|assumption|omega)[*])
     all_goals first|(exfalso;omega)|skip
     exact⟨by omega,(xo,v6),by show Gro v3 v6 (xE ch'.length (cho.take (k+1))) xo;rw[hst,if_neg h0];exact hxo5.mono hxl.gro.pre,fz,rfl,rfl⟩
  ·have hkk:cho.take k=cho.take 4:=by
    rcases Nat.le_total cho.length 4 with h | h
    ·rw[List.take_of_length_le (i:=4) h,List.take_of_length_le (by omega)]
    ·rw[show k=4 by omega]
   rw[hkk,g5] at hxo
   clear g5
   repeat' (first|(with_reducible first|refine uk ?_|refine wk ?_ ?_<;>intro _|(refine dr P31 mixed ?_ ?_ ?_;kernel_rfl;kernel_rfl))|simp -implicitDefEqProofs(disch:=first|assumption|omega)[*])
   all_goals first|(exfalso;omega)|exact⟨(xo,v4),hxo,fz,rfl,rfl⟩
 rintro⟨xo,v4⟩ hxo
 simp only at hxo
 have hxol:=hxo.len (P:=Tryz.prog) (t:=24) (by kernel_rfl)
 have hxow:=hxo.weak
 have hxou:=hxo.under s.length
 have hxoc:=hxo.cells
 have hpre4:=hprev.trans hxo.pre
 clear hxo hprev g5 h5 h6
 repeat' (first|(with_reducible first|refine uk ?_|refine wk ?_ ?_<;>intro _|(refine dr P31 mixed ?_ ?_ ?_;kernel_rfl;kernel_rfl))|simp -implicitDefEqProofs(disch:=first|assumption|omega)[*])
 refine Zs (β:=List AObj × LV × List LV × List Nat × Nat) (γ:=List AObj × LV × List LV × List Nat × Nat) true (min fs.length 4)
  (fun k p=>xu (s++(.cells [row fs,.int .i64 mu,row co,row se,row ch,row cho,.int .i64 th] :: .cells [.nils,.int .i64 0,.nils,.nils,.nils,.nils,.int .i64 0] :: .cells [p.2.1,.int .i64 mu',row co',row se',row ch',xo,.int .i64 (1+th')] :: p.1)) ((fs.take k).map Qe) p.2.2.2.1 p.2.2.1∧
   RowR (s++(.cells [row fs,.int .i64 mu,row co,row se,row ch,row cho,.int .i64 th] :: .cells [.nils,.int .i64 0,.nils,.nils,.nils,.nils,.int .i64 0] :: .cells [p.2.1,.int .i64 mu',row co',row se',row ch',xo,.int .i64 (1+th')] :: p.1)) 2 k p.2.2.1 p.2.1 (s.length+(p.2.2.2.2+3))∧p.2.2.2.1.Nodup∧(∀ id∈p.2.2.2.1,s.length+3≤id∧id<s.length+(p.1.length+3)∧(k≠0→id≠s.length+(p.2.2.2.2+3)))∧(k≠0→p.2.2.2.2<p.1.length))
  (fun k p=>[(10,.int .i64 k),(103,.any),(104,.any),(105,.any),(106,.any),(107,.any),(108,.any),(109,.any),(110,.any),(111,.any),(114,.any),(115,.any),(116,.any),(117,.any),(118,.any),(119,.any),(120,.any),(121,.any),(11,.any),(12,.any),(122,.any),(123,.any),(124,.any),(125,.any),(126,.any),(127,.any),(128,.any),(129,.any),(130,.any),(131,.any),(132,.any),(133,.any),(134,.any),(137,.any),(138,.any),(139,.any),(140,.any),(141,.any),(142,.any),(143,.any),(144,.any),(145,.any),(146,.any),(147,.any),(148,.any),(149,.any),(150,.any),(135,.any),(136,.any),(151,.any),(152,.any),(153,.any),(154,.any),(155,.any),(156,.any),(112,.any),(113,.any)]) (fun _ p=>s++(.cells [row fs,.int .i64 mu,row co,row se,row ch,row cho,.int .i64 th] :: .cells [.nils,.int .i64 0,.nils,.nils,.nils,.nils,.int .i64 0] :: .cells [p.2.1,.int .i64 mu',row co',row se',row ch',xo,.int .i64 (1+th')] :: p.1)) (fun _ _=>v4)
  (fun p=>xu (s++(.cells [row fs,.int .i64 mu,row co,row se,row ch,row cho,.int .i64 th] :: .cells [.nils,.int .i64 0,.nils,.nils,.nils,.nils,.int .i64 0] :: .cells [p.2.1,.int .i64 mu',row co',row se',row ch',xo,.int .i64 (1+th')] :: p.1)) ((fs.take 4).map Qe) p.2.2.2.1 p.2.2.1∧
   RowR (s++(.cells [row fs,.int .i64 mu,row co,row se,row ch,row cho,.int .i64 th] :: .cells [.nils,.int .i64 0,.nils,.nils,.nils,.nils,.int .i64 0] :: .cells [p.2.1,.int .i64 mu',row co',row se',row ch',xo,.int .i64 (1+th')] :: p.1)) 2 ((fs.take 4).map Qe).length p.2.2.1 p.2.1 (s.length+(p.2.2.2.2+3))∧p.2.2.2.1.Nodup∧(∀ id∈p.2.2.2.1,s.length+3≤id∧id<s.length+(p.1.length+3)∧(((fs.take 4).map Qe).length≠0→id≠s.length+(p.2.2.2.2+3)))∧(((fs.take 4).map Qe).length≠0→p.2.2.2.2<p.1.length))
  (fun p=>[(103,.any),(104,.any),(105,.any),(106,.any),(107,.any),(108,.any),(109,.any),(110,.any),(111,.any),(114,.any),(115,.any),(116,.any),(117,.any),(118,.any),(119,.any),(120,.any),(121,.any),(11,.any),(12,.any),(122,.any),(123,.any),(124,.any),(125,.any),(126,.any),(127,.any),(128,.any),(129,.any),(130,.any),(131,.any),(132,.any),(133,.any),(134,.any),(137,.any),(138,.any),(139,.any),(140,.any),(141,.any),(142,.any),(143,.any),(144,.any),(145,.any),(146,.any),(147,.any),(148,.any),(149,.any),(150,.any),(135,.any),(136,.any),(151,.any),(152,.any),(153,.any),(154,.any),(155,.any),(156,.any),(112,.any),(113,.any),(10,.any)]) (fun p=>s++(.cells [row fs,.int .i64 mu,row co,row se,row ch,row cho,.int .i64 th] :: .cells [.nils,.int .i64 0,.nils,.nils,.nils,.nils,.int .i64 0] :: .cells [p.2.1,.int .i64 mu',row co',row se',row ch',xo,.int .i64 (1+th')] :: p.1)) (fun _=>v4) ?_ ?_ ?_
 ·exact⟨([],.nils,[],[],0),⟨rfl,RowR.nil _ _ _,by simp,by simp,by simp⟩,fz0,by simp,rfl⟩
 ·rintro k ⟨J,xF,fcs,ids,dF⟩ hk ⟨hf1,hf2,hf3,hf4,hf5⟩
  simp only at hf1 hf2 hf3 hf4 hf5
  by_cases hlt:k<fs.length∧k<4
  ·obtain⟨hlt,hlt4⟩:=hlt
   obtain⟨hl,hcl,hci⟩:=hfs (nth fs k) (by rw[zK hlt];exact List.getElem_mem hlt)
   have ka:=yw hl (m:=4) (by omega)
   generalize hlo:zA (nth fs k).locals 4=lo at *
   repeat' (first|(with_reducible first|refine uk ?_|refine wk ?_ ?_<;>intro _|(refine dw P31 mixed ?_ ?_ ?_;kernel_rfl;kernel_rfl)|refine zc ka ?_)|simp -implicitDefEqProofs(disch:=first|assumption|omega)[*])
   all_goals first|(exfalso;omega)|skip
   generalize hcd:(nth fs k).code=code at *
   refine Zs (β:=List AObj × LV × Nat) (γ:=List AObj × LV × Nat) true (min code.length 24)
    (fun j p=>RowR (s++(.cells [row fs,.int .i64 mu,row co,row se,row ch,row cho,.int .i64 th] :: .cells [.nils,.int .i64 0,.nils,.nils,.nils,.nils,.int .i64 0] :: .cells [xF,.int .i64 mu',row co',row se',row ch',xo,.int .i64 (1+th')] :: (J++.cells [.int .i64 lo,p.2.1] :: p.1))) 2 j (zd (code.take j)) p.2.1 (s.length+(J.length+1+p.2.2+3))∧(j≠0→p.2.2<p.1.length))
    (fun j p=>[(12,.int .i64 j),(122,.any),(123,.any),(124,.any),(125,.any),(126,.any),(127,.any),(128,.any),(129,.any),(130,.any),(131,.any),(132,.any),(133,.any),(134,.any),(137,.any),(138,.any),(139,.any),(140,.any),(141,.any),(142,.any),(143,.any),(144,.any),(145,.any),(146,.any),(147,.any),(148,.any),(149,.any),(150,.any),(135,.any),(136,.any)]) (fun _ p=>s++(.cells [row fs,.int .i64 mu,row co,row se,row ch,row cho,.int .i64 th] :: .cells [.nils,.int .i64 0,.nils,.nils,.nils,.nils,.int .i64 0] :: .cells [xF,.int .i64 mu',row co',row se',row ch',xo,.int .i64 (1+th')] :: (J++.cells [.int .i64 lo,p.2.1] :: p.1))) (fun _ _=>v4)
    (fun p=>RowR (s++(.cells [row fs,.int .i64 mu,row co,row se,row ch,row cho,.int .i64 th] :: .cells [.nils,.int .i64 0,.nils,.nils,.nils,.nils,.int .i64 0] :: .cells [xF,.int .i64 mu',row co',row se',row ch',xo,.int .i64 (1+th')] :: (J++.cells [.int .i64 lo,p.2.1] :: p.1))) 2 (code.take 24).length (zd (code.take 24)) p.2.1 (s.length+(J.length+1+p.2.2+3))∧((code.take 24).length≠0→p.2.2<p.1.length))
    (fun p=>[(122,.any),(123,.any),(124,.any),(125,.any),(126,.any),(127,.any),(128,.any),(129,.any),(130,.any),(131,.any),(132,.any),(133,.any),(134,.any),(137,.any),(138,.any),(139,.any),(140,.any),(141,.any),(142,.any),(143,.any),(144,.any),(145,.any),(146,.any),(147,.any),(148,.any),(149,.any),(150,.any),(135,.any),(136,.any),(12,.any)]) (fun p=>s++(.cells [row fs,.int .i64 mu,row co,row se,row ch,row cho,.int .i64 th] :: .cells [.nils,.int .i64 0,.nils,.nils,.nils,.nils,.int .i64 0] :: .cells [xF,.int .i64 mu',row co',row se',row ch',xo,.int .i64 (1+th')] :: (J++.cells [.int .i64 lo,p.2.1] :: p.1))) (fun _=>v4) ?_ ?_ ?_
   ·exact⟨([],.nils,0),⟨RowR.nil _ _ _,by simp⟩,fz0,by simp,rfl⟩
   ·rintro j ⟨D,x,d⟩ hj ⟨hr1,hr2⟩
    simp only at hr1 hr2
    by_cases hjl:j<code.length∧j<24
    ·obtain⟨hjl,hj24⟩:=hjl
     obtain⟨D',hD',ha,hrow⟩:=zga (P:=Tryz.prog) (t:=132) (t2:=132) (by kernel_rfl) hr1 hr2 hjl hj24
     clear hr1 hf1 hf2
     repeat' (first|(with_reducible first|refine uk ?_|refine wk ?_ ?_<;>intro _|(refine dw P31 mixed ?_ ?_ ?_;kernel_rfl;kernel_rfl))|simp -implicitDefEqProofs(disch:=first|assumption|omega)[*])
     all_goals first|(exfalso;omega)|skip
     exact⟨by omega,(D',_,D.length),⟨hrow _,fun _=>hD'⟩,fz,rfl,rfl⟩
    ·have hjj:code.take j=code.take 24∧j=(code.take 24).length:=by
      constructor
      ·rcases Nat.le_total code.length 24 with h | h
       ·rw[List.take_of_length_le (i:=24) h,List.take_of_length_le (by omega)]
       ·rw[show j=24 by omega]
      ·simp;omega
     have hjj2:=hjj.2
     rw[hjj.1,hjj2] at hr1
     rw[hjj2] at hr2
     repeat' (first|(with_reducible first|refine uk ?_|refine wk ?_ ?_<;>intro _|(refine dw P31 mixed ?_ ?_ ?_;kernel_rfl;kernel_rfl))|simp -implicitDefEqProofs(disch:=first|assumption|omega)[*])
     all_goals first|(exfalso;omega)|exact⟨(D,x,d),⟨hr1,hr2⟩,fz,rfl,rfl⟩
   rintro⟨D,x,d⟩ ⟨hr1,hr2⟩
   simp only at hr1 hr2
   have hgf:(fs.take (k+1)).map Qe=(fs.take k).map Qe++[⟨lo,code.take 24⟩]:=by
    rw[za hlt,List.map_append];simp only[List.map_cons,List.map_nil,Qe,hlo,hcd]
   obtain⟨J',ids',ha,q1,q2,q3,q4,q5⟩:=zef (P:=Tryz.prog) (t:=22) (t2:=22) (by kernel_rfl) hf1 hf2 hf3 hf4 hr1 hr2 hlt4 hf5
   clear hr1 hf1 hf2
   repeat' (first|(with_reducible first|refine uk ?_|refine wk ?_ ?_<;>intro _|(refine dw P31 mixed ?_ ?_ ?_;kernel_rfl;kernel_rfl))|simp -implicitDefEqProofs(disch:=first|assumption|omega)[*])
   all_goals first|(exfalso;omega)|skip
   exact⟨by omega,(J',_,_,ids',J.length+1+D.length),⟨by show xu _ ((fs.take (k+1)).map Qe) _ _;rw[hgf];exact q1 _ _ _,q2 _ _ _,q3,fun id hid=>⟨(q4 id hid).1,(q4 id hid).2.1,fun _=>(q4 id hid).2.2⟩,fun _=>q5⟩,fz,rfl,rfl⟩
  ·have hkk:(fs.take k)=(fs.take 4)∧k=((fs.take 4).map Qe).length:=by
    constructor
    ·rcases Nat.le_total fs.length 4 with h | h
     ·rw[List.take_of_length_le (i:=4) h,List.take_of_length_le (by omega)]
     ·rw[show k=4 by omega]
    ·simp;omega
   rw[hkk.1] at hf1
   have hkk2:=hkk.2
   rw[hkk2] at hf2 hf4 hf5
   repeat' (first|(with_reducible first|refine uk ?_|refine wk ?_ ?_<;>intro _|(refine dw P31 mixed ?_ ?_ ?_;kernel_rfl;kernel_rfl))|simp -implicitDefEqProofs(disch:=first|assumption|omega)[*])
   all_goals first|(exfalso;omega)|exact⟨(J,xF,fcs,ids,dF),⟨hf1,hf2,hf3,hf4,hf5⟩,fz,rfl,rfl⟩
 rintro⟨J,xF,fcs,ids,dF⟩ ⟨hf1,hf2,hf3,hf4,hf5⟩
 simp only at hf1 hf2 hf3 hf4 hf5
 by_cases h0:fs.length=0
 ·have hfs0:fs=[]:=List.length_eq_zero_iff.1 h0
  have hz:((fs.take 4).map Qe).length=0:=by rw[hfs0];rfl
  have g7':g0.funcs=[⟨0,[]⟩]:=by rw[← g7,hfs0];rfl
  rcases hf2 with ⟨_,rfl,rfl⟩ | h
  rotate_left
  ·exact absurd hz h.1
  clear hf1 hf3 hf4 hf5 hfs h1 h0 g7 hfs0 hz
  repeat' (first|(with_reducible first|refine uk ?_|refine wk ?_ ?_<;>intro _|(refine dw P31 mixed ?_ ?_ ?_;kernel_rfl;kernel_rfl))|simp -implicitDefEqProofs(disch:=first|assumption|omega)[*])
  all_goals first|(exfalso;omega)|skip
  refine Zs (β:=List AObj) (γ:=List AObj) true 1 (fun i J'=>J.length≤J'.length) (fun i _=>[(13,.int .i64 i),(164,.any),(165,.any),(166,.any),(167,.any),(168,.any),(171,.any),(172,.any),(173,.any),(174,.any),(175,.any),(14,.any),(15,.any),(176,.any),(177,.any),(178,.any),(179,.any),(180,.any),(183,.any),(184,.any),(185,.any),(186,.any),(187,.any),(188,.any),(189,.any),(190,.any),(191,.any),(192,.any),(193,.any),(194,.any),(181,.any),(182,.any),(169,.any),(170,.any)]) (fun _ J'=>s++(.cells [row fs,.int .i64 mu,row co,row se,row ch,row cho,.int .i64 th] :: .cells [.nils,.int .i64 0,.nils,.nils,.nils,.nils,.int .i64 0] :: .cells [.imm 2 1 [.int .i64 0,.nils] .full,.int .i64 mu',row co',row se',row ch',xo,.int .i64 (1+th')] :: J')) (fun _ _=>v4)
   (fun J'=>J.length≤J'.length) (fun _=>[(164,.any),(165,.any),(166,.any),(167,.any),(168,.any),(171,.any),(172,.any),(173,.any),(174,.any),(175,.any),(14,.any),(15,.any),(176,.any),(177,.any),(178,.any),(179,.any),(180,.any),(183,.any),(184,.any),(185,.any),(186,.any),(187,.any),(188,.any),(189,.any),(190,.any),(191,.any),(192,.any),(193,.any),(194,.any),(181,.any),(182,.any),(169,.any),(170,.any),(13,.any)]) (fun J'=>s++(.cells [row fs,.int .i64 mu,row co,row se,row ch,row cho,.int .i64 th] :: .cells [.nils,.int .i64 0,.nils,.nils,.nils,.nils,.int .i64 0] :: .cells [.imm 2 1 [.int .i64 0,.nils] .full,.int .i64 mu',row co',row se',row ch',xo,.int .i64 (1+th')] :: J')) (fun _=>v4) ?_ ?_ ?_
  ·exact⟨J,Nat.le_refl _,fz0,rfl,rfl⟩
  ·rintro i J' hi hJ
   by_cases hil:i<1
   ·have hi0:i=0:=by omega
    subst hi0
    repeat' (first|(with_reducible first|refine uk ?_|refine wk ?_ ?_<;>intro _|(refine dw P31 mixed ?_ ?_ ?_;kernel_rfl;kernel_rfl))|simp -implicitDefEqProofs(disch:=first|assumption|omega)[*])
    all_goals first|(exfalso;omega)|skip
    refine yW (β:=Unit) true 0 (fun _ _=>True) (fun j _=>[(15,.int .i64 j),(176,.any),(177,.any),(178,.any),(179,.any),(180,.any),(183,.any),(184,.any),(185,.any),(186,.any),(187,.any),(188,.any),(189,.any),(190,.any),(191,.any),(192,.any),(193,.any),(194,.any),(181,.any),(182,.any)]) (fun _ _=>s++(.cells [row fs,.int .i64 mu,row co,row se,row ch,row cho,.int .i64 th] :: .cells [.nils,.int .i64 0,.nils,.nils,.nils,.nils,.int .i64 0] :: .cells [.imm 2 1 [.int .i64 0,.nils] .full,.int .i64 mu',row co',row se',row ch',xo,.int .i64 (1+th')] :: (J'++[.cells [.int .i64 0,.nils]]))) (fun _ _=>v4) ?_ ?_
    ·exact⟨(),trivial,fz0,by simp,rfl⟩
    rintro j _ hj _
    have hj0:j=0:=by omega
    subst hj0
    repeat' (first|(with_reducible first|refine uk ?_|refine wk ?_ ?_<;>intro _|(refine dw P31 mixed ?_ ?_ ?_;kernel_rfl;kernel_rfl))|simp -implicitDefEqProofs(disch:=first|assumption|omega)[*])
    all_goals first|(exfalso;omega)|exact⟨by omega,J'++[.cells [.int .i64 0,.nils]],by simp;omega,fz,rfl,rfl⟩
   ·have hi0:i=1:=by omega
    subst hi0
    repeat' (first|(with_reducible first|refine uk ?_|refine wk ?_ ?_<;>intro _|(refine dw P31 mixed ?_ ?_ ?_;kernel_rfl;kernel_rfl))|simp -implicitDefEqProofs(disch:=first|assumption|omega)[*])
    all_goals first|(exfalso;omega)|exact⟨J',hJ,fz,rfl,rfl⟩
  rintro J' hJ
  repeat' (first|(with_reducible first|refine uk ?_|refine wk ?_ ?_<;>intro _|(refine dw P31 mixed ?_ ?_ ?_;kernel_rfl;kernel_rfl))|simp -implicitDefEqProofs(disch:=first|assumption|omega)[*])
  refine .agg _ _ ?_
  simp only[Prog.lv]
  refine .cons _ _ _ _ (.weak _ _ _ (.keep _ (by simp)) ?_) (.cons _ _ _ _ (.keep _ rfl) (.cons _ _ _ _ (.keep _ (vH _)) (.cons _ _ _ _ (.keep _ (vH _)) (.cons _ _ _ _ (.keep _ (vH _)) (.cons _ _ _ _ (.weak _ _ _ (.keep _ hxou) hxow) (.cons _ _ _ _ (.keep _ rfl) .nil))))))
  exact Weak.row (α:=Fn_) (l:=[⟨0,[]⟩]) (by rw[zy];simp) rfl
 have hL:g0.funcs=(fs.take 4).map Qe:=by rw[← g7];unfold Qk;rw[if_neg h0]
 generalize hLL:(fs.take 4).map Qe=L at *
 have hI64:∀ f∈L,∀ i∈f.code,I64 i.op∧I64 i.a:=by
  intro f hf i hi
  rw[← hLL] at hf
  obtain⟨f',hf',rfl⟩:=List.mem_map.1 hf
  exact(hfs f' (List.mem_of_mem_take hf')).2.2 i (List.mem_of_mem_take hi)
 have hbd:∀ f∈L,0≤f.locals∧f.code.length≤24:=by
  intro f hf
  rw[← hLL] at hf
  obtain⟨f',hf',rfl⟩:=List.mem_map.1 hf
  exact⟨(yl (by omega)).1,by simp[Qe];omega⟩
 clear hfs
 have hLn:L.length≠0:=by rw[← hLL,List.length_map,List.length_take];omega
 have hL4:L.length≤4:=by rw[← hLL,List.length_map,List.length_take];omega
 rcases hf2 with h | ⟨_,hfne,rfl,hfS,hfl⟩
 ·exact absurd h.1 hLn
 rw[wD] at hfS
 have hdF:=hf5 hLn
 have hf4':∀ id∈ids,s.length+3≤id∧id<s.length+(J.length+3)∧id≠s.length+(dF+3):=fun id h=>⟨(hf4 id h).1,(hf4 id h).2.1,(hf4 id h).2.2 hLn⟩
 clear hf4 hf5 g7 hLL h1
 repeat' (first|(with_reducible first|refine uk ?_|refine wk ?_ ?_<;>intro _|(refine dw P31 mixed ?_ ?_ ?_;kernel_rfl;kernel_rfl))|simp -implicitDefEqProofs(disch:=first|assumption|omega)[*])
 all_goals first|(exfalso;omega)|skip
 refine Zs (β:=List AObj) (γ:=List AObj) true L.length
  (fun i J'=>xu (s++(.cells [row fs,.int .i64 mu,row co,row se,row ch,row cho,.int .i64 th] :: .cells [.nils,.int .i64 0,.nils,.nils,.nils,.nils,.int .i64 0] :: .cells [.ref 2 (s.length+(dF+3)) 0 L.length false,.int .i64 mu',row co',row se',row ch',xo,.int .i64 (1+th')] :: J')) (we (fun f=>⟨f.locals,f.code.map (xn g0 f)⟩) L i) ids fcs∧J'[dF]? = some (.cells fcs)∧J.length≤J'.length)
  (fun i _=>[(13,.int .i64 i),(164,.any),(165,.any),(166,.any),(167,.any),(168,.any),(171,.any),(172,.any),(173,.any),(174,.any),(175,.any),(14,.any),(15,.any),(176,.any),(177,.any),(178,.any),(179,.any),(180,.any),(183,.any),(184,.any),(185,.any),(186,.any),(187,.any),(188,.any),(189,.any),(190,.any),(191,.any),(192,.any),(193,.any),(194,.any),(181,.any),(182,.any),(169,.any),(170,.any)]) (fun _ J'=>s++(.cells [row fs,.int .i64 mu,row co,row se,row ch,row cho,.int .i64 th] :: .cells [.nils,.int .i64 0,.nils,.nils,.nils,.nils,.int .i64 0] :: .cells [.ref 2 (s.length+(dF+3)) 0 L.length false,.int .i64 mu',row co',row se',row ch',xo,.int .i64 (1+th')] :: J')) (fun _ _=>v4)
  (fun J'=>xu (s++(.cells [row fs,.int .i64 mu,row co,row se,row ch,row cho,.int .i64 th] :: .cells [.nils,.int .i64 0,.nils,.nils,.nils,.nils,.int .i64 0] :: .cells [.ref 2 (s.length+(dF+3)) 0 L.length false,.int .i64 mu',row co',row se',row ch',xo,.int .i64 (1+th')] :: J')) (L.map fun f=>⟨f.locals,f.code.map (xn g0 f)⟩) ids fcs∧J'[dF]? = some (.cells fcs)∧J.length≤J'.length)
  (fun _=>[(164,.any),(165,.any),(166,.any),(167,.any),(168,.any),(171,.any),(172,.any),(173,.any),(174,.any),(175,.any),(14,.any),(15,.any),(176,.any),(177,.any),(178,.any),(179,.any),(180,.any),(183,.any),(184,.any),(185,.any),(186,.any),(187,.any),(188,.any),(189,.any),(190,.any),(191,.any),(192,.any),(193,.any),(194,.any),(181,.any),(182,.any),(169,.any),(170,.any),(13,.any)]) (fun J'=>s++(.cells [row fs,.int .i64 mu,row co,row se,row ch,row cho,.int .i64 th] :: .cells [.nils,.int .i64 0,.nils,.nils,.nils,.nils,.int .i64 0] :: .cells [.ref 2 (s.length+(dF+3)) 0 L.length false,.int .i64 mu',row co',row se',row ch',xo,.int .i64 (1+th')] :: J')) (fun _=>v4) ?_ ?_ ?_
 ·exact⟨J,⟨by rw[zbK];exact hf1,hfS,Nat.le_refl _⟩,fz0,rfl,rfl⟩
 ·rintro i J' hi ⟨hI,hJF,hJl⟩
  by_cases hil:i<L.length
  ·obtain⟨x,id,q1,q2,q3⟩:=xu.get i hI (by rw[vn];exact hil)
   rw[uQ _ hil] at q2 q3
   have hidm:=hf4' id (List.mem_of_getElem? q1)
   obtain⟨c,rfl⟩:∃ c,id=s.length+(c+3):=⟨id-(s.length+3),by omega⟩
   have hle:i*2+2≤fcs.length:=by omega
   have hle2:i*2+2≤L.length*2:=by omega
   have hxl:aLen Tryz.prog 132 x=some (.int .i64 (nth L i).code.length):=by
    rcases q3 with ⟨e1,_,rfl⟩ | ⟨_,_,rfl,_,_⟩
    ·simp[e1]
    ·simp
   repeat' (first|(with_reducible first|refine uk ?_|refine wk ?_ ?_<;>intro _|(refine dw P31 mixed ?_ ?_ ?_;kernel_rfl;kernel_rfl))|simp -implicitDefEqProofs(disch:=first|assumption|omega)[*])
   all_goals first|(exfalso;omega)|skip
   refine yW (β:=List AObj) true (nth L i).code.length
    (fun j J2=>J2.length=J'.length∧(∀ e,e≠c→J2[e]? = J'[e]?)∧((nth L i).code.length≠0→J2[c]? = some (.cells (zd (we (xn g0 (nth L i)) (nth L i).code j)))))
    (fun j _=>[(15,.int .i64 j),(176,.any),(177,.any),(178,.any),(179,.any),(180,.any),(183,.any),(184,.any),(185,.any),(186,.any),(187,.any),(188,.any),(189,.any),(190,.any),(191,.any),(192,.any),(193,.any),(194,.any),(181,.any),(182,.any)]) (fun _ J2=>s++(.cells [row fs,.int .i64 mu,row co,row se,row ch,row cho,.int .i64 th] :: .cells [.nils,.int .i64 0,.nils,.nils,.nils,.nils,.int .i64 0] :: .cells [.ref 2 (s.length+(dF+3)) 0 L.length false,.int .i64 mu',row co',row se',row ch',xo,.int .i64 (1+th')] :: (J2++[.cells [.int .i64 (nth L i).locals,x]]))) (fun _ _=>v4) ?_ ?_
   ·refine⟨J',⟨rfl,fun _ _=>rfl,fun hne=>?_⟩,fz0,by simp,rfl⟩
    rw[zbK]
    rcases q3 with ⟨e1,_⟩ | ⟨_,_,_,e4,_⟩
    ·exact absurd e1 hne
    ·rw[wD] at e4;exact e4
   ·rintro j J2 hj ⟨hj1,hj2,hj3⟩
    by_cases hjl:j<(nth L i).code.length
    ·rcases q3 with ⟨e1,_⟩ | ⟨hcne,_,rfl,_,_⟩
     ·exact absurd e1 (by omega)
     obtain⟨gi,hgi⟩:∃ gi,xn g0 (nth L i)=gi:=⟨_,rfl⟩
     rw[hgi] at hj3
     have hcell:=hj3 hcne
     have hcl:=(List.getElem?_eq_some_iff.1 hcell).1
     have hlen:(zd (we gi (nth L i).code j)).length=(nth L i).code.length*2:=by rw[zY,vn];rfl
     have hle3:j*2+2≤(nth L i).code.length*2:=by omega
     have h2:=zjw (l:=we gi (nth L i).code j) (j:=j) (by rw[vn];exact hjl)
     rw[uQ gi hjl] at h2
     obtain⟨hI1,hI2⟩:I64 (nth (nth L i).code j).op∧I64 (nth (nth L i).code j).a:=by
      have hm:nth L i∈L:=by rw[zK hil];exact List.getElem_mem hil
      exact hI64 _ hm _ (by rw[zK hjl];exact List.getElem_mem hjl)
     obtain⟨hlo0,hcode⟩:=hbd _ (show nth L i∈L by rw[zK hil];exact List.getElem_mem hil)
     have hio:=zeU (xf:=.ref 2 (s.length+(dF+3)) 0 L.length false) (xc:=row co') (xs:=row se') (xh:=row ch') (xo:=xo) (xl:=.ref 2 (s.length+(c+3)) 0 (nth L i).code.length false)
      (fs:=L.length) (co:=co'.length) (se:=se'.length) (ch:=ch'.length) (cho:=g0.choices.length) (cl:=(nth L i).code.length) (by simp) (by simp) (by simp) (by simp) hxol (by simp) (by omega) mu' (1+th') (nth L i).locals _ _ hI1 hI2 a1.1 hlo0
     have hmo:∀ op,vZ L.length mu' co'.length se'.length ch'.length g0.choices.length (nth L i).locals (nth L i).code.length op=most g0 (nth L i) op:=fun op=>by unfold most;rw[hL,g1,g2,g3,g4]
     simp only[hmo] at hio
     have hlv:=zdi g0 (nth L i) (nth (nth L i).code j)
     simp only at hlv
     rw[← hlv,hgi] at hio
     unfold Ins.lv at hio
     clear hlv hmo hI hj3
     have hsa:=zaC (we gi (nth L i).code j) j (gi (nth (nth L i).code j)).op (gi (nth (nth L i).code j)).a (by rw[vn];exact hjl)
     rw[show (⟨(gi (nth (nth L i).code j)).op,(gi (nth (nth L i).code j)).a⟩:Ins)=gi (nth (nth L i).code j) from rfl,Yk gi hjl] at hsa
     have hg:(J2++[AObj.cells [.int .i64 (nth L i).locals,.ref 2 (s.length+(c+3)) 0 (nth L i).code.length false]])[c]? = some (.cells (zd (we gi (nth L i).code j))):=by rw[List.getElem?_append_left hcl];exact hcell
     have hg0:(J2++[AObj.cells [.int .i64 (nth L i).locals,.ref 2 (s.length+(c+3)) 0 (nth L i).code.length false]])[J'.length]? = some (AObj.cells [.int .i64 (nth L i).locals,.ref 2 (s.length+(c+3)) 0 (nth L i).code.length false]):=by rw[← hj1];simp
     have hst:∀ o,(J2++[AObj.cells [.int .i64 (nth L i).locals,.ref 2 (s.length+(c+3)) 0 (nth L i).code.length false]]).set c o=J2.set c o++[AObj.cells [.int .i64 (nth L i).locals,.ref 2 (s.length+(c+3)) 0 (nth L i).code.length false]]:=fun o=>List.set_append_left _ _ hcl
     repeat' (first|(with_reducible first|refine uk ?_|refine wk ?_ ?_<;>intro _|(refine dw P31 mixed ?_ ?_ ?_;kernel_rfl;kernel_rfl)|refine zc hio ?_)|simp -implicitDefEqProofs(disch:=first|assumption|omega)[*])
     all_goals first|(exfalso;omega)|skip
     exact⟨hjl,J2.set c (.cells (zd (we gi (nth L i).code (j+1)))),⟨by simp[hj1],fun e he=>by rw[List.getElem?_set_ne (fun h=>he h.symm)];exact hj2 e he,fun _=>by rw[hgi];simp[hcl]⟩,fz,rfl,rfl⟩
    ·have:j=(nth L i).code.length:=by omega
     subst this
     rw[ZT] at hj3
     have hput:=xu.put (S':=s++(.cells [row fs,.int .i64 mu,row co,row se,row ch,row cho,.int .i64 th] :: .cells [.nils,.int .i64 0,.nils,.nils,.nils,.nils,.int .i64 0] :: .cells [.ref 2 (s.length+(dF+3)) 0 L.length false,.int .i64 mu',row co',row se',row ch',xo,.int .i64 (1+th')] :: (J2++[.cells [.int .i64 (nth L i).locals,x]]))) (c:=(nth L i).code.map (xn g0 (nth L i))) i _ hI q1 hf3
      (fun e he hne=>by
       have:=hf4' e he
       refine zbh this.1 ?_
       rw[List.getElem?_append_left (by omega)]
       exact hj2 _ (by omega)) (by rw[uQ _ hil];simp) (fun hne=>by
       have hne':(nth L i).code.length≠0:=by intro e;exact hne (by rw[List.length_eq_zero_iff.1 e];rfl)
       rw[wD,List.getElem?_append_left (List.getElem?_eq_some_iff.1 (hj3 hne')).1]
       exact hj3 hne')
     rw[uQ _ hil] at hput
     have hts:=Yk (fun f:Fn_=>(⟨f.locals,f.code.map (xn g0 f)⟩:Fn_)) hil
     rw[hts] at hput
     have hg0:(J2++[AObj.cells [.int .i64 (nth L i).locals,x]])[J'.length]? = some (AObj.cells [.int .i64 (nth L i).locals,x]):=by rw[← hj1];simp
     have hJ2F:(J2++[AObj.cells [.int .i64 (nth L i).locals,x]])[dF]? = some (.cells fcs):=by
      rw[List.getElem?_append_left (by omega),hj2 _ (by omega)];exact hJF
     repeat' (first|(with_reducible first|refine uk ?_|refine wk ?_ ?_<;>intro _|(refine dw P31 mixed ?_ ?_ ?_;kernel_rfl;kernel_rfl))|simp -implicitDefEqProofs(disch:=first|assumption|omega)[*])
     all_goals first|(exfalso;omega)|exact⟨hil,J2++[AObj.cells [.int .i64 (nth L i).locals,x]],⟨hput,hJ2F,by simp;omega⟩,fz,rfl,rfl⟩
  ·have:i=L.length:=by omega
   subst this
   rw[ZT] at hI
   repeat' (first|(with_reducible first|refine uk ?_|refine wk ?_ ?_<;>intro _|(refine dw P31 mixed ?_ ?_ ?_;kernel_rfl;kernel_rfl))|simp -implicitDefEqProofs(disch:=first|assumption|omega)[*])
   all_goals first|(exfalso;omega)|exact⟨J',⟨hI,hJF,hJl⟩,fz,rfl,rfl⟩
 rintro J' ⟨hI,hJF,hJl⟩
 repeat' (first|(with_reducible first|refine uk ?_|refine wk ?_ ?_<;>intro _|(refine dw P31 mixed ?_ ?_ ?_;kernel_rfl;kernel_rfl))|simp -implicitDefEqProofs(disch:=first|assumption|omega)[*])
 refine .agg _ _ ?_
 simp only[Prog.lv]
 refine .cons _ _ _ _ ?_ (.cons _ _ _ _ (.keep _ rfl) (.cons _ _ _ _ (.keep _ (vH _)) (.cons _ _ _ _ (.keep _ (vH _)) (.cons _ _ _ _ (.keep _ (vH _)) (.cons _ _ _ _ (.weak _ _ _ (.keep _ hxou) hxow) (.cons _ _ _ _ (.keep _ rfl) .nil))))))
 have e:row (L.map fun f=>(⟨f.locals,f.code.map (xn g0 f)⟩:Fn_)) = .imm 2 L.length (zd (L.map fun f=>(⟨f.locals,f.code.map (xn g0 f)⟩:Fn_))) .no:=by simp[row]
 rw[e]
 refine .ref 2 _ 0 L.length false fcs _ (by omega) (by rw[wD];exact hJF) hfne (by omega) ?_
 rw[List.drop_zero,List.take_of_length_le (by omega)]
 exact xu.deep (hI.keep fun id hid=>zbh (hf4' id hid).1 rfl) (fun id hid=>by have:=hf4' id hid;omega)
end Go.Hb
end
