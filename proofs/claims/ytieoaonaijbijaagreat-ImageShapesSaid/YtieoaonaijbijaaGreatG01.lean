/-
  A layer for reasoning about the program's calls, and contracts of its functions. CONDITIONS: none; each theorem bears its own.
-/
import Derived.Test.YtieoaonaijbijaaGreatG00
import Derived.Laws.StructEq
set_option linter.unusedVariables false
set_option linter.unusedSimpArgs false
section
namespace Go.Hb
open Go Go.RowKit
def ua (P:Program)(t:TypeId):Bool:=match P.underlying t with | some (.int _) | none=>false | _=>true
def grow (m:Nat)(r:Right)(τ : List Nat):Option (Right × List Nat):=if m=0 then some (r,τ) else match r with
 | .full=>some (.tip τ.length 0,τ++[0])
 | .tip g e=>if τ[g]? = some e then some (.tip g (e+1),τ.set g (e+1)) else none
 | .no=>none
def uD (size:Nat)(x:LV):Option (List LV × Nat × Right):=match x with
 | .nils=>some ([],0,.full)
 | .imm sz len cs r=>if sz=size then some (cs,len,r) else none
 | _=>none
def zR (P:Program)(t t2:TypeId)(x y:LV)(s:List AObj)(τ : List Nat):Option (LV × List Nat):=match P.underlying t with
 | some (.slice e)=>match szT P e,zD P e,zT P e with
  | some size,some by_,some z=>if ua P t2=true∧z.cellsOk=true∧z.cells.length=size then
   match uD size x,zQ size y s with
   | some (cs,n,r),some (ds,m)=>if n+m≤maxLen∧(n+m)*by_≤140737488355328 then (grow m r τ).map fun (r',τ')=>(.imm size (n+m) (cs++ds) r',τ') else none
   | _,_=>none
   else none
  | _,_,_=>none
 | _=>none
theorem XR {C:Ctx}{size:Nat}{x:LV}{v:Value}{cs:List LV}{n:Nat}{r:Right}(hx:RelV C x v)(h:uD size x=some (cs,n,r)):RelV C (.imm size n cs r) v:=by
 unfold uD at h
 split at h
 ·simp at h;obtain⟨rfl,rfl,rfl⟩:=h
  simp only[RelV] at hx ⊢;subst hx
  refine⟨none,0,rfl,Nat.le_refl _,Nat.zero_le _,by simp,fun _=>by simp,(fun _ h=>by cases h),(fun _ _ h=>by cases h),by simp[RelR]⟩
 ·split at h
  ·rename_i e;simp at h;obtain⟨rfl,rfl,rfl⟩:=h;subst e;exact hx
  ·cases h
 ·cases h
theorem Ky (z:Array Value)(n:Nat):(Builtin.zeroCells z n).size=n*z.size:=by simp[Builtin.zeroCells]
theorem Xy {P:Program}{C:Ctx}{s:List AObj}{τ':List Nat}{t t2 ty:TypeId}{x y r:LV}{v u:Value}(hok:Ok C s)(hx:RelV C x v)(hy:RelV C y u)(h:zR P t t2 x y s C.τ = some (r,τ')) :
  Runs P C (Builtin.append_ #[t,t2] ty #[v,u]) r s τ':=by
 unfold zR at h
 split at h
 ·rename_i e hu
  split at h
  ·rename_i size by_ z hsz hby hz
   split at h
   ·rename_i hc
    obtain⟨hc1,hc2,hc3⟩:=hc
    split at h
    ·rename_i cs n r0 ds m hh hcs
     split at h
     ·rename_i hbd
      obtain⟨hbd1,hbd2⟩:=hbd
      simp only[Option.map_eq_some_iff] at h
      obtain⟨⟨r',τ1⟩,hg,h⟩:=h
      simp only[Prod.mk.injEq] at h
      obtain⟨rfl,rfl⟩:=h
      have hx':=XR hx hh
      simp only[RelV] at hx'
      obtain⟨A,cap,rfl,k1,k2,k3,k4,k5,k6,k7⟩:=hx'
      obtain⟨us,q1,q2,q3,q4⟩:=xm (P:=P) hok hy hcs
      unfold szT at hsz;unfold zD at hby;unfold zT at hz
      simp only[Option.map_eq_some_iff,Option.bind_eq_some_iff] at hsz hby hz
      obtain⟨i,hi,hsz⟩:=hsz
      obtain⟨i2,hi2,hby⟩:=hby
      rw[hi] at hi2;cases hi2
      obtain⟨zv,⟨i3,hi3,hz1⟩,hz2⟩:=hz
      rw[hi] at hi3;cases hi3
      have hzrel:=ur C zv z hz2
      obtain⟨z1,z2⟩:=yu hc2 hzrel
      have hzl:zv.cells.size=size:=by have:=z1.length;simp at this;omega
      unfold ua at hc1
      have hlen1:=q1.length
      subst hsz
      subst hby
      cases hu2:P.underlying t2 with
      | none=>simp[hu2] at hc1
      | some d2=>
      have hd2:∀ k,d2≠.int k:=by intro k e;subst e;simp[hu2] at hc1
      by_cases hm:m=0
      ·-- nothing is appended
       subst hm
       have hus:us=[]:=List.eq_nil_of_length_eq_zero (by omega)
       subst hus
       have hds:ds=[]:=by cases ds with | nil=>rfl | cons a l=>simp[zi] at q1
       subst hds
       simp only[grow,if_true,Option.some.injEq,Prod.mk.injEq] at hg
       obtain⟨rfl,rfl⟩:=hg
       refine Runs.quiet hok (u:=.slice A (n+0) cap) ?_ ?_
       ·simp only[RelV,List.append_nil,Nat.add_zero]
        exact⟨A,cap,rfl,k1,k2,k3,k4,k5,k6,k7⟩
       ·exact xJ t t2 ty e i hu d2 hu2 hd2 hi A n cap #[] 0 u q4 (by omega) C.w (fun a _=>by simp[storeCells]) (fun _=>rfl)
      ·have hgr:∃ g,uq C.τ g τ1∧r' = .tip g (τ1.getD g 0)∧τ1[g]? = some (τ1.getD g 0)∧(r0 = .full∨∃ e,r0 = .tip g e∧C.τ[g]? = some e∧τ1=C.τ.set g (e+1)):=by
        unfold grow at hg
        rw[if_neg hm] at hg
        cases r0 with
        | no=>cases hg
        | full=>
         simp only[Option.some.injEq,Prod.mk.injEq] at hg
         obtain⟨rfl,rfl⟩:=hg
         exact⟨C.τ.length,.inl ⟨rfl,rfl⟩,by simp,by simp,.inl rfl⟩
        | tip g e=>
         simp only at hg
         split at hg
         ·rename_i he
          have hlt:=(List.getElem?_eq_some_iff.1 he).1
          simp only[Option.some.injEq,Prod.mk.injEq] at hg
          obtain⟨rfl,rfl⟩:=hg
          exact⟨g,.inr ⟨e,he,rfl⟩,by simp[hlt],by simp[hlt],.inr ⟨e,rfl,he,rfl⟩⟩
         ·cases hg
       obtain⟨g,hstep,rfl,hg1,hg2⟩:=hgr
       by_cases hroom:n+m≤cap
       ·-- in its place
        rcases hg2 with rfl | ⟨e0,rfl,he0,hτ⟩
        ·simp only[RelR] at k7;omega
        ·obtain⟨e1,p1,p2,p3⟩:=k7
         rw[he0] at p1;cases p1
         obtain⟨b,o,rfl,hθ⟩:=(p3 rfl).resolve_left (by omega)
         have hglt:=(List.getElem?_eq_some_iff.1 he0).1
         obtain⟨t1,t2',old,T,t3,t4⟩:=hok.tip g hglt
         rw[hθ] at t3 t4 t2'
         simp only at t3 t4 t2'
         have hsp:(m:Nat)*i.size≤(cap-n)*i.size:=Nat.mul_le_mul_right _ (by omega)
         have hfit:(o+n*i.size)+us.length≤old.size:=by omega
         let vs:Array Value:=(old.toList.take (o+cs.length)++us++old.toList.drop (o+cs.length+us.length)).toArray
         have hst:=run_storeCells_at (P:=P) b (o+n*i.size) T us 0 old C.w t3 (by omega) q2
         have hvs:(old.toList.take (o+n*i.size+0)++us++old.toList.drop (o+n*i.size+0+us.length)).toArray=vs:=by
          simp only[vs,k3,Nat.add_zero]
         rw[hvs] at hst
         have holdθ : C.w.heap[(C.θ g).b]? = some (.cells old T (0,0)):=by rw[hθ];exact t3
         have hsame:∀ o',o'<(C.θ g).stop→vs[o']? = old[o']?:=by
          intro o' ho'
          rw[hθ] at ho';simp only at ho'
          simp only[vs,List.getElem?_toArray]
          rw[List.append_assoc,List.getElem?_append_left (by simp;omega),List.getElem?_take_of_lt ho']
          simp
         have hvsz:vs.size=old.size:=by simp[vs];omega
         have hmul:(cap-n)*i.size=m*i.size+(cap-(n+m))*i.size:=by rw[← Nat.add_mul];congr 1;omega
         have hle:=hok.le_tipGrow he0 holdθ hsame (L:=o+cs.length+us.length) (by rw[hθ];simp) (cap-(n+m)) (Nat.le_of_eq hvsz.symm)
         refine⟨C.tipGrow vs g e0 (o+cs.length+us.length) (cap-(n+m)),.slice (some ⟨b,o,none⟩) (n+m) cap,hle,
          hok.tipGrow he0 holdθ hsame (by rw[hθ];simp) (cap-(n+m)) (Nat.le_of_eq hvsz.symm) (by rw[hθ];simp only;omega),hτ.symm,?_,?_⟩
         ·simp only[RelV]
          refine⟨some ⟨b,o,none⟩,cap,rfl,hroom,k2,by simp[k3,Nat.add_mul];omega,(by intro h;cases h),fun a ha _=>by cases ha;rfl,fun b' o' hb'=>?_,?_⟩
          ·cases hb'
           refine zZ.app (zZ.mono hle _ _ _ (k6 b o rfl)) ?_
           have hnew:(C.tipGrow vs g e0 (o+cs.length+us.length) (cap-(n+m))).w.heap[b]? = some (.cells vs T (0,0)):=by
            have:=setRow_heap C.w b old vs T (0,0) t3
            simpa[Ctx.tipGrow,hθ] using this
           refine zZ.of_row hnew ds us _ (zi.mono hle _ _ q1) q2 (fun j u' hj=>?_) ?_
           ·have hj':=(List.getElem?_eq_some_iff.1 hj).1
            simp only[vs,List.getElem?_toArray]
            rw[List.append_assoc,List.getElem?_append_right (by simp;omega)]
            have e9:o+cs.length+j-(old.toList.take (o+cs.length)).length=j:=by simp;omega
            rw[e9,List.getElem?_append_left hj'];exact hj
           ·simp[Ctx.tipGrow,hθ];omega
          ·refine⟨_,?_,Nat.le_refl _,fun _=>.inr ⟨b,o,rfl,?_⟩⟩
           ·simp only[Ctx.tipGrow];rw[← hτ];exact hg1
           ·simp only[Ctx.tipGrow,if_true,hθ,Tip.mk.injEq,and_true,true_and]
            simp;omega
         ·have:=xJ (P:=P) (w:=C.w) t t2 ty e i hu d2 hu2 hd2 hi (some ⟨b,o,none⟩) n cap us.toArray m u q4 hroom (C.w.setRow b vs)
           (fun a ha=>by cases ha;rw[ym];exact hst) (fun h=>by cases h)
          simpa[Ctx.tipGrow,hθ] using this
       ·-- in a new block
        have hold:∃ os:List Value,zi C cs os∧(∀ u∈os,u.oneCell'=true)∧∀ w':World,w'.heap=C.w.heap→(Builtin.firstCells i.size n (.slice A n cap)).run P w' = .ok os.toArray w':=by
         have hhead:RelV C (.imm i.size n cs .no) (.slice A n cap):=by
          simp only[RelV];exact⟨A,cap,rfl,k1,k2,k3,k4,k5,k6,trivial⟩
         obtain⟨os,o1,o2,o3,o4⟩:=xm (P:=P) (size:=i.size) (cs:=cs) (n:=n) hok hhead (by simp[zQ])
         exact⟨os,o1,o2,fun w' hw=>(o4 w' hw).2⟩
        obtain⟨os,o1,o2,o3⟩:=hold
        have ol:=o1.length
        have hrun:=wn (P:=P) (w:=C.w) t t2 ty e i zv hu d2 hu2 hd2 hi hz1 A n cap os.toArray us.toArray m u o3 q4 (by omega) hbd1 hbd2
        have hge:=grownCap_ge C.w (n+m) cap e
        have hle2:=grownCap_le_maxLen C.w (n+m) cap e hbd1
        generalize grownCap C.w (n+m) cap e=gc at *
        let vs:Array Value:=os.toArray++us.toArray++Builtin.zeroCells zv.cells (gc-(n+m))
        have hvsz:vs.size=(n+m)*i.size+(gc-(n+m))*i.size:=by
         simp[vs,Ky,hzl]
         rw[Nat.add_mul];omega
        have hle:=hok.le_tipNew vs e ((n+m)*i.size) (gc-(n+m)) i.size g hstep
        refine⟨C.tipNew vs e ((n+m)*i.size) (gc-(n+m)) i.size g τ1,_,hle,hok.tipNew vs e _ _ _ g hstep (by omega),rfl,?_,hrun⟩
        simp only[RelV]
        refine⟨some ⟨C.w.heap.size,0,none⟩,gc,rfl,hge,hle2,by simp[k3,Nat.add_mul];omega,(by intro h;cases h),fun a ha _=>by cases ha;rfl,fun b' o' hb'=>?_,?_⟩
        ·cases hb'
         have hnew:(C.tipNew vs e ((n+m)*i.size) (gc-(n+m)) i.size g τ1).w.heap[C.w.heap.size]? = some (.cells vs e (0,0)):=yH C.w.drew _
         refine zZ.of_row hnew (cs++ds) (os++us) 0 ((zi.mono hle _ _ o1).app (zi.mono hle _ _ q1)) (fun u' hu'=>?_) (fun j u' hj=>?_) ?_
         ·rcases List.mem_append.1 hu' with h' | h'
          ·exact o2 u' h'
          ·exact q2 u' h'
         ·have hj':=(List.getElem?_eq_some_iff.1 hj).1
          have e1:vs.toList=(os++us)++(Builtin.zeroCells zv.cells (gc-(n+m))).toList:=by simp[vs]
          have e2:vs.toList[j]? = some u':=by rw[e1,List.getElem?_append_left hj'];exact hj
          simpa using e2
         ·simp only[Ctx.tipNew,if_true,List.length_append,Nat.zero_add,Nat.add_mul];omega
        ·refine⟨_,hg1,Nat.le_refl _,fun _=>.inr ⟨_,_,rfl,?_⟩⟩
         simp only[Ctx.tipNew,if_true,Tip.mk.injEq,and_true,true_and]
         simp[Nat.add_mul];omega
     ·cases h
    ·cases h
   ·cases h
  ·cases h
 ·cases h
end Go.Hb
end
section
namespace Go.Hb
open Go Go.RowKit
def Ju (place:Nat→Option (Nat × Nat))(cells:List LV):List (Nat × LV)→Option (List LV)
 | []=>some cells
 | (i,x) :: rest=>match place i with
  | none=>none
  | some (off,size)=>if x.cellsOk=true∧x.cells.length=size∧off+size≤cells.length then Ju place (wq cells off x.cells) rest else none
theorem XD {C:Ctx}(off:Nat):∀ (xs cs:List LV) (l:List Value) (k:Nat) (vs:Array Value),zi C cs vs.toList→zi C xs l→(∀ u∈vs,u.oneCell'=true)→(∀ u∈l,u.oneCell'=true)→
  zi C (wq cs (off+k) xs) ((l.zipIdx k).foldl (fun cs (c,j)=>cs.setIfInBounds (off+j) c) vs).toList∧(∀ u∈(l.zipIdx k).foldl (fun cs (c,j)=>cs.setIfInBounds (off+j) c) vs,u.oneCell'=true)∧
  ((l.zipIdx k).foldl (fun cs (c,j)=>cs.setIfInBounds (off+j) c) vs).size=vs.size:=by
 intro xs
 induction xs with
 | nil=>intro cs l k vs h1 h2 h3 _;simp[zi] at h2;subst h2;exact⟨h1,h3,rfl⟩
 | cons x xs ih=>
  intro cs l k vs h1 h2 h3 h4
  obtain⟨v,r,rfl,h5,h6⟩:=h2
  have:=ih (cs.set (off+k) x) r (k+1) (vs.setIfInBounds (off+k) v) (by rw[Array.toList_setIfInBounds];exact h1.set h5) h6 (fun u hu=>by
   rcases Array.mem_or_eq_of_mem_setIfInBounds hu with h | h
   ·exact h3 u h
   ·subst h;exact h4 _ (by simp)) (fun u hu=>h4 u (by simp[hu]))
  simp only[List.zipIdx_cons,List.foldl_cons,wq]
  simpa[Nat.add_assoc] using this
theorem vR {C:Ctx}{place:Nat→Option (Nat × Nat)} : ∀ (parts:List (Nat × LV)) (pv:List (Nat × Value)) (cells out:List LV) (vs:Array Value),zi C cells vs.toList→(∀ u∈vs,u.oneCell'=true)→
  (parts.map (·.1)=pv.map (·.1))→zi C (parts.map (·.2)) (pv.map (·.2))→Ju place cells parts=some out→∃ ws:Array Value,Instr.fill place vs pv=some ws∧zi C out ws.toList∧∀ u∈ws,u.oneCell'=true:=by
 intro parts
 induction parts with
 | nil=>
  intro pv cells out vs h1 h2 h3 h4 h5
  have:pv=[]:=by cases pv with | nil=>rfl | cons=>simp at h3
  subst this
  simp[Ju] at h5;subst h5
  exact⟨vs,rfl,h1,h2⟩
 | cons p parts ih=>
  intro pv cells out vs h1 h2 h3 h4 h5
  obtain⟨i,x⟩:=p
  cases pv with
  | nil=>simp at h3
  | cons q pv=>
   obtain⟨j,v⟩:=q
   simp only[List.map_cons,List.cons.injEq] at h3
   obtain⟨rfl,h3⟩:=h3
   obtain⟨v',r',e,h6,h7⟩:=h4
   simp only[List.map_cons,List.cons.injEq] at e
   obtain⟨rfl,rfl⟩:=e
   simp only[Ju] at h5
   split at h5
   ·cases h5
   ·rename_i off size hp
    split at h5
    ·rename_i hc
     obtain⟨c1,c2,c3⟩:=hc
     obtain⟨k1,k2⟩:=yu c1 h6
     have hl:=k1.length
     have hl1:=h1.length
     simp at hl hl1
     have hs:=XD (C:=C) off x.cells cells v.cells.toList 0 vs h1 k1 h2 k2
     simp only[Nat.add_zero] at hs
     obtain⟨ws,w1,w2,w3⟩:=ih pv _ out _ hs.1 hs.2.1 h3 h7 h5
     refine⟨ws,?_,w2,w3⟩
     simp only[Instr.fill,hp]
     have g1:¬ (v.cells.size≠size):=by omega
     have g2:¬ (off+v.cells.size>vs.size):=by omega
     have e1:(v.cells.zipIdx.foldl (fun cs (x:Value × Nat)=>cs.setIfInBounds (off+x.2) x.1) vs)=((v.cells.toList.zipIdx 0).foldl (fun cs (c,j)=>cs.setIfInBounds (off+j) c) vs):=by
      rw[← Array.foldl_toList];simp[Array.toList_zipIdx]
     simp only[g1,g2,decide_false,Bool.or_self,Bool.false_eq_true,if_false]
     rw[← w1]
     congr 1
    ·cases h5
def zx (P:Program)(t:TypeId)(i:Nat):Option (Nat × Nat):=match P.underlying t with
 | some (.struct fs)=>fs[i]?.bind fun f=>(szT P f.type).map fun n=>(f.offset,n)
 | some (.array _ e)=>(szT P e).map fun n=>(i*n,n)
 | _=>none
def wa (P:Program)(t:TypeId):Bool:=match P.underlying t with
 | some (.struct fs)=>fs.toList.all fun f=>(szT P f.type).isSome
 | some (.array _ e)=>(szT P e).isSome
 | _=>false
def zbZ (P:Program)(t:TypeId)(parts:List (Nat × LV)):Option LV:=match zT P t with
 | some z=>if wa P t=true∧z.cellsOk=true then (Ju (zx P t) z.cells parts).map .agg else none
 | none=>none
theorem zbs {P:Program}(w:World):∀ (fs:List Field),(fs.all fun f=>(szT P f.type).isSome)=true→
  (fs.mapM (fun f=>do pure (f.offset,← sizeOf f.type)):Sem (List (Nat × Nat))).run P w = .ok (fs.map fun f=>(f.offset,(szT P f.type).getD 0)) w:=by
 intro fs
 induction fs with
 | nil=>intro _;rfl
 | cons f fs ih=>
  intro h
  simp only[List.all_cons,Bool.and_eq_true] at h
  obtain⟨n,hn⟩:=Option.isSome_iff_exists.1 h.1
  simp only[List.mapM_cons,Sem.run_bind,yc hn,Result.andThen_ok,Sem.run_pure,ih h.2,List.map_cons,hn,Option.getD_some]
theorem zaD {P:Program}{C:Ctx}{s:List AObj}{t:TypeId}{parts:List (Nat × LV)}{pv:Array (Nat × Value)}{y:LV}(hok:Ok C s)(h1:parts.map (·.1)=pv.toList.map (·.1))(h2:zi C (parts.map (·.2)) (pv.toList.map (·.2)))
  (h:zbZ P t parts=some y):Runs P C (Instr.build t pv) y s C.τ:=by
 unfold zbZ at h
 split at h
 ·rename_i z hz
  split at h
  ·rename_i hc
   obtain⟨hc1,hc2⟩:=hc
   simp only[Option.map_eq_some_iff] at h
   obtain⟨out,hf,rfl⟩:=h
   obtain⟨zv,hzr,hzx⟩:=wX hz C
   obtain⟨k1,k2⟩:=yu hc2 hzx
   obtain⟨ws,w1,w2,w3⟩:=vR parts pv.toList z.cells out zv.cells k1 (by simpa using k2) h1 h2 hf
   refine Runs.quiet hok (u:=.agg ws) (by simp only[RelV];exact⟨ws,rfl,w2,w3⟩) ?_
   unfold wa at hc1
   unfold Instr.build
   simp only[Sem.run_bind,hzr,Result.andThen_ok]
   cases hu:P.underlying t with
   | none=>simp[hu] at hc1
   | some d=>
    simp only[run_underlying hu,Result.andThen_ok]
    cases d<;>simp only[hu] at hc1<;>try (cases hc1;done)
    ·rename_i len e
     obtain⟨n,hn⟩:=Option.isSome_iff_exists.1 hc1
     have e1:(fun i=>some (i*n,n))=zx P t:=by funext i;simp[zx,hu,hn]
     simp only[Sem.run_bind,yc hn,Result.andThen_ok,e1,w1,Sem.run_pure]
    ·rename_i fs
     have hm:=zbs (P:=P) C.w fs.toList hc1
     have e1:(fs.toList.map fun f=>(f.offset,(szT P f.type).getD 0)).toArray=fs.map fun f=>(f.offset,(szT P f.type).getD 0):=by apply Array.ext';simp
     have hm2:(fs.mapM (fun f=>do pure (f.offset,← sizeOf f.type)):Sem (Array (Nat × Nat))).run P C.w = .ok (fs.map fun f=>(f.offset,(szT P f.type).getD 0)) C.w:=by
      rw[Array.mapM_eq_mapM_toList]
      simp only[Sem.run_map,hm,Result.andThen_ok,e1]
     have e2:(fun i=>(fs.map fun f=>(f.offset,(szT P f.type).getD 0))[i]?)=zx P t:=by
      funext i
      simp only[zx,hu,Array.getElem?_map]
      cases hfi:fs[i]? with
      | none=>rfl
      | some f=>
       have hmem:f∈fs.toList:=by simpa using Array.mem_of_getElem? hfi
       obtain⟨n,hn⟩:=Option.isSome_iff_exists.1 (List.all_eq_true.1 hc1 f hmem)
       simp[hn]
     simp only[Sem.run_bind,hm2,Result.andThen_ok,e2,w1,Sem.run_pure]
  ·cases h
 ·cases h
def xz (z:List LV)(n:Nat):List LV:=(List.replicate n z).flatten
theorem uE {C:Ctx}{z:List LV}{zv:Array Value}(h:zi C z zv.toList):∀ n,zi C (xz z n) (List.replicate n zv.toList).flatten:=by
 intro n
 induction n with
 | zero=>simp[xz,zi]
 | succ n ih=>
  simp only[xz,List.replicate_succ,List.flatten_cons]
  exact h.app ih
theorem zaW {α : Type}(l:List α)(hl:l≠[]):∀ (n i:Nat),i<n*l.length→(List.replicate n l).flatten[i]? = l[i%l.length]?:=by
 intro n
 induction n with
 | zero=>intro i h;simp at h
 | succ n ih=>
  intro i h
  have hpos:0<l.length:=by cases l with | nil=>exact absurd rfl hl | cons=>simp
  simp only[List.replicate_succ,List.flatten_cons]
  by_cases hi:i<l.length
  ·rw[List.getElem?_append_left hi,Nat.mod_eq_of_lt hi]
  ·rw[List.getElem?_append_right (by omega),ih (i-l.length) (by rw[Nat.add_mul] at h;omega)]
   have e:i%l.length=(i-l.length)%l.length:=Nat.mod_eq_sub_mod (by omega)
   rw[e]
theorem yT (zv:Array Value)(n:Nat):((Array.range (n*zv.size)).map (fun i=>zv[i%zv.size]!)).toList=(List.replicate n zv.toList).flatten:=by
 by_cases hz:zv = #[]
 ·subst hz
  simp
 ·have hne:zv.toList≠[]:=by simpa using hz
  have hpos:0<zv.size:=by
   rcases Nat.eq_zero_or_pos zv.size with h | h
   ·exact absurd (Array.eq_empty_of_size_eq_zero h) hz
   ·exact h
  apply List.ext_getElem?
  intro i
  by_cases hi:i<n*zv.size
  ·rw[zaW _ hne n i (by simpa using hi)]
   have hm:i%zv.size<zv.size:=Nat.mod_lt _ hpos
   simp[hi,hm]
  ·rw[List.getElem?_eq_none (by simpa using hi),List.getElem?_eq_none (by simp;omega)]
theorem ww (z:List LV)(n:Nat):(xz z n).length=n*z.length:=by
 induction n with
 | zero=>simp[xz]
 | succ n ih=>simp only[xz] at ih ⊢;simp[List.replicate_succ,Nat.add_mul];omega
def yX (P:Program)(t:TypeId)(len:Nat)(parts:List (Nat × LV)):Option LV:=match P.underlying t with
 | some (.slice e)=>match szT P e,zT P e with
  | some n,some z=>if len=0 then (match parts with | []=>some (.imm n 0 [] .full) | _=>none) else if z.cellsOk=true∧z.cells.length=n∧len*n≤2 ^ 24∧len*n≠0 then
    (Ju (fun i=>some (i*n,n)) (xz z.cells len) parts).map fun cs=>.imm n len cs .full else none
  | _,_=>none
 | _=>none
theorem uH {place:Nat→Option (Nat × Nat)} : ∀ (parts:List (Nat × LV)) (cs out:List LV),Ju place cs parts=some out→out.length=cs.length:=by
 intro parts
 induction parts with
 | nil=>intro cs out h;simp[Ju] at h;rw[h]
 | cons p parts ih=>
  intro cs out h
  simp only[Ju] at h
  split at h
  ·cases h
  ·split at h
   ·rw[ih _ _ h,zaj]
   ·cases h
theorem Kt {P:Program}{C:Ctx}{s:List AObj}{t:TypeId}{len:Nat}{parts:List (Nat × LV)}{pv:Array (Nat × Value)}{y:LV}(hok:Ok C s)(h1:parts.map (·.1)=pv.toList.map (·.1))(h2:zi C (parts.map (·.2)) (pv.toList.map (·.2)))
  (h:yX P t len parts=some y):Runs P C (Instr.buildSlice t len pv) y s C.τ:=by
 unfold yX at h
 split at h
 ·rename_i e hu
  split at h
  ·rename_i n z hn hz
   split at h
   ·rename_i hl0
    subst hl0
    split at h
    ·simp only[Option.some.injEq] at h;subst h
     have hpv:pv = #[]:=by
      apply Array.ext'
      cases hpl:pv.toList with
      | nil=>rfl
      | cons a l=>rw[hpl] at h1;simp at h1
     subst hpv
     refine⟨C.row #[] e,.slice (some ⟨C.w.heap.size,0,none⟩) 0 0,hok.le_row _ _,hok.row _ _,rfl,?_,?_⟩
     ·simp only[RelV]
      exact⟨some ⟨C.w.heap.size,0,none⟩,0,rfl,Nat.le_refl _,Nat.zero_le _,by simp,(by intro h;cases h),fun a ha _=>by cases ha;rfl,fun b o hb=>by simp[zZ],by simp[RelR]⟩
     ·have hr0:Array.range 0 = #[]:=rfl
      simp[Instr.buildSlice,run_underlying hu,yc hn,Instr.fill,newRow,Ctx.row,hr0]
    ·cases h
   ·have hc:z.cellsOk=true∧z.cells.length=n∧len*n≤2 ^ 24∧len*n≠0:=by
     by_cases hc:z.cellsOk=true∧z.cells.length=n∧len*n≤2 ^ 24∧len*n≠0
     ·exact hc
     ·rw[if_neg hc] at h;cases h
    rw[if_pos hc] at h
    obtain⟨hc1,hc2,hc3,hc4⟩:=hc
    simp only[Option.map_eq_some_iff] at h
    obtain⟨out,hf,rfl⟩:=h
    obtain⟨zv,hzr,hzx⟩:=wX hz C
    obtain⟨k1,k2⟩:=yu hc1 hzx
    have kl:=k1.length
    simp at kl
    have hzs:zv.cells.size=n:=by omega
    have hrow:zi C (xz z.cells len) ((Array.range (len*n)).map (fun i=>zv.cells[i%zv.cells.size]!)).toList:=by
     rw[← hzs,yT];exact uE k1 len
    have hone:∀ u∈(Array.range (len*n)).map (fun i=>zv.cells[i%zv.cells.size]!),u.oneCell'=true:=by
     intro u hu
     have hu':=Array.mem_toList_iff.2 hu
     rw[← hzs,yT] at hu'
     simp at hu'
     obtain⟨l',hl',hu'⟩:=hu'
     rw[hl'.2] at hu'
     exact k2 u hu'
    obtain⟨ws,w1,w2,w3⟩:=vR parts pv.toList _ out _ hrow hone h1 h2 hf
    have hol:=uH _ _ _ hf
    rw[ww,hc2] at hol
    have wl:=w2.length
    simp at wl
    have hle:=hok.le_row ws e
    refine⟨C.row ws e,.slice (some ⟨C.w.heap.size,0,none⟩) len len,hle,hok.row ws e,rfl,?_,?_⟩
    ·simp only[RelV]
     have hn1:1≤n:=by
      rcases Nat.eq_zero_or_pos n with h | h
      ·subst h;simp at hc4
      ·exact h
     have hlm:len≤maxLen:=by
      have:len*1≤len*n:=Nat.mul_le_mul_left _ hn1
      simp only[maxLen];omega
     refine⟨some ⟨C.w.heap.size,0,none⟩,len,rfl,Nat.le_refl _,hlm,hol,(by intro h;cases h),fun a ha _=>by cases ha;rfl,fun b o hb=>?_,rfl⟩
     cases hb
     refine zZ.of_row (yH _ _) out ws.toList 0 (zi.mono hle _ _ w2) (by simpa using w3) (fun j u hj=>by simpa using hj) ?_
     simp[Ctx.row];omega
    ·have hn24:¬ (len*n>2 ^ 24):=by omega
     simp only[Instr.buildSlice,Sem.run_bind,run_underlying hu,Result.andThen_ok,yc hn]
     rw[if_neg hn24]
     simp only[pure_bind]
     rw[if_neg hc4]
     simp only[Sem.run_bind,hzr,Result.andThen_ok,Sem.run_pure,w1]
     simp[newRow,Ctx.row]
  ·cases h
 ·cases h
def Km (P:Program)(t:TypeId)(len:Nat)(parts:List (Nat × LV))(s:List AObj):Option (LV × List AObj):=match P.underlying t with
 | some (.slice e)=>match szT P e,zT P e with
  | some n,some z=>if z.cellsOk=true∧z.cells.length=n∧len*n≤2 ^ 24∧len*n≠0 then
    (Ju (fun i=>some (i*n,n)) (xz z.cells len) parts).map fun cs=>(.ref n s.length 0 len true,s++[.cells cs]) else none
  | _,_=>none
 | _=>none
theorem JX {P:Program}{C:Ctx}{s s':List AObj}{t:TypeId}{len:Nat}{parts:List (Nat × LV)}{pv:Array (Nat × Value)}{y:LV}(hok:Ok C s)(h1:parts.map (·.1)=pv.toList.map (·.1))(h2:zi C (parts.map (·.2)) (pv.toList.map (·.2)))
  (h:Km P t len parts s=some (y,s')):Runs P C (Instr.buildSlice t len pv) y s' C.τ:=by
 unfold Km at h
 split at h
 ·rename_i e hu
  split at h
  ·rename_i n z hn hz
   have hc:z.cellsOk=true∧z.cells.length=n∧len*n≤2 ^ 24∧len*n≠0:=by
    by_cases hc:z.cellsOk=true∧z.cells.length=n∧len*n≤2 ^ 24∧len*n≠0
    ·exact hc
    ·rw[if_neg hc] at h;cases h
   rw[if_pos hc] at h
   obtain⟨hc1,hc2,hc3,hc4⟩:=hc
   simp only[Option.map_eq_some_iff,Prod.mk.injEq] at h
   obtain⟨out,hf,rfl,rfl⟩:=h
   obtain⟨zv,hzr,hzx⟩:=wX hz C
   obtain⟨k1,k2⟩:=yu hc1 hzx
   have kl:=k1.length
   simp at kl
   have hzs:zv.cells.size=n:=by omega
   have hrow:zi C (xz z.cells len) ((Array.range (len*n)).map (fun i=>zv.cells[i%zv.cells.size]!)).toList:=by
    rw[← hzs,yT];exact uE k1 len
   have hone:∀ u∈(Array.range (len*n)).map (fun i=>zv.cells[i%zv.cells.size]!),u.oneCell'=true:=by
    intro u hu
    have hu':=Array.mem_toList_iff.2 hu
    rw[← hzs,yT] at hu'
    simp at hu'
    obtain⟨l',hl',hu'⟩:=hu'
    rw[hl'.2] at hu'
    exact k2 u hu'
   obtain⟨ws,w1,w2,w3⟩:=vR parts pv.toList _ out _ hrow hone h1 h2 hf
   have hol:=uH _ _ _ hf
   rw[ww,hc2] at hol
   have wl:=w2.length
   simp at wl
   have hle:=hok.le_push (.cells ws e)
   refine⟨C.push (.cells ws e),.slice (some ⟨C.w.heap.size,0,none⟩) len len,hle,hok.push _ _ ?_,rfl,?_,?_⟩
   ·exact⟨ws,e,ws.toList,[],yH _ _,by simp,by simpa using zi.mono hle _ _ w2,by simpa using w3⟩
   ·have hn1:1≤n:=by
     rcases Nat.eq_zero_or_pos n with h | h
     ·subst h;simp at hc4
     ·exact h
    have hlm:len≤maxLen:=by
     have:len*1≤len*n:=Nat.mul_le_mul_left _ hn1
     simp only[maxLen];omega
    simp only[RelV]
    refine⟨by simp[Ctx.push,hok.n],len,?_,Nat.le_refl _,hlm,fun _=>rfl,?_⟩
    ·simp[Ctx.push,hok.n]
    ·have e1:(C.push (.cells ws e)).ρ s.length=C.w.heap.size:=by simp[Ctx.push,hok.n]
     have e2:(C.push (.cells ws e)).w.heap[C.w.heap.size]? = some (.cells ws e):=yH _ _
     rw[e1];unfold bs;rw[e2];simp;omega
   ·have hn24:¬ (len*n>2 ^ 24):=by omega
    simp only[Instr.buildSlice,Sem.run_bind,run_underlying hu,Result.andThen_ok,yc hn]
    rw[if_neg hn24]
    simp only[pure_bind]
    rw[if_neg hc4]
    simp only[Sem.run_bind,hzr,Result.andThen_ok,Sem.run_pure,w1]
    simp[newRow,Ctx.push]
  ·cases h
 ·cases h
def uU (P:Program)(t:TypeId)(l c:LV)(s:List AObj):Option (LV × List AObj):=match P.underlying t with
 | some (.slice e)=>match szT P e,zD P e,zT P e with
  | some n,some by_,some z=>match l,c with
   | .int .i64 l,.int .i64 c=>if z.cellsOk=true∧z.cells.length=n∧0<n∧0≤l∧c=l∧l*by_≤140737488355328∧l≤140737488355328 then
     some (.ref n s.length 0 l.toNat true,s++[.cells (xz z.cells l.toNat)]) else none
   | _,_=>none
  | _,_,_=>none
 | _=>none
theorem KU {P:Program}{C:Ctx}{s s':List AObj}{t:TypeId}{l c y:LV}{lv cv:Value}(hok:Ok C s)(hl:RelV C l lv)(hc:RelV C c cv)(h:uU P t l c s=some (y,s')) :
  Runs P C (Instr.makeSlice t lv cv) y s' C.τ:=by
 unfold uU at h
 split at h
 ·rename_i e hu
  split at h
  ·rename_i n by_ z hn hby hz
   split at h
   ·rename_i l c
    simp only[RelV] at hl hc
    subst hl;subst hc
    split at h
    ·rename_i hcond
     obtain⟨c1,c2,c3,c4,rfl,c6,c7⟩:=hcond
     simp only[Option.some.injEq,Prod.mk.injEq] at h
     obtain⟨rfl,rfl⟩:=h
     obtain⟨zv,hzr,hzx⟩:=wX hz C
     obtain⟨k1,k2⟩:=yu c1 hzx
     have kl:=k1.length
     simp at kl
     have hzs:zv.cells.size=n:=by omega
     obtain⟨l,rfl⟩:=Int.eq_ofNat_of_zero_le c4
     have hw:IntKind.i64.wrap (l:Int)=(l:Int):=IntWalk.i64_in _ ⟨by omega,by omega⟩
     let vs:Array Value:=(Array.range (l*n)).map (fun i=>zv.cells[i%zv.cells.size]!)
     have hrow:zi C (xz z.cells l) vs.toList:=by
      simp only[vs];rw[← hzs,yT];exact uE k1 l
     have hone:∀ u∈vs.toList,u.oneCell'=true:=by
      intro u hu'
      simp only[vs] at hu'
      rw[← hzs,yT] at hu'
      simp at hu'
      obtain⟨l',hl',hu'⟩:=hu'
      rw[hl'.2] at hu'
      exact k2 u hu'
     have hle:=hok.le_push (.cells vs e)
     refine⟨C.push (.cells vs e),.slice (some ⟨C.w.heap.size,0,none⟩) l l,hle,hok.push _ _ ?_,rfl,?_,?_⟩
     ·exact⟨vs,e,vs.toList,[],yH _ _,by simp,by simpa using zi.mono hle _ _ hrow,hone⟩
     ·simp only[RelV]
      refine⟨by simp[Ctx.push,hok.n],l,?_,by simp,?_,by simp,?_⟩
      ·simp[Ctx.push,hok.n]
      ·simp only[maxLen];omega
      ·have e1:(C.push (.cells vs e)).ρ s.length=C.w.heap.size:=by simp[Ctx.push,hok.n]
       have e2:(C.push (.cells vs e)).w.heap[C.w.heap.size]? = some (.cells vs e):=yH _ _
       rw[e1];unfold bs;rw[e2];simp[vs]
     ·unfold zD at hby
      simp only[Option.map_eq_some_iff] at hby
      obtain⟨i,hi,rfl⟩:=hby
      have g1:¬ ((l:Int)<0):=by omega
      have g2:¬ ((i.bytes:Int)*(l:Int)>2 ^ 48):=by rw[Int.mul_comm];omega
      simp[Instr.makeSlice,run_underlying hu,asInt,asIntOf,typeInfo,hi,hw,g1,yc hn,hzr,newRow,Ctx.push]
      rw[if_neg (by omega)]
      by_cases h0:l*n=0
      ·rw[if_pos h0]
       have hr0:Array.range 0 = #[]:=rfl
       simp[vs,h0,hr0]
      ·rw[if_neg h0]
    ·cases h
   ·cases h
  ·cases h
 ·cases h
def zbX (P:Program)(t:TypeId)(x:LV)(s:List AObj):Option (List AObj):=match P.underlying t with
 | some (.slice e)=>match szT P e,zT P e with
  | some n,some z=>match x with
   | .ref sz id off len _=>match s[id]? with
    | some (.cells cs)=>if sz=n∧z.cellsOk=true∧z.cells.length=n∧off+len*n≤cs.length∧len≠0∧n≠0 then some (s.set id (.cells (wq cs off (xz z.cells len)))) else none
    | _=>none
   | _=>none
  | _,_=>none
 | _=>none
theorem zdP {zv:Array Value}(h:∀ u∈zv.toList,u.oneCell'=true)(n:Nat):∀ u∈(List.replicate n zv.toList).flatten,u.oneCell'=true:=by
 intro u hu
 simp at hu
 obtain⟨l,hl,hu⟩:=hu
 rw[hl.2] at hu
 exact h u hu
theorem zat (zv:Array Value)(n:Nat):(Builtin.zeroCells zv n).toList=(List.replicate n zv.toList).flatten:=yT zv n
theorem zaK {P:Program}{C:Ctx}{s s':List AObj}{t ty:TypeId}{x:LV}{v:Value}(hok:Ok C s)(hx:RelV C x v)(h:zbX P t x s=some s') :
  ∃ C',C.le C'∧Ok C' s'∧C'.τ = C.τ∧(Builtin.clear_ #[t] ty #[v]).run P C.w = .ok (.tuple #[]) C'.w:=by
 unfold zbX at h
 split at h
 ·rename_i e hu
  split at h
  ·rename_i n z hn hz
   split at h
   ·rename_i sz id off len full
    split at h
    ·rename_i cs hs
     split at h
     ·rename_i hc
      obtain⟨rfl,c2,c3,c4,c5,c6⟩:=hc
      simp only[Option.some.injEq] at h;subst h
      simp only[RelV] at hx
      obtain⟨h0,cap,rfl,k1,k2,k3⟩:=hx
      obtain⟨zv,hzr,hzx⟩:=wX hz C
      obtain⟨z1,z2⟩:=yu c2 hzx
      have zl:=z1.length
      obtain⟨vs,T',us,ws,h1,h2,h3,h4⟩:=hok.obj id _ hs
      have hl1:=h3.length
      have hids:id<s.length:=(List.getElem?_eq_some_iff.1 hs).1
      have hown:=hok.own id h0
      let zs:List Value:=(List.replicate len zv.cells.toList).flatten
      have zr:zi C (xz z.cells len) zs:=uE z1 len
      have zrl:=zr.length
      rw[ww,c3] at zrl
      have zo:=zdP z2 len
      have hvs:us.length≤vs.toList.length:=by rw[h2];simp
      let nv:List Value:=us.take off++zs++us.drop (off+zs.length)
      have hrow:=run_storeCells_at (P:=P) (C.ρ id) off T' zs 0 vs C.w h1 (by simp at hvs ⊢;omega) zo
      have hnv:(vs.toList.take (off+0)++zs++vs.toList.drop (off+0+zs.length))=nv++ws:=by
       simp only[nv,h2,Nat.add_zero]
       rw[List.take_append_of_le_length (by omega),List.drop_append_of_le_length (by omega)]
       simp
      rw[hnv] at hrow
      have hnd:¬ s[id]? = some (.cells []):=fun hb=>by
       rw[hs] at hb;simp at hb;subst hb
       have:1*1≤len*sz:=Nat.mul_le_mul (by omega) (by omega)
       simp at c4;omega
      have hlim:C.lim (C.ρ id)=0:=hown.2.1.resolve_left hnd
      have hszr:vs.size≤(nv++ws).toArray.size:=by
       have e1:vs.size=(us++ws).length:=by rw[← h2];simp
       have e2:nv.length=us.length:=by simp[nv] at hvs ⊢;omega
       rw[e1];simp[e2]
      have hle:=C.le_set hown.1 hlim (nv++ws).toArray h1 hszr
      refine⟨C.set (C.ρ id) (nv++ws).toArray,hle,hok.set hids hnd hlim _ h1 hszr _ ?_,rfl,?_⟩
      ·refine⟨(nv++ws).toArray,T',nv,ws,setRow_heap _ _ _ _ _ _ h1,by simp,?_,?_⟩
       ·exact XW _ _ _ _ _ (zi.mono hle _ _ h3) (zi.mono hle _ _ zr) (by rw[ww,c3];omega)
       ·intro u hu
        simp only[nv,List.mem_append] at hu
        rcases hu with (hu | hu) | hu
        ·exact h4 u (List.mem_of_mem_take hu)
        ·exact zo u hu
        ·exact h4 u (List.mem_of_mem_drop hu)
      ·obtain⟨len,rfl⟩:∃ k,len=k+1:=⟨len-1,by omega⟩
       unfold Builtin.clear_
       simp only[List.getElem?_toArray,List.getElem?_cons_zero,Sem.run_bind,run_underlying hu,Result.andThen_ok,hzr]
       rw[zat]
       rw[hrow]
       simp[Ctx.set]
     ·cases h
    ·cases h
   ·cases h
  ·cases h
 ·cases h
end Go.Hb
end
section
namespace Go.Hb
open Go Go.RowKit
def QS:List LV→Option (List Int)
 | []=>some []
 | .int .i64 a :: r=>(QS r).map (a :: ·)
 | _=>none
def zlI:Option TypeDesc→Bool | some (.int .i64)=>true | _=>false
def QV (P:Program):List Field→Nat→Bool
 | [],_=>true
 | f :: fs, i => f.name != "_" && f.offset == i && zlI (P.underlying f.type) && (match aggT P f.type with | some false => true | _ => false) && QV P fs (i + 1)
def vA (P:Program)(t:TypeId)(n:Nat):Bool:=match P.underlying t with
 | some (.struct fs)=> !P.stoodInHeld t && !P.eqGuardType P.depth t && fs.size == n && QV P fs.toList 0
 | _=>false
def aBin (P:Program)(op:BinOp)(t:TypeId)(x y:LV):Option LV:=match x,y with
 | .int k a,.int k' b=>match op with
  | .shl=>if 0≤b then some (.int k (k.wrap (a*2 ^ (min b.toNat k.bits)))) else none
  | .shr=>if 0≤b then some (.int k (a.fdiv (2 ^ (min b.toNat k.bits)))) else none
  | _=>if k=k' then (match op with
   | .add=>some (.int k (k.wrap (a+b)))
   | .sub=>some (.int k (k.wrap (a-b)))
   | .mul=>some (.int k (k.wrap (a*b)))
   | .quo=>if b=0 then none else some (.int k (k.wrap (a.tdiv b)))
   | .rem=>if b=0 then none else some (.int k (a.tmod b))
   | .and=>some (.int k (k.wrap ((BitVec.ofInt k.bits a &&& BitVec.ofInt k.bits b).toNat:Int)))
   | .or=>some (.int k (k.wrap ((BitVec.ofInt k.bits a ||| BitVec.ofInt k.bits b).toNat:Int)))
   | .xor=>some (.int k (k.wrap ((BitVec.ofInt k.bits a ^^^ BitVec.ofInt k.bits b).toNat:Int)))
   | .eql=>some (.bool (decide (a=b)))
   | .neq=>some (.bool (!decide (a=b)))
   | .lss=>some (.bool (decide (a<b)))
   | .leq=>some (.bool (decide (a≤b)))
   | .gtr=>some (.bool (decide (b<a)))
   | .geq=>some (.bool (decide (b≤a)))
   | _=>none) else none
 | .bool a,.bool b=>match P.underlying t with
  | some .bool=>(match op with
   | .eql=>some (.bool (a == b))
   | .neq=>some (.bool (!(a == b)))
   | _=>none)
  | _=>none
 | .str a,.str b=>match op with
  | .add=>if ((a.size+b.size:Nat):Int)≤IntKind.i64.max then some (.str (a++b)) else none
  | .eql=>some (.bool (a.toList == b.toList))
  | .neq=>some (.bool (!(a.toList == b.toList)))
  | _=>none
 | .agg xs,.agg ys=>match QS xs,QS ys with
  | some a,some b=>if vA P t a.length=true∧a.length=b.length then (match op with
   | .eql=>some (.bool (decide (a=b)))
   | .neq=>some (.bool (!decide (a=b)))
   | _=>none) else none
  | _,_=>none
 | x,.nilf=>match P.underlying t,x with
  | some (.func _ _ _),.nilf=>(match op with | .eql=>some (.bool true) | .neq=>some (.bool false) | _=>none)
  | some (.func _ _ _),.fn _ _ _=>(match op with | .eql=>some (.bool false) | .neq=>some (.bool true) | _=>none)
  | _,_=>none
 | x,.nilp=>match P.underlying t,x with
  | some (.pointer _),.nilp=>(match op with | .eql=>some (.bool true) | .neq=>some (.bool false) | _=>none)
  | some (.pointer _),.ptr _ _=>(match op with | .eql=>some (.bool false) | .neq=>some (.bool true) | _=>none)
  | _,_=>none
 | x,.nils=>match P.underlying t,x with
  | some (.slice _),.nils=>(match op with | .eql=>some (.bool true) | .neq=>some (.bool false) | _=>none)
  | some (.slice _),.emp _=>(match op with | .eql=>some (.bool false) | .neq=>some (.bool true) | _=>none)
  | some (.slice _),.imm _ len _ _=>if len=0 then none else (match op with | .eql=>some (.bool false) | .neq=>some (.bool true) | _=>none)
  | some (.slice _),.ref _ _ _ _ _=>(match op with | .eql=>some (.bool false) | .neq=>some (.bool true) | _=>none)
  | _,_=>none
 | _,_=>none
def zed:Value→Bool | .nilIface | .agg _=>false | _=>true
theorem Yy {P:Program}{w:World}{op:BinOp}{t:TypeId}{x y:Operand}{a b:Value}(ha:zed a=true):(eqGuard op t x y a b).run P w = .ok () w:=by
 unfold eqGuard
 cases op<;>simp<;>cases a<;>simp[zed] at ha ⊢
theorem vL (t:TypeId)(x y:Value):Op.equal t x y=Op.equalIn (9999+1) t x y:=rfl
theorem Ql {P:Program}{w:World}{t:TypeId}(hu:P.underlying t=some .bool)(a b:Bool):(Op.equal t (.bool a) (.bool b)).run P w = .ok (a == b) w:=by
 rw[vL,Op.equalIn]
 simp only[Sem.run_bind,run_underlying hu,Result.andThen_ok,Sem.run_pure]
theorem wU {C:Ctx}(k:IntKind)(n:Int):RelV C (.int k n) (.int k n):=by simp[RelV]
theorem xr {C:Ctx}(b:Bool):RelV C (.bool b) (.bool b):=by simp[RelV]
theorem zik {C:Ctx}(b:ByteArray):RelV C (.str b) (.string b):=by simp[RelV]
theorem JY {P:Program}{w:World}{t:TypeId}{a b c}(hu:P.underlying t=some (.func a b c)):(Op.equal t .nilFunc .nilFunc).run P w = .ok true w:=by
 rw[vL,Op.equalIn];simp only[Sem.run_bind,run_underlying hu,Result.andThen_ok,Sem.run_pure]
theorem Zm {P:Program}{w:World}{t:TypeId}{a b c}(hu:P.underlying t=some (.func a b c))(f:Fn)(x y:Array Value):(Op.equal t (.func f x y) .nilFunc).run P w = .ok false w:=by
 rw[vL,Op.equalIn];simp only[Sem.run_bind,run_underlying hu,Result.andThen_ok,Sem.run_pure]
theorem Zx {P:Program}{w:World}{t e:TypeId}(hu:P.underlying t=some (.pointer e)):(Op.equal t (.pointer none) (.pointer none)).run P w = .ok true w:=by
 rw[vL,Op.equalIn];simp only[Sem.run_bind,run_underlying hu,Result.andThen_ok,Sem.run_pure,Option.isNone_none]
theorem ZB {P:Program}{w:World}{t e:TypeId}(hu:P.underlying t=some (.pointer e))(a:Addr):(Op.equal t (.pointer (some a)) (.pointer none)).run P w = .ok false w:=by
 rw[vL,Op.equalIn];simp only[Sem.run_bind,run_underlying hu,Result.andThen_ok,Sem.run_pure]
theorem YJ {P:Program}{w:World}{t e:TypeId}(hu:P.underlying t=some (.slice e)):(Op.equal t (.slice none 0 0) (.slice none 0 0)).run P w = .ok true w:=by
 rw[vL,Op.equalIn];simp only[Sem.run_bind,run_underlying hu,Result.andThen_ok,Sem.run_pure,Option.isNone_none]
theorem vT {P:Program}{w:World}{t e:TypeId}(hu:P.underlying t=some (.slice e))(a:Addr)(n c:Nat):(Op.equal t (.slice (some a) n c) (.slice none 0 0)).run P w = .ok false w:=by
 rw[vL,Op.equalIn];simp only[Sem.run_bind,run_underlying hu,Result.andThen_ok,Sem.run_pure]
theorem Kp {C:Ctx} : ∀ {xs:List LV} {a:List Int} {vs:List Value},QS xs=some a→zi C xs vs→vs=a.map (Value.int .i64)
 | [],a,vs,h,r=>by simp[QS] at h;subst h;simp only[zi] at r;simp[r]
 | x :: xs,a,vs,h,r=>by
  simp only[zi] at r
  obtain⟨v,r',rfl,r1,r2⟩:=r
  unfold QS at h
  split at h
  ·rename_i he;cases he
  ·rename_i n xs' he
   obtain⟨rfl,rfl⟩:=List.cons.inj he
   simp only[Option.map_eq_some_iff] at h
   obtain⟨a',h1,rfl⟩:=h
   have:=Kp h1 r2
   simp only[RelV] at r1
   simp[r1,this]
  ·cases h
theorem KK {P:Program}(d:Nat)(w:World)(A B:List Int)(hAB:A.length=B.length):∀ (fs:List Field) (i:Nat),QV P fs i=true→i+fs.length=A.length→
  (Op.eqFields (d+1) (A.map (Value.int .i64)).toArray (B.map (Value.int .i64)).toArray fs).run P w = .ok (decide (A.drop i=B.drop i)) w
 | [],i,_,hl=>by
  have h1:A.drop i=[]:=by simp;simp at hl;omega
  have h2:B.drop i=[]:=by simp;simp at hl;omega
  simp[Op.eqFields,h1,h2]
 | f :: fs,i,h,hl=>by
  simp only[QV,Bool.and_eq_true] at h
  obtain⟨⟨⟨⟨h1,h2⟩,h3⟩,h4⟩,h5⟩:=h
  have h1 : f.name ≠ "_" := by simpa using h1
  have h2:f.offset=i:=by simpa using h2
  have hu:P.underlying f.type=some (.int .i64):=by
   unfold zlI at h3
   split at h3
   ·assumption
   ·cases h3
  have hag:aggT P f.type=some false:=by
   cases hq:aggT P f.type with
   | none=>rw[hq] at h4;simp at h4
   | some b=>cases b<;>simp_all
  simp at hl
  have hi:i<A.length:=by omega
  have hi':i<B.length:=by omega
  have hp:∀ (L:List Int) (h:i<L.length) (w:World),(part f.type (L.map (Value.int .i64)).toArray i).run P w = .ok (.int .i64 L[i]) w:=by
   intro L h w
   have:=Qz (P:=P) (C:=⟨w,fun _=>False,fun _=>0,fun _=>0,0,[],fun _=>⟨0,0,0,0⟩⟩) (t:=f.type) (cs:=L.map (LV.int .i64)) (off:=i) (x:=.int .i64 L[i]) (vs:=(L.map (Value.int .i64)).toArray) ?_ ?_ ?_
   ·obtain⟨v,q1,q2⟩:=this
    simp only[RelV] at q2;subst q2;exact q1
   ·clear h h1 h2 h3 h4 h5 hu hag hl hi hi'
    induction L with
    | nil=>simp[zi]
    | cons a L ih=>exact⟨_,_,rfl,by simp[RelV],by simpa using ih⟩
   ·intro u hu;simp at hu;obtain⟨a,_,rfl⟩:=hu;simp[Value.oneCell']
   ·simp[zcT,hag,h]
  simp only[Op.eqFields,h2,ne_eq,h1,not_false_eq_true,if_true,Sem.run_bind,hp A hi,hp B hi',Result.andThen_ok,run_equalIn_int w d f.type .i64 .i64 _ _ hu,Sem.run_ite,Sem.run_pure]
  rw[KK d w A B hAB fs (i+1) h5 (by omega)]
  have e1:A.drop i=A[i] :: A.drop (i+1):=List.drop_eq_getElem_cons hi
  have e2:B.drop i=B[i] :: B.drop (i+1):=List.drop_eq_getElem_cons hi'
  by_cases e:A[i]=B[i]
  ·have:(A.drop i=B.drop i)↔(A.drop (i+1)=B.drop (i+1)):=by rw[e1,e2,e];simp only[List.cons.injEq,true_and]
   simp only[e,beq_self_eq_true,Bool.not_true,Bool.false_eq_true,if_false,decide_eq_decide.2 this]
  ·have:¬ (A.drop i=B.drop i):=by rw[e1,e2];simp only[List.cons.injEq,e,false_and,not_false_eq_true]
   have e3:(A[i] == B[i])=false:=by simpa using e
   simp only[e3,Bool.not_false,if_true,decide_eq_false this]
theorem ZI {P:Program}{w:World}{t:TypeId}{a b:List Int}(h:vA P t a.length=true)(hl:a.length=b.length){xs ys:Array Value}(hx:xs.toList=a.map (Value.int .i64))(hy:ys.toList=b.map (Value.int .i64)) :
  (Op.equalIn 10000 t (.agg xs) (.agg ys)).run P w = .ok (decide (a=b)) w∧P.eqGuardType P.depth t=false:=by
 unfold vA at h
 split at h
 ·rename_i fs hu
  simp only[Bool.and_eq_true,Bool.not_eq_true'] at h
  obtain⟨⟨⟨h1,h2⟩,h3⟩,h4⟩:=h
  have hf:P.fieldsOf t=fs:=by simp[Program.fieldsOf,hu]
  have e1:xs=(a.map (Value.int .i64)).toArray:=by apply Array.ext';simpa using hx
  have e2:ys=(b.map (Value.int .i64)).toArray:=by apply Array.ext';simpa using hy
  refine⟨?_,h2⟩
  rw[show (10000:Nat)=9998+1+1 from rfl,run_equalIn_struct w (9998+1) t xs ys (by rw[hf];exact hu) h1,hf,e1,e2]
  have:=KK (P:=P) 9998 w a b hl fs.toList 0 h4 (by simpa using h3)
  simpa using this
 ·cases h
theorem zds {P:Program}{C:Ctx}{s:List AObj}{op:BinOp}{t:TypeId}{ox oy:Operand}{x y z:LV}{v u:Value}(hok:Ok C s)(hx:RelV C x v)(hy:RelV C y u)(h:aBin P op t x y=some z) :
  Runs P C (do eqGuard op t ox oy v u;binOp op t v u) z s C.τ:=by
 have key:∀ r,RelV C z r→zed v=true→(binOp op t v u).run P C.w = .ok r C.w→Runs P C (do eqGuard op t ox oy v u;binOp op t v u) z s C.τ:=by
  intro r h1 h2 h3
  refine Runs.quiet hok h1 ?_
  rw[Sem.run_bind,Yy h2]
  exact h3
 unfold aBin at h
 split at h
 ·-- ints
  rename_i k a k' b
  simp only[RelV] at hx hy
  subst hx;subst hy
  split at h
  ·split at h
   ·rename_i hb
    simp at h;subst h
    refine key _ (wU _ _) rfl ?_
    have:¬ b<0:=by omega
    simp[binOp,Op.shift,this]
   ·cases h
  ·split at h
   ·rename_i hb
    simp at h;subst h
    refine key _ (wU _ _) rfl ?_
    have:¬ b<0:=by omega
    simp[binOp,Op.shift,this]
   ·cases h
  ·rename_i h1 h2
   split at h
   ·rename_i e
    subst e
    cases op<;>simp only at h<;>try (cases h;done)
    case quo=>
     split at h
     ·cases h
     ·rename_i hb;simp at h;subst h
      refine key _ (wU _ _) rfl ?_
      simp[binOp,Op.intDiv,hb]
    case rem=>
     split at h
     ·cases h
     ·rename_i hb;simp at h;subst h
      refine key _ (wU _ _) rfl ?_
      simp[binOp,Op.intDiv,hb]
    all_goals (simp only[Option.some.injEq] at h;subst h;first|refine key _ (wU _ _) rfl ?_|refine key _ (xr _) rfl ?_)
    all_goals first
     | (simp[binOp,Op.intArith];done)
     | (simp[binOp,Op.intBits];done)
     | (simp only[binOp,Op.intCmp,if_false,ne_eq,not_true_eq_false,Sem.run_pure];done)
     | (simp only[binOp,Op.intCmp,if_false,ne_eq,not_true_eq_false,Sem.run_pure];congr 2;done)
     | (simp only[binOp,Op.intCmp,if_false,ne_eq,not_true_eq_false,Sem.run_pure];congr 2;rw[Bool.eq_iff_iff];simp;done)
   ·cases h
 ·-- bools
  rename_i a b
  simp only[RelV] at hx hy
  subst hx;subst hy
  split at h
  ·rename_i hu
   split at h
   ·simp only[Option.some.injEq] at h;subst h
    refine key _ (xr _) rfl ?_
    simp[binOp,Ql hu]
   ·simp only[Option.some.injEq] at h;subst h
    refine key _ (xr _) rfl ?_
    simp[binOp,Ql hu]
   ·cases h
  ·cases h
 ·-- strings
  rename_i a b
  simp only[RelV] at hx hy
  subst hx;subst hy
  split at h
  ·split at h
   ·rename_i hs
    simp only[Option.some.injEq] at h;subst h
    refine key _ (zik _) rfl ?_
    have:¬ (((a.size+b.size:Nat):Int)>IntKind.i64.max):=by omega
    simp only[binOp,Op.stringOp]
    rw[if_neg this];rfl
   ·cases h
  ·simp only[Option.some.injEq] at h;subst h
   refine key _ (xr _) rfl ?_
   simp[binOp,Op.stringOp]
  ·simp only[Option.some.injEq] at h;subst h
   refine key _ (xr _) rfl ?_
   simp[binOp,Op.stringOp]
  ·cases h
 ·-- structs of whole numbers
  rename_i xs ys
  split at h
  ·rename_i a b ha hb
   split at h
   ·rename_i hc
    simp only[RelV] at hx hy
    obtain⟨vs,rfl,r1,_⟩:=hx
    obtain⟨us,rfl,r2,_⟩:=hy
    obtain⟨q1,q2⟩:=ZI (P:=P) (w:=C.w) hc.1 hc.2 (Kp ha r1) (Kp hb r2)
    have key2:∀ r,RelV C z r→(binOp op t (.agg vs) (.agg us)).run P C.w = .ok r C.w→Runs P C (do eqGuard op t ox oy (.agg vs) (.agg us);binOp op t (.agg vs) (.agg us)) z s C.τ:=by
     intro r h1 h3
     refine Runs.quiet hok h1 ?_
     rw[Sem.run_bind,run_eqGuard_agg _ _ _ _ _ _ _ q2]
     exact h3
    split at h
    ·simp only[Option.some.injEq] at h;subst h
     refine key2 _ (xr _) ?_
     rw[run_eql_struct,q1];rfl
    ·simp only[Option.some.injEq] at h;subst h
     refine key2 _ (xr _) ?_
     rw[run_neq_struct,q1];rfl
    ·cases h
   ·cases h
  ·cases h
 ·-- functions
  simp only[RelV] at hy;subst hy
  split at h
  ·rename_i hu
   simp only[RelV] at hx;subst hx
   split at h<;>first|(cases h;done)|(simp only[Option.some.injEq] at h;subst h;refine key _ (xr _) rfl ?_;simp only[binOp,Sem.run_bind,JY hu,Result.andThen_ok,Sem.run_pure];(try rfl))
  ·rename_i hu
   simp only[RelV] at hx;obtain⟨fs,cs,rfl,_⟩:=hx
   split at h<;>first|(cases h;done)|(simp only[Option.some.injEq] at h;subst h;refine key _ (xr _) rfl ?_;simp only[binOp,Sem.run_bind,Zm hu,Result.andThen_ok,Sem.run_pure];(try rfl))
  ·cases h
 ·-- pointers
  simp only[RelV] at hy;subst hy
  split at h
  ·rename_i hu
   simp only[RelV] at hx;subst hx
   split at h<;>first|(cases h;done)|(simp only[Option.some.injEq] at h;subst h;refine key _ (xr _) rfl ?_;simp only[binOp,Sem.run_bind,Zx hu,Result.andThen_ok,Sem.run_pure];(try rfl))
  ·rename_i hu
   simp only[RelV] at hx;obtain⟨_,rfl⟩:=hx
   split at h<;>first|(cases h;done)|(simp only[Option.some.injEq] at h;subst h;refine key _ (xr _) rfl ?_;simp only[binOp,Sem.run_bind,ZB hu,Result.andThen_ok,Sem.run_pure];(try rfl))
  ·cases h
 ·-- slices
  simp only[RelV] at hy;subst hy
  split at h
  ·rename_i hu
   simp only[RelV] at hx;subst hx
   split at h<;>first|(cases h;done)|(simp only[Option.some.injEq] at h;subst h;refine key _ (xr _) rfl ?_;simp only[binOp,Sem.run_bind,YJ hu,Result.andThen_ok,Sem.run_pure];(try rfl))
  ·rename_i hu
   simp only[RelV] at hx;obtain⟨a,cap,rfl,_⟩:=hx
   split at h<;>first|(cases h;done)|(simp only[Option.some.injEq] at h;subst h;refine key _ (xr _) rfl ?_;simp only[binOp,Sem.run_bind,vT hu,Result.andThen_ok,Sem.run_pure];(try rfl))
  ·rename_i sz len cs r hu
   simp only[RelV] at hx;obtain⟨A,cap,rfl,k1,k2,k3,k4,_⟩:=hx
   split at h
   ·cases h
   ·rename_i hl
    cases A with
    | none=>exact absurd (k4 rfl).1 hl
    | some a=>
     split at h<;>first|(cases h;done)|(simp only[Option.some.injEq] at h;subst h;refine key _ (xr _) rfl ?_;simp only[binOp,Sem.run_bind,vT hu,Result.andThen_ok,Sem.run_pure];(try rfl))
  ·rename_i hu
   simp only[RelV] at hx;obtain⟨_,cap,rfl,_⟩:=hx
   split at h<;>first|(cases h;done)|(simp only[Option.some.injEq] at h;subst h;refine key _ (xr _) rfl ?_;simp only[binOp,Sem.run_bind,vT hu,Result.andThen_ok,Sem.run_pure];(try rfl))
  ·cases h
 ·cases h
end Go.Hb
end
section
namespace Go.Hb
open Go Go.RowKit
def fput (f:Int→Option LV)(k:Int)(x:LV):Int→Option LV:=fun j=>if j=k then some x else f j
def fdel (f:Int→Option LV)(k:Int):Int→Option LV:=fun j=>if j=k then none else f j
@[simp] theorem zcc (n:Int):keyI (.int .i64 n)=some n:=rfl
theorem zep {v:Value}{n:Int}(h:keyI v=some n):v = .int .i64 n:=by
 unfold keyI at h
 split at h
 ·simp at h;subst h;rfl
 ·cases h
def QW:List MapEntry→Int→Nat→Option (Nat × Value)
 | [],_,_=>none
 | e :: es,k,i=>if keyI e.key=some k then some (i,e.val) else QW es k (i+1)
theorem uY:∀ (es:List MapEntry) (k:Int) (i:Nat),(QW es k i).map (·.2)=look es k
 | [],_,_=>rfl
 | e :: es,k,i=>by
  simp only[QW,look]
  split
  ·rfl
  ·exact uY es k (i+1)
theorem YD:∀ (es:List MapEntry) (k:Int) (i:Nat) {j:Nat} {v:Value},QW es k i=some (j,v)→i≤j∧∃ e,es[j-i]? = some e∧keyI e.key=some k∧e.val=v
 | [],_,_,_,_,h=>by simp[QW] at h
 | e :: es,k,i,j,v,h=>by
  simp only[QW] at h
  split at h
  ·rename_i hk
   simp at h;obtain⟨rfl,rfl⟩:=h
   exact⟨Nat.le_refl _,e,by simp,hk,rfl⟩
  ·obtain⟨h1,e',h2,h3⟩:=YD es k (i+1) h
   refine⟨by omega,e',?_,h3⟩
   rw[show j-i=(j-(i+1))+1 by omega];simpa using h2
theorem vV (k:Int):∀ (es:List MapEntry) (i:Nat),(∀ e∈es,(keyI e.key).isSome=true)→Instr.findNow (.int .i64) (.int .i64 k) es i=some (QW es k i)
 | [],_,_=>rfl
 | e :: es,i,h=>by
  obtain⟨n,hn⟩:=Option.isSome_iff_exists.1 (h e (by simp))
  have hk:=zep hn
  simp only[Instr.findNow,QW,hk,Instr.sameNow,if_true,keyI,Option.some.injEq]
  by_cases hkn:n=k
  ·subst hkn;simp
  ·have:(k == n)=false:=by simpa using fun e=>hkn e.symm
   simp only[this,hkn,if_false]
   exact vV k es (i+1) fun e he=>h e (by simp[he])
theorem QL {es:List MapEntry}{k:Int} : look es k=none↔∀ e∈es,keyI e.key≠some k:=by
 induction es with
 | nil=>simp[look]
 | cons e es ih=>
  simp only[look]
  by_cases h:keyI e.key=some k
  ·simp[h]
  ·simp[h,ih]
theorem Jx {v:Value}{k:Int} : ∀ (es:List MapEntry) (i:Nat) {e:MapEntry},es[i]? = some e→keyI e.key=some k→(es.filterMap fun e=>keyI e.key).Nodup→
  ∀ j,look (es.modify i fun e=>{e with key:=.int .i64 k,val:=v }) j=if j=k then some v else look es j
 | e :: es,0,e',h,hk,hn,j=>by
  simp at h;subst h
  simp only[List.modify_zero_cons,look,zcc,Option.some.injEq]
  by_cases hj:j=k
  ·subst hj;simp
  ·have h1:¬ k=j:=fun e=>hj e.symm
   have h2:¬ keyI e.key=some j:=by rw[hk];simpa using h1
   rw[if_neg h1,if_neg hj,if_neg h2]
 | e :: es,i+1,e',h,hk,hn,j=>by
  have hmem:e'∈es:=List.mem_of_getElem? (by simpa using h)
  have hne:keyI e.key≠some k:=by
   intro he
   rw[List.filterMap_cons,he] at hn
   exact(List.nodup_cons.1 hn).1 (List.mem_filterMap.2 ⟨e',hmem,hk⟩)
  have hn':(es.filterMap fun e=>keyI e.key).Nodup:=by
   rw[List.filterMap_cons] at hn
   cases hke:keyI e.key with
   | none=>rw[hke] at hn;exact hn
   | some n=>rw[hke] at hn;exact(List.nodup_cons.1 hn).2
  have ih:=Jx (v:=v) es i (by simpa using h) hk hn' j
  simp only[List.modify_succ_cons,look,ih]
  by_cases hj:j=k
  ·subst hj;simp[hne]
  ·rw[if_neg hj,if_neg hj]
theorem YC {v:Value}{k:Int}{es:List MapEntry}{i:Nat}{e:MapEntry}(h:es[i]? = some e)(hk:keyI e.key=some k)(ho:KE es):KE (es.modify i fun e=>{e with key:=.int .i64 k,val:=v }):=by
 have hf:∀ (es:List MapEntry) (i:Nat) (e:MapEntry),es[i]? = some e→keyI e.key=some k→((es.modify i fun e=>{e with key:=.int .i64 k,val:=v }).map fun e=>keyI e.key)=es.map fun e=>keyI e.key:=by
  intro es
  induction es with
  | nil=>intro i e h;simp at h
  | cons a es ih=>
   intro i e h hk
   cases i with
   | zero=>simp at h;subst h;simp[keyI];exact hk.symm
   | succ i=>simp;exact ih i e (by simpa using h) hk
 have hm:=hf es i e h hk
 constructor
 ·intro e' he'
  have:keyI e'.key∈(es.modify i fun e=>{e with key:=.int .i64 k,val:=v }).map fun e=>keyI e.key:=List.mem_map.2 ⟨e',he',rfl⟩
  rw[hm] at this
  obtain⟨e2,h2,h3⟩:=List.mem_map.1 this
  rw[← h3];exact ho.1 e2 h2
 ·have e1:∀ l:List MapEntry,(l.filterMap fun e=>keyI e.key)=(l.map fun e=>keyI e.key).filterMap id:=fun l=>by rw[List.filterMap_map];rfl
  rw[e1,hm,← e1];exact ho.2
theorem zgb (es:List MapEntry)(k:Int)(v:Value)(b:Nat)(hno:look es k=none)(j:Int):look (es++[{key:=.int .i64 k,val:=v,born:=b }]) j=if j=k then some v else look es j:=by
 induction es with
 | nil=>
  simp only[List.nil_append,look,zcc,Option.some.injEq]
  by_cases hj:j=k
  ·subst hj;simp
  ·have:¬ k=j:=fun e=>hj e.symm
   rw[if_neg this,if_neg hj]
 | cons e es ih=>
  have h1:=QL.1 hno
  have ih:=ih (QL.2 fun e he=>h1 e (by simp[he]))
  simp only[List.cons_append,look,ih]
  by_cases hj:j=k
  ·subst hj;simp[h1 e (by simp)]
  ·rw[if_neg hj,if_neg hj]
theorem zby {es:List MapEntry}{k:Int}{v:Value}{b:Nat}(ho:KE es)(hno:look es k=none):KE (es++[{key:=.int .i64 k,val:=v,born:=b }]):=by
 constructor
 ·intro e he
  rcases List.mem_append.1 he with h | h
  ·exact ho.1 e h
  ·simp at h;subst h;rfl
 ·rw[List.filterMap_append]
  refine List.nodup_append.2 ⟨ho.2,by simp[keyI],fun a ha b hb=>?_⟩
  simp[keyI] at hb;subst hb
  obtain⟨e,he,hk⟩:=List.mem_filterMap.1 ha
  exact fun e0=>QL.1 hno e he (by rw[hk,e0])
theorem ZK {k:Int} : ∀ (es:List MapEntry) (i:Nat) {e:MapEntry},es[i]? = some e→keyI e.key=some k→(es.filterMap fun e=>keyI e.key).Nodup→
  ∀ j,look (es.eraseIdx i) j=if j=k then none else look es j
 | e :: es,0,e',h,hk,hn,j=>by
  simp at h;subst h
  simp only[List.eraseIdx_cons_zero,look]
  rw[List.filterMap_cons,hk] at hn
  by_cases hj:j=k
  ·subst hj
   rw[if_pos rfl]
   exact QL.2 fun e2 h2 h3=>(List.nodup_cons.1 hn).1 (List.mem_filterMap.2 ⟨e2,h2,h3⟩)
  ·have h2:¬ keyI e.key=some j:=by rw[hk];simpa using fun e=>hj e.symm
   rw[if_neg hj,if_neg h2]
 | e :: es,i+1,e',h,hk,hn,j=>by
  have hmem:e'∈es:=List.mem_of_getElem? (by simpa using h)
  have hne:keyI e.key≠some k:=by
   intro he
   rw[List.filterMap_cons,he] at hn
   exact(List.nodup_cons.1 hn).1 (List.mem_filterMap.2 ⟨e',hmem,hk⟩)
  have hn':(es.filterMap fun e=>keyI e.key).Nodup:=by
   rw[List.filterMap_cons] at hn
   cases hke:keyI e.key with
   | none=>rw[hke] at hn;exact hn
   | some n=>rw[hke] at hn;exact(List.nodup_cons.1 hn).2
  have ih:=ZK es i (by simpa using h) hk hn' j
  simp only[List.eraseIdx_cons_succ,look,ih]
  by_cases hj:j=k
  ·subst hj;simp[hne]
  ·rw[if_neg hj,if_neg hj]
theorem zaF {es:List MapEntry}(ho:KE es)(i:Nat):KE (es.eraseIdx i):=
 ⟨fun e he=>ho.1 e (List.mem_of_mem_eraseIdx he),(List.Sublist.filterMap _ (List.eraseIdx_sublist es i)).nodup ho.2⟩
theorem ZX {P:Program}{w:World}{r:Nat}{es:Array MapEntry}{cl:Nat}(h:w.heap[r]? = some (.map es cl)):(getObj r).run P w = .ok (.map es cl) w:=by simp[getObj,Sem.run,h]
theorem ziI {P:Program}{w:World}{r:Nat}{es:Array MapEntry}{cl:Nat}(o:Obj)(h:w.heap[r]? = some (.map es cl)):(setObj r o).run P w = .ok () (w.putObj r o):=by simp[setObj,Sem.run,h,World.putObj]
theorem Yx {P:Program}{w:World}{kt:TypeId}{n:Int}{l:List MapEntry}{a:Option (Nat × Value)}(hd:P.underlying kt=some (.int .i64))(h:Instr.findNow (.int .i64) (.int .i64 n) l 0=some a):(Instr.findKey kt (.int .i64 n) l).run P w = .ok a w:=by
 unfold Instr.findKey;simp[run_underlying hd,h]
def mapT (P:Program)(t:TypeId):Option TypeId:=match P.underlying t with
 | some (.map k e)=>match P.underlying k with
  | some (.int .i64)=>some e
  | _=>none
 | _=>none
theorem JH {P:Program}{t e:TypeId}(h:mapT P t=some e):∃ k,P.underlying t=some (.map k e)∧P.underlying k=some (.int .i64):=by
 unfold mapT at h
 split at h
 ·rename_i k e' h1
  split at h
  ·rename_i h2;simp at h;subst h;exact⟨k,h1,h2⟩
  ·cases h
 ·cases h
def uO (s:List AObj):LV × List AObj:=(.mapr s.length,s++[.map fun _=>none])
theorem ZC {P:Program}{C:Ctx}{s:List AObj}{t:TypeId}(hok:Ok C s):Runs P C (Instr.makeMap t none) (uO s).1 (uO s).2 C.τ:=by
 have hle:=hok.le_push (.map #[] 0)
 refine⟨C.push (.map #[] 0),.map (some C.w.heap.size),hle,hok.push _ (.map fun _=>none) ⟨#[],0,yH _ _,⟨by simp,by simp⟩,fun k=>by simp[look,vc]⟩,rfl,?_,?_⟩
 ·simp only[uO,RelV]
  have hn:C.n=s.length:=hok.n
  exact⟨by simp[Ctx.push,hn],by simp[Ctx.push,hn]⟩
 ·simp[Instr.makeMap,Ctx.push]
def YH (P:Program)(t:TypeId)(x i:LV)(ok:Bool)(s:List AObj):Option LV:=match mapT P t,x,i with
 | some e,.mapr id,.int .i64 k=>match s[id]?,zT P e with
  | some (.map f),some z=>some (if ok=true then .tup [(f k).getD z,.bool (f k).isSome] else (f k).getD z)
  | _,_=>none
 | _,_,_=>none
theorem Xb {P:Program}{C:Ctx}{s:List AObj}{t:TypeId}{x i y:LV}{v iv:Value}{ok:Bool}(hok:Ok C s)(hx:RelV C x v)(hi:RelV C i iv)(h:YH P t x i ok s=some y):Runs P C (Instr.lookup t v iv ok) y s C.τ:=by
 unfold YH at h
 split at h
 ·rename_i e id k hm
  obtain⟨kt,hu,hk⟩:=JH hm
  split at h
  ·rename_i f z hs hz
   simp only[Option.some.injEq] at h;subst h
   simp only[RelV] at hx hi
   obtain⟨hx1,rfl⟩:=hx
   subst hi
   obtain⟨es,cl,h1,h2,h3⟩:=hok.obj id _ hs
   obtain⟨zv,hzr,hzv⟩:=wX hz C
   have hf:(Instr.findKey kt (.int .i64 k) es.toList).run P C.w = .ok (QW es.toList k 0) C.w:=Yx hk (vV k _ 0 h2.1)
   have hc:(Instr.checkKey es.isEmpty 10000 kt (.int .i64 k)).run P C.w = .ok () C.w:=by
    unfold Instr.checkKey;simp[run_underlying hk]
   have hlk:=uY es.toList k 0
   have h4:=h3 k
   cases hl:QW es.toList k 0 with
   | none=>
    rw[hl] at hlk
    have hlk:look es.toList k=none:=hlk.symm
    rw[hlk] at h4
    cases hfk:f k with
    | some x=>rw[hfk] at h4;exact h4.elim
    | none=>
     refine Runs.quiet hok (u:=if ok=true then .tuple #[zv,.bool false] else zv) ?_ ?_
     ·cases ok
      ·simpa using hzv
      ·simp only[if_true,Option.isSome_none,Option.getD_none,RelV]
       exact⟨_,rfl,_,_,rfl,hzv,_,_,rfl,by simp[RelV],rfl⟩
     ·simp[Instr.lookup,run_underlying hu,ZX h1,hc,hf,hl,hzr]
   | some p=>
    obtain⟨j,u⟩:=p
    rw[hl] at hlk
    have hlk:look es.toList k=some u:=hlk.symm
    rw[hlk] at h4
    cases hfk:f k with
    | none=>rw[hfk] at h4;exact h4.elim
    | some x=>
     rw[hfk] at h4
     refine Runs.quiet hok (u:=if ok=true then .tuple #[u,.bool true] else u) ?_ ?_
     ·cases ok
      ·simpa[vc] using h4
      ·simp only[if_true,Option.isSome_some,Option.getD_some,RelV]
       exact⟨_,rfl,_,_,rfl,h4,_,_,rfl,by simp[RelV],rfl⟩
     ·simp[Instr.lookup,run_underlying hu,ZX h1,hc,hf,hl]
  ·cases h
 ·cases h
theorem Yr {C:Ctx}{s:List AObj}{id:Nat}{f g:Int→Option LV}(hok:Ok C s)(hs:s[id]? = some (.map f))(es:Array MapEntry)(cl:Nat)(hk:KE es.toList)(hr:∀ k,vc C (g k) (look es.toList k)) :
  ∃ C',C'.w=C.w.putObj (C.ρ id) (.map es cl)∧C.le C'∧Ok C' (s.set id (.map g))∧C'.τ = C.τ:=by
 have hid:=(List.getElem?_eq_some_iff.1 hs).1
 have hin:id<C.n:=by rw[hok.n];exact hid
 obtain⟨o1,o2,o3⟩:=hok.own id hin
 have hlim:C.lim (C.ρ id)=0:=o2.resolve_left fun hb=>by rw[hs] at hb;cases hb
 obtain⟨es0,cl0,h1,_⟩:=hok.obj id _ hs
 have h0:bs C.w (C.ρ id)=0:=by unfold bs;rw[h1]
 have hle:=C.le_putO o1 hlim h0 (.map es cl)
 refine⟨C.putO (C.ρ id) (.map es cl),rfl,hle,hok.putO hid hs (fun _ h=>by cases h) (fun _ h=>by cases h) hlim h0 _ ?_,rfl⟩
 exact⟨es,cl,World.putObj_heap_same o3,hk,fun k=>vc.mono hle (hr k)⟩
def Qc (P:Program)(t:TypeId)(m k x:LV)(s:List AObj):Option (List AObj):=match mapT P t,m,k with
 | some _,.mapr id,.int .i64 k=>match s[id]? with
  | some (.map f)=>some (s.set id (.map (fput f k x)))
  | _=>none
 | _,_,_=>none
theorem uc {P:Program}{C:Ctx}{s s':List AObj}{t:TypeId}{m k x:LV}{mv kv xv:Value}(hok:Ok C s)(hm:RelV C m mv)(hk:RelV C k kv)(hx:RelV C x xv)(h:Qc P t m k x s=some s') :
  ∃ C',C.le C'∧Ok C' s'∧C'.τ = C.τ∧(Instr.mapUpdate t mv kv xv).run P C.w = .ok () C'.w:=by
 unfold Qc at h
 split at h
 ·rename_i e id n hmt
  obtain⟨kt,hu,hkt⟩:=JH hmt
  split at h
  ·rename_i f hs
   simp only[Option.some.injEq] at h;subst h
   simp only[RelV] at hm hk
   obtain⟨hm1,rfl⟩:=hm
   subst hk
   obtain⟨es,cl,h1,h2,h3⟩:=hok.obj id _ hs
   have hf:(Instr.findKey kt (.int .i64 n) es.toList).run P C.w = .ok (QW es.toList n 0) C.w:=Yx hkt (vV n _ 0 h2.1)
   have hc:(Instr.checkKey false 10000 kt (.int .i64 n)).run P C.w = .ok () C.w:=by
    unfold Instr.checkKey;simp[run_underlying hkt]
   have hlk:=uY es.toList n 0
   have hset:∀ o,(setObj (C.ρ id) o).run P C.w = .ok () (C.w.putObj (C.ρ id) o):=fun o=>ziI o h1
   cases hl:QW es.toList n 0 with
   | none=>
    rw[hl] at hlk
    have hlk:look es.toList n=none:=hlk.symm
    obtain⟨C',e1,e2,e3,e4⟩:=Yr (g:=fput f n x) hok hs (es.push {key:=.int .i64 n,val:=xv,born:=cl }) (cl+1) (by simpa using zby h2 hlk) (fun j=>by
     rw[Array.toList_push,zgb _ _ _ _ hlk]
     unfold fput
     split
     ·exact hx
     ·exact h3 j)
    refine⟨C',e2,e3,e4,?_⟩
    rw[e1]
    simp[Instr.mapUpdate,run_underlying hu,ZX h1,hc,hf,hl,hset]
   | some p=>
    obtain⟨j,u⟩:=p
    obtain⟨_,ent,q1,q2,q3⟩:=YD _ _ _ hl
    simp only[Nat.sub_zero] at q1
    have hkey:=zep q2
    obtain⟨C',e1,e2,e3,e4⟩:=Yr (g:=fput f n x) hok hs (es.modify j fun e=>{e with key:=.int .i64 n,val:=xv }) cl (by rw[Array.toList_modify];exact YC q1 q2 h2) (fun j'=>by
     rw[Array.toList_modify,Jx _ _ q1 q2 h2.2]
     unfold fput
     split
     ·exact hx
     ·exact h3 j')
    refine⟨C',e2,e3,e4,?_⟩
    have hej:es[j]? = some ent:=by simpa using q1
    rw[e1]
    simp[Instr.mapUpdate,run_underlying hu,ZX h1,hc,hf,hl,hset,hej,hkey,Instr.keyThatStays,Instr.sameBits]
  ·cases h
 ·cases h
def Yt (P:Program)(t:TypeId)(m k:LV)(s:List AObj):Option (List AObj):=match mapT P t,m,k with
 | some _,.mapr id,.int .i64 k=>match s[id]? with
  | some (.map f)=>some (s.set id (.map (fdel f k)))
  | _=>none
 | _,_,_=>none
theorem YQ {P:Program}{C:Ctx}{s s':List AObj}{t t2 ty:TypeId}{m k:LV}{mv kv:Value}(hok:Ok C s)(hm:RelV C m mv)(hk:RelV C k kv)(h:Yt P t m k s=some s') :
  ∃ C',C.le C'∧Ok C' s'∧C'.τ = C.τ∧(Builtin.delete_ #[t,t2] ty #[mv,kv]).run P C.w = .ok (.tuple #[]) C'.w:=by
 unfold Yt at h
 split at h
 ·rename_i e id n hmt
  obtain⟨kt,hu,hkt⟩:=JH hmt
  split at h
  ·rename_i f hs
   simp only[Option.some.injEq] at h;subst h
   simp only[RelV] at hm hk
   obtain⟨hm1,rfl⟩:=hm
   subst hk
   obtain⟨es,cl,h1,h2,h3⟩:=hok.obj id _ hs
   have hf:(Instr.findKey kt (.int .i64 n) es.toList).run P C.w = .ok (QW es.toList n 0) C.w:=Yx hkt (vV n _ 0 h2.1)
   have hc:(Instr.checkKey es.isEmpty 10000 kt (.int .i64 n)).run P C.w = .ok () C.w:=by
    unfold Instr.checkKey;simp[run_underlying hkt]
   have hlk:=uY es.toList n 0
   have hset:∀ o,(setObj (C.ρ id) o).run P C.w = .ok () (C.w.putObj (C.ρ id) o):=fun o=>ziI o h1
   cases hl:QW es.toList n 0 with
   | none=>
    rw[hl] at hlk
    have hlk:look es.toList n=none:=hlk.symm
    obtain⟨C',e1,e2,e3,e4⟩:=Yr (g:=fdel f n) hok hs es cl h2 (fun j=>by
     unfold fdel
     split
     ·rename_i e;subst e;rw[hlk];trivial
     ·exact h3 j)
    refine⟨C',e2,e3,e4,?_⟩
    rw[e1]
    simp[Builtin.delete_,run_underlying hu,ZX h1,hc,hf,hl,hset]
   | some p=>
    obtain⟨j,u⟩:=p
    obtain⟨_,ent,q1,q2,q3⟩:=YD _ _ _ hl
    simp only[Nat.sub_zero] at q1
    obtain⟨C',e1,e2,e3,e4⟩:=Yr (g:=fdel f n) hok hs (es.eraseIdxIfInBounds j) cl (by rw[Array.toList_eraseIdxIfInBounds];exact zaF h2 j) (fun j'=>by
     rw[Array.toList_eraseIdxIfInBounds,ZK _ _ q1 q2 h2.2]
     unfold fdel
     split
     ·trivial
     ·exact h3 j')
    refine⟨C',e2,e3,e4,?_⟩
    rw[e1]
    simp[Builtin.delete_,run_underlying hu,ZX h1,hc,hf,hl,hset]
  ·cases h
 ·cases h
end Go.Hb
end
