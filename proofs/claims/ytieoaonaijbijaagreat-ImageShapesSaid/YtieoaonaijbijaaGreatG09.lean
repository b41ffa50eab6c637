/-
  A layer for reasoning about the program's calls, and contracts of its functions. CONDITIONS: none; each theorem bears its own.
-/
import Derived.Test.YtieoaonaijbijaaGreatG08
import Derived.Test.YtieoaonaijbijaaGreatG03
import Derived.Sort.Row
import Derived.Sort.Grow
import Derived.Deep.Draws
import Derived.Test.YtieoaonaijbijaaGreatG06
import Derived.Shelf.Sort.Plain
import Derived.Test.YtieoaonaijbijaaGreatG07
import Derived.Test.YtieoaonaijbijaaGreatG04
set_option linter.unusedVariables false
set_option linter.unusedSimpArgs false
section
namespace Go.Hb
open Go
def betC (l:List Int)(a b:Int):Bool:=l.all fun x=> !(decide (x<a) || decide (b<x))
def vq (l:List Int):Bool:=betC l (-1073741824) 1073741824
def frmK (p:Prog)(f:Frm):Bool:=
 if f.func<0∨(p.funcs.length:Int)≤f.func then false
 else decide (0≤f.pc) && (decide (f.pc≤(nth p.funcs f.func.toNat).code.length) && (decide ((f.locals.length:Int)=(nth p.funcs f.func.toNat).locals) && vq f.locals))
def zaH (t:Thr):Bool:=decide (t.state<0) || decide (9<t.state) || decide (t.code<0) || decide (6<t.code) || decide (8<t.frames.length) || decide (16<t.stack.length) || !vq t.stack || !decide (t.on=keep t.on)
def thrK (p:Prog)(t:Thr):Bool:=
 if zaH t=true then false else if t.frames.all (frmK p)=false then false
 else if t.state=9 then decide (t.frames.length=0) && decide (t.stack.length=0) else decide (0<t.frames.length) && decide (t.code=0)
def rowK (t:Int)(l:List Int):Bool:=betC l 0 (t-1) && !decide (32<l.length)
def rowsK (L:List (List Int))(n t:Int):Bool:=if (L.length:Int)=n then L.all (rowK t) else false
def KP (t:Int)(l:List Int)(k:Nat):Bool:= !(decide (nth l (2*k)<0) || decide (t≤nth l (2*k)) || !decide (nth l (2*k+1)=keep (nth l (2*k+1))))
def chK0 (p:Prog)(c:Cor)(i:Nat):Bool:= !betC (nth c.bufs i) (-1073741824) 1073741824 || decide (nth p.chans i<(nth c.bufs i).length) || decide (64<(nth c.sendq i).length) || !decide ((nth c.sendq i).length%2=0)
def chK (p:Prog)(c:Cor)(i:Nat):Bool:=if chK0 p c i=true then false else (List.range ((nth c.sendq i).length/2)).all (KP c.threads.length (nth c.sendq i))
def Qm (p:Prog)(c:Cor):Bool:=
 if c.bufs.length=p.chans.length∧c.sendq.length=p.chans.length∧rowsK c.recvq p.chans.length c.threads.length=true then (List.range p.chans.length).all (chK p c) else false
def vh (e:Int)(p:Prog)(c:Cor):Bool:=decide (e<0) || decide (1073741824<e) || decide (c.now<0) || decide (1073741824<c.now) || decide (c.threads.length<1) || decide (p.threads<c.threads.length)
def wR (e:Int)(p:Prog)(c:Cor):Bool:=
 if vh e p c=true then false else if c.threads.all (thrK p)=false then false
 else betC c.owners (-1) (c.threads.length-1) && (betC c.counts 0 1073741824 && (rowsK c.lockq p.mutexes c.threads.length && (rowsK c.waitq p.conds.length c.threads.length && (rowsK c.downq p.semas.length c.threads.length && (decide ((c.owners.length:Int)=p.mutexes) && (decide (c.counts.length=p.semas.length) && Qm p c))))))
section
variable {α : Type} [Enc α] {l:List α} {f:α→Bool}
theorem XF {k:Nat}(h:k<l.length)(hf:f (nth l k)=false):l.all f=false:=by
 rw[Bool.eq_false_iff]
 intro h1
 rw[List.all_eq_true] at h1
 have:=h1 _ (zm h)
 rw[hf] at this;cases this
theorem KA (h:∀ k,k<l.length→f (nth l k)=true):l.all f=true:=by
 rw[List.all_eq_true]
 intro x hx
 obtain⟨i,hi,rfl⟩:=List.getElem_of_mem hx
 have:=h i hi
 rw[zK hi] at this
 exact this
theorem allN {k:Nat}(h:l.all f=true)(hk:k<l.length):f (nth l k)=true:=List.all_eq_true.1 h _ (zm hk)
end
theorem JI {l:List Int}{a b:Int}(h:betC l a b=true):∀ x∈l,a≤x∧x≤b:=fun x hx=>by
 have:=List.all_eq_true.1 h x hx
 simp at this;exact this
theorem zeh {L:List (List Int)}{n t:Int}(h:rowsK L n t=true):(L.length:Int)=n∧∀ l∈L,l.length≤32:=by
 unfold rowsK at h
 split at h
 ·rename_i e
  refine⟨e,fun l hl=>?_⟩
  have:=List.all_eq_true.1 h l hl
  unfold rowK at this
  simp at this
  exact this.2
 ·cases h
end Go.Hb
end
section
namespace Go.Hb
open Go
structure Img where
 ver:Int
 ep:Int
 p:Prog
 c:Cor
def Img.lv (x:Img):List LV:=.int .i64 x.ver :: .int .i64 x.ep :: (x.p.lv++x.c.lv)
instance:Enc Img:=⟨19,Img.lv,⟨0,0,⟨[],0,[],[],[],[],0⟩,⟨0,[],[],[],[],[],[],[],[],[]⟩⟩,fun _=>rfl,fun f n=>by simp[Img.lv,Prog.lv,Cor.lv,zH,LV.under]⟩
@[simp] theorem sz_img:Enc.sz Img=19:=rfl
def uw (L:List (List Int))(at_:Int)(l:List Int):List (List Int):=L.set (zA at_ L.length).toNat (nth L (zA at_ L.length).toNat++l)
def Zo (c:Cor)(at_:Int)(f:Thr→Thr):Cor:={c with threads:=c.threads.set (zA at_ c.threads.length).toNat (f (nth c.threads (zA at_ c.threads.length).toNat)) }
def pcTo (n:Int)(t:Thr):Thr:={t with frames:=t.frames.set 0 {nth t.frames 0 with pc:=n } }
def zaA (c:Cor)(w at_ n:Int):Cor:=
 if w=1 then {c with now:=n }
 else if w=2 then Zo c at_ fun t=>{t with state:=n }
 else if w=3 then Zo c at_ fun t=>{t with on:=n }
 else if w=4 then Zo c at_ fun t=>{t with stack:=t.stack++[n] }
 else if w=5 then Zo c at_ (pcTo n)
 else if w=6 then {c with owners:=c.owners.set (zA at_ c.owners.length).toNat n }
 else if w=7 then {c with counts:=c.counts.set (zA at_ c.counts.length).toNat n }
 else if w=8 then {c with lockq:=uw c.lockq at_ [n] }
 else if w=9 then {c with waitq:=uw c.waitq at_ [n] }
 else if w=10 then {c with downq:=uw c.downq at_ [n] }
 else if w=11 then {c with sendq:=uw c.sendq at_ [n,n] }
 else if w=12 then {c with recvq:=uw c.recvq at_ [n] }
 else if w=13 then {c with bufs:=uw c.bufs at_ [n] }
 else if w=15 then {c with owners:=c.owners++[n] }
 else c
def Ku (x:Img)(what at_ n:Int):Img:=
 ⟨if zA what 16=14 then n else x.ver,if zA what 16=0 then n else x.ep,x.p,zaA x.c (zA what 16) at_ n⟩
def Qi (L:List (List Int))(k:Nat):Prop:=L.length≤100∧∀ l∈L,l.length≤100+2*k
def zaL (t:Thr)(k:Nat):Prop:=t.frames.length≤8∧t.stack.length≤16+k∧∀ f∈t.frames,f.locals.length≤8
structure SizeC (c:Cor)(k:Nat):Prop where
 thr:1≤c.threads.length∧c.threads.length≤100
 th:∀ t∈c.threads,zaL t k
 owners:c.owners.length≤100+k
 counts:c.counts.length≤100+k
 bufs:Qi c.bufs k
 lockq:Qi c.lockq k
 waitq:Qi c.waitq k
 downq:Qi c.downq k
 sendq:Qi c.sendq k
 recvq:Qi c.recvq k
theorem Qi.up {L:List (List Int)}{k:Nat}(h:Qi L k):Qi L (k+1):=⟨h.1,fun l hl=>by have:=h.2 l hl;omega⟩
theorem zaL.up {t:Thr}{k:Nat}(h:zaL t k):zaL t (k+1):=⟨h.1,by have:=h.2.1;omega,h.2.2⟩
theorem SizeC.up {c:Cor}{k:Nat}(h:SizeC c k):SizeC c (k+1):=
 ⟨h.thr,fun t ht=>(h.th t ht).up,by have:=h.owners;omega,by have:=h.counts;omega,h.bufs.up,h.lockq.up,h.waitq.up,h.downq.up,h.sendq.up,h.recvq.up⟩
theorem wj {L:List (List Int)}{k:Nat}(h:Qi L k)(a:Int){l:List Int}(hl:l.length≤2):Qi (uw L a l) (k+1):=by
 unfold uw
 refine⟨by simpa using h.1,fun q hq=>?_⟩
 rcases List.mem_or_eq_of_mem_set hq with hq | rfl
 ·have:=h.2 q hq;omega
 ·by_cases hk:(zA a L.length).toNat<L.length
  ·have:=h.2 _ (zm hk)
   simp;omega
  ·rw[uI (by omega)]
   show ([]++l).length≤_
   simp;omega
theorem Qb {c:Cor}{k:Nat}(h:SizeC c k)(a:Int){f:Thr→Thr}(hf:∀ t,zaL t k→zaL (f t) (k+1)):SizeC (Zo c a f) (k+1):=by
 refine⟨by simpa[Zo] using h.thr,fun t ht=>?_,h.up.owners,h.up.counts,h.up.bufs,h.up.lockq,h.up.waitq,h.up.downq,h.up.sendq,h.up.recvq⟩
 rcases List.mem_or_eq_of_mem_set ht with ht | rfl
 ·exact(h.th t ht).up
 ·refine hf _ ?_
  by_cases hk:(zA a c.threads.length).toNat<c.threads.length
  ·exact h.th _ (zm hk)
  ·rw[uI (by omega)]
   exact⟨by show ([]:List Frm).length≤_;simp,by show ([]:List Int).length≤_;simp,fun g hg=>by cases hg⟩
theorem zfQ {t:Thr}{k:Nat}{n:Int}(h:zaL t k):zaL (pcTo n t) k:=by
 refine⟨by simpa[pcTo] using h.1,h.2.1,fun f hf=>?_⟩
 rcases List.mem_or_eq_of_mem_set hf with hf | rfl
 ·exact h.2.2 f hf
 ·show (nth t.frames 0).locals.length≤8
  by_cases hk:0<t.frames.length
  ·exact h.2.2 _ (zm hk)
  ·rw[uI (by omega)]
   show ([]:List Int).length≤8
   simp
theorem zeH {c:Cor}{k:Nat}(h:SizeC c k)(w a n:Int):SizeC (zaA c w a n) (k+1):=by
 have u:=h.up
 unfold zaA
 by_cases e1:w=1
 ·rw[if_pos e1];exact⟨u.thr,u.th,u.owners,u.counts,u.bufs,u.lockq,u.waitq,u.downq,u.sendq,u.recvq⟩
 rw[if_neg e1]
 by_cases e2:w=2
 ·rw[if_pos e2];exact Qb h a fun t ht=>⟨ht.up.1,ht.up.2.1,ht.up.2.2⟩
 rw[if_neg e2]
 by_cases e3:w=3
 ·rw[if_pos e3];exact Qb h a fun t ht=>⟨ht.up.1,ht.up.2.1,ht.up.2.2⟩
 rw[if_neg e3]
 by_cases e4:w=4
 ·rw[if_pos e4];exact Qb h a fun t ht=>⟨ht.1,by have:=ht.2.1;simp;omega,ht.2.2⟩
 rw[if_neg e4]
 by_cases e5:w=5
 ·rw[if_pos e5];exact Qb h a fun t ht=>(zfQ ht).up
 rw[if_neg e5]
 by_cases e6:w=6
 ·rw[if_pos e6];exact⟨u.thr,u.th,by simpa using u.owners,u.counts,u.bufs,u.lockq,u.waitq,u.downq,u.sendq,u.recvq⟩
 rw[if_neg e6]
 by_cases e7:w=7
 ·rw[if_pos e7];exact⟨u.thr,u.th,u.owners,by simpa using u.counts,u.bufs,u.lockq,u.waitq,u.downq,u.sendq,u.recvq⟩
 rw[if_neg e7]
 by_cases e8:w=8
 ·rw[if_pos e8];exact⟨u.thr,u.th,u.owners,u.counts,u.bufs,wj h.lockq a (by simp),u.waitq,u.downq,u.sendq,u.recvq⟩
 rw[if_neg e8]
 by_cases e9:w=9
 ·rw[if_pos e9];exact⟨u.thr,u.th,u.owners,u.counts,u.bufs,u.lockq,wj h.waitq a (by simp),u.downq,u.sendq,u.recvq⟩
 rw[if_neg e9]
 by_cases e10:w=10
 ·rw[if_pos e10];exact⟨u.thr,u.th,u.owners,u.counts,u.bufs,u.lockq,u.waitq,wj h.downq a (by simp),u.sendq,u.recvq⟩
 rw[if_neg e10]
 by_cases e11:w=11
 ·rw[if_pos e11];exact⟨u.thr,u.th,u.owners,u.counts,u.bufs,u.lockq,u.waitq,u.downq,wj h.sendq a (by simp),u.recvq⟩
 rw[if_neg e11]
 by_cases e12:w=12
 ·rw[if_pos e12];exact⟨u.thr,u.th,u.owners,u.counts,u.bufs,u.lockq,u.waitq,u.downq,u.sendq,wj h.recvq a (by simp)⟩
 rw[if_neg e12]
 by_cases e13:w=13
 ·rw[if_pos e13];exact⟨u.thr,u.th,u.owners,u.counts,wj h.bufs a (by simp),u.lockq,u.waitq,u.downq,u.sendq,u.recvq⟩
 rw[if_neg e13]
 by_cases e15:w=15
 ·rw[if_pos e15];exact⟨u.thr,u.th,by have:=h.owners;simp;omega,u.counts,u.bufs,u.lockq,u.waitq,u.downq,u.sendq,u.recvq⟩
 rw[if_neg e15]
 exact u
theorem SizeC.corB {c:Cor}{k:Nat}(h:SizeC c k)(hk:k≤2):CorB c:=by
 have q:∀ {L:List (List Int)},Qi L k→ZF L:=fun {L} h=>⟨by have:=h.1;omega,fun l hl=>by have:=h.2 l hl;omega⟩
 exact⟨by have:=h.thr;omega,by have:=h.owners;omega,by have:=h.counts;omega,q h.bufs,q h.lockq,q h.waitq,q h.downq,q h.sendq,q h.recvq⟩
theorem SizeC.thrB {c:Cor}{k:Nat}(h:SizeC c k)(hk:k≤2):∀ t∈c.threads,ThrB t:=fun t ht=>⟨(h.th t ht).1,by have:=(h.th t ht).2.1;omega,(h.th t ht).2.2⟩
theorem Inv.sizeL {p:Prog}{ex:Int}{D:Nat→Int→Prop}{c:Cor}(h:Inv p ex D c)(hp:MayP p){L:List (List Int)}{r:Int}(hL:∀ k,nth L k=zJ c r k)(hn:L.length=yv p r)(h8:L.length≤8):Qi L 0:=
 ⟨by omega,fun l hl=>by
  obtain⟨k,hk,rfl⟩:=List.getElem_of_mem hl
  rw[← zK hk,hL]
  have:=h.cnt_le (r:=r) (k:=k) (by omega)
  have:=h.nthr.2
  have:=hp.threads.2
  omega⟩
theorem Inv.size {p:Prog}{ex:Int}{D:Nat→Int→Prop}{c:Cor}(h:Inv p ex D c)(hp:MayP p):SizeC c 0:=by
 have ht:=h.nthr
 have ht2:=hp.threads.2
 have hl:=h.len
 have hm:=hp.mutexes
 have e1:=hl.owners;have e2:=hl.counts;have e3:=hl.bufs;have e4:=hl.lockq;have e5:=hl.waitq;have e6:=hl.downq;have e7:=hl.sendq;have e8:=hl.recvq
 have h1:=hp.conds.1;have h2:=hp.semas.1;have h3:=hp.chans.1
 refine⟨by omega,fun t hx=>?_,by omega,by omega,⟨by omega,fun l hl'=>?_⟩,h.sizeL hp (r:=3) (fun k=>by simp[zJ]) (by simp[yv];omega) (by omega),h.sizeL hp (r:=4) (fun k=>by simp[zJ]) (by simp[yv];omega) (by omega),
  h.sizeL hp (r:=5) (fun k=>by simp[zJ]) (by simp[yv];omega) (by omega),⟨by omega,fun l hl'=>?_⟩,h.sizeL hp (r:=7) (fun k=>by simp[zJ]) (by simp[yv];omega) (by omega)⟩
 ·obtain⟨i,hi,rfl⟩:=List.getElem_of_mem hx
  have h5:=h.thr i hi
  rw[zK hi] at h5
  exact⟨h5.fr,by have:=h5.sk;omega,(zfb hp h5).2.2⟩
 ·obtain⟨k,hk,rfl⟩:=List.getElem_of_mem hl'
  rw[← zK hk]
  have h4:=(h.things.chan k (by omega)).room
  have:=hp.chans.2 (nth p.chans k) (zm (by omega))
  omega
 ·obtain⟨k,hk,rfl⟩:=List.getElem_of_mem hl'
  rw[← zK hk]
  have h4:=QU (h.things.chan k (by omega)).even
  have h5:=h.cnt_le (r:=6) (k:=k) (by simp[yv];omega)
  simp[zJ] at h5
  omega
end Go.Hb
end
section
namespace Go.Hb
open Go Go.RowKit
def Ctx.ahead (C:Ctx)(n:Nat):Ctx:={C with w:=Sort.ahead C.w n }
theorem Ctx.le_ahead (C:Ctx)(n:Nat):C.le (C.ahead n):=
 ⟨rfl,rfl,rfl,Nat.le_refl _,fun _ h=>h,fun _ _=>rfl,fun _=>Nat.le_refl _,fun _ _ _=>rfl,fun _ _=>rfl,Nat.le_refl _,fun _ e h=>⟨e,h,Nat.le_refl _,fun _=>rfl⟩,fun _=>Nat.le_refl _,by first|exact Nat.le_refl _|exact Nat.le_succ _|exact Nat.le_add_right _ _⟩
theorem Ok.ahead {C:Ctx}{s:List AObj}(h:Ok C s)(n:Nat):Ok (C.ahead n) s:=
 ⟨h.n,fun i o ho=>RelO.mono (Ctx.le_ahead C n) rfl (h.obj i o ho),h.inj,h.own,h.tip,h.tipinj,h.tipown,h.kept,h.lim⟩
theorem Ok.grow {s:List AObj} : ∀ (os:List Obj) {C:Ctx},Ok C s→∃ C':Ctx,C'.w=Sort.grow C.w os.toArray∧C.le C'∧Ok C' s∧C'.τ = C.τ∧∀ i,C'.ρ i=C.ρ i
 | [],C,h=>⟨C,by simp,Ctx.le.refl C,h,rfl,fun _=>rfl⟩
 | o :: os,C,h=>by
  obtain⟨C',h1,h2,h3,h4,h5⟩:=Ok.grow os (h.hold o)
  refine⟨C',?_,(h.le_hold o).trans h2,h3,h4,h5⟩
  rw[h1]
  show Sort.grow (C.w.alloc o) os.toArray=_
  rw[Sort.alloc_eq_grow,Sort.grow_grow]
  congr 1
  simp
theorem Yo (w:World)(b:Nat)(F:Array Value){old:Array Value}{T:TypeId}(hold:w.heap[b]? = some (.cells old T (0,0))):Sort.putRow id w b 0 F=w.setRow b (Sort.putCells id 0 F old):=by
 unfold Sort.putRow Sort.mapBlock World.setRow
 have hlt:=(Array.getElem?_eq_some_iff.1 hold).1
 congr 1
 apply Array.ext_getElem?
 intro i
 rw[Array.getElem?_modify,Array.getElem?_modify]
 by_cases e:b=i
 ·subst e
  rw[if_pos rfl,if_pos rfl,hold]
  rfl
 ·rw[if_neg e,if_neg e]
theorem Zn (F old:Array Value)(h:F.size≤old.size):(Sort.putCells id 0 F old).toList=F.toList++old.toList.drop F.size:=by
 apply List.ext_getElem?
 intro i
 unfold Sort.putCells
 rw[Array.getElem?_toList,Array.getElem?_mapIdx]
 by_cases hi:i<F.size
 ·rw[List.getElem?_append_left (by simpa using hi),Array.getElem?_toList,Array.getElem?_eq_getElem hi,Array.getElem?_eq_getElem (by omega)]
  simp[hi]
 ·rw[List.getElem?_append_right (by simp;omega),List.getElem?_drop]
  simp only[Array.length_toList,Array.getElem?_toList]
  rw[show F.size+(i-F.size)=i by omega]
  cases old[i]? with
  | none=>rfl
  | some x=>simp[hi]
theorem zbu {C:Ctx}{s:List AObj}(h:Ok C s){id:Nat}{xs0 xs:List LV}(hs:s[id]? = some (.cells xs0))(hne:xs0≠[])(F:Array Value)(hF:zi C xs F.toList)(h1:∀ u∈F.toList,u.oneCell'=true)(hlen:xs.length≤xs0.length)(n:Nat)(os:Array Obj) :
  ∃ C':Ctx,C'.w=Sort.grow (Sort.putRow _root_.id (Sort.ahead C.w n) (C.ρ id) 0 F) os∧C.le C'∧Ok C' (s.set id (.cells xs))∧C'.τ = C.τ:=by
 have hid:=(List.getElem?_eq_some_iff.1 hs).1
 obtain⟨vs,T,us,ws,k1,k2,k3,k4⟩:=h.obj id _ hs
 have hn:=h.ahead n
 have hle:=Ctx.le_ahead C n
 have hsz:F.size≤vs.size:=by
  have e1:=hF.length
  have e2:=k3.length
  have e3:=congrArg List.length k2
  simp at e1 e3;omega
 have hpl:=Zn F vs hsz
 have hps:(Sort.putCells _root_.id 0 F vs).size=vs.size:=by simp[Sort.putCells]
 have hnd:¬ s[id]? = some (.cells []):=by rw[hs];simpa using hne
 have hlv:C.lim (C.ρ id)=0:=(h.own id (by rw[h.n];exact hid)).2.1.resolve_left hnd
 have hle2:=Ctx.le_set (C.ahead n) (b:=C.ρ id) (h.own id (by rw[h.n];exact hid)).1 hlv (Sort.putCells _root_.id 0 F vs) (old:=vs) (T:=T) k1 (by omega)
 have hset:=hn.set hid hnd hlv (Sort.putCells _root_.id 0 F vs) (old:=vs) (T:=T) k1 (by omega) xs
  ⟨_,T,F.toList,vs.toList.drop F.size,setRow_heap _ _ _ _ _ _ k1,hpl,zi.mono (hle.trans hle2) _ _ hF,h1⟩
 obtain⟨C',c1,c2,c3,c4,_⟩:=Ok.grow os.toList hset
 refine⟨C',?_,(hle.trans hle2).trans c2,c3,c4⟩
 rw[c1]
 have e:=Yo (Sort.ahead C.w n) (C.ρ id) F (old:=vs) (T:=T) k1
 rw[e]
 simp[Ctx.set,Ctx.ahead]
end Go.Hb
end
section
namespace Go.Hb
open Go Go.RowKit
end Go.Hb
end
section
namespace Go.Hb
open Go Go.RowKit
@[simp] theorem intsOf_nil:QS []=some []:=rfl
@[simp] theorem intsOf_cons (a:Int) (r:List LV):QS (.int .i64 a :: r)=(QS r).map (a :: ·):=rfl
theorem zfd {α : Type}[Enc α]{P:Program}{t t2:TypeId}{sz by_:Nat}(hok:xA P t t2 sz by_=true)(hsz:Enc.sz α = sz){l:List α}(h0:l.length≠0)(b0:l.length≤maxLen)(b:l.length*by_≤140737488355328)(S:List AObj) :
  zk P t t2 (.imm sz 0 [] .full) (row l) S=some (.ref sz S.length 0 l.length false,S++[.cells (zd l)]):=by
 subst hsz
 unfold xA at hok
 split at hok
 rotate_left
 ·cases hok
 rename_i e hu
 simp only[Bool.and_eq_true] at hok
 obtain⟨⟨⟨hs,hb⟩,hn⟩,hz⟩:=hok
 cases hs':szT P e with
 | none=>rw[hs'] at hs;cases hs
 | some s'=>
 rw[hs'] at hs;simp at hs;subst hs
 cases hb':zD P e with
 | none=>rw[hb'] at hb;cases hb
 | some b'=>
 rw[hb'] at hb;simp at hb;subst hb
 cases hz':zT P e with
 | none=>rw[hz'] at hz;cases hz
 | some z=>
 rw[hz'] at hz;simp only[Bool.and_eq_true,beq_iff_eq] at hz
 have hy:zQ (Enc.sz α) (row l) S=some (zd l,l.length):=by simp[zQ,row]
 have hnil:zw P t t2 (.imm (Enc.sz α) 0 [] .full) (row l) S=false:=by
  unfold zw
  simp only[hu,hs',hy]
  simp[h0]
 unfold zk
 rw[if_neg (by rw[hnil];simp)]
 simp only
 unfold zF
 simp only[hu,hs',hb',hz',hy]
 rw[if_pos ⟨hn,hz.1,hz.2⟩]
 simp only[uD,if_true]
 rw[if_pos ⟨by omega,by simpa using b,h0⟩]
 simp
theorem zdz {P:Program}{t t2:TypeId}{sz by_:Nat}(hok:xA P t t2 sz by_=true)(S:List AObj):zk P t t2 (.imm sz 0 [] .full) (.emp sz) S=some (.imm sz 0 [] .full,S):=by
 unfold xA at hok
 split at hok
 rotate_left
 ·cases hok
 rename_i e hu
 simp only[Bool.and_eq_true] at hok
 obtain⟨⟨⟨hs,hb⟩,hn⟩,hz⟩:=hok
 cases hs':szT P e with
 | none=>rw[hs'] at hs;cases hs
 | some s'=>
 rw[hs'] at hs;simp at hs;subst hs
 unfold zk
 rw[if_pos]
 unfold zw
 simp only[hu,hs',hn,aSl,zQ,if_true]
 simp
def zir {α : Type}[Enc α](l:List α)(s:List AObj)(v:List Nat)(x:LV)(s':List AObj)(v':List Nat):Prop:=
 v=v'∧((l=[]∧s=s'∧(x = .nils∨x = .imm (Enc.sz α) 0 [] .full))∨(l≠[]∧x = .ref (Enc.sz α) s.length 0 l.length false∧s++[.cells (zd l)]=s'))
theorem KH {P:Program}{t:TypeId}{sz id off n:Nat}{fl:Bool}{κ : IntKind}{a:Int}(h0:0≤a)(h1:a<n) :
  ya P t (.ref sz id off n fl) (some (.int κ a)) none none=if yA P t=some sz then some (.ref sz id (off+a.toNat*sz) (n-a.toNat) fl) else none:=by
 by_cases he:yA P t=some sz
 ·rw[if_pos he]
  obtain⟨e,hu,hs⟩:=yV he
  have hb:zP n (some (.int κ a)) none none=some (a.toNat,n,none):=by
   simp[zP,oInt,h0];omega
  unfold ya
  simp only[hu,hs,if_true]
  rw[hb]
  simp only[Option.bind_some,Option.getD_none]
  rw[if_pos (.inl (by omega))]
  simp
 ·rw[if_neg he]
  unfold ya
  split
  ·rename_i e hu
   split
   ·rename_i n hs
    simp only
    rw[if_neg]
    intro h1
    exact he (by unfold yA;rw[hu];simp only;rw[hs,h1])
   ·rfl
  ·rfl
  ·rfl
theorem XN {P:Program}{t:TypeId}{sz id off n:Nat}{fl:Bool}{κ : IntKind}{b:Int}(h0:0≤b)(h1:b≤n) :
  ya P t (.ref sz id off n fl) none (some (.int κ b)) none=if yA P t=some sz then some (.ref sz id off b.toNat (fl && decide (b.toNat=n))) else none:=by
 by_cases he:yA P t=some sz
 ·rw[if_pos he]
  obtain⟨e,hu,hs⟩:=yV he
  have hb:zP n none (some (.int κ b)) none=some (0,b.toNat,none):=by
   simp[zP,oInt,h0,h1]
  unfold ya
  simp only[hu,hs,if_true]
  rw[hb]
  simp only[Option.bind_some]
  rw[if_pos (.inr trivial)]
  simp
 ·rw[if_neg he]
  unfold ya
  split
  ·rename_i e hu
   split
   ·rename_i n hs
    simp only
    rw[if_neg]
    intro h1
    exact he (by unfold yA;rw[hu];simp only;rw[hs,h1])
   ·rfl
  ·rfl
  ·rfl
theorem Kk {l:List Int}{i:Nat}(h:i<l.length):(zd l)[i]? = some (.int .i64 (nth l i)):=by
 have:=Kj (l:=l) h
 simp only[zcv,Nat.mul_one,yG] at this
 have h2:((zd l).drop i)[0]? = some (.int .i64 (nth l i)):=by
  have:(((zd l).drop i).take 1)[0]? = some (.int .i64 (nth l i)):=by rw[this];rfl
  simpa using this
 simpa using h2
theorem XK:∀ (l:List Int) (j:Nat) (x:Int),j<l.length→wq (zd l) j [.int .i64 x]=zd (l.set j x)
 | i :: l,0,x,_=>by simp[zy,wq]
 | i :: l,j+1,x,h=>by
  have ih:=XK l j x (by simpa using h)
  rw[List.set_cons_succ,zy,zy,← ih]
  simp[wq,yG]
def zay (P:Program)(f:FuncId):Prop:=∀ (blk off cap:Nat) (zs:List Int) (w:World),Go.Sort.Holds (Value.int .i64) w blk off zs.toArray→blk<w.heap.size→zs.length<4611686018427387904→
 Calls P f #[.slice (some ⟨blk,off,none⟩) zs.length cap] w fun e w'=>e = .returned (.tuple #[])∧∃ n os,w'=Go.Sort.grow (Go.Sort.putRow (Value.int .i64) (Go.Sort.ahead w n) blk off (zs.mergeSort fun x y=>decide (x≤y)).toArray) os
theorem QI:∀ l:List Int,zd l=l.map (LV.int .i64)
 | []=>rfl
 | a :: l=>by rw[zy,QI l];rfl
theorem YE {C:Ctx} : ∀ (l:List Int) (us:List Value),zi C (zd l) us↔us=l.map (Value.int .i64)
 | [],us=>by simp[zi]
 | a :: l,us=>by
  rw[zy]
  simp only[yG,List.cons_append,List.nil_append,zi,RelV]
  constructor
  ·rintro⟨v,vs,rfl,rfl,h⟩
   rw[(YE l vs).1 h];rfl
  ·rintro rfl
   exact⟨_,_,rfl,rfl,(YE l _).2 rfl⟩
theorem zcV (w:World)(b:Nat)(l:List Int):Go.Sort.putRow (Value.int .i64) w b 0 l.toArray=Go.Sort.putRow _root_.id w b 0 (l.map (Value.int .i64)).toArray:=by
 unfold Go.Sort.putRow
 congr 1
 funext c
 unfold Go.Sort.putCells
 apply Array.ext_getElem?
 intro i
 simp only[Array.getElem?_mapIdx]
 cases c[i]? with
 | none=>rfl
 | some x=>
  simp only[Option.map_some,Option.some.injEq,List.size_toArray,List.length_map,Nat.zero_add,Nat.sub_zero,Nat.zero_le,true_and]
  by_cases h:i<l.length
  ·simp[h]
  ·simp[h]
def vu (l:List Int):List Int:=l.mergeSort fun x y=>decide (x≤y)
theorem Zk (l:List Int):(vu l).Perm l:=List.mergeSort_perm l _
theorem ZW (l:List Int):(vu l).length=l.length:=(Zk l).length_eq
theorem zeY (l:List Int):(vu l).Pairwise (· ≤ ·):=by
 have:=List.pairwise_mergeSort (le:=fun x y:Int=>decide (x≤y)) (fun a b c h1 h2=>by simp at *;omega) (fun a b=>by simp;omega) l
 exact this.imp (by simp)
theorem zjS {P:Program}{f:FuncId}(hf:fnOk P f=true)(K:zay P f){s:List AObj}{v:List Nat}{id:Nat}{l:List Int}(hs:s[id]? = some (.cells (zd l)))(hne:l≠[])(hn:l.length<4611686018427387904) :
  zp P f [.ref 1 id 0 l.length false] s v fun y s' v'=>y = .tup []∧s.set id (.cells (zd (vu l)))=s'∧v=v':=by
 refine⟨hf,fun C vs hok hτ hargs=>?_⟩
 obtain⟨v0,r0,e0,h0,e2⟩:=hargs
 subst e2
 simp only[RelV] at h0
 obtain⟨hid,cap,rfl,hc1,hc2,_,hc3⟩:=h0
 have hvs:vs = #[.slice (some ⟨C.ρ id,0,none⟩) l.length cap]:=by
  cases vs;simp at e0;simp[e0]
 subst hvs
 obtain⟨old,T,us,ws,k1,k2,k3,k4⟩:=hok.obj id _ hs
 rw[YE] at k3
 subst k3
 have hblk:C.ρ id<C.w.heap.size:=(Array.getElem?_eq_some_iff.1 k1).1
 have hH:Go.Sort.Holds (Value.int .i64) C.w (C.ρ id) 0 l.toArray:=by
  intro j hj
  have hj':j<l.length:=by simpa using hj
  have hold:old[j]? = some (.int .i64 l[j]):=by
   rw[← Array.getElem?_toList,k2,List.getElem?_append_left (by simpa using hj')]
   simp[hj']
  constructor
  ·simp only[World.cell?,Nat.zero_add,k1]
   simpa[hj'] using hold
  ·simp[World.frozen?,k1]
 refine(K (C.ρ id) 0 cap l C.w hH hblk hn).mono ?_
 rintro e w' ⟨rfl,n,os,rfl⟩
 have hF:zi C (zd (vu l)) ((vu l).map (Value.int .i64)).toArray.toList:=(YE _ _).2 rfl
 have h1F:∀ u∈((vu l).map (Value.int .i64)).toArray.toList,u.oneCell'=true:=by
  intro u hu
  obtain⟨t,_,rfl⟩:=List.mem_map.1 (by simpa using hu)
  rfl
 have hne':zd l≠[]:=by rw[QI];simpa using hne
 obtain⟨C',c1,c2,c3,c4⟩:=zbu hok hs hne' ((vu l).map (Value.int .i64)).toArray hF h1F (by rw[QI,QI,List.length_map,List.length_map,ZW];omega) n os
 refine⟨C',.tup [],.tuple #[],_,v,?_,rfl,c2,c3,c4.trans hτ,by simp only[RelV];exact⟨#[],rfl,rfl⟩,rfl,rfl,rfl⟩
 rw[c1,← zcV];rfl
end Go.Hb
end
section
namespace Go.Hb
open Go
def inB (n a b:Int):Bool:= !(decide (n<a) || decide (b<n))
def wd (L:List (List Int))(n:Int)(f:Nat→Bool):Bool:=decide ((L.length:Int)=n) && (List.range L.length).all f
def Kq (t:Int)(l:List Int)(k:Nat):Bool:=if k%2=0 then inB (nth l k) 0 (t-1) else inB (nth l k) (-1073741824) 1073741824
def KN (t:Int)(l:List Int):Bool:=(List.range l.length).all (Kq t l) && (decide ((l.length:Int)≤64) && decide (l.length%2=0))
def bufI (p:Prog)(l:List Int)(k:Nat):Bool:=decide ((l.length:Int)≤nth p.chans k) && betC l (-1073741824) 1073741824
def zkj (p:Prog)(c:Cor):Bool:=decide ((c.owners.length:Int)=p.mutexes) && (betC c.owners (-1) (c.threads.length-1) && (wd c.lockq p.mutexes (fun k=>rowK c.threads.length (nth c.lockq k)) && wd c.waitq p.conds.length (fun k=>rowK c.threads.length (nth c.waitq k))))
def ziP (p:Prog)(c:Cor):Bool:=decide ((c.counts.length:Int)=p.semas.length) && (betC c.counts 0 1073741824 && wd c.downq p.semas.length (fun k=>rowK c.threads.length (nth c.downq k)))
def zhl (p:Prog)(c:Cor):Bool:=wd c.bufs p.chans.length (fun k=>bufI p (nth c.bufs k) k) && (wd c.sendq p.chans.length (fun k=>KN c.threads.length (nth c.sendq k)) && wd c.recvq p.chans.length (fun k=>rowK c.threads.length (nth c.recvq k)))
def barI (e:Int)(p:Prog)(c:Cor):Bool:= !(inB e 0 1073741824 && inB c.now 0 1073741824) || (decide ((c.threads.length:Int)<1) || (decide (p.threads<c.threads.length) || c.threads.any fun t=> !thrK p t))
def zbU (e:Int)(p:Prog)(c:Cor):Bool:=if barI e p c=true then false else zkj p c && (ziP p c && zhl p c)
theorem uy {n:Nat}{f:Nat→Bool} : (List.range n).all f=true↔∀ k,k<n→f k=true:=by
 rw[List.all_eq_true]
 exact⟨fun h k hk=>h k (by simpa using hk),fun h k hk=>h k (by simpa using hk)⟩
theorem zfV {α : Type}[Enc α](l:List α)(f:α→Bool):(List.range l.length).all (fun k=>f (nth l k))=l.all f:=by
 rw[Bool.eq_iff_iff,uy]
 exact⟨fun h=>KA h,fun h k hk=>allN h hk⟩
theorem zce (L:List (List Int))(n t:Int):wd L n (fun k=>rowK t (nth L k))=rowsK L n t:=by
 unfold wd rowsK
 rw[zfV L (rowK t)]
 split
 ·rename_i h;simp[h]
 ·rename_i h;simp[h]
theorem zbv {n a b:Int} : inB n a b=true↔a≤n∧n≤b:=by simp[inB]
theorem zgt {n:Int} : (n=keep n)↔(-1073741824≤n∧n≤1073741824):=by
 unfold keep
 split
 ·omega
 ·split<;>omega
theorem zai {t:Int}{l:List Int}{k:Nat} : KP t l k=true↔(0≤nth l (2*k)∧nth l (2*k)<t)∧(-1073741824≤nth l (2*k+1)∧nth l (2*k+1)≤1073741824):=by
 unfold KP
 rw[← zgt]
 simp
theorem zaw {t:Int}{l:List Int} : KN t l=true↔l.length≤64∧l.length%2=0∧(List.range (l.length/2)).all (KP t l)=true:=by
 unfold KN
 simp only[Bool.and_eq_true,decide_eq_true_eq,uy]
 constructor
 ·rintro⟨h1,h2,h3⟩
  refine⟨by omega,h3,fun k hk=>?_⟩
  have a:=h1 (2*k) (by omega)
  have b:=h1 (2*k+1) (by omega)
  unfold Kq at a b
  rw[if_pos (by omega)] at a
  rw[if_neg (by omega)] at b
  rw[zbv] at a b
  rw[zai]
  omega
 ·rintro⟨h1,h2,h3⟩
  refine⟨fun k hk=>?_,by omega,h2⟩
  have a:=h3 (k/2) (by omega)
  rw[zai] at a
  unfold Kq
  by_cases e:k%2=0
  ·rw[if_pos e,zbv]
   rw[show 2*(k/2)=k from by omega] at a
   omega
  ·rw[if_neg e,zbv]
   rw[show 2*(k/2)+1=k from by omega] at a
   omega
theorem zhc (p:Prog)(c:Cor):zhl p c=Qm p c:=by
 unfold zhl Qm
 rw[zce]
 by_cases h1:c.bufs.length=p.chans.length
 ·by_cases h2:c.sendq.length=p.chans.length
  ·by_cases h3:rowsK c.recvq p.chans.length c.threads.length=true
   ·rw[if_pos ⟨h1,h2,h3⟩,h3]
    unfold wd
    rw[h1,h2]
    simp only[decide_true,Bool.true_and,Bool.and_true]
    rw[Bool.eq_iff_iff]
    simp only[Bool.and_eq_true,uy]
    constructor
    ·rintro⟨a,b⟩ k hk
     have a:=a k hk
     have b:=zaw.1 (b k hk)
     unfold bufI at a
     simp only[Bool.and_eq_true,decide_eq_true_eq] at a
     have h0:¬ chK0 p c k=true:=by
      unfold chK0
      simp[a.2,b.2.1]
      omega
     unfold chK
     rw[if_neg h0]
     exact b.2.2
    ·intro a
     refine⟨fun k hk=>?_,fun k hk=>zaw.2 ?_⟩
     all_goals
      have a:=a k hk
      unfold chK at a
      split at a
      ·cases a
      rename_i h0
      unfold chK0 at h0
      simp only[Bool.or_eq_true,not_or,Bool.not_eq_true',Bool.not_eq_false,decide_eq_true_eq,decide_eq_false_iff_not,Decidable.not_not] at h0
      obtain⟨⟨⟨a1,a2⟩,a3⟩,a4⟩:=h0
     ·unfold bufI
      rw[a1]
      simp;omega
     ·exact⟨by omega,a4,a⟩
   ·rw[if_neg (fun h=>h3 h.2.2)]
    rw[Bool.not_eq_true] at h3
    rw[h3];simp
  ·rw[if_neg (fun h=>h2 h.2.1)]
   have:wd c.sendq p.chans.length (fun k=>KN c.threads.length (nth c.sendq k))=false:=by
    unfold wd
    rw[decide_eq_false (by omega)];rfl
   rw[this];simp
 ·rw[if_neg (fun h=>h1 h.1)]
  have:wd c.bufs p.chans.length (fun k=>bufI p (nth c.bufs k) k)=false:=by
   unfold wd
   rw[decide_eq_false (by omega)];rfl
  rw[this];simp
theorem QT (e:Int)(p:Prog)(c:Cor):zbU e p c=wR e p c:=by
 unfold zbU wR
 have hb:barI e p c=true↔(vh e p c=true∨c.threads.all (thrK p)=false):=by
  unfold barI vh inB
  have:(c.threads.any fun t=> !thrK p t) = !c.threads.all (thrK p):=by
   rw[List.not_all_eq_any_not]
  rw[this]
  generalize c.threads.all (thrK p)=b
  cases b<;>simp only[Bool.not_and,Bool.not_not,Bool.or_eq_true,decide_eq_true_eq,Bool.not_true,Bool.not_false,or_true,or_false,Bool.false_eq_true,reduceCtorEq,true_iff,iff_true]<;>omega
 by_cases h0:vh e p c=true
 ·rw[if_pos h0,if_pos (hb.2 (.inl h0))]
 rw[if_neg h0]
 by_cases h1:c.threads.all (thrK p)=false
 ·rw[if_pos h1,if_pos (hb.2 (.inr h1))]
 rw[if_neg h1,if_neg (fun h=>(hb.1 h).elim h0 h1)]
 unfold zkj ziP
 rw[zhc]
 simp only[zce]
 have e1:decide ((c.counts.length:Int)=p.semas.length)=decide (c.counts.length=p.semas.length):=by rw[decide_eq_decide];omega
 rw[e1]
 generalize betC c.owners (-1) (c.threads.length-1)=a1
 generalize betC c.counts 0 1073741824=a2
 generalize rowsK c.lockq p.mutexes c.threads.length=a3
 generalize rowsK c.waitq p.conds.length c.threads.length=a4
 generalize rowsK c.downq p.semas.length c.threads.length=a5
 generalize decide ((c.owners.length:Int)=p.mutexes)=a6
 generalize decide (c.counts.length=p.semas.length)=a7
 generalize Qm p c=a8
 cases a1<;>cases a2<;>cases a3<;>cases a4<;>cases a5<;>cases a6<;>cases a7<;>cases a8<;>rfl
end Go.Hb
end
section
namespace Go.Hb
open Go
end Go.Hb
end
section
namespace Go.Hb
open Go
end Go.Hb
end
section
namespace Go.Hb
open Go
theorem zcy {P:Program}{t t2:TypeId}{sz by_:Nat}(hok:xA P t t2 sz by_=true)(hsz:0<sz)(hby:by_≤1000){S:List AObj}{n id:Nat}{cs ds:List LV}{x y:LV}(h:RowR S sz n cs x id)(hy0:zQ sz y S=some (ds,1))(hd:ds.length=sz)(b:n+1≤100000000) :
  zk P t t2 x y S=some (.ref sz S.length 0 (n+1) false,(if n=0 then S else S.set id (.cells []))++[.cells (cs++ds)]):=by
 have hm:(n+1)*by_≤100000000*1000:=Nat.mul_le_mul b hby
 have hml:n+1≤maxLen:=by unfold maxLen;omega
 unfold xA at hok
 split at hok
 rotate_left
 ·cases hok
 rename_i e hu
 simp only[Bool.and_eq_true] at hok
 obtain⟨⟨⟨hs,hb⟩,hn⟩,hz⟩:=hok
 cases hs':szT P e with
 | none=>rw[hs'] at hs;cases hs
 | some s'=>
 rw[hs'] at hs;simp at hs;subst hs
 cases hb':zD P e with
 | none=>rw[hb'] at hb;cases hb
 | some b'=>
 rw[hb'] at hb;simp at hb;subst hb
 cases hz':zT P e with
 | none=>rw[hz'] at hz;cases hz
 | some z=>
 rw[hz'] at hz;simp only[Bool.and_eq_true,beq_iff_eq] at hz
 have hy:zQ s' y S=some (ds,1):=hy0
 have hnil:zw P t t2 x y S=false:=by
  unfold zw
  simp only[hu,hs',hy]
  simp
 have hds:0<ds.length:=by omega
 unfold zk
 rw[if_neg (by rw[hnil];simp)]
 rcases h with ⟨rfl,rfl,rfl⟩ | ⟨h1,h1c,rfl,h2,h3⟩
 ·simp only[if_true]
  unfold zF
  simp only[hu,hs',hb',hz',hy]
  rw[if_pos ⟨hn,hz.1,hz.2⟩]
  simp only[uD]
  rw[if_pos ⟨by omega,by omega,by omega⟩]
 ·rw[if_neg h1]
  unfold zI
  simp only[hu,hs',hb',hz',hy,h2]
  rw[if_pos ⟨hn,hz.1,hz.2⟩]
  have htk:cs.take (n*s')=cs:=List.take_of_length_le (by omega)
  rw[if_pos ⟨by trivial,by trivial,by omega,hml,by omega,hds,h1c⟩,htk]
theorem zgC {P:Program}{t t2:TypeId}{by_:Nat}(hok:xA P t t2 5 by_=true)(hby:by_≤1000){s J:List AObj}{a b:AObj}{k d:Nat}{xs ds:List LV}{x:LV}(hr:RowR (s++(a :: b :: J)) 5 k xs x (s.length+(d+2)))(hd:k≠0→d<J.length)(hds:ds.length=5)(hk:k+1≤100000000) :
  ∃ J2,(∀ y,zQ 5 y (s++(a :: b :: (J++[.cells ds])))=some (ds,1)→zk P t t2 x y (s++(a :: b :: (J++[.cells ds])))=some (.ref 5 (s.length+(J.length+1+2)) 0 (k+1) false,s++(a :: b :: J2)))∧RowR (s++(a :: b :: J2)) 5 (k+1) (xs++ds) (.ref 5 (s.length+(J.length+1+2)) 0 (k+1) false) (s.length+(J.length+1+2))∧J2.length=J.length+2:=by
 have hr2:RowR (s++(a :: b :: (J++[.cells ds]))) 5 k xs x (s.length+(d+2)):=hr.keep fun h0=>by
  rw[ze,ze,List.getElem?_append_left (hd h0)]
 have hxl:xs.length=k*5:=by
  rcases hr with ⟨h1,h2,_⟩ | ⟨_,_,_,_,h⟩
  ·rw[h1,h2];rfl
  ·exact h
 have hl:(if k=0 then J++[AObj.cells ds] else (J++[AObj.cells ds]).set d (.cells [])).length=J.length+1:=by split<;>simp
 refine⟨(if k=0 then J++[AObj.cells ds] else (J++[AObj.cells ds]).set d (.cells []))++[AObj.cells (xs++ds)],fun y hy=>?_,.inr ⟨by omega,(by intro h;simp at h;rw[h.2] at hds;cases hds),rfl,?_,?_⟩,?_⟩
 ·rw[zcy (by_:=by_) hok (by omega) hby hr2 hy hds hk]
  have e1:(s++(a :: b :: (J++[AObj.cells ds]))).length=s.length+(J.length+1+2):=by simp
  rw[e1]
  congr 2
  by_cases h0:k=0
  ·rw[if_pos h0,if_pos h0];simp
  ·rw[if_neg h0,if_neg h0,vU,List.set_cons_succ,List.set_cons_succ];simp
 ·rw[ze,List.getElem?_append_right (by omega),hl];simp
 ·rw[List.length_append,hxl,hds];omega
 ·rw[List.length_append,hl];rfl
end Go.Hb
end
section
namespace Go.Hb
open Go
theorem Zp (x:Thr)(l:List Thr):zd (x :: l) = .int .i64 x.state :: .int .i64 x.on :: row x.frames :: row x.stack :: .int .i64 x.code :: zd l:=rfl
theorem zcs (a:Int):∀ (l:List Thr) {k:Nat},k<l.length→(zd l).set (k*5) (.int .i64 a)=zd (l.set k {nth l k with state:=a })
 | x :: l,0,_=>rfl
 | x :: l,k+1,h=>by
  have ih:=zcs a l (k:=k) (by simpa using h)
  rw[show (k+1)*5=k*5+1+1+1+1+1 by omega,Zp]
  simp only[List.set_cons_succ]
  rw[ih];rfl
theorem zbP (a:Int):∀ (l:List Thr) {k:Nat},k<l.length→(zd l).set (k*5+1) (.int .i64 a)=zd (l.set k {nth l k with on:=a })
 | x :: l,0,_=>rfl
 | x :: l,k+1,h=>by
  have ih:=zbP a l (k:=k) (by simpa using h)
  rw[show (k+1)*5+1=k*5+1+1+1+1+1+1 by omega,Zp]
  simp only[List.set_cons_succ]
  rw[ih];rfl
theorem QN {P:Program}{t t2:TypeId}(hok:xA P t t2 1 8=true){l:List Int}(hb:l.length≤10000000)(s J:List AObj)(a b:AObj) :
  ∃ x J',zk P t t2 .nils (row l) (s++(a :: b :: J))=some (x,s++(a :: b :: (J++J')))∧(x.cells=[x]∧x.cellsOk=true)∧∀ (a' b':AObj) (K:List AObj),RowR (s++(a' :: b' :: (J++(J'++K)))) 1 l.length (zd l) x (s.length+(J.length+2)):=by
 obtain⟨x,J',ha,hJ⟩:=Jv (P:=P) (t:=t) (t2:=t2) (sz:=1) (by_:=8) hok rfl (by omega) (l:=l) (by unfold maxLen;omega) (by omega) (s++(a :: b :: J))
 have hr:∀ (a' b':AObj) (K:List AObj),RowR (s++(a' :: b' :: (J++(J'++K)))) 1 l.length (zd l) x (s.length+(J.length+2)):=by
  intro a' b' K
  rcases hJ with ⟨rfl,rfl,rfl⟩ | ⟨e1,rfl,rfl⟩
  ·exact .inl ⟨rfl,rfl,rfl⟩
  ·have hl1:l.length≠0:=fun e=>e1 (List.length_eq_zero_iff.1 e)
   have e2:(s++(a :: b :: J)).length=s.length+(J.length+2):=by simp
   rw[e2]
   refine .inr ⟨hl1,xe (by simp) e1,rfl,?_,by rw[zY];simp⟩
   rw[ze,List.getElem?_append_right (Nat.le_refl _)];simp
 exact⟨x,J',by rw[ha];simp,(hr a b []).cells,hr⟩
def CloR (c:Cor)(s:List AObj)(v:List Nat)(x:LV)(s':List AObj)(v':List Nat):Prop:=
 ∃ J d xO xC dO dC,s++J=s'∧J[d]? = some (.cells (zd c.threads))∧RowR (s++J) 1 c.owners.length (zd c.owners) xO (s.length+dO)∧RowR (s++J) 1 c.counts.length (zd c.counts) xC (s.length+dC)∧dO≠d∧(dC≠d∧(c.owners.length≠0→dO≠dC))∧v <+: v'∧
  x = .agg [.int .i64 c.now,.ref 5 (s.length+d) 0 c.threads.length false,xO,xC,row c.bufs,row c.lockq,row c.waitq,row c.downq,row c.sendq,row c.recvq]
end Go.Hb
end
section
namespace Go.Hb
open Go
theorem zW {S:List AObj}{n:Nat}{ver ep:Int}{p:Prog}{c:Cor}{xT xO xC xB xL xW xD xS xR:LV}(hT:DeepV S n xT (row c.threads))(hO:DeepV S n xO (row c.owners))(hC:DeepV S n xC (row c.counts))
  (hB:DeepV S n xB (row c.bufs)) (hL:DeepV S n xL (row c.lockq)) (hW:DeepV S n xW (row c.waitq)) (hD:DeepV S n xD (row c.downq)) (hS:DeepV S n xS (row c.sendq)) (hR:DeepV S n xR (row c.recvq)) :
  DeepV S n (.agg [.int .i64 ver,.int .i64 ep,row p.funcs,.int .i64 p.mutexes,row p.conds,row p.semas,row p.chans,row p.choices,.int .i64 p.threads,.int .i64 c.now,xT,xO,xC,xB,xL,xW,xD,xS,xR]) (.agg (Img.lv ⟨ver,ep,p,c⟩)):=
 .agg _ _ (.cons _ _ _ _ (.keep _ rfl) (.cons _ _ _ _ (.keep _ rfl) (.cons _ _ _ _ (.keep _ (by simp)) (.cons _ _ _ _ (.keep _ rfl) (.cons _ _ _ _ (.keep _ (by simp)) (.cons _ _ _ _ (.keep _ (by simp)) (.cons _ _ _ _ (.keep _ (by simp)) (.cons _ _ _ _ (.keep _ (by simp)) (.cons _ _ _ _ (.keep _ rfl) (.cons _ _ _ _ (.keep _ rfl)
  (.cons _ _ _ _ hT (.cons _ _ _ _ hO (.cons _ _ _ _ hC (.cons _ _ _ _ hB (.cons _ _ _ _ hL (.cons _ _ _ _ hW (.cons _ _ _ _ hD (.cons _ _ _ _ hS (.cons _ _ _ _ hR .nil)))))))))))))))))))
theorem rowD {α : Type}[Enc α]{S:List AObj}{n:Nat}(l:List α):DeepV S n (row l) (row l):=.keep _ (by simp)
theorem CloR.two {c:Cor}{s:List AObj}{a b:AObj}{v v':List Nat}{x:LV}{s':List AObj}(h:CloR c (s++[a,b]) v x s' v') :
  ∃ J d xO xC dO dC,s'=s++(a :: b :: J)∧J[d]? = some (.cells (zd c.threads))∧RowR (s++(a :: b :: J)) 1 c.owners.length (zd c.owners) xO (s.length+(dO+2))∧RowR (s++(a :: b :: J)) 1 c.counts.length (zd c.counts) xC (s.length+(dC+2))∧dO≠d∧(dC≠d∧(c.owners.length≠0→dO≠dC))∧v <+: v'∧
   x = .agg [.int .i64 c.now,.ref 5 (s.length+(d+2)) 0 c.threads.length false,xO,xC,row c.bufs,row c.lockq,row c.waitq,row c.downq,row c.sendq,row c.recvq]:=by
 obtain⟨J,d,xO,xC,dO,dC,h1,h2,h3,h4,h5,h6,h7,h8⟩:=h
 have e1:∀ n,(s++[a,b]).length+n=s.length+(n+2):=fun n=>by simp;omega
 rw[e1] at h3 h4 h8
 simp only[List.append_assoc,List.cons_append,List.nil_append] at h1 h3 h4
 exact⟨J,d,xO,xC,dO,dC,h1.symm,h2,h3,h4,h5,h6,h7,h8⟩
theorem RowR.oth2 {s J J':List AObj}{a b a' b':AObj}{n d e:Nat}{cs:List LV}{x:LV}(h:RowR (s++(a :: b :: J)) 1 n cs x (s.length+(e+2)))(hJ:∀ i,i≠d→i<J.length→J'[i]? = J[i]?)(he:n≠0→e≠d):RowR (s++(a' :: b' :: J')) 1 n cs x (s.length+(e+2)):=
 h.keep fun h0=>by
  have hl:=h.lt h0
  simp at hl
  rw[ze,ze]
  exact hJ e (he h0) (by omega)
theorem RowR.two {s J:List AObj}{a b:AObj}{n d:Nat}{cs:List LV}{x:LV}(h:RowR (s++[a,b]++J) 1 n cs x ((s++[a,b]).length+d))(A B:AObj):RowR (s++(A :: B :: J)) 1 n cs x (s.length+(d+2)):=by
 have e:(s++[a,b]).length+d=s.length+(d+2):=by simp;omega
 rw[e] at h
 refine h.keep fun _=>?_
 rw[ze,show s++[a,b]++J=s++(a :: b :: J) by simp,ze]
def selL (c:Cor)(j:Nat):List (List Int):=if j=0 then c.bufs else if j=1 then c.lockq else if j=2 then c.waitq else if j=3 then c.downq else if j=4 then c.sendq else c.recvq
def selX (c:Cor)(j:Nat)(y:LV):LV:=.agg [.int .i64 c.now,row c.threads,row c.owners,row c.counts,if j=0 then y else row c.bufs,if j=1 then y else row c.lockq,if j=2 then y else row c.waitq,if j=3 then y else row c.downq,if j=4 then y else row c.sendq,if j=5 then y else row c.recvq]
def CloL (c:Cor)(j:Nat)(s:List AObj)(v:List Nat)(x:LV)(s':List AObj)(v':List Nat):Prop:=
 ∃ K d cs y,s++K=s'∧RowR (s++K) 1 (selL c j).length cs y (s.length+d)∧((selL c j).length≠0→d<K.length)∧ListsG v v' (selL c j) cs∧x=selX c j y
theorem CloL.two {c:Cor}{j:Nat}{s:List AObj}{a b:AObj}{v v':List Nat}{x:LV}{s':List AObj}(h:CloL c j (s++[a,b]) v x s' v') :
  ∃ K d cs y,s'=s++(a :: b :: K)∧RowR (s++(a :: b :: K)) 1 (selL c j).length cs y (s.length+(d+2))∧((selL c j).length≠0→d<K.length)∧ListsG v v' (selL c j) cs∧x=selX c j y:=by
 obtain⟨K,d,cs,y,h1,h2,h3,h4,h5⟩:=h
 exact⟨K,d,cs,y,by rw[← h1];simp,h2.two a b,h3,h4,h5⟩
def putL (c:Cor)(j:Nat)(L:List (List Int)):Cor:=if j=0 then {c with bufs:=L } else if j=1 then {c with lockq:=L } else if j=2 then {c with waitq:=L } else if j=3 then {c with downq:=L } else if j=4 then {c with sendq:=L } else {c with recvq:=L }
theorem SizeC.sel {c:Cor}{k:Nat}(h:SizeC c k)(j:Nat):Qi (selL c j) k:=by
 unfold selL
 by_cases e0:j=0
 ·rw[if_pos e0];exact h.bufs
 rw[if_neg e0]
 by_cases e1:j=1
 ·rw[if_pos e1];exact h.lockq
 rw[if_neg e1]
 by_cases e2:j=2
 ·rw[if_pos e2];exact h.waitq
 rw[if_neg e2]
 by_cases e3:j=3
 ·rw[if_pos e3];exact h.downq
 rw[if_neg e3]
 by_cases e4:j=4
 ·rw[if_pos e4];exact h.sendq
 rw[if_neg e4];exact h.recvq
end Go.Hb
end
section
namespace Go.Hb
open Go
def csT (l:List Thr)(t:Nat)(xF xS:LV):List LV:=((zd l).set (t*5+2) xF).set (t*5+3) xS
theorem thr5 (l:List Thr):(zd l).length=l.length*5:=by rw[zY];rfl
theorem zfN (l:List Thr)(t:Nat)(xF xS:LV):(csT l t xF xS).length=l.length*5:=by unfold csT;simp[thr5]
theorem zfk {l:List Thr}{t:Nat}(h:l.length≤t)(xF xS:LV):csT l t xF xS=zd l:=by
 unfold csT
 have:=thr5 l
 rw[List.set_eq_of_length_le (i:=t*5+2) (by omega),List.set_eq_of_length_le (by omega)]
theorem Kv (l:List Thr)(th:Thr):zd (l++[th])=zd l++th.lv:=by simp[zd,Enc.enc]
theorem zkZ {l:List Thr}{t:Nat}(h:l.length=t)(th:Thr)(xF xS:LV):csT (l++[th]) t xF xS=zd l++[.int .i64 th.state,.int .i64 th.on,xF,xS,.int .i64 th.code]:=by
 unfold csT
 have:=thr5 l
 rw[Kv,List.set_append_right _ _ (by omega),List.set_append_right _ _ (by omega),show t*5+2-(zd l).length=2 by omega,show t*5+3-(zd l).length=3 by omega]
 rfl
theorem zkV {l:List Thr}{t:Nat}(h:t<l.length)(th:Thr)(xF xS:LV):csT (l++[th]) t xF xS=csT l t xF xS++th.lv:=by
 unfold csT
 have:=thr5 l
 rw[Kv,List.set_append_left _ _ (by omega),List.set_append_left _ _ (by rw[List.length_set];omega)]
theorem zcA (fr:List Frm)(sk:List Int):∀ (l:List Thr) {k:Nat},k<l.length→((zd l).set (k*5+2) (row fr)).set (k*5+3) (row sk)=zd (l.set k {nth l k with frames:=fr,stack:=sk })
 | x :: l,0,_=>rfl
 | x :: l,k+1,h=>by
  have ih:=zcA fr sk l (k:=k) (by simpa using h)
  rw[show (k+1)*5+2=k*5+2+1+1+1+1+1 by omega,show (k+1)*5+3=k*5+3+1+1+1+1+1 by omega,Zp]
  simp only[List.set_cons_succ]
  rw[ih];rfl
theorem DeepVs.set {S:List AObj}{n:Nat}{x y:LV} : ∀ {xs ys:List LV} (i:Nat),DeepVs S n xs ys→DeepV S n x y→DeepVs S n (xs.set i x) (ys.set i y)
 | _,_,_,.nil,_=>by simpa using DeepVs.nil
 | _,_,0,.cons _ _ _ _ _ hs,h=>.cons _ _ _ _ h hs
 | _,_,i+1,.cons _ _ _ _ h0 hs,h=>.cons _ _ _ _ h0 (DeepVs.set i hs h)
theorem zhK {S:List AObj}{n:Nat}{l:List Thr}{t:Nat}(h:t<l.length){xF xS:LV}{fr:List Frm}{sk:List Int}(hF:DeepV S n xF (row fr))(hS:DeepV S n xS (row sk)) :
  DeepVs S n (csT l t xF xS) (zd (l.set t {nth l t with frames:=fr,stack:=sk })):=by
 rw[← zcA fr sk l h]
 exact DeepVs.set _ (DeepVs.set _ (ul _ (xj n l)) hF) hS
structure ThrA (S:List AObj)(b e:Nat)(t:Thr)(xF xS:LV)(ids:List Nat)(r:List LV)(iF iS:Nat):Prop where
 frames:RowR S 3 t.frames.length r xF iF
 fr:yK S t.frames ids r
 stack:RowR S 1 t.stack.length (zd t.stack) xS iS
 ids:∀ id∈ids,b≤id∧id<e∧(t.frames.length≠0→id≠iF)∧(t.stack.length≠0→id≠iS)
 atF:b≤iF∧(t.frames.length≠0→iF<e)
 atS:b≤iS∧(t.stack.length≠0→iS<e)
 ne:t.frames.length≠0→t.stack.length≠0→iF≠iS
theorem ThrA.keep {S S':List AObj}{b b' e e':Nat}{t:Thr}{xF xS:LV}{ids:List Nat}{r:List LV}{iF iS:Nat}(h:ThrA S b e t xF xS ids r iF iS)(hk:∀ i,b≤i→i<e→S'[i]? = S[i]?)(hb:b'≤b)(he:e≤e'):ThrA S' b' e' t xF xS ids r iF iS:=
 ⟨h.frames.keep fun h0=>hk _ h.atF.1 (h.atF.2 h0),h.fr.keep fun i hi=>hk _ (h.ids i hi).1 (h.ids i hi).2.1,h.stack.keep fun h0=>hk _ h.atS.1 (h.atS.2 h0),
  fun i hi=>⟨Nat.le_trans hb (h.ids i hi).1,Nat.lt_of_lt_of_le (h.ids i hi).2.1 he,(h.ids i hi).2.2⟩,⟨Nat.le_trans hb h.atF.1,fun h0=>Nat.lt_of_lt_of_le (h.atF.2 h0) he⟩,⟨Nat.le_trans hb h.atS.1,fun h0=>Nat.lt_of_lt_of_le (h.atS.2 h0) he⟩,h.ne⟩
theorem XL {P:Program}{t t2:TypeId}{by_:Nat}(hok:xA P t t2 5 by_=true)(hby:by_≤1000){s J:List AObj}{a b:AObj}{k d:Nat}{xs ds:List LV}{x:LV}(hr:RowR (s++(a :: b :: J)) 5 k xs x (s.length+(d+2)))(hd:k≠0→d<J.length)(hds:ds.length=5)(hk:k+1≤100000000) :
  ∃ J2,(∀ y,zQ 5 y (s++(a :: b :: (J++[.cells ds])))=some (ds,1)→zk P t t2 x y (s++(a :: b :: (J++[.cells ds])))=some (.ref 5 (s.length+(J.length+1+2)) 0 (k+1) false,s++(a :: b :: J2)))∧RowR (s++(a :: b :: J2)) 5 (k+1) (xs++ds) (.ref 5 (s.length+(J.length+1+2)) 0 (k+1) false) (s.length+(J.length+1+2))∧J2.length=J.length+2∧
   ∀ i,(k≠0→i≠d)→i<J.length→J2[i]? = J[i]?:=by
 have hr2:RowR (s++(a :: b :: (J++[.cells ds]))) 5 k xs x (s.length+(d+2)):=hr.keep fun h0=>by
  rw[ze,ze,List.getElem?_append_left (hd h0)]
 have hxl:xs.length=k*5:=by
  rcases hr with ⟨h1,h2,_⟩ | ⟨_,_,_,_,h⟩
  ·rw[h1,h2];rfl
  ·exact h
 have hl:(if k=0 then J++[AObj.cells ds] else (J++[AObj.cells ds]).set d (.cells [])).length=J.length+1:=by split<;>simp
 refine⟨(if k=0 then J++[AObj.cells ds] else (J++[AObj.cells ds]).set d (.cells []))++[AObj.cells (xs++ds)],fun y hy=>?_,.inr ⟨by omega,(by intro h;simp at h;rw[h.2] at hds;cases hds),rfl,?_,?_⟩,?_,fun i hi hlt=>?_⟩
 ·rw[zcy (by_:=by_) hok (by omega) hby hr2 hy hds hk]
  have e1:(s++(a :: b :: (J++[AObj.cells ds]))).length=s.length+(J.length+1+2):=by simp
  rw[e1]
  congr 2
  by_cases h0:k=0
  ·rw[if_pos h0,if_pos h0];simp
  ·rw[if_neg h0,if_neg h0,vU,List.set_cons_succ,List.set_cons_succ];simp
 ·rw[ze,List.getElem?_append_right (by omega),hl];simp
 ·rw[List.length_append,hxl,hds];omega
 ·rw[List.length_append,hl];rfl
 ·rw[List.getElem?_append_left (by omega)]
  split
  ·rw[List.getElem?_append_left hlt]
  ·rename_i h0
   rw[List.getElem?_set_ne (Ne.symm (hi h0)),List.getElem?_append_left hlt]
def CloT (c:Cor)(t:Nat)(s:List AObj)(v:List Nat)(x:LV)(s':List AObj)(v':List Nat):Prop:=
 ∃ J d xO xC dO dC xF xS ids r iF iS,s++J=s'∧J[d]? = some (.cells (csT c.threads t xF xS))∧ThrA (s++J) s.length (s.length+d) (nth c.threads t) xF xS ids r iF iS∧
  RowR (s++J) 1 c.owners.length (zd c.owners) xO (s.length+dO)∧RowR (s++J) 1 c.counts.length (zd c.counts) xC (s.length+dC)∧d<dO∧d<dC∧v <+: v'∧
  x = .agg [.int .i64 c.now,.ref 5 (s.length+d) 0 c.threads.length false,xO,xC,row c.bufs,row c.lockq,row c.waitq,row c.downq,row c.sendq,row c.recvq]
theorem CloT.two {c:Cor}{t:Nat}{s:List AObj}{a b:AObj}{v v':List Nat}{x:LV}{s':List AObj}(h:CloT c t (s++[a,b]) v x s' v') :
  ∃ J d xO xC dO dC xF xS ids r iF iS,s'=s++(a :: b :: J)∧J[d]? = some (.cells (csT c.threads t xF xS))∧ThrA (s++(a :: b :: J)) (s.length+2) (s.length+(d+2)) (nth c.threads t) xF xS ids r iF iS∧
   RowR (s++(a :: b :: J)) 1 c.owners.length (zd c.owners) xO (s.length+(dO+2))∧RowR (s++(a :: b :: J)) 1 c.counts.length (zd c.counts) xC (s.length+(dC+2))∧d<dO∧d<dC∧v <+: v'∧
   x = .agg [.int .i64 c.now,.ref 5 (s.length+(d+2)) 0 c.threads.length false,xO,xC,row c.bufs,row c.lockq,row c.waitq,row c.downq,row c.sendq,row c.recvq]:=by
 obtain⟨J,d,xO,xC,dO,dC,xF,xS,ids,r,iF,iS,h1,h2,h3,h4,h5,h6,h7,h8,h9⟩:=h
 have e1:∀ n,(s++[a,b]).length+n=s.length+(n+2):=fun n=>by simp;omega
 have e2:(s++[a,b]).length=s.length+2:=by simp
 rw[e1,e2] at h3
 rw[e1] at h4 h5 h9
 simp only[List.append_assoc,List.cons_append,List.nil_append] at h1 h3 h4 h5
 exact⟨J,d,xO,xC,dO,dC,xF,xS,ids,r,iF,iS,h1.symm,h2,h3,h4,h5,h6,h7,h8,h9⟩
theorem zjq {S:List AObj}{n id:Nat}{l l':List Thr}{cs:List LV}(hn:n≤id)(hS:S[id]? = some (.cells cs))(hl:cs.length=l.length*5)(h0:l≠[])(he:l'.length=l.length)(hd:DeepVs S n cs (zd l')):DeepV S n (.ref 5 id 0 l.length false) (row l'):=by
 have hne:l.length≠0:=fun e=>h0 (List.length_eq_zero_iff.1 e)
 refine RowR.deep (α:=Thr) (id:=id) (cs:=cs) ?_ hn hd
 rw[he]
 exact .inr ⟨hne,by intro e;rw[e] at hl;simp at hl;omega,rfl,hS,hl⟩
end Go.Hb
end
section
namespace Go.Hb
open Go
def jf (i:Nat)(P:Program)(f:FuncId)(fn:Func)(s:ChangeSpec)(c:OpenClaim):Bool:=
 match i with
 | 0=>c.wf (OpenSpec.ofChange s) && (fn.params.all (P.readableRec ·) && (namedTie P c.named s.vars && ((c.stops == []) && ((P.stops == []) && ((c.knobs == []) && (P.stopKnobs == []))))))
 | 1=>laidOutB P
 | 2=>mapsRowed P
 | 3=>c.inPlace == P.inPlace f
 | 4=>c.unfollowed == P.unfollowed f
 | 5=>c.recurses == P.recurses f
 | 6=>c.named == P.varsNamed f
 | 7=>(c.maps == (fn.params.toList++s.plain.varTypes P).any (P.mapsRec ·)) && ((c.ifaces == (fn.params.toList++s.plain.varTypes P).any (P.ifacesRec ·)) && ((c.mapsOut == P.mapsAmong fn.resultTypes.toList) && ((c.loops == (fn.params.toList++s.plain.varTypes P).any (P.loopsFrom ·)) && ((c.wideKeys == (fn.params.toList++s.plain.varTypes P++fn.resultTypes.toList).any (P.wideKeysFrom ·)) && (s.vars.all (P.varReadable ·) && (fn.resultTypes.all (fun t=>P.readableRec t && decide (t<P.types.size)) && ((c.ifacesOut == fn.resultTypes.toList.any (P.ifacesRec ·)) && (c.loopsOut == fn.resultTypes.toList.any (P.loopsFrom ·)))))))))
 | 8=>c.plainKeys == P.plainKeys
 | 9=>c.shortTexts.isNone && P.stopsHeard
 | 10=>P.mayEnter
 | 11=>c.lifted == P.liftsFinal
 | 12=>P.make == some c.make
 | _=>(c.kinds == (if c.domain.isEmpty then [] else fn.params.toList.map fun t=>match P.underlying t with | some (.int k)=>some k | _=>none)) && ((c.pinned == c.pinnedBy) && ((c.veiled == (fn.params.toList++s.plain.varTypes P++fn.resultTypes.toList).any (P.veiledRec ·)) && c.veiledFits P fn.params.toList (fn.params.toList++s.plain.varTypes P++fn.resultTypes.toList)))
theorem zeM {P:Program}{f:FuncId}{fn:Func}{s:ChangeSpec}{c:OpenClaim}(h0:jf 0 P f fn s c=true)(h1:jf 1 P f fn s c=true)(h2:jf 2 P f fn s c=true)(h3:jf 3 P f fn s c=true)(h4:jf 4 P f fn s c=true)(h5:jf 5 P f fn s c=true)(h6:jf 6 P f fn s c=true)(h7:jf 7 P f fn s c=true)(h8:jf 8 P f fn s c=true)(h9:jf 9 P f fn s c=true)(h10:jf 10 P f fn s c=true)(h11:jf 11 P f fn s c=true)(h12:jf 12 P f fn s c=true)(h13:jf 13 P f fn s c=true):joinedFacts P f fn s c=true:=by
 simp only[jf,Bool.and_eq_true] at h0 h1 h2 h3 h4 h5 h6 h7 h8 h9 h10 h11 h12 h13
 unfold joinedFacts
 simp only[Bool.and_eq_true]
 obtain⟨a1,a2,a3,a4,a5,a6,a7⟩:=h0
 obtain⟨b1,b2,b3,b4,b5,b6,b7,b8,b9⟩:=h7
 exact⟨⟨⟨⟨⟨⟨⟨⟨⟨⟨⟨⟨⟨⟨⟨⟨⟨⟨⟨⟨⟨⟨⟨⟨⟨⟨⟨⟨⟨⟨⟨a1,h1⟩,h2⟩,a2⟩,a3⟩,a4⟩,a5⟩,a6⟩,a7⟩,h3⟩,h4⟩,h5⟩,h6⟩,b1⟩,b2⟩,b3⟩,b4⟩,b5⟩,b6⟩,b7⟩,b8⟩,b9⟩,h8⟩,h9.1⟩,h9.2⟩,h10⟩,h11⟩,h12⟩,h13.1⟩,h13.2.1⟩,h13.2.2.1⟩,h13.2.2.2⟩
end Go.Hb
end
