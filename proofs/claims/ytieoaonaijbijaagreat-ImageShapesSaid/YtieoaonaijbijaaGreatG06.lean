/-
  A layer for reasoning about the program's calls, and contracts of its functions. CONDITIONS: none; each theorem bears its own.
-/
import Derived.Test.YtieoaonaijbijaaGreatG05
set_option linter.unusedVariables false
set_option linter.unusedSimpArgs false
section
namespace Go.Hb
open Go
def yM (n:Nat):List UInt8:=if h:n<128 then [UInt8.ofNat n] else UInt8.ofNat (128+n%128) :: yM (n/128)
termination_by n
decreasing_by omega
def zb (v:Int):List UInt8:=yM v.toNat
theorem ZZ:∀ (k n:Nat),n<128 ^ k→0<k→(yM n).length≤k
 | 0,_,_,h=>absurd h (by omega)
 | k+1,n,h,_=>by
  rw[yM]
  by_cases h1:n<128
  ·simp[h1]
  ·simp only[h1,dite_false,List.length_cons]
   by_cases hk:k=0
   ·subst hk;simp at h;omega
   ·have:=ZZ k (n/128) (by rw[Nat.pow_succ] at h;omega) (by omega)
    omega
theorem uP {v:Int}(h:v≤9223372036854775807):(zb v).length≤9:=by
 have e:(128:Nat) ^ 9=9223372036854775808:=by decide
 exact ZZ 9 _ (by rw[e];omega) (by omega)
def yb (a:Int):List UInt8:=
 let v:=if a < -2305843009213693952 then -2305843009213693952 else if 2305843009213693951<a then 2305843009213693951 else a
 if v<0 then zb (2*(-(v+1))+1) else zb (2*v)
def insB (i:Ins):List UInt8:=UInt8.ofInt i.op :: yb i.a
def fnB (f:Fn_):List UInt8:=zb f.locals++zb f.code.length++f.code.flatMap insB
def yz (l:List Int):List UInt8:=zb l.length++l.flatMap zb
def ue (p:Prog):List UInt8:=zb p.funcs.length++p.funcs.flatMap fnB++zb p.mutexes++yz p.conds++yz p.semas++yz p.chans++(zb p.choices.length++p.choices.flatMap yz)++zb p.threads
theorem Xm (n:Nat):IntKind.u8.wrap (n:Int)=((n%256:Nat):Int):=by
 simp[IntKind.wrap,IntKind.signed,IntKind.bits]
theorem zkY (n:Nat):(UInt8.ofNat n).toNat=n%256:=by simp
theorem zli:∀ m:Nat,m<256→IntKind.u8.wrap (((m ||| 128:Nat)):Int)=((UInt8.ofNat (128+m%128)).toNat:Int):=by decide +kernel
theorem ziw (q:Nat):IntKind.u8.wrap (((((q:Int)%2 ^ IntKind.u8.bits).toNat ||| 128%2 ^ IntKind.u8.bits:Nat)):Int)=((UInt8.ofNat (128+q%128)).toNat:Int):=by
 have e1:((q:Int)%2 ^ IntKind.u8.bits).toNat=q%256:=by
  have:((2:Int) ^ IntKind.u8.bits)=256:=by decide
  rw[this];omega
 have e2:(128:Nat)%2 ^ IntKind.u8.bits=128:=by decide
 rw[e1,e2,zli (q%256) (by omega)]
 congr 2
 rw[show 128+q%256%128=128+q%128 by omega]
theorem zlB (q:Nat):IntKind.u8.wrap ((((IntKind.u8.wrap (q:Int)%2 ^ IntKind.u8.bits).toNat ||| 128%2 ^ IntKind.u8.bits:Nat)):Int)=((UInt8.ofNat (128+q%128)).toNat:Int):=by
 have h:=ziw (q%256)
 rw[← Xm q,show 128+q%256%128=128+q%128 by omega] at h
 exact h
theorem u8_z {q:Nat}{z:Int}(h:z=((UInt8.ofNat q).toNat:Int)):IntKind.u8.wrap (q:Int)=z∧(q:Int)%256=z:=by
 subst h;rw[Xm,zkY];constructor
 ·rfl
 ·omega
def WAt (v0 v:List Nat)(bs:List UInt8)(x:LV)(B:Nat):Prop:=GroE v0 v bs x∧bs.length≤B
def wu (s:List AObj)(id:Nat)(v0:List Nat)(bs:List UInt8)(B:Nat)(_:LV)(s':List AObj)(v':List Nat):Prop:=∃ x',s'=s.set id (.cells [x'])∧WAt v0 v' bs x' B
theorem wK {P:Program}{f:FuncId}{args:List LV}{s:List AObj}{v v0:List Nat}{id B:Nat}{bs:List UInt8}{K:LV→List AObj→List Nat→Prop}(h:zp P f args s v (wu s id v0 bs B))(k:∀ y x' v',WAt v0 v' bs x' B→K y (s.set id (.cells [x'])) v'):zp P f args s v K:=
 zj h fun y s' v' ⟨x',e1,e2⟩=>by subst e1;exact k y x' v' e2
theorem yU {α : Type}[Enc α]{P:Program}{t t2:TypeId}{by_:Nat}(hok:xA P t t2 (Enc.sz α) by_=true)(hby:by_≤1000){f:FuncId}{args:List LV}{s:List AObj}{v0 v:List Nat}{l l2:List α}{x:LV}{B B2:Nat}{K:LV→List AObj→List Nat→Prop}
  (h:zG P f args (row l2)) (hx:Gro v0 v l x∧l.length≤B) (hl:l2.length≤B2) (b:B+B2≤90000000)
  (k:∀ v2 x' v',(Gro v0 v' (l++l2) x'∧(l++l2).length≤B+B2)→(∀ s,zR P t t2 x (row l2) s v2=some (x',v'))→(x'.cells=[x']∧x'.cellsOk=true)→K (row l2) s v2):zp P f args s v K:=
 zg h fun v2 hv2=>by
  have h1:=hx.2
  obtain⟨x',v',e1,_,e2⟩:=Gro.appr (P:=P) (t:=t) (t2:=t2) hok hby (hx.1.mono hv2) l2 (by omega)
  exact k v2 x' v' ⟨e1,by rw[List.length_append];omega⟩ e2 e1.cells
theorem yC {α : Type}[Enc α]{v0 v:List Nat}{l l':List α}{x:LV}{B B':Nat}(h:Gro v0 v l x∧l.length≤B)(e:l=l')(hb:B≤B'):Gro v0 v l' x∧l'.length≤B':=by subst e;exact⟨h.1,Nat.le_trans h.2 hb⟩
theorem zq {n:Int}(h:n≤9223372036854775807):(zb n).length≤9:=uP h
theorem yq {n:Int} : (yb n).length≤9:=by
 unfold yb
 simp only
 split<;>split<;>(try split)<;>exact uP (by omega)
theorem vY {l:List Int}(hl:∀ k<l.length,nth l k≤9223372036854775807)(hll:l.length≤1000):(yz l).length≤9+9*l.length:=by
 have key:∀ k,k≤l.length→((l.take k).flatMap zb).length≤9*k:=by
  intro k
  induction k with
  | zero=>simp
  | succ k ih=>
   intro hk
   have h1:=ih (by omega)
   have h2:=zq (hl k (by omega))
   rw[za (by omega),List.flatMap_append,List.length_append]
   simp only[List.flatMap_cons,List.flatMap_nil,List.append_nil]
   omega
 have:=key l.length (Nat.le_refl _)
 rw[List.take_length] at this
 unfold yz
 rw[List.length_append]
 have:=zq (n:=l.length) (by omega)
 omega
theorem zcD {P:Program}{t t2:TypeId}(hok:xA P t t2 1 1=true){v0 v:List Nat}{l:List UInt8}{x:LV}{B:Nat}(h:Gro v0 v l x∧l.length≤B)(b:UInt8)(hB:B≤90000000) :
  ∃ x' v',(Gro v0 v' (l++[b]) x'∧(l++[b]).length≤B+1)∧(∀ r s,zR P t t2 x (.imm 1 1 [.int .u8 (b.toNat:Int)] r) s v=some (x',v'))∧(x'.cells=[x']∧x'.cellsOk=true):=by
 have h2:=h.2
 obtain⟨x',v',h1,_,h3⟩:=Gro.push (P:=P) (t:=t) (t2:=t2) (sz:=1) (by_:=1) hok rfl (by omega) h.1 b (ds:=[.int .u8 (b.toNat:Int)]) (yh.refl _) rfl (by omega)
 exact⟨x',v',⟨h1,by simp;omega⟩,h3,h1.cells⟩
end Go.Hb
end
section
namespace Go.Hb
open Go
structure Frm where
 func:Int
 pc:Int
 locals:List Int
structure Thr where
 state:Int
 on:Int
 frames:List Frm
 stack:List Int
 code:Int
structure Cor where
 now:Int
 threads:List Thr
 owners:List Int
 counts:List Int
 bufs:List (List Int)
 lockq:List (List Int)
 waitq:List (List Int)
 downq:List (List Int)
 sendq:List (List Int)
 recvq:List (List Int)
structure Evt where
 kind:Int
 thread:Int
 n:Int
structure Req where
 kind:Int
 a:Int
 v:Int
def Frm.lv (f:Frm):List LV:=[.int .i64 f.func,.int .i64 f.pc,row f.locals]
instance:Enc Frm:=⟨3,Frm.lv,⟨0,0,[]⟩,fun _=>rfl,fun f n=>by simp[Frm.lv,zH,LV.under]⟩
@[simp] theorem sz_frm:Enc.sz Frm=3:=rfl
@[simp] theorem enc_frm (f:Frm):Enc.enc f=[.int .i64 f.func,.int .i64 f.pc,row f.locals]:=rfl
def Thr.lv (t:Thr):List LV:=[.int .i64 t.state,.int .i64 t.on,row t.frames,row t.stack,.int .i64 t.code]
instance:Enc Thr:=⟨5,Thr.lv,⟨0,0,[],[],0⟩,fun _=>rfl,fun f n=>by simp[Thr.lv,zH,LV.under]⟩
@[simp] theorem sz_thr:Enc.sz Thr=5:=rfl
@[simp] theorem zba (t:Thr):Enc.enc t=[.int .i64 t.state,.int .i64 t.on,row t.frames,row t.stack,.int .i64 t.code]:=rfl
def Cor.lv (c:Cor):List LV:=[.int .i64 c.now,row c.threads,row c.owners,row c.counts,row c.bufs,row c.lockq,row c.waitq,row c.downq,row c.sendq,row c.recvq]
instance:Enc Cor:=⟨10,Cor.lv,⟨0,[],[],[],[],[],[],[],[],[]⟩,fun _=>rfl,fun f n=>by simp[Cor.lv,zH,LV.under]⟩
def Evt.lv (e:Evt):List LV:=[.int .i64 e.kind,.int .i64 e.thread,.int .i64 e.n]
instance:Enc Evt:=⟨3,Evt.lv,⟨0,0,0⟩,fun _=>rfl,fun _ _=>rfl⟩
@[simp] theorem sz_evt:Enc.sz Evt=3:=rfl
@[simp] theorem zjB (e:Evt):Enc.enc e=[.int .i64 e.kind,.int .i64 e.thread,.int .i64 e.n]:=rfl
def Req.lv (q:Req):List LV:=[.int .i64 q.kind,.int .i64 q.a,.int .i64 q.v]
def keep (n:Int):Int:=if n < -1073741824 then -1073741824 else if 1073741824<n then 1073741824 else n
def at' {α : Type}[Enc α](l:List α)(i:Int):α:=nth l i.toNat
def ux (p:Prog)(f:Int):Frm:=⟨f,0,List.replicate (at' p.funcs f).locals.toNat 0⟩
def zU (p:Prog)(f:Int):Thr:=⟨0,0,[ux p f],[],0⟩
def zO (c:Int):Thr:=⟨9,0,[],[],c⟩
def topF (t:Thr):Frm:=nth t.frames (t.frames.length-1)
def push (t:Thr)(v:Int):Thr × Bool:=if 16≤t.stack.length then (t,false) else ({t with stack:=t.stack++[keep v] },true)
def pop (t:Thr):Thr × Int × Bool:=if t.stack.length=0 then (t,0,false) else ({t with stack:=t.stack.take (t.stack.length-1) },nth t.stack (t.stack.length-1),true)
def enter (p:Prog)(t:Thr)(f:Int):Thr × Bool:=if 8≤t.frames.length then (t,false) else ({t with frames:=t.frames++[ux p f] },true)
def leave (t:Thr):Thr × Bool:=({t with frames:=t.frames.take (t.frames.length-1) },decide (0<t.frames.length-1))
def wb (p:Prog)(t:Thr):Ins × Bool:=
 if ((at' p.funcs (topF t).func).code.length:Int)≤(topF t).pc then (⟨0,0⟩,false) else (at' (at' p.funcs (topF t).func).code (topF t).pc,true)
def jump (t:Thr)(pc:Int):Thr:={t with frames:=t.frames.set (t.frames.length-1) {topF t with pc:=pc } }
def getL (t:Thr)(i:Int):Int:=at' (topF t).locals i
def setL (t:Thr)(i v:Int):Thr:={t with frames:=t.frames.set (t.frames.length-1) {topF t with locals:=(topF t).locals.set i.toNat (keep v) } }
def ends (c:Int):Thr × Req:=(zO c,⟨1,0,c⟩)
def xV (t:Thr)(v:Int):Thr × Req:=if (push t v).2=true then ((push t v).1,⟨0,0,0⟩) else ends 2
def xi (op:Int):Nat:=if op=1∨op=2∨op=6∨op=8∨op=13∨op=14∨op=22∨op=25 then 1 else if op=3∨op=4 then 2 else 0
def uf (op:Int):Int:=
 if op=12 then 2 else if op=11 then 3 else if op=13 then 4 else if op=14 then 5 else if op=15 then 6 else if op=16 then 7 else if op=17 then 8 else if op=18 then 9 else if op=19 then 10
 else if op=20 then 11 else if op=21 then 12 else if op=22 then 13 else if op=23 then 14 else if op=24 then 15 else if op=25 then 16 else 0
def popN:Nat→Thr→Thr × List Int
 | 0,t=>(t,[])
 | n+1,t=>((pop (popN n t).1).1,(popN n t).2++[(pop (popN n t).1).2.1])
def act (p:Prog)(out:Thr)(i:Ins)(l:List Int):Thr × Req:=
 if i.op=0 then xV out i.a
 else if i.op=2 then xV (push out (nth l 0)).1 (nth l 0)
 else if i.op=3 then xV out (nth l 1+nth l 0)
 else if i.op=4 then xV out (nth l 1-nth l 0)
 else if i.op=5 then xV out (getL out i.a)
 else if i.op=6 then (setL out i.a (nth l 0),⟨0,0,0⟩)
 else if i.op=7 then (jump out i.a,⟨0,0,0⟩)
 else if i.op=8 then (if nth l 0=0 then (jump out i.a,⟨0,0,0⟩) else (out,⟨0,0,0⟩))
 else if i.op=9 then (if (enter p out i.a).2=true then ((enter p out i.a).1,⟨0,0,0⟩) else ends 3)
 else if i.op=10 then (if (leave out).2=true then ((leave out).1,⟨0,0,0⟩) else ends 0)
 else if i.op=26 then ends 0
 else (out,⟨0,0,0⟩)
def xU (p:Prog)(t:Thr):Thr × Req:=
 let f:=wb p t
 if f.2=false then ends 6
 else if t.stack.length<xi f.1.op then ends 1
 else
  let x:=popN (xi f.1.op) (jump t ((topF t).pc+1))
  if 0<uf f.1.op then (x.1,⟨uf f.1.op,f.1.a,if 0<xi f.1.op then nth x.2 0 else 0⟩) else act p x.1 f.1 x.2
def yi:Thr→List Int→Thr × Bool
 | t,[]=>(t,true)
 | t,v :: l=>if (push t v).2=true then yi (push t v).1 l else (zO 2,false)
def vG (c:Cor)(m t:Int):Cor × Bool:=
 if 0≤at' c.owners m then ({c with lockq:=c.lockq.set m.toNat (at' c.lockq m++[t]) },false) else ({c with owners:=c.owners.set m.toNat t },true)
def zf (c:Cor)(m t:Int):Cor × Int × Int:=
 if at' c.owners m≠t then (c, -1,10)
 else if 0<(at' c.lockq m).length then ({c with owners:=c.owners.set m.toNat (nth (at' c.lockq m) 0),lockq:=c.lockq.set m.toNat ((at' c.lockq m).drop 1) },nth (at' c.lockq m) 0,0)
 else ({c with owners:=c.owners.set m.toNat (-1) }, -1,0)
def xN (c:Cor)(cond m t:Int):Cor × Int × Int:=
 if (zf c m t).2.2≠0 then (c,(zf c m t).2.1,(zf c m t).2.2)
 else ({(zf c m t).1 with waitq:=(zf c m t).1.waitq.set cond.toNat (at' (zf c m t).1.waitq cond++[t]) },(zf c m t).2.1,(zf c m t).2.2)
def yk (c:Cor)(cond m:Int):Cor × Int × Bool:=
 if (at' c.waitq cond).length=0 then (c, -1,false)
 else
  let x:=vG {c with waitq:=c.waitq.set cond.toNat ((at' c.waitq cond).drop 1) } m (nth (at' c.waitq cond) 0)
  (x.1,nth (at' c.waitq cond) 0,x.2)
def Zy (c:Cor)(s t:Int):Cor × Bool:=
 if at' c.counts s=0 then ({c with downq:=c.downq.set s.toNat (at' c.downq s++[t]) },false) else ({c with counts:=c.counts.set s.toNat (at' c.counts s-1) },true)
def upC (c:Cor)(s:Int):Cor × Int:=
 if (at' c.downq s).length=0 then (if at' c.counts s<1073741824 then ({c with counts:=c.counts.set s.toNat (at' c.counts s+1) }, -1) else (c, -1))
 else ({c with downq:=c.downq.set s.toNat ((at' c.downq s).drop 1) },nth (at' c.downq s) 0)
def xP (c:Cor)(t:Int):Cor:={c with recvq:=c.recvq.map fun l=>l.filter fun x=>decide (x≠t) }
def xM (c:Cor)(ch room t v:Int):Cor × Int × Bool:=
 if 0<(at' c.recvq ch).length then (xP c (nth (at' c.recvq ch) 0),nth (at' c.recvq ch) 0,true)
 else if ((at' c.bufs ch).length:Int)<room then ({c with bufs:=c.bufs.set ch.toNat (at' c.bufs ch++[v]) }, -1,true)
 else ({c with sendq:=c.sendq.set ch.toNat (at' c.sendq ch++[t,v]) }, -1,false)
def vv (c:Cor)(ch:Int):Bool:=decide (0<(at' c.bufs ch).length) || decide (0<(at' c.sendq ch).length)
def yN (c:Cor)(ch t:Int):Cor × Int × Int × Bool:=
 if 0<(at' c.bufs ch).length then
  (if 0<(at' c.sendq ch).length then
   ({c with bufs:=c.bufs.set ch.toNat ((at' c.bufs ch).drop 1++[nth (at' c.sendq ch) 1]),sendq:=c.sendq.set ch.toNat ((at' c.sendq ch).drop 2) },nth (at' c.bufs ch) 0,nth (at' c.sendq ch) 0,true)
  else ({c with bufs:=c.bufs.set ch.toNat ((at' c.bufs ch).drop 1) },nth (at' c.bufs ch) 0, -1,true))
 else if 0<(at' c.sendq ch).length then ({c with sendq:=c.sendq.set ch.toNat ((at' c.sendq ch).drop 2) },nth (at' c.sendq ch) 1,nth (at' c.sendq ch) 0,true)
 else ({c with recvq:=c.recvq.set ch.toNat (at' c.recvq ch++[t]) },0, -1,false)
def idx (l:List Int)(x:Int):Int:=match l.findIdx? (fun y=>decide (y=x)) with | some i=>(i:Int) | none=> -1
def yt (q:List (List Int))(l:List Int)(t:Int):List (List Int):=l.foldl (fun q ch=>q.set ch.toNat (at' q ch++[t])) q
def yI (c:Cor)(l:List Int)(t:Int):Cor × Int × Int × Int × Bool:=
 match l.findIdx? (vv c) with
 | some i=>((yN c (nth l i) t).1,i,(yN c (nth l i) t).2.1,(yN c (nth l i) t).2.2.1,true)
 | none=>({c with recvq:=yt c.recvq l t }, -1,0, -1,false)
structure Xs where
 p:Prog
 c:Cor
 t:Int
 seen:List Evt
 woken:List Int
def Xs.lv (x:Xs):List LV:=x.p.lv++x.c.lv++[.int .i64 x.t,row x.seen,row x.woken]
def ye (p:Prog):Cor:=
 ⟨0,[zU p 0],List.replicate p.mutexes.toNat (-1),p.semas,List.replicate p.chans.length [],List.replicate p.mutexes.toNat [],List.replicate p.conds.length [],List.replicate p.semas.length [],List.replicate p.chans.length [],List.replicate p.chans.length []⟩
def yd (c:Cor)(t:Int)(x:Thr):Cor:={c with threads:=c.threads.set t.toNat x }
def seeX (x:Xs)(k t n:Int):Xs:={x with seen:=x.seen++[⟨k,t,n⟩] }
def yj (x:Xs)(t state on:Int):Xs:={x with c:=yd x.c t {at' x.c.threads t with state:=state,on:=on } }
mutual
def endX:Nat→Xs→Int→Int→Xs
 | 0,x,_,_=>x
 | n+1,x,t,code=>endL n code t (List.range x.c.threads.length) (seeX {x with c:=yd x.c t (zO code) } 2 t code)
def endL:Nat→Int→Int→List Nat→Xs→Xs
 | _,_,_,[],x=>x
 | n,code,t,k :: ks,x=>endL n code t ks (if (nth x.c.threads k).state=2∧(nth x.c.threads k).on=t then vE n x k [code] else x)
def wW:Nat→Xs→Int→List Int→Xs
 | n,x,t,l=>if (yi (at' x.c.threads t) l).2=true then {x with c:=yd x.c t (yi (at' x.c.threads t) l).1 } else endX n x t 2
def vE:Nat→Xs→Int→List Int→Xs
 | n,x,t,l=>if t<0 then x else wW n (yj {x with woken:=x.woken++[t] } t 0 0) t l
end
end Go.Hb
end
section
namespace Go.Hb
open Go
end Go.Hb
end
section
namespace Go.Hb
open Go
theorem zas {acc:List Int}{x:Int}(h:acc.Nodup):(va acc x).Nodup:=by
 unfold va
 split
 ·exact h
 ·rename_i h1
  rw[List.nodup_append]
  refine⟨h,by simp,fun a ha b hb e=>h1 ?_⟩
  simp at hb;subst hb;subst e
  exact List.any_eq_true.2 ⟨a,ha,by simp⟩
theorem zcU {acc:List Int}{x y:Int}(h:y∈va acc x):y∈acc∨y=x:=by
 unfold va at h
 split at h
 ·exact .inl h
 ·rcases List.mem_append.1 h with h | h
  ·exact .inl h
  ·exact .inr (by simpa using h)
theorem Yv:∀ (l acc:List Int),acc.Nodup→(l.foldl va acc).Nodup∧∀ y∈l.foldl va acc,y∈acc∨y∈l
 | [],acc,h=>⟨h,fun y hy=>.inl hy⟩
 | x :: l,acc,h=>by
  obtain⟨h1,h2⟩:=Yv l (va acc x) (zas h)
  refine⟨h1,fun y hy=>?_⟩
  rcases h2 y hy with h3 | h3
  ·rcases zcU h3 with h4 | h4
   ·exact .inl h4
   ·exact .inr (by simp[h4])
  ·exact .inr (by simp[h3])
theorem zgE (l:List Int):(dd l).Nodup:=(Yv l [] (by simp)).1
theorem zme {l:List Int}{y:Int}(h:y∈dd l):y∈l:=by
 rcases (Yv l [] (by simp)).2 y h with h | h
 ·simp at h
 ·exact h
theorem zjV {p q:Prog}{f g:Fn_}(h1:p.funcs.length=q.funcs.length)(h2:p.mutexes=q.mutexes)(h3:p.conds=q.conds)(h4:p.semas=q.semas)(h5:p.chans=q.chans)(h6:p.choices=q.choices)(h7:f.locals=g.locals)(h8:f.code.length=g.code.length)(op:Int):most p f op=most q g op:=by
 unfold most
 rw[h1,h2,h3,h4,h5,h6,h7,h8]
theorem zgy {p:Prog}{f:Fn_}{op:Int}(h1:0≤p.mutexes)(h2:0≤f.locals):0≤most p f op:=by
 unfold most vZ
 repeat' split
 all_goals omega
theorem XJ {p q:Prog}{f g:Fn_}(i:Ins)(h1:0≤p.mutexes)(h2:0≤f.locals)(h:∀ op,most q g op=most p f op):mayI q g (xn p f i)=true:=by
 have hop:=yl (n:=i.op) (m:=27) (by omega)
 unfold xn
 simp only
 split
 ·rename_i h3
  simp[mayI,h3];omega
 ·rename_i h3
  split
  ·rename_i h4
   simp[mayI,asks]
  ·rename_i h4
   split
   ·rename_i h5
    have e1:most q g 0=1073741825:=by simp[most,vZ]
    have:=Int.tmod_lt_of_pos i.a (b:=1000) (by omega)
    have:=Int.lt_tmod_of_pos i.a (b:=1000) (by omega)
    simp only[mayI,asks,e1]
    by_cases h6:i.a.tmod 1000<0
    ·simp[h6];omega
    ·simp[h6];omega
   ·rename_i h5
    have hm:=zgy (op:=zA i.op 27) h1 h2
    have ha:=yl (n:=i.a) (m:=most p f (zA i.op 27)) (by omega)
    simp only[Bool.not_eq_false] at h3
    simp only[mayI,h3,h,if_true]
    simp[h5];omega
theorem uv {l:List Int}{to to':Int}(h:to≤to'):yf (things l to) to'=true:=by
 unfold yf
 rw[List.all_eq_true]
 intro x hx
 have:=zap hx
 simp;omega
theorem YN (p:Prog):mayP (good p)=true:=by
 have hmu:=yl (n:=p.mutexes) (m:=4) (by omega)
 have hth:=yl (n:=p.threads) (m:=8) (by omega)
 have l1:=wM p.conds (zA p.mutexes 4-1)
 have l2:=wM p.semas 3
 have l3:=wM p.chans 3
 have l4:(xE (things p.chans 3).length (p.choices.take 4)).length≤4:=by
  unfold xE
  refine Nat.le_trans (List.length_filter_le _ _) ?_
  simp;omega
 have l5:1≤(Qk p.funcs).length∧(Qk p.funcs).length≤4:=by
  unfold Qk
  split
  ·simp
  ·simp;omega
 have hc:((good p).choices.all (wz (good p)))=true:=by
  rw[List.all_eq_true]
  intro l hl
  have hl:l∈xE (things p.chans 3).length (p.choices.take 4):=hl
  unfold xE at hl
  obtain⟨hl,h0⟩:=List.mem_filter.1 hl
  obtain⟨l0,_,rfl⟩:=List.mem_map.1 hl
  have h0:0<(uG (things p.chans 3).length l0).length:=by simpa using h0
  have k1:=ziv (things l0 ((things p.chans 3).length-1))
  have k2:=wM l0 ((things p.chans 3).length-1)
  have e1:(good p).chans=things p.chans 3:=rfl
  unfold wz
  rw[e1]
  have a1:yf (uG (things p.chans 3).length l0) ((things p.chans 3).length-1)=true:=by
   unfold yf
   rw[List.all_eq_true]
   intro x hx
   have:=zap (zme hx)
   simp;omega
  have a2:(uG (things p.chans 3).length l0).Nodup:=zgE _
  have a3:(uG (things p.chans 3).length l0).length≤8:=by unfold uG;omega
  simp only[a1,a2,a3,Bool.true_and,decide_true,Bool.and_true,decide_eq_true_eq]
  omega
 have hf:((good p).funcs.all (mayF (good p)))=true:=by
  rw[List.all_eq_true]
  intro f hf
  obtain⟨g,hg,rfl⟩:=List.mem_map.1 hf
  have hg:g∈Qk p.funcs:=hg
  have hg2:0≤g.locals∧g.locals≤8∧g.code.length≤64:=by
   unfold Qk at hg
   split at hg
   ·simp at hg;subst hg;simp
   ·obtain⟨g0,_,rfl⟩:=List.mem_map.1 hg
    have:=yl (n:=g0.locals) (m:=4) (by omega)
    simp only[Qe,List.length_take];omega
  have hi:(g.code.map (xn (XO p) g)).all (mayI (good p) ⟨g.locals,g.code.map (xn (XO p) g)⟩)=true:=by
   rw[List.all_eq_true]
   intro i hi
   obtain⟨j,_,rfl⟩:=List.mem_map.1 hi
   refine XJ j ?_ hg2.1 fun op=>?_
   ·exact hmu.1
   ·exact zjV (p:=good p) (q:=XO p) (f:=⟨g.locals,g.code.map (xn (XO p) g)⟩) (g:=g) (by simp[good]) rfl rfl rfl rfl rfl rfl (by simp) op
  unfold mayF
  rw[hi]
  simp;omega
 have e1:(good p).funcs.length=(Qk p.funcs).length:=by show ((Qk p.funcs).map _).length=_;simp
 have t1:yf (things p.conds (zA p.mutexes 4-1)) (zA p.mutexes 4-1)=true:=uv (by omega)
 have t2:yf (things p.semas 3) 100=true:=uv (by omega)
 have t3:yf (things p.chans 3) 8=true:=uv (by omega)
 unfold mayP
 rw[hc,hf,e1]
 have e2:(good p).mutexes=zA p.mutexes 4:=rfl
 have e3:(good p).conds=things p.conds (zA p.mutexes 4-1):=rfl
 have e4:(good p).semas=things p.semas 3:=rfl
 have e5:(good p).chans=things p.chans 3:=rfl
 have e6:(good p).choices=xE (things p.chans 3).length (p.choices.take 4):=rfl
 have e7:(good p).threads=1+zA p.threads 8:=rfl
 rw[e2,e3,e4,e5,e6,e7]
 simp only[t1,t2,t3,Bool.and_true,Bool.and_eq_true,decide_eq_true_eq]
 omega
end Go.Hb
end
section
namespace Go.Hb
open Go
open Go
structure RS where
 at_:Nat
 e:Int
def rdO (b:List UInt8)(r:RS):List LV:=[row b,.int .i64 r.at_,.int .i64 r.e]
end Go.Hb
namespace Go.Hb
open Go
open Go
def zlA (s:List AObj)(id:Nat)(b:List UInt8)(v:List Nat)(r':RS)(y0:LV):LV→List AObj→List Nat→Prop:=fun y s' v'=>y0=y∧s.set id (.cells (rdO b r'))=s'∧v <+: v'
theorem zfj (b:List UInt8)(r:RS)(n:Nat):zH n (rdO b r)=true:=by simp[rdO]
theorem zlA.of {P:Program}{f:FuncId}{args:List LV}{s:List AObj}{v:List Nat}{id:Nat}{b:List UInt8}{r':RS}{y0:LV}(hy:y0.under s.length=true)(h:zp P f args s v fun y s' v'=>(∃ J,s.set id (.cells (rdO b r'))++J=s')∧y0=y∧v <+: v'):zp P f args s v (zlA s id b v r' y0):=by
 refine wo (zj h fun y s' v' ⟨⟨J,e1⟩,e2,e3⟩=>?_)
 subst e2
 refine⟨s.set id (.cells (rdO b r')),J,e1.symm,by simp,hy,fun i o ho=>?_,rfl,rfl,e3⟩
 by_cases e:id=i
 ·subst e
  right
  have hi:=(List.getElem?_eq_some_iff.1 ho).1
  rw[List.getElem?_set_self (by simpa using hi)] at ho
  cases ho
  exact zfj b r' _
 ·rw[List.getElem?_set_ne e] at ho;exact .inl ho
theorem yg {s:List AObj}{id:Nat}{o:AObj}(h:s[id]? = some o):∀ l,(s++l)[id]? = some o:=fun l=>getElem?_app_l h
where
 getElem?_app_l {s l:List AObj} {id:Nat} {o:AObj} (h:s[id]? = some o):(s++l)[id]? = some o:=by rw[List.getElem?_append_left (List.getElem?_eq_some_iff.1 h).1];exact h
theorem zaJ {s:List AObj}{id:Nat}{o:AObj}(h:s[id]? = some o):∀ o' l,(s++l).set id o'=s.set id o'++l:=fun o' l=>List.set_append_left _ _ (List.getElem?_eq_some_iff.1 h).1
theorem yY {s:List AObj}{id:Nat}{o:AObj}(h:s[id]? = some o):∀ o',(s.set id o')[id]? = some o':=fun o'=>by simp[(List.getElem?_eq_some_iff.1 h).1]
theorem Jc {s:List AObj}{id:Nat}{o:AObj}(h:s[id]? = some o):s.set id o=s:=by
 apply List.ext_getElem?
 intro i
 by_cases e:id=i
 ·subst e;rw[yY h,h]
 ·rw[List.getElem?_set_ne e]
end Go.Hb
namespace Go.Hb
open Go
theorem zmm {P:Program}{f:FuncId}{args:List LV}{s S1:List AObj}{v:List Nat}{y0:LV}{K:LV→List AObj→List Nat→Prop}(h:zp P f args s v fun y s1 v1=>y0=y∧S1=s1∧v=v1)(k:K y0 S1 v):zp P f args s v K:=
 zj h fun y s' v' ⟨e1,e2,e3⟩=>by subst e1;subst e2;subst e3;exact k
end Go.Hb
namespace Go.Hb
end Go.Hb
namespace Go.Hb
end Go.Hb
end
section
namespace Go.Hb
open Go
def Frz (id:Nat)(cs:List LV)(x y:LV):Prop:=∀ C s,Ok C s→s[id]? = some (.cells cs)→cs≠[]→∀ v,RelV C x v→RelV (C.freeze id cs.length) y v
theorem zck {C:Ctx}{s:List AObj}{id:Nat}{cs:List LV}(h:Ok C s)(hs:s[id]? = some (.cells cs))(hne:cs≠[]):C.le (C.freeze id cs.length):=by
 have hid:=(List.getElem?_eq_some_iff.1 hs).1
 have hlim:C.lim (C.ρ id)=0:=(h.own id (by rw[h.n];exact hid)).2.1.resolve_left fun hb=>by
  rw[hs] at hb;simp at hb;exact hne hb
 exact h.le_freeze _ hlim
theorem Frz.refl (id:Nat)(cs:List LV)(x:LV):Frz id cs x x:=fun C s h hs hne v r=>RelV.mono (zck h hs hne) x v r
theorem Frz.ref {id:Nat}{cs:List LV}{sz off len:Nat}{fl:Bool}(hb:off+len*sz≤cs.length):Frz id cs (.ref sz id off len fl) (.imm sz len ((cs.drop off).take (len*sz)) .no):=fun C s h hs hne v r=>by
 have hle:=zck h hs hne
 simp only[RelV] at r
 obtain⟨q0,cap,rfl,q1,q2,q3⟩:=r
 obtain⟨vs',T,us,ws,p1,p2,p3,p4⟩:=h.obj id _ hs
 have pl:=p3.length
 simp only[RelV]
 refine⟨some ⟨C.ρ id,off,none⟩,cap,rfl,q1,q2,by simp;omega,(by intro h;cases h),fun a ha _=>by cases ha;rfl,fun b o hb=>?_,trivial⟩
 cases hb
 have pv:vs'.size=us.length+ws.length:=by have:=congrArg List.length p2;simpa using this
 refine zZ.of_row (C:=C.freeze id cs.length) p1 _ ((us.drop off).take (len*sz)) off (((zi.mono hle _ _ p3).drop _).take _) (fun u hu=>p4 u (List.mem_of_mem_drop (List.mem_of_mem_take hu))) (fun j u hj=>?_) ?_
 ·have hj':=(List.getElem?_eq_some_iff.1 hj).1
  have hlt:j<len*sz:=by simp at hj';omega
  rw[List.getElem?_take_of_lt hlt,List.getElem?_drop] at hj
  have:vs'.toList[off+j]? = some u:=by
   rw[p2,List.getElem?_append_left (List.getElem?_eq_some_iff.1 hj).1];exact hj
  simpa using this
 ·simp only[Ctx.freeze,if_true,List.length_take,List.length_drop];omega
def Frzs (id:Nat)(cs:List LV):List LV→List LV→Prop
 | [],[]=>True
 | x :: xs,y :: ys=>Frz id cs x y∧Frzs id cs xs ys
 | _,_=>False
theorem Frzs.length {id:Nat}{cs:List LV} : ∀ {xs ys:List LV},Frzs id cs xs ys→xs.length=ys.length
 | [],[],_=>rfl
 | [],_ :: _,h=>h.elim
 | _ :: _,[],h=>h.elim
 | _ :: _,_ :: _,h=>by simp[Frzs.length h.2]
theorem Frzs.cells {id:Nat}{cs:List LV}{C:Ctx}{s:List AObj}(h:Ok C s)(hs:s[id]? = some (.cells cs))(hne:cs≠[]){b:Nat} : ∀ {xs ys:List LV} {o:Nat},Frzs id cs xs ys→zZ C b xs o→zZ (C.freeze id cs.length) b ys o
 | [],[],_,_,_=>by simp[zZ]
 | [],_ :: _,_,k,_=>k.elim
 | _ :: _,[],_,k,_=>k.elim
 | x :: xs,y :: ys,o,k,r=>by
  simp only[zZ] at r ⊢
  obtain⟨⟨v,e1,e2,e3,e4⟩,e5⟩:=r
  exact⟨⟨v,e1,Nat.lt_of_lt_of_le e2 ((zck h hs hne).lim b),e3,k.1 C s h hs hne v e4⟩,Frzs.cells h hs hne k.2 e5⟩
theorem Frz.imm {id:Nat}{cs:List LV}{sz n:Nat}{xs ys:List LV}{r:Right}(k:Frzs id cs xs ys):Frz id cs (.imm sz n xs r) (.imm sz n ys .no):=fun C s h hs hne v hr=>by
 simp only[RelV] at hr ⊢
 obtain⟨A,cap,e1,e2,e3,e4,e5,e6,e7,_⟩:=hr
 exact⟨A,cap,e1,e2,e3,by rw[← k.length];exact e4,e5,e6,fun b o hA=>Frzs.cells h hs hne k (e7 b o hA),trivial⟩
end Go.Hb
namespace Go.Hb
open Go
def Live {α : Type}[Enc α](D:List AObj)(d:Nat)(l:List α):Prop:=D[d]? = some (.cells (zd l))∧l≠[]
theorem xe {α : Type}[Enc α](hsz:0<Enc.sz α){l:List α}(h:l≠[]):zd l≠[]:=by
 intro e
 have:=zY l
 rw[e,List.length_nil] at this
 rcases Nat.mul_eq_zero.1 this.symm with h1 | h1
 ·exact h (List.length_eq_zero_iff.1 h1)
 ·omega
def zag (D:List AObj)(d n:Nat)(l:List UInt8)(B:Nat):Prop:=(Live D d l∧l.length=n)∧n≤B
theorem zag.eq {D:List AObj}{d n:Nat}{l l':List UInt8}{B B':Nat}(h:zag D d n l B)(e:l=l')(hb:B≤B'):zag D d n l' B':=by subst e;exact⟨h.1,Nat.le_trans h.2 hb⟩
theorem zag.box {D:List AObj}{d n:Nat}{l:List UInt8}{B:Nat}(h:zag D d n l B)(E:List AObj):zag (D++E) d n l B:=
 ⟨⟨⟨by rw[List.getElem?_append_left (List.getElem?_eq_some_iff.1 h.1.1.1).1];exact h.1.1.1,h.1.1.2⟩,h.1.2⟩,h.2⟩
theorem zag.lt {D:List AObj}{d n:Nat}{l:List UInt8}{B:Nat}(h:zag D d n l B):d<D.length:=(List.getElem?_eq_some_iff.1 h.1.1.1).1
end Go.Hb
end
section
namespace Go.Hb
open Go
def fu:Nat:=40
def endF (x:Xs)(t code:Int):Xs:=endX fu x t code
def wJ (x:Xs)(t:Int)(l:List Int):Xs:=wW fu x t l
def yO (x:Xs)(t:Int)(l:List Int):Xs:=vE fu x t l
def JU (x:Xs)(f:Int):Xs:=
 if x.p.threads≤x.c.threads.length then wJ (seeX x 1 x.t (-1)) x.t [-1]
 else wJ (seeX {x with c:={x.c with threads:=x.c.threads++[zU x.p f] },woken:=x.woken++[(x.c.threads.length:Int)] } 1 x.t x.c.threads.length) x.t [(x.c.threads.length:Int)]
def zaT (x:Xs)(v:Int):Xs:=
 if v<0∨(x.c.threads.length:Int)≤v∨v=x.t then endF x x.t 5
 else if (at' x.c.threads v).state=9 then wJ x x.t [(at' x.c.threads v).code]
 else yj x x.t 2 v
def yL (m:Int)(a:Int)(x:Xs):Xs:=
 if (yk x.c a m).2.2=true then yO {x with c:=(yk x.c a m).1 } (yk x.c a m).2.1 []
 else yj {x with c:=(yk x.c a m).1 } (yk x.c a m).2.1 3 m
def sigX (kind m a:Int):Nat→Xs→Xs
 | 0,x=>x
 | n+1,x=>if (at' x.c.waitq a).length=0 then x else if kind=9 then yL m a x else sigX kind m a n (yL m a x)
def vf (x:Xs)(kind a:Int):Xs:=
 if kind=6 then (if (vG x.c a x.t).2=true then {x with c:=(vG x.c a x.t).1 } else yj {x with c:=(vG x.c a x.t).1 } x.t 3 a)
 else if kind=7 then (if (zf x.c a x.t).2.2=0 then yO {x with c:=(zf x.c a x.t).1 } (zf x.c a x.t).2.1 [] else endF x x.t 4)
 else if kind=8 then
  (if (xN x.c a (at' x.p.conds a) x.t).2.2=0 then yj (yO {x with c:=(xN x.c a (at' x.p.conds a) x.t).1 } (xN x.c a (at' x.p.conds a) x.t).2.1 []) x.t 4 a
   else endF x x.t 4)
 else sigX kind (at' x.p.conds a) a (at' x.c.waitq a).length x
def zbC (x:Xs)(kind a:Int):Xs:=
 if kind=11 then (if (Zy x.c a x.t).2=true then {x with c:=(Zy x.c a x.t).1 } else yj {x with c:=(Zy x.c a x.t).1 } x.t 5 a)
 else yO {x with c:=(upC x.c a).1 } (upC x.c a).2 []
def Qf (x:Xs)(q:Req):Xs:=
 if q.kind=13 then
  let r:=xM x.c q.a (at' x.p.chans q.a) x.t q.v
  let y:Xs:={x with c:=r.1 }
  if r.2.2=false then yj y x.t 6 q.a
  else if r.2.1<0 then y
  else if (at' r.1.threads r.2.1).state=8 then yO y r.2.1 [q.v,idx (at' x.p.choices (at' r.1.threads r.2.1).on) q.a]
  else yO y r.2.1 [q.v]
 else if q.kind=14 then
  let r:=yN x.c q.a x.t
  let y:Xs:={x with c:=r.1 }
  if r.2.2.2=false then yj y x.t 7 q.a else yO (wJ y x.t [r.2.1]) r.2.2.1 []
 else
  let r:=yI x.c (at' x.p.choices q.a) x.t
  let y:Xs:={x with c:=r.1 }
  if r.2.2.2.2=false then yj y x.t 8 q.a else yO (wJ y x.t [r.2.2.1,r.2.1]) r.2.2.2.1 []
def Qh (x:Xs)(q:Req):Xs:=
 if q.kind=1 then endF x x.t q.v
 else if q.kind=3 then JU x q.a
 else if q.kind=4 then (if x.c.now<keep (x.c.now+q.v) then yj x x.t 1 (keep (x.c.now+q.v)) else x)
 else if q.kind=5 then zaT x q.v
 else if q.kind=6∨q.kind=7∨q.kind=8∨q.kind=9∨q.kind=10 then vf x q.kind q.a
 else if q.kind=11∨q.kind=12 then zbC x q.kind q.a
 else if q.kind=13∨q.kind=14∨q.kind=15 then Qf x q
 else if q.kind=16 then seeX x 0 x.t q.v
 else x
def uj (p:Prog)(c:Cor)(t:Int):Xs:=
 Qh ⟨p,yd c t (xU p (at' c.threads t)).1,t,[],[]⟩ (xU p (at' c.threads t)).2
def JA (x:Xs)(t:Int):List Int:=x.woken.filter fun k=>decide (k≠t∧(at' x.c.threads k).state=0)
def XA (p:Prog)(c:Cor)(t:Int):Cor × List Evt × List Int × Int:=
 if t<0∨(c.threads.length:Int)≤t then (c,[],[],1)
 else if (at' c.threads t).state≠0 then (c,[],[],10)
 else ((uj p c t).c,(uj p c t).seen,JA (uj p c t) t,0)
def un (c:Cor)(f:Int)(t:Nat):Int:=
 if (nth c.threads t).state=1∧(nth c.threads t).on≤c.now∧(f<0∨(nth c.threads t).on<(at' c.threads f).on) then t else f
def yQ (c:Cor):Int:=(List.range c.threads.length).foldl (un c) (-1)
def zcS:Nat→Cor→List Int→Cor × List Int
 | 0,c,w=>(c,w)
 | n+1,c,w=>if yQ c<0 then (c,w) else zcS n (yd c (yQ c) {at' c.threads (yQ c) with state:=0,on:=0 }) (w++[yQ c])
def JQ (c:Cor)(n:Int):Cor × List Int:=
 zcS (c.threads.length+1) (if 0<n then {c with now:=keep (c.now+(if 1073741824<n then 1073741824 else n)) } else c) []
def inC (c:Cor)(s:Int):List Int:=((List.range c.threads.length).filter fun (t:Nat)=>decide ((nth c.threads t).state=s)).map fun (t:Nat)=>(t:Int)
def vg (c:Cor)(a:Int × Nat)(t:Int):Int × Nat:=(if a.2=0∨(at' c.threads t).on<a.1 then (at' c.threads t).on else a.1,a.2+1)
def KY (c:Cor):Int × Bool:=(((inC c 1).foldl (vg c) (0,0)).1,decide (0<(inC c 1).length))
def QM (p:Prog)(c:Cor)(k:Int):Cor × List Evt:=
 if (inC c 0).length=0 then (if (KY c).2=true then ((JQ c ((KY c).1-c.now)).1,[]) else (c,[]))
 else ((XA p c (at' (inC c 0) (zA k (inC c 0).length))).1,(XA p c (at' (inC c 0) (zA k (inC c 0).length))).2.1)
def xG (p:Prog)(c:Cor)(l:List Int):Cor × List Evt:=
 l.foldl (fun a k=>((QM p a.1 k).1,a.2++(QM p a.1 k).2)) (c,[])
end Go.Hb
end
section
namespace Go.Hb
open Go
def yK (S:List AObj):List Frm→List Nat→List LV→Prop
 | [],[],r=>r=[]
 | f :: fs,id :: ids,r=>∃ x r',r = .int .i64 f.func :: .int .i64 f.pc :: x :: r'∧RowR S 1 f.locals.length (zd f.locals) x id∧yK S fs ids r'
 | _,_,_=>False
theorem yK.keep {S S':List AObj} : ∀ {fs:List Frm} {ids:List Nat} {r:List LV},yK S fs ids r→(∀ id∈ids,S'[id]? = S[id]?)→yK S' fs ids r
 | [],[],_,h,_=>h
 | [],_ :: _,_,h,_=>h.elim
 | _ :: _,[],_,h,_=>h.elim
 | f :: fs,id :: ids,r,h,hk=>by
  obtain⟨x,r',rfl,h1,h2⟩:=h
  exact⟨x,r',rfl,h1.keep fun _=>hk id (by simp),h2.keep fun i hi=>hk i (by simp[hi])⟩
theorem yK.snoc {S:List AObj}{f:Frm}{id:Nat}{x:LV}(hf:RowR S 1 f.locals.length (zd f.locals) x id):∀ {fs:List Frm} {ids:List Nat} {r:List LV},yK S fs ids r→yK S (fs++[f]) (ids++[id]) (r++[.int .i64 f.func,.int .i64 f.pc,x])
 | [],[],r,h=>by simp only[yK] at h;subst h;exact⟨x,[],rfl,hf,rfl⟩
 | [],_ :: _,_,h=>h.elim
 | _ :: _,[],_,h=>h.elim
 | g :: fs,i :: ids,r,h=>by
  obtain⟨y,r',rfl,h1,h2⟩:=h
  exact⟨y,_,rfl,h1,yK.snoc hf h2⟩
theorem yK.len {S:List AObj} : ∀ {fs:List Frm} {ids:List Nat} {r:List LV},yK S fs ids r→r.length=fs.length*3∧ids.length=fs.length
 | [],[],_,h=>by simp only[yK] at h;subst h;exact⟨rfl,rfl⟩
 | [],_ :: _,_,h=>h.elim
 | _ :: _,[],_,h=>h.elim
 | f :: fs,id :: ids,r,h=>by
  obtain⟨x,r',rfl,h1,h2⟩:=h
  have:=yK.len h2
  simp;omega
theorem yK.get {S:List AObj} : ∀ {fs:List Frm} {ids:List Nat} {r:List LV} (i:Nat),yK S fs ids r→i<fs.length→
  ∃ x id,ids[i]? = some id∧(r.drop (i*3)).take 3=[.int .i64 (nth fs i).func,.int .i64 (nth fs i).pc,x]∧RowR S 1 (nth fs i).locals.length (zd (nth fs i).locals) x id
 | [],_,_,_,_,hi=>by simp at hi
 | f :: fs,[],_,_,h,_=>h.elim
 | f :: fs,id :: ids,r,0,h,_=>by
  obtain⟨x,r',rfl,h1,h2⟩:=h
  exact⟨x,id,rfl,rfl,h1⟩
 | f :: fs,id :: ids,r,i+1,h,hi=>by
  obtain⟨x,r',rfl,h1,h2⟩:=h
  obtain⟨y,id',q1,q2,q3⟩:=yK.get i h2 (by simpa using hi)
  have hn:nth (f :: fs) (i+1)=nth fs i:=by simp[nth]
  rw[hn]
  exact⟨y,id',by simpa using q1,by simpa[Nat.add_mul] using q2,q3⟩
theorem yK.pc {S:List AObj}{pc:Int} : ∀ {fs:List Frm} {ids:List Nat} {r:List LV} (i:Nat),yK S fs ids r→i<fs.length→yK S (fs.set i {nth fs i with pc:=pc }) ids (r.set (i*3+1) (.int .i64 pc))
 | [],_,_,_,_,hi=>by simp at hi
 | f :: fs,[],_,_,h,_=>h.elim
 | f :: fs,id :: ids,r,0,h,_=>by
  obtain⟨x,r',rfl,h1,h2⟩:=h
  exact⟨x,r',rfl,h1,h2⟩
 | f :: fs,id :: ids,r,i+1,h,hi=>by
  obtain⟨x,r',rfl,h1,h2⟩:=h
  have hn:nth (f :: fs) (i+1)=nth fs i:=by simp[nth]
  have:=yK.pc (pc:=pc) i h2 (by simpa using hi)
  rw[hn]
  refine⟨x,r'.set (i*3+1) (.int .i64 pc),?_,h1,this⟩
  simp[Nat.add_mul,show i*3+3+1=i*3+1+1+1+1 by omega]
theorem yK.put {S S':List AObj}{c:List Int} : ∀ {fs:List Frm} {ids:List Nat} {r:List LV} (i:Nat) (id:Nat),yK S fs ids r→ids[i]? = some id→ids.Nodup→(∀ j∈ids,j≠id→S'[j]? = S[j]?)→c.length=(nth fs i).locals.length→(c≠[]→S'[id]? = some (.cells (zd c)))→
  yK S' (fs.set i {nth fs i with locals:=c }) ids r
 | [],[],_,i,id,h,hi,_,_,_,_=>by simp at hi
 | [],_ :: _,_,_,_,h,_,_,_,_,_=>h.elim
 | _ :: _,[],_,_,_,h,_,_,_,_,_=>h.elim
 | f :: fs,j :: ids,r,0,id,h,hi,hnd,hk,hc,hid=>by
  obtain⟨x,r',rfl,h1,h2⟩:=h
  simp at hi;subst hi
  have hn:nth (f :: fs) 0=f:=rfl
  rw[hn] at hc
  refine⟨x,r',rfl,?_,h2.keep fun i hi=>hk i (by simp[hi]) (by rintro rfl;simp at hnd;exact hnd.1 hi)⟩
  show RowR S' 1 c.length (zd c) x j
  rcases h1 with ⟨h1,h2,h3⟩ | ⟨h1,h2,h3,h4,h5⟩
  ·have:c=[]:=List.length_eq_zero_iff.1 (by omega)
   subst this
   exact .inl ⟨rfl,rfl,h3⟩
  ·have hne:c≠[]:=by intro e;subst e;simp at hc;omega
   refine .inr ⟨by rw[hc];exact h1,?_,by rw[hc];exact h3,hid hne,zY c⟩
   intro e
   have:=zY c
   rw[e,zcv,List.length_nil] at this
   exact hne (List.length_eq_zero_iff.1 (by omega))
 | f :: fs,j :: ids,r,i+1,id,h,hi,hnd,hk,hc,hid=>by
  obtain⟨x,r',rfl,h1,h2⟩:=h
  have hn:nth (f :: fs) (i+1)=nth fs i:=by simp[nth]
  simp only[List.nodup_cons] at hnd
  have hi':ids[i]? = some id:=by simpa using hi
  have hne:j≠id:=by rintro rfl;exact hnd.1 (List.mem_of_getElem? hi')
  have:=yK.put (S':=S') (c:=c) i id h2 hi' hnd.2 (fun k hk'=>hk k (by simp[hk'])) (by rw[hn] at hc;exact hc) hid
  refine⟨x,r',rfl,h1.keep fun _=>hk j (by simp) hne,?_⟩
  rw[hn];exact this
theorem RowR.deep {S:List AObj}{n id:Nat}{α : Type}[Enc α]{l:List α}{cs:List LV}{x:LV}(h:RowR S (Enc.sz α) l.length cs x id)(hn:n≤id)(hd:DeepVs S n cs (zd l)):DeepV S n x (row l):=by
 rcases h with ⟨q1,q2,rfl⟩ | ⟨q1,q2,rfl,q4,q5⟩
 ·have:l=[]:=List.length_eq_zero_iff.1 q1
  subst this
  exact .weak _ _ _ (.keep _ rfl) Weak.nilrow
 ·refine .weak _ _ _ (.ref (Enc.sz α) id 0 l.length false cs (zd l) hn q4 q2 (by omega) ?_) (Weak.refl _)
  have:(List.take (l.length*Enc.sz α) (List.drop 0 cs))=cs:=by rw[List.drop_zero,List.take_of_length_le (by omega)]
  rw[this]
  exact hd
theorem ul {S:List AObj}{n:Nat} : ∀ (l:List LV),zH n l=true→DeepVs S n l l
 | [],_=>.nil
 | x :: xs,h=>by
  simp only[zH,Bool.and_eq_true] at h
  exact .cons _ _ _ _ (.keep _ h.1) (ul xs h.2)
theorem RowR.deep0 {S:List AObj}{n id:Nat}{α : Type}[Enc α]{l:List α}{x:LV}(h:RowR S (Enc.sz α) l.length (zd l) x id)(hn:n≤id):DeepV S n x (row l):=h.deep hn (ul _ (xj n l))
theorem yK.deep {S:List AObj}{n:Nat} : ∀ {fs:List Frm} {ids:List Nat} {r:List LV},yK S fs ids r→(∀ id∈ids,n≤id)→DeepVs S n r (zd fs)
 | [],[],_,h,_=>by simp only[yK] at h;subst h;exact .nil
 | [],_ :: _,_,h,_=>h.elim
 | _ :: _,[],_,h,_=>h.elim
 | f :: fs,id :: ids,r,h,hn=>by
  obtain⟨x,r',rfl,h1,h2⟩:=h
  rw[zy]
  exact .cons _ _ _ _ (.keep _ (by simp)) (.cons _ _ _ _ (.keep _ (by simp)) (.cons _ _ _ _ (RowR.deep0 (α:=Int) h1 (hn id (by simp))) (yK.deep h2 fun i hi=>hn i (by simp[hi]))))
structure ThrO (S:List AObj)(b:Nat)(t:Thr)(y:LV)(ids:List Nat)(r:List LV)(xF xS:LV)(iF iS:Nat):Prop where
 eq:y = .agg [.int .i64 t.state,.int .i64 t.on,xF,xS,.int .i64 t.code]
 frames:RowR S 3 t.frames.length r xF iF
 fr:yK S t.frames ids r
 stack:RowR S 1 t.stack.length (zd t.stack) xS iS
 nodup:ids.Nodup
 ids:∀ id∈ids,b≤id∧id<S.length∧id≠iF∧id≠iS
 at_:b≤iF∧b≤iS∧iF≠iS
theorem ThrO.deep {S:List AObj}{b:Nat}{t:Thr}{y:LV}{ids:List Nat}{r:List LV}{xF xS:LV}{iF iS:Nat}(h:ThrO S b t y ids r xF xS iF iS):DeepV S b y (.agg t.lv):=by
 rw[h.eq]
 refine .agg _ _ (.cons _ _ _ _ (.keep _ rfl) (.cons _ _ _ _ (.keep _ rfl) (.cons _ _ _ _ (RowR.deep (α:=Frm) h.frames h.at_.1 (h.fr.deep fun i hi=>(h.ids i hi).1)) (.cons _ _ _ _ (RowR.deep0 (α:=Int) h.stack h.at_.2.1) (.cons _ _ _ _ (.keep _ rfl) .nil)))))
structure FrmsO (S:List AObj)(b:Nat)(fs:List Frm)(ids:List Nat)(r:List LV)(xF:LV)(iF:Nat):Prop where
 frames:RowR S 3 fs.length r xF iF
 fr:yK S fs ids r
 nodup:ids.Nodup
 ids:∀ id∈ids,b≤id∧id<S.length∧(fs.length≠0→id≠iF)
 at_:b≤iF∧(fs.length≠0→iF<S.length)
theorem FrmsO.keep {S S':List AObj}{b:Nat}{fs:List Frm}{ids:List Nat}{r:List LV}{xF:LV}{iF:Nat}(h:FrmsO S b fs ids r xF iF)(hl:S.length≤S'.length)(hk:∀ i,b≤i→i<S.length→S'[i]? = S[i]?):FrmsO S' b fs ids r xF iF:=
 ⟨h.frames.keep fun h0=>hk _ h.at_.1 (h.at_.2 h0),h.fr.keep fun i hi=>hk _ (h.ids i hi).1 (h.ids i hi).2.1,h.nodup,fun i hi=>⟨(h.ids i hi).1,Nat.lt_of_lt_of_le (h.ids i hi).2.1 hl,(h.ids i hi).2.2⟩,h.at_.1,fun h0=>Nat.lt_of_lt_of_le (h.at_.2 h0) hl⟩
theorem ze (s J:List AObj)(a b:AObj)(d:Nat):(s++(a :: b :: J))[s.length+(d+2)]? = J[d]?:=by rw[zL];simp
theorem Yp (s J:List AObj)(a b o:AObj)(d:Nat):(s++(a :: b :: J)).set (s.length+(d+2)) o=s++(a :: b :: J.set d o):=by rw[vU];simp
theorem XC {s J J':List AObj}{a b a' b':AObj}{n:Nat}(hJ:∀ d,d<n→J'[d]? = J[d]?):∀ i,s.length+2≤i→i<s.length+(n+2)→(s++(a' :: b' :: J'))[i]? = (s++(a :: b :: J))[i]?:=fun i h1 h2=>by
 obtain⟨d,rfl⟩:∃ d,i=s.length+(d+2):=⟨i-(s.length+2),by omega⟩
 rw[ze,ze];exact hJ d (by omega)
theorem zhC (S:List AObj)(b:Nat):FrmsO S b [] [] [] .nils b:=⟨.inl ⟨rfl,rfl,rfl⟩,rfl,by simp,by simp,Nat.le_refl _,fun h=>absurd rfl h⟩
theorem zea {P:Program}{t t2:TypeId}(hok:xA P t t2 3 40=true){s J J1:List AObj}{a b:AObj}{x xF:LV}{iF iL k:Nat}{fs:List Frm}{ids:List Nat}{r:List LV}{f:Frm}
  (h:FrmsO (s++(a :: b :: J)) (s.length+2) fs ids r xF iF) (hk:fs.length=k) (hk8:k<1000) (hJ:∀ d,d<J.length→J1[d]? = J[d]?) (hJl:J.length≤J1.length)
  (hx:RowR (s++(a :: b :: J1)) 1 f.locals.length (zd f.locals) x iL) (hiL:s.length+(J.length+2)≤iL∧iL<s.length+(J1.length+2)) :
  ∃ J2 ids2,(∀ r',zk P t t2 xF (.imm 3 1 [.int .i64 f.func,.int .i64 f.pc,x] r') (s++(a :: b :: J1))=some (.ref 3 (s.length+(J1.length+2)) 0 (k+1) false,s++(a :: b :: J2)))∧
   FrmsO (s++(a :: b :: J2)) (s.length+2) (fs++[f]) ids2 (r++[.int .i64 f.func,.int .i64 f.pc,x]) (.ref 3 (s.length+(J1.length+2)) 0 (k+1) false) (s.length+(J1.length+2)):=by
 subst hk
 have h1:FrmsO (s++(a :: b :: J1)) (s.length+2) fs ids r xF iF:=h.keep (by simp;omega) fun i hi hl=>XC hJ i hi (by simpa using hl)
 have ha:=uF (P:=P) (t:=t) (t2:=t2) (by_:=40) (ds:=[.int .i64 f.func,.int .i64 f.pc,x]) hok (by omega) (by omega) h1.frames (by simp) (by omega)
 have hold:∀ id∈ids,id<s.length+(J.length+2):=fun id hi=>by have:=(h.ids id hi).2.1;simpa using this
 obtain⟨J3,hl3,hJ3,hk3⟩:∃ J3:List AObj,J3.length=J1.length∧(if fs.length=0 then s++(a :: b :: J1) else (s++(a :: b :: J1)).set iF (.cells []))=s++(a :: b :: J3)∧∀ d,(fs.length≠0→s.length+(d+2)≠iF)→J3[d]? = J1[d]?:=by
  by_cases h0:fs.length=0
  ·exact⟨J1,rfl,if_pos h0,fun _ _=>rfl⟩
  ·obtain⟨d,rfl⟩:∃ d,iF=s.length+(d+2):=⟨iF-(s.length+2),by have:=h.at_.1;omega⟩
   refine⟨J1.set d (.cells []),by simp,by rw[if_neg h0,Yp],fun e he=>?_⟩
   rw[List.getElem?_set_ne];intro e2;subst e2;exact he h0 rfl
 have hF:∀ d,d<J1.length→(fs.length≠0→s.length+(d+2)≠iF)→(J3++[AObj.cells (r++[.int .i64 f.func,.int .i64 f.pc,x])])[d]? = J1[d]?:=fun d hd he=>by
  rw[List.getElem?_append_left (by omega)];exact hk3 d he
 have hiL2:fs.length≠0→iL≠iF:=fun h0 e=>by have:=h.at_.2 h0;simp at this;omega
 refine⟨J3++[.cells (r++[.int .i64 f.func,.int .i64 f.pc,x])],ids++[iL],fun r'=>?_,.inr ⟨by simp,by simp,by simp,?_,?_⟩,?_,?_,?_,?_⟩
 ·rw[ha r',hJ3];simp
 ·rw[ze,← hl3];simp
 ·have:=(yK.len h1.fr).1;simp;omega
 ·refine yK.snoc (hx.keep fun _=>?_) (h1.fr.keep fun id hid=>?_)
  ·obtain⟨d,rfl⟩:∃ d,iL=s.length+(d+2):=⟨iL-(s.length+2),by omega⟩
   rw[ze,ze];exact hF d (by omega) hiL2
  ·have q:=h.ids id hid
   have q2:=hold id hid
   obtain⟨d,rfl⟩:∃ d,id=s.length+(d+2):=⟨id-(s.length+2),by omega⟩
   rw[ze,ze];exact hF d (by omega) q.2.2
 ·rw[List.nodup_append]
  exact⟨h.nodup,by simp,fun i hi j hj=>by simp at hj;subst hj;have:=hold i hi;omega⟩
 ·intro id hid
  rcases List.mem_append.1 hid with hid | hid
  ·have q:=h.ids id hid
   have q2:=hold id hid
   refine⟨q.1,by simp;omega,fun _=>by omega⟩
  ·simp at hid;subst hid
   refine⟨by omega,by simp;omega,fun _=>by omega⟩
 ·exact⟨by omega,fun _=>by simp;omega⟩
def ThrB (t:Thr):Prop:=t.frames.length≤8∧t.stack.length≤18∧∀ f∈t.frames,f.locals.length≤8
theorem zm {α : Type}[Enc α]{l:List α}{k:Nat}(h:k<l.length):nth l k∈l:=by rw[zK h];exact List.getElem_mem h
theorem Zl (n:Int) : -1073741824≤keep n∧keep n≤1073741824:=by unfold keep;split<;>(try split)<;>omega
theorem Weak.ref0 (sz id off:Nat)(fl:Bool):Weak (.ref sz id off 0 fl) (.imm sz 0 [] .no):=fun C v h=>by
 simp only[RelV] at h ⊢
 obtain⟨_,cap,rfl,h2,h3,_⟩:=h
 exact⟨_,cap,rfl,h2,h3,by simp,by simp,fun _ _ h=>absurd rfl h,fun _ _ _=>by simp[zZ],trivial⟩
theorem zdS (n:Nat):xz [LV.int .i64 0] n=zd (List.replicate n (0:Int)):=by
 induction n with
 | zero=>rfl
 | succ n ih=>unfold xz at *;rw[List.replicate_succ,List.flatten_cons,ih,List.replicate_succ,zy];rfl
theorem DeepV.ref_row {α : Type}[Enc α]{S:List AObj}{n id:Nat}{fl:Bool}{l:List α}(hn:n≤id)(hS:S[id]? = some (.cells (zd l)))(hne:zd l≠[]):DeepV S n (.ref (Enc.sz α) id 0 l.length fl) (row l):=by
 refine .weak _ _ _ (.ref (Enc.sz α) id 0 l.length fl (zd l) (zd l) hn hS hne (by rw[zY];omega) ?_) (Weak.refl _)
 have:(List.take (l.length*Enc.sz α) (List.drop 0 (zd l)))=zd l:=by rw[List.drop_zero,List.take_of_length_le (by rw[zY];omega)]
 rw[this]
 exact ul _ (xj n l)
theorem RowR.cells {S:List AObj}{sz n id:Nat}{cs:List LV}{x:LV}(h:RowR S sz n cs x id):x.cells=[x]∧x.cellsOk=true:=by
 rcases h with ⟨_,_,rfl⟩ | ⟨_,_,rfl,_⟩<;>exact⟨rfl,rfl⟩
theorem RowR.len {P:Program}{t:TypeId}(ht:isSl P t=true){S:List AObj}{sz n id:Nat}{cs:List LV}{x:LV}(h:RowR S sz n cs x id):aLen P t x=some (.int .i64 n):=by
 obtain⟨e,ht⟩:∃ e,P.underlying t=some (.slice e):=by
  unfold isSl at ht
  split at ht
  ·exact⟨_,by assumption⟩
  ·cases ht
 rcases h with ⟨rfl,_,rfl⟩ | ⟨_,_,rfl,_⟩<;>simp[aLen,ht]
theorem Jv {α : Type}[Enc α]{P:Program}{t t2:TypeId}{sz by_:Nat}(hok:xA P t t2 sz by_=true)(hsz:Enc.sz α = sz)(hpos:0<sz){l:List α}(b0:l.length≤maxLen)(b:l.length*by_≤140737488355328)(S:List AObj) :
  ∃ x J,zk P t t2 .nils (row l) S=some (x,S++J)∧((l=[]∧x = .nils∧J=[])∨(l≠[]∧x = .ref sz S.length 0 l.length false∧J=[.cells (zd l)])):=by
 subst hsz
 have hyc:zQ (Enc.sz α) (row l) S=some (zd l,l.length):=by rw[wN,if_pos rfl]
 unfold xA at hok
 split at hok
 rotate_left
 ·cases hok
 rename_i e hu
 simp only[Bool.and_eq_true] at hok
 obtain⟨⟨⟨hs,hb⟩,hn⟩,hz⟩:=hok
 cases hs':szT P e with
 | none=>rw[hs'] at hs;cases hs
 | some s'=>
 rw[hs'] at hs;simp at hs;subst hs
 cases hb':zD P e with
 | none=>rw[hb'] at hb;cases hb
 | some b'=>
 rw[hb'] at hb;simp at hb;subst hb
 cases hz':zT P e with
 | none=>rw[hz'] at hz;cases hz
 | some z=>
 rw[hz'] at hz;simp only[Bool.and_eq_true,beq_iff_eq] at hz
 by_cases hl:l=[]
 ·subst hl
  have hnil:zw P t t2 .nils (row ([]:List α)) S=true:=by
   unfold ua at hn
   unfold zw
   simp only[hu,hs',hyc]
   simpa[ua] using hn
  exact⟨.nils,[],by unfold zk;rw[if_pos hnil];simp,.inl ⟨rfl,rfl,rfl⟩⟩
 ·have h0:l.length≠0:=fun e=>hl (List.length_eq_zero_iff.1 e)
  have hnil:zw P t t2 .nils (row l) S=false:=by
   unfold zw
   simp only[hu,hs',hyc]
   simp[h0]
  refine⟨_,[.cells (zd l)],?_,.inr ⟨hl,rfl,rfl⟩⟩
  unfold zk
  rw[if_neg (by rw[hnil];simp)]
  unfold zF
  simp only[hu,hs',hb',hz',hyc]
  rw[if_pos ⟨hn,hz.1,hz.2⟩]
  simp only[uD]
  rw[if_pos ⟨by omega,by simpa using b,h0⟩]
  simp
theorem FrmsO.base {S:List AObj}{b b':Nat}{fs:List Frm}{ids:List Nat}{r:List LV}{xF:LV}{iF:Nat}(h:FrmsO S b fs ids r xF iF)(hb:b'≤b):FrmsO S b' fs ids r xF iF:=
 ⟨h.frames,h.fr,h.nodup,fun i hi=>⟨Nat.le_trans hb (h.ids i hi).1,(h.ids i hi).2⟩,Nat.le_trans hb h.at_.1,h.at_.2⟩
def zev (t:Thr)(s:List AObj)(v:List Nat)(y:LV)(s':List AObj)(v':List Nat):Prop:=
 v=v'∧∃ J ids r xF xS dF dS,s++J=s'∧y = .agg [.int .i64 t.state,.int .i64 t.on,xF,xS,.int .i64 t.code]∧FrmsO s' s.length t.frames ids r xF (s.length+dF)∧
  RowR s' 1 t.stack.length (zd t.stack) xS (s.length+dS)∧(t.stack.length≠0→∀ id∈ids,id≠s.length+dS)∧(t.frames.length≠0→t.stack.length≠0→dF≠dS)
theorem zcO {t:Thr}{s J J3:List AObj}{a b a' b':AObj}{v:List Nat}{ids:List Nat}{r:List LV}{xF x1:LV}{iF:Nat}(hF:FrmsO (s++(a :: b :: J)) (s.length+2) t.frames ids r xF iF)
  (h3:(t.stack=[]∧x1 = .nils∧J3=[])∨(t.stack≠[]∧x1 = .ref 1 (s.length+(J.length+2)) 0 t.stack.length false∧J3=[.cells (zd t.stack)])) :
  zev t s v (.agg [.int .i64 t.state,.int .i64 t.on,xF,x1,.int .i64 t.code]) (s++(a' :: b' :: (J++J3))) v:=by
 obtain⟨dF,rfl⟩:∃ d,iF=s.length+d:=⟨iF-s.length,by have:=hF.at_.1;omega⟩
 have hF2:FrmsO (s++(a' :: b' :: (J++J3))) s.length t.frames ids r xF (s.length+dF):=(hF.keep (by simp) fun i hi hl=>XC (n:=J.length) (fun d hd=>List.getElem?_append_left hd) i hi (by simpa using hl)).base (by omega)
 refine⟨rfl,a' :: b' :: (J++J3),ids,r,xF,x1,dF,J.length+2,rfl,rfl,hF2,?_,fun _ id hid e=>?_,fun h0 _ e=>?_⟩
 ·rcases h3 with ⟨e1,rfl,rfl⟩ | ⟨e1,rfl,rfl⟩
  ·rw[e1];exact .inl ⟨rfl,rfl,rfl⟩
  ·have hl1:t.stack.length≠0:=fun e=>e1 (List.length_eq_zero_iff.1 e)
   refine .inr ⟨hl1,xe (by simp) e1,rfl,?_,by rw[zY];simp⟩
   rw[ze,List.getElem?_append_right (by omega)];simp
 ·have:=(hF.ids id hid).2.1;simp at this;omega
 ·have:=hF.at_.2 h0;simp at this;omega
theorem zbG {S:List AObj}{b n iF iS:Nat}{fr:List Frm}{ids:List Nat}{r:List LV}{sk:List Int}{xS:LV}{st on co:Int}(h1:yK S fr ids r)(hids:∀ id∈ids,b≤id)(hF:S[iF]? = some (.cells r))(hn:fr.length=n)(hn0:n≠0)(hbF:b≤iF)
  (hS:RowR S 1 sk.length (zd sk) xS iS) (hbS:b≤iS):DeepV S b (.agg [.int .i64 st,.int .i64 on,.ref 3 iF 0 n false,xS,.int .i64 co]) (.agg [.int .i64 st,.int .i64 on,row fr,row sk,.int .i64 co]):=by
 subst hn
 have hr:=(yK.len h1).1
 refine .agg _ _ (.cons _ _ _ _ (.keep _ rfl) (.cons _ _ _ _ (.keep _ rfl) (.cons _ _ _ _ (RowR.deep (α:=Frm) (cs:=r) (.inr ⟨hn0,?_,rfl,hF,hr⟩) hbF (h1.deep hids)) (.cons _ _ _ _ (RowR.deep0 (α:=Int) hS hbS) (.cons _ _ _ _ (.keep _ rfl) .nil)))))
 intro e;rw[e] at hr;simp at hr;omega
theorem vw {s J:List AObj}{a b a' b' o X:AObj}{d i:Nat}(hd:d<J.length)(h1:s.length+2≤i)(h2:i<s.length+(J.length+2))(h3:i≠s.length+(d+2)):(s++(a' :: b' :: (J.set d o++[X])))[i]? = (s++(a :: b :: J))[i]?:=by
 obtain⟨e,rfl⟩:∃ e,i=s.length+(e+2):=⟨i-(s.length+2),by omega⟩
 rw[ze,ze,List.getElem?_append_left (by simp;omega),List.getElem?_set_ne (by omega)]
theorem zbH {P:List AObj→Nat→Nat→Prop}{s J:List AObj}{a b:AObj}{d:Nat}(h:P ((s++[a,b])++J) (s++[a,b]).length ((s++[a,b]).length+d)):P (s++(a :: b :: J)) (s.length+2) (s.length+(d+2)):=by
 have e1:(s++[a,b])++J=s++(a :: b :: J):=by simp
 have e2:(s++[a,b]).length=s.length+2:=by simp
 rw[e1,e2,show s.length+2+d=s.length+(d+2) by omega] at h
 exact h
theorem RowR.lt {S:List AObj}{sz n id:Nat}{cs:List LV}{x:LV}(h:RowR S sz n cs x id)(h0:n≠0):id<S.length:=by
 rcases h with h | ⟨_,_,_,h,_⟩
 ·exact absurd h.1 h0
 ·exact(List.getElem?_eq_some_iff.1 h).1
theorem zgg {r:List LV}{i:Nat}{a b c:LV}(h:(r.drop i).take 3=[a,b,c]):r[i+2]? = some c:=by
 have h2:((r.drop i).take 3)[2]? = some c:=by rw[h];rfl
 rwa [List.getElem?_take_of_lt (by omega),List.getElem?_drop] at h2
theorem vI:∀ (l:List Int) (j:Nat) (x:Int),(zd l).set j (.int .i64 x)=zd (l.set j x)
 | [],j,x=>by simp
 | i :: l,0,x=>by simp[zy]
 | i :: l,j+1,x=>by
  have ih:=vI l j x
  simp[zy,ih]
theorem zfi {t:Thr}(h:ThrB t)(x:Int):ThrB (push t x).1:=by
 unfold push
 split
 ·exact h
 ·exact⟨h.1,by have:=h.2.1;simp;omega,h.2.2⟩
theorem zmv {t:Thr}(h:ThrB t):ThrB (pop t).1:=by
 unfold pop
 split
 ·exact h
 ·exact⟨h.1,by have:=h.2.1;simp;omega,h.2.2⟩
theorem zfw {t:Thr}(h:ThrB t):∀ n,ThrB (popN n t).1
 | 0=>h
 | n+1=>zmv (zfw h n)
theorem zlM {t:Thr}(h:ThrB t)(pc:Int):ThrB (jump t pc):=by
 unfold jump
 by_cases h0:t.frames=[]
 ·rw[show t.frames.set (t.frames.length-1) {topF t with pc:=pc } = t.frames by rw[h0];rfl];exact h
 refine⟨by simpa using h.1,h.2.1,fun f hf=>?_⟩
 rcases List.mem_or_eq_of_mem_set hf with hf | rfl
 ·exact h.2.2 f hf
 ·have hn:t.frames.length≠0:=fun e=>h0 (List.length_eq_zero_iff.1 e)
  have hl:t.frames.length-1<t.frames.length:=by omega
  show (topF t).locals.length≤8
  exact h.2.2 (topF t) (zm hl)
theorem QA (t:Thr):∀ n,(popN n t).1.frames=t.frames
 | 0=>rfl
 | n+1=>by
  rw[← QA t n]
  show (pop (popN n t).1).1.frames=_
  unfold pop
  split<;>rfl
theorem Xk (t:Thr):∀ n,(popN n t).2.length=n
 | 0=>rfl
 | n+1=>by show ((popN n t).2++_).length=_;simp[Xk t n]
theorem zbD {t:Thr}(h:∀ x∈t.stack, -1073741824≤x∧x≤1073741824):∀ n,(∀ x∈(popN n t).1.stack, -1073741824≤x∧x≤1073741824)∧∀ x∈(popN n t).2, -1073741824≤x∧x≤1073741824
 | 0=>⟨h,by simp[popN]⟩
 | n+1=>by
  have ih:=zbD h n
  have e:popN (n+1) t=((pop (popN n t).1).1,(popN n t).2++[(pop (popN n t).1).2.1]):=rfl
  rw[e]
  generalize popN n t=q at *
  unfold pop
  by_cases h0:q.1.stack.length=0
  ·rw[if_pos h0]
   refine⟨ih.1,fun x hx=>?_⟩
   rcases List.mem_append.1 hx with hx | hx
   ·exact ih.2 x hx
   ·simp at hx;omega
  ·rw[if_neg h0]
   refine⟨fun x hx=>ih.1 x (List.mem_of_mem_take hx),fun x hx=>?_⟩
   rcases List.mem_append.1 hx with hx | hx
   ·exact ih.2 x hx
   ·simp at hx;subst hx;exact ih.1 _ (zm (by omega))
theorem andC {P:Program}{f:FuncId}{args:List LV}{s:List AObj}{v:List Nat}{K:LV→List AObj→List Nat→Prop}{Q:Prop}(h:zp P f args s v K)(k:Q):zp P f args s v K∧Q:=⟨h,k⟩
def Hid (p:Prop):Prop:=p
theorem wC {α : Type}[Enc α]{l:List α}{n:Nat}(h:n<l.length)(x:α):nth (l.set n x) n=x:=by rw[zK (by simpa using h)];simp
theorem uS {α : Type}[Enc α]{l:List α}{n m:Nat}(h:n≠m)(x:α):nth (l.set n x) m=nth l m:=by simp[nth,List.getD_eq_getElem?_getD,List.getElem?_set_ne h]
end Go.Hb
end
