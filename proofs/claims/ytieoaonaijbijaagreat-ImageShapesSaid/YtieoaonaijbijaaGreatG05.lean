/-
  A layer for reasoning about the program's calls, and contracts of its functions. CONDITIONS: none; each theorem bears its own.
-/
import Derived.Test.YtieoaonaijbijaaGreatG04
set_option linter.unusedVariables false
set_option linter.unusedSimpArgs false
section
namespace Go.Hb
open Go Go.RowKit
class Enc (α : Type) where
 sz:Nat
 enc:α→List LV
 dflt:α
 len:∀ a,(enc a).length=sz
 und:∀ a n,zH n (enc a)=true
theorem wr (n:Nat):∀ (a b:List LV),zH n (a++b)=(zH n a && zH n b)
 | [],b=>by simp[zH]
 | x :: a,b=>by simp[zH,wr n a b,Bool.and_assoc]
section
variable {α : Type} [Enc α]
def zd (l:List α):List LV:=l.flatMap Enc.enc
def row (l:List α):LV:=.imm (Enc.sz α) l.length (zd l) .no
def nth (l:List α)(i:Nat):α:=l.getD i Enc.dflt
theorem zK {l:List α}{i:Nat}(h:i<l.length):nth l i=l[i]:=by simp[nth,List.getD,h]
@[simp] theorem Zr:zd ([]:List α)=[]:=rfl
theorem zy (a:α)(l:List α):zd (a :: l)=Enc.enc a++zd l:=by simp[zd]
theorem xI (a b:List α):zd (a++b)=zd a++zd b:=by simp[zd]
theorem zY:∀ l:List α,(zd l).length=l.length*Enc.sz α
 | []=>by simp
 | a :: l=>by rw[zy,List.length_append,zY l,Enc.len,List.length_cons,Nat.add_mul];omega
theorem xj (n:Nat):∀ l:List α,zH n (zd l)=true
 | []=>rfl
 | a :: l=>by rw[zy,wr,Enc.und,xj n l];rfl
theorem wO:∀ (l:List α) (i:Nat),(zd l).drop (i*Enc.sz α)=zd (l.drop i)
 | l,0=>by simp
 | [],i+1=>by simp
 | a :: l,i+1=>by
  rw[zy,Nat.add_mul,Nat.one_mul,Nat.add_comm,← List.drop_drop,← Enc.len a,List.drop_left,Enc.len a,wO l i];rfl
theorem wi:∀ (l:List α) (i:Nat),(zd l).take (i*Enc.sz α)=zd (l.take i)
 | l,0=>by simp
 | [],i+1=>by simp
 | a :: l,i+1=>by
  rw[zy,Nat.add_mul,Nat.one_mul,Nat.add_comm,List.take_add,← Enc.len a,List.take_left,List.drop_left,Enc.len a,wi l i,← zy];rfl
theorem Kj {l:List α}{i:Nat}(h:i<l.length):((zd l).drop (i*Enc.sz α)).take (Enc.sz α)=Enc.enc (nth l i):=by
 rw[wO,zK h,List.drop_eq_getElem_cons h,zy]
 rw[← Enc.len l[i],List.take_left]
end
instance:Enc Int:=⟨1,fun n=>[.int .i64 n],0,fun _=>rfl,fun _ _=>rfl⟩
instance:Enc UInt8:=⟨1,fun n=>[.int .u8 (n.toNat:Int)],0,fun _=>rfl,fun _ _=>rfl⟩
instance:Enc Bool:=⟨1,fun n=>[.bool n],false,fun _=>rfl,fun _ _=>rfl⟩
instance {α : Type}[Enc α]:Enc (List α):=⟨1,fun l=>[row l],[],fun _=>rfl,fun l n=>by simp[zH,row,LV.under,xj]⟩
@[simp] theorem zcv:Enc.sz Int=1:=rfl
@[simp] theorem sz_u8:Enc.sz UInt8=1:=rfl
@[simp] theorem sz_bool:Enc.sz Bool=1:=rfl
@[simp] theorem sz_list {α : Type} [Enc α]:Enc.sz (List α)=1:=rfl
@[simp] theorem yG (n:Int):Enc.enc n=[.int .i64 n]:=rfl
@[simp] theorem zak (n:UInt8):Enc.enc n=[.int .u8 (n.toNat:Int)]:=rfl
@[simp] theorem enc_bool (n:Bool):Enc.enc n=[.bool n]:=rfl
@[simp] theorem zhx {α : Type} [Enc α] (l:List α):Enc.enc l=[row l]:=rfl
def yA (P:Program)(t:TypeId):Option Nat:=match P.underlying t with | some (.slice e)=>szT P e | _=>none
attribute [simp] yA
section
variable {α : Type} [Enc α] {P:Program} {t:TypeId} {l:List α} {κ κ':IntKind}
@[simp] theorem row_cells:(row l).cells=[row l]:=rfl
@[simp] theorem row_cellsOk:(row l).cellsOk=true:=rfl
@[simp] theorem vH (n:Nat):(row l).under n=true:=by simp[row,LV.under,xj]
theorem zhP:aLen P t (row l)=(match P.underlying t with | some (.slice _)=>some (.int .i64 l.length) | some (.array n _)=>some (.int .i64 n) | _=>none):=by
 unfold aLen row
 cases P.underlying t with
 | none=>rfl
 | some d=>cases d<;>rfl
def ix (l:List α)(i:Int):Option LV:=if 0≤i∧i<(l.length:Int) then some (.eptr (Enc.enc (nth l i.toNat))) else none
theorem zB {i:Int}(h0:0≤i)(h1:i<(l.length:Int)):ix l i=some (.eptr (Enc.enc (nth l i.toNat))):=by simp[ix,h0,h1]
theorem yV {n:Nat}(h:yA P t=some n):∃ e,P.underlying t=some (.slice e)∧szT P e=some n:=by
 unfold yA at h
 split at h
 ·rename_i e hu;exact⟨e,hu,h⟩
 ·cases h
theorem Zu {i:Int} : zt P t (row l) (.int κ i)=if yA P t=some (Enc.sz α) then ix l i else none:=by
 by_cases he:yA P t=some (Enc.sz α)
 ·rw[if_pos he]
  obtain⟨e,hu,hs⟩:=yV he
  unfold zt row ix
  simp only[hu,hs,true_and]
  by_cases hi:0≤i∧i<(l.length:Int)
  ·rw[if_pos hi,if_pos hi,Kj (by omega)]
  ·rw[if_neg hi,if_neg hi]
 ·rw[if_neg he]
  unfold zt row
  simp only
  split
  ·rename_i e hu
   split
   ·rename_i n hs
    rw[if_neg]
    rintro⟨h1,_⟩
    exact he (by unfold yA;rw[hu];simp only;rw[hs,h1])
   ·rfl
  ·split<;>rfl
  ·rfl
theorem wN {size:Nat}{s:List AObj} : zQ size (row l) s=if Enc.sz α = size then some (zd l,l.length) else none:=rfl
theorem YT {a b:Int}(h0:0≤a)(h1:a≤b)(h2:b≤(l.length:Int)) :
  ya P t (row l) (some (.int κ a)) (some (.int κ' b)) none=if yA P t=some (Enc.sz α) then some (row ((l.drop a.toNat).take (b.toNat-a.toNat))) else none:=by
 by_cases he:yA P t=some (Enc.sz α)
 ·rw[if_pos he]
  obtain⟨e,hu,hs⟩:=yV he
  have hb:zP l.length (some (.int κ a)) (some (.int κ' b)) none=some (a.toNat,b.toNat,none):=by
   simp[zP,oInt,h0,h1,h2]
  unfold ya row
  simp only[hu,hs,if_true]
  rw[hb]
  simp only[Option.map_some,wO,wi,QQ]
  congr 2
  ·rw[List.length_take,List.length_drop];omega
  ·split<;>rfl
 ·rw[if_neg he]
  unfold ya row
  split
  ·rename_i e hu
   split
   ·rename_i n hs
    simp only
    rw[if_neg]
    intro h1
    exact he (by unfold yA;rw[hu];simp only;rw[hs,h1])
   ·rfl
  ·rfl
  ·rfl
theorem KJ {a:Int}(h0:0≤a)(h1:a≤(l.length:Int)) :
  ya P t (row l) (some (.int κ a)) none none=if yA P t=some (Enc.sz α) then some (row (l.drop a.toNat)) else none:=by
 by_cases he:yA P t=some (Enc.sz α)
 ·rw[if_pos he]
  obtain⟨e,hu,hs⟩:=yV he
  have hb:zP l.length (some (.int κ a)) none none=some (a.toNat,l.length,none):=by
   simp[zP,oInt,h0,h1]
  unfold ya row
  simp only[hu,hs,if_true]
  rw[hb]
  simp only[Option.map_some,wO,wi,QQ]
  have e1:(zd (l.drop a.toNat)).take ((l.length-a.toNat)*Enc.sz α)=zd (l.drop a.toNat):=by
   rw[List.take_of_length_le];rw[zY,List.length_drop];exact Nat.le_refl _
  rw[← wi] 
  simp only[e1,List.length_drop,if_true]
 ·rw[if_neg he]
  unfold ya row
  split
  ·rename_i e hu
   split
   ·rename_i n hs
    simp only
    rw[if_neg]
    intro h1
    exact he (by unfold yA;rw[hu];simp only;rw[hs,h1])
   ·rfl
  ·rfl
  ·rfl
theorem ut {b:Int}(h1:0≤b)(h2:b≤(l.length:Int)) :
  ya P t (row l) none (some (.int κ' b)) none=if yA P t=some (Enc.sz α) then some (row (l.take b.toNat)) else none:=by
 by_cases he:yA P t=some (Enc.sz α)
 ·rw[if_pos he]
  obtain⟨e,hu,hs⟩:=yV he
  have hb:zP l.length none (some (.int κ' b)) none=some (0,b.toNat,none):=by
   simp[zP,oInt,h1,h2]
  unfold ya row
  simp only[hu,hs,if_true]
  rw[hb]
  simp only[Option.map_some,QQ,Nat.zero_mul,List.drop_zero,Nat.sub_zero,wi]
  congr 2
  ·rw[List.length_take];omega
  ·split<;>rfl
 ·rw[if_neg he]
  unfold ya row
  split
  ·rename_i e hu
   split
   ·rename_i n hs
    simp only
    rw[if_neg]
    intro h1
    exact he (by unfold yA;rw[hu];simp only;rw[hs,h1])
   ·rfl
  ·rfl
  ·rfl
end
section
variable {P:Program} {t:TypeId} {κ κ':IntKind} {i:Int} {cs:List LV} {n sz id off:Nat} {r:Right} {fl:Bool}
theorem zgq (b:ByteArray):aLen P t (.str b)=(match P.underlying t with | some .string=>some (.int .i64 b.size) | some (.array n _)=>some (.int .i64 n) | _=>none):=by
 unfold aLen;cases P.underlying t with
 | none=>rfl
 | some d=>cases d<;>rfl
theorem zfg:aLen P t .nils=(match P.underlying t with | some (.slice _)=>some (.int .i64 0) | some (.array n _)=>some (.int .i64 n) | _=>none):=by
 unfold aLen;cases P.underlying t with
 | none=>rfl
 | some d=>cases d<;>rfl
theorem zhO:aLen P t (.imm sz n cs r)=(match P.underlying t with | some (.slice _)=>some (.int .i64 n) | some (.array n _)=>some (.int .i64 n) | _=>none):=by
 unfold aLen;cases P.underlying t with
 | none=>rfl
 | some d=>cases d<;>rfl
theorem zgU:aLen P t (.ref sz id off n fl)=(match P.underlying t with | some (.slice _)=>some (.int .i64 n) | some (.array n _)=>some (.int .i64 n) | _=>none):=by
 unfold aLen;cases P.underlying t with
 | none=>rfl
 | some d=>cases d<;>rfl
theorem vj:zt P t (.imm sz n cs r) (.int κ i)=if yA P t=some sz∧0≤i∧i<(n:Int) then some (.eptr ((cs.drop (i.toNat*sz)).take sz)) else none:=by
 by_cases he:yA P t=some sz
 ·obtain⟨e,hu,hs⟩:=yV he
  unfold zt
  simp only[hu,hs,he,true_and]
 ·rw[if_neg (fun h=>he h.1)]
  unfold zt
  simp only
  split
  ·rename_i e hu
   split
   ·rename_i m hs
    rw[if_neg]
    rintro⟨h1,_⟩
    exact he (by unfold yA;rw[hu];simp only;rw[hs,h1])
   ·rfl
  ·split<;>rfl
  ·rfl
theorem ZE:zt P t (.ref sz id off n fl) (.int κ i)=if yA P t=some sz∧0≤i∧i<(n:Int) then some (.ptr id (off+i.toNat*sz)) else none:=by
 by_cases he:yA P t=some sz
 ·obtain⟨e,hu,hs⟩:=yV he
  unfold zt
  simp only[hu,hs,he,true_and]
 ·rw[if_neg (fun h=>he h.1)]
  unfold zt
  simp only
  split
  ·rename_i e hu
   split
   ·rename_i m hs
    rw[if_neg]
    rintro⟨h1,_⟩
    exact he (by unfold yA;rw[hu];simp only;rw[hs,h1])
   ·rfl
  ·split<;>rfl
  ·rfl
def zdX (P:Program)(t:TypeId):Option (Nat × Nat):=match P.underlying t with | some (.array len e)=>(szT P e).map fun n=>(len,n) | _=>none
attribute [simp] zdX
theorem Zv:zt P t (.ptr id off) (.int κ i)=(match zdX P t with | some (len,n)=>if 0≤i∧i<(len:Int) then some (.ptr id (off+i.toNat*n)) else none | none=>none):=by
 unfold zt zdX
 cases hu:P.underlying t with
 | none=>rfl
 | some d=>
  cases d<;>try rfl
  ·rename_i e;simp only;split<;>rfl
  ·rename_i len e;simp only
   cases szT P e<;>rfl
theorem JM:zt P t (.eptr cs) (.int κ i)=(match zdX P t with | some (len,n)=>if 0≤i∧i<(len:Int) then some (.eptr (cs.drop (i.toNat*n))) else none | none=>none):=by
 unfold zt zdX
 cases hu:P.underlying t with
 | none=>rfl
 | some d=>
  cases d<;>try rfl
  ·rename_i e;simp only;split<;>rfl
  ·rename_i len e;simp only
   cases szT P e<;>rfl
end
theorem zZ.weaks {C:Ctx}{b:Nat} : ∀ {xs ys:List LV} {o:Nat},yh xs ys→zZ C b xs o→zZ C b ys o
 | [],[],_,_,_=>by simp[zZ]
 | [],_ :: _,_,h,_=>h.elim
 | _ :: _,[],_,h,_=>h.elim
 | x :: xs,y :: ys,o,h,r=>by
  simp only[zZ] at r ⊢
  obtain⟨⟨v,e1,e2,e3,e4⟩,e5⟩:=r
  exact⟨⟨v,e1,e2,e3,h.1 _ _ e4⟩,e5.weaks h.2⟩
theorem yh.length:∀ {xs ys:List LV},yh xs ys→xs.length=ys.length
 | [],[],_=>rfl
 | [],_ :: _,h=>h.elim
 | _ :: _,[],h=>h.elim
 | _ :: _,_ :: _,h=>by simp[yh.length h.2]
theorem yh.app:∀ {a b c d:List LV},yh a b→yh c d→yh (a++c) (b++d)
 | [],[],_,_,_,k=>k
 | [],_ :: _,_,_,h,_=>h.elim
 | _ :: _,[],_,_,h,_=>h.elim
 | _ :: _,_ :: _,_,_,h,k=>⟨h.1,yh.app h.2 k⟩
theorem Weak.cells {sz n:Nat}{cs ds:List LV}{r:Right}(h:yh cs ds):Weak (.imm sz n cs r) (.imm sz n ds .no):=fun C v h'=>by
 simp only[RelV] at h' ⊢
 obtain⟨A,cap,e1,e2,e3,e4,e5,e6,e7,e8⟩:=h'
 exact⟨A,cap,e1,e2,e3,by rw[← h.length];exact e4,e5,e6,fun b o hA=>(e7 b o hA).weaks h,trivial⟩
theorem Weak.eptr {cs ds:List LV}(h:yh cs ds):Weak (.eptr cs) (.eptr ds):=fun C v h'=>by
 simp only[RelV] at h' ⊢
 obtain⟨b,o,e1,e2⟩:=h'
 exact⟨b,o,e1,e2.weaks h⟩
mutual
theorem zbQ {n m:Nat}(h:m≤n):(x:LV)→x.under m=true→x.under n=true
 | .any,_=>rfl
 | .bool _,_=>rfl
 | .int _ _,_=>rfl
 | .str _,_=>rfl
 | .nilp,_=>rfl
 | .ptr id _,k=>by simp only[LV.under,decide_eq_true_eq] at k ⊢;omega
 | .eptr cs,k=>by simp only[LV.under] at k ⊢;exact wS h cs k
 | .nils,_=>rfl
 | .emp _,_=>rfl
 | .imm _ _ cs _,k=>by simp only[LV.under] at k ⊢;exact wS h cs k
 | .ref _ id _ _ _,k=>by simp only[LV.under,decide_eq_true_eq] at k ⊢;omega
 | .agg cs,k=>by simp only[LV.under] at k ⊢;exact wS h cs k
 | .tup cs,k=>by simp only[LV.under] at k ⊢;exact wS h cs k
 | .nilf,_=>rfl
 | .fn _ a b,k=>by simp only[LV.under,Bool.and_eq_true] at k ⊢;exact⟨wS h a k.1,wS h b k.2⟩
 | .yld id,k=>by simp only[LV.under,decide_eq_true_eq] at k ⊢;omega
 | .nilm,_=>rfl
 | .mapr id,k=>by simp only[LV.under,decide_eq_true_eq] at k ⊢;omega
theorem wS {n m:Nat}(h:m≤n):(xs:List LV)→zH m xs=true→zH n xs=true
 | [],_=>rfl
 | x :: xs,k=>by simp only[zH,Bool.and_eq_true] at k ⊢;exact⟨zbQ h x k.1,wS h xs k.2⟩
end
section
variable {α : Type} [Enc α]
theorem Weak.nilrow:Weak .nils (Hb.row ([]:List α)):=Weak.nils _ _ (.inl rfl)
theorem Weak.row {n:Nat}{l:List α}{cs:List LV}{r:Right}(h:yh cs (zd l))(hn:n=l.length):Weak (.imm (Enc.sz α) n cs r) (Hb.row l):=by subst hn;exact Weak.cells h
theorem Weak.emprow {sz:Nat} : Weak (.emp sz) (Hb.row ([]:List α)):=fun C v h=>by
 simp only[RelV,Hb.row] at h ⊢
 obtain⟨a,cap,rfl,h2⟩:=h
 exact⟨some a,cap,rfl,Nat.zero_le _,h2,by simp,by simp,fun _ _ h=>absurd rfl h,fun _ _ _=>by simp[zZ],trivial⟩
def GroC (sz:Nat)(v0 v:List Nat)(n:Nat)(cs:List LV)(x:LV):Prop:=
 v0 <+: v∧((n=0∧cs=[]∧(x = .nils∨x = .imm sz 0 [] .full))∨∃ g e,v0.length≤g∧x = .imm sz n cs (.tip g e)∧v[g]? = some e)
theorem GroC.nil (sz:Nat)(v:List Nat):GroC sz v v 0 [] .nils:=⟨List.prefix_refl _,.inl ⟨rfl,rfl,.inl rfl⟩⟩
theorem GroC.mono {sz n:Nat}{cs:List LV}{v0 v v':List Nat}{x:LV}(h:GroC sz v0 v n cs x)(hv:v <+: v'):GroC sz v0 v' n cs x:=by
 refine⟨h.1.trans hv,h.2.imp id ?_⟩
 rintro⟨g,e,h1,h2,h3⟩
 exact⟨g,e,h1,h2,zmo hv h3⟩
theorem GroC.back {sz n:Nat}{cs:List LV}{v00 v0 v:List Nat}{x:LV}(h:GroC sz v0 v n cs x)(hv:v00 <+: v0):GroC sz v00 v n cs x:=by
 refine⟨hv.trans h.1,h.2.imp id ?_⟩
 rintro⟨g,e,h1,h2,h3⟩
 exact⟨g,e,Nat.le_trans hv.length_le h1,h2,h3⟩
def xA (P:Program)(t t2:TypeId)(size by_:Nat):Bool:=match P.underlying t with
 | some (.slice e)=>(match szT P e with | some s=>s == size | none=>false) && (match zD P e with | some s=>s == by_ | none=>false) && ua P t2 && (match zT P e with | some z=>z.cellsOk && z.cells.length == size | none=>false)
 | _=>false
def Keep (x:LV)(v v':List Nat):Prop:=v.length≤v'.length∧∀ g e,v[g]? = some e→(∀ sz n cs e',x≠.imm sz n cs (.tip g e'))→v'[g]? = some e
theorem GroC.app {P:Program}{t t2:TypeId}{sz by_:Nat}(hok:xA P t t2 sz by_=true){v0 v:List Nat}{n m:Nat}{cs ds:List LV}{x:LV}(h:GroC sz v0 v n cs x)(hm0:m=0→ds=[])
  (b1:n+m≤maxLen) (b2:(n+m)*by_≤140737488355328) :
  ∃ x' v',GroC sz v0 v' (n+m) (cs++ds) x'∧Keep x v v'∧∀ y s,zQ sz y s=some (ds,m)→zR P t t2 x y s v=some (x',v'):=by
 unfold xA at hok
 split at hok
 rotate_left
 ·cases hok
 rename_i e hu
 simp only[Bool.and_eq_true] at hok
 obtain⟨⟨⟨hs,hb⟩,hn⟩,hz⟩:=hok
 cases hs':szT P e with
 | none=>rw[hs'] at hs;cases hs
 | some s'=>
 rw[hs'] at hs;simp at hs;subst hs
 cases hb':zD P e with
 | none=>rw[hb'] at hb;cases hb
 | some b'=>
 rw[hb'] at hb;simp at hb;subst hb
 cases hz':zT P e with
 | none=>rw[hz'] at hz;cases hz
 | some z=>
 rw[hz'] at hz;simp only[Bool.and_eq_true,beq_iff_eq] at hz
 have key:∀ {cs:List LV} {r r':Right} {v'':List Nat},uD s' x=some (cs,n,r)→grow m r v=some (r',v'')→∀ y s,zQ s' y s=some (ds,m)→zR P t t2 x y s v=some (.imm s' (n+m) (cs++ds) r',v''):=fun {cs r r' v''} hh hg y s hy=>by
  unfold zR
  simp only[hu,hs',hb',hz']
  rw[if_pos ⟨hn,hz.1,hz.2⟩,hh,hy]
  simp only
  rw[if_pos ⟨b1,b2⟩,hg]
  rfl
 rcases h.2 with ⟨rfl,rfl,hx⟩ | ⟨g,e0,h1,rfl,h3⟩
 ·have hh:uD s' x=some ([],0,.full):=by rcases hx with rfl | rfl<;>simp[uD]
  by_cases hm:m=0
  ·have hd:=hm0 hm;subst hd;subst hm
   exact⟨_,v,⟨h.1,.inl ⟨rfl,rfl,.inr rfl⟩⟩,⟨Nat.le_refl _,fun _ _ hg _=>hg⟩,key (r':=.full) hh (by simp[grow])⟩
  ·refine⟨_,v++[0],⟨h.1.trans (List.prefix_append _ _),.inr ⟨v.length,0,h.1.length_le,by simp,by simp⟩⟩,⟨by simp,fun g e hg _=>by rw[List.getElem?_append_left (List.getElem?_eq_some_iff.1 hg).1];exact hg⟩,key (cs:=[]) (r':=.tip v.length 0) hh (by simp[grow,hm])⟩
 ·have hh:uD s' (.imm s' n cs (.tip g e0))=some (cs,n,.tip g e0):=by simp[uD]
  by_cases hm:m=0
  ·have hd:=hm0 hm;subst hd;subst hm
   exact⟨_,v,⟨h.1,.inr ⟨g,e0,h1,by simp,h3⟩⟩,⟨Nat.le_refl _,fun _ _ hg _=>hg⟩,key (r':=.tip g e0) hh (by simp[grow])⟩
  ·have hg:=(List.getElem?_eq_some_iff.1 h3).1
   refine⟨_,v.set g (e0+1),⟨?_,.inr ⟨g,e0+1,h1,by simp,by simp[hg]⟩⟩,⟨by simp,fun g' e' hg' hne=>?_⟩,key (r':=.tip g (e0+1)) hh (by simp[grow,hm,h3])⟩
   ·obtain⟨w,rfl⟩:=h.1
    rw[List.set_append_right _ _ h1]
    exact List.prefix_append _ _
   ·by_cases hgg:g=g'
    ·subst hgg;exact absurd rfl (hne _ _ _ _)
    ·rw[List.getElem?_set_ne hgg];exact hg'
theorem LV.under_mono {n:Nat} : (x:LV)→x.under 0=true→x.under n=true:=fun x h=>zbQ (Nat.zero_le n) x h
def Gro (v0 v:List Nat)(l:List α)(x:LV):Prop:=∃ cs,GroC (Enc.sz α) v0 v l.length cs x∧yh cs (zd l)∧zH 0 cs=true
theorem Gro.under {v0 v:List Nat}{l:List α}{x:LV}(h:Gro v0 v l x)(n:Nat):x.under n=true:=by
 obtain⟨cs,⟨_,h1⟩,_,h3⟩:=h
 rcases h1 with ⟨_,_,rfl | rfl⟩ | ⟨g,e,_,rfl,_⟩
 ·rfl
 ·rfl
 ·exact LV.under_mono _ h3
theorem Gro.nil (v:List Nat):Gro v v ([]:List α) .nils:=⟨[],GroC.nil _ _,trivial,rfl⟩
theorem Gro.pre {v0 v:List Nat}{l:List α}{x:LV}(h:Gro v0 v l x):v0 <+: v:=by obtain⟨_,h,_⟩:=h;exact h.1
theorem Gro.mono {v0 v v':List Nat}{l:List α}{x:LV}(h:Gro v0 v l x)(hv:v <+: v'):Gro v0 v' l x:=by obtain⟨cs,h1,h2⟩:=h;exact⟨cs,h1.mono hv,h2⟩
theorem Gro.back {v00 v0 v:List Nat}{l:List α}{x:LV}(h:Gro v0 v l x)(hv:v00 <+: v0):Gro v00 v l x:=by obtain⟨cs,h1,h2⟩:=h;exact⟨cs,h1.back hv,h2⟩
theorem Gro.weak {v0 v:List Nat}{l:List α}{x:LV}(h:Gro v0 v l x):Weak x (row l):=by
 obtain⟨cs,⟨_,h1⟩,h2,_⟩:=h
 rcases h1 with ⟨h0,rfl,hx⟩ | ⟨g,e,_,rfl,_⟩
 ·have:l=[]:=List.length_eq_zero_iff.1 h0
  subst this
  rcases hx with rfl | rfl
  ·exact Weak.nilrow
  ·exact Weak.imm _ _ _ _
 ·exact Weak.row h2 rfl
theorem Gro.cells {v0 v:List Nat}{l:List α}{x:LV}(h:Gro v0 v l x):x.cells=[x]∧x.cellsOk=true:=by
 obtain⟨cs,⟨_,h1⟩,_,h3⟩:=h
 rcases h1 with ⟨_,_,rfl | rfl⟩ | ⟨g,e,_,rfl,_⟩<;>exact⟨rfl,rfl⟩
def isSl (P:Program)(t:TypeId):Bool:=match P.underlying t with | some (.slice _)=>true | _=>false
theorem Gro.len {P:Program}{t:TypeId}(ht:isSl P t=true){v0 v:List Nat}{l:List α}{x:LV}(h:Gro v0 v l x):aLen P t x=some (.int .i64 l.length):=by
 obtain⟨e,ht⟩:∃ e,P.underlying t=some (.slice e):=by
  unfold isSl at ht
  split at ht
  ·exact⟨_,by assumption⟩
  ·cases ht
 obtain⟨cs,⟨_,h1⟩,h2,_⟩:=h
 rcases h1 with ⟨h0,rfl,hx⟩ | ⟨g,e,_,rfl,_⟩
 ·rcases hx with rfl | rfl<;>simp[aLen,ht,h0]
 ·simp[aLen,ht]
def GroE (v0 v:List Nat)(l:List α)(x:LV):Prop:=GroC (Enc.sz α) v0 v l.length (zd l) x
theorem GroE.gro {v0 v:List Nat}{l:List α}{x:LV}(h:GroE v0 v l x):Gro v0 v l x:=⟨_,h,yh.refl _,xj _ _⟩
theorem GroE.nil (v:List Nat):GroE v v ([]:List α) .nils:=GroC.nil _ _
theorem GroE.ix {P:Program}{t:TypeId}{κ : IntKind}{i:Int}{v0 v:List Nat}{l:List α}{x:LV}(h:GroE v0 v l x):zt P t x (.int κ i)=if yA P t=some (Enc.sz α) then Hb.ix l i else none:=by
 rcases h.2 with ⟨h0,_,hx⟩ | ⟨g,e,_,rfl,_⟩
 ·have hl:l=[]:=List.length_eq_zero_iff.1 h0
  subst hl
  have e0:Hb.ix ([]:List α) i=none:=by unfold Hb.ix;rw[if_neg];simp
  rw[e0]
  rcases hx with rfl | rfl
  ·unfold zt yA
   cases hu:P.underlying t with
   | none=>simp
   | some d=>cases d<;>simp<;>split<;>simp
  ·rw[vj,if_neg (by rintro⟨_,h1,h2⟩;simp at h2;omega)];split<;>rfl
 ·rw[vj]
  by_cases he:yA P t=some (Enc.sz α)
  ·simp only[he,true_and,if_true]
   unfold Hb.ix
   by_cases hi:0≤i∧i<(l.length:Int)
   ·rw[if_pos hi,if_pos hi,Kj (by omega)]
   ·rw[if_neg hi,if_neg hi]
  ·rw[if_neg (fun h=>he h.1),if_neg he]
theorem GroE.push {P:Program}{t t2:TypeId}{sz by_:Nat}(hok:xA P t t2 sz by_=true)(hsz:Enc.sz α = sz)(hby:by_≤1000){v0 v:List Nat}{l:List α}{x:LV}(h:GroE v0 v l x)(a:α)(b:l.length+1≤100000000) :
  ∃ x' v',GroE v0 v' (l++[a]) x'∧Keep x v v'∧∀ r s,zR P t t2 x (.imm sz 1 (Enc.enc a) r) s v=some (x',v'):=by
 subst hsz
 have hm:(l.length+1)*by_≤100000000*1000:=Nat.mul_le_mul b hby
 obtain⟨x',v',h1,h2,h3⟩:=GroC.app (P:=P) (m:=1) (ds:=Enc.enc a) hok h (by simp) (by unfold maxLen;omega) (by omega)
 refine⟨x',v',?_,h2,fun r s=>h3 _ s (by simp[zQ])⟩
 unfold GroE
 rw[xI,zy]
 simpa using h1
theorem Gro.push {P:Program}{t t2:TypeId}{sz by_:Nat}(hok:xA P t t2 sz by_=true)(hsz:Enc.sz α = sz)(hby:by_≤1000){v0 v:List Nat}{l:List α}{x:LV}(h:Gro v0 v l x)(a:α){ds:List LV}(hd:yh ds (Enc.enc a))(hu:zH 0 ds=true)(b:l.length+1≤100000000) :
  ∃ x' v',Gro v0 v' (l++[a]) x'∧Keep x v v'∧∀ r s,zR P t t2 x (.imm sz 1 ds r) s v=some (x',v'):=by
 subst hsz
 have hm:(l.length+1)*by_≤100000000*1000:=Nat.mul_le_mul b hby
 obtain⟨cs,h,hw,hu0⟩:=h
 obtain⟨x',v',h1,h2,h3⟩:=GroC.app (P:=P) (m:=1) (ds:=ds) hok h (by simp) (by unfold maxLen;omega) (by omega)
 exact⟨x',v',⟨cs++ds,by simpa using h1,by rw[xI,zy];exact hw.app (by simpa using hd),by rw[wr,hu0,hu];rfl⟩,h2,fun r s=>h3 _ s (by simp[zQ])⟩
theorem Gro.appr {P:Program}{t t2:TypeId}{by_:Nat}(hok:xA P t t2 (Enc.sz α) by_=true)(hby:by_≤1000){v0 v:List Nat}{l:List α}{x:LV}(h:Gro v0 v l x)(l2:List α)(b:l.length+l2.length≤100000000) :
  ∃ x' v',Gro v0 v' (l++l2) x'∧Keep x v v'∧∀ s,zR P t t2 x (row l2) s v=some (x',v'):=by
 have hm:(l.length+l2.length)*by_≤100000000*1000:=Nat.mul_le_mul b hby
 obtain⟨cs,h,hw,hu0⟩:=h
 obtain⟨x',v',h1,h2,h3⟩:=GroC.app (P:=P) (m:=l2.length) (ds:=zd l2) hok h (fun e=>by rw[List.length_eq_zero_iff.1 e];rfl) (by unfold maxLen;omega) (by omega)
 exact⟨x',v',⟨cs++zd l2,by simpa using h1,by rw[xI];exact hw.app (yh.refl _),by rw[wr,hu0,xj];rfl⟩,h2,fun s=>h3 _ s (by rw[wN,if_pos rfl])⟩
end
theorem XP {P : Program} {f : FuncId} {fn : Func} {c : Code} {args : List LV} {s : List AObj} {v : List Nat} {R : LV → List AObj → List Nat → Prop} (hf : P.funcs[f]? = some fn) (hb : fn.body = some c) (hn : (fn.name == "runtime.NumGoroutine") = false) {N : Nat} (hN : fn.ntmps = N) (hlen : args.length ≤ N)
  (own:Bool) (h:go (aC P none N own c (YW P fn R)) ⟨⟩ ⟨yP args,s,v⟩):zp P f args s v R:=by subst hN;exact zfP hf hb hn hlen own h
theorem ac0 {P:Program}{f:FuncId}{fn:Func}{c:Code}{args:List LV}{s:List AObj}{v:List Nat}{R:LV→List AObj→List Nat→Prop}(hf:P.funcs[f]? = some fn){N:Nat}(hN:fn.ntmps=N)
  (h : go (aC P none N false c (YW P fn R)) ⟨⟩ ⟨yP args, s, v⟩) (hb : fn.body = some c := by rfl) (hn : (fn.name == "runtime.NumGoroutine") = false := by decide) (hlen : args.length ≤ N := by simp) : zp P f args s v R := XP hf hb hn hN hlen false h
theorem ac1 {P:Program}{f:FuncId}{fn:Func}{c:Code}{args:List LV}{s:List AObj}{v:List Nat}{R:LV→List AObj→List Nat→Prop}(hf:P.funcs[f]? = some fn){N:Nat}(hN:fn.ntmps=N)
  (h : go (aC P none N true c (YW P fn R)) ⟨⟩ ⟨yP args, s, v⟩) (hb : fn.body = some c := by rfl) (hn : (fn.name == "runtime.NumGoroutine") = false := by decide) (hlen : args.length ≤ N := by simp) : zp P f args s v R := XP hf hb hn hN hlen true h
section
variable {P:Program} {f:FuncId} {args:List LV} {s:List AObj} {v:List Nat} {y:LV} {K:LV→List AObj→List Nat→Prop}
theorem zg (h:zG P f args y)(k:∀ v',v <+: v'→K y s v'):zp P f args s v K:=
 zj (h s v) fun x s' v' ⟨e1,e2,e3⟩=>by subst e1;subst e2;exact k v' e3
theorem zc (h:zM P f args y)(k:K y s v):zp P f args s v K:=
 zj (h s v) fun x s' v' ⟨e1,e2,e3⟩=>by subst e1;subst e2;subst e3;exact k
def xX {α : Type}[Enc α](P:Program)(f:FuncId)(args:List LV)(l:List α):Prop:=∀ s v,zp P f args s v fun x s' v'=>s=s'∧Gro v v' l x
theorem Qs {α : Type}[Enc α]{l:List α}(h:xX P f args l)(k:∀ x v',Gro v v' l x→K x s v'):zp P f args s v K:=
 zj (h s v) fun x s' v' ⟨e1,e2⟩=>by subst e1;exact k x v' e2
theorem xX.pure {α : Type}[Enc α]{l:List α}(h:xX P f args l):zG P f args (row l):=fun s v=>
 xp (zj (h s v) fun x s' v' ⟨e1,e2⟩=>⟨row l,s',e2.weak,wF.refl _,rfl,e1,e2.pre⟩)
theorem xX.of {α : Type}[Enc α]{l:List α}(h:∀ s v,zp P f args s v fun x s' v'=>(∃ J,s++J=s')∧Gro v v' l x):xX P f args l:=fun s v=>
 wo (zj (h s v) fun x s' v' ⟨⟨J,h1⟩,h3⟩=>⟨s,J,h1.symm,rfl,h3.under _,fun _ _ ho=>.inl ho,rfl,h3⟩)
end
theorem zht {K0 K1:St→Prop}{t0:Tok K0}{t1:Tok K1}{st:St}{b:Bool}(h0:b=true→go K0 ⟨⟩ st)(h1:b=false→go K1 ⟨⟩ st):aBr (.bool b) K0 K1 t0 t1 st:=by
 cases b
 ·exact h1 rfl
 ·exact h0 rfl
theorem zkh {K0 K1:St→Prop}{t0:Tok K0}{t1:Tok K1}{st:St}{b:Bool}(h0:b=true→K1 st)(h1:b=false→K0 st):aG (some b) K0 K1 t0 t1 st:=by
 cases b
 ·exact h1 rfl
 ·exact h0 rfl
def aqG (g:Option Bool)(P:Program)(o:Oper)(st:St):Option LV:=match g with
 | some false=>some (.tup [])
 | some true=>(aop P o.op st).map (·.1)
 | none=>none
@[simp] theorem aq_eq (P:Program) (ops:Array Oper) (o:Oper) (st:St):aq P ops o st=aqG (wG ops st.t o) P o st:=rfl
@[simp] theorem aqG_f (P:Program) (o:Oper) (st:St):aqG (some false) P o st=some (.tup []):=rfl
@[simp] theorem aqG_t (P:Program) (o:Oper) (st:St):aqG (some true) P o st=(aop P o.op st).map (·.1):=rfl
section
variable {P:Program} {N:Nat} {ops:Array Oper} {own:Bool} {K:St→Prop} {pl:Plan} {W:List (Nat × LV)} {i:Nat} {ld:Bool} {d:Option Tmp} {o:Oper} {st st':St}
theorem zgW {b:Bool}(h0:b=true→aPx P N ops own K pl W i ld d ((aop P o.op st').map (·.1)) st)(h1:b=false→aPx P N ops own K pl W i ld d (some (.tup [])) st):aPx P N ops own K pl W i ld d (aqG (some b) P o st') st:=by
 cases b
 ·exact h1 rfl
 ·exact h0 rfl
end
class Bc (k:Nat) (b:Bool) (p q:outParam Prop):Prop where
 t:b=true→p
 f:b=false→q
instance (priority:=low) bc_0 {k:Nat}{b:Bool} : Bc k b (b=true) (b=false):=⟨id,id⟩
instance bc_1 {k:Nat}{p:Prop}{i:Decidable p} : Bc k (@decide p i) p (¬ p):=⟨fun h=>of_decide_eq_true h,fun h=>of_decide_eq_false h⟩
instance bc_2 {k:Nat}{p:Prop}{i:Decidable p} : Bc (k+1) (!(@decide p i)) (¬ p) p:=⟨fun h=>by simpa using h,fun h=>by simpa using h⟩
instance (priority:=low+1) bc_3 {b:Bool} : Bc 1 (!b) (b=false) (b=true):=⟨fun h=>by simpa using h,fun h=>by simpa using h⟩
instance bc_4 {b:Bool} : Bc 0 (!b) (b=false) (b=true):=⟨fun h=>by simpa using h,fun h=>by simpa using h⟩
theorem bc {K0 K1:St→Prop}{t0:Tok K0}{t1:Tok K1}{st:St}{b:Bool}{p q:Prop}[Bc 0 b p q](h0:p→go K0 ⟨⟩ st)(h1:q→go K1 ⟨⟩ st):aBr (.bool b) K0 K1 t0 t1 st:=
 zht (fun h=>h0 (Bc.t 0 h)) (fun h=>h1 (Bc.f 0 h))
theorem gc {K0 K1:St→Prop}{t0:Tok K0}{t1:Tok K1}{st:St}{b:Bool}{p q:Prop}[Bc 1 b p q](h0:p→K1 st)(h1:q→K0 st):aG (some b) K0 K1 t0 t1 st:=
 zkh (fun h=>h0 (Bc.t 1 h)) (fun h=>h1 (Bc.f 1 h))
theorem pc {P:Program}{N:Nat}{ops:Array Oper}{own:Bool}{K:St→Prop}{pl:Plan}{W:List (Nat × LV)}{i:Nat}{ld:Bool}{d:Option Tmp}{o:Oper}{st st':St}{b:Bool}{p q:Prop}[Bc 2 b p q]
  (h0:p→aPx P N ops own K pl W i ld d ((aop P o.op st').map (·.1)) st) (h1:q→aPx P N ops own K pl W i ld d (some (.tup [])) st):aPx P N ops own K pl W i ld d (aqG (some b) P o st') st:=
 zgW (fun h=>h0 (Bc.t 2 h)) (fun h=>h1 (Bc.f 2 h))
theorem bt {K0 K1:St→Prop}{t0:Tok K0}{t1:Tok K1}{st:St}(h:go K0 ⟨⟩ st):aBr (.bool true) K0 K1 t0 t1 st:=h
theorem bf {K0 K1:St→Prop}{t0:Tok K0}{t1:Tok K1}{st:St}(h:go K1 ⟨⟩ st):aBr (.bool false) K0 K1 t0 t1 st:=h
class Wk (G:Prop) (p q A B:outParam Prop):Prop where
 go:(p→A)→(q→B)→G
instance wk_b {K0 K1:St→Prop}{t0:Tok K0}{t1:Tok K1}{st:St}{b:Bool}{p q:Prop}[Bc 0 b p q]:Wk (aBr (.bool b) K0 K1 t0 t1 st) p q (go K0 ⟨⟩ st) (go K1 ⟨⟩ st):=⟨bc⟩
instance wk_g {K0 K1:St→Prop}{t0:Tok K0}{t1:Tok K1}{st:St}{b:Bool}{p q:Prop}[Bc 1 b p q]:Wk (aG (some b) K0 K1 t0 t1 st) p q (K1 st) (K0 st):=⟨gc⟩
instance wk_p {P:Program}{N:Nat}{ops:Array Oper}{own:Bool}{K:St→Prop}{pl:Plan}{W:List (Nat × LV)}{i:Nat}{ld:Bool}{d:Option Tmp}{o:Oper}{st st':St}{b:Bool}{p q:Prop}[Bc 2 b p q] :
  Wk (aPx P N ops own K pl W i ld d (aqG (some b) P o st') st) p q (aPx P N ops own K pl W i ld d ((aop P o.op st').map (·.1)) st) (aPx P N ops own K pl W i ld d (some (.tup [])) st):=⟨pc⟩
theorem wk {G p q A B:Prop}[h:Wk G p q A B](h0:p→A)(h1:q→B):G:=h.go h0 h1
class Uk (G:Prop) (A:outParam Prop):Prop where
 go:A→G
instance uk_t {K0 K1:St→Prop}{t0:Tok K0}{t1:Tok K1}{st:St} : Uk (aBr (.bool true) K0 K1 t0 t1 st) (go K0 ⟨⟩ st):=⟨bt⟩
instance uk_f {K0 K1:St→Prop}{t0:Tok K0}{t1:Tok K1}{st:St} : Uk (aBr (.bool false) K0 K1 t0 t1 st) (go K1 ⟨⟩ st):=⟨bf⟩
theorem uk {G A:Prop}[h:Uk G A](k:A):G:=h.go k
theorem dr (T:Nat→Plan){P:Program}{r:Option Nat}{N id:Nat}{ops:Array Oper}{Q:Exit→St→Prop}{tk:TokQ (.region id ops true) Q}{st:St}(hm:P.follows .mixedOrders=true)(hf:ud ops=true)(hp:(T id).ok ops true (Array.replicate ops.size false) []=true)
  (h:yr P N ops false (go (Q .normal) ⟨⟩) (T id) [] st):aWh P r N (.region id ops true) Q tk st:=zeb (T id) hm hf hp h
theorem dw (T:Nat→Plan){P:Program}{r:Option Nat}{N id:Nat}{ops:Array Oper}{Q:Exit→St→Prop}{tk:TokQ (.region id ops true) Q}{st:St}(hm:P.follows .mixedOrders=true)(hf:ud ops=true)(hp:(T id).ok ops true (Array.replicate ops.size false) []=true)
  (h:yr P N ops true (go (Q .normal) ⟨⟩) (T id) [] st):aWh P r N (.region id ops true) Q tk st:=zeb (T id) hm hf hp h
theorem zhE {K0 K1:St→Prop}(t0 t1){st:St} : aBr (.bool true) K0 K1 t0 t1 st=go K0 ⟨⟩ st:=rfl
theorem zfn {K0 K1:St→Prop}(t0 t1){st:St} : aBr (.bool false) K0 K1 t0 t1 st=go K1 ⟨⟩ st:=rfl
def upds (L:List (Nat × LV))(t:Nat→LV):Nat→LV:=fun i=>((L.find? fun x=>x.1 == i).map (·.2)).getD (t i)
theorem zhk (t:Nat→LV)(i:Nat):upds [] t i=t i:=rfl
theorem zu (d:Nat)(x:LV)(L:List (Nat × LV))(t:Nat→LV)(i:Nat):upds ((d,x) :: L) t i=if i=d then x else upds L t i:=by
 unfold upds
 by_cases h:i=d
 ·simp[h]
 ·have:(d == i)=false:=by simpa using fun e=>h e.symm
  simp[this,h]
def Fits (L:List (Nat × LV))(t0 t:Nat→LV):Prop:=(∀ x∈L,Weak (t x.1) x.2)∧∀ i,(∀ x∈L,i≠x.1)→t i=t0 i
theorem Fits.all {t0 t:Nat→LV} : ∀ {L:List (Nat × LV)},Fits L t0 t→∀ i,Weak (t i) (upds L t0 i):=by
 intro L h i
 by_cases hi:∃ x∈L,x.1=i
 ·unfold upds
  cases hf:L.find? fun x=>x.1 == i with
  | none=>
   obtain⟨x,hx,e⟩:=hi
   have:=List.find?_eq_none.1 hf x hx
   simp[e] at this
  | some x=>
   have h1:=List.mem_of_find?_eq_some hf
   have h2:=List.find?_some hf
   simp at h2
   simp only[Option.map_some,Option.getD_some]
   rw[← h2];exact h.1 x h1
 ·have hn:∀ x∈L,i≠x.1:=fun x hx e=>hi ⟨x,hx,e.symm⟩
  have e:upds L t0 i=t0 i:=by
   unfold upds
   have:(L.find? fun x=>x.1 == i)=none:=List.find?_eq_none.2 fun x hx=>by simpa using fun e=>hn x hx e.symm
   rw[this];rfl
  rw[e,h.2 i hn];exact Weak.refl _
def Off (L:List (Nat × LV))(t0 t:Nat→LV):Prop:=∀ i,(∀ x∈L,i≠x.1)→t i=t0 i
theorem Off.refl (L:List (Nat × LV))(t0:Nat→LV):Off L t0 t0:=fun _ _=>rfl
theorem Off.upd {L:List (Nat × LV)}{t0 t:Nat→LV}{d:Nat}{x:LV}(h:(L.map Prod.fst).contains d=true)(k:Off L t0 t):Off L t0 (Hb.upd d x t):=fun i hi=>by
 have hd:i≠d:=by
  intro e;subst e
  simp only[List.contains_eq_mem,List.mem_map,decide_eq_true_eq] at h
  obtain⟨x,hx,e⟩:=h
  exact hi x hx e.symm
 rw[zh,if_neg hd];exact k i hi
theorem Off.updO {L:List (Nat × LV)}{t0 t:Nat→LV}{d:Nat}{x:LV}(h:(L.map Prod.fst).contains d=true)(k:Off L t0 t):Off L t0 (Hb.updO (some d) x t):=Off.upd h k
theorem Off.upds {L L':List (Nat × LV)}{t0 t:Nat→LV}(h:(L'.all fun x=>(L.map Prod.fst).contains x.1)=true)(k:Off L t0 t):Off L t0 (Hb.upds L' t):=fun i hi=>by
 unfold Hb.upds
 have:(L'.find? fun x=>x.1 == i)=none:=List.find?_eq_none.2 fun x hx=>by
  have h1:=List.all_eq_true.1 h x hx
  simp only[List.contains_eq_mem,List.mem_map,decide_eq_true_eq] at h1
  obtain⟨y,hy,e⟩:=h1
  simp;intro e2;exact hi y hy (by rw[e,e2])
 rw[this];exact k i hi
theorem Fits.of {L:List (Nat × LV)}{t0 t:Nat→LV}(h1:∀ x∈L,Weak (t x.1) x.2)(h2:Off L t0 t):Fits L t0 t:=⟨h1,h2⟩
theorem fz0 {L:List (Nat × LV)}{t0:Nat→LV}(h1:∀ x∈L,Weak (t0 x.1) x.2:=by simp[zh,zu]):Fits L t0 t0:=⟨h1,Off.refl _ _⟩
theorem fz {L:List (Nat × LV)}{t0 t:Nat→LV}(h2:Off L t0 t:=by repeat (first|with_reducible exact Off.refl _ _|refine Off.upd rfl ?_|refine Off.updO rfl ?_|refine Off.upds rfl ?_))(h1:∀ x∈L,Weak (t x.1) x.2:=by simp[zh,zu]):Fits L t0 t:=⟨h1,h2⟩
theorem Fits.nil (t0:Nat→LV):Fits [] t0 t0:=⟨by simp,fun _ _=>rfl⟩
def Jo {β : Type}(t0:Nat→LV)(n k:Nat)(I:Nat→β→Prop)(L:Nat→β→List (Nat × LV))(S:Nat→β→List AObj)(V:Nat→β→List Nat)(st:St):Prop:=
 k<n∧∃ p,I (k+1) p∧Fits (L (k+1) p) t0 st.t∧st.s=S (k+1) p∧st.v=V (k+1) p
def KD (K:St→Prop)(_:Tok K)(st:St):Prop:=K st
theorem yW {β : Type}{P:Program}{r:Option Nat}{N:Nat}{Q:Exit→St→Prop}{t0:Nat→LV}{s0:List AObj}{v0:List Nat}{c:Code}(own:Bool)(n:Nat)(I:Nat→β→Prop)(L:Nat→β→List (Nat × LV))(S:Nat→β→List AObj)(V:Nat→β→List Nat)
  (h0:∃ p,I 0 p∧Fits (L 0 p) t0 t0∧s0=S 0 p∧v0=V 0 p)
  (round:∀ k p,k≤n→I k p→go (aC P r N own c (yp (KD (Jo t0 n k I L S V) ⟨⟩) Q)) ⟨⟩ ⟨upds (L k p) t0,S k p,V k p⟩):aW P r N (.loop c) Q ⟨t0,s0,v0⟩:=by
 refine zeL (fun d st=>d≤n∧∃ p,I (n-d) p∧Fits (L (n-d) p) t0 st.t∧st.s=S (n-d) p∧st.v=V (n-d) p) ?_ ?_
 ·obtain⟨p,h1,h2,h3,h4⟩:=h0
  exact⟨n,Nat.le_refl _,p,by simpa using h1,by simpa using h2,by simpa using h3,by simpa using h4⟩
 ·rintro d ⟨t,s,v⟩ ⟨hd,p,h1,h2,h3,h4⟩
  simp only at h2 h3 h4
  subst h3;subst h4
  refine zbt (st':=⟨upds (L (n-d) p) t0,S (n-d) p,V (n-d) p⟩) (h2.all) (wF.refl _) rfl ?_
  refine uo (wt _ _ _ (round (n-d) p (Nat.sub_le _ _) h1)) fun e st2 h=>?_
  cases e with
  | normal=>
   obtain⟨k1,p',k2,k3,k4,k5⟩:=h
   have e:n-(d-1)=n-d+1:=by omega
   exact⟨d-1,by omega,by omega,p',by rw[e];exact k2,by rw[e];exact k3,by rw[e];exact k4,by rw[e];exact k5⟩
  | _=>exact h
def KB {γ : Type}(id:Nat)(t0:Nat→LV)(Ix:γ→Prop)(X:γ→List (Nat × LV))(Sx:γ→List AObj)(Vx:γ→List Nat)(Q:Exit→St→Prop):Exit→St→Prop
 | .exit id',st=>if id'=id then ∃ q,Ix q∧Fits (X q) t0 st.t∧st.s=Sx q∧st.v=Vx q else Q (.exit id') st
 | .normal,_=>False
 | e,st=>Q e st
def Left {γ : Type}(t0:Nat→LV)(Ix:γ→Prop)(X:γ→List (Nat × LV))(Sx:γ→List AObj)(Vx:γ→List Nat)(st:St):Prop:=∃ q,Ix q∧Fits (X q) t0 st.t∧st.s=Sx q∧st.v=Vx q
section
variable {γ : Type} {id:Nat} {t0:Nat→LV} {Ix:γ→Prop} {X:γ→List (Nat × LV)} {Sx:γ→List AObj} {Vx:γ→List Nat} {Q:Exit→St→Prop} {st:St}
@[simp] theorem lLeave_ret (tk):go (KB id t0 Ix X Sx Vx Q .ret) tk st=go (Q .ret) ⟨⟩ st:=rfl
@[simp] theorem lLeave_self (tk):go (KB id t0 Ix X Sx Vx Q (.exit id)) tk st=KD (Left t0 Ix X Sx Vx) ⟨⟩ st:=by simp only[go,KB,if_true,Left,KD]
@[simp] theorem lLeave_exit (id':Nat) (tk) (h:(id' == id)=false):go (KB id t0 Ix X Sx Vx Q (.exit id')) tk st=go (Q (.exit id')) ⟨⟩ st:=by
 have:id'≠id:=by simpa using h
 simp only[go,KB,if_neg this]
end
theorem zC {β : Type}{P:Program}{r:Option Nat}{N:Nat}{own':Bool}{id:Nat}{c y:Code}{Q:Exit→St→Prop}{tk:TokQ y Q}{t0:Nat→LV}{s0:List AObj}{v0:List Nat}(own:Bool)(n:Nat)(I:Nat→β→Prop)(L:Nat→β→List (Nat × LV))(S:Nat→β→List AObj)(V:Nat→β→List Nat)
  (h0:∃ p,I 0 p∧Fits (L 0 p) t0 t0∧s0=S 0 p∧v0=V 0 p)
  (round:∀ k p,k≤n→I k p→go (aC P r N own c (yp (KD (Jo t0 n k I L S V) ⟨⟩) (zE id (aSeq P r N own' y Q)))) ⟨⟩ ⟨upds (L k p) t0,S k p,V k p⟩):aWs P r N own' id c y Q tk ⟨t0,s0,v0⟩:=by
 have hl:=yW (Q:=zE id (aSeq P r N own' y Q)) own n I L S V h0 round
 refine Jp (uo hl ?_)
 intro e st h
 have key:∀ (e:Exit) (st:St),aSeq P r N own' y Q e st→yp (aW P r N y Q) Q e st:=fun e st h=>by
  cases e with
  | normal=>exact wt _ _ _ h
  | _=>exact h
 cases e with
 | exit id'=>
  simp only[zE] at h ⊢
  split
  ·rename_i he;rw[if_pos he] at h;exact key _ _ h
  ·rename_i he;rw[if_neg he] at h;exact key _ _ h
 | _=>exact key _ _ h
theorem Zs {β γ : Type}{P:Program}{r:Option Nat}{N:Nat}{own':Bool}{id:Nat}{c y:Code}{Q:Exit→St→Prop}{tk:TokQ y Q}{t0:Nat→LV}{s0:List AObj}{v0:List Nat}(own:Bool)(n:Nat)(I:Nat→β→Prop)(L:Nat→β→List (Nat × LV))(S:Nat→β→List AObj)(V:Nat→β→List Nat)
  (Ix:γ→Prop) (X:γ→List (Nat × LV)) (Sx:γ→List AObj) (Vx:γ→List Nat)
  (h0:∃ p,I 0 p∧Fits (L 0 p) t0 t0∧s0=S 0 p∧v0=V 0 p)
  (round:∀ k p,k≤n→I k p→go (aC P r N own c (yp (KD (Jo t0 n k I L S V) ⟨⟩) (KB id t0 Ix X Sx Vx Q))) ⟨⟩ ⟨upds (L k p) t0,S k p,V k p⟩)
  (rest:∀ q,Ix q→go (aC P r N own' y Q) ⟨⟩ ⟨upds (X q) t0,Sx q,Vx q⟩):aWs P r N own' id c y Q tk ⟨t0,s0,v0⟩:=by
 have hl:=yW (Q:=KB id t0 Ix X Sx Vx Q) own n I L S V h0 round
 refine Jp (uo hl ?_)
 rintro e ⟨t,s,v⟩ h
 cases e with
 | normal=>exact h.elim
 | exit id'=>
  simp only[zE,KB] at h ⊢
  split
  ·rename_i he
   rw[if_pos he] at h
   obtain⟨q,h1,h2,h3,h4⟩:=h
   replace h3:s=Sx q:=h3;replace h4:v=Vx q:=h4
   subst h3;subst h4
   exact zbt (st':=⟨upds (X q) t0,Sx q,Vx q⟩) h2.all (wF.refl _) rfl (wt _ _ _ (rest q h1))
  ·rename_i he;rw[if_neg he] at h;exact h
 | _=>exact h
def zaG {β : Type}(t0:Nat→LV)(d:Nat)(I:β→Prop)(μ : β→Nat)(L:β→List (Nat × LV))(S:β→List AObj)(V:β→List Nat)(st:St):Prop:=
 ∃ p,μ p<d∧I p∧Fits (L p) t0 st.t∧st.s=S p∧st.v=V p
theorem YK {β : Type}{P:Program}{r:Option Nat}{N:Nat}{Q:Exit→St→Prop}{t0:Nat→LV}{s0:List AObj}{v0:List Nat}{c:Code}(own:Bool)(I:β→Prop)(μ : β→Nat)(L:β→List (Nat × LV))(S:β→List AObj)(V:β→List Nat)
  (h0:∃ p,I p∧Fits (L p) t0 t0∧s0=S p∧v0=V p)
  (round:∀ p,I p→go (aC P r N own c (yp (KD (zaG t0 (μ p) I μ L S V) ⟨⟩) Q)) ⟨⟩ ⟨upds (L p) t0,S p,V p⟩):aW P r N (.loop c) Q ⟨t0,s0,v0⟩:=by
 refine zeL (fun d st=>∃ p,d=μ p∧I p∧Fits (L p) t0 st.t∧st.s=S p∧st.v=V p) ?_ ?_
 ·obtain⟨p,h1,h2,h3,h4⟩:=h0
  exact⟨μ p,p,rfl,h1,h2,h3,h4⟩
 ·rintro d ⟨t,s,v⟩ ⟨p,rfl,h1,h2,h3,h4⟩
  simp only at h2 h3 h4
  subst h3;subst h4
  refine zbt (st':=⟨upds (L p) t0,S p,V p⟩) (h2.all) (wF.refl _) rfl ?_
  refine uo (wt _ _ _ (round p h1)) fun e st2 h=>?_
  cases e with
  | normal=>
   obtain⟨p',k1,k2,k3,k4,k5⟩:=h
   exact⟨μ p',k1,p',rfl,k2,k3,k4,k5⟩
  | _=>exact h
theorem zbz {β : Type}{P:Program}{r:Option Nat}{N:Nat}{own':Bool}{id:Nat}{c y:Code}{Q:Exit→St→Prop}{tk:TokQ y Q}{t0:Nat→LV}{s0:List AObj}{v0:List Nat}(own:Bool)(I:β→Prop)(μ : β→Nat)(L:β→List (Nat × LV))(S:β→List AObj)(V:β→List Nat)
  (h0:∃ p,I p∧Fits (L p) t0 t0∧s0=S p∧v0=V p)
  (round:∀ p,I p→go (aC P r N own c (yp (KD (zaG t0 (μ p) I μ L S V) ⟨⟩) (zE id (aSeq P r N own' y Q)))) ⟨⟩ ⟨upds (L p) t0,S p,V p⟩):aWs P r N own' id c y Q tk ⟨t0,s0,v0⟩:=by
 have hl:=YK (Q:=zE id (aSeq P r N own' y Q)) own I μ L S V h0 round
 refine Jp (uo hl ?_)
 intro e st h
 have key:∀ (e:Exit) (st:St),aSeq P r N own' y Q e st→yp (aW P r N y Q) Q e st:=fun e st h=>by
  cases e with
  | normal=>exact wt _ _ _ h
  | _=>exact h
 cases e with
 | exit id'=>
  simp only[zE] at h ⊢
  split
  ·rename_i he;rw[if_pos he] at h;exact key _ _ h
  ·rename_i he;rw[if_neg he] at h;exact key _ _ h
 | _=>exact key _ _ h
theorem zn.eq {s:List AObj}{v:List Nat}{y x:LV}(h:y=x)(h2:x.under s.length=true):zn s v y x s v:=by subst h;exact zn.same h2 (Weak.refl _)
theorem zn.eqat {s J:List AObj}{v:List Nat}{y x:LV}(h:y=x)(h2:x.under s.length=true):zn s v y x (s++J) v:=by subst h;exact zn.at h2 (Weak.refl _)
theorem Ends.eq {s:List AObj}{v v':List Nat}{y x:LV}(h:y=x)(h2:x.under s.length=true)(h3:v <+: v'):Ends s v y x s v':=by subst h;exact Ends.same h2 (Weak.refl _) h3
theorem Ends.eqat {s J:List AObj}{v v':List Nat}{y x:LV}(h:y=x)(h2:x.under s.length=true)(h3:v <+: v'):Ends s v y x (s++J) v':=by subst h;exact Ends.at h2 (Weak.refl _) h3
attribute [simp] zH LV.under
attribute [simp] Weak.refl Weak.any Weak.nilrow Weak.emprow
@[simp] theorem weaks_nil:yh [] []:=trivial
@[simp] theorem weaks_cons (x y:LV) (xs ys:List LV):yh (x :: xs) (y :: ys)↔Weak x y∧yh xs ys:=Iff.rfl
attribute [simp] Weak.agg Weak.tup
theorem zdW (a b:Bool):Weak (.bool a) (.bool b)↔a=b:=⟨fun h=>by
 have:=h ⟨default,fun _=>False,fun _=>0,fun _=>0,0,[],fun _=>⟨0,0,0,0⟩⟩ (.bool a) (by simp[RelV])
 simpa[RelV] using this,fun h=>by subst h;exact Weak.refl _⟩
theorem zia (k:IntKind)(a b:Int):Weak (.int k a) (.int k b)↔a=b:=⟨fun h=>by
 have:=h ⟨default,fun _=>False,fun _=>0,fun _=>0,0,[],fun _=>⟨0,0,0,0⟩⟩ (.int k a) (by simp[RelV])
 simpa[RelV] using this,fun h=>by subst h;exact Weak.refl _⟩
attribute [simp] zdW zia
theorem zkg {n:Int}(h : -9223372036854775808≤n)(h':n≤9223372036854775807):IntKind.i64.wrap n=n:=IntWalk.i64_in _ ⟨h,h'⟩
attribute [simp] List.filter_cons List.getElem?_cons_zero List.getElem?_cons_succ zhP zgq zfg zhO zgU Zu vj ZE Zv JM zB wN YT KJ ut zhE zfn zkg zhk zu
@[simp] theorem cells_int (k:IntKind) (n:Int):LV.cells (.int k n)=[.int k n]:=rfl
@[simp] theorem cellsOk_int (k:IntKind) (n:Int):LV.cellsOk (.int k n)=true:=rfl
@[simp] theorem cells_bool (b:Bool):LV.cells (.bool b)=[.bool b]:=rfl
@[simp] theorem cellsOk_bool (b:Bool):LV.cellsOk (.bool b)=true:=rfl
@[simp] theorem cells_str (b:ByteArray):LV.cells (.str b)=[.str b]:=rfl
@[simp] theorem cellsOk_str (b:ByteArray):LV.cellsOk (.str b)=true:=rfl
@[simp] theorem cells_nilp:LV.cells (.nilp)=[.nilp]:=rfl
@[simp] theorem cellsOk_nilp:LV.cellsOk (.nilp)=true:=rfl
@[simp] theorem cells_ptr (i o:Nat):LV.cells (.ptr i o)=[.ptr i o]:=rfl
@[simp] theorem cellsOk_ptr (i o:Nat):LV.cellsOk (.ptr i o)=true:=rfl
@[simp] theorem cells_eptr (cs:List LV):LV.cells (.eptr cs)=[.eptr cs]:=rfl
@[simp] theorem cellsOk_eptr (cs:List LV):LV.cellsOk (.eptr cs)=true:=rfl
@[simp] theorem cells_nils:LV.cells (.nils)=[.nils]:=rfl
@[simp] theorem cellsOk_nils:LV.cellsOk (.nils)=true:=rfl
@[simp] theorem cells_emp (n:Nat):LV.cells (.emp n)=[.emp n]:=rfl
@[simp] theorem cellsOk_emp (n:Nat):LV.cellsOk (.emp n)=true:=rfl
@[simp] theorem cells_imm (a b:Nat) (cs:List LV) (r:Right):LV.cells (.imm a b cs r)=[.imm a b cs r]:=rfl
@[simp] theorem cellsOk_imm (a b:Nat) (cs:List LV) (r:Right):LV.cellsOk (.imm a b cs r)=true:=rfl
@[simp] theorem cells_ref (a b c d:Nat) (f:Bool):LV.cells (.ref a b c d f)=[.ref a b c d f]:=rfl
@[simp] theorem cellsOk_ref (a b c d:Nat) (f:Bool):LV.cellsOk (.ref a b c d f)=true:=rfl
@[simp] theorem cells_nilf:LV.cells (.nilf)=[.nilf]:=rfl
@[simp] theorem cellsOk_nilf:LV.cellsOk (.nilf)=true:=rfl
@[simp] theorem cells_fn (f:Fn) (a b:List LV):LV.cells (.fn f a b)=[.fn f a b]:=rfl
@[simp] theorem cellsOk_fn (f:Fn) (a b:List LV):LV.cellsOk (.fn f a b)=true:=rfl
@[simp] theorem cells_nilm:LV.cells (.nilm)=[.nilm]:=rfl
@[simp] theorem cellsOk_nilm:LV.cellsOk (.nilm)=true:=rfl
@[simp] theorem cells_mapr (i:Nat):LV.cells (.mapr i)=[.mapr i]:=rfl
@[simp] theorem cellsOk_mapr (i:Nat):LV.cellsOk (.mapr i)=true:=rfl
@[simp] theorem cells_yld (i:Nat):LV.cells (.yld i)=[.yld i]:=rfl
@[simp] theorem cellsOk_yld (i:Nat):LV.cellsOk (.yld i)=true:=rfl
@[simp] theorem cells_agg (cs:List LV):LV.cells (.agg cs)=cs:=rfl
@[simp] theorem cellsOk_agg (cs:List LV):LV.cellsOk (.agg cs)=true:=rfl
@[simp] theorem aev_tmp (t:Nat→LV) (i:Nat):aev t (.tmp i)=t i:=rfl
@[simp] theorem aev_const (t:Nat→LV) (v:Value):aev t (.const v)=(zbr v).getD .any:=rfl
@[simp] theorem aev_func (t:Nat→LV) (f:FuncId):aev t (.func f) = .fn (.func f) [] []:=rfl
@[simp] theorem initT_zero (x:LV) (xs:List LV):yP (x :: xs) 0=x:=rfl
@[simp] theorem initT_succ (x:LV) (xs:List LV) (n:Nat):yP (x :: xs) (n+1)=yP xs n:=by simp[yP]
@[simp] theorem initT_nil (n:Nat):yP [] n = .tup []:=by simp[yP]
theorem Yh {size sz n:Nat}{cs:List LV}{r:Right}{s:List AObj} : zQ size (.imm sz n cs r) s=if sz=size then some (cs,n) else none:=rfl
theorem zaZ {size:Nat}{s:List AObj} : zQ size .nils s=some ([],0):=rfl
theorem zdj {size:Nat}{b:ByteArray}{s:List AObj} : zQ size (.str b) s=if size=1 then some (zbV b,b.size) else none:=rfl
attribute [simp] Yh zaZ zdj
end Go.Hb
end
section
namespace Go.Hb
open Go
structure Ins where
 op:Int
 a:Int
structure Fn_ where
 locals:Int
 code:List Ins
structure Prog where
 funcs:List Fn_
 mutexes:Int
 conds:List Int
 semas:List Int
 chans:List Int
 choices:List (List Int)
 threads:Int
def Ins.lv (i:Ins):List LV:=[.int .i64 i.op,.int .i64 i.a]
instance:Enc Ins:=⟨2,Ins.lv,⟨0,0⟩,fun _=>rfl,fun _ _=>rfl⟩
@[simp] theorem zix:Enc.sz Ins=2:=rfl
@[simp] theorem zjJ (i:Ins):Enc.enc i=[.int .i64 i.op,.int .i64 i.a]:=rfl
def Fn_.lv (f:Fn_):List LV:=[.int .i64 f.locals,row f.code]
instance:Enc Fn_:=⟨2,Fn_.lv,⟨0,[]⟩,fun _=>rfl,fun f n=>by simp[Fn_.lv,zH,LV.under]⟩
@[simp] theorem sz_fn:Enc.sz Fn_=2:=rfl
@[simp] theorem enc_fn (f:Fn_):Enc.enc f=[.int .i64 f.locals,row f.code]:=rfl
def Prog.lv (p:Prog):List LV:=[row p.funcs,.int .i64 p.mutexes,row p.conds,row p.semas,row p.chans,row p.choices,.int .i64 p.threads]
instance:Enc Prog:=⟨7,Prog.lv,⟨[],0,[],[],[],[],0⟩,fun _=>rfl,fun f n=>by simp[Prog.lv,zH,LV.under]⟩
instance:DecidableEq Ins:=fun a b=>decidable_of_iff (a.op=b.op∧a.a=b.a) ⟨fun ⟨h,k⟩=>by cases a;cases b;simp_all,fun h=>by subst h;exact⟨rfl,rfl⟩⟩
instance:DecidableEq Fn_:=fun a b=>decidable_of_iff (a.locals=b.locals∧a.code=b.code) ⟨fun ⟨h,k⟩=>by cases a;cases b;simp_all,fun h=>by subst h;exact⟨rfl,rfl⟩⟩
def zA (n m:Int):Int:=(if n<0 then -(n+1) else n)%m
theorem yl {n m:Int}(hm:0<m):0≤zA n m∧zA n m<m:=⟨Int.emod_nonneg _ (by omega),Int.emod_lt_of_pos _ hm⟩
def asks (op:Int):Bool:=decide (op=0) || (decide (5≤op) && decide (op≤9)) || decide (op=11) || (decide (15≤op) && decide (op≤24))
def vZ (fs mu co se ch cho lo cl op:Int):Int:=
 if op=0 then 1073741825 else if op=5∨op=6 then lo else if op=7∨op=8 then cl+1 else if op=9∨op=11 then fs
 else if op=15∨op=16 then mu else if op=17∨op=18∨op=19 then co else if op=20∨op=21 then se
 else if op=22∨op=23 then ch else if op=24 then cho else 0
def most (p:Prog)(f:Fn_)(op:Int):Int:=vZ p.funcs.length p.mutexes p.conds.length p.semas.length p.chans.length p.choices.length f.locals f.code.length op
def mayI (p:Prog)(f:Fn_)(i:Ins):Bool:=
 decide (0≤i.op) && decide (i.op≤26) && (if asks i.op=true then (if i.op=0∧i.a<0 then decide (-1073741824≤i.a) else decide (0≤i.a) && decide (i.a<most p f i.op)) else decide (i.a=0))
def yf (l:List Int)(to:Int):Bool:=l.all fun x=>decide (0≤x) && decide (x≤to)
def wz (p:Prog)(l:List Int):Bool:=yf l (p.chans.length-1) && decide l.Nodup && decide (1≤l.length) && decide (l.length≤8)
def mayF (p:Prog)(f:Fn_):Bool:=decide (0≤f.locals) && decide (f.locals≤8) && decide (f.code.length≤64) && f.code.all (mayI p f)
def mayP (p:Prog):Bool:=
 decide (1≤p.funcs.length) && decide (p.funcs.length≤16) && decide (0≤p.mutexes) && decide (p.mutexes≤8) && decide (p.conds.length≤8) && decide (p.semas.length≤8) && decide (p.chans.length≤8) && decide (p.choices.length≤8)
 && decide (1≤p.threads) && decide (p.threads≤32) && yf p.conds (p.mutexes-1) && yf p.semas 100 && yf p.chans 8 && p.choices.all (wz p) && p.funcs.all (mayF p)
def things (l:List Int)(to:Int):List Int:=if to<0 then [] else (l.take 4).map fun x=>zA x (to+1)
def xn (p:Prog)(f:Fn_)(i:Ins):Ins:=
 let op:=zA i.op 27
 if asks op=false then ⟨op,0⟩ else if most p f op=0 then ⟨12,0⟩ else if op=0 then ⟨0,i.a.tmod 1000⟩ else ⟨op,zA i.a (most p f op)⟩
theorem za {α : Type}[Enc α]{l:List α}{k:Nat}(h:k<l.length):l.take (k+1)=l.take k++[nth l k]:=by
 rw[List.take_add_one,List.getElem?_eq_getElem h,zK h];rfl
theorem QE {α : Type}[Enc α]{l:List α}{k:Nat}(h:k<l.length):l.drop k=nth l k :: l.drop (k+1):=by
 rw[List.drop_eq_getElem_cons h,zK h]
def va (acc:List Int)(x:Int):List Int:=if acc.any (fun y=>decide (y=x))=true then acc else acc++[x]
def dd (l:List Int):List Int:=l.foldl va []
theorem zjO {l:List Int}{j:Nat}(h:j<l.length):dd (l.take (j+1))=va (dd (l.take j)) (nth l j):=by
 unfold dd;rw[za h,List.foldl_append];rfl
theorem KG:∀ (l acc:List Int),(l.foldl va acc).length≤acc.length+l.length
 | [],acc=>by simp
 | x :: l,acc=>by
  have h:=KG l (va acc x)
  have:(va acc x).length≤acc.length+1:=by unfold va;split<;>simp
  simp only[List.foldl_cons,List.length_cons];omega
theorem ziv (l:List Int):(dd l).length≤l.length:=by have:=KG l [];simpa[dd] using this
theorem wM (l:List Int)(to:Int):(things l to).length≤4:=by unfold things;split<;>simp;omega
theorem zap {l:List Int}{to x:Int}(h:x∈things l to):0≤x∧x≤to:=by
 unfold things at h
 split at h
 ·cases h
 ·obtain⟨y,_,rfl⟩:=List.mem_map.1 h
  have:=yl (n:=y) (m:=to+1) (by omega)
  omega
def uG (nch:Nat)(l:List Int):List Int:=dd (things l (nch-1))
def xE (nch:Nat)(L:List (List Int)):List (List Int):=(L.map (uG nch)).filter fun l=>decide (0<l.length)
def Qe (f:Fn_):Fn_:=⟨zA f.locals 4,f.code.take 24⟩
def Qk (L:List Fn_):List Fn_:=if L.length=0 then [⟨0,[]⟩] else (L.take 4).map Qe
def XO (p:Prog):Prog:=
 ⟨Qk p.funcs,zA p.mutexes 4,things p.conds (zA p.mutexes 4-1),things p.semas 3,things p.chans 3,xE (things p.chans 3).length (p.choices.take 4),1+zA p.threads 8⟩
def good (p:Prog):Prog:={XO p with funcs:=(XO p).funcs.map fun f=>⟨f.locals,f.code.map (xn (XO p) f)⟩ }
end Go.Hb
end
section
namespace Go.Hb
open Go Go.RowKit
mutual
inductive DeepV (S:List AObj) (n:Nat):LV→LV→Prop where
 | keep (x:LV):x.under n=true→DeepV S n x x
 | ref (sz id off len:Nat) (fl:Bool) (L ys:List LV):n≤id→S[id]? = some (.cells L)→L≠[]→off+len*sz≤L.length→DeepVs S n ((L.drop off).take (len*sz)) ys→DeepV S n (.ref sz id off len fl) (.imm sz len ys .no)
 | agg (xs ys:List LV):DeepVs S n xs ys→DeepV S n (.agg xs) (.agg ys)
 | tup (xs ys:List LV):DeepVs S n xs ys→DeepV S n (.tup xs) (.tup ys)
 | weak (x y z:LV):DeepV S n x y→Weak y z→DeepV S n x z
inductive DeepVs (S:List AObj) (n:Nat):List LV→List LV→Prop where
 | nil:DeepVs S n [] []
 | cons (x y:LV) (xs ys:List LV):DeepV S n x y→DeepVs S n xs ys→DeepVs S n (x :: xs) (y :: ys)
end
theorem DeepVs.length {S:List AObj}{n:Nat} : ∀ {xs ys:List LV},DeepVs S n xs ys→xs.length=ys.length
 | _,_,.nil=>rfl
 | _,_,.cons _ _ _ _ _ h=>by simp[DeepVs.length h]
theorem DeepVs.app {S:List AObj}{n:Nat} : ∀ {a b c d:List LV},DeepVs S n a b→DeepVs S n c d→DeepVs S n (a++c) (b++d)
 | _,_,_,_,.nil,k=>k
 | _,_,_,_,.cons x y xs ys h hs,k=>.cons x y _ _ h (DeepVs.app hs k)
def frozen (C:Ctx)(S:List AObj)(n b:Nat):Bool:=(List.range C.n).any fun j=>decide (n≤j) && C.ρ j == b && (match S[j]? with | some (.cells (_ :: _))=>true | _=>false)
theorem vo {C:Ctx}{S:List AObj}{n b:Nat} : frozen C S n b=true↔∃ j L,n≤j∧j<C.n∧C.ρ j=b∧S[j]? = some (.cells L)∧L≠[]:=by
 unfold frozen
 rw[List.any_eq_true]
 constructor
 ·rintro⟨j,h1,h2⟩
  simp only[Bool.and_eq_true,decide_eq_true_eq,beq_iff_eq] at h2
  obtain⟨⟨h3,h4⟩,h5⟩:=h2
  split at h5
  ·rename_i x xs hx;exact⟨j,_,h3,List.mem_range.1 h1,h4,hx,by simp⟩
  ·cases h5
 ·rintro⟨j,L,h1,h2,h3,h4,h5⟩
  refine⟨j,List.mem_range.2 h2,?_⟩
  cases L with
  | nil=>exact absurd rfl h5
  | cons x xs=>simp[h1,h3,h4]
def Ctx.deep (C:Ctx)(S:List AObj)(n:Nat):Ctx:={C with n:=n,lim:=fun b=>if frozen C S n b=true then bs C.w b else C.lim b }
section
variable {C:Ctx} {S:List AObj} {n:Nat}
theorem zgV {vs:Array Value}{T:TypeId}{fr:Nat × Nat}{w:World}{b:Nat}(h:w.heap[b]? = some (.cells vs T fr)):bs w b=vs.size:=by unfold bs;rw[h]
theorem zcI (hok:Ok C S)(b:Nat):C.lim b≤(C.deep S n).lim b:=by
 simp only[Ctx.deep]
 split
 ·rename_i h
  obtain⟨j,L,h1,h2,rfl,h3,h4⟩:=vo.1 h
  rcases (hok.own j h2).2.1 with h5 | h5
  ·rw[h3] at h5;simp at h5;exact absurd h5 h4
  ·rw[h5];exact Nat.zero_le _
 ·exact Nat.le_refl _
def Ctx.deepN (C:Ctx)(S:List AObj)(n:Nat):Ctx:={C.deep S n with n:=C.n }
theorem zco (hok:Ok C S):C.wle (C.deepN S n):=
 ⟨fun b=>zcI hok b,fun _ _ _=>rfl,fun _ _=>rfl,Nat.le_refl _,fun _ e h=>⟨e,h,Nat.le_refl _,fun _=>rfl⟩,fun _=>Nat.le_refl _⟩
theorem zbM:(C.deepN S n).cut n=C.deep S n:=rfl
theorem zjN {id:Nat}{L:List LV}(h1:n≤id)(h2:id<C.n)(h3:S[id]? = some (.cells L))(h4:L≠[]):(C.deep S n).lim (C.ρ id)=bs C.w (C.ρ id):=by
 simp only[Ctx.deep]
 rw[if_pos (vo.2 ⟨id,L,h1,h2,rfl,h3,h4⟩)]
mutual
theorem DeepV.rel (hok:Ok C S):∀ {x y:LV} {v:Value},DeepV S n x y→RelV C x v→RelV (C.deep S n) y v
 | _,_,v,.keep x hu,r=>by
  rw[← zbM]
  exact RelV.cut x v hu (RelV.wmono (zco hok) x v r)
 | _,_,v,.ref sz id off len fl L ys h1 h2 h3 h4 h5,r=>by
  simp only[RelV] at r
  obtain⟨q0,cap,rfl,q1,q2,q3,q4⟩:=r
  obtain⟨vs,T,us,ws,p1,p2,p3,p4⟩:=hok.obj id _ h2
  have pl:=p3.length
  have hvl:vs.size=us.length+ws.length:=by
   have:=congrArg List.length p2
   simpa using this
  have hyl:=h5.length
  have hlen:((L.drop off).take (len*sz)).length=len*sz:=by simp;omega
  simp only[RelV]
  refine⟨some ⟨C.ρ id,off,none⟩,cap,rfl,q1,q2,by omega,(by intro h;cases h),fun a ha _=>by cases ha;rfl,fun b o hb=>?_,trivial⟩
  cases hb
  have hus:=(p3.drop off).take (len*sz)
  refine zZ.of_row (C:=C.deep S n) p1 ys ((us.drop off).take (len*sz)) off (DeepVs.rel hok h5 hus) (fun u hu=>p4 u (List.mem_of_mem_drop (List.mem_of_mem_take hu))) (fun j u hj=>?_) ?_
  ·have hj':=(List.getElem?_eq_some_iff.1 hj).1
   have hlt:j<len*sz:=by simp at hj';omega
   rw[List.getElem?_take_of_lt hlt,List.getElem?_drop] at hj
   have:vs.toList[off+j]? = some u:=by
    rw[p2,List.getElem?_append_left (List.getElem?_eq_some_iff.1 hj).1];exact hj
   simpa using this
  ·have e:=zjN (C:=C) h1 q0 h2 h3
   have e2:bs C.w (C.ρ id)=vs.size:=zgV p1
   rw[e,e2]
   have:=h5.length;simp only[List.length_take,List.length_drop] at this;omega
 | _,_,v,.agg xs ys h,r=>by
  simp only[RelV] at r ⊢
  obtain⟨vs,e1,e2,e3⟩:=r
  exact⟨vs,e1,DeepVs.rel hok h e2,e3⟩
 | _,_,v,.tup xs ys h,r=>by
  simp only[RelV] at r ⊢
  obtain⟨vs,e1,e2⟩:=r
  exact⟨vs,e1,DeepVs.rel hok h e2⟩
 | _,_,v,.weak x y z h hw,r=>hw _ _ (DeepV.rel hok h r)
theorem DeepVs.rel (hok:Ok C S):∀ {xs ys:List LV} {vs:List Value},DeepVs S n xs ys→zi C xs vs→zi (C.deep S n) ys vs
 | _,_,vs,.nil,r=>by simpa[zi] using r
 | _,_,vs,.cons x y xs ys h hs,r=>by
  simp only[zi] at r ⊢
  obtain⟨v,r',e1,e2,e3⟩:=r
  exact⟨v,r',e1,DeepV.rel hok h e2,DeepVs.rel hok hs e3⟩
end
end
theorem zS {P:Program}{f:FuncId}{args:List LV}{s:List AObj}{v:List Nat}{R:LV→List AObj→List Nat→Prop}
  (h:zp P f args s v fun x s' v'=>∃ J y,s'=s++J∧DeepV s' s.length x y∧R y s v'):zp P f args s v R:=by
 refine⟨h.1,fun C vs h1 h2 h3=>(h.2 C vs h1 h2 h3).mono ?_⟩
 rintro e w' ⟨C',x,u,s',v',rfl,rfl,k3,k4,k5,k6,J,y,rfl,k7,k8⟩
 have hn:C.n=s.length:=h1.n
 have hn':C'.n=(s++J).length:=k4.n
 have hlt:s.length≤C'.n:=by rw[hn',List.length_append];omega
 refine⟨C'.deep (s++J) s.length,y,u,s,v',rfl,rfl,⟨k3.os,k3.tape,k3.output,k3.size,k3.kept,k3.keep,fun b=>Nat.le_trans (k3.lim b) (zcI k4 b),k3.cell,k3.ρ,by simp[Ctx.deep,hn],k3.τ,k3.room,k3.drawn⟩,?_,k5,k7.rel k4 k6,k8⟩
 refine⟨rfl,fun i o ho=>?_,fun i j hi hj e=>?_,fun i hi=>?_,fun g hg=>?_,k4.tipinj,fun g i hg hi=>k4.tipown g i hg (Nat.lt_of_lt_of_le hi hlt),k4.kept,fun b hb=>?_⟩
 ·have hi:i<s.length:=(List.getElem?_eq_some_iff.1 ho).1
  have hr:=k4.obj i o (by rw[List.getElem?_append_left hi];exact ho)
  have hu:=RelO.under (h1.obj i o ho)
  rw[hn] at hu
  rw[← zbM]
  refine RelO.cut hu (RelO.wmono (zco k4) rfl hr)
 ·have:=k4.inj i j (Nat.lt_of_lt_of_le hi hlt) (Nat.lt_of_lt_of_le hj hlt) e
  rwa [List.getElem?_append_left hi,List.getElem?_append_left hj] at this
 ·obtain⟨a,b,c⟩:=k4.own i (Nat.lt_of_lt_of_le hi hlt)
  have hi':i<s.length:=hi
  rw[List.getElem?_append_left hi'] at b
  refine⟨a,?_,c⟩
  by_cases hd:s[i]? = some (.cells [])
  ·exact .inl hd
  ·right
   have hl0:=b.resolve_left hd
   show (C'.deep (s++J) s.length).lim (C'.ρ i)=0
   simp only[Ctx.deep]
   rw[if_neg]
   ·exact hl0
   ·intro hfz;obtain⟨j,L,j1,j2,j3,j4,j5⟩:=vo.1 hfz
    rcases k4.inj i j (Nat.lt_of_lt_of_le hi hlt) j2 j3.symm with e | e | e
    ·omega
    ·rw[List.getElem?_append_left hi'] at e;exact hd e
    ·rw[j4] at e;simp at e;exact j5 e
 ·obtain⟨a,b,c⟩:=k4.tip g hg
  refine⟨a,?_,c⟩
  show (C'.deep (s++J) s.length).lim (C'.θ g).b≤_
  simp only[Ctx.deep]
  rw[if_neg]
  ·exact b
  ·intro hfz;obtain⟨j,L,j1,j2,j3,j4,j5⟩:=vo.1 hfz
   exact k4.tipown g j hg j2 j3
 ·have hb':C'.w.heap.size≤b:=hb
  show (C'.deep (s++J) s.length).lim b=0
  simp only[Ctx.deep]
  rw[if_neg]
  ·exact k4.lim b hb'
  ·intro hfz;obtain⟨j,L,j1,j2,j3,j4,j5⟩:=vo.1 hfz
   have:=(k4.own j j2).2.2
   omega
end Go.Hb
end
section
namespace Go.Hb
open Go
def RowR (S:List AObj)(sz n:Nat)(cs:List LV)(x:LV)(id:Nat):Prop:=(n=0∧cs=[]∧x = .nils)∨(n≠0∧cs≠[]∧x = .ref sz id 0 n false∧S[id]? = some (.cells cs)∧cs.length=n*sz)
theorem RowR.nil (S:List AObj)(sz id:Nat):RowR S sz 0 [] .nils id:=.inl ⟨rfl,rfl,rfl⟩
theorem uF {P:Program}{t t2:TypeId}{sz by_:Nat}(hok:xA P t t2 sz by_=true)(hsz:0<sz)(hby:by_≤1000){S:List AObj}{n id:Nat}{cs ds:List LV}{x:LV}(h:RowR S sz n cs x id)(hd:ds.length=sz)(b:n+1≤100000000) :
  ∀ r,zk P t t2 x (.imm sz 1 ds r) S=some (.ref sz S.length 0 (n+1) false,(if n=0 then S else S.set id (.cells []))++[.cells (cs++ds)]):=by
 intro r
 have hm:(n+1)*by_≤100000000*1000:=Nat.mul_le_mul b hby
 have hml:n+1≤maxLen:=by unfold maxLen;omega
 unfold xA at hok
 split at hok
 rotate_left
 ·cases hok
 rename_i e hu
 simp only[Bool.and_eq_true] at hok
 obtain⟨⟨⟨hs,hb⟩,hn⟩,hz⟩:=hok
 cases hs':szT P e with
 | none=>rw[hs'] at hs;cases hs
 | some s'=>
 rw[hs'] at hs;simp at hs;subst hs
 cases hb':zD P e with
 | none=>rw[hb'] at hb;cases hb
 | some b'=>
 rw[hb'] at hb;simp at hb;subst hb
 cases hz':zT P e with
 | none=>rw[hz'] at hz;cases hz
 | some z=>
 rw[hz'] at hz;simp only[Bool.and_eq_true,beq_iff_eq] at hz
 have hy:zQ s' (.imm s' 1 ds r) S=some (ds,1):=by simp[zQ]
 have hnil:zw P t t2 x (.imm s' 1 ds r) S=false:=by
  unfold zw
  simp only[hu,hs',hy]
  simp
 have hds:0<ds.length:=by omega
 unfold zk
 rw[if_neg (by rw[hnil];simp)]
 rcases h with ⟨rfl,rfl,rfl⟩ | ⟨h1,h1c,rfl,h2,h3⟩
 ·simp only[if_true]
  unfold zF
  simp only[hu,hs',hb',hz',hy]
  rw[if_pos ⟨hn,hz.1,hz.2⟩]
  simp only[uD]
  rw[if_pos ⟨by omega,by omega,by omega⟩]
 ·rw[if_neg h1]
  unfold zI
  simp only[hu,hs',hb',hz',hy,h2]
  rw[if_pos ⟨hn,hz.1,hz.2⟩]
  have htk:cs.take (n*s')=cs:=List.take_of_length_le (by omega)
  rw[if_pos ⟨by trivial,by trivial,by omega,hml,by omega,hds,h1c⟩,htk]
def xu (S:List AObj):List Fn_→List Nat→List LV→Prop
 | [],[],r=>r=[]
 | f :: fs,id :: ids,r=>∃ x r',r = .int .i64 f.locals :: x :: r'∧RowR S 2 f.code.length (zd f.code) x id∧xu S fs ids r'
 | _,_,_=>False
theorem RowR.keep {S S':List AObj}{sz n id:Nat}{cs:List LV}{x:LV}(h:RowR S sz n cs x id)(hk:n≠0→S'[id]? = S[id]?):RowR S' sz n cs x id:=by
 rcases h with h | ⟨h1,h2,h3,h4,h5⟩
 ·exact .inl h
 ·exact .inr ⟨h1,h2,h3,(hk h1).trans h4,h5⟩
theorem xu.keep {S S':List AObj} : ∀ {fs:List Fn_} {ids:List Nat} {r:List LV},xu S fs ids r→(∀ id∈ids,S'[id]? = S[id]?)→xu S' fs ids r
 | [],[],_,h,_=>h
 | [],_ :: _,_,h,_=>h.elim
 | _ :: _,[],_,h,_=>h.elim
 | f :: fs,id :: ids,r,h,hk=>by
  obtain⟨x,r',rfl,h1,h2⟩:=h
  exact⟨x,r',rfl,h1.keep fun _=>hk id (by simp),h2.keep fun i hi=>hk i (by simp[hi])⟩
theorem xu.snoc {S:List AObj}{f:Fn_}{id:Nat}{x:LV}(hf:RowR S 2 f.code.length (zd f.code) x id):∀ {fs:List Fn_} {ids:List Nat} {r:List LV},xu S fs ids r→xu S (fs++[f]) (ids++[id]) (r++[.int .i64 f.locals,x])
 | [],[],r,h=>by simp only[xu] at h;subst h;exact⟨x,[],rfl,hf,rfl⟩
 | [],_ :: _,_,h=>h.elim
 | _ :: _,[],_,h=>h.elim
 | g :: fs,i :: ids,r,h=>by
  obtain⟨y,r',rfl,h1,h2⟩:=h
  exact⟨y,_,rfl,h1,xu.snoc hf h2⟩
theorem xu.len {S:List AObj} : ∀ {fs:List Fn_} {ids:List Nat} {r:List LV},xu S fs ids r→r.length=fs.length*2∧ids.length=fs.length
 | [],[],_,h=>by simp only[xu] at h;subst h;exact⟨rfl,rfl⟩
 | [],_ :: _,_,h=>h.elim
 | _ :: _,[],_,h=>h.elim
 | f :: fs,id :: ids,r,h=>by
  obtain⟨x,r',rfl,h1,h2⟩:=h
  have:=xu.len h2
  simp;omega
theorem xu.get {S:List AObj} : ∀ {fs:List Fn_} {ids:List Nat} {r:List LV} (i:Nat),xu S fs ids r→i<fs.length→
  ∃ x id,ids[i]? = some id∧(r.drop (i*2)).take 2=[.int .i64 (nth fs i).locals,x]∧RowR S 2 (nth fs i).code.length (zd (nth fs i).code) x id
 | [],_,_,_,_,hi=>by simp at hi
 | f :: fs,[],_,_,h,_=>h.elim
 | f :: fs,id :: ids,r,0,h,_=>by
  obtain⟨x,r',rfl,h1,h2⟩:=h
  exact⟨x,id,rfl,rfl,h1⟩
 | f :: fs,id :: ids,r,i+1,h,hi=>by
  obtain⟨x,r',rfl,h1,h2⟩:=h
  obtain⟨y,id',q1,q2,q3⟩:=xu.get i h2 (by simpa using hi)
  have hn:nth (f :: fs) (i+1)=nth fs i:=by simp[nth]
  rw[hn]
  exact⟨y,id',by simpa using q1,by simpa[Nat.add_mul] using q2,q3⟩
theorem xu.put {S S':List AObj}{c:List Ins} : ∀ {fs:List Fn_} {ids:List Nat} {r:List LV} (i:Nat) (id:Nat),xu S fs ids r→ids[i]? = some id→ids.Nodup→(∀ j∈ids,j≠id→S'[j]? = S[j]?)→c.length=(nth fs i).code.length→(c≠[]→S'[id]? = some (.cells (zd c)))→
  xu S' (fs.set i ⟨(nth fs i).locals,c⟩) ids r
 | [],[],_,i,id,h,hi,_,_,_,_=>by simp at hi
 | [],_ :: _,_,_,_,h,_,_,_,_,_=>h.elim
 | _ :: _,[],_,_,_,h,_,_,_,_,_=>h.elim
 | f :: fs,j :: ids,r,0,id,h,hi,hnd,hk,hc,hid=>by
  obtain⟨x,r',rfl,h1,h2⟩:=h
  simp at hi;subst hi
  have hn:nth (f :: fs) 0=f:=rfl
  rw[hn] at hc
  refine⟨x,r',rfl,?_,h2.keep fun i hi=>hk i (by simp[hi]) (by rintro rfl;simp at hnd;exact hnd.1 hi)⟩
  show RowR S' 2 c.length (zd c) x j
  rcases h1 with ⟨h1,h2,h3⟩ | ⟨h1,h2,h3,h4,h5⟩
  ·have:c=[]:=List.length_eq_zero_iff.1 (by omega)
   subst this
   exact .inl ⟨rfl,rfl,h3⟩
  ·have hne:c≠[]:=by intro e;subst e;simp at hc;omega
   refine .inr ⟨by rw[hc];exact h1,?_,by rw[hc];exact h3,hid hne,zY c⟩
   intro e
   have:=zY c
   rw[e,zix,List.length_nil] at this
   exact hne (List.length_eq_zero_iff.1 (by omega))
 | f :: fs,j :: ids,r,i+1,id,h,hi,hnd,hk,hc,hid=>by
  obtain⟨x,r',rfl,h1,h2⟩:=h
  have hn:nth (f :: fs) (i+1)=nth fs i:=by simp[nth]
  simp only[List.nodup_cons] at hnd
  have hi':ids[i]? = some id:=by simpa using hi
  have hne:j≠id:=by rintro rfl;exact hnd.1 (List.mem_of_getElem? hi')
  have:=xu.put (S':=S') (c:=c) i id h2 hi' hnd.2 (fun k hk'=>hk k (by simp[hk'])) (by rw[hn] at hc;exact hc) hid
  refine⟨x,r',rfl,h1.keep fun _=>hk j (by simp) hne,?_⟩
  rw[hn];exact this
theorem xu.deep {S:List AObj}{n:Nat} : ∀ {fs:List Fn_} {ids:List Nat} {r:List LV},xu S fs ids r→(∀ id∈ids,n≤id)→DeepVs S n r (zd fs)
 | [],[],_,h,_=>by simp only[xu] at h;subst h;exact .nil
 | [],_ :: _,_,h,_=>h.elim
 | _ :: _,[],_,h,_=>h.elim
 | f :: fs,id :: ids,r,h,hn=>by
  obtain⟨x,r',rfl,h1,h2⟩:=h
  rw[zy]
  refine .cons _ _ _ _ (.keep _ (by simp)) (.cons _ _ _ _ ?_ (xu.deep h2 fun i hi=>hn i (by simp[hi])))
  rcases h1 with ⟨q1,q2,rfl⟩ | ⟨q1,q2,rfl,q4,q5⟩
  ·have:f.code=[]:=List.length_eq_zero_iff.1 q1
   rw[this]
   exact .weak _ _ _ (.keep _ rfl) Weak.nilrow
  ·refine .weak _ _ _ (.ref 2 id 0 f.code.length false (zd f.code) (zd f.code) (hn id (by simp)) q4 q2 (by omega) ?_) (Weak.refl _)
   have:(List.take (f.code.length*2) (List.drop 0 (zd f.code)))=zd f.code:=by rw[List.drop_zero,List.take_of_length_le (by omega)]
   rw[this]
   exact ul _ (xj n f.code)
where
 ul {S:List AObj} {n:Nat} : ∀ (l:List LV),zH n l=true→DeepVs S n l l
 | [],_=>.nil
 | x :: xs,h=>by
  simp only[zH,Bool.and_eq_true] at h
  exact .cons _ _ _ _ (.keep _ h.1) (ul xs h.2)
end Go.Hb
namespace Go.Hb
theorem wD (s J:List AObj)(a b c:AObj)(d:Nat):(s++(a :: b :: c :: J))[s.length+(d+3)]? = J[d]?:=by rw[zL];simp
theorem zfY (s J:List AObj)(a b c o:AObj)(d:Nat):(s++(a :: b :: c :: J)).set (s.length+(d+3)) o=s++(a :: b :: c :: J.set d o):=by rw[vU];simp
theorem zbh {s J J':List AObj}{a b c a' b' c':AObj}{id:Nat}(h:s.length+3≤id)(hj:J'[id-(s.length+3)]? = J[id-(s.length+3)]?):(s++(a' :: b' :: c' :: J'))[id]? = (s++(a :: b :: c :: J))[id]?:=by
 obtain⟨d,rfl⟩:∃ d,id=s.length+(d+3):=⟨id-(s.length+3),by omega⟩
 rw[wD,wD]
 rwa [show s.length+(d+3)-(s.length+3)=d by omega] at hj
end Go.Hb
namespace Go.Hb
open Go
theorem Je (J D:List AObj)(F:AObj)(d:Nat):(J++F :: D)[J.length+1+d]? = D[d]?:=by
 rw[List.getElem?_append_right (by omega),show J.length+1+d-J.length=d+1 by omega,List.getElem?_cons_succ]
theorem zhH (J D:List AObj)(F o:AObj)(d:Nat):(J++F :: D).set (J.length+1+d) o=J++F :: D.set d o:=by
 rw[List.set_append_right _ _ (by omega),show J.length+1+d-J.length=d+1 by omega,List.set_cons_succ]
def dead:AObj:=.cells []
theorem zga {P:Program}{t t2:TypeId}(hok:xA P t t2 2 16=true){s J D:List AObj}{a b c:AObj}{lo:LV}{x:LV}{d j:Nat}{code:List Ins}
  (hr1:RowR (s++(a :: b :: c :: (J++.cells [lo,x] :: D))) 2 j (zd (code.take j)) x (s.length+(J.length+1+d+3))) (hr2:j≠0→d<D.length) (hjl:j<code.length) (hj:j<24) :
  ∃ D',D.length<D'.length∧(∀ r,zk P t t2 x (.imm 2 1 [.int .i64 (nth code j).op,.int .i64 (nth code j).a] r) (s++(a :: b :: c :: (J++.cells [lo,x] :: D)))=some (.ref 2 (s.length+(J.length+1+D.length+3)) 0 (j+1) false,s++(a :: b :: c :: (J++.cells [lo,x] :: D'))))∧
   ∀ F,RowR (s++(a :: b :: c :: (J++F :: D'))) 2 (j+1) (zd (code.take (j+1))) (.ref 2 (s.length+(J.length+1+D.length+3)) 0 (j+1) false) (s.length+(J.length+1+D.length+3)):=by
 have ha:=uF (P:=P) (t:=t) (t2:=t2) (by_:=16) (ds:=[.int .i64 (nth code j).op,.int .i64 (nth code j).a]) hok (by omega) (by omega) hr1 (by simp) (by omega)
 have hcs:zd (code.take j)++[.int .i64 (nth code j).op,.int .i64 (nth code j).a]=zd (code.take (j+1)):=by
  rw[za hjl,xI,zy];simp
 have hD:∃ D1:List AObj,D1.length=D.length∧(if j=0 then s++(a :: b :: c :: (J++.cells [lo,x] :: D)) else (s++(a :: b :: c :: (J++.cells [lo,x] :: D))).set (s.length+(J.length+1+d+3)) (.cells []))=s++(a :: b :: c :: (J++.cells [lo,x] :: D1)):=by
  by_cases h0:j=0
  ·exact⟨D,rfl,if_pos h0⟩
  ·refine⟨D.set d (.cells []),by simp,?_⟩
   rw[if_neg h0,zfY,zhH]
 obtain⟨D1,hl,hD1⟩:=hD
 refine⟨D1++[.cells (zd (code.take (j+1)))],by simp[hl],fun r=>?_,fun F=>.inr ⟨by omega,?_,rfl,?_,?_⟩⟩
 ·rw[ha r,hD1,hcs]
  have e1:(s++(a :: b :: c :: (J++.cells [lo,x] :: D))).length=s.length+(J.length+1+D.length+3):=by simp;omega
  rw[e1]
  simp
 ·rw[za hjl,xI,zy];simp
 ·rw[wD,Je,← hl];simp
 ·rw[zY,List.length_take,zix,Nat.min_eq_left (by omega)]
theorem zef {P:Program}{t t2:TypeId}(hok:xA P t t2 2 32=true){s J D:List AObj}{a b c:AObj}{lo:Int}{x xF:LV}{d dF k:Nat}{code:List Ins}{fs:List Fn_}{ids:List Nat}{fcs:List LV}
  (hf1:xu (s++(a :: b :: c :: J)) fs ids fcs) (hf2:RowR (s++(a :: b :: c :: J)) 2 k fcs xF (s.length+(dF+3))) (hf3:ids.Nodup) (hf4:∀ id∈ids,s.length+3≤id∧id<s.length+(J.length+3)∧(k≠0→id≠s.length+(dF+3)))
  (hr1:RowR (s++(a :: b :: c :: (J++.cells [.int .i64 lo,x] :: D))) 2 code.length (zd code) x (s.length+(J.length+1+d+3))) (hr2:code.length≠0→d<D.length) (hk:k<4) (hdF:k≠0→dF<J.length) :
  ∃ J' ids',(∀ r,zk P t t2 xF (.imm 2 1 [.int .i64 lo,x] r) (s++(a :: b :: c :: (J++.cells [.int .i64 lo,x] :: D)))=some (.ref 2 (s.length+(J.length+1+D.length+3)) 0 (k+1) false,s++(a :: b :: c :: J')))∧
   (∀ a b c,xu (s++(a :: b :: c :: J')) (fs++[⟨lo,code⟩]) ids' (fcs++[.int .i64 lo,x]))∧(∀ a b c,RowR (s++(a :: b :: c :: J')) 2 (k+1) (fcs++[.int .i64 lo,x]) (.ref 2 (s.length+(J.length+1+D.length+3)) 0 (k+1) false) (s.length+(J.length+1+D.length+3)))∧
   ids'.Nodup∧(∀ id∈ids',s.length+3≤id∧id<s.length+(J'.length+3)∧id≠s.length+(J.length+1+D.length+3))∧J.length+1+D.length<J'.length:=by
 obtain⟨di,hdi1,hdi2,hrow⟩:∃ di,J.length≤di∧di<J.length+1+D.length∧∀ a b c J',(∀ i,J.length<i→i<J.length+1+D.length→J'[i]? = (J++AObj.cells [.int .i64 lo,x] :: D)[i]?)→RowR (s++(a :: b :: c :: J')) 2 code.length (zd code) x (s.length+(di+3)):=by
  by_cases h0:code.length=0
  ·refine⟨J.length,Nat.le_refl _,by omega,fun _ _ _ _ _=>?_⟩
   rcases hr1 with h | h
   ·exact .inl h
   ·exact absurd h0 h.1
  ·have hd:=hr2 h0
   exact⟨J.length+1+d,by omega,by omega,fun a' b' c' J' hJ=>hr1.keep fun _=>by rw[wD,wD];exact hJ _ (by omega) (by omega)⟩
 have hget:∀ i,i<J.length→(J++AObj.cells [.int .i64 lo,x] :: D)[i]? = J[i]?:=fun i hi=>List.getElem?_append_left hi
 have hf2':RowR (s++(a :: b :: c :: (J++.cells [.int .i64 lo,x] :: D))) 2 k fcs xF (s.length+(dF+3)):=hf2.keep fun h0=>by rw[wD,wD,hget _ (hdF h0)]
 have ha:=uF (P:=P) (t:=t) (t2:=t2) (by_:=32) (ds:=[.int .i64 lo,x]) hok (by omega) (by omega) hf2' (by simp) (by omega)
 obtain⟨J1,hl,hJ1,hold⟩:∃ J1:List AObj,J1.length=J.length∧(if k=0 then s++(a :: b :: c :: (J++.cells [.int .i64 lo,x] :: D)) else (s++(a :: b :: c :: (J++.cells [.int .i64 lo,x] :: D))).set (s.length+(dF+3)) (.cells []))=s++(a :: b :: c :: (J1++.cells [.int .i64 lo,x] :: D))∧∀ i,(k≠0→i≠dF)→J1[i]? = J[i]?:=by
  by_cases h0:k=0
  ·exact⟨J,rfl,if_pos h0,fun _ _=>rfl⟩
  ·refine⟨J.set dF (.cells []),by simp,?_,fun i hi=>by rw[List.getElem?_set_ne (fun e=>hi h0 e.symm)]⟩
   rw[if_neg h0,zfY,List.set_append_left _ _ (hdF h0)]
 refine⟨J1++.cells [.int .i64 lo,x] :: D++[.cells (fcs++[.int .i64 lo,x])],ids++[s.length+(di+3)],fun r=>?_,fun a' b' c'=>?_,fun a' b' c'=>.inr ⟨by omega,by simp,rfl,?_,?_⟩,?_,?_,?_⟩
 ·rw[ha r,hJ1]
  have e1:(s++(a :: b :: c :: (J++.cells [.int .i64 lo,x] :: D))).length=s.length+(J.length+1+D.length+3):=by simp;omega
  rw[e1]
  simp
 ·refine xu.snoc (f:=⟨lo,code⟩) ?_ (hf1.keep fun id hid=>?_)
  ·refine hrow a' b' c' _ fun i h1 h2=>?_
   obtain⟨e,rfl⟩:∃ e,i=J.length+1+e:=⟨i-(J.length+1),by omega⟩
   rw[List.append_assoc,List.cons_append,Je,← hl,Je,List.getElem?_append_left (by omega)]
  ·obtain⟨q1,q2,q3⟩:=hf4 id hid
   refine zbh q1 ?_
   have hlt:id-(s.length+3)<J.length:=by omega
   rw[List.append_assoc,List.getElem?_append_left (by omega)]
   exact hold _ (fun h0 e=>q3 h0 (by omega))
 ·rw[wD,← hl,List.append_assoc,List.cons_append,Je];simp
 ·rcases hf2 with ⟨q1,q2,_⟩ | ⟨_,_,_,_,q5⟩
  ·subst q1;subst q2;rfl
  ·simp only[List.length_append,q5,List.length_cons,List.length_nil];omega
 ·rw[List.nodup_append]
  refine⟨hf3,by simp,fun i hi j hj e=>?_⟩
  simp at hj
  have:=hf4 i hi
  omega
 ·intro id hid
  rcases List.mem_append.1 hid with h | h
  ·have:=hf4 id h
   simp;omega
  ·simp at h
   simp;omega
 ·simp[hl];omega
end Go.Hb
namespace Go.Hb
open Go
def we {α : Type}(g:α→α)(l:List α)(j:Nat):List α:=(l.take j).map g++l.drop j
theorem vn {α : Type}(g:α→α)(l:List α)(j:Nat):(we g l j).length=l.length:=by simp[we];omega
theorem zbK {α : Type}(g:α→α)(l:List α):we g l 0=l:=by simp[we]
theorem ZT {α : Type}(g:α→α)(l:List α):we g l l.length=l.map g:=by simp[we]
theorem uQ {α : Type}[Enc α](g:α→α){l:List α}{j:Nat}(h:j<l.length):nth (we g l j) j=nth l j:=by
 rw[zK (by rw[vn];exact h),zK h]
 simp only[we]
 rw[List.getElem_append_right (by simp;omega)]
 have:((l.take j).map g).length=j:=by simp;omega
 simp only[this,Nat.sub_self,List.getElem_drop,Nat.add_zero]
theorem Yk {α : Type}[Enc α](g:α→α){l:List α}{j:Nat}(h:j<l.length):(we g l j).set j (g (nth l j))=we g l (j+1):=by
 have hl:((l.take j).map g).length=j:=by simp;omega
 unfold we
 rw[List.set_append_right _ _ (by omega),hl,Nat.sub_self,QE h,List.set_cons_zero,za h]
 simp
theorem zaC:∀ (l:List Ins) (j:Nat) (x y:Int),j<l.length→wq (zd l) (j*2) [.int .i64 x,.int .i64 y]=zd (l.set j ⟨x,y⟩)
 | i :: l,0,x,y,_=>by simp[zy,wq]
 | i :: l,j+1,x,y,h=>by
  have ih:=zaC l j x y (by simpa using h)
  rw[List.set_cons_succ,zy,zy,← ih]
  have e:(j+1)*2=j*2+1+1:=by omega
  simp only[wq,zjJ,e,List.cons_append,List.nil_append,List.set_cons_succ]
theorem zjw {l:List Ins}{j:Nat}(h:j<l.length):((zd l).drop (j*2)).take 2=[.int .i64 (nth l j).op,.int .i64 (nth l j).a]:=by
 have:=Kj h
 simpa using this
theorem zdi (p:Prog)(f:Fn_)(i:Ins):(xn p f i).lv=(let op':=zA i.op 27;let m:=most p f op';if asks op'=false then [.int .i64 op',.int .i64 0] else if m=0 then [.int .i64 12,.int .i64 0] else if op'=0 then [.int .i64 0,.int .i64 (i.a.tmod 1000)] else [.int .i64 op',.int .i64 (zA i.a m)]):=by
 unfold xn
 simp only
 split
 ·rfl
 ·split
  ·rfl
  ·split<;>rfl
end Go.Hb
namespace Go.Hb
open Go
def Ret (P:Program)(f:FuncId)(args:List LV)(s:List AObj)(y:LV):Prop:=∀ v,zp P f args s v fun x s' v'=>y=x∧s=s'∧v <+: v'
theorem zG.ret {P:Program}{f:FuncId}{args:List LV}{s:List AObj}{y:LV}(h:zG P f args y):Ret P f args s y:=fun v=>h s v
theorem yE {P:Program}{f:FuncId}{args:List LV}{s:List AObj}{v:List Nat}{y:LV}{K:LV→List AObj→List Nat→Prop}(h:Ret P f args s y)(k:∀ v',v <+: v'→K y s v'):zp P f args s v K:=
 zj (h v) fun x s' v' ⟨e1,e2,e3⟩=>by subst e1;subst e2;exact k v' e3
theorem Ret.of {P:Program}{f:FuncId}{args:List LV}{s:List AObj}{y:LV}(h:∀ v,zp P f args s v (Ends s v y)):Ret P f args s y:=fun v=>Qp (h v)
def fidx {α : Type}(p:α→Bool)(l:List α):Int:=match l.findIdx? p with | some i=>(i:Int) | none=> -1
theorem uu {α : Type}[Enc α]{p:α→Bool}{l:List α}{k:Nat}(h:k<l.length)(h1:∀ j,j<k→p (nth l j)=false)(h2:p (nth l k)=true):fidx p l=k:=by
 have:l.findIdx? p=some k:=by
  rw[List.findIdx?_eq_some_iff_getElem]
  refine⟨h,by rw[← zK h];exact h2,fun j hj=>?_⟩
  have:=h1 j hj
  rw[zK (by omega)] at this
  simp[this]
 simp[fidx,this]
theorem wv {α : Type}[Enc α]{p:α→Bool}{l:List α}(h1:∀ j,j<l.length→p (nth l j)=false):fidx p l = -1:=by
 have:l.findIdx? p=none:=by
  rw[List.findIdx?_eq_none_iff]
  intro x hx
  obtain⟨j,hj,rfl⟩:=List.getElem_of_mem hx
  have:=h1 j hj
  rw[zK hj] at this
  exact this
 simp[fidx,this]
theorem vQ {α : Type}(p:α→Bool)(l:List α):decide (0≤fidx p l)=l.any p:=by
 unfold fidx
 cases h:l.findIdx? p with
 | none=>
  have:=List.findIdx?_eq_none_iff.1 h
  simp only[show ¬ ((0:Int)≤ -1) by omega,decide_false]
  symm
  rw[List.any_eq_false]
  intro x hx;simp[this x hx]
 | some i=>
  have:=(List.findIdx?_eq_some_iff_getElem.1 h)
  obtain⟨h1,h2,_⟩:=this
  simp only[Int.natCast_nonneg,decide_true]
  symm
  rw[List.any_eq_true]
  exact⟨l[i],List.getElem_mem h1,h2⟩
end Go.Hb
namespace Go.Hb
open Go
theorem yJ {P:Program}{f:FuncId}{args args':List LV}{s:List AObj}{v:List Nat}{R:LV→List AObj→List Nat→Prop}(hw:yh args args')(h:zp P f args' s v R):zp P f args s v R:=
 ⟨h.1,fun C vs h1 h2 h3=>h.2 C vs h1 h2 (yh.rel hw h3)⟩
end Go.Hb
namespace Go.Hb
theorem zek (z:List LV):xz z 0=[]:=rfl
theorem zdm (z:List LV)(n:Nat):xz z (n+1)=z++xz z n:=by simp[xz,List.replicate_succ]
attribute [simp] zek zdm
end Go.Hb
end
