/-
  A layer for reasoning about the program's calls, and contracts of its functions. CONDITIONS: none; each theorem bears its own.
-/
import Derived.Test.YtieoaonaijbijaaGreatG06
import Derived.Test.YtieoaonaijbijaaGreatG07
import Derived.Test.YtieoaonaijbijaaGreatG09
import Derived.Test.YtieoaonaijbijaaGreatG08
set_option linter.unusedVariables false
set_option linter.unusedSimpArgs false
section
namespace Go.Hb
open Go
def zdr:Nat:=3988292384
def cS (n:Nat):Nat:=if n%2=1 then (n/2) ^^^ zdr else n/2
def cN:Nat→Nat→Nat
 | 0,n=>n
 | k+1,n=>cS (cN k n)
theorem zgp (a b:Nat):(a ^^^ b)/2=a/2 ^^^ b/2:=by
 have h:=Nat.shiftRight_xor_distrib (a:=a) (b:=b) (i:=1)
 simpa[Nat.shiftRight_eq_div_pow] using h
theorem zlc (a b:Nat):cS (a ^^^ b)=cS a ^^^ cS b:=by
 have hm:(a ^^^ b)%2=(a%2+b%2)%2:=by
  have:=Nat.xor_mod_two_pow (a:=a) (b:=b) (n:=1)
  simp only[Nat.pow_one] at this
  rw[this]
  rcases Nat.mod_two_eq_zero_or_one a with h | h<;>rcases Nat.mod_two_eq_zero_or_one b with h' | h'<;>rw[h,h']<;>rfl
 unfold cS
 rw[hm,zgp]
 rcases Nat.mod_two_eq_zero_or_one a with h | h<;>rcases Nat.mod_two_eq_zero_or_one b with h' | h'<;>rw[h,h']<;>simp
 ·rw[Nat.xor_assoc]
 ·rw[Nat.xor_assoc,Nat.xor_assoc,Nat.xor_comm (b/2) zdr]
 ·rw[Nat.xor_assoc,Nat.xor_comm (b/2) zdr,← Nat.xor_assoc zdr,Nat.xor_self,Nat.zero_xor]
theorem ziH:∀ (k a b:Nat),cN k (a ^^^ b)=cN k a ^^^ cN k b
 | 0,_,_=>rfl
 | k+1,a,b=>by simp only[cN];rw[ziH k,zlc]
theorem zmq (k:Nat):∀ n,cN (k+1) n=cN k (cS n):=by
 induction k with
 | zero=>intro n;rfl
 | succ k ih=>intro n;show cS (cN (k+1) n)=_;rw[ih];rfl
theorem ziD:∀ (k w:Nat),cN k (w*2 ^ k)=w
 | 0,w=>by simp[cN]
 | k+1,w=>by
  have e:w*2 ^ (k+1)=(w*2 ^ k)*2:=by rw[Nat.pow_succ,Nat.mul_assoc]
  have:cS (w*2 ^ (k+1))=w*2 ^ k:=by
   unfold cS
   rw[e,if_neg (by omega)];omega
  rw[zmq,this,ziD k]
theorem zlR (x:Nat):x=(x%256) ^^^ (x/256*2 ^ 8):=by
 refine Nat.eq_of_testBit_eq fun i=>?_
 rw[show x/256*2 ^ 8=(x >>> 8) <<< 8 by rw[Nat.shiftLeft_eq,Nat.shiftRight_eq_div_pow],show x%256=x%2 ^ 8 from rfl,Nat.testBit_xor,Nat.testBit_mod_two_pow,Nat.testBit_shiftLeft]
 by_cases h:i<8
 ·simp[h,show ¬ 8≤i by omega]
 ·simp[h,show 8≤i by omega,Nat.testBit_shiftRight,show 8+(i-8)=i by omega]
theorem zhY (x:Nat):cN 8 x=cN 8 (x%256) ^^^ (x/256):=by
 conv=>lhs;rw[zlR x]
 rw[ziH,ziD]
theorem zmA {n:Nat}(h:n<4294967296):cS n<4294967296:=by
 unfold cS
 split
 ·exact Nat.xor_lt_two_pow (n:=32) (by omega) (by decide)
 ·omega
theorem zee {n:Nat}(h:n<4294967296):∀ k,cN k n<4294967296
 | 0=>h
 | k+1=>zmA (zee h k)
def crcB (r:Nat)(b:UInt8):Nat:=cN 8 (r ^^^ b.toNat)
def crcL (r:Nat)(l:List UInt8):Nat:=l.foldl crcB r
def ZA (l:List UInt8):Nat:=4294967295-crcL 4294967295 l
theorem zjT {r:Nat}(h:r<4294967296)(b:UInt8):crcB r b<4294967296:=
 zee (Nat.xor_lt_two_pow (n:=32) h (by have:=b.toNat_lt;omega)) 8
theorem YG:∀ (l:List UInt8) {r:Nat},r<4294967296→crcL r l<4294967296
 | [],_,h=>h
 | b :: l,_,h=>YG l (zjT h b)
theorem zah (r:Nat)(l:List UInt8)(b:UInt8):crcL r (l++[b])=crcB (crcL r l) b:=by simp[crcL]
theorem Xx (l:List UInt8):ZA l<4294967296:=by unfold ZA;omega
theorem zcW (r:Nat)(b:UInt8):crcB r b=cN 8 ((r%256) ^^^ b.toNat) ^^^ (r/256):=by
 have hb:=b.toNat_lt
 have hm:(r ^^^ b.toNat)%256=(r%256) ^^^ b.toNat:=by
  have:=Nat.xor_mod_two_pow (a:=r) (b:=b.toNat) (n:=8)
  rw[show (2:Nat) ^ 8=256 by decide] at this
  rw[this,Nat.mod_eq_of_lt (a:=b.toNat) (by omega)]
 have hd:(r ^^^ b.toNat)/256=r/256:=by
  have h:=Nat.shiftRight_xor_distrib (a:=r) (b:=b.toNat) (i:=8)
  simp only[Nat.shiftRight_eq_div_pow] at h
  rw[show (2:Nat) ^ 8=256 by decide] at h
  rw[h,Nat.div_eq_of_lt (a:=b.toNat) (by omega),Nat.xor_zero]
 unfold crcB
 rw[zhY,hm,hd]
theorem zmi {x:Nat}(h:x<4294967296):x ^^^ 4294967295=4294967295-x:=by
 have e:BitVec.ofNat 32 x ^^^ BitVec.allOnes 32 = ~~~ BitVec.ofNat 32 x:=BitVec.xor_allOnes
 have e2:=congrArg BitVec.toNat e
 rw[BitVec.toNat_xor,BitVec.toNat_not,BitVec.toNat_allOnes,BitVec.toNat_ofNat,Nat.mod_eq_of_lt (by omega)] at e2
 exact e2
def le4 (n:Nat):List UInt8:=[UInt8.ofNat n,UInt8.ofNat (n/256),UInt8.ofNat (n/65536),UInt8.ofNat (n/16777216)]
def vO (l:List UInt8):List UInt8:=l++le4 (ZA l)
theorem Kg (l:List UInt8):(vO l).length=l.length+4:=by simp[vO,le4]
@[simp] theorem u32_pow:(2:Nat) ^ IntKind.u32.bits=4294967296:=rfl
@[simp] theorem u32_powi:(2:Int) ^ IntKind.u32.bits=4294967296:=rfl
@[simp] theorem zcu {n:Nat} (h:n<4294967296):IntKind.u32.wrap (n:Int)=n:=by
 have:IntKind.u32.wrap (n:Int)=(n:Int)%4294967296:=rfl
 rw[this];omega
@[simp] theorem mod_u32 {n:Nat} (h:n<4294967296):n%4294967296=n:=Nat.mod_eq_of_lt h
@[simp] theorem modi_u32 {n:Nat} (h:n<4294967296):((n:Int)%4294967296).toNat=n:=by omega
theorem QX {a b:Nat}(h:a<4294967296)(h2:b<4294967296):a ^^^ b<4294967296:=Nat.xor_lt_two_pow (n:=32) h h2
@[simp] theorem wrap_half {n:Nat} (h:n<4294967296):IntKind.u32.wrap ((n:Int)/2)=((n/2:Nat):Int):=by
 rw[show (n:Int)/2=((n/2:Nat):Int) by omega,zcu (by omega)]
@[simp] theorem wrap_byte {n:Nat} (h:n<4294967296):IntKind.u32.wrap ((n:Int)/256)=((n/256:Nat):Int):=by
 rw[show (n:Int)/256=((n/256:Nat):Int) by omega,zcu (by omega)]
@[simp] theorem half_u32 {n:Nat} (h:n<4294967296):((n:Int)/2%4294967296).toNat=n/2:=by omega
theorem zhw (n:Nat):∀ {k:Nat},k<4→(le4 n).take (k+1)=(le4 n).take k++[UInt8.ofNat (n/256 ^ k)]
 | 0,_=>by simp[le4]
 | 1,_=>by simp[le4]
 | 2,_=>by simp[le4]
 | 3,_=>by simp[le4]
 | k+4,h=>absurd h (by omega)
theorem zkB (n k:Nat):n/256 ^ (k+1)=n/256 ^ k/256:=by rw[Nat.pow_succ,Nat.div_div_eq_div_mul]
@[simp] theorem u8_mod (m:Nat):IntKind.u8.wrap ((m:Int)%256)=(m:Int)%256:=by
 have:IntKind.u8.wrap ((m:Int)%256)=((m:Int)%256)%256:=rfl
 rw[this];omega
theorem zlP (m:Nat):(((UInt8.ofNat m).toNat:Nat):Int)=(m:Int)%256:=by simp
theorem Ji (n m:Nat)(h:0<m):(n:Int).fdiv (m:Int)=((n/m:Nat):Int):=by
 rw[Int.fdiv_eq_ediv_of_nonneg _ (by omega)];rfl
@[simp] theorem shr1_u32 (n:Nat):(n:Int).fdiv (2 ^ min 1 IntKind.u32.bits)=((n/2:Nat):Int):=Ji n 2 (by omega)
@[simp] theorem shr8_u32 (n:Nat):(n:Int).fdiv (2 ^ min 8 IntKind.u32.bits)=((n/256:Nat):Int):=Ji n 256 (by omega)
@[simp] theorem shr16_u32 (n:Nat):(n:Int).fdiv (2 ^ min 16 IntKind.u32.bits)=((n/65536:Nat):Int):=Ji n 65536 (by omega)
@[simp] theorem shr24_u32 (n:Nat):(n:Int).fdiv (2 ^ min 24 IntKind.u32.bits)=((n/16777216:Nat):Int):=Ji n 16777216 (by omega)
@[simp] theorem wrap1_u32:IntKind.u32.wrap 1=1:=rfl
@[simp] theorem wrap0_u32:IntKind.u32.wrap 0=0:=rfl
def tabU (k:Nat):List LV:=(List.range k).map (fun i=>.int .u32 (cN 8 i:Nat))++List.replicate (256-k) (.int .u32 0)
theorem yD {k:Nat}(h:k≤256):(tabU k).length=256:=by unfold tabU;simp;omega
theorem zgh {k:Nat}(h:k<256):(tabU k).set k (.int .u32 (cN 8 k:Nat))=tabU (k+1):=by
 unfold tabU
 rw[List.set_append_right _ _ (by simp),List.range_succ,List.map_append]
 simp only[List.length_map,List.length_range,Nat.sub_self,List.map_cons,List.map_nil,List.append_assoc,List.cons_append,List.nil_append]
 rw[show 256-k=(256-(k+1))+1 by omega,List.replicate_succ]
 rfl
theorem zjp {i:Nat}(h:i<256):(tabU 256)[i]? = some (.int .u32 (cN 8 i:Nat)):=by
 unfold tabU
 simp[h]
theorem zhA (rest new:List LV):∀ (pre old:List LV),new.length=old.length→wq (pre++(old++rest)) pre.length new=pre++(new++rest):=by
 induction new with
 | nil=>intro pre old h;have:old=[]:=List.eq_nil_of_length_eq_zero h.symm;subst this;rfl
 | cons x xs ih=>
  intro pre old h
  cases old with
  | nil=>simp at h
  | cons y ys=>
   simp only[wq]
   rw[List.set_append_right _ _ (Nat.le_refl _),Nat.sub_self,List.cons_append,List.set_cons_zero]
   have:=ih (pre++[x]) ys (by simpa using h)
   rw[List.append_assoc,List.length_append] at this
   simpa using this
theorem zeV {old new:List LV}(rest:List LV)(h:new.length=old.length):wq (old++rest) 0 new=new++rest:=zhA rest new [] old h
theorem zgr {old new:List LV}(h:new.length=old.length):wq old 0 new=new:=by
 have:=zeV [] h
 simpa using this
theorem ZM {n:Nat} : ∀ {l:List LV},(∀ x∈l,x.under n=true)→zH n l=true
 | [],_=>rfl
 | x :: xs,h=>by simp only[zH,Bool.and_eq_true];exact⟨h x (by simp),ZM fun y hy=>h y (by simp[hy])⟩
theorem zhi (n k:Nat):zH n (tabU k)=true:=ZM fun x hx=>by
 unfold tabU at hx
 rcases List.mem_append.1 hx with h | h
 ·obtain⟨i,_,rfl⟩:=List.mem_map.1 h;rfl
 ·rw[List.eq_of_mem_replicate h];rfl
def sumU (r:Nat)(m:Int):List LV:=tabU 256++[.int .u32 r,.int .i64 m]
theorem zgs (r:Nat)(m:Int):(sumU r m).length=258:=by unfold sumU;rw[List.length_append,yD (by omega)];rfl
theorem ziG (r:Nat)(m:Int):(sumU r m)[256]? = some (.int .u32 r):=by
 unfold sumU;rw[List.getElem?_append_right (by rw[yD (by omega)];omega),yD (by omega)];rfl
theorem zlY (r:Nat)(m:Int):(sumU r m)[257]? = some (.int .i64 m):=by
 unfold sumU;rw[List.getElem?_append_right (by rw[yD (by omega)];omega),yD (by omega)];rfl
theorem zlU (r:Nat)(m:Int){i:Nat}(h:i<256):(sumU r m)[i]? = some (.int .u32 (cN 8 i:Nat)):=by
 unfold sumU;rw[List.getElem?_append_left (by rw[yD (by omega)];exact h),zjp h]
theorem zgc (r r':Nat)(m:Int):(sumU r m).set 256 (.int .u32 r')=sumU r' m:=by
 unfold sumU;rw[List.set_append_right _ _ (by rw[yD (by omega)];omega),yD (by omega)];rfl
theorem zdO (r:Nat)(m m':Int):(sumU r m).set 257 (.int .i64 m')=sumU r m':=by
 unfold sumU;rw[List.set_append_right _ _ (by rw[yD (by omega)];omega),yD (by omega)];rfl
@[simp] theorem u8_pow:(2:Nat) ^ IntKind.u8.bits=256:=rfl
@[simp] theorem u8_powi:(2:Int) ^ IntKind.u8.bits=256:=rfl
@[simp] theorem modi_u8 {n:Nat} (h:n<256):((n:Int)%256).toNat=n:=by omega
@[simp] theorem mod_u8 {n:Nat} (h:n<256):n%256=n:=Nat.mod_eq_of_lt h
theorem zgL {n:Nat}(h:n<256):IntKind.u8.wrap (n:Int)=n:=by rw[Xm,Nat.mod_eq_of_lt h]
theorem zjZ {a b:Nat}(h:a<256)(h2:b<256):a ^^^ b<256:=Nat.xor_lt_two_pow (n:=8) h h2
theorem Gro.appi {α : Type}[Enc α]{P:Program}{t t2:TypeId}{by_:Nat}(hok:xA P t t2 (Enc.sz α) by_=true)(hby:by_≤1000){v0 v:List Nat}{l:List α}{x:LV}(h:Gro v0 v l x)(l2:List α)(b:l.length+l2.length≤100000000) :
  ∃ x' v',Gro v0 v' (l++l2) x'∧Keep x v v'∧∀ r s,zR P t t2 x (.imm (Enc.sz α) l2.length (zd l2) r) s v=some (x',v'):=by
 have hm:(l.length+l2.length)*by_≤100000000*1000:=Nat.mul_le_mul b hby
 obtain⟨cs,h,hw,hu0⟩:=h
 obtain⟨x',v',h1,h2,h3⟩:=GroC.app (P:=P) (m:=l2.length) (ds:=zd l2) hok h (fun e=>by rw[List.length_eq_zero_iff.1 e];rfl) (by unfold maxLen;omega) (by omega)
 exact⟨x',v',⟨cs++zd l2,by simpa using h1,by rw[xI];exact hw.app (yh.refl _),by rw[wr,hu0,xj];rfl⟩,h2,fun r s=>h3 _ s (by rw[Yh,if_pos rfl])⟩
theorem zkw (n:Nat):zd (le4 n)=[.int .u8 ((n:Int)%256),.int .u8 ((n:Int)/256%256),.int .u8 ((n:Int)/65536%256),.int .u8 ((n:Int)/16777216%256)]:=by
 simp[le4,zd,Enc.enc]
theorem zdt (n:Int):IntKind.u8.wrap n=n%256:=rfl
end Go.Hb
end
section
namespace Go.Hb
open Go
structure Sec where
 kind:Int
 body:List UInt8
def Sec.lv (s:Sec):List LV:=[.int .i64 s.kind,row s.body]
instance:Enc Sec:=⟨2,Sec.lv,⟨0,[]⟩,fun _=>rfl,fun f n=>by simp[Sec.lv,zH,LV.under]⟩
@[simp] theorem sz_sec:Enc.sz Sec=2:=rfl
@[simp] theorem Kx (s:Sec):Enc.enc s=[.int .i64 s.kind,row s.body]:=rfl
def sgnB (l:List Int):List UInt8:=zb l.length++l.flatMap yb
def frmB (f:Frm):List UInt8:=zb f.func++zb f.pc++sgnB f.locals
def KM (t:Thr):List UInt8:=zb t.state++yb t.on++zb t.code++zb t.frames.length++t.frames.flatMap frmB++sgnB t.stack
def KL (c:Cor):List UInt8:=zb c.threads.length++c.threads.flatMap KM
def Zq (c:Cor)(i:Nat):List UInt8:=yb (nth c.owners i)++yz (nth c.lockq i)
def vt (c:Cor):List UInt8:=zb c.owners.length++(List.range c.owners.length).flatMap (Zq c)++zb c.waitq.length++c.waitq.flatMap yz
def Xg (c:Cor)(i:Nat):List UInt8:=zb (nth c.counts i)++yz (nth c.downq i)
def ub (c:Cor):List UInt8:=zb c.counts.length++(List.range c.counts.length).flatMap (Xg c)
def YV (l:List Int)(k:Nat):List UInt8:=zb (nth l (2*k))++yb (nth l (2*k+1))
def Zf (c:Cor)(i:Nat):List UInt8:=sgnB (nth c.bufs i)++zb (((nth c.sendq i).length/2:Nat):Int)++(List.range ((nth c.sendq i).length/2)).flatMap (YV (nth c.sendq i))++yz (nth c.recvq i)
def ug (c:Cor):List UInt8:=zb c.bufs.length++(List.range c.bufs.length).flatMap (Zf c)
theorem uT (f:Nat→List UInt8)(k:Nat):(List.range (k+1)).flatMap f=(List.range k).flatMap f++f k:=by
 rw[List.range_succ,List.flatMap_append];simp
theorem wT {α : Type}{f:α→List UInt8}{m:Nat} : ∀ {l:List α},(∀ x∈l,(f x).length≤m)→(l.flatMap f).length≤m*l.length
 | [],_=>by simp
 | x :: l,h=>by
  have h1:=h x (by simp)
  have h2:=wT (l:=l) fun y hy=>h y (by simp[hy])
  simp only[List.flatMap_cons,List.length_append,List.length_cons]
  rw[Nat.mul_succ];omega
theorem Qv {l:List Int}(h:l.length≤1000):(sgnB l).length≤9+9*l.length:=by
 unfold sgnB
 have:=wT (f:=yb) (m:=9) (l:=l) fun _ _=>yq
 have:=zq (n:=(l.length:Int)) (by omega)
 simp only[List.length_append];omega
theorem nthM {α : Type}[Enc α]{l:List α}{k:Nat}(h:k<l.length):nth l k∈l:=by rw[zK h];exact List.getElem_mem h
def RowW (l:List Int):Prop:=l.length≤100∧∀ k,k<l.length→nth l k≤9223372036854775807
structure WrT (t:Thr):Prop where
 st:t.state≤9223372036854775807
 code:t.code≤9223372036854775807
 fr:t.frames.length≤8
 sk:t.stack.length≤100
 frs:∀ f∈t.frames,f.func≤9223372036854775807∧f.pc≤9223372036854775807∧f.locals.length≤8
structure WrC (c:Cor):Prop where
 threads:c.threads.length≤100
 thr:∀ t∈c.threads,WrT t
 owners:c.owners.length≤100
 lockn:c.owners.length≤c.lockq.length
 lockq:∀ l∈c.lockq,RowW l
 waitn:c.waitq.length≤100
 waitq:∀ l∈c.waitq,RowW l
 counts:c.counts.length≤100∧∀ k,k<c.counts.length→nth c.counts k≤9223372036854775807
 downn:c.counts.length≤c.downq.length
 downq:∀ l∈c.downq,RowW l
 bufn:c.bufs.length≤100
 bufs:∀ l∈c.bufs,l.length≤100
 sendn:c.bufs.length≤c.sendq.length
 sendq:∀ l∈c.sendq,RowW l∧l.length%2=0
 recvn:c.bufs.length≤c.recvq.length
 recvq:∀ l∈c.recvq,RowW l
theorem ziS {f:Frm}(h:f.func≤9223372036854775807∧f.pc≤9223372036854775807∧f.locals.length≤8):(frmB f).length≤100:=by
 unfold frmB
 have:=zq h.1
 have:=zq h.2.1
 have:=Qv (l:=f.locals) (by omega)
 simp only[List.length_append];omega
theorem zbY {t:Thr}(h:WrT t):(KM t).length≤2000:=by
 unfold KM
 have:=zq h.st
 have:=zq h.code
 have:=yq (n:=t.on)
 have:=h.fr
 have:=h.sk
 have:=zq (n:=(t.frames.length:Int)) (by omega)
 have:=wT (f:=frmB) (m:=100) (l:=t.frames) fun f hf=>ziS (h.frs f hf)
 have:=Qv (l:=t.stack) (by omega)
 simp only[List.length_append];omega
theorem wx {l:List Int}(h:RowW l):(yz l).length≤1000:=by
 have:=vY h.2 (by have:=h.1;omega)
 have:=h.1
 omega
theorem zhD {α : Type}[Enc α]{P:Program}{t t2:TypeId}{by_:Nat}(hok:xA P t t2 (Enc.sz α) by_=true)(hby:by_≤1000)(l l2:List α)(h2:l2.length≠0)(v:List Nat)(b:l.length+l2.length≤100000000) :
  ∃ x' v',Gro v v' (l++l2) x'∧∀ s,zR P t t2 (.imm (Enc.sz α) l.length (zd l) .full) (row l2) s v=some (x',v'):=by
 have hm:(l.length+l2.length)*by_≤100000000*1000:=Nat.mul_le_mul b hby
 unfold xA at hok
 split at hok
 rotate_left
 ·cases hok
 rename_i e hu
 simp only[Bool.and_eq_true] at hok
 obtain⟨⟨⟨hs,hb⟩,hn⟩,hz⟩:=hok
 cases hs':szT P e with
 | none=>rw[hs'] at hs;cases hs
 | some s'=>
 rw[hs'] at hs;simp at hs
 cases hb':zD P e with
 | none=>rw[hb'] at hb;cases hb
 | some b'=>
 rw[hb'] at hb;simp at hb;subst hb
 cases hz':zT P e with
 | none=>rw[hz'] at hz;cases hz
 | some z=>
 rw[hz'] at hz;simp only[Bool.and_eq_true,beq_iff_eq] at hz
 refine⟨.imm (Enc.sz α) (l.length+l2.length) (zd l++zd l2) (.tip v.length 0),v++[0],⟨zd (l++l2),⟨List.prefix_append _ _,.inr ⟨v.length,0,Nat.le_refl _,by rw[xI,List.length_append],by simp⟩⟩,yh.refl _,xj _ _⟩,fun s=>?_⟩
 unfold zR
 simp only[hu,hs',hb',hz']
 rw[if_pos ⟨hn,hz.1,by rw[hz.2,hs]⟩]
 have e1:uD s' (.imm (Enc.sz α) l.length (zd l) .full)=some (zd l,l.length,.full):=by rw[hs];simp[uD]
 have e2:zQ s' (row l2) s=some (zd l2,l2.length):=by rw[wN,if_pos hs.symm]
 rw[e1,e2]
 simp only
 rw[if_pos ⟨by unfold maxLen;omega,by omega⟩]
 unfold grow
 rw[if_neg h2,hs]
 rfl
theorem zeB (n:Int):(zb n).length≠0:=by
 unfold zb
 rw[yM]
 split<;>simp
theorem ziy (z:Int):((UInt8.ofInt z).toNat:Int)=z%256:=by
 unfold UInt8.ofInt
 have:(z%2 ^ 8).toNat=(z%256).toNat:=rfl
 rw[this,zkY];omega
def secH (s:Sec):List UInt8:=UInt8.ofInt s.kind :: zb s.body.length
def Kn (v:Int)(l:List Sec):List UInt8:=[72,73,66,82,UInt8.ofInt v]++zb l.length++l.flatMap secH
def Qr (v:Int)(l:List Sec):List UInt8:=vO (Kn v l++l.flatMap fun s=>vO s.body)
def yx (ep:Int)(p:Prog)(c:Cor):List Sec:=[⟨1,zb ep++zb c.now⟩,⟨2,ue p⟩,⟨3,KL c⟩,⟨4,vt c⟩,⟨5,ub c⟩,⟨6,ug c⟩]
theorem zmc {P:Program}{f:FuncId}{args args':List LV}{s:List AObj}{v:List Nat}{y:LV}{K:LV→List AObj→List Nat→Prop}(h:zG P f args' y)(hw:yh args args')(k:∀ v',v <+: v'→K y s v'):zp P f args s v K:=yJ hw (zg h k)
theorem zhp {L:List (List Int)}(h:∀ l∈L,RowW l):(L.flatMap yz).length≤1000*L.length:=wT fun l hl=>wx (h l hl)
theorem zhg {c:Cor}(h:WrC c):(KL c).length≤200009:=by
 unfold KL
 have:=h.threads
 have:=zq (n:=(c.threads.length:Int)) (by omega)
 have:=wT (f:=KM) (m:=2000) (l:=c.threads) fun t ht=>zbY (h.thr t ht)
 simp only[List.length_append];omega
theorem zdM {c:Cor}(h:WrC c):(vt c).length≤300000:=by
 unfold vt
 have:=h.owners
 have:=h.waitn
 have:=zq (n:=(c.owners.length:Int)) (by omega)
 have:=zq (n:=(c.waitq.length:Int)) (by omega)
 have:=zhp h.waitq
 have:=wT (f:=Zq c) (m:=1009) (l:=List.range c.owners.length) fun i hi=>by
  have hi':i<c.owners.length:=by simpa using hi
  have h1:=yq (n:=nth c.owners i)
  have h2:=wx (h.lockq _ (nthM (l:=c.lockq) (k:=i) (by have:=h.lockn;omega)))
  unfold Zq
  rw[List.length_append];omega
 simp only[List.length_append,List.length_range] at *;omega
theorem zdI {c:Cor}(h:WrC c):(ub c).length≤200000:=by
 unfold ub
 have:=h.counts.1
 have:=zq (n:=(c.counts.length:Int)) (by omega)
 have:=wT (f:=Xg c) (m:=1009) (l:=List.range c.counts.length) fun i hi=>by
  have hi':i<c.counts.length:=by simpa using hi
  have h1:=zq (h.counts.2 i hi')
  have h2:=wx (h.downq _ (nthM (l:=c.downq) (k:=i) (by have:=h.downn;omega)))
  unfold Xg
  rw[List.length_append];omega
 simp only[List.length_append,List.length_range] at *;omega
theorem zel {c:Cor}(h:WrC c):(ug c).length≤300009:=by
 unfold ug
 have:=h.bufn
 have:=zq (n:=(c.bufs.length:Int)) (by omega)
 have:=wT (f:=Zf c) (m:=3000) (l:=List.range c.bufs.length) fun i hi=>by
  have hi':i<c.bufs.length:=by simpa using hi
  have b1:=h.bufs _ (nthM (l:=c.bufs) (k:=i) hi')
  obtain⟨⟨b2,b3⟩,b4⟩:=h.sendq _ (nthM (l:=c.sendq) (k:=i) (by have:=h.sendn;omega))
  have b5:=wx (h.recvq _ (nthM (l:=c.recvq) (k:=i) (by have:=h.recvn;omega)))
  have b6:=Qv (l:=nth c.bufs i) (by omega)
  have b7:=zq (n:=(((nth c.sendq i).length/2:Nat):Int)) (by omega)
  have b8:=wT (f:=YV (nth c.sendq i)) (m:=18) (l:=List.range ((nth c.sendq i).length/2)) fun k hk=>by
   have hk':k<(nth c.sendq i).length/2:=by simpa using hk
   have h1:=zq (b3 (2*k) (by omega))
   have h2:=yq (n:=nth (nth c.sendq i) (2*k+1))
   unfold YV
   rw[List.length_append];omega
  unfold Zf
  simp only[List.length_append,List.length_range] at *;omega
 simp only[List.length_append,List.length_range] at *;omega
theorem QR {ep:Int}{p:Prog}{c:Cor}(h:WrC c)(he:ep≤9223372036854775807)(hn:c.now≤9223372036854775807)(hw:(ue p).length≤500000):∀ x∈yx ep p c,x.body.length≤500000:=by
 have h1:=zq he
 have h2:=zq hn
 have h3:=zhg h
 have h4:=zdM h
 have h5:=zdI h
 have h6:=zel h
 intro x hx
 simp only[yx,List.mem_cons,List.not_mem_nil,or_false] at hx
 rcases hx with rfl | rfl | rfl | rfl | rfl | rfl
 ·show (zb ep++zb c.now).length≤_
  rw[List.length_append];omega
 ·exact hw
 ·show (KL c).length≤_
  omega
 ·show (vt c).length≤_
  omega
 ·show (ub c).length≤_
  omega
 ·show (ug c).length≤_
  omega
theorem GroE.appw {α : Type}[Enc α]{P:Program}{t t2:TypeId}{by_:Nat}(hok:xA P t t2 (Enc.sz α) by_=true)(hby:by_≤1000){v0 v:List Nat}{l:List α}{x:LV}(h:GroE v0 v l x)(l2:List α)(b:l.length+l2.length≤100000000) :
  ∃ x' v',GroE v0 v' (l++l2) x'∧Keep x v v'∧∀ s,zR P t t2 x (row l2) s v=some (x',v'):=by
 have hm:(l.length+l2.length)*by_≤100000000*1000:=Nat.mul_le_mul b hby
 obtain⟨x',v',h1,h2,h3⟩:=GroC.app (P:=P) (m:=l2.length) (ds:=zd l2) hok h (fun e=>by rw[List.length_eq_zero_iff.1 e];rfl) (by unfold maxLen;omega) (by omega)
 exact⟨x',v',by unfold GroE;rw[xI,List.length_append];exact h1,h2,fun s=>h3 _ s (by rw[wN,if_pos rfl])⟩
theorem xH {v0 v:List Nat}{bs bs':List UInt8}{x:LV}{B B':Nat}(h:WAt v0 v bs x B)(e:bs=bs')(hB:B≤B'):WAt v0 v bs' x B':=by subst e;exact⟨h.1,Nat.le_trans h.2 hB⟩
end Go.Hb
end
section
namespace Go.Hb
open Go
def EnvW (id:Nat)(L:List (Nat × AObj))(S:List AObj):Prop:=∀ q∈L,q.1≠id∧S[q.1]? = some q.2
theorem EnvW.set {id:Nat}{L:List (Nat × AObj)}{S:List AObj}(h:EnvW id L S)(o:AObj):EnvW id L (S.set id o):=fun q hq=>⟨(h q hq).1,by rw[List.getElem?_set_ne (fun e=>(h q hq).1 e.symm)];exact(h q hq).2⟩
theorem EnvW.app {id:Nat}{L:List (Nat × AObj)}{S:List AObj}(h:EnvW id L S)(J:List AObj):EnvW id L (S++J):=fun q hq=>⟨(h q hq).1,by rw[List.getElem?_append_left (List.getElem?_eq_some_iff.1 (h q hq).2).1];exact(h q hq).2⟩
theorem EnvW.nil {id:Nat}{S:List AObj} : EnvW id [] S:=by intro q hq;cases hq
theorem EnvW.cons {id i:Nat}{o:AObj}{L:List (Nat × AObj)}{S:List AObj}(h1:i≠id)(h2:S[i]? = some o)(h:EnvW id L S):EnvW id ((i,o) :: L) S:=fun q hq=>by
 rcases List.mem_cons.1 hq with rfl | hq
 ·exact⟨h1,h2⟩
 ·exact h q hq
def Wrt (P:Program)(f:FuncId)(args:List LV)(id:Nat)(L:List (Nat × AObj))(w:List UInt8)(n:Nat):Prop:=
 ∀ S x v0 v bs B,EnvW id L S→S[id]? = some (.cells [x])→WAt v0 v bs x B→B+n≤80000000→zp P f args S v (wu S id v0 (bs++w) (B+n))
theorem yy {P:Program}{f:FuncId}{args:List LV}{S:List AObj}{v v0:List Nat}{id B n:Nat}{bs w:List UInt8}{x:LV}{L:List (Nat × AObj)}{K:LV→List AObj→List Nat→Prop}(h:Wrt P f args id L w n)(hL:EnvW id L S)(hS:S[id]? = some (.cells [x]))(hx:WAt v0 v bs x B)(hB:B+n≤80000000)
  (k:∀ y x' v',WAt v0 v' (bs++w) x' (B+n)→K y (S.set id (.cells [x'])) v'):zp P f args S v K:=wK (h S x v0 v bs B hL hS hx hB) k
theorem WAt.mo {v0 v v':List Nat}{bs:List UInt8}{x:LV}{B:Nat}(h:WAt v0 v bs x B)(hv:v <+: v'):WAt v0 v' bs x B:=⟨GroC.mono h.1 hv,h.2⟩
theorem WAt.under {v0 v:List Nat}{bs:List UInt8}{x:LV}{B:Nat}(h:WAt v0 v bs x B)(n:Nat):x.under n=true:=h.1.gro.under n
def WPJ (S:List AObj)(id:Nat)(v0:List Nat)(bs:List UInt8)(B:Nat)(y:LV)(s':List AObj)(v':List Nat):Prop:=∃ x' J,s'=S.set id (.cells [x'])++J∧y.under S.length=true∧WAt v0 v' bs x' B
theorem wu.of {P:Program}{f:FuncId}{args:List LV}{S:List AObj}{v v0:List Nat}{id B:Nat}{bs:List UInt8}(h:zp P f args S v (WPJ S id v0 bs B)):zp P f args S v (wu S id v0 bs B):=by
 refine wo (zj h fun y s' v' ⟨x',J,e1,e2,e3⟩=>?_)
 refine⟨S.set id (.cells [x']),J,e1,by simp,e2,fun i o ho=>?_,x',rfl,e3⟩
 by_cases e:id=i
 ·subst e
  right
  have hi:=(List.getElem?_eq_some_iff.1 ho).1
  rw[List.getElem?_set_self (by simpa using hi)] at ho
  cases ho
  simp[AObj.under,e3.under]
 ·rw[List.getElem?_set_ne e] at ho;exact .inl ho
theorem Wrt.eq {P:Program}{f:FuncId}{args:List LV}{id:Nat}{L:List (Nat × AObj)}{w w':List UInt8}{n n':Nat}(h:Wrt P f args id L w n)(e:w=w')(hn:n≤n'):Wrt P f args id L w' n':=fun S x v0 v bs B h1 h2 h3 h4=>by
 subst e
 exact zj (h S x v0 v bs B h1 h2 h3 (by omega)) fun y s' v' ⟨x',e1,e2⟩=>⟨x',e1,e2.1,by have:=e2.2;omega⟩
end Go.Hb
namespace Go.Hb
open Go
section
variable {S:List AObj} {id:Nat}
theorem sw1 (h:id<S.length):∀ o J,(S++J).set id o=S.set id o++J:=fun o J=>List.set_append_left _ _ h
theorem sw3 (h:id<S.length):∀ o o' J,(S.set id o++J).set id o'=S.set id o'++J:=fun o o' J=>by rw[List.set_append_left _ _ (by simpa using h)];simp
theorem sw4 (h:id<S.length):∀ o J,(S.set id o++J)[id]? = some o:=fun o J=>by rw[List.getElem?_append_left (by simpa using h)];simp[h]
theorem sw6:∀ o J,(S.set id o++J)[S.length]? = J[0]?:=fun o J=>by have:=xy (S.set id o) J;simpa using this
theorem sw7:∀ o J k,(S.set id o++J)[S.length+k]? = J[k]?:=fun o J k=>by have:=zL (S.set id o) J k;simpa using this
theorem sw8 {i:Nat}{o':AObj}(hi:i≠id)(h:S[i]? = some o'):∀ o J,(S.set id o++J)[i]? = some o':=fun o J=>by
 rw[List.getElem?_append_left (by simpa using (List.getElem?_eq_some_iff.1 h).1),List.getElem?_set_ne hi.symm];exact h
end
def ints (n:Nat):List Int:=(List.range n).map fun i:Nat=>(i:Int)
@[simp] theorem Yu (n:Nat):(ints n).length=n:=by simp[ints]
theorem Xf {n k:Nat}(h:k<n):nth (ints n) k=(k:Int):=by rw[zK (by simpa using h)];simp[ints]
theorem zfS (n:Nat):ints (n+1)=ints n++[(n:Int)]:=by simp[ints,List.range_succ]
theorem Js (n:Nat)(f:Nat→List UInt8):(ints n).flatMap (fun z=>f z.toNat)=(List.range n).flatMap f:=by
 unfold ints
 rw[List.flatMap_map]
 simp
end Go.Hb
namespace Go.Hb
open Go
end Go.Hb
end
section
namespace Go.Hb
open Go
instance {α β : Type}[Enc α][Enc β]:Enc (α × β):=⟨Enc.sz α + Enc.sz β,fun p=>Enc.enc p.1++Enc.enc p.2,(Enc.dflt,Enc.dflt),fun p=>by simp[Enc.len],fun p n=>by simp[wr,Enc.und]⟩
def In62 (n:Int):Prop:= -2305843009213693952≤n∧n≤2305843009213693951
def In63 (n:Int):Prop:=0≤n∧n≤9223372036854775807
def FrmR (f:Frm):Prop:=In63 f.func∧In63 f.pc∧f.locals.length≤8∧∀ x∈f.locals,In62 x
def ThrR (t:Thr):Prop:=In63 t.state∧In62 t.on∧In63 t.code∧t.frames.length≤8∧(∀ f∈t.frames,FrmR f)∧t.stack.length≤16∧∀ x∈t.stack,In62 x
def zbq (l:List Int):Prop:=l.length≤32∧∀ x∈l,In63 x
theorem zdG {α : Type}[Enc α](w:α→List UInt8)(l:List α):(List.range l.length).flatMap (fun i=>w (nth l i))=l.flatMap w:=by
 have:(List.range l.length).map (nth l)=l:=by
  apply List.ext_getElem (by simp)
  intro i h1 h2
  simp[zK h2]
 conv=>rhs;rw[← this]
 rw[List.flatMap_map]
structure SendR (l:List Int):Prop where
 len:l.length≤64∧l.length%2=0
 ok:∀ k,k<l.length/2→In63 (nth l (2*k))∧In62 (nth l (2*k+1))
structure CorR (c:Cor):Prop where
 now:In63 c.now
 threads:c.threads.length≤32∧∀ t∈c.threads,ThrR t
 owners:c.owners.length≤8∧∀ x∈c.owners,In62 x
 lockq:c.lockq.length=c.owners.length∧∀ l∈c.lockq,zbq l
 waitq:c.waitq.length≤8∧∀ l∈c.waitq,zbq l
 counts:c.counts.length≤8∧∀ x∈c.counts,In63 x
 downq:c.downq.length=c.counts.length∧∀ l∈c.downq,zbq l
 bufs:c.bufs.length≤8∧∀ l∈c.bufs,l.length≤8∧∀ x∈l,In62 x
 sendq:c.sendq.length=c.bufs.length∧∀ l∈c.sendq,SendR l
 recvq:c.recvq.length=c.bufs.length∧∀ l∈c.recvq,zbq l
theorem zem {l:List Int}(h:vq l=true):∀ x∈l,In62 x:=fun x hx=>by have:=JI h x hx;unfold In62;omega
theorem zif {n:Int}(h:n=keep n):In62 n:=by
 unfold keep at h
 unfold In62
 split at h
 ·omega
 ·split at h<;>omega
theorem zkK {p:Prog}(hp:MayP p){t:Thr}(h:thrK p t=true):ThrR t:=by
 unfold thrK at h
 split at h
 ·cases h
 rename_i h0
 split at h
 ·cases h
 rename_i h1
 clear h
 simp only[zaH,Bool.or_eq_true,decide_eq_true_eq,not_or,Bool.not_eq_true',Bool.not_eq_false,decide_eq_false_iff_not,Decidable.not_not] at h0
 obtain⟨⟨⟨⟨⟨⟨⟨a1,a2⟩,a3⟩,a4⟩,a5⟩,a6⟩,a7⟩,a8⟩:=h0
 rw[Bool.not_eq_false,List.all_eq_true] at h1
 refine⟨⟨by omega,by omega⟩,zif a8,⟨by omega,by omega⟩,by omega,fun f hf=>?_,by omega,zem a7⟩
 have:=h1 f hf
 unfold frmK at this
 split at this
 ·cases this
 rename_i h2
 simp only[Bool.and_eq_true,decide_eq_true_eq] at this
 obtain⟨b1,b2,b3,b4⟩:=this
 have h3:=hp.code _ (zm (l:=p.funcs) (k:=f.func.toNat) (by omega))
 have h4:=hp.funcs.2
 exact⟨⟨by omega,by omega⟩,⟨by omega,by omega⟩,by omega,zem b4⟩
theorem Xe {L:List (List Int)}{n t:Int}(ht:t≤1000)(h:rowsK L n t=true):(L.length:Int)=n∧∀ l∈L,zbq l:=by
 refine⟨(zeh h).1,fun l hl=>⟨(zeh h).2 l hl,fun x hx=>?_⟩⟩
 unfold rowsK at h
 split at h
 ·have:=List.all_eq_true.1 h l hl
  unfold rowK at this
  simp only[Bool.and_eq_true] at this
  have h1:=JI this.1 x hx
  exact⟨h1.1,by omega⟩
 ·cases h
theorem uZ {e:Int}{p:Prog}{c:Cor}(hp:MayP p)(h:wR e p c=true):CorR c∧In63 e:=by
 unfold wR at h
 split at h
 ·cases h
 rename_i h0
 split at h
 ·cases h
 rename_i ht
 simp only[Bool.and_eq_true,decide_eq_true_eq] at h
 obtain⟨h1,h2,h3,h4,h5,h6,h7,h8⟩:=h
 simp only[vh,Bool.or_eq_true,decide_eq_true_eq,not_or] at h0
 obtain⟨⟨⟨⟨⟨a1,a2⟩,a3⟩,a4⟩,a5⟩,a6⟩:=h0
 have hth:=hp.threads.2
 have hm:=hp.mutexes
 have hcn:=hp.conds.1
 have hse:=hp.semas.1
 have hch:=hp.chans
 rw[Bool.not_eq_false,List.all_eq_true] at ht
 obtain⟨l1,l2⟩:=Xe (by omega) h3
 obtain⟨w1,w2⟩:=Xe (by omega) h4
 obtain⟨d1,d2⟩:=Xe (by omega) h5
 unfold Qm at h8
 split at h8
 rotate_left
 ·cases h8
 rename_i hc
 obtain⟨c1,c2,c3⟩:=hc
 obtain⟨r1,r2⟩:=Xe (by omega) c3
 have hk:∀ i,i<p.chans.length→chK0 p c i=false∧(List.range ((nth c.sendq i).length/2)).all (KP c.threads.length (nth c.sendq i))=true:=fun i hi=>by
  have:=List.all_eq_true.1 h8 i (by simpa using hi)
  unfold chK at this
  split at this
  ·cases this
  ·rename_i hh;exact⟨by simpa using hh,this⟩
 have hbs:∀ i,i<p.chans.length→((nth c.bufs i).length≤8∧∀ x∈nth c.bufs i,In62 x)∧SendR (nth c.sendq i):=fun i hi=>by
  obtain⟨h1,h2⟩:=hk i hi
  unfold chK0 at h1
  simp only[Bool.or_eq_false_iff,Bool.not_eq_false',decide_eq_false_iff_not,decide_eq_true_eq] at h1
  obtain⟨⟨⟨q1,q2⟩,q3⟩,q4⟩:=h1
  have h3:=hch.2 _ (zm hi)
  refine⟨⟨by omega,fun x hx=>by have:=JI q1 x hx;unfold In62;omega⟩,⟨by omega,by omega⟩,fun k hk=>?_⟩
  have:=List.all_eq_true.1 h2 k (by simpa using hk)
  unfold KP at this
  simp only[Bool.not_eq_true',Bool.or_eq_false_iff,decide_eq_false_iff_not,Bool.not_eq_false',decide_eq_true_eq] at this
  exact⟨⟨by omega,by omega⟩,zif this.2⟩
 refine⟨⟨⟨by omega,by omega⟩,⟨by omega,fun t h=>zkK hp (ht t h)⟩,⟨by omega,fun x hx=>by have:=JI h1 x hx;unfold In62;omega⟩,⟨by omega,l2⟩,⟨by omega,w2⟩,⟨by omega,fun x hx=>by have:=JI h2 x hx;unfold In63;omega⟩,⟨by omega,d2⟩,⟨by omega,fun l hl=>?_⟩,⟨by omega,fun l hl=>?_⟩,⟨by omega,r2⟩⟩,by omega,by omega⟩
 ·obtain⟨i,hi,rfl⟩:=List.getElem_of_mem hl
  have:=(hbs i (by omega)).1
  rw[zK hi] at this;exact this
 ·obtain⟨i,hi,rfl⟩:=List.getElem_of_mem hl
  have:=(hbs i (by omega)).2
  rw[zK hi] at this;exact this
theorem zbq.w {l:List Int}(h:zbq l):RowW l:=⟨by have:=h.1;omega,fun k hk=>(h.2 _ (zm hk)).2⟩
theorem CorR.w {c:Cor}(h:CorR c):WrC c where
 threads:=by have:=h.threads.1;omega
 thr t ht:=by
  obtain⟨a,b,d,e,f,g,i⟩:=h.threads.2 t ht
  exact⟨a.2,d.2,e,by omega,fun x hx=>by obtain⟨x1,x2,x3,x4⟩:=f x hx;exact⟨x1.2,x2.2,x3⟩⟩
 owners:=by have:=h.owners.1;omega
 lockn:=by have:=h.lockq.1;omega
 lockq l hl:=(h.lockq.2 l hl).w
 waitn:=by have:=h.waitq.1;omega
 waitq l hl:=(h.waitq.2 l hl).w
 counts:=⟨by have:=h.counts.1;omega,fun k hk=>(h.counts.2 _ (zm hk)).2⟩
 downn:=by have:=h.downq.1;omega
 downq l hl:=(h.downq.2 l hl).w
 bufn:=by have:=h.bufs.1;omega
 bufs l hl:=by have:=(h.bufs.2 l hl).1;omega
 sendn:=by have:=h.sendq.1;omega
 sendq l hl:=by
  obtain⟨⟨a,b⟩,d⟩:=h.sendq.2 l hl
  refine⟨⟨by omega,fun k hk=>?_⟩,b⟩
  have:=d (k/2) (by omega)
  unfold In63 In62 at this
  by_cases e:k%2=0
  ·rw[show 2*(k/2)=k by omega] at this;omega
  ·rw[show 2*(k/2)+1=k by omega] at this;omega
 recvn:=by have:=h.recvq.1;omega
 recvq l hl:=(h.recvq.2 l hl).w
end Go.Hb
end
section
namespace Go.Hb
open Go Go.RowKit
section
variable {P:Program} {r:Option Nat} {N:Nat} {own:Bool}
theorem zlo {ops:Array Oper}{Q:Exit→St→Prop}{K:St→Prop}(B:Nat)(C0:Ctx)(h4:rOk C0.n r)(rest:List Oper):∀ (l:List Oper) (k:Nat) (C:Ctx) (a:Act) (st:St),C0.le C→ops.toList.drop k=l++rest→Ok C st.s→C.τ = st.v→RelS C N B st.t a→aL P N ops own l K st→
   (∀ C' a' st',C0.le C'→Ok C' st'.s→C'.τ = st'.v→RelS C' N B st'.t a'→K st'→ops.toList.drop (k+l.length)=rest→wpOpsIn (Fr C0 r) 0 P ops (Lift C0 N B Q) (List.range' (k+l.length) rest.length) a' C'.w)→
   wpOpsIn (Fr C0 r) 0 P ops (Lift C0 N B Q) (List.range' k (l++rest).length) a C.w:=by
 intro l
 induction l with
 | nil=>intro k C a st hle hd h1 h2 h3 h hk;exact hk C a st hle h1 h2 h3 h (by simpa using hd)
 | cons o l ih=>
  intro k C a st hle hl h1 h2 h3 h hk
  have ho:ops[k]? = some o:=by
   have:ops.toList[k]? = some o:=by
    have:=congrArg (fun l=>l[0]?) hl
    simpa using this
   simpa using this
  have hrest:ops.toList.drop (k+1)=l++rest:=by
   have:=congrArg List.tail hl
   simpa using this
  rw[show List.range' k (o :: l++rest).length=k :: List.range' (k+1) (l++rest).length from by simp[List.range'_succ],wpOpsIn_cons]
  have hs:=vX (r:=r) (Lift C0 N B Q) ho h B C a h1 h2 h3 (rOk.mono hle h4)
  rw[Fr.eq hle h4] at hs
  refine wpOpIn_mono ?_ hs
  rintro a' w' ⟨C',st',rfl,k2,k3,k4,k5,k6⟩
  refine ih (k+1) C' a' st' (hle.trans k2) hrest k3 k4 k5 k6 fun C2 a2 st2 m1 m2 m3 m4 m5 m6=>?_
  have:=hk C2 a2 st2 m1 m2 m3 m4 m5 (by simpa[Nat.add_assoc,Nat.add_comm 1] using m6)
  simpa[Nat.add_assoc,Nat.add_comm 1] using this
theorem zbS {ops:Array Oper}{C0:Ctx}{Q':Exit→Act→World→Prop}{i:Nat}{o:Oper}{a:Act}{w w':World}{u:Value}{R:Act→World→Prop}(ho:ops[i]? = some o)(hg:o.guard=none)(hd:∀ c,o.op≠.defer c)
  (hx:(execOp a.eval o).run P w = .ok (.value u) w') (h:R (a.put o.dst u) w'):wpOpIn (Fr C0 r) 0 P ops Q' i R a w:=by
 unfold wpOpIn
 simp only[ho]
 rw[if_pos (by simp[Region.wanted,hg])]
 refine⟨fun _ _=>trivial,?_⟩
 rw[Oper.semAt_eq _ _ _ hd,hx]
 exact h
def Ctx.frz (C:Ctx)(b n:Nat):Ctx:={C with w:=C.w.freeze ⟨b,n,none⟩ 1 }
theorem Zt (w:World)(b n k:Nat)(h:k≠b):(w.freeze ⟨b,n,none⟩ 1).heap[k]? = w.heap[k]?:=by
 simp[World.freeze,Array.getElem?_modify,Ne.symm h]
theorem Jn (w:World)(b n:Nat):(w.freeze ⟨b,n,none⟩ 1).heap.size=w.heap.size:=by simp[World.freeze]
theorem zbJ (w:World)(b n:Nat)(a:Addr):(w.freeze ⟨b,n,none⟩ 1).cell? a=w.cell? a:=by
 unfold World.cell? World.freeze
 simp only[Nat.succ_ne_zero,if_false,Array.getElem?_modify]
 by_cases h:b=a.block
 ·subst h
  cases hw:w.heap[a.block]? with
  | none=>simp
  | some o=>cases o<;>simp
 ·simp[h]
theorem ziJ (w:World)(b n k:Nat):bs (w.freeze ⟨b,n,none⟩ 1) k=bs w k:=by
 unfold bs World.freeze
 simp only[Nat.succ_ne_zero,if_false,Array.getElem?_modify]
 by_cases h:b=k
 ·subst h
  cases hw:w.heap[b]? with
  | none=>simp
  | some o=>cases o<;>simp
 ·simp[h]
theorem zlV {C C1:Ctx}(h:C.le C1){b n:Nat}(hb:¬ C.kept b):C.le (C1.frz b n) where
 os:=h.os
 tape:=h.tape
 output:=h.output
 size:=by show _≤(C1.w.freeze ⟨b,n,none⟩ 1).heap.size;rw[Jn];exact h.size
 kept:=h.kept
 keep k hk:=by
  show (C1.w.freeze ⟨b,n,none⟩ 1).heap[k]? = _
  rw[Zt _ _ _ _ (by rintro rfl;exact hb hk)];exact h.keep k hk
 lim:=h.lim
 cell k o ho:=by show (C1.w.freeze ⟨b,n,none⟩ 1).cell? _=_;rw[zbJ];exact h.cell k o ho
 ρ:=h.ρ
 n:=h.n
 τ:=h.τ
 room k:=by show _≤bs (C1.w.freeze ⟨b,n,none⟩ 1) k;rw[ziJ];exact h.room k
 drawn:=h.drawn
theorem zes {C1:Ctx}{b n:Nat} : C1.wle (C1.frz b n):=⟨fun _=>Nat.le_refl _,fun k o _=>zbJ _ _ _ _,fun _ _=>rfl,Nat.le_refl _,fun _ e h=>⟨e,h,Nat.le_refl _,fun _=>rfl⟩,fun k=>by show _≤bs (C1.w.freeze ⟨b,n,none⟩ 1) k;rw[ziJ];exact Nat.le_refl _⟩
theorem zlh {C1:Ctx}{s:List AObj}(h:Ok C1 s){b n:Nat}(hb1:∀ i,i<C1.n→C1.ρ i≠b)(hb2:∀ g,g<C1.τ.length→(C1.θ g).b≠b):Ok (C1.frz b n) s where
 n:=h.n
 obj i o ho:=by
  have hin:i<C1.n:=by rw[h.n];exact(List.getElem?_eq_some_iff.1 ho).1
  exact RelO.wmono zes (Zt _ _ _ _ (hb1 i hin)) (h.obj i o ho)
 inj:=h.inj
 own i hi:=by
  obtain⟨x,y,z⟩:=h.own i hi
  exact⟨x,y,by show _<(C1.w.freeze ⟨b,n,none⟩ 1).heap.size;rw[Jn];exact z⟩
 tip g hg:=by
  obtain⟨x,y,vs,T,z,z'⟩:=h.tip g hg
  exact⟨x,y,vs,T,(Zt _ _ _ _ (hb2 g hg)).trans z,z'⟩
 tipinj:=h.tipinj
 tipown:=h.tipown
 kept k hk:=by show _<(C1.w.freeze ⟨b,n,none⟩ 1).heap.size;rw[Jn];exact h.kept k hk
 lim k hk:=h.lim k (by have:(C1.w.freeze ⟨b,n,none⟩ 1).heap.size≤k:=hk;rw[Jn] at this;exact this)
theorem zen {C:Ctx}{s:List AObj}{t e:TypeId}{len:Nat}{parts:List (Nat × LV)}{pv:Array (Nat × Value)}{y:LV}(hok:Ok C s)(h1:parts.map (·.1)=pv.toList.map (·.1))(h2:zi C (parts.map (·.2)) (pv.toList.map (·.2)))
  (hu:P.underlying t=some (.slice e)) (he:P.underlying e=some (.int .u8)) (hl:len≠0) (h:yX P t len parts=some y) :
  ∃ (C':Ctx) (u:Value) (w1:World),C.le C'∧Ok C' s∧C'.τ = C.τ∧RelV C' y u∧(Instr.buildSlice t len pv).run P C.w = .ok u w1∧(convert t t u).run P w1 = .ok u C'.w:=by
 unfold yX at h
 simp only[hu] at h
 split at h
 ·rename_i n z hn hz
  split at h
  ·rename_i hl0;exact absurd hl0 hl
  ·have hc:z.cellsOk=true∧z.cells.length=n∧len*n≤2 ^ 24∧len*n≠0:=by
    by_cases hc:z.cellsOk=true∧z.cells.length=n∧len*n≤2 ^ 24∧len*n≠0
    ·exact hc
    ·rw[if_neg hc] at h;cases h
   rw[if_pos hc] at h
   obtain⟨hc1,hc2,hc3,hc4⟩:=hc
   simp only[Option.map_eq_some_iff] at h
   obtain⟨out,hf,rfl⟩:=h
   obtain⟨zv,hzr,hzx⟩:=wX hz C
   obtain⟨k1,k2⟩:=yu hc1 hzx
   have hzs:zv.cells.size=n:=by rw[← hc2];exact k1.length.symm
   have hrow:zi C (xz z.cells len) ((Array.range (len*n)).map (fun i=>zv.cells[i%zv.cells.size]!)).toList:=by
    rw[← hzs,yT];exact uE k1 len
   have hone:∀ u∈(Array.range (len*n)).map (fun i=>zv.cells[i%zv.cells.size]!),u.oneCell'=true:=by
    intro u hu
    have hu':=Array.mem_toList_iff.2 hu
    rw[← hzs,yT] at hu'
    simp at hu'
    obtain⟨l',hl',hu'⟩:=hu'
    rw[hl'.2] at hu'
    exact k2 u hu'
   obtain⟨ws,w1,w2,w3⟩:=vR parts pv.toList _ out _ hrow hone h1 h2 hf
   have hol:=uH _ _ _ hf
   rw[ww,hc2] at hol
   have wl:out.length=ws.size:=w2.length
   have hle:=hok.le_row ws e
   have hok1:=hok.row ws e
   refine⟨(C.row ws e).frz C.w.heap.size ws.size,.slice (some ⟨C.w.heap.size,0,none⟩) len len,(C.row ws e).w,zlV hle (fun hk=>Nat.lt_irrefl _ (hok.kept _ hk)),zlh hok1 (fun i hi=>Nat.ne_of_lt (hok.own i hi).2.2) (fun g hg=>Nat.ne_of_lt (hok.tip_lt hg)),rfl,RelV.wmono zes _ _ ?_,?_,?_⟩
   ·simp only[RelV]
    have hn1:1≤n:=by
     rcases Nat.eq_zero_or_pos n with h | h
     ·subst h;simp at hc4
     ·exact h
    have hlm:len≤maxLen:=by
     have:len*1≤len*n:=Nat.mul_le_mul_left _ hn1
     simp only[maxLen];omega
    refine⟨some ⟨C.w.heap.size,0,none⟩,len,rfl,Nat.le_refl _,hlm,hol,(by intro h;cases h),fun a ha _=>by cases ha;rfl,fun b o hb=>?_,rfl⟩
    cases hb
    refine zZ.of_row (yH _ _) out ws.toList 0 (zi.mono hle _ _ w2) (by simpa using w3) (fun j u hj=>by simpa using hj) ?_
    simp[Ctx.row];omega
   ·have hn24:¬ (len*n>2 ^ 24):=by omega
    simp only[Instr.buildSlice,Sem.run_bind,run_underlying hu,Result.andThen_ok,yc hn]
    rw[if_neg hn24]
    simp only[pure_bind]
    rw[if_neg hc4]
    simp only[Sem.run_bind,hzr,Result.andThen_ok,Sem.run_pure,w1]
    simp[newRow,Ctx.row]
   ·have hsh:(C.row ws e).w.shape? C.w.heap.size=some (e,ws.size):=by
     unfold World.shape?
     rw[show (C.row ws e).w.heap[C.w.heap.size]? = some (.cells ws e (0,0)) from yH _ _]
    simp only[convert,Sem.run_bind,run_underlying hu,Result.andThen_ok,run_underlying he]
    simp[markStringish,hsh,Ctx.frz]
 ·cases h
theorem zkA {id:Nat}{ops:Array Oper}{Q:Exit→St→Prop}{st:St}(pre:List Oper)(o o2:Oper)(post:List Oper){t e:TypeId}{len d d2:Nat}{parts:Array (Nat × Operand)}(hops:ops.toList=pre++o :: o2 :: post)
  (ho:o.op = .buildSlice t len parts) (hd:o.dst=some d) (hg:o.guard=none) (ho2:o2.op = .convert t t (.tmp d)) (hd2:o2.dst=some d2) (hg2:o2.guard=none) (hu:P.underlying t=some (.slice e)) (he:P.underlying e=some (.int .u8)) (hl:len≠0) (hN:d<N) (hN2:d2<N)
  (h:aL P N ops own pre (fun st=>∃ y,yX P t len (parts.toList.map fun p=>(p.1,aev st.t p.2))=some y∧aL P N ops own post (Q .normal) ⟨upd d2 y (upd d y st.t),st.s,st.v⟩) st):aW P r N (.region id ops false) Q st:=by
 intro B C a h1 h2 h3 h4
 refine wpIn_region ?_
 have key:=zlo (P:=P) (r:=r) (N:=N) (own:=own) (ops:=ops) (Q:=Q) B C h4 (o :: o2 :: post) pre 0 C a st (.refl C) (by simpa using hops) h1 h2 h3 h ?_
 ·rw[List.range_eq_range']
  rw[← hops] at key
  simpa using key
 intro C1 a1 st1 hle k1 k2 k3 ⟨y,hy,hK⟩ hdrop
 have ix:∀ (i:Nat) (x:Oper),(o :: o2 :: post)[i]? = some x→ops[0+pre.length+i]? = some x:=by
  intro i x hx
  have h9:=congrArg (fun l=>l[i]?) hdrop
  simp only[List.getElem?_drop] at h9
  rw[hx] at h9
  simpa using h9
 rw[show List.range' (0+pre.length) (o :: o2 :: post).length=(0+pre.length) :: (0+pre.length+1) :: List.range' (0+pre.length+2) post.length from by simp[List.range'_succ,Nat.add_assoc],wpOpsIn_cons]
 obtain⟨C2,u,w1,m1,m2,m3,m4,m5,m6⟩:=zen (P:=P) (pv:=parts.map fun p=>(p.1,a1.eval p.2)) k1 (by simp[List.map_map]) (by
   have:=xZ k3.2.1 (parts.toList.map (·.2))
   rw[List.map_map,List.map_map] at this
   rw[Array.toList_map,List.map_map,List.map_map]
   exact this) hu he hl hy
 refine zbS (u:=u) (w':=w1) (ix 0 o rfl) hg (by rw[ho];intro c hc;cases hc) (by simp[execOp,ho,m5]) ?_
 rw[wpOpsIn_cons,hd]
 have hsz:d<a1.tmps.size:=by rw[k3.1];exact hN
 refine zbS (u:=u) (w':=C2.w) (ix 1 o2 rfl) hg2 (by rw[ho2];intro c hc;cases hc) (by simp[execOp,ho2,Act.put,Act.eval,Array.getD_eq_getD_getElem?,hsz,m6]) ?_
 have hS:=(((k3.mono m1).put (d:=some d) hN m4).put (d:=some d2) hN2 m4)
 rw[hd2]
 exact zcJ B C h4 post (0+pre.length+2) C2 _ ⟨upd d2 y (upd d y st1.t),st1.s,st1.v⟩ (hle.trans m1) (by
  have h9:=congrArg (List.drop 2) hdrop
  simpa[List.drop_drop] using h9) m2 (m3.trans k2) hS hK
def aSc (P:Program)(r:Option Nat)(N:Nat)(b:Code)(Q:Exit→St→Prop):Exit→St→Prop:=yp (aW P r N b Q) Q
variable {Q:Exit→St→Prop} {st:St}
@[simp] theorem lSc_normal (b:Code) (tk):go (aSc P r N b Q .normal) tk st=aWh P r N b Q ⟨⟩ st:=rfl
@[simp] theorem lSc_ret (b:Code) (tk):go (aSc P r N b Q .ret) tk st=go (Q .ret) ⟨⟩ st:=rfl
@[simp] theorem lSc_exit (b:Code) (i:Nat) (tk):go (aSc P r N b Q (.exit i)) tk st=go (Q (.exit i)) ⟨⟩ st:=rfl
theorem zbn {a b:Code}(own:Bool)(h:go (aC P r N own a (aSc P r N b Q)) ⟨⟩ st):aWh P r N (.seq a b) Q ⟨⟩ st:=Yc (wt _ _ _ h)
theorem zkJ {c:Code}(own:Bool)(h:go (aC P r N own c Q) ⟨⟩ st):aWh P r N c Q ⟨⟩ st:=wt _ _ _ h
theorem zcY {f : FuncId} {fn : Func} {c : Code} {args : List LV} {s : List AObj} {v : List Nat} {R : LV → List AObj → List Nat → Prop} (hf : P.funcs[f]? = some fn) (hb : fn.body = some c) (hn : (fn.name == "runtime.NumGoroutine") = false) {N : Nat} (hN : fn.ntmps = N) (hlen : args.length ≤ N)
  (h:aWh P none N c (YW P fn R) ⟨⟩ ⟨yP args,s,v⟩):zp P f args s v R:=by subst hN;exact Qo hf hb hn hlen h
theorem zjM {id:Nat}{ops:Array Oper}{b:Code}(own:Bool)(o o2:Oper)(post:List Oper){t e:TypeId}{len d d2:Nat}{parts:Array (Nat × Operand)}{y:LV}(hops:ops.toList=o :: o2 :: post)
  (ho:o.op = .buildSlice t len parts) (hd:o.dst=some d) (hg:o.guard=none) (ho2:o2.op = .convert t t (.tmp d)) (hd2:o2.dst=some d2) (hg2:o2.guard=none) (hu:P.underlying t=some (.slice e)) (he:P.underlying e=some (.int .u8)) (hl:len≠0) (hN:d<N) (hN2:d2<N)
  (hy:yX P t len (parts.toList.map fun p=>(p.1,aev st.t p.2))=some y) (h:go (aL P N ops own post (aSc P r N b Q .normal)) ⟨⟩ ⟨upd d2 y (upd d y st.t),st.s,st.v⟩):aWh P r N (.seq (.region id ops false) b) Q ⟨⟩ st:=
 Yc (zkA (own:=own) [] o o2 post hops ho hd hg ho2 hd2 hg2 hu he hl hN hN2 ⟨y,hy,h⟩)
def aSk (P:Program)(r:Option Nat)(N:Nat)(b:Code)(I:St→Prop)(Q:Exit→St→Prop):Exit→St→Prop:=yp I Q
@[simp] theorem lSk_ret (b:Code) (I:St→Prop) (tk):go (aSk P r N b I Q .ret) tk st=go (Q .ret) ⟨⟩ st:=rfl
@[simp] theorem lSk_exit (b:Code) (I:St→Prop) (i:Nat) (tk):go (aSk P r N b I Q (.exit i)) tk st=go (Q (.exit i)) ⟨⟩ st:=rfl
end
end Go.Hb
end
section
namespace Go.Hb
open Go
theorem Yb {n:Nat}{f:Nat→Bool} : ((List.range n).all f=true) = ∀ k,k<n→f k=true:=by simp
theorem Yf {l:List Int}{a b:Int}(h:∀ x∈l,a≤x∧x≤b):betC l a b=true:=by
 unfold betC
 rw[List.all_eq_true]
 intro x hx
 have:=h x hx
 simp;omega
theorem zcM {n:Int}(h : -1073741824≤n∧n≤1073741824):n=keep n:=by
 unfold keep
 rw[if_neg (by omega),if_neg (by omega)]
theorem zjU {p:Prog}(hp:MayP p){now:Int}(hn:0≤now){t:Thr}(h:ThrI p t)(h1:OneI p now t):thrK p t=true:=by
 have hs:=h.st
 have hon : -1073741824≤t.on∧t.on≤1073741824:=by
  by_cases a:t.state=0∨t.state=9
  ·have:=h1.rest a;omega
  by_cases b:t.state=1
  ·have:=h1.sleep b;omega
  by_cases c:t.state=2
  ·have:=h1.join c;omega
  by_cases d:t.state=8
  ·have:=h1.choice d;have:=hp.choices.1;omega
  ·have:=h1.on (by omega) (by omega)
   have hr:yv p t.state≤8:=by
    unfold yv
    have:=hp.mutexes;have:=hp.conds.1;have:=hp.semas.1;have:=hp.chans.1
    split
    ·omega
    ·split
     ·omega
     ·split
      ·omega
      ·split<;>omega
   omega
 have h0:zaH t=false:=by
  have e1:=h.code
  have e2:=h.fr
  have e3:=h.sk
  have e4:vq t.stack=true:=Yf h.sks
  have e5:=zcM hon
  unfold zaH
  rw[e4,← e5]
  simp;omega
 have hf:t.frames.all (frmK p)=true:=by
  rw[List.all_eq_true]
  intro f hf
  obtain⟨a1,a2,a3,a4⟩:=h.frs f hf
  unfold frmK
  have e4:vq f.locals=true:=Yf a4
  rw[if_neg (by omega),e4]
  unfold at' at a2 a3
  simp;omega
 unfold thrK
 rw[h0,hf]
 simp only[Bool.false_eq_true,if_false,Bool.true_eq_false]
 by_cases h9:t.state=9
 ·obtain⟨q1,q2⟩:=h.over h9
  rw[if_pos h9,q1,q2];rfl
 ·obtain⟨q1,q2⟩:=h.live h9
  have:t.frames.length≠0:=fun e=>q1 (List.length_eq_zero_iff.1 e)
  rw[if_neg h9,q2]
  simp;omega
theorem Inv.rowsK {p:Prog}{c:Cor}(h:Inv p (-1) noD c)(hp:MayP p){L:List (List Int)}{r:Int}(hL:∀ k,nth L k=zJ c r k)(hn:L.length=yv p r){n:Int}(h8:(L.length:Int)=n):rowsK L n c.threads.length=true:=by
 unfold Hb.rowsK
 rw[if_pos h8]
 refine KA fun k hk=>?_
 rw[hL]
 have h1:=h.cnt_le (r:=r) (k:=k) (by omega)
 have:=h.nthr.2
 have:=hp.threads.2
 unfold rowK
 rw[Yf fun x hx=>?_]
 ·simp;omega
 ·have:=h.mem r k x hx;omega
theorem zax:∀ (l:List Int) {i:Nat},2*i+1<l.length→nth l (2*i)∈vC l
 | [],_,h=>by simp at h
 | [_],_,h=>by simp at h
 | a :: b :: l,0,_=>by simp[vC,nth]
 | a :: b :: l,i+1,h=>by
  have ih:=zax l (i:=i) (by simp only[List.length_cons] at h;omega)
  rw[show 2*(i+1)=2*i+1+1 by omega]
  show nth l (2*i)∈a :: vC l
  exact List.mem_cons_of_mem _ ih
theorem Inv.shape {p:Prog}{c:Cor}(h:Inv p (-1) noD c)(hp:MayP p){e:Int}(he:0≤e∧e≤1073741824):wR e p c=true:=by
 have hnw:=h.now
 have hnt:=h.nthr
 have hth:=hp.threads.2
 have hl:=h.len
 have hm:=hp.mutexes
 have g0:vh e p c=false:=by unfold vh;simp only[Bool.or_eq_false_iff,decide_eq_false_iff_not];omega
 have g1:c.threads.all (thrK p)=true:=KA fun k hk=>zjU hp hnw.1 (h.thr k hk) (h.one k hk (by omega))
 have g2:betC c.owners (-1) (c.threads.length-1)=true:=Yf fun x hx=>by
  obtain⟨i,hi,rfl⟩:=List.getElem_of_mem hx
  have:=h.things.owners i hi
  rw[zK hi] at this;omega
 have g3:betC c.counts 0 1073741824=true:=Yf fun x hx=>by
  obtain⟨i,hi,rfl⟩:=List.getElem_of_mem hx
  have:=h.things.counts i hi
  rw[zK hi] at this;omega
 have g4:=h.rowsK hp (r:=3) (L:=c.lockq) (n:=p.mutexes) (fun k=>by simp[zJ]) (by simp[yv,hl.lockq]) (by rw[hl.lockq];omega)
 have g5:=h.rowsK hp (r:=4) (L:=c.waitq) (n:=p.conds.length) (fun k=>by simp[zJ]) (by simp[yv,hl.waitq]) (by rw[hl.waitq])
 have g6:=h.rowsK hp (r:=5) (L:=c.downq) (n:=p.semas.length) (fun k=>by simp[zJ]) (by simp[yv,hl.downq]) (by rw[hl.downq])
 have g7:=h.rowsK hp (r:=7) (L:=c.recvq) (n:=p.chans.length) (fun k=>by simp[zJ]) (by simp[yv,hl.recvq]) (by rw[hl.recvq])
 have g8:Qm p c=true:=by
  unfold Qm
  rw[if_pos ⟨hl.bufs,hl.sendq,g7⟩,Yb]
  intro k hk
  have hc:=h.things.chan k hk
  have hch:=hp.chans.2 _ (zm hk)
  have e4:=QU hc.even
  have e5:=h.cnt_le (r:=6) (k:=k) (by simp[yv];omega)
  simp[zJ] at e5
  have k0:chK0 p c k=false:=by
   unfold chK0
   rw[Yf hc.bk]
   have:=hc.room
   have:=hc.even
   simp;omega
  unfold chK
  rw[k0,if_neg (by simp),Yb]
  intro j hj
  have q1:=hc.sk j (by omega)
  have q2:=h.mem 6 k (nth (nth c.sendq k) (2*j)) (by simp only[zJ];exact zax _ (by omega))
  rw[show j*2+1=2*j+1 by omega] at q1
  have q3:=zcM q1
  unfold KP
  rw[← q3]
  simp;omega
 unfold wR
 rw[g0,g1,g2,g3,g4,g5,g6,g8]
 simp[hl.owners,hl.counts];omega
end Go.Hb
end
section
namespace Go.Hb
open Go
end Go.Hb
end
