/-
  A layer for reasoning about the program's calls, and contracts of its functions. CONDITIONS: none; each theorem bears its own.
-/
import Derived.Test.YtieoaonaijbijaaGreatG06
import Derived.Test.YtieoaonaijbijaaGreatG08
import Derived.Test.YtieoaonaijbijaaGreatG09
set_option linter.unusedVariables false
set_option linter.unusedSimpArgs false
section
namespace Go.Hb
open Go
def cPoly:Nat:=3988292384
def cS (n:Nat):Nat:=if n % 2=1 then (n / 2) ^^^ cPoly else n / 2
def cN:Nat→Nat→Nat
 | 0,n=>n
 | k+1,n=>cS (cN k n)
theorem half_xor (a b:Nat):(a ^^^ b) / 2=a / 2 ^^^ b / 2:=by
 have h:=Nat.shiftRight_xor_distrib (a:=a) (b:=b) (i:=1)
 simpa [Nat.shiftRight_eq_div_pow] using h
theorem cS_xor (a b:Nat):cS (a ^^^ b)=cS a ^^^ cS b:=by
 have hm:(a ^^^ b) % 2=(a % 2+b % 2) % 2:=by
  have:=Nat.xor_mod_two_pow (a:=a) (b:=b) (n:=1)
  simp only [Nat.pow_one] at this
  rw [this]
  rcases Nat.mod_two_eq_zero_or_one a with h | h<;>rcases Nat.mod_two_eq_zero_or_one b with h' | h'<;>rw [h,h']<;>rfl
 unfold cS
 rw [hm,half_xor]
 rcases Nat.mod_two_eq_zero_or_one a with h | h<;>rcases Nat.mod_two_eq_zero_or_one b with h' | h'<;>rw [h,h']<;>simp
 ·rw [Nat.xor_assoc]
 ·rw [Nat.xor_assoc,Nat.xor_assoc,Nat.xor_comm (b / 2) cPoly]
 ·rw [Nat.xor_assoc,Nat.xor_comm (b / 2) cPoly,← Nat.xor_assoc cPoly,Nat.xor_self,Nat.zero_xor]
theorem cN_xor:∀ (k a b:Nat),cN k (a ^^^ b)=cN k a ^^^ cN k b
 | 0,_,_=>rfl
 | k+1,a,b=>by simp only [cN];rw [cN_xor k,cS_xor]
theorem cN_in (k:Nat):∀ n,cN (k+1) n=cN k (cS n):=by
 induction k with
 | zero=>intro n;rfl
 | succ k ih=>intro n;show cS (cN (k+1) n)=_;rw [ih];rfl
theorem cN_shl:∀ (k w:Nat),cN k (w*2 ^ k)=w
 | 0,w=>by simp [cN]
 | k+1,w=>by
  have e:w*2 ^ (k+1)=(w*2 ^ k)*2:=by rw [Nat.pow_succ,Nat.mul_assoc]
  have:cS (w*2 ^ (k+1))=w*2 ^ k:=by
   unfold cS
   rw [e,if_neg (by omega)];omega
  rw [cN_in,this,cN_shl k]
theorem split8 (x:Nat):x=(x % 256) ^^^ (x / 256*2 ^ 8):=by
 refine Nat.eq_of_testBit_eq fun i=>?_
 rw [show x / 256*2 ^ 8=(x >>> 8) <<< 8 by rw [Nat.shiftLeft_eq,Nat.shiftRight_eq_div_pow],show x % 256=x % 2 ^ 8 from rfl,Nat.testBit_xor,Nat.testBit_mod_two_pow,Nat.testBit_shiftLeft]
 by_cases h:i<8
 ·simp [h,show ¬ 8≤i by omega]
 ·simp [h,show 8≤i by omega,Nat.testBit_shiftRight,show 8+(i - 8)=i by omega]
theorem cN_table (x:Nat):cN 8 x=cN 8 (x % 256) ^^^ (x / 256):=by
 conv=>lhs;rw [split8 x]
 rw [cN_xor,cN_shl]
theorem cS_lt {n:Nat} (h:n<4294967296):cS n<4294967296:=by
 unfold cS
 split
 ·exact Nat.xor_lt_two_pow (n:=32) (by omega) (by decide)
 ·omega
theorem cN_lt {n:Nat} (h:n<4294967296):∀ k,cN k n<4294967296
 | 0=>h
 | k+1=>cS_lt (cN_lt h k)
def crcB (r:Nat) (b:UInt8):Nat:=cN 8 (r ^^^ b.toNat)
def crcL (r:Nat) (l:List UInt8):Nat:=l.foldl crcB r
def crcOf (l:List UInt8):Nat:=4294967295 - crcL 4294967295 l
theorem crcB_lt {r:Nat} (h:r<4294967296) (b:UInt8):crcB r b<4294967296:=
 cN_lt (Nat.xor_lt_two_pow (n:=32) h (by have:=b.toNat_lt;omega)) 8
theorem crcL_lt:∀ (l:List UInt8) {r:Nat},r<4294967296→crcL r l<4294967296
 | [],_,h=>h
 | b :: l,_,h=>crcL_lt l (crcB_lt h b)
theorem crcL_snoc (r:Nat) (l:List UInt8) (b:UInt8):crcL r (l++[b])=crcB (crcL r l) b:=by simp [crcL]
theorem crcOf_lt (l:List UInt8):crcOf l<4294967296:=by unfold crcOf;omega
theorem crcB_table (r:Nat) (b:UInt8):crcB r b=cN 8 ((r % 256) ^^^ b.toNat) ^^^ (r / 256):=by
 have hb:=b.toNat_lt
 have hm:(r ^^^ b.toNat) % 256=(r % 256) ^^^ b.toNat:=by
  have:=Nat.xor_mod_two_pow (a:=r) (b:=b.toNat) (n:=8)
  rw [show (2:Nat) ^ 8=256 by decide] at this
  rw [this,Nat.mod_eq_of_lt (a:=b.toNat) (by omega)]
 have hd:(r ^^^ b.toNat) / 256=r / 256:=by
  have h:=Nat.shiftRight_xor_distrib (a:=r) (b:=b.toNat) (i:=8)
  simp only [Nat.shiftRight_eq_div_pow] at h
  rw [show (2:Nat) ^ 8=256 by decide] at h
  rw [h,Nat.div_eq_of_lt (a:=b.toNat) (by omega),Nat.xor_zero]
 unfold crcB
 rw [cN_table,hm,hd]
theorem inv32 {x:Nat} (h:x<4294967296):x ^^^ 4294967295=4294967295 - x:=by
 have e:BitVec.ofNat 32 x ^^^ BitVec.allOnes 32 = ~~~ BitVec.ofNat 32 x:=BitVec.xor_allOnes
 have e2:=congrArg BitVec.toNat e
 rw [BitVec.toNat_xor,BitVec.toNat_not,BitVec.toNat_allOnes,BitVec.toNat_ofNat,Nat.mod_eq_of_lt (by omega)] at e2
 exact e2
def le4 (n:Nat):List UInt8:=[UInt8.ofNat n,UInt8.ofNat (n / 256),UInt8.ofNat (n / 65536),UInt8.ofNat (n / 16777216)]
def sealB (l:List UInt8):List UInt8:=l++le4 (crcOf l)
theorem sealB_len (l:List UInt8):(sealB l).length=l.length+4:=by simp [sealB,le4]
@[simp] theorem u32_pow:(2:Nat) ^ IntKind.u32.bits=4294967296:=rfl
@[simp] theorem u32_powi:(2:Int) ^ IntKind.u32.bits=4294967296:=rfl
@[simp] theorem wrap_u32 {n:Nat} (h:n<4294967296):IntKind.u32.wrap (n:Int)=n:=by
 have:IntKind.u32.wrap (n:Int)=(n:Int) % 4294967296:=rfl
 rw [this];omega
@[simp] theorem mod_u32 {n:Nat} (h:n<4294967296):n % 4294967296=n:=Nat.mod_eq_of_lt h
@[simp] theorem modi_u32 {n:Nat} (h:n<4294967296):((n:Int) % 4294967296).toNat=n:=by omega
theorem xor_lt32 {a b:Nat} (h:a<4294967296) (h2:b<4294967296):a ^^^ b<4294967296:=Nat.xor_lt_two_pow (n:=32) h h2
@[simp] theorem wrap_half {n:Nat} (h:n<4294967296):IntKind.u32.wrap ((n:Int) / 2)=((n / 2:Nat):Int):=by
 rw [show (n:Int) / 2=((n / 2:Nat):Int) by omega,wrap_u32 (by omega)]
@[simp] theorem wrap_byte {n:Nat} (h:n<4294967296):IntKind.u32.wrap ((n:Int) / 256)=((n / 256:Nat):Int):=by
 rw [show (n:Int) / 256=((n / 256:Nat):Int) by omega,wrap_u32 (by omega)]
@[simp] theorem half_u32 {n:Nat} (h:n<4294967296):((n:Int) / 2 % 4294967296).toNat=n / 2:=by omega
@[simp] theorem u8_mod (m:Nat):IntKind.u8.wrap ((m:Int) % 256)=(m:Int) % 256:=by
 have:IntKind.u8.wrap ((m:Int) % 256)=((m:Int) % 256) % 256:=rfl
 rw [this];omega
theorem fdiv_nat (n m:Nat) (h:0<m):(n:Int).fdiv (m:Int)=((n / m:Nat):Int):=by
 rw [Int.fdiv_eq_ediv_of_nonneg _ (by omega)];rfl
@[simp] theorem shr1_u32 (n:Nat):(n:Int).fdiv (2 ^ min 1 IntKind.u32.bits)=((n / 2:Nat):Int):=fdiv_nat n 2 (by omega)
@[simp] theorem shr8_u32 (n:Nat):(n:Int).fdiv (2 ^ min 8 IntKind.u32.bits)=((n / 256:Nat):Int):=fdiv_nat n 256 (by omega)
@[simp] theorem shr16_u32 (n:Nat):(n:Int).fdiv (2 ^ min 16 IntKind.u32.bits)=((n / 65536:Nat):Int):=fdiv_nat n 65536 (by omega)
@[simp] theorem shr24_u32 (n:Nat):(n:Int).fdiv (2 ^ min 24 IntKind.u32.bits)=((n / 16777216:Nat):Int):=fdiv_nat n 16777216 (by omega)
@[simp] theorem wrap1_u32:IntKind.u32.wrap 1=1:=rfl
@[simp] theorem wrap0_u32:IntKind.u32.wrap 0=0:=rfl
def tabU (k:Nat):List LV:=(List.range k).map (fun i=>.int .u32 (cN 8 i:Nat))++List.replicate (256 - k) (.int .u32 0)
theorem tabU_len {k:Nat} (h:k≤256):(tabU k).length=256:=by unfold tabU;simp;omega
theorem tabU_set {k:Nat} (h:k<256):(tabU k).set k (.int .u32 (cN 8 k:Nat))=tabU (k+1):=by
 unfold tabU
 rw [List.set_append_right _ _ (by simp),List.range_succ,List.map_append]
 simp only [List.length_map,List.length_range,Nat.sub_self,List.map_cons,List.map_nil,List.append_assoc,List.cons_append,List.nil_append]
 rw [show 256 - k=(256 - (k+1))+1 by omega,List.replicate_succ]
 rfl
theorem tabU_at {i:Nat} (h:i<256):(tabU 256)[i]? = some (.int .u32 (cN 8 i:Nat)):=by
 unfold tabU
 simp [h]
theorem setAt_in (rest new:List LV):∀ (pre old:List LV),new.length=old.length→setAt (pre++(old++rest)) pre.length new=pre++(new++rest):=by
 induction new with
 | nil=>intro pre old h;have:old=[]:=List.eq_nil_of_length_eq_zero h.symm;subst this;rfl
 | cons x xs ih=>
  intro pre old h
  cases old with
  | nil=>simp at h
  | cons y ys=>
   simp only [setAt]
   rw [List.set_append_right _ _ (Nat.le_refl _),Nat.sub_self,List.cons_append,List.set_cons_zero]
   have:=ih (pre++[x]) ys (by simpa using h)
   rw [List.append_assoc,List.length_append] at this
   simpa using this
theorem setAt_0 {old new:List LV} (rest:List LV) (h:new.length=old.length):setAt (old++rest) 0 new=new++rest:=setAt_in rest new [] old h
theorem setAt_eq {old new:List LV} (h:new.length=old.length):setAt old 0 new=new:=by
 have:=setAt_0 [] h
 simpa using this
theorem undersB_of {n:Nat} : ∀ {l:List LV},(∀ x∈l,x.under n=true)→undersB n l=true
 | [],_=>rfl
 | x :: xs,h=>by simp only [undersB,Bool.and_eq_true];exact⟨h x (by simp),undersB_of fun y hy=>h y (by simp [hy])⟩
theorem tabU_und (n k:Nat):undersB n (tabU k)=true:=undersB_of fun x hx=>by
 unfold tabU at hx
 rcases List.mem_append.1 hx with h | h
 ·obtain⟨i,_,rfl⟩:=List.mem_map.1 h;rfl
 ·rw [List.eq_of_mem_replicate h];rfl
def sumU (r:Nat) (m:Int):List LV:=tabU 256++[.int .u32 r,.int .i64 m]
theorem sumU_len (r:Nat) (m:Int):(sumU r m).length=258:=by unfold sumU;rw [List.length_append,tabU_len (by omega)];rfl
theorem sumU_r (r:Nat) (m:Int):(sumU r m)[256]? = some (.int .u32 r):=by
 unfold sumU;rw [List.getElem?_append_right (by rw [tabU_len (by omega)];omega),tabU_len (by omega)];rfl
theorem sumU_m (r:Nat) (m:Int):(sumU r m)[257]? = some (.int .i64 m):=by
 unfold sumU;rw [List.getElem?_append_right (by rw [tabU_len (by omega)];omega),tabU_len (by omega)];rfl
theorem sumU_t (r:Nat) (m:Int) {i:Nat} (h:i<256):(sumU r m)[i]? = some (.int .u32 (cN 8 i:Nat)):=by
 unfold sumU;rw [List.getElem?_append_left (by rw [tabU_len (by omega)];exact h),tabU_at h]
theorem sumU_setr (r r':Nat) (m:Int):(sumU r m).set 256 (.int .u32 r')=sumU r' m:=by
 unfold sumU;rw [List.set_append_right _ _ (by rw [tabU_len (by omega)];omega),tabU_len (by omega)];rfl
theorem sumU_setm (r:Nat) (m m':Int):(sumU r m).set 257 (.int .i64 m')=sumU r m':=by
 unfold sumU;rw [List.set_append_right _ _ (by rw [tabU_len (by omega)];omega),tabU_len (by omega)];rfl
@[simp] theorem u8_pow:(2:Nat) ^ IntKind.u8.bits=256:=rfl
@[simp] theorem u8_powi:(2:Int) ^ IntKind.u8.bits=256:=rfl
@[simp] theorem modi_u8 {n:Nat} (h:n<256):((n:Int) % 256).toNat=n:=by omega
@[simp] theorem mod_u8 {n:Nat} (h:n<256):n % 256=n:=Nat.mod_eq_of_lt h
theorem wrap_u8' {n:Nat} (h:n<256):IntKind.u8.wrap (n:Int)=n:=by rw [u8_wrap,Nat.mod_eq_of_lt h]
theorem xor_lt8 {a b:Nat} (h:a<256) (h2:b<256):a ^^^ b<256:=Nat.xor_lt_two_pow (n:=8) h h2
theorem Gro.appi {α : Type} [Enc α] {P:Program} {t t2:TypeId} {by_:Nat} (hok:appOk P t t2 (Enc.sz α) by_=true) (hby:by_≤1000) {v0 v:List Nat} {l:List α} {x:LV} (h:Gro v0 v l x) (l2:List α) (b:l.length+l2.length≤100000000) :
  ∃ x' v',Gro v0 v' (l++l2) x'∧Keep x v v'∧∀ r s,aAppend P t t2 x (.imm (Enc.sz α) l2.length (rowCs l2) r) s v=some (x',v'):=by
 have hm:(l.length+l2.length)*by_≤100000000*1000:=Nat.mul_le_mul b hby
 obtain⟨cs,h,hw,hu0⟩:=h
 obtain⟨x',v',h1,h2,h3⟩:=GroC.app (P:=P) (m:=l2.length) (ds:=rowCs l2) hok h (fun e=>by rw [List.length_eq_zero_iff.1 e];rfl) (by unfold maxLen;omega) (by omega)
 exact⟨x',v',⟨cs++rowCs l2,by simpa using h1,by rw [rowCs_app];exact hw.app (Weaks.refl _),by rw [undersB_app,hu0,rowCs_und];rfl⟩,h2,fun r s=>h3 _ s (by rw [aCells_imm,if_pos rfl])⟩
theorem le4_cs (n:Nat):rowCs (le4 n)=[.int .u8 ((n:Int) % 256),.int .u8 ((n:Int) / 256 % 256),.int .u8 ((n:Int) / 65536 % 256),.int .u8 ((n:Int) / 16777216 % 256)]:=by
 simp [le4,rowCs,Enc.enc]
theorem u8_w0 (n:Int):IntKind.u8.wrap n=n % 256:=rfl
end Go.Hb
end
section
namespace Go.Hb
open Go
structure Sec where
 kind:Int
 body:List UInt8
def Sec.lv (s:Sec):List LV:=[.int .i64 s.kind,row s.body]
instance:Enc Sec:=⟨2,Sec.lv,⟨0,[]⟩,fun _=>rfl,fun f n=>by simp [Sec.lv,undersB,LV.under]⟩
@[simp] theorem sz_sec:Enc.sz Sec=2:=rfl
@[simp] theorem enc_sec (s:Sec):Enc.enc s=[.int .i64 s.kind,row s.body]:=rfl
def sgnB (l:List Int):List UInt8:=shortB l.length++l.flatMap signedB
def frmB (f:Frm):List UInt8:=shortB f.func++shortB f.pc++sgnB f.locals
def thrB' (t:Thr):List UInt8:=shortB t.state++signedB t.on++shortB t.code++shortB t.frames.length++t.frames.flatMap frmB++sgnB t.stack
def thrsB (c:Cor):List UInt8:=shortB c.threads.length++c.threads.flatMap thrB'
def lockB (c:Cor) (i:Nat):List UInt8:=signedB (nth c.owners i)++listB (nth c.lockq i)
def locksB (c:Cor):List UInt8:=shortB c.owners.length++(List.range c.owners.length).flatMap (lockB c)++shortB c.waitq.length++c.waitq.flatMap listB
def semaB (c:Cor) (i:Nat):List UInt8:=shortB (nth c.counts i)++listB (nth c.downq i)
def semasB (c:Cor):List UInt8:=shortB c.counts.length++(List.range c.counts.length).flatMap (semaB c)
def pairB (l:List Int) (k:Nat):List UInt8:=shortB (nth l (2*k))++signedB (nth l (2*k+1))
def chanB (c:Cor) (i:Nat):List UInt8:=sgnB (nth c.bufs i)++shortB (((nth c.sendq i).length / 2:Nat):Int)++(List.range ((nth c.sendq i).length / 2)).flatMap (pairB (nth c.sendq i))++listB (nth c.recvq i)
def chansB (c:Cor):List UInt8:=shortB c.bufs.length++(List.range c.bufs.length).flatMap (chanB c)
theorem flat_le {α : Type} {f:α→List UInt8} {m:Nat} : ∀ {l:List α},(∀ x∈l,(f x).length≤m)→(l.flatMap f).length≤m*l.length
 | [],_=>by simp
 | x :: l,h=>by
  have h1:=h x (by simp)
  have h2:=flat_le (l:=l) fun y hy=>h y (by simp [hy])
  simp only [List.flatMap_cons,List.length_append,List.length_cons]
  rw [Nat.mul_succ];omega
theorem sgnB_le {l:List Int} (h:l.length≤1000):(sgnB l).length≤9+9*l.length:=by
 unfold sgnB
 have:=flat_le (f:=signedB) (m:=9) (l:=l) fun _ _=>signedB_le
 have:=shortB_le (n:=(l.length:Int)) (by omega)
 simp only [List.length_append];omega
theorem nthM {α : Type} [Enc α] {l:List α} {k:Nat} (h:k<l.length):nth l k∈l:=by rw [nth_eq h];exact List.getElem_mem h
def RowW (l:List Int):Prop:=l.length≤100∧∀ k,k<l.length→nth l k≤9223372036854775807
structure WrT (t:Thr):Prop where
 st:t.state≤9223372036854775807
 code:t.code≤9223372036854775807
 fr:t.frames.length≤8
 sk:t.stack.length≤100
 frs:∀ f∈t.frames,f.func≤9223372036854775807∧f.pc≤9223372036854775807∧f.locals.length≤8
structure WrC (c:Cor):Prop where
 threads:c.threads.length≤100
 thr:∀ t∈c.threads,WrT t
 owners:c.owners.length≤100
 lockn:c.owners.length≤c.lockq.length
 lockq:∀ l∈c.lockq,RowW l
 waitn:c.waitq.length≤100
 waitq:∀ l∈c.waitq,RowW l
 counts:c.counts.length≤100∧∀ k,k<c.counts.length→nth c.counts k≤9223372036854775807
 downn:c.counts.length≤c.downq.length
 downq:∀ l∈c.downq,RowW l
 bufn:c.bufs.length≤100
 bufs:∀ l∈c.bufs,l.length≤100
 sendn:c.bufs.length≤c.sendq.length
 sendq:∀ l∈c.sendq,RowW l∧l.length % 2=0
 recvn:c.bufs.length≤c.recvq.length
 recvq:∀ l∈c.recvq,RowW l
theorem frmB_le {f:Frm} (h:f.func≤9223372036854775807∧f.pc≤9223372036854775807∧f.locals.length≤8):(frmB f).length≤100:=by
 unfold frmB
 have:=shortB_le h.1
 have:=shortB_le h.2.1
 have:=sgnB_le (l:=f.locals) (by omega)
 simp only [List.length_append];omega
theorem thrB'_le {t:Thr} (h:WrT t):(thrB' t).length≤2000:=by
 unfold thrB'
 have:=shortB_le h.st
 have:=shortB_le h.code
 have:=signedB_le (n:=t.on)
 have:=h.fr
 have:=h.sk
 have:=shortB_le (n:=(t.frames.length:Int)) (by omega)
 have:=flat_le (f:=frmB) (m:=100) (l:=t.frames) fun f hf=>frmB_le (h.frs f hf)
 have:=sgnB_le (l:=t.stack) (by omega)
 simp only [List.length_append];omega
theorem listB_row {l:List Int} (h:RowW l):(listB l).length≤1000:=by
 have:=listB_le h.2 (by have:=h.1;omega)
 have:=h.1
 omega
def secH (s:Sec):List UInt8:=UInt8.ofInt s.kind :: shortB s.body.length
def headB (v:Int) (l:List Sec):List UInt8:=[72,73,66,82,UInt8.ofInt v]++shortB l.length++l.flatMap secH
def fileB (v:Int) (l:List Sec):List UInt8:=sealB (headB v l++l.flatMap fun s=>sealB s.body)
def sectsB (ep:Int) (p:Prog) (c:Cor):List Sec:=[⟨1,shortB ep++shortB c.now⟩,⟨2,writeP p⟩,⟨3,thrsB c⟩,⟨4,locksB c⟩,⟨5,semasB c⟩,⟨6,chansB c⟩]
theorem rowsB_le {L:List (List Int)} (h:∀ l∈L,RowW l):(L.flatMap listB).length≤1000*L.length:=flat_le fun l hl=>listB_row (h l hl)
theorem thrsB_le {c:Cor} (h:WrC c):(thrsB c).length≤200009:=by
 unfold thrsB
 have:=h.threads
 have:=shortB_le (n:=(c.threads.length:Int)) (by omega)
 have:=flat_le (f:=thrB') (m:=2000) (l:=c.threads) fun t ht=>thrB'_le (h.thr t ht)
 simp only [List.length_append];omega
theorem locksB_le {c:Cor} (h:WrC c):(locksB c).length≤300000:=by
 unfold locksB
 have:=h.owners
 have:=h.waitn
 have:=shortB_le (n:=(c.owners.length:Int)) (by omega)
 have:=shortB_le (n:=(c.waitq.length:Int)) (by omega)
 have:=rowsB_le h.waitq
 have:=flat_le (f:=lockB c) (m:=1009) (l:=List.range c.owners.length) fun i hi=>by
  have hi':i<c.owners.length:=by simpa using hi
  have h1:=signedB_le (n:=nth c.owners i)
  have h2:=listB_row (h.lockq _ (nthM (l:=c.lockq) (k:=i) (by have:=h.lockn;omega)))
  unfold lockB
  rw [List.length_append];omega
 simp only [List.length_append,List.length_range] at *;omega
theorem semasB_le {c:Cor} (h:WrC c):(semasB c).length≤200000:=by
 unfold semasB
 have:=h.counts.1
 have:=shortB_le (n:=(c.counts.length:Int)) (by omega)
 have:=flat_le (f:=semaB c) (m:=1009) (l:=List.range c.counts.length) fun i hi=>by
  have hi':i<c.counts.length:=by simpa using hi
  have h1:=shortB_le (h.counts.2 i hi')
  have h2:=listB_row (h.downq _ (nthM (l:=c.downq) (k:=i) (by have:=h.downn;omega)))
  unfold semaB
  rw [List.length_append];omega
 simp only [List.length_append,List.length_range] at *;omega
theorem chansB_le {c:Cor} (h:WrC c):(chansB c).length≤300009:=by
 unfold chansB
 have:=h.bufn
 have:=shortB_le (n:=(c.bufs.length:Int)) (by omega)
 have:=flat_le (f:=chanB c) (m:=3000) (l:=List.range c.bufs.length) fun i hi=>by
  have hi':i<c.bufs.length:=by simpa using hi
  have b1:=h.bufs _ (nthM (l:=c.bufs) (k:=i) hi')
  obtain⟨⟨b2,b3⟩,b4⟩:=h.sendq _ (nthM (l:=c.sendq) (k:=i) (by have:=h.sendn;omega))
  have b5:=listB_row (h.recvq _ (nthM (l:=c.recvq) (k:=i) (by have:=h.recvn;omega)))
  have b6:=sgnB_le (l:=nth c.bufs i) (by omega)
  have b7:=shortB_le (n:=(((nth c.sendq i).length / 2:Nat):Int)) (by omega)
  have b8:=flat_le (f:=pairB (nth c.sendq i)) (m:=18) (l:=List.range ((nth c.sendq i).length / 2)) fun k hk=>by
   have hk':k<(nth c.sendq i).length / 2:=by simpa using hk
   have h1:=shortB_le (b3 (2*k) (by omega))
   have h2:=signedB_le (n:=nth (nth c.sendq i) (2*k+1))
   unfold pairB
   rw [List.length_append];omega
  unfold chanB
  simp only [List.length_append,List.length_range] at *;omega
 simp only [List.length_append,List.length_range] at *;omega
theorem sectsB_le {ep:Int} {p:Prog} {c:Cor} (h:WrC c) (he:ep≤9223372036854775807) (hn:c.now≤9223372036854775807) (hw:(writeP p).length≤500000):∀ x∈sectsB ep p c,x.body.length≤500000:=by
 have h1:=shortB_le he
 have h2:=shortB_le hn
 have h3:=thrsB_le h
 have h4:=locksB_le h
 have h5:=semasB_le h
 have h6:=chansB_le h
 intro x hx
 simp only [sectsB,List.mem_cons,List.not_mem_nil,or_false] at hx
 rcases hx with rfl | rfl | rfl | rfl | rfl | rfl
 ·show (shortB ep++shortB c.now).length≤_
  rw [List.length_append];omega
 ·exact hw
 ·show (thrsB c).length≤_
  omega
 ·show (locksB c).length≤_
  omega
 ·show (semasB c).length≤_
  omega
 ·show (chansB c).length≤_
  omega
theorem GroE.appw {α : Type} [Enc α] {P:Program} {t t2:TypeId} {by_:Nat} (hok:appOk P t t2 (Enc.sz α) by_=true) (hby:by_≤1000) {v0 v:List Nat} {l:List α} {x:LV} (h:GroE v0 v l x) (l2:List α) (b:l.length+l2.length≤100000000) :
  ∃ x' v',GroE v0 v' (l++l2) x'∧Keep x v v'∧∀ s,aAppend P t t2 x (row l2) s v=some (x',v'):=by
 have hm:(l.length+l2.length)*by_≤100000000*1000:=Nat.mul_le_mul b hby
 obtain⟨x',v',h1,h2,h3⟩:=GroC.app (P:=P) (m:=l2.length) (ds:=rowCs l2) hok h (fun e=>by rw [List.length_eq_zero_iff.1 e];rfl) (by unfold maxLen;omega) (by omega)
 exact⟨x',v',by unfold GroE;rw [rowCs_app,List.length_append];exact h1,h2,fun s=>h3 _ s (by rw [aCells_row,if_pos rfl])⟩
theorem wat_eq {v0 v:List Nat} {bs bs':List UInt8} {x:LV} {B B':Nat} (h:WAt v0 v bs x B) (e:bs=bs') (hB:B≤B'):WAt v0 v bs' x B':=by subst e;exact⟨h.1,Nat.le_trans h.2 hB⟩
end Go.Hb
end
section
namespace Go.Hb
open Go
def EnvW (id:Nat) (L:List (Nat × AObj)) (S:List AObj):Prop:=∀ q∈L,q.1≠id∧S[q.1]? = some q.2
theorem EnvW.set {id:Nat} {L:List (Nat × AObj)} {S:List AObj} (h:EnvW id L S) (o:AObj):EnvW id L (S.set id o):=fun q hq=>⟨(h q hq).1,by rw [List.getElem?_set_ne (fun e=>(h q hq).1 e.symm)];exact(h q hq).2⟩
theorem EnvW.app {id:Nat} {L:List (Nat × AObj)} {S:List AObj} (h:EnvW id L S) (J:List AObj):EnvW id L (S++J):=fun q hq=>⟨(h q hq).1,by rw [List.getElem?_append_left (List.getElem?_eq_some_iff.1 (h q hq).2).1];exact(h q hq).2⟩
theorem EnvW.nil {id:Nat} {S:List AObj} : EnvW id [] S:=by intro q hq;cases hq
theorem EnvW.cons {id i:Nat} {o:AObj} {L:List (Nat × AObj)} {S:List AObj} (h1:i≠id) (h2:S[i]? = some o) (h:EnvW id L S):EnvW id ((i,o) :: L) S:=fun q hq=>by
 rcases List.mem_cons.1 hq with rfl | hq
 ·exact⟨h1,h2⟩
 ·exact h q hq
def Wrt (P:Program) (f:FuncId) (args:List LV) (id:Nat) (L:List (Nat × AObj)) (w:List UInt8) (n:Nat):Prop:=
 ∀ S x v0 v bs B,EnvW id L S→S[id]? = some (.cells [x])→WAt v0 v bs x B→B+n≤80000000→aCalls P f args S v (WPost S id v0 (bs++w) (B+n))
theorem callWt {P:Program} {f:FuncId} {args:List LV} {S:List AObj} {v v0:List Nat} {id B n:Nat} {bs w:List UInt8} {x:LV} {L:List (Nat × AObj)} {K:LV→List AObj→List Nat→Prop} (h:Wrt P f args id L w n) (hL:EnvW id L S) (hS:S[id]? = some (.cells [x])) (hx:WAt v0 v bs x B) (hB:B+n≤80000000)
  (k:∀ y x' v',WAt v0 v' (bs++w) x' (B+n)→K y (S.set id (.cells [x'])) v'):aCalls P f args S v K:=callW (h S x v0 v bs B hL hS hx hB) k
theorem WAt.mo {v0 v v':List Nat} {bs:List UInt8} {x:LV} {B:Nat} (h:WAt v0 v bs x B) (hv:v <+: v'):WAt v0 v' bs x B:=⟨GroC.mono h.1 hv,h.2⟩
theorem WAt.under {v0 v:List Nat} {bs:List UInt8} {x:LV} {B:Nat} (h:WAt v0 v bs x B) (n:Nat):x.under n=true:=h.1.gro.under n
def WPJ (S:List AObj) (id:Nat) (v0:List Nat) (bs:List UInt8) (B:Nat) (y:LV) (s':List AObj) (v':List Nat):Prop:=∃ x' J,s'=S.set id (.cells [x'])++J∧y.under S.length=true∧WAt v0 v' bs x' B
theorem WPost.of {P:Program} {f:FuncId} {args:List LV} {S:List AObj} {v v0:List Nat} {id B:Nat} {bs:List UInt8} (h:aCalls P f args S v (WPJ S id v0 bs B)):aCalls P f args S v (WPost S id v0 bs B):=by
 refine aCalls_drop (aCalls_mono h fun y s' v' ⟨x',J,e1,e2,e3⟩=>?_)
 refine⟨S.set id (.cells [x']),J,e1,by simp,e2,fun i o ho=>?_,x',rfl,e3⟩
 by_cases e:id=i
 ·subst e
  right
  have hi:=(List.getElem?_eq_some_iff.1 ho).1
  rw [List.getElem?_set_self (by simpa using hi)] at ho
  cases ho
  simp [AObj.under,e3.under]
 ·rw [List.getElem?_set_ne e] at ho;exact .inl ho
theorem Wrt.eq {P:Program} {f:FuncId} {args:List LV} {id:Nat} {L:List (Nat × AObj)} {w w':List UInt8} {n n':Nat} (h:Wrt P f args id L w n) (e:w=w') (hn:n≤n'):Wrt P f args id L w' n':=fun S x v0 v bs B h1 h2 h3 h4=>by
 subst e
 exact aCalls_mono (h S x v0 v bs B h1 h2 h3 (by omega)) fun y s' v' ⟨x',e1,e2⟩=>⟨x',e1,e2.1,by have:=e2.2;omega⟩
end Go.Hb
namespace Go.Hb
open Go
section
variable {S:List AObj} {id:Nat}
theorem sw1 (h:id<S.length):∀ o J,(S++J).set id o=S.set id o++J:=fun o J=>List.set_append_left _ _ h
theorem sw3 (h:id<S.length):∀ o o' J,(S.set id o++J).set id o'=S.set id o'++J:=fun o o' J=>by rw [List.set_append_left _ _ (by simpa using h)];simp
theorem sw4 (h:id<S.length):∀ o J,(S.set id o++J)[id]? = some o:=fun o J=>by rw [List.getElem?_append_left (by simpa using h)];simp [h]
theorem sw6:∀ o J,(S.set id o++J)[S.length]? = J[0]?:=fun o J=>by have:=get_app0 (S.set id o) J;simpa using this
theorem sw7:∀ o J k,(S.set id o++J)[S.length+k]? = J[k]?:=fun o J k=>by have:=get_app (S.set id o) J k;simpa using this
theorem sw8 {i:Nat} {o':AObj} (hi:i≠id) (h:S[i]? = some o'):∀ o J,(S.set id o++J)[i]? = some o':=fun o J=>by
 rw [List.getElem?_append_left (by simpa using (List.getElem?_eq_some_iff.1 h).1),List.getElem?_set_ne hi.symm];exact h
end
def ints (n:Nat):List Int:=(List.range n).map fun i:Nat=>(i:Int)
@[simp] theorem ints_len (n:Nat):(ints n).length=n:=by simp [ints]
theorem ints_nth {n k:Nat} (h:k<n):nth (ints n) k=(k:Int):=by rw [nth_eq (by simpa using h)];simp [ints]
theorem ints_succ (n:Nat):ints (n+1)=ints n++[(n:Int)]:=by simp [ints,List.range_succ]
theorem ints_flat (n:Nat) (f:Nat→List UInt8):(ints n).flatMap (fun z=>f z.toNat)=(List.range n).flatMap f:=by
 unfold ints
 rw [List.flatMap_map]
 simp
end Go.Hb
end
section
namespace Go.Hb
open Go
instance {α β : Type} [Enc α] [Enc β]:Enc (α × β):=⟨Enc.sz α + Enc.sz β,fun p=>Enc.enc p.1++Enc.enc p.2,(Enc.dflt,Enc.dflt),fun p=>by simp [Enc.len],fun p n=>by simp [undersB_app,Enc.und]⟩
def rdShs (m:Nat) (b:List UInt8) (r:RS):RS × List Int:=rdMany (rdShort b) (rdList b m r).2 (rdList b m r).1
def rdSgs (m:Nat) (b:List UInt8) (r:RS):RS × List Int:=rdMany (rdSigned b) (rdList b m r).2 (rdList b m r).1
def rdFrm (b:List UInt8) (r:RS):RS × Frm:=
 let x:=rdShort b r
 let y:=rdShort b x.1
 let l:=rdSgs 8 b y.1
 (l.1,⟨x.2,y.2,l.2⟩)
def rdFrms (b:List UInt8) (r:RS):RS × List Frm:=rdMany (rdFrm b) (rdList b 8 r).2 (rdList b 8 r).1
def rdThr (b:List UInt8) (r:RS):RS × Thr:=
 let st:=rdShort b r
 let on:=rdSigned b st.1
 let co:=rdShort b on.1
 let fr:=rdFrms b co.1
 let sk:=rdSgs 16 b fr.1
 (sk.1,⟨st.2,on.2,fr.2,sk.2,co.2⟩)
def rdThrs (b:List UInt8) (r:RS):RS × List Thr:=rdMany (rdThr b) (rdList b 32 r).2 (rdList b 32 r).1
def rdLock (b:List UInt8) (r:RS):RS × Int × List Int:=
 let x:=rdSigned b r
 let y:=rdShs 32 b x.1
 (y.1,x.2,y.2)
def rdLocks (b:List UInt8) (r:RS):RS × List (Int × List Int):=rdMany (rdLock b) (rdList b 8 r).2 (rdList b 8 r).1
def rdWaits (b:List UInt8) (r:RS):RS × List (List Int):=rdMany (rdShs 32 b) (rdList b 8 r).2 (rdList b 8 r).1
def rdSema (b:List UInt8) (r:RS):RS × Int × List Int:=
 let x:=rdShort b r
 let y:=rdShs 32 b x.1
 (y.1,x.2,y.2)
def rdSemas (b:List UInt8) (r:RS):RS × List (Int × List Int):=rdMany (rdSema b) (rdList b 8 r).2 (rdList b 8 r).1
def rdPair (b:List UInt8) (r:RS):RS × Int × Int:=
 let x:=rdShort b r
 let y:=rdSigned b x.1
 (y.1,x.2,y.2)
def rdPairs (b:List UInt8) (r:RS):RS × List (Int × Int):=rdMany (rdPair b) (rdList b 32 r).2 (rdList b 32 r).1
def flatP (l:List (Int × Int)):List Int:=l.flatMap fun p=>[p.1,p.2]
def rdChan (b:List UInt8) (r:RS):RS × List Int × List Int × List Int:=
 let x:=rdSgs 8 b r
 let y:=rdPairs b x.1
 let z:=rdShs 32 b y.1
 (z.1,x.2,flatP y.2,z.2)
def rdChans (b:List UInt8) (r:RS):RS × List (List Int × List Int × List Int):=rdMany (rdChan b) (rdList b 8 r).2 (rdList b 8 r).1
def endR (b:List UInt8) (r:RS):Int:=if r.e≠0 then r.e else if r.at_<b.length then 3 else 0
theorem shs_rds {m:Nat} {l:List Int} (hm:m≤1000) (hl:l.length≤m) (h:∀ x∈l,0≤x∧x≤9223372036854775807):Rds (rdShs m) (listB l) l:=
 counted_rds hl hm (fun x hx=>short_rds (h x hx).1 (h x hx).2) fun x _=>shortB_ge x
theorem sgs_rds {m:Nat} {l:List Int} (hm:m≤1000) (hl:l.length≤m) (h:∀ x∈l, -2305843009213693952≤x∧x≤2305843009213693951):Rds (rdSgs m) (sgnB l) l:=
 counted_rds hl hm (fun x hx=>signed_rds (h x hx).1 (h x hx).2) fun x _=>signedB_ge x
theorem sgnB_ge (l:List Int):1≤(sgnB l).length:=by have:=shortB_ge l.length;simp [sgnB];omega
theorem rds_pair {α β γ : Type} {f:List UInt8→RS→RS × α} {g:List UInt8→RS→RS × β} {w1 w2:List UInt8} {x:α} {y:β} (mk:α→β→γ) (h1:Rds f w1 x) (h2:Rds g w2 y) :
  Rds (fun b r=>((g b (f b r).1).1,mk (f b r).2 (g b (f b r).1).2)) (w1++w2) (mk x y):=fun b a post h=>by
 rw [List.append_assoc] at h
 have e1:=h1 b a _ h
 have e2:=h2 b _ _ (drop_next h)
 simp only [e1,e2]
 rw [List.length_append,Nat.add_assoc]
def In62 (n:Int):Prop:= -2305843009213693952≤n∧n≤2305843009213693951
def In63 (n:Int):Prop:=0≤n∧n≤9223372036854775807
def FrmR (f:Frm):Prop:=In63 f.func∧In63 f.pc∧f.locals.length≤8∧∀ x∈f.locals,In62 x
def ThrR (t:Thr):Prop:=In63 t.state∧In62 t.on∧In63 t.code∧t.frames.length≤8∧(∀ f∈t.frames,FrmR f)∧t.stack.length≤16∧∀ x∈t.stack,In62 x
theorem frm_rds {f:Frm} (h:FrmR f):Rds rdFrm (frmB f) f:=by
 obtain⟨⟨a1,a2⟩,⟨b1,b2⟩,c,d⟩:=h
 have h1:=rds_pair (fun (x y:Int)=>(x,y)) (short_rds a1 a2) (short_rds b1 b2)
 exact rds_pair (fun (x:Int × Int) l=>(⟨x.1,x.2,l⟩:Frm)) h1 (sgs_rds (m:=8) (by omega) c d)
theorem frmB_ge (f:Frm):1≤(frmB f).length:=by have:=shortB_ge f.func;simp [frmB];omega
theorem thr_rds {t:Thr} (h:ThrR t):Rds rdThr (thrB' t) t:=by
 obtain⟨⟨a1,a2⟩,⟨b1,b2⟩,⟨c1,c2⟩,d1,d2,e1,e2⟩:=h
 have hf:Rds rdFrms (shortB t.frames.length++t.frames.flatMap frmB) t.frames:=counted_rds d1 (by omega) (fun x hx=>frm_rds (d2 x hx)) fun x _=>frmB_ge x
 have h1:=rds_pair (fun (x y:Int)=>(x,y)) (short_rds a1 a2) (signed_rds b1 b2)
 have h2:=rds_pair (fun (x:Int × Int) (y:Int)=>(x,y)) h1 (short_rds c1 c2)
 have h3:=rds_pair (fun (x:(Int × Int) × Int) (y:List Frm)=>(x,y)) h2 hf
 have h4:=rds_pair (fun (x:((Int × Int) × Int) × List Frm) (y:List Int)=>(⟨x.1.1.1,x.1.1.2,x.2,y,x.1.2⟩:Thr)) h3 (sgs_rds (m:=16) (by omega) e1 e2)
 have e:thrB' t=(shortB t.state++signedB t.on++shortB t.code)++(shortB t.frames.length++t.frames.flatMap frmB)++sgnB t.stack:=by simp [thrB',List.append_assoc]
 rw [e]
 exact h4
theorem thrB_ge (t:Thr):1≤(thrB' t).length:=by have:=shortB_ge t.state;simp [thrB'];omega
theorem thrs_rds {l:List Thr} (h1:l.length≤32) (h:∀ t∈l,ThrR t):Rds rdThrs (shortB l.length++l.flatMap thrB') l:=counted_rds h1 (by omega) (fun x hx=>thr_rds (h x hx)) fun x _=>thrB_ge x
def RowR' (l:List Int):Prop:=l.length≤32∧∀ x∈l,In63 x
theorem range_map {α : Type} [Enc α] (w:α→List UInt8) (l:List α):(List.range l.length).flatMap (fun i=>w (nth l i))=l.flatMap w:=by
 have:(List.range l.length).map (nth l)=l:=by
  apply List.ext_getElem (by simp)
  intro i h1 h2
  simp [nth_eq h2]
 conv=>rhs;rw [← this]
 rw [List.flatMap_map]
theorem zip_nth {α β : Type} [Enc α] [Enc β] {a:List α} {b:List β} (h:a.length≤b.length) {i:Nat} (hi:i<a.length):nth (a.zip b) i=(nth a i,nth b i):=by
 rw [nth_eq (by simp;omega),nth_eq hi,nth_eq (by omega)]
 simp
def lockW (p:Int × List Int):List UInt8:=signedB p.1++listB p.2
def semaW (p:Int × List Int):List UInt8:=shortB p.1++listB p.2
def pairW (p:Int × Int):List UInt8:=shortB p.1++signedB p.2
theorem zip_flat {α β : Type} [Enc α] [Enc β] (w:α × β→List UInt8) {a:List α} {b:List β} (h:a.length=b.length):(List.range a.length).flatMap (fun i=>w (nth a i,nth b i))=(a.zip b).flatMap w:=by
 have hl:(a.zip b).length=a.length:=by simp;omega
 rw [← range_map w (a.zip b),hl]
 unfold List.flatMap
 congr 1
 apply List.map_congr_left
 intro i hi
 rw [zip_nth (by omega) (by simpa using hi)]
theorem lock_rds {x:Int × List Int} (h1:In62 x.1) (h2:RowR' x.2):Rds rdLock (lockW x) x:=rds_pair (fun (a:Int) (l:List Int)=>(a,l)) (signed_rds h1.1 h1.2) (shs_rds (m:=32) (by omega) h2.1 h2.2)
theorem sema_rds {x:Int × List Int} (h1:In63 x.1) (h2:RowR' x.2):Rds rdSema (semaW x) x:=rds_pair (fun (a:Int) (l:List Int)=>(a,l)) (short_rds h1.1 h1.2) (shs_rds (m:=32) (by omega) h2.1 h2.2)
theorem pair_rds {x:Int × Int} (h1:In63 x.1) (h2:In62 x.2):Rds rdPair (pairW x) x:=rds_pair (fun (a:Int) (l:Int)=>(a,l)) (short_rds h1.1 h1.2) (signed_rds h2.1 h2.2)
theorem lockW_ge (x:Int × List Int):1≤(lockW x).length:=by have:=signedB_ge x.1;simp [lockW];omega
theorem semaW_ge (x:Int × List Int):1≤(semaW x).length:=by have:=shortB_ge x.1;simp [semaW];omega
theorem pairW_ge (x:Int × Int):1≤(pairW x).length:=by have:=shortB_ge x.1;simp [pairW];omega
def pairsOf:List Int→List (Int × Int)
 | a :: b :: l=>(a,b) :: pairsOf l
 | _=>[]
theorem pairsOf_len:∀ l:List Int,(pairsOf l).length=l.length / 2
 | []=>rfl
 | [_]=>by simp [pairsOf]
 | _ :: _ :: l=>by simp only [pairsOf,List.length_cons,pairsOf_len l];omega
theorem pairsOf_nth:∀ (l:List Int) {k:Nat},k<l.length / 2→nth (pairsOf l) k=(nth l (2*k),nth l (2*k+1))
 | [],_,h=>by simp at h
 | [_],_,h=>by simp at h
 | a :: b :: l,0,_=>rfl
 | a :: b :: l,k+1,h=>by
  have ih:=pairsOf_nth l (k:=k) (by simp only [List.length_cons] at h;omega)
  rw [show 2*(k+1)=2*k+1+1 by omega]
  exact ih
theorem flat_pairsOf:∀ (l:List Int),l.length % 2=0→flatP (pairsOf l)=l
 | [],_=>rfl
 | [_],h=>by simp at h
 | a :: b :: l,h=>by
  have ih:=flat_pairsOf l (by simp only [List.length_cons] at h;omega)
  simp only [pairsOf,flatP,List.flatMap_cons]
  rw [show (l:List Int)=(pairsOf l).flatMap (fun p=>[p.1,p.2]) from ih.symm]
  simp [ih,pairsOf]
  have:(pairsOf ((pairsOf l).flatMap fun p=>[p.1,p.2]))=pairsOf l:=by rw [show ((pairsOf l).flatMap fun p=>[p.1,p.2])=l from ih]
  rw [this]
structure SendR (l:List Int):Prop where
 len:l.length≤64∧l.length % 2=0
 ok:∀ k,k<l.length / 2→In63 (nth l (2*k))∧In62 (nth l (2*k+1))
theorem pairB_W (l:List Int):(List.range (l.length / 2)).flatMap (pairB l)=(pairsOf l).flatMap pairW:=by
 rw [← range_map pairW (pairsOf l),pairsOf_len]
 unfold List.flatMap
 congr 1
 apply List.map_congr_left
 intro i hi
 rw [pairsOf_nth l (by simpa using hi)]
 rfl
theorem send_rds {l:List Int} (h:SendR l):Rds (fun b r=>((rdPairs b r).1,flatP (rdPairs b r).2)) (shortB ((l.length / 2:Nat):Int)++(List.range (l.length / 2)).flatMap (pairB l)) l:=fun b a post hb=>by
 rw [pairB_W,← pairsOf_len] at hb ⊢
 have hp:∀ x∈pairsOf l,Rds rdPair (pairW x) x:=fun x hx=>by
  obtain⟨i,hi,rfl⟩:=List.getElem_of_mem hx
  rw [pairsOf_len] at hi
  have:=h.ok i hi
  rw [← nth_eq (by rw [pairsOf_len];exact hi),pairsOf_nth l hi]
  exact pair_rds this.1 this.2
 have h1:Rds rdPairs (shortB (pairsOf l).length++(pairsOf l).flatMap pairW) (pairsOf l):=counted_rds (by rw [pairsOf_len];have:=h.len;omega) (by omega) hp fun x _=>pairW_ge x
 have e:=h1 b a post hb
 simp only [e,flat_pairsOf l h.len.2]
def chanW (x:List Int × List Int × List Int):List UInt8:=sgnB x.1++(shortB ((x.2.1.length / 2:Nat):Int)++(List.range (x.2.1.length / 2)).flatMap (pairB x.2.1))++listB x.2.2
theorem chanW_ge (x:List Int × List Int × List Int):1≤(chanW x).length:=by have:=sgnB_ge x.1;simp [chanW];omega
theorem chan_rds {x:List Int × List Int × List Int} (h1:x.1.length≤8) (h2:∀ n∈x.1,In62 n) (h3:SendR x.2.1) (h4:RowR' x.2.2):Rds rdChan (chanW x) x:=by
 have e1:=rds_pair (fun (a:List Int) (l:List Int)=>(a,l)) (sgs_rds (m:=8) (by omega) h1 h2) (send_rds h3)
 exact rds_pair (fun (a:List Int × List Int) (l:List Int)=>(a.1,a.2,l)) e1 (shs_rds (m:=32) (by omega) h4.1 h4.2)
structure CorR (c:Cor):Prop where
 now:In63 c.now
 threads:c.threads.length≤32∧∀ t∈c.threads,ThrR t
 owners:c.owners.length≤8∧∀ x∈c.owners,In62 x
 lockq:c.lockq.length=c.owners.length∧∀ l∈c.lockq,RowR' l
 waitq:c.waitq.length≤8∧∀ l∈c.waitq,RowR' l
 counts:c.counts.length≤8∧∀ x∈c.counts,In63 x
 downq:c.downq.length=c.counts.length∧∀ l∈c.downq,RowR' l
 bufs:c.bufs.length≤8∧∀ l∈c.bufs,l.length≤8∧∀ x∈l,In62 x
 sendq:c.sendq.length=c.bufs.length∧∀ l∈c.sendq,SendR l
 recvq:c.recvq.length=c.bufs.length∧∀ l∈c.recvq,RowR' l
theorem zip_l {α β : Type} {a:List α} {b:List β} (h:a.length=b.length):(a.zip b).map (·.1)=a:=List.map_fst_zip (by omega)
theorem zip_r {α β : Type} {a:List α} {b:List β} (h:a.length=b.length):(a.zip b).map (·.2)=b:=List.map_snd_zip (by omega)
theorem locks_rds {c:Cor} (h:CorR c):Rds (fun b r=>((rdWaits b (rdLocks b r).1).1,(rdLocks b r).2,(rdWaits b (rdLocks b r).1).2)) (locksB c) (c.owners.zip c.lockq,c.waitq):=by
 have hl:=h.lockq.1
 have h1:Rds rdLocks (shortB (c.owners.zip c.lockq).length++(c.owners.zip c.lockq).flatMap lockW) (c.owners.zip c.lockq):=counted_rds (by have:=h.owners.1;simp;omega) (by omega) (fun x hx=>by
  have:=List.of_mem_zip hx
  exact lock_rds (h.owners.2 _ this.1) (h.lockq.2 _ this.2)) fun x _=>lockW_ge x
 have h2:Rds rdWaits (shortB c.waitq.length++c.waitq.flatMap listB) c.waitq:=counted_rds h.waitq.1 (by omega) (fun x hx=>shs_rds (m:=32) (by omega) (h.waitq.2 x hx).1 (h.waitq.2 x hx).2) fun x _=>listB_ge x
 have e:locksB c=(shortB (c.owners.zip c.lockq).length++(c.owners.zip c.lockq).flatMap lockW)++(shortB c.waitq.length++c.waitq.flatMap listB):=by
  have e1:(c.owners.zip c.lockq).length=c.owners.length:=by simp;omega
  rw [e1,← zip_flat lockW hl.symm]
  rw [show (fun i=>lockW (nth c.owners i,nth c.lockq i))=lockB c from rfl]
  simp [locksB,List.append_assoc]
 rw [e]
 exact rds_pair (fun (a:List (Int × List Int)) (l:List (List Int))=>(a,l)) h1 h2
theorem semas_rds {c:Cor} (h:CorR c):Rds rdSemas (semasB c) (c.counts.zip c.downq):=by
 have hl:=h.downq.1
 have h1:Rds rdSemas (shortB (c.counts.zip c.downq).length++(c.counts.zip c.downq).flatMap semaW) (c.counts.zip c.downq):=counted_rds (by have:=h.counts.1;simp;omega) (by omega) (fun x hx=>by
  have:=List.of_mem_zip hx
  exact sema_rds (h.counts.2 _ this.1) (h.downq.2 _ this.2)) fun x _=>semaW_ge x
 have e1:(c.counts.zip c.downq).length=c.counts.length:=by simp;omega
 rw [e1,← zip_flat semaW hl.symm] at h1
 exact h1
theorem chans_rds {c:Cor} (h:CorR c):Rds rdChans (chansB c) (c.bufs.zip (c.sendq.zip c.recvq)):=by
 have hl:=h.sendq.1
 have hr:=h.recvq.1
 have hz:(c.sendq.zip c.recvq).length=c.bufs.length:=by simp;omega
 have h1:Rds rdChans (shortB (c.bufs.zip (c.sendq.zip c.recvq)).length++(c.bufs.zip (c.sendq.zip c.recvq)).flatMap chanW) (c.bufs.zip (c.sendq.zip c.recvq)):=counted_rds (by have:=h.bufs.1;simp;omega) (by omega) (fun x hx=>by
  have h1:=List.of_mem_zip hx
  have h2:=List.of_mem_zip h1.2
  exact chan_rds (h.bufs.2 _ h1.1).1 (h.bufs.2 _ h1.1).2 (h.sendq.2 _ h2.1) (h.recvq.2 _ h2.2)) fun x _=>chanW_ge x
 have e1:(c.bufs.zip (c.sendq.zip c.recvq)).length=c.bufs.length:=by simp;omega
 rw [e1,← zip_flat chanW hz.symm] at h1
 have e2:(List.range c.bufs.length).flatMap (fun i=>chanW (nth c.bufs i,nth (c.sendq.zip c.recvq) i))=(List.range c.bufs.length).flatMap (chanB c):=by
  unfold List.flatMap
  congr 1
  apply List.map_congr_left
  intro i hi
  have hi':i<c.bufs.length:=by simpa using hi
  rw [zip_nth (by omega) (by omega)]
  simp [chanW,chanB,List.append_assoc]
 rw [e2] at h1
 exact h1
theorem rds_end {α : Type} {f:List UInt8→RS→RS × α} {w:List UInt8} {x:α} (h:Rds f w x):f w ⟨0,0⟩=(⟨w.length,0⟩,x):=by
 have:=h w 0 [] (by simp)
 simpa using this
theorem endR_end (w:List UInt8):endR w ⟨w.length,0⟩=0:=by simp [endR]
def kindsK (l:List Sec):Bool:=decide (l.length=6) && (List.range l.length).all fun i=>decide ((nth l i).kind=(i:Int)+1)
def noImg:Img:=⟨0,0,noProg,⟨0,[],[],[],[],[],[],[],[],[]⟩⟩
def corOf (now:Int) (t:List Thr) (k:List (Int × List Int)) (w:List (List Int)) (s:List (Int × List Int)) (ch:List (List Int × List Int × List Int)):Cor:=
 ⟨now,t,k.map (·.1),s.map (·.1),ch.map (·.1),k.map (·.2),w,s.map (·.2),ch.map (·.2.1),ch.map (·.2.2)⟩
def bd (l:List Sec) (i:Nat):List UInt8:=(nth l i).body
def ofI (l:List Sec):Img × Int:=
 if kindsK l=false then (noImg,3) else
 let a:=rdShort (bd l 0) ⟨0,0⟩
 let n:=rdShort (bd l 0) a.1
 if endR (bd l 0) n.1≠0 then (noImg,endR (bd l 0) n.1) else
 let p:=readP (bd l 1)
 if p.2≠0 then (noImg,p.2) else
 let t:=rdThrs (bd l 2) ⟨0,0⟩
 if endR (bd l 2) t.1≠0 then (noImg,endR (bd l 2) t.1) else
 let k:=rdLocks (bd l 3) ⟨0,0⟩
 let w:=rdWaits (bd l 3) k.1
 if endR (bd l 3) w.1≠0 then (noImg,endR (bd l 3) w.1) else
 let s:=rdSemas (bd l 4) ⟨0,0⟩
 if endR (bd l 4) s.1≠0 then (noImg,endR (bd l 4) s.1) else
 let ch:=rdChans (bd l 5) ⟨0,0⟩
 if endR (bd l 5) ch.1≠0 then (noImg,endR (bd l 5) ch.1) else
 if shapeK a.2 p.1 (corOf n.2 t.2 k.2 w.2 s.2 ch.2)=true then (⟨3,a.2,p.1,corOf n.2 t.2 k.2 w.2 s.2 ch.2⟩,0) else (noImg,1)
theorem ofI_write {e:Int} {p:Prog} {c:Cor} (he:In63 e) (hp:mayP p=true) (h:CorR c) (hs:shapeK e p c=true):ofI (sectsB e p c)=(⟨3,e,p,c⟩,0):=by
 have h0:=rds_end (rds_pair (fun (x y:Int)=>(x,y)) (short_rds he.1 he.2) (short_rds h.now.1 h.now.2))
 have h1:=read_write hp
 have h2:=rds_end (thrs_rds h.threads.1 h.threads.2)
 have h3:=rds_end (locks_rds h)
 have h4:=rds_end (semas_rds h)
 have h5:=rds_end (chans_rds h)
 have hk:kindsK (sectsB e p c)=true:=rfl
 have b0:bd (sectsB e p c) 0=shortB e++shortB c.now:=rfl
 have b1:bd (sectsB e p c) 1=writeP p:=rfl
 have b2:bd (sectsB e p c) 2=thrsB c:=rfl
 have b3:bd (sectsB e p c) 3=locksB c:=rfl
 have b4:bd (sectsB e p c) 4=semasB c:=rfl
 have b5:bd (sectsB e p c) 5=chansB c:=rfl
 simp only [Prod.mk.injEq] at h0 h3
 obtain⟨x1,x2,x3⟩:=h0
 obtain⟨y1,y2,y3⟩:=h3
 have hc:corOf c.now c.threads (c.owners.zip c.lockq) c.waitq (c.counts.zip c.downq) (c.bufs.zip (c.sendq.zip c.recvq))=c:=by
  have e1:(c.sendq.zip c.recvq).length=c.bufs.length:=by have:=h.sendq.1;have:=h.recvq.1;simp;omega
  unfold corOf
  have m1:(c.bufs.zip (c.sendq.zip c.recvq)).map (·.2.1)=c.sendq:=by
   rw [show (fun x:List Int × List Int × List Int=>x.2.1)=(fun y:List Int × List Int=>y.1) ∘ (fun x=>x.2) from rfl,← List.map_map,zip_r e1.symm,zip_l (by rw [h.sendq.1,h.recvq.1])]
  have m2:(c.bufs.zip (c.sendq.zip c.recvq)).map (·.2.2)=c.recvq:=by
   rw [show (fun x:List Int × List Int × List Int=>x.2.2)=(fun y:List Int × List Int=>y.2) ∘ (fun x=>x.2) from rfl,← List.map_map,zip_r e1.symm,zip_r (by rw [h.sendq.1,h.recvq.1])]
  rw [m1,m2,zip_l h.lockq.1.symm,zip_r h.lockq.1.symm,zip_l h.downq.1.symm,zip_r h.downq.1.symm,zip_l e1.symm]
 unfold ofI
 rw [b0,b1,b2,b3,b4,b5,hk]
 have h2':rdThrs (thrsB c) ⟨0,0⟩=(⟨(thrsB c).length,0⟩,c.threads):=h2
 simp only [x1,x2,x3,y1,y2,y3,h1,h2',h4,h5,endR_end,hc,hs,ne_eq,not_true_eq_false,if_false,if_true,Bool.true_eq_false]
theorem kept_in {l:List Int} (h:keptK l=true):∀ x∈l,In62 x:=fun x hx=>by have:=betC_in h x hx;unfold In62;omega
theorem keep62 {n:Int} (h:n=keep n):In62 n:=by
 unfold keep at h
 unfold In62
 split at h
 ·omega
 ·split at h<;>omega
theorem thrK_r {p:Prog} (hp:MayP p) {t:Thr} (h:thrK p t=true):ThrR t:=by
 unfold thrK at h
 split at h
 ·cases h
 rename_i h0
 split at h
 ·cases h
 rename_i h1
 clear h
 simp only [thrK0,Bool.or_eq_true,decide_eq_true_eq,not_or,Bool.not_eq_true',Bool.not_eq_false,decide_eq_false_iff_not,Decidable.not_not] at h0
 obtain⟨⟨⟨⟨⟨⟨⟨a1,a2⟩,a3⟩,a4⟩,a5⟩,a6⟩,a7⟩,a8⟩:=h0
 rw [Bool.not_eq_false,List.all_eq_true] at h1
 refine⟨⟨by omega,by omega⟩,keep62 a8,⟨by omega,by omega⟩,by omega,fun f hf=>?_,by omega,kept_in a7⟩
 have:=h1 f hf
 unfold frmK at this
 split at this
 ·cases this
 rename_i h2
 simp only [Bool.and_eq_true,decide_eq_true_eq] at this
 obtain⟨b1,b2,b3,b4⟩:=this
 have h3:=hp.code _ (nth_mem (l:=p.funcs) (k:=f.func.toNat) (by omega))
 have h4:=hp.funcs.2
 exact⟨⟨by omega,by omega⟩,⟨by omega,by omega⟩,by omega,kept_in b4⟩
theorem rowsK_r {L:List (List Int)} {n t:Int} (ht:t≤1000) (h:rowsK L n t=true):(L.length:Int)=n∧∀ l∈L,RowR' l:=by
 refine⟨(rowsK_b h).1,fun l hl=>⟨(rowsK_b h).2 l hl,fun x hx=>?_⟩⟩
 unfold rowsK at h
 split at h
 ·have:=List.all_eq_true.1 h l hl
  unfold rowK at this
  simp only [Bool.and_eq_true] at this
  have h1:=betC_in this.1 x hx
  exact⟨h1.1,by omega⟩
 ·cases h
theorem shapeK_r {e:Int} {p:Prog} {c:Cor} (hp:MayP p) (h:shapeK e p c=true):CorR c∧In63 e:=by
 unfold shapeK at h
 split at h
 ·cases h
 rename_i h0
 split at h
 ·cases h
 rename_i ht
 simp only [Bool.and_eq_true,decide_eq_true_eq] at h
 obtain⟨h1,h2,h3,h4,h5,h6,h7,h8⟩:=h
 simp only [shapeK0,Bool.or_eq_true,decide_eq_true_eq,not_or] at h0
 obtain⟨⟨⟨⟨⟨a1,a2⟩,a3⟩,a4⟩,a5⟩,a6⟩:=h0
 have hth:=hp.threads.2
 have hm:=hp.mutexes
 have hcn:=hp.conds.1
 have hse:=hp.semas.1
 have hch:=hp.chans
 rw [Bool.not_eq_false,List.all_eq_true] at ht
 obtain⟨l1,l2⟩:=rowsK_r (by omega) h3
 obtain⟨w1,w2⟩:=rowsK_r (by omega) h4
 obtain⟨d1,d2⟩:=rowsK_r (by omega) h5
 unfold chansK at h8
 split at h8
 rotate_left
 ·cases h8
 rename_i hc
 obtain⟨c1,c2,c3⟩:=hc
 obtain⟨r1,r2⟩:=rowsK_r (by omega) c3
 have hk:∀ i,i<p.chans.length→chK0 p c i=false∧(List.range ((nth c.sendq i).length / 2)).all (sendK c.threads.length (nth c.sendq i))=true:=fun i hi=>by
  have:=List.all_eq_true.1 h8 i (by simpa using hi)
  unfold chK at this
  split at this
  ·cases this
  ·rename_i hh;exact⟨by simpa using hh,this⟩
 have hbs:∀ i,i<p.chans.length→((nth c.bufs i).length≤8∧∀ x∈nth c.bufs i,In62 x)∧SendR (nth c.sendq i):=fun i hi=>by
  obtain⟨h1,h2⟩:=hk i hi
  unfold chK0 at h1
  simp only [Bool.or_eq_false_iff,Bool.not_eq_false',decide_eq_false_iff_not,decide_eq_true_eq] at h1
  obtain⟨⟨⟨q1,q2⟩,q3⟩,q4⟩:=h1
  have h3:=hch.2 _ (nth_mem hi)
  refine⟨⟨by omega,fun x hx=>by have:=betC_in q1 x hx;unfold In62;omega⟩,⟨by omega,by omega⟩,fun k hk=>?_⟩
  have:=List.all_eq_true.1 h2 k (by simpa using hk)
  unfold sendK at this
  simp only [Bool.not_eq_true',Bool.or_eq_false_iff,decide_eq_false_iff_not,Bool.not_eq_false',decide_eq_true_eq] at this
  exact⟨⟨by omega,by omega⟩,keep62 this.2⟩
 refine⟨⟨⟨by omega,by omega⟩,⟨by omega,fun t h=>thrK_r hp (ht t h)⟩,⟨by omega,fun x hx=>by have:=betC_in h1 x hx;unfold In62;omega⟩,⟨by omega,l2⟩,⟨by omega,w2⟩,⟨by omega,fun x hx=>by have:=betC_in h2 x hx;unfold In63;omega⟩,⟨by omega,d2⟩,⟨by omega,fun l hl=>?_⟩,⟨by omega,fun l hl=>?_⟩,⟨by omega,r2⟩⟩,by omega,by omega⟩
 ·obtain⟨i,hi,rfl⟩:=List.getElem_of_mem hl
  have:=(hbs i (by omega)).1
  rw [nth_eq hi] at this;exact this
 ·obtain⟨i,hi,rfl⟩:=List.getElem_of_mem hl
  have:=(hbs i (by omega)).2
  rw [nth_eq hi] at this;exact this
theorem RowR'.w {l:List Int} (h:RowR' l):RowW l:=⟨by have:=h.1;omega,fun k hk=>(h.2 _ (nth_mem hk)).2⟩
theorem CorR.w {c:Cor} (h:CorR c):WrC c where
 threads:=by have:=h.threads.1;omega
 thr t ht:=by
  obtain⟨a,b,d,e,f,g,i⟩:=h.threads.2 t ht
  exact⟨a.2,d.2,e,by omega,fun x hx=>by obtain⟨x1,x2,x3,x4⟩:=f x hx;exact⟨x1.2,x2.2,x3⟩⟩
 owners:=by have:=h.owners.1;omega
 lockn:=by have:=h.lockq.1;omega
 lockq l hl:=(h.lockq.2 l hl).w
 waitn:=by have:=h.waitq.1;omega
 waitq l hl:=(h.waitq.2 l hl).w
 counts:=⟨by have:=h.counts.1;omega,fun k hk=>(h.counts.2 _ (nth_mem hk)).2⟩
 downn:=by have:=h.downq.1;omega
 downq l hl:=(h.downq.2 l hl).w
 bufn:=by have:=h.bufs.1;omega
 bufs l hl:=by have:=(h.bufs.2 l hl).1;omega
 sendn:=by have:=h.sendq.1;omega
 sendq l hl:=by
  obtain⟨⟨a,b⟩,d⟩:=h.sendq.2 l hl
  refine⟨⟨by omega,fun k hk=>?_⟩,b⟩
  have:=d (k / 2) (by omega)
  unfold In63 In62 at this
  by_cases e:k % 2=0
  ·rw [show 2*(k / 2)=k by omega] at this;omega
  ·rw [show 2*(k / 2)+1=k by omega] at this;omega
 recvn:=by have:=h.recvq.1;omega
 recvq l hl:=(h.recvq.2 l hl).w
end Go.Hb
end
section
namespace Go.Hb
open Go Go.RowKit
section
variable {P:Program} {r:Option Nat} {N:Nat} {own:Bool}
theorem aL_pre {ops:Array Oper} {Q:Exit→St→Prop} {K:St→Prop} (B:Nat) (C0:Ctx) (h4:rOk C0.n r) (rest:List Oper):∀ (l:List Oper) (k:Nat) (C:Ctx) (a:Act) (st:St),C0.le C→ops.toList.drop k=l++rest→Ok C st.s→C.τ = st.v→RelS C N B st.t a→aL P N ops own l K st→
   (∀ C' a' st',C0.le C'→Ok C' st'.s→C'.τ = st'.v→RelS C' N B st'.t a'→K st'→ops.toList.drop (k+l.length)=rest→wpOpsIn (Fr C0 r) 0 P ops (Lift C0 N B Q) (List.range' (k+l.length) rest.length) a' C'.w)→
   wpOpsIn (Fr C0 r) 0 P ops (Lift C0 N B Q) (List.range' k (l++rest).length) a C.w:=by
 intro l
 induction l with
 | nil=>intro k C a st hle hd h1 h2 h3 h hk;exact hk C a st hle h1 h2 h3 h (by simpa using hd)
 | cons o l ih=>
  intro k C a st hle hl h1 h2 h3 h hk
  have ho:ops[k]? = some o:=by
   have:ops.toList[k]? = some o:=by
    have:=congrArg (fun l=>l[0]?) hl
    simpa using this
   simpa using this
  have hrest:ops.toList.drop (k+1)=l++rest:=by
   have:=congrArg List.tail hl
   simpa using this
  rw [show List.range' k (o :: l++rest).length=k :: List.range' (k+1) (l++rest).length from by simp [List.range'_succ],wpOpsIn_cons]
  have hs:=aOper_sound (r:=r) (Lift C0 N B Q) ho h B C a h1 h2 h3 (rOk.mono hle h4)
  rw [Fr.eq hle h4] at hs
  refine wpOpIn_mono ?_ hs
  rintro a' w' ⟨C',st',rfl,k2,k3,k4,k5,k6⟩
  refine ih (k+1) C' a' st' (hle.trans k2) hrest k3 k4 k5 k6 fun C2 a2 st2 m1 m2 m3 m4 m5 m6=>?_
  have:=hk C2 a2 st2 m1 m2 m3 m4 m5 (by simpa [Nat.add_assoc,Nat.add_comm 1] using m6)
  simpa [Nat.add_assoc,Nat.add_comm 1] using this
theorem wpOp_val {ops:Array Oper} {C0:Ctx} {Q':Exit→Act→World→Prop} {i:Nat} {o:Oper} {a:Act} {w w':World} {u:Value} {R:Act→World→Prop} (ho:ops[i]? = some o) (hg:o.guard=none) (hd:∀ c,o.op≠.defer c)
  (hx:(execOp a.eval o).run P w = .ok (.value u) w') (h:R (a.put o.dst u) w'):wpOpIn (Fr C0 r) 0 P ops Q' i R a w:=by
 unfold wpOpIn
 simp only [ho]
 rw [if_pos (by simp [Region.wanted,hg])]
 refine⟨fun _ _=>trivial,?_⟩
 rw [Oper.semAt_eq _ _ _ hd,hx]
 exact h
def Ctx.frz (C:Ctx) (b n:Nat):Ctx:={C with w:=C.w.freeze ⟨b,n,none⟩ 1 }
theorem frz_other (w:World) (b n k:Nat) (h:k≠b):(w.freeze ⟨b,n,none⟩ 1).heap[k]? = w.heap[k]?:=by
 simp [World.freeze,Array.getElem?_modify,Ne.symm h]
theorem frz_size (w:World) (b n:Nat):(w.freeze ⟨b,n,none⟩ 1).heap.size=w.heap.size:=by simp [World.freeze]
theorem frz_cell (w:World) (b n:Nat) (a:Addr):(w.freeze ⟨b,n,none⟩ 1).cell? a=w.cell? a:=by
 unfold World.cell? World.freeze
 simp only [Nat.succ_ne_zero,if_false,Array.getElem?_modify]
 by_cases h:b=a.block
 ·subst h
  cases hw:w.heap[a.block]? with
  | none=>simp
  | some o=>cases o<;>simp
 ·simp [h]
theorem frz_bs (w:World) (b n k:Nat):bs (w.freeze ⟨b,n,none⟩ 1) k=bs w k:=by
 unfold bs World.freeze
 simp only [Nat.succ_ne_zero,if_false,Array.getElem?_modify]
 by_cases h:b=k
 ·subst h
  cases hw:w.heap[b]? with
  | none=>simp
  | some o=>cases o<;>simp
 ·simp [h]
theorem le_frz {C C1:Ctx} (h:C.le C1) {b n:Nat} (hb:¬ C.kept b):C.le (C1.frz b n) where
 os:=h.os
 tape:=h.tape
 output:=h.output
 size:=by show _≤(C1.w.freeze ⟨b,n,none⟩ 1).heap.size;rw [frz_size];exact h.size
 kept:=h.kept
 keep k hk:=by
  show (C1.w.freeze ⟨b,n,none⟩ 1).heap[k]? = _
  rw [frz_other _ _ _ _ (by rintro rfl;exact hb hk)];exact h.keep k hk
 lim:=h.lim
 cell k o ho:=by show (C1.w.freeze ⟨b,n,none⟩ 1).cell? _=_;rw [frz_cell];exact h.cell k o ho
 ρ:=h.ρ
 n:=h.n
 τ:=h.τ
 room k:=by show _≤bs (C1.w.freeze ⟨b,n,none⟩ 1) k;rw [frz_bs];exact h.room k
 drawn:=h.drawn
theorem wle_frz {C1:Ctx} {b n:Nat} : C1.wle (C1.frz b n):=⟨fun _=>Nat.le_refl _,fun k o _=>frz_cell _ _ _ _,fun _ _=>rfl,Nat.le_refl _,fun _ e h=>⟨e,h,Nat.le_refl _,fun _=>rfl⟩,fun k=>by show _≤bs (C1.w.freeze ⟨b,n,none⟩ 1) k;rw [frz_bs];exact Nat.le_refl _⟩
theorem ok_frz {C1:Ctx} {s:List AObj} (h:Ok C1 s) {b n:Nat} (hb1:∀ i,i<C1.n→C1.ρ i≠b) (hb2:∀ g,g<C1.τ.length→(C1.θ g).b≠b):Ok (C1.frz b n) s where
 n:=h.n
 obj i o ho:=by
  have hin:i<C1.n:=by rw [h.n];exact(List.getElem?_eq_some_iff.1 ho).1
  exact RelO.wmono wle_frz (frz_other _ _ _ _ (hb1 i hin)) (h.obj i o ho)
 inj:=h.inj
 own i hi:=by
  obtain⟨x,y,z⟩:=h.own i hi
  exact⟨x,y,by show _<(C1.w.freeze ⟨b,n,none⟩ 1).heap.size;rw [frz_size];exact z⟩
 tip g hg:=by
  obtain⟨x,y,vs,T,z,z'⟩:=h.tip g hg
  exact⟨x,y,vs,T,(frz_other _ _ _ _ (hb2 g hg)).trans z,z'⟩
 tipinj:=h.tipinj
 tipown:=h.tipown
 kept k hk:=by show _<(C1.w.freeze ⟨b,n,none⟩ 1).heap.size;rw [frz_size];exact h.kept k hk
 lim k hk:=h.lim k (by have:(C1.w.freeze ⟨b,n,none⟩ 1).heap.size≤k:=hk;rw [frz_size] at this;exact this)
theorem lit_sound {C:Ctx} {s:List AObj} {t e:TypeId} {len:Nat} {parts:List (Nat × LV)} {pv:Array (Nat × Value)} {y:LV} (hok:Ok C s) (h1:parts.map (·.1)=pv.toList.map (·.1)) (h2:RelVs C (parts.map (·.2)) (pv.toList.map (·.2)))
  (hu:P.underlying t=some (.slice e)) (he:P.underlying e=some (.int .u8)) (hl:len≠0) (h:aBuildSlice P t len parts=some y) :
  ∃ (C':Ctx) (u:Value) (w1:World),C.le C'∧Ok C' s∧C'.τ = C.τ∧RelV C' y u∧(Instr.buildSlice t len pv).run P C.w = .ok u w1∧(convert t t u).run P w1 = .ok u C'.w:=by
 unfold aBuildSlice at h
 simp only [hu] at h
 split at h
 ·rename_i n z hn hz
  split at h
  ·rename_i hl0;exact absurd hl0 hl
  ·have hc:z.cellsOk=true∧z.cells.length=n∧len*n≤2 ^ 24∧len*n≠0:=by
    by_cases hc:z.cellsOk=true∧z.cells.length=n∧len*n≤2 ^ 24∧len*n≠0
    ·exact hc
    ·rw [if_neg hc] at h;cases h
   rw [if_pos hc] at h
   obtain⟨hc1,hc2,hc3,hc4⟩:=hc
   simp only [Option.map_eq_some_iff] at h
   obtain⟨out,hf,rfl⟩:=h
   obtain⟨zv,hzr,hzx⟩:=run_zero hz C
   obtain⟨k1,k2⟩:=cellsOk_rel hc1 hzx
   have hzs:zv.cells.size=n:=by rw [← hc2];exact k1.length.symm
   have hrow:RelVs C (zeros z.cells len) ((Array.range (len*n)).map (fun i=>zv.cells[i % zv.cells.size]!)).toList:=by
    rw [← hzs,range_zeros];exact zeros_rel k1 len
   have hone:∀ u∈(Array.range (len*n)).map (fun i=>zv.cells[i % zv.cells.size]!),u.oneCell'=true:=by
    intro u hu
    have hu':=Array.mem_toList_iff.2 hu
    rw [← hzs,range_zeros] at hu'
    simp at hu'
    obtain⟨l',hl',hu'⟩:=hu'
    rw [hl'.2] at hu'
    exact k2 u hu'
   obtain⟨ws,w1,w2,w3⟩:=aFill_sound parts pv.toList _ out _ hrow hone h1 h2 hf
   have hol:=aFill_length _ _ _ hf
   rw [zeros_length,hc2] at hol
   have wl:out.length=ws.size:=w2.length
   have hle:=hok.le_row ws e
   have hok1:=hok.row ws e
   refine⟨(C.row ws e).frz C.w.heap.size ws.size,.slice (some ⟨C.w.heap.size,0,none⟩) len len,(C.row ws e).w,le_frz hle (fun hk=>Nat.lt_irrefl _ (hok.kept _ hk)),ok_frz hok1 (fun i hi=>Nat.ne_of_lt (hok.own i hi).2.2) (fun g hg=>Nat.ne_of_lt (hok.tip_lt hg)),rfl,RelV.wmono wle_frz _ _ ?_,?_,?_⟩
   ·simp only [RelV]
    have hn1:1≤n:=by
     rcases Nat.eq_zero_or_pos n with h | h
     ·subst h;simp at hc4
     ·exact h
    have hlm:len≤maxLen:=by
     have:len*1≤len*n:=Nat.mul_le_mul_left _ hn1
     simp only [maxLen];omega
    refine⟨some ⟨C.w.heap.size,0,none⟩,len,rfl,Nat.le_refl _,hlm,hol,(by intro h;cases h),fun a ha _=>by cases ha;rfl,fun b o hb=>?_,rfl⟩
    cases hb
    refine RelCs.of_row (heap_new _ _) out ws.toList 0 (RelVs.mono hle _ _ w2) (by simpa using w3) (fun j u hj=>by simpa using hj) ?_
    simp [Ctx.row];omega
   ·have hn24:¬ (len*n>2 ^ 24):=by omega
    simp only [Instr.buildSlice,Sem.run_bind,run_underlying hu,Result.andThen_ok,run_sizeOf hn]
    rw [if_neg hn24]
    simp only [pure_bind]
    rw [if_neg hc4]
    simp only [Sem.run_bind,hzr,Result.andThen_ok,Sem.run_pure,w1]
    simp [newRow,Ctx.row]
   ·have hsh:(C.row ws e).w.shape? C.w.heap.size=some (e,ws.size):=by
     unfold World.shape?
     rw [show (C.row ws e).w.heap[C.w.heap.size]? = some (.cells ws e (0,0)) from heap_new _ _]
    simp only [convert,Sem.run_bind,run_underlying hu,Result.andThen_ok,run_underlying he]
    simp [markStringish,hsh,Ctx.frz]
 ·cases h
theorem aW_lit {id:Nat} {ops:Array Oper} {Q:Exit→St→Prop} {st:St} (pre:List Oper) (o o2:Oper) (post:List Oper) {t e:TypeId} {len d d2:Nat} {parts:Array (Nat × Operand)} (hops:ops.toList=pre++o :: o2 :: post)
  (ho:o.op = .buildSlice t len parts) (hd:o.dst=some d) (hg:o.guard=none) (ho2:o2.op = .convert t t (.tmp d)) (hd2:o2.dst=some d2) (hg2:o2.guard=none) (hu:P.underlying t=some (.slice e)) (he:P.underlying e=some (.int .u8)) (hl:len≠0) (hN:d<N) (hN2:d2<N)
  (h:aL P N ops own pre (fun st=>∃ y,aBuildSlice P t len (parts.toList.map fun p=>(p.1,aev st.t p.2))=some y∧aL P N ops own post (Q .normal) ⟨upd d2 y (upd d y st.t),st.s,st.v⟩) st):aW P r N (.region id ops false) Q st:=by
 intro B C a h1 h2 h3 h4
 refine wpIn_region ?_
 have key:=aL_pre (P:=P) (r:=r) (N:=N) (own:=own) (ops:=ops) (Q:=Q) B C h4 (o :: o2 :: post) pre 0 C a st (.refl C) (by simpa using hops) h1 h2 h3 h ?_
 ·rw [List.range_eq_range']
  rw [← hops] at key
  simpa using key
 intro C1 a1 st1 hle k1 k2 k3 ⟨y,hy,hK⟩ hdrop
 have ix:∀ (i:Nat) (x:Oper),(o :: o2 :: post)[i]? = some x→ops[0+pre.length+i]? = some x:=by
  intro i x hx
  have h9:=congrArg (fun l=>l[i]?) hdrop
  simp only [List.getElem?_drop] at h9
  rw [hx] at h9
  simpa using h9
 rw [show List.range' (0+pre.length) (o :: o2 :: post).length=(0+pre.length) :: (0+pre.length+1) :: List.range' (0+pre.length+2) post.length from by simp [List.range'_succ,Nat.add_assoc],wpOpsIn_cons]
 obtain⟨C2,u,w1,m1,m2,m3,m4,m5,m6⟩:=lit_sound (P:=P) (pv:=parts.map fun p=>(p.1,a1.eval p.2)) k1 (by simp [List.map_map]) (by
   have:=relVs_map k3.2.1 (parts.toList.map (·.2))
   rw [List.map_map,List.map_map] at this
   rw [Array.toList_map,List.map_map,List.map_map]
   exact this) hu he hl hy
 refine wpOp_val (u:=u) (w':=w1) (ix 0 o rfl) hg (by rw [ho];intro c hc;cases hc) (by simp [execOp,ho,m5]) ?_
 rw [wpOpsIn_cons,hd]
 have hsz:d<a1.tmps.size:=by rw [k3.1];exact hN
 refine wpOp_val (u:=u) (w':=C2.w) (ix 1 o2 rfl) hg2 (by rw [ho2];intro c hc;cases hc) (by simp [execOp,ho2,Act.put,Act.eval,Array.getD_eq_getD_getElem?,hsz,m6]) ?_
 have hS:=(((k3.mono m1).put (d:=some d) hN m4).put (d:=some d2) hN2 m4)
 rw [hd2]
 exact aL_sound B C h4 post (0+pre.length+2) C2 _ ⟨upd d2 y (upd d y st1.t),st1.s,st1.v⟩ (hle.trans m1) (by
  have h9:=congrArg (List.drop 2) hdrop
  simpa [List.drop_drop] using h9) m2 (m3.trans k2) hS hK
def aSc (P:Program) (r:Option Nat) (N:Nat) (b:Code) (Q:Exit→St→Prop):Exit→St→Prop:=aThen (aW P r N b Q) Q
variable {Q:Exit→St→Prop} {st:St}
@[simp] theorem lSc_normal (b:Code) (tk):go (aSc P r N b Q .normal) tk st=aWh P r N b Q ⟨⟩ st:=rfl
@[simp] theorem lSc_ret (b:Code) (tk):go (aSc P r N b Q .ret) tk st=go (Q .ret) ⟨⟩ st:=rfl
@[simp] theorem lSc_exit (b:Code) (i:Nat) (tk):go (aSc P r N b Q (.exit i)) tk st=go (Q (.exit i)) ⟨⟩ st:=rfl
theorem aWh_cut {a b:Code} (own:Bool) (h:go (aC P r N own a (aSc P r N b Q)) ⟨⟩ st):aWh P r N (.seq a b) Q ⟨⟩ st:=aW_seq (aC_sound _ _ _ h)
theorem aWh_go {c:Code} (own:Bool) (h:go (aC P r N own c Q) ⟨⟩ st):aWh P r N c Q ⟨⟩ st:=aC_sound _ _ _ h
theorem aCalls_cut {f : FuncId} {fn : Func} {c : Code} {args : List LV} {s : List AObj} {v : List Nat} {R : LV → List AObj → List Nat → Prop} (hf : P.funcs[f]? = some fn) (hb : fn.body = some c) (hn : (fn.name == "runtime.NumGoroutine") = false) {N : Nat} (hN : fn.ntmps = N) (hlen : args.length ≤ N)
  (h:aWh P none N c (bodyQ P fn R) ⟨⟩ ⟨initT args,s,v⟩):aCalls P f args s v R:=by subst hN;exact aCalls_of_body hf hb hn hlen h
theorem aWh_lit {id:Nat} {ops:Array Oper} {b:Code} (own:Bool) (o o2:Oper) (post:List Oper) {t e:TypeId} {len d d2:Nat} {parts:Array (Nat × Operand)} {y:LV} (hops:ops.toList=o :: o2 :: post)
  (ho:o.op = .buildSlice t len parts) (hd:o.dst=some d) (hg:o.guard=none) (ho2:o2.op = .convert t t (.tmp d)) (hd2:o2.dst=some d2) (hg2:o2.guard=none) (hu:P.underlying t=some (.slice e)) (he:P.underlying e=some (.int .u8)) (hl:len≠0) (hN:d<N) (hN2:d2<N)
  (hy:aBuildSlice P t len (parts.toList.map fun p=>(p.1,aev st.t p.2))=some y) (h:go (aL P N ops own post (aSc P r N b Q .normal)) ⟨⟩ ⟨upd d2 y (upd d y st.t),st.s,st.v⟩):aWh P r N (.seq (.region id ops false) b) Q ⟨⟩ st:=
 aW_seq (aW_lit (own:=own) [] o o2 post hops ho hd hg ho2 hd2 hg2 hu he hl hN hN2 ⟨y,hy,h⟩)
def aSk (P:Program) (r:Option Nat) (N:Nat) (b:Code) (I:St→Prop) (Q:Exit→St→Prop):Exit→St→Prop:=aThen I Q
@[simp] theorem lSk_ret (b:Code) (I:St→Prop) (tk):go (aSk P r N b I Q .ret) tk st=go (Q .ret) ⟨⟩ st:=rfl
@[simp] theorem lSk_exit (b:Code) (I:St→Prop) (i:Nat) (tk):go (aSk P r N b I Q (.exit i)) tk st=go (Q (.exit i)) ⟨⟩ st:=rfl
end
end Go.Hb
end
section
namespace Go.Hb
open Go
theorem range_all' {n:Nat} {f:Nat→Bool} : ((List.range n).all f=true) = ∀ k,k<n→f k=true:=by simp
theorem betC_t {l:List Int} {a b:Int} (h:∀ x∈l,a≤x∧x≤b):betC l a b=true:=by
 unfold betC
 rw [List.all_eq_true]
 intro x hx
 have:=h x hx
 simp;omega
theorem keep_fix {n:Int} (h : -1073741824≤n∧n≤1073741824):n=keep n:=by
 unfold keep
 rw [if_neg (by omega),if_neg (by omega)]
theorem thrK_of {p:Prog} (hp:MayP p) {now:Int} (hn:0≤now) {t:Thr} (h:ThrI p t) (h1:OneI p now t):thrK p t=true:=by
 have hs:=h.st
 have hon : -1073741824≤t.on∧t.on≤1073741824:=by
  by_cases a:t.state=0∨t.state=9
  ·have:=h1.rest a;omega
  by_cases b:t.state=1
  ·have:=h1.sleep b;omega
  by_cases c:t.state=2
  ·have:=h1.join c;omega
  by_cases d:t.state=8
  ·have:=h1.choice d;have:=hp.choices.1;omega
  ·have:=h1.on (by omega) (by omega)
   have hr:nRows p t.state≤8:=by
    unfold nRows
    have:=hp.mutexes;have:=hp.conds.1;have:=hp.semas.1;have:=hp.chans.1
    split
    ·omega
    ·split
     ·omega
     ·split
      ·omega
      ·split<;>omega
   omega
 have h0:thrK0 t=false:=by
  have e1:=h.code
  have e2:=h.fr
  have e3:=h.sk
  have e4:keptK t.stack=true:=betC_t h.sks
  have e5:=keep_fix hon
  unfold thrK0
  rw [e4,← e5]
  simp;omega
 have hf:t.frames.all (frmK p)=true:=by
  rw [List.all_eq_true]
  intro f hf
  obtain⟨a1,a2,a3,a4⟩:=h.frs f hf
  unfold frmK
  have e4:keptK f.locals=true:=betC_t a4
  rw [if_neg (by omega),e4]
  unfold at' at a2 a3
  simp;omega
 unfold thrK
 rw [h0,hf]
 simp only [Bool.false_eq_true,if_false,Bool.true_eq_false]
 by_cases h9:t.state=9
 ·obtain⟨q1,q2⟩:=h.over h9
  rw [if_pos h9,q1,q2];rfl
 ·obtain⟨q1,q2⟩:=h.live h9
  have:t.frames.length≠0:=fun e=>q1 (List.length_eq_zero_iff.1 e)
  rw [if_neg h9,q2]
  simp;omega
theorem Inv.rowsK {p:Prog} {c:Cor} (h:Inv p (-1) noD c) (hp:MayP p) {L:List (List Int)} {r:Int} (hL:∀ k,nth L k=rowOf c r k) (hn:L.length=nRows p r) {n:Int} (h8:(L.length:Int)=n):rowsK L n c.threads.length=true:=by
 unfold Hb.rowsK
 rw [if_pos h8]
 refine allN_t fun k hk=>?_
 rw [hL]
 have h1:=h.cnt_le (r:=r) (k:=k) (by omega)
 have:=h.nthr.2
 have:=hp.threads.2
 unfold rowK
 rw [betC_t fun x hx=>?_]
 ·simp;omega
 ·have:=h.mem r k x hx;omega
theorem evens_mem:∀ (l:List Int) {i:Nat},2*i+1<l.length→nth l (2*i)∈evens l
 | [],_,h=>by simp at h
 | [_],_,h=>by simp at h
 | a :: b :: l,0,_=>by simp [evens,nth]
 | a :: b :: l,i+1,h=>by
  have ih:=evens_mem l (i:=i) (by simp only [List.length_cons] at h;omega)
  rw [show 2*(i+1)=2*i+1+1 by omega]
  show nth l (2*i)∈a :: evens l
  exact List.mem_cons_of_mem _ ih
theorem Inv.shape {p:Prog} {c:Cor} (h:Inv p (-1) noD c) (hp:MayP p) {e:Int} (he:0≤e∧e≤1073741824):shapeK e p c=true:=by
 have hnw:=h.now
 have hnt:=h.nthr
 have hth:=hp.threads.2
 have hl:=h.len
 have hm:=hp.mutexes
 have g0:shapeK0 e p c=false:=by unfold shapeK0;simp only [Bool.or_eq_false_iff,decide_eq_false_iff_not];omega
 have g1:c.threads.all (thrK p)=true:=allN_t fun k hk=>thrK_of hp hnw.1 (h.thr k hk) (h.one k hk (by omega))
 have g2:betC c.owners (-1) (c.threads.length - 1)=true:=betC_t fun x hx=>by
  obtain⟨i,hi,rfl⟩:=List.getElem_of_mem hx
  have:=h.things.owners i hi
  rw [nth_eq hi] at this;omega
 have g3:betC c.counts 0 1073741824=true:=betC_t fun x hx=>by
  obtain⟨i,hi,rfl⟩:=List.getElem_of_mem hx
  have:=h.things.counts i hi
  rw [nth_eq hi] at this;omega
 have g4:=h.rowsK hp (r:=3) (L:=c.lockq) (n:=p.mutexes) (fun k=>by simp [rowOf]) (by simp [nRows,hl.lockq]) (by rw [hl.lockq];omega)
 have g5:=h.rowsK hp (r:=4) (L:=c.waitq) (n:=p.conds.length) (fun k=>by simp [rowOf]) (by simp [nRows,hl.waitq]) (by rw [hl.waitq])
 have g6:=h.rowsK hp (r:=5) (L:=c.downq) (n:=p.semas.length) (fun k=>by simp [rowOf]) (by simp [nRows,hl.downq]) (by rw [hl.downq])
 have g7:=h.rowsK hp (r:=7) (L:=c.recvq) (n:=p.chans.length) (fun k=>by simp [rowOf]) (by simp [nRows,hl.recvq]) (by rw [hl.recvq])
 have g8:chansK p c=true:=by
  unfold chansK
  rw [if_pos ⟨hl.bufs,hl.sendq,g7⟩,range_all']
  intro k hk
  have hc:=h.things.chan k hk
  have hch:=hp.chans.2 _ (nth_mem hk)
  have e4:=evens_len hc.even
  have e5:=h.cnt_le (r:=6) (k:=k) (by simp [nRows];omega)
  simp [rowOf] at e5
  have k0:chK0 p c k=false:=by
   unfold chK0
   rw [betC_t hc.bk]
   have:=hc.room
   have:=hc.even
   simp;omega
  unfold chK
  rw [k0,if_neg (by simp),range_all']
  intro j hj
  have q1:=hc.sk j (by omega)
  have q2:=h.mem 6 k (nth (nth c.sendq k) (2*j)) (by simp only [rowOf];exact evens_mem _ (by omega))
  rw [show j*2+1=2*j+1 by omega] at q1
  have q3:=keep_fix q1
  unfold sendK
  rw [← q3]
  simp;omega
 unfold shapeK
 rw [g0,g1,g2,g3,g4,g5,g6,g8]
 simp [hl.owners,hl.counts];omega
end Go.Hb
end
section
namespace Go.Hb
open Go
theorem rds_inj {α : Type} {f:List UInt8→RS→RS × α} {w w':List UInt8} {x x':α} (h:Rds f w x) (h':Rds f w' x') {r r':List UInt8} (e:w++r=w'++r'):x=x'∧r=r':=by
 have h1:=h (w++r) 0 r rfl
 have h2:=h' (w++r) 0 r' e
 rw [h1] at h2
 simp only [Prod.mk.injEq,RS.mk.injEq] at h2
 exact⟨h2.2,(List.append_inj e (by omega)).2⟩
theorem heads_inj:∀ (l l':List Sec) (r r':List UInt8),l.length=l'.length→(∀ s∈l,s.body.length≤1000000)→(∀ s∈l',s.body.length≤1000000)→l.flatMap secH++r=l'.flatMap secH++r'→l.map (fun s=>s.body.length)=l'.map (fun s=>s.body.length)∧r=r'
 | [],[],_,_,_,_,_,e=>⟨rfl,e⟩
 | [],_ :: _,_,_,h,_,_,_=>by simp at h
 | _ :: _,[],_,_,h,_,_,_=>by simp at h
 | s :: l,s' :: l',r,r',h,h1,h2,e=>by
  simp only [List.flatMap_cons,secH,List.cons_append,List.append_assoc,List.cons.injEq] at e
  have b1:=h1 s (by simp)
  have b2:=h2 s' (by simp)
  obtain⟨e1,e2⟩:=rds_inj (short_rds (v:=(s.body.length:Int)) (by omega) (by omega)) (short_rds (v:=(s'.body.length:Int)) (by omega) (by omega)) e.2
  obtain⟨e3,e4⟩:=heads_inj l l' r r' (by simpa using h) (fun x hx=>h1 x (by simp [hx])) (fun x hx=>h2 x (by simp [hx])) e2
  exact⟨by simp only [List.map_cons,e3];rw [show s.body.length=s'.body.length by omega],e4⟩
theorem seal_inj {a b:List UInt8} (h:sealB a=sealB b):a=b:=by
 have hl:=congrArg List.length h
 rw [sealB_len,sealB_len] at hl
 exact(List.append_inj h (by omega)).1
theorem bodies_inj:∀ (l l':List Sec),l.map (fun s=>s.body.length)=l'.map (fun s=>s.body.length)→(l.flatMap fun s=>sealB s.body)=(l'.flatMap fun s=>sealB s.body)→l.map (fun s=>s.body)=l'.map (fun s=>s.body)
 | [],[],_,_=>rfl
 | [],_ :: _,h,_=>by simp at h
 | _ :: _,[],h,_=>by simp at h
 | s :: l,s' :: l',h,e=>by
  simp only [List.map_cons,List.cons.injEq] at h
  simp only [List.flatMap_cons] at e
  obtain⟨e1,e2⟩:=List.append_inj e (by rw [sealB_len,sealB_len,h.1])
  have e3:=bodies_inj l l' h.2 e2
  simp only [List.map_cons,e3,seal_inj e1]
theorem file_inj {v:Int} {l l':List Sec} (hl:l.length=l'.length) (hk:l.map (fun s=>s.kind)=l'.map (fun s=>s.kind)) (h1:∀ s∈l,s.body.length≤1000000) (h2:∀ s∈l',s.body.length≤1000000) (e:fileB v l=fileB v l'):l=l':=by
 have e1:=seal_inj e
 unfold headB at e1
 rw [hl] at e1
 simp only [List.append_assoc] at e1
 have e2:=List.append_cancel_left (List.append_cancel_left e1)
 obtain⟨e3,e4⟩:=heads_inj l l' _ _ hl h1 h2 e2
 have e5:=bodies_inj l l' e3 e4
 refine List.ext_getElem hl fun i i1 i2=>?_
 have k1:=congrArg (fun q=>q[i]?) hk
 have k2:=congrArg (fun q=>q[i]?) e5
 simp [i1,i2] at k1 k2
 cases hx:l[i];cases hy:l'[i]
 rw [hx,hy] at k1 k2
 simp only at k1 k2
 rw [k1,k2]
theorem img_file {e e':Int} {p:Prog} {c c':Cor} (hm:mayP p=true) (hw:(writeP p).length≤500000) (hs:shapeK e p c=true) (hs':shapeK e' p c'=true):(fileB 3 (sectsB e p c)=fileB 3 (sectsB e' p c'))↔(⟨3,e,p,c⟩:Img)=⟨3,e',p,c'⟩:=by
 have hp:=mayP_iff hm
 obtain⟨hc,he⟩:=shapeK_r hp hs
 obtain⟨hc',he'⟩:=shapeK_r hp hs'
 constructor
 ·intro e1
  have e2:sectsB e p c=sectsB e' p c':=file_inj rfl rfl (fun s h=>by have:=sectsB_le hc.w he.2 hc.now.2 hw s h;omega) (fun s h=>by have:=sectsB_le hc'.w he'.2 hc'.now.2 hw s h;omega) e1
  have k1:=ofI_write he hm hc hs
  have k2:=ofI_write he' hm hc' hs'
  rw [e2,k2] at k1
  exact(congrArg Prod.fst k1).symm
 ·intro e1
  simp only [Img.mk.injEq,true_and] at e1
  rw [e1.1,e1.2]
end Go.Hb
end
