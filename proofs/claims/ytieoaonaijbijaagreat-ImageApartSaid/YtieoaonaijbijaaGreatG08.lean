/-
  A layer for reasoning about the program's calls, and contracts of its functions. CONDITIONS: none; each theorem bears its own.
-/
import Derived.Test.YtieoaonaijbijaaGreatG06
import Derived.Test.YtieoaonaijbijaaGreatG07
set_option linter.unusedVariables false
set_option linter.unusedSimpArgs false
section
namespace Go.Hb
open Go
def Rds {α : Type} (f:List UInt8→RS→RS × α) (w:List UInt8) (a:α):Prop:=∀ b at_ post,b.drop at_=w++post→f b ⟨at_,0⟩=(⟨at_+w.length,0⟩,a)
theorem drop_next {b w post:List UInt8} {a:Nat} (h:b.drop a=w++post):b.drop (a+w.length)=post:=by
 rw [← List.drop_drop,h,List.drop_left]
theorem shortN_lt {n:Nat} (h:n≤9223372036854775807):(shortN n).length≤9:=by
 have e:(128:Nat) ^ 9=9223372036854775808:=by decide
 exact shortN_len 9 n (by omega) (by omega)
theorem sc_short {b post:List UInt8} {a n:Nat} (hn:n≤9223372036854775807) (h:b.drop a=shortN n++post):sc b ⟨a,0⟩=(n,(shortN n).length,0):=by
 unfold sc
 rw [h,scan_short n post 0 0 (by have:=shortN_lt hn;omega) (by omega)]
 simp
theorem short_rds {v:Int} (h0:0≤v) (h1:v≤9223372036854775807):Rds rdShort (shortB v) v:=fun b a post h=>by
 obtain⟨n,rfl⟩:∃ n:Nat,v=n:=⟨v.toNat,by omega⟩
 have e:shortB (n:Int)=shortN n:=by simp [shortB]
 rw [e] at h ⊢
 rw [rdShort_yes (sc_short (by omega) h)]
theorem signedB_in {v:Int} (h0 : -2305843009213693952≤v) (h1:v≤2305843009213693951):signedB v=if v<0 then shortB (2*(-(v+1))+1) else shortB (2*v):=by
 simp only [signedB,if_neg (by omega:¬ v < -2305843009213693952),if_neg (by omega:¬ 2305843009213693951<v)]
theorem signed_rds {v:Int} (h0 : -2305843009213693952≤v) (h1:v≤2305843009213693951):Rds rdSigned (signedB v) v:=fun b a post h=>by
 rw [signedB_in h0 h1] at h ⊢
 by_cases hv:v<0
 ·rw [if_pos hv] at h ⊢
  obtain⟨n,hn⟩:∃ n:Nat,2*(-(v+1))+1=(n:Int):=⟨(2*(-(v+1))+1).toNat,by omega⟩
  have e:shortB (n:Int)=shortN n:=by simp [shortB]
  rw [hn,e] at h ⊢
  rw [rdSigned_odd (sc_short (by omega) h) (by omega) (by omega)]
  congr 1
  omega
 ·rw [if_neg hv] at h ⊢
  obtain⟨n,hn⟩:∃ n:Nat,2*v=(n:Int):=⟨(2*v).toNat,by omega⟩
  have e:shortB (n:Int)=shortN n:=by simp [shortB]
  rw [hn,e] at h ⊢
  rw [rdSigned_even (sc_short (by omega) h) (by omega) (by omega)]
  congr 1
  omega
theorem drop_cons_facts {b post:List UInt8} {a:Nat} {c:UInt8} (h:b.drop a=c :: post):a<b.length∧nth b a=c:=by
 have hl:a<b.length:=by
  have:=congrArg List.length h
  simp at this;omega
 refine⟨hl,?_⟩
 rw [drop_nth hl] at h
 exact(List.cons.inj h).1
theorem byte_rds (c:UInt8):Rds rdByte [c] c.toNat:=fun b a post h=>by
 obtain⟨h1,h2⟩:=drop_cons_facts (c:=c) (post:=post) (by simpa using h)
 rw [rdByte_yes h1,h2];rfl
theorem list_rds {b post:List UInt8} {a n most:Nat} (hn:n≤most) (hm:most≤1000) (hp:n≤post.length) (h:b.drop a=shortB (n:Int)++post):rdList b most ⟨a,0⟩=(⟨a+(shortB (n:Int)).length,0⟩,n):=by
 have e:shortB (n:Int)=shortN n:=by simp [shortB]
 rw [e] at h ⊢
 have hl:=congrArg List.length h
 simp only [List.length_drop,List.length_append] at hl
 have hpos:0<(shortN n).length:=by rw [shortN];split<;>simp
 rw [rdList_yes (sc_short (by omega) h) (by omega) (by omega)]
theorem many_rds {α : Type} [Enc α] {f:List UInt8→RS→RS × α} {w:α→List UInt8} {l:List α} (hf:∀ x∈l,Rds f (w x) x) {b post:List UInt8} {a:Nat} (h:b.drop a=l.flatMap w++post) :
  ∀ n,n≤l.length→rdMany (f b) n ⟨a,0⟩=(⟨a+((l.take n).flatMap w).length,0⟩,l.take n)
 | 0,_=>by simp [rdMany]
 | n+1,hn=>by
  have ih:=many_rds hf h n (by omega)
  simp only [rdMany,ih]
  have hsplit:l.flatMap w=(l.take n).flatMap w++(w (nth l n)++(l.drop (n+1)).flatMap w):=by
   have e:=(List.take_append_drop n l).symm
   conv=>lhs;rw [e]
   rw [List.flatMap_append,drop_nth (by omega:n<l.length),List.flatMap_cons]
  rw [hsplit,List.append_assoc,List.append_assoc] at h
  have h2:=drop_next h
  have hm:nth l n∈l:=by rw [nth_eq (by omega)];exact List.getElem_mem _
  rw [hf _ hm b _ _ h2]
  rw [take_succ_nth (by omega:n<l.length),List.flatMap_append]
  simp [Nat.add_assoc]
theorem flat_ge {α : Type} {w:α→List UInt8} : ∀ {l:List α},(∀ x∈l,1≤(w x).length)→l.length≤(l.flatMap w).length
 | [],_=>by simp
 | x :: l,h=>by
  have h1:=h x (by simp)
  have h2:=flat_ge (w:=w) (l:=l) fun y hy=>h y (by simp [hy])
  rw [List.flatMap_cons,List.length_append,List.length_cons];omega
theorem shortB_ge (n:Int):1≤(shortB n).length:=by unfold shortB;rw [shortN];split<;>simp
theorem signedB_ge (n:Int):1≤(signedB n).length:=by
 have:∀ v:Int,1≤(if v<0 then shortB (2*(-(v+1))+1) else shortB (2*v)).length:=fun v=>by split<;>exact shortB_ge _
 exact this _
theorem counted_rds {α : Type} [Enc α] {f:List UInt8→RS→RS × α} {w:α→List UInt8} {l:List α} {most:Nat} (hl:l.length≤most) (hm:most≤1000) (hf:∀ x∈l,Rds f (w x) x) (hw:∀ x∈l,1≤(w x).length) :
  Rds (fun b r=>rdMany (f b) (rdList b most r).2 (rdList b most r).1) (shortB l.length++l.flatMap w) l:=fun b a post h=>by
 rw [List.append_assoc] at h
 have hp:l.length≤(l.flatMap w++post).length:=by have:=flat_ge hw;simp only [List.length_append];omega
 have h1:=list_rds hl hm hp h
 have h2:=many_rds hf (drop_next h) l.length (Nat.le_refl _)
 simp only [h1,h2]
 rw [List.take_length]
 simp [Nat.add_assoc]
theorem nums_rds {l:List Int} (hl:l.length≤8) (h:∀ x∈l,0≤x∧x≤9223372036854775807):Rds rdNums (listB l) l:=
 counted_rds hl (by omega) (fun x hx=>short_rds (h x hx).1 (h x hx).2) fun x _=>shortB_ge x
theorem ins_rds {i:Ins} (h:0≤i.op∧i.op<256) (h1 : -2305843009213693952≤i.a) (h2:i.a≤2305843009213693951):Rds rdIns (insB i) i:=fun b a post hd=>by
 have e:(UInt8.ofInt i.op).toNat=i.op.toNat:=by
  unfold UInt8.ofInt
  simp;omega
 have hd':b.drop a=[UInt8.ofInt i.op]++(signedB i.a++post):=by simpa [insB] using hd
 have h3:=byte_rds (UInt8.ofInt i.op) b a _ hd'
 have h4:=signed_rds h1 h2 b _ _ (drop_next hd')
 unfold rdIns
 rw [h3,h4,e]
 obtain⟨op,ia⟩:=i
 simp only at *
 have e2:((op.toNat:Nat):Int)=op:=by omega
 rw [e2]
 simp [insB];omega
theorem insB_ge (i:Ins):1≤(insB i).length:=by simp [insB]
theorem fn_rds {f:Fn_} (h:0≤f.locals∧f.locals≤8) (hl:f.code.length≤64) (hi:∀ i∈f.code,(0≤i.op∧i.op<256)∧ -2305843009213693952≤i.a∧i.a≤2305843009213693951):Rds rdFn (fnB f) f:=fun b a post hd=>by
 unfold fnB at hd
 rw [List.append_assoc,List.append_assoc] at hd
 have h1:=short_rds h.1 (by omega) b a _ hd
 have hd2:=drop_next hd
 rw [← List.append_assoc] at hd2
 have h2:=counted_rds (f:=rdIns) hl (by omega) (fun x hx=>ins_rds (hi x hx).1 (hi x hx).2.1 (hi x hx).2.2) (fun x _=>insB_ge x) b _ _ hd2
 unfold rdFn
 simp only [h1]
 simp only at h2
 rw [h2]
 simp [fnB];omega
theorem fnB_ge (f:Fn_):1≤(fnB f).length:=by have:=shortB_ge f.locals;simp [fnB];omega
theorem listB_ge (l:List Int):1≤(listB l).length:=by have:=shortB_ge l.length;simp [listB];omega
theorem allTo_in {l:List Int} {to:Int} (h:allTo l to=true) (ht:to≤1000):∀ x∈l,0≤x∧x≤9223372036854775807:=by
 unfold allTo at h
 rw [List.all_eq_true] at h
 intro x hx
 have:=h x hx
 simp only [Bool.and_eq_true,decide_eq_true_eq] at this
 omega
theorem mayI_in {p:Prog} {f:Fn_} {i:Ins} (h:mayI p f i=true) (hm:most p f i.op≤1073741825):(0≤i.op∧i.op<256)∧ -2305843009213693952≤i.a∧i.a≤2305843009213693951:=by
 unfold mayI at h
 simp only [Bool.and_eq_true,decide_eq_true_eq] at h
 obtain⟨⟨r1,r2⟩,r3⟩:=h
 refine⟨⟨r1,by omega⟩,?_⟩
 split at r3
 ·split at r3
  ·rename_i h1;simp at r3;omega
  ·simp at r3;omega
 ·simp at r3;omega
theorem most_le {p:Prog} {f:Fn_} (h:mayP p=true) (hf:f∈p.funcs) (op:Int):most p f op≤1073741825:=by
 unfold mayP at h
 simp only [Bool.and_eq_true,decide_eq_true_eq] at h
 obtain⟨⟨⟨⟨⟨⟨⟨⟨⟨⟨⟨⟨⟨⟨p1,p2⟩,p3⟩,p4⟩,p5⟩,p6⟩,p7⟩,p8⟩,p9⟩,p10⟩,p11⟩,p12⟩,p13⟩,p14⟩,p15⟩:=h
 have:=List.all_eq_true.1 p15 f hf
 unfold mayF at this
 simp only [Bool.and_eq_true,decide_eq_true_eq] at this
 unfold most mostL
 repeat' split
 all_goals omega
theorem read_write {p:Prog} (h:mayP p=true):readP (writeP p)=(p,0):=by
 have hml:=fun f hf=>most_le (p:=p) (f:=f) h hf
 have hmay:=h
 obtain⟨fs,mu,co,se,ch,cho,th⟩:=p
 unfold mayP at h
 simp only [Bool.and_eq_true,decide_eq_true_eq] at h
 obtain⟨⟨⟨⟨⟨⟨⟨⟨⟨⟨⟨⟨⟨⟨p1,p2⟩,p3⟩,p4⟩,p5⟩,p6⟩,p7⟩,p8⟩,p9⟩,p10⟩,p11⟩,p12⟩,p13⟩,p14⟩,p15⟩:=h
 obtain⟨b,hb⟩:∃ b,writeP ⟨fs,mu,co,se,ch,cho,th⟩=b:=⟨_,rfl⟩
 have d0:b.drop 0=(shortB fs.length++fs.flatMap fnB)++(shortB mu++(listB co++(listB se++(listB ch++((shortB cho.length++cho.flatMap listB)++(shortB th++[])))))):=by
  rw [← hb];simp [writeP]
 have f1:=counted_rds (f:=rdFn) (most:=16) (l:=fs) p2 (by omega) (fun f hf=>by
  have:=List.all_eq_true.1 p15 f hf
  unfold mayF at this
  simp only [Bool.and_eq_true,decide_eq_true_eq] at this
  obtain⟨⟨⟨q1,q2⟩,q3⟩,q4⟩:=this
  exact fn_rds ⟨q1,q2⟩ q3 fun i hi=>mayI_in (List.all_eq_true.1 q4 i hi) (hml f hf _)) (fun f _=>fnB_ge f) b 0 _ d0
 have d1:=drop_next d0
 have f2:=short_rds p3 (by omega) b _ _ d1
 have d2:=drop_next d1
 have f3:=nums_rds p5 (allTo_in p11 (by omega)) b _ _ d2
 have d3:=drop_next d2
 have f4:=nums_rds p6 (allTo_in p12 (by omega)) b _ _ d3
 have d4:=drop_next d3
 have f5:=nums_rds p7 (allTo_in p13 (by omega)) b _ _ d4
 have d5:=drop_next d4
 have f6:=counted_rds (f:=rdNums) (most:=8) (l:=cho) p8 (by omega) (fun l hl=>by
  have:=List.all_eq_true.1 p14 l hl
  unfold mayCh at this
  simp only [Bool.and_eq_true,decide_eq_true_eq] at this
  obtain⟨⟨⟨q1,q2⟩,q3⟩,q4⟩:=this
  exact nums_rds q4 (allTo_in q1 (by omega))) (fun l _=>listB_ge l) b _ _ d5
 have d6:=drop_next d5
 have f7:=short_rds (by omega:0≤th) (by omega) b _ _ d6
 have d7:=drop_next d6
 have hlen:b.length≤0+(shortB ↑fs.length++List.flatMap fnB fs).length+(shortB mu).length+(listB co).length+(listB se).length+(listB ch).length+(shortB ↑cho.length++List.flatMap listB cho).length+(shortB th).length:=by
  have:=congrArg List.length d7
  rw [List.length_drop,List.length_nil] at this
  omega
 rw [hb]
 unfold readP rdProg rdFuncs rdChoices
 simp only at f1 f6 ⊢
 simp only [f1,f2,f3,f4,f5,f6,f7]
 rw [if_neg (by simp),if_neg (by omega),if_pos hmay]
end Go.Hb
end
section
namespace Go.Hb
open Go
def StepT (p:Prog) (a b:Thr):Prop:=b=a∨((a.state=0∨a.state=2)∧ThrI p b∧(b.state=0∨b.state=9)∧b.on=0)
theorem StepT.trans {p:Prog} {a b c:Thr} (h:StepT p a b) (k:StepT p b c):StepT p a c:=by
 rcases h with rfl | h
 ·exact k
 ·rcases k with rfl | k
  ·exact .inr h
  ·exact .inr ⟨h.1,k.2⟩
structure Ev (p:Prog) (x y:Xs):Prop where
 c:y.c = {x.c with threads:=y.c.threads }
 len:y.c.threads.length=x.c.threads.length
 th:∀ k,k<x.c.threads.length→StepT p (nth x.c.threads k) (nth y.c.threads k)
 p:y.p=x.p
 t:y.t=x.t
 woken:∀ w∈y.woken,w∈x.woken∨(0≤w∧w<x.c.threads.length)
theorem Ev.refl (p:Prog) (x:Xs):Ev p x x:=⟨rfl,rfl,fun _ _=>.inl rfl,rfl,rfl,fun _ h=>.inl h⟩
theorem Ev.trans {p:Prog} {x y z:Xs} (h:Ev p x y) (k:Ev p y z):Ev p x z:=by
 refine⟨?_,k.len.trans h.len,fun i hi=>(h.th i hi).trans (k.th i (by rw [h.len];exact hi)),k.p.trans h.p,k.t.trans h.t,fun w hw=>?_⟩
 ·rw [k.c,h.c]
 ·rcases k.woken w hw with hw | hw
  ·exact h.woken w hw
  ·exact .inr (by rw [← h.len];exact hw)
theorem countP_le_nth {f:Thr→Bool} : ∀ {l m:List Thr},l.length=m.length→(∀ k,k<l.length→f (nth l k)=true→f (nth m k)=true)→l.countP f≤m.countP f
 | [],[],_,_=>Nat.le_refl _
 | [],_ :: _,h,_=>by simp at h
 | _ :: _,[],h,_=>by simp at h
 | a :: l,b :: m,h,k=>by
  have ih:=countP_le_nth (f:=f) (l:=l) (m:=m) (by simpa using h) (fun i hi hf=>by
   have:=k (i+1) (by simpa using hi) (by simpa [nth] using hf)
   simpa [nth] using this)
  have h0:=k 0 (by simp)
  simp only [nth,List.getD_cons_zero] at h0
  rw [List.countP_cons,List.countP_cons]
  by_cases ha:f a=true
  ·rw [if_pos ha,if_pos (h0 ha)];omega
  ·rw [if_neg ha];omega
theorem Ev.c2 {p:Prog} {x y:Xs} (h:Ev p x y):count2 y.c≤count2 x.c:=by
 refine countP_le_nth h.len fun k hk hf=>?_
 rcases h.th k (by rw [← h.len];exact hk) with e | ⟨_,_,e,_⟩
 ·rw [e] at hf;exact hf
 ·unfold is2 at hf;simp at hf;omega
def AllI (p:Prog) (x:Xs):Prop:=∀ k,k<x.c.threads.length→ThrI p (nth x.c.threads k)
theorem Ev.all {p:Prog} {x y:Xs} (h:Ev p x y) (ha:AllI p x):AllI p y:=fun k hk=>by
 have hk':k<x.c.threads.length:=by rw [← h.len];exact hk
 rcases h.th k hk' with e | ⟨_,e,_⟩
 ·rw [e];exact ha k hk'
 ·exact e
theorem withT_nth {c:Cor} {t:Int} {th:Thr} (h0:0≤t) (h1:t<c.threads.length) (k:Nat):nth (withT c t th).threads k=if t=(k:Int) then th else nth c.threads k:=by
 show nth (c.threads.set t.toNat th) k=_
 rw [nth_set_gen]
 by_cases e:t=(k:Int)
 ·rw [if_pos ⟨by omega,by omega⟩,if_pos e]
 ·rw [if_neg (fun h=>e (by omega)),if_neg e]
theorem ev_set {p:Prog} {x:Xs} {t:Int} {th:Thr} (h0:0≤t) (h1:t<x.c.threads.length) (hs:StepT p (at' x.c.threads t) th):Ev p x {x with c:=withT x.c t th }:=
 ⟨rfl,by show (x.c.threads.set _ _).length=_;rw [List.length_set],fun k hk=>by
  show StepT p _ (nth (withT x.c t th).threads k)
  rw [withT_nth h0 h1]
  by_cases e:t=(k:Int)
  ·rw [if_pos e];unfold at' at hs;rw [show k=t.toNat by omega];exact hs
  ·rw [if_neg e];exact .inl rfl,rfl,rfl,fun _ h=>.inl h⟩
theorem ev_see {p:Prog} {x y:Xs} (h:Ev p x y) (k t n:Int):Ev p x (seeX y k t n):=⟨h.c,h.len,h.th,h.p,h.t,h.woken⟩
theorem zero_i {p:Prog} {t:Thr} (h:ThrI p t) (hs:t.state≠9):ThrI p {t with state:=0,on:=0 }:=
 ⟨by simp,h.code,h.fr,h.sk,h.frs,h.sks,fun h=>by simp at h,fun _=>h.live hs⟩
def EndI (p:Prog) (n:Nat):Prop:=∀ D x t code,0≤t→t<(x.c.threads.length:Int)→(at' x.c.threads t).state=0→AllI p x→count2 x.c<n→0≤code→code≤6→JoinI D x.c.threads→
 Ev p x (endX n x t code)∧JoinI D (endX n x t code).c.threads
theorem tell_i {p:Prog} {n:Nat} (hE:EndI p n) {D:Nat→Int→Prop} {x:Xs} {t:Int} {l:List Int} (h0:0≤t) (h1:t<x.c.threads.length) (hs:(at' x.c.threads t).state=0) (ho:(at' x.c.threads t).on=0) (ha:AllI p x) (hc:count2 x.c<n) (hj:JoinI D x.c.threads) :
  Ev p x (tellX n x t l)∧JoinI D (tellX n x t l).c.threads:=by
 unfold tellX
 split
 ·rename_i hok
  have hg:=thrTell_i (p:=p) l (ha t.toNat (by omega)) (by show (at' x.c.threads t).state≠9;omega) hok
  have hst:(thrTell (at' x.c.threads t) l).1.state=0:=hg.st.trans hs
  refine⟨ev_set h0 h1 (.inr ⟨.inl hs,hg.i,.inl hst,hg.on.trans ho⟩),hj.set (by omega) (.inl (by omega))⟩
 ·exact hE D x t 2 h0 h1 hs ha hc (by omega) (by omega) hj
theorem rest0_i {p:Prog} {D:Nat→Int→Prop} {x:Xs} {k:Nat} (h1:k<x.c.threads.length) (hs:(nth x.c.threads k).state=2) (ha:AllI p x) (hj:JoinI D x.c.threads) :
  Ev p x (restX {x with woken:=x.woken++[(k:Int)] } k 0 0)∧JoinI (fun i on=>D i on∧i≠k) (restX {x with woken:=x.woken++[(k:Int)] } k 0 0).c.threads:=by
 have h:=ev_set (x:=x) (t:=k) (th:={nth x.c.threads k with state:=0,on:=0 }) (by omega) (by omega) (.inr ⟨.inr hs,zero_i (ha k h1) (by omega),.inl rfl,rfl⟩)
 refine⟨⟨h.c,h.len,h.th,rfl,rfl,fun w hw=>?_⟩,?_⟩
 ·rcases List.mem_append.1 hw with hw | hw
  ·exact .inl hw
  ·simp at hw;subst hw;exact .inr ⟨by omega,by omega⟩
 ·have hj2:JoinI D (x.c.threads.set k {nth x.c.threads k with state:=0,on:=0 }):=hj.set (by simp) (.inl (by simp))
  refine JoinI.weak (ts:=x.c.threads.set k {nth x.c.threads k with state:=0,on:=0 }) hj2 fun i on hi hs2 ho hd=>⟨hd,fun e=>?_⟩
  subst e
  rw [nth_set (by simpa using h1)] at hs2
  simp at hs2
theorem wake2_i {p:Prog} {n:Nat} (hE:EndI p n) {D:Nat→Int→Prop} {x:Xs} {k:Nat} {l:List Int} (h1:k<x.c.threads.length) (hs:(nth x.c.threads k).state=2) (ha:AllI p x) (hc:count2 x.c≤n) (hj:JoinI D x.c.threads) :
  Ev p x (wakeX n x k l)∧JoinI (fun i on=>D i on∧i≠k) (wakeX n x k l).c.threads:=by
 unfold wakeX
 rw [if_neg (by omega)]
 obtain⟨hv,hj2⟩:=rest0_i h1 hs ha hj
 have hr:=rest_c2 (x:={x with woken:=x.woken++[(k:Int)] }) (t:=k) 0 (st:=0) (by omega) (by omega) (by show (k:Int)<x.c.threads.length;omega)
 have hs':(at' x.c.threads (k:Int)).state=2:=hs
 simp only [hs',if_true] at hr
 have hat:at' (restX {x with woken:=x.woken++[(k:Int)] } k 0 0).c.threads (k:Int) = {nth x.c.threads k with state:=0,on:=0 }:=by
  show at' (x.c.threads.set (k:Int).toNat _) (k:Int)=_
  rw [at_set (by omega) (by omega)];rfl
 have ht:=tell_i hE (D:=fun i on=>D i on∧i≠k) (x:=restX {x with woken:=x.woken++[(k:Int)] } k 0 0) (t:=k) (l:=l) (by omega) (by rw [hv.len];omega) (by rw [hat]) (by rw [hat]) (hv.all ha) (by omega) hj2
 exact⟨hv.trans ht.1,ht.2⟩
theorem endL_i {p:Prog} {n:Nat} (hE:EndI p n) {code t:Int} {D:Nat→Int→Prop} : ∀ (ks:List Nat) (x:Xs),(∀ k∈ks,k<x.c.threads.length)→AllI p x→count2 x.c≤n→JoinI (fun k on=>D k on∨(on=t∧k∈ks)) x.c.threads→
  Ev p x (endL n code t ks x)∧JoinI D (endL n code t ks x).c.threads
 | [],x,_,_,_,hj=>by
  rw [endL]
  exact⟨Ev.refl p x,hj.weak fun k on _ _ _ h=>h.resolve_right (by simp)⟩
 | k :: ks,x,hk,ha,hc,hj=>by
  rw [endL]
  by_cases hw:(nth x.c.threads k).state=2∧(nth x.c.threads k).on=t
  ·rw [if_pos hw]
   have h1:=wake2_i hE (l:=[code]) (hk k (by simp)) hw.1 ha hc hj
   have h2:=endL_i hE (code:=code) ks (wakeX n x k [code]) (fun j hj=>by rw [h1.1.len];exact hk j (by simp [hj])) (h1.1.all ha) (by have:=h1.1.c2;omega) (h1.2.weak fun i on _ _ _ h=>h.1.imp id fun h'=>⟨h'.1,by have:=h'.2;simp at this;exact this.resolve_left h.2⟩)
   exact⟨h1.1.trans h2.1,h2.2⟩
  ·rw [if_neg hw]
   refine endL_i hE ks x (fun j hj=>hk j (by simp [hj])) ha hc (hj.weak fun i on hi hs ho h=>h.imp id fun h'=>⟨h'.1,?_⟩)
   rcases List.mem_cons.1 h'.2 with e | e
   ·subst e;exact absurd ⟨hs,ho.trans h'.1⟩ hw
   ·exact e
theorem end_i (p:Prog):∀ n,EndI p n
 | 0=>fun D x t code _ _ _ _ h=>absurd h (by omega)
 | n+1=>fun D x t code h0 h1 hs ha hc c0 c1 hj=>by
  rw [endX_succ]
  have hv:Ev p x (end0 x t code):=ev_see (ev_set h0 h1 (.inr ⟨.inl hs,thrEnd_i p c0 c1,.inr rfl,rfl⟩)) 2 t code
  have hj2:JoinI (fun k on=>D k on∨(on=t∧k∈List.range (end0 x t code).c.threads.length)) (end0 x t code).c.threads:=fun k hk hk2=>by
   have hn:nth (end0 x t code).c.threads k=if t=(k:Int) then thrEnd code else nth x.c.threads k:=withT_nth h0 h1 k
   have hl:=hv.len
   rw [hn] at hk2 ⊢
   by_cases e:t=(k:Int)
   ·rw [if_pos e] at hk2;simp [thrEnd] at hk2
   ·rw [if_neg e] at hk2 ⊢
    obtain⟨q1,q2,q3,q4⟩:=hj k (by omega) hk2
    refine⟨q1,by omega,q3,?_⟩
    by_cases e2:(nth x.c.threads k).on=t
    ·exact .inr (.inr ⟨e2,by simpa using hk⟩)
    ·have hn2:at' (end0 x t code).c.threads (nth x.c.threads k).on=at' x.c.threads (nth x.c.threads k).on:=by
      show nth (withT x.c t (thrEnd code)).threads _=_
      rw [withT_nth h0 h1,if_neg (by omega)];rfl
     rw [hn2]
     exact q4.imp id .inl
  have hk:=count2_with (c:=x.c) (x:=thrEnd code) h0 h1
  have he:(thrEnd code).state≠2:=by simp [thrEnd]
  rw [if_neg he] at hk
  have h2:=endL_i (end_i p n) (code:=code) (t:=t) (D:=D) _ _ (fun k hk=>by simpa using hk) (hv.all ha) (by show count2 (withT x.c t (thrEnd code))≤n;omega) hj2
  exact⟨hv.trans h2.1,h2.2⟩
theorem Inv.ev {p:Prog} {ex:Int} {D D':Nat→Int→Prop} {x y:Xs} (h:Inv p ex D x.c) (hv:Ev p x y) (hj:JoinI D' y.c.threads):Inv p ex D' y.c:=by
 have hl:=hv.len
 have hc:=hv.c
 have key:∀ k,k<x.c.threads.length→nth y.c.threads k=nth x.c.threads k∨((k:Int)≠ex∧((nth x.c.threads k).state=0∨(nth x.c.threads k).state=2)∧ThrI p (nth y.c.threads k)∧((nth y.c.threads k).state=0∨(nth y.c.threads k).state=9)∧(nth y.c.threads k).on=0):=fun k hk=>by
  rcases hv.th k hk with e | e
  ·exact .inl e
  ·refine .inr ⟨fun e2=>?_,e⟩
   have:=h.exs k hk e2
   omega
 have hrow:∀ r k,rowOf y.c r k=rowOf x.c r k:=fun r k=>by rw [hc];rfl
 refine⟨by rw [hc];exact⟨h.len.owners,h.len.counts,h.len.bufs,h.len.lockq,h.len.waitq,h.len.downq,h.len.sendq,h.len.recvq⟩,by rw [hc];exact h.now,by rw [hl];exact h.nthr,fun t ht=>?_,fun t ht hte=>?_,fun t ht hte=>?_,hj,fun r k t ht=>?_,fun r k t hk ht=>?_,?_⟩
 ·rcases key t (by omega) with e | e
  ·rw [e];exact h.thr t (by omega)
  ·exact e.2.2.1
 ·have hn:y.c.now=x.c.now:=by rw [hc]
  rw [hn]
  rcases key t (by omega) with e | ⟨_,_,_,e,e2⟩
  ·rw [e];exact h.one t (by omega) hte
  ·exact⟨fun _=>e2,fun h=>by omega,fun h=>by omega,fun h _=>by omega,fun h=>by omega⟩
 ·rcases key t (by omega) with e | e
  ·rw [e];exact h.exs t (by omega) hte
  ·exact absurd hte e.1
 ·rw [hrow] at ht;rw [hl];exact h.mem r k t ht
 ·rw [hrow,h.cnt r k t hk (by omega)]
  rcases key t (by omega) with e | ⟨e0,e1,_,e2,_⟩
  ·rw [e]
  ·rw [if_neg e0,if_neg e0,want0 (by omega) _ hk,want0 (by omega) _ hk]
 ·rw [hl,hc]
  have q:=h.things
  exact⟨q.owners,q.counts,q.mutex,q.sema,q.chan⟩
end Go.Hb
end
section
namespace Go.Hb
open Go
theorem row_set3 {c:Cor} {m:Nat} (hm:m<c.lockq.length) (l:List Int) (r:Int) (k:Nat):rowOf {c with lockq:=c.lockq.set m l } r k=if r=3∧k=m then l else rowOf c r k:=by
 rw [rowOf_lockq,nth_set_gen]
 by_cases h:r=3<;>by_cases h2:m=k<;>simp_all [rowOf,eq_comm]
theorem row_set4 {c:Cor} {m:Nat} (hm:m<c.waitq.length) (l:List Int) (r:Int) (k:Nat):rowOf {c with waitq:=c.waitq.set m l } r k=if r=4∧k=m then l else rowOf c r k:=by
 rw [rowOf_waitq,nth_set_gen]
 by_cases h:r=4<;>by_cases h2:m=k<;>simp_all [rowOf,eq_comm]
theorem row_set5 {c:Cor} {m:Nat} (hm:m<c.downq.length) (l:List Int) (r:Int) (k:Nat):rowOf {c with downq:=c.downq.set m l } r k=if r=5∧k=m then l else rowOf c r k:=by
 rw [rowOf_downq,nth_set_gen]
 by_cases h:r=5<;>by_cases h2:m=k<;>simp_all [rowOf,eq_comm]
theorem row_set6 {c:Cor} {m:Nat} (hm:m<c.sendq.length) (l:List Int) (r:Int) (k:Nat):rowOf {c with sendq:=c.sendq.set m l } r k=if r=6∧k=m then evens l else rowOf c r k:=by
 rw [rowOf_sendq,nth_set_gen]
 by_cases h:r=6<;>by_cases h2:m=k<;>simp_all [rowOf,eq_comm]
theorem row_set7 {c:Cor} {m:Nat} (hm:m<c.recvq.length) (l:List Int) (r:Int) (k:Nat):rowOf {c with recvq:=c.recvq.set m l } r k=if r=7∧k=m then l else rowOf c r k:=by
 rw [rowOf_recvq,nth_set_gen]
 by_cases h:r=7<;>by_cases h2:m=k<;>simp_all [rowOf,eq_comm]
section
variable {p:Prog} {ex:Int} {D:Nat→Int→Prop} {c c':Cor}
theorem Inv.zero (h:Inv p ex D c) {t:Nat} (ht:t<c.threads.length) (h0:(ex = -1∧(nth c.threads t).state=0)∨ex=t) {r:Int} {k:Nat} (hk:k<nRows p r):(rowOf c r k).count (t:Int)=0:=by
 rw [h.cnt r k t hk ht]
 rcases h0 with ⟨rfl,h0⟩ | rfl
 ·rw [if_neg (by omega),h0];exact want0 (by omega) _ hk
 ·rw [if_pos rfl]
theorem Inv.enter (h:Inv p ex D c) {t:Nat} (ht:t<c.threads.length) (h0:(ex = -1∧(nth c.threads t).state=0)∨ex=t) (h9:(nth c.threads t).state≠9) {r:Int} {k:Nat} (hk:k<nRows p r)
  (hrow:∀ r' k',rowOf c' r' k'=if r'=r∧k'=k then rowOf c r k++[(t:Int)] else rowOf c r' k') (hth:c'.threads=c.threads.set t {nth c.threads t with state:=r,on:=k }) (hlen:LenI p c') (hnow:c'.now=c.now) (hI:ThingsI p c.threads.length c'):Inv p (-1) D c':=by
 have hr:=nRows_in hk
 have hi:=h.thr t ht
 refine h.change ht hth hlen hnow ⟨by simp;omega,hi.code,hi.fr,hi.sk,hi.frs,hi.sks,fun h=>by simp at h;omega,fun _=>hi.live h9⟩ (h0.imp And.left id) (.inl rfl) (fun _=>?_) (fun e=>by omega) ?_ (fun r' k' u hu=>?_) (fun r' k' u hk' hu=>?_) (fun r' k' hk'=>?_) hI
 ·exact⟨fun h=>by simp at h;omega,fun h=>by simp at h;omega,fun h=>by simp at h;omega,fun _ _=>⟨by simp,by simpa using hk⟩,fun h=>by simp at h;omega⟩
 ·rw [hth];exact h.join.set (by simp;omega) (.inl (by simp;omega))
 ·rw [hrow] at hu
  split at hu
  ·rename_i e
   rcases List.mem_append.1 hu with hu | hu
   ·rw [e.1,e.2];exact .inr hu
   ·simp at hu;exact .inl hu
  ·exact .inr hu
 ·rw [hrow]
  split
  ·rename_i e
   rw [e.1,e.2,List.count_append,List.count_singleton]
   have:((t:Int) == u)=false:=by simpa using fun e=>hu e.symm
   rw [this];simp
  ·rfl
 ·rw [hrow,if_neg (show ¬ (t:Int) = -1 by omega),want_at (by simp;omega)]
  have hz:=fun r k hk=>h.zero ht h0 (r:=r) (k:=k) hk
  by_cases e:r'=r∧k'=k
  ·rw [if_pos e,List.count_append,hz r k hk,if_pos ⟨e.1.symm,by simp [e.2]⟩];simp
  ·rw [if_neg e,hz r' k' hk',if_neg (fun h=>e ⟨h.1.symm,by have:=h.2;simp at this;omega⟩)]
theorem Inv.leave (h:Inv p (-1) D c) {t:Int} {rest:List Int} {r:Int} {k:Nat} (hk:k<nRows p r) (h7:r≠7) (hhd:rowOf c r k=t :: rest)
  (hrow:∀ r' k',rowOf c' r' k'=if r'=r∧k'=k then rest else rowOf c r' k') (hth:c'.threads=c.threads) (hlen:LenI p c') (hnow:c'.now=c.now) (hI:ThingsI p c.threads.length c') :
  (0≤t∧t<c.threads.length∧(at' c.threads t).state≠9∧(at' c.threads t).state≠0)∧Inv p t D c':=by
 have hr:=nRows_in hk
 have hm:=h.mem r k t (by rw [hhd];simp)
 obtain⟨t,rfl⟩:∃ n:Nat,t=n:=⟨t.toNat,by omega⟩
 have ht:t<c.threads.length:=by omega
 have hi:=h.thr t ht
 have hc:=h.cnt r k t hk ht
 rw [hhd,if_neg (by omega),List.count_cons_self] at hc
 have hw:(nth c.threads t).state=r∧(nth c.threads t).on=k:=by
  unfold want must at hc
  split at hc
  ·rename_i e
   simp only [Bool.or_eq_true,decide_eq_true_eq] at e
   rcases e with e | e
   ·exact e
   ·exact absurd e.2.1 h7
  ·omega
 have hc0:rest.count (t:Int)=0:=by have:=want_le p (nth c.threads t).state (nth c.threads t).on r k;omega
 refine⟨⟨hm.1,hm.2,?_,?_⟩,h.change ht (th:=nth c.threads t) ?_ hlen hnow hi (.inl rfl) (.inr rfl) (fun e=>absurd rfl e) (fun _=>by rw [hw.1];omega) (by rw [hth];exact h.join) (fun r' k' u hu=>?_) (fun r' k' u hk' hu=>?_) (fun r' k' hk'=>?_) hI⟩
 ·show (nth c.threads t).state≠9;rw [hw.1];omega
 ·show (nth c.threads t).state≠0;rw [hw.1];omega
 ·rw [hth];rw [nth_eq ht,List.set_getElem_self]
 ·rw [hrow] at hu
  split at hu
  ·rename_i e
   rw [e.1,e.2,hhd];exact .inr (List.mem_cons_of_mem _ hu)
  ·exact .inr hu
 ·rw [hrow]
  split
  ·rename_i e
   rw [e.1,e.2,hhd,List.count_cons_of_ne (fun e=>hu e.symm)]
  ·rfl
 ·rw [hrow,if_pos rfl]
  split
  ·exact hc0
  ·rename_i e
   rw [h.cnt r' k' t hk' ht,if_neg (by omega),want_at (by omega),if_neg (fun h=>e ⟨by omega,by have:=h.2;omega⟩)]
theorem Inv.cancel (h:Inv p (-1) D c) {t:Int} {k:Nat} (hk:k<nRows p 7) (hin:t∈nth c.recvq k) (hI:ThingsI p c.threads.length (cancelC c t)) :
  (0≤t∧t<c.threads.length∧((at' c.threads t).state=7∨(at' c.threads t).state=8∧(k:Int)∈at' p.choices (at' c.threads t).on))∧Inv p t D (cancelC c t):=by
 have hm:=h.mem 7 k t (by simpa [rowOf] using hin)
 obtain⟨t,rfl⟩:∃ n:Nat,t=n:=⟨t.toNat,by omega⟩
 have ht:t<c.threads.length:=by omega
 have hi:=h.thr t ht
 have hc:=h.cnt 7 k t hk ht
 have hpos:0<(rowOf c 7 k).count (t:Int):=List.count_pos_iff.2 (by simpa [rowOf] using hin)
 rw [if_neg (by omega)] at hc
 have hw:(nth c.threads t).state=7∨(nth c.threads t).state=8∧(k:Int)∈at' p.choices (nth c.threads t).on:=by
  unfold want must at hc
  split at hc
  ·rename_i e
   simp only [Bool.or_eq_true,decide_eq_true_eq] at e
   exact e.imp And.left fun e=>⟨e.1,e.2.2⟩
  ·omega
 have hrow:∀ r' k',rowOf (cancelC c t) r' k'=if r'=7 then (rowOf c 7 k').filter (fun x=>decide (x≠(t:Int))) else rowOf c r' k':=fun r' k'=>by
  unfold cancelC
  rw [rowOf_recvq]
  by_cases e:r'=7
  ·rw [if_pos e,if_pos e]
   have e7:rowOf c 7 k'=nth c.recvq k':=by simp [rowOf]
   rw [e7]
   by_cases hk2:k'<c.recvq.length
   ·rw [nth_eq (by simpa using hk2),nth_eq hk2];simp
   ·rw [nth_out (by simp;omega),nth_out (by omega)];rfl
  ·rw [if_neg e,if_neg e]
 have hlen:LenI p (cancelC c t):=⟨h.len.owners,h.len.counts,h.len.bufs,h.len.lockq,h.len.waitq,h.len.downq,h.len.sendq,by show (c.recvq.map _).length=_;rw [List.length_map];exact h.len.recvq⟩
 refine⟨⟨hm.1,hm.2,hw⟩,h.change ht (th:=nth c.threads t) ?_ hlen rfl hi (.inl rfl) (.inr rfl) (fun e=>absurd rfl e) (fun _=>by rcases hw with hw | hw<;>omega) h.join (fun r' k' u hu=>?_) (fun r' k' u hk' hu=>?_) (fun r' k' hk'=>?_) hI⟩
 ·show c.threads=_;rw [nth_eq ht,List.set_getElem_self]
 ·rw [hrow] at hu
  split at hu
  ·rename_i e
   rw [e];exact .inr (List.mem_filter.1 hu).1
  ·exact .inr hu
 ·rw [hrow]
  split
  ·rename_i e
   rw [e,List.count_filter (by simpa using hu)]
  ·rfl
 ·rw [hrow,if_pos rfl]
  split
  ·exact List.count_eq_zero.2 fun h=>by simp [List.mem_filter] at h
  ·rename_i e
   rw [h.cnt r' k' t hk' ht,if_neg (by omega)]
   unfold want must
   rw [if_neg]
   simp only [Bool.or_eq_true,decide_eq_true_eq,not_or]
   have:=nRows_in hk'
   exact⟨fun h=>by rcases hw with hw | hw<;>omega,fun h=>e h.2.1⟩
theorem Inv.wake {t:Int} (h:Inv p t D c) (h0:0≤t) (h1:t<c.threads.length):Inv p (-1) D (withT c t {at' c.threads t with state:=0,on:=0 }):=by
 obtain⟨t,rfl⟩:∃ n:Nat,t=n:=⟨t.toNat,by omega⟩
 have ht:t<c.threads.length:=by omega
 have hex:=h.exs t ht rfl
 refine h.change ht (th:={nth c.threads t with state:=0,on:=0 }) rfl ⟨h.len.owners,h.len.counts,h.len.bufs,h.len.lockq,h.len.waitq,h.len.downq,h.len.sendq,h.len.recvq⟩ rfl (zero_i (h.thr t ht) (by omega)) (.inr rfl) (.inl rfl)
  (fun _=>⟨fun _=>rfl,fun h=>by simp at h,fun h=>by simp at h,fun h _=>by simp at h,fun h=>by simp at h⟩) (fun e=>by omega) (h.join.set (by simp) (.inl (by simp))) (fun r' k' u hu=>.inr hu) (fun r' k' u hk' hu=>rfl) (fun r' k' hk'=>?_) ⟨h.things.owners,h.things.counts,h.things.mutex,h.things.sema,h.things.chan⟩
 rw [if_neg (by omega),want0 (by simp) _ hk']
 exact h.zero ht (.inr rfl) hk'
end
theorem Inv.all {p:Prog} {ex:Int} {D:Nat→Int→Prop} {x:Xs} (h:Inv p ex D x.c):AllI p x:=fun k hk=>h.thr k hk
theorem Inv.c2 {p:Prog} {ex:Int} {D:Nat→Int→Prop} {c:Cor} (h:Inv p ex D c) (hp:MayP p):count2 c<fu:=by
 have h1:count2 c≤c.threads.length:=List.countP_le_length
 have h2:=h.nthr.2
 have h3:=hp.threads.2
 unfold fu;omega
end Go.Hb
end
section
namespace Go.Hb
open Go
section
variable {p:Prog} {n:Nat} {c:Cor}
theorem ThingsI.owner (h:ThingsI p n c) (m:Nat) {t:Int} (h0:0≤t) (h1:t<n):ThingsI p n {c with owners:=c.owners.set m t }:=by
 refine⟨fun k hk=>?_,h.counts,fun k hk=>?_,h.sema,h.chan⟩
 ·simp at hk;show -1≤nth (c.owners.set m t) k∧nth (c.owners.set m t) k<n
  rw [nth_set_gen];split
  ·omega
  ·exact h.owners k hk
 ·simp at hk;show _∨nth (c.owners.set m t) k≠ -1
  rw [nth_set_gen];split
  ·right;omega
  ·exact h.mutex k hk
theorem ThingsI.lockset (h:ThingsI p n c) (m:Nat) (l:List Int) (ho:nth c.owners m≠ -1):ThingsI p n {c with lockq:=c.lockq.set m l }:=by
 refine⟨h.owners,h.counts,fun k hk=>?_,h.sema,h.chan⟩
 show nth (c.lockq.set m l) k=[]∨_
 rw [nth_set_gen];split
 ·rename_i e;rw [← e.1];exact .inr ho
 ·exact h.mutex k hk
theorem ThingsI.free (h:ThingsI p n c) (m:Nat) (ho:nth c.lockq m=[]):ThingsI p n {c with owners:=c.owners.set m (-1) }:=by
 refine⟨fun k hk=>?_,h.counts,fun k hk=>?_,h.sema,h.chan⟩
 ·simp at hk;show -1≤nth (c.owners.set m (-1)) k∧nth (c.owners.set m (-1)) k<n
  rw [nth_set_gen];split
  ·omega
  ·exact h.owners k hk
 ·simp at hk;show _∨nth (c.owners.set m (-1)) k≠ -1
  rw [nth_set_gen];split
  ·rename_i e;rw [← e.1];exact .inl ho
  ·exact h.mutex k hk
theorem ThingsI.waits (h:ThingsI p n c) (W:List (List Int)):ThingsI p n {c with waitq:=W }:=⟨h.owners,h.counts,h.mutex,h.sema,h.chan⟩
theorem ThingsI.thr (h:ThingsI p n c) (T:List Thr):ThingsI p n {c with threads:=T }:=⟨h.owners,h.counts,h.mutex,h.sema,h.chan⟩
theorem ThingsI.more (h:ThingsI p n c) {m:Nat} (hm:n≤m):ThingsI p m c:=⟨fun k hk=>by have:=h.owners k hk;omega,h.counts,h.mutex,h.sema,h.chan⟩
theorem ThingsI.downset (h:ThingsI p n c) (m:Nat) (l:List Int) (ho:nth c.counts m=0):ThingsI p n {c with downq:=c.downq.set m l }:=by
 refine⟨h.owners,h.counts,h.mutex,fun k hk=>?_,h.chan⟩
 show _∨nth (c.downq.set m l) k=[]
 rw [nth_set_gen];split
 ·rename_i e;rw [← e.1];exact .inl ho
 ·exact h.sema k hk
theorem ThingsI.count (h:ThingsI p n c) (m:Nat) {v:Int} (h0:0≤v) (h1:v≤1073741824) (ho:v=0∨nth c.downq m=[]):ThingsI p n {c with counts:=c.counts.set m v }:=by
 refine⟨h.owners,fun k hk=>?_,h.mutex,fun k hk=>?_,h.chan⟩
 ·simp at hk;show 0≤nth (c.counts.set m v) k∧nth (c.counts.set m v) k≤_
  rw [nth_set_gen];split
  ·omega
  ·exact h.counts k hk
 ·simp at hk;show nth (c.counts.set m v) k=0∨_
  rw [nth_set_gen];split
  ·rename_i e;rw [← e.1];exact ho
  ·exact h.sema k hk
theorem ThingsI.chans (h:ThingsI p n c) {B S R:List (List Int)} (hk:∀ k,k<p.chans.length→(nth B k=nth c.bufs k∧nth S k=nth c.sendq k∧nth R k=nth c.recvq k)∨ChanI p k (nth B k) (nth S k) (nth R k)):ThingsI p n {c with bufs:=B,sendq:=S,recvq:=R }:=by
 refine⟨h.owners,h.counts,h.mutex,h.sema,fun k hk'=>?_⟩
 show ChanI p k (nth B k) (nth S k) (nth R k)
 rcases hk k hk' with ⟨e1,e2,e3⟩ | e
 ·rw [e1,e2,e3];exact h.chan k hk'
 ·exact e
end
section
variable {p:Prog} {c:Cor}
theorem LenI.owners' (h:LenI p c) (m:Nat) (x:Int):LenI p {c with owners:=c.owners.set m x }:=⟨by simpa using h.owners,h.counts,h.bufs,h.lockq,h.waitq,h.downq,h.sendq,h.recvq⟩
theorem LenI.counts' (h:LenI p c) (m:Nat) (x:Int):LenI p {c with counts:=c.counts.set m x }:=⟨h.owners,by simpa using h.counts,h.bufs,h.lockq,h.waitq,h.downq,h.sendq,h.recvq⟩
theorem LenI.lockq' (h:LenI p c) (m:Nat) (x:List Int):LenI p {c with lockq:=c.lockq.set m x }:=⟨h.owners,h.counts,h.bufs,by simpa using h.lockq,h.waitq,h.downq,h.sendq,h.recvq⟩
theorem LenI.waitq' (h:LenI p c) (m:Nat) (x:List Int):LenI p {c with waitq:=c.waitq.set m x }:=⟨h.owners,h.counts,h.bufs,h.lockq,by simpa using h.waitq,h.downq,h.sendq,h.recvq⟩
theorem LenI.downq' (h:LenI p c) (m:Nat) (x:List Int):LenI p {c with downq:=c.downq.set m x }:=⟨h.owners,h.counts,h.bufs,h.lockq,h.waitq,by simpa using h.downq,h.sendq,h.recvq⟩
theorem LenI.bufs' (h:LenI p c) (m:Nat) (x:List Int):LenI p {c with bufs:=c.bufs.set m x }:=⟨h.owners,h.counts,by simpa using h.bufs,h.lockq,h.waitq,h.downq,h.sendq,h.recvq⟩
theorem LenI.sendq' (h:LenI p c) (m:Nat) (x:List Int):LenI p {c with sendq:=c.sendq.set m x }:=⟨h.owners,h.counts,h.bufs,h.lockq,h.waitq,h.downq,by simpa using h.sendq,h.recvq⟩
theorem LenI.recvq' (h:LenI p c) (m:Nat) (x:List Int):LenI p {c with recvq:=c.recvq.set m x }:=⟨h.owners,h.counts,h.bufs,h.lockq,h.waitq,h.downq,h.sendq,by simpa using h.recvq⟩
theorem LenI.thr (h:LenI p c) (T:List Thr):LenI p {c with threads:=T }:=⟨h.owners,h.counts,h.bufs,h.lockq,h.waitq,h.downq,h.sendq,h.recvq⟩
end
theorem Inv.same {p:Prog} {ex:Int} {D:Nat→Int→Prop} {c c':Cor} (h:Inv p ex D c) (hth:c'.threads=c.threads) (hnow:c'.now=c.now) (hlen:LenI p c') (hrow:∀ r k,rowOf c' r k=rowOf c r k) (hI:ThingsI p c.threads.length c'):Inv p ex D c':=
 ⟨hlen,by rw [hnow];exact h.now,by rw [hth];exact h.nthr,by rw [hth];exact h.thr,by rw [hth,hnow];exact h.one,by rw [hth];exact h.exs,by rw [hth];exact h.join,fun r k t ht=>by rw [hth];rw [hrow] at ht;exact h.mem r k t ht,fun r k t hk ht=>by rw [hth] at ht ⊢;rw [hrow];exact h.cnt r k t hk ht,by rw [hth];exact hI⟩
structure Res (p:Prog) (x y:Xs):Prop where
 inv:Inv p (-1) noD y.c
 p:y.p=x.p
 t:y.t=x.t
 woken:∀ w∈y.woken,w∈x.woken∨(0≤w∧w<y.c.threads.length)
 len:x.c.threads.length≤y.c.threads.length
theorem Res.refl {p:Prog} {x:Xs} (h:Inv p (-1) noD x.c):Res p x x:=⟨h,rfl,rfl,fun _ h=>.inl h,Nat.le_refl _⟩
theorem Res.trans {p:Prog} {x y z:Xs} (h:Res p x y) (k:Res p y z):Res p x z:=⟨k.inv,k.p.trans h.p,k.t.trans h.t,fun w hw=>by
 rcases k.woken w hw with hw | hw
 ·rcases h.woken w hw with hw | hw
  ·exact .inl hw
  ·have:=k.len;exact .inr (by omega)
 ·exact .inr hw,Nat.le_trans h.len k.len⟩
theorem Res.of_ev {p:Prog} {x y:Xs} (h:Inv p (-1) noD x.c) (hv:Ev p x y) (hj:JoinI noD y.c.threads):Res p x y:=
 ⟨h.ev hv hj,hv.p,hv.t,by rw [hv.len];exact hv.woken,Nat.le_of_eq hv.len.symm⟩
structure Run (p:Prog) (x:Xs):Prop where
 inv:Inv p (-1) noD x.c
 p:x.p=p
 t:0≤x.t∧x.t<x.c.threads.length
 st:(at' x.c.threads x.t).state=0
theorem Run.on {p:Prog} {x:Xs} (h:Run p x):(at' x.c.threads x.t).on=0:=(h.inv.one x.t.toNat (by have:=h.t;omega) (by have:=h.t;omega)).rest (.inl h.st)
theorem end_r {p:Prog} (hp:MayP p) {x:Xs} (h:Run p x) {code:Int} (h0:0≤code) (h1:code≤6):Res p x (endF x x.t code):=by
 have:=end_i p fu noD x x.t code h.t.1 h.t.2 h.st h.inv.all (h.inv.c2 hp) h0 h1 h.inv.join
 exact .of_ev h.inv this.1 this.2
theorem tell_r {p:Prog} (hp:MayP p) {x:Xs} (h:Run p x) (l:List Int):Res p x (tellF x x.t l):=by
 have:=tell_i (end_i p fu) (D:=noD) (l:=l) h.t.1 h.t.2 h.st h.on h.inv.all (h.inv.c2 hp) h.inv.join
 exact .of_ev h.inv this.1 this.2
theorem see_r {p:Prog} {x:Xs} (h:Inv p (-1) noD x.c) (k t n:Int):Res p x (seeX x k t n):=⟨h,rfl,rfl,fun _ h=>.inl h,Nat.le_refl _⟩
theorem wake_r {p:Prog} (hp:MayP p) {x:Xs} {t:Int} (h:Inv p t noD x.c) (h0:0≤t) (h1:t<x.c.threads.length) (l:List Int):Res p x (wakeF x t l):=by
 unfold wakeF wakeX
 rw [if_neg (by omega)]
 have hw:=h.wake h0 h1
 have hl:=rest_len {x with woken:=x.woken++[t] } t 0 0
 have hat:at' (restX {x with woken:=x.woken++[t] } t 0 0).c.threads t = {at' x.c.threads t with state:=0,on:=0 }:=at_set h0 h1
 have hinv:Inv p (-1) noD (restX {x with woken:=x.woken++[t] } t 0 0).c:=hw
 have:=tell_i (end_i p fu) (D:=noD) (x:=restX {x with woken:=x.woken++[t] } t 0 0) (t:=t) (l:=l) h0 (by rw [hl];exact h1) (by rw [hat]) (by rw [hat]) hinv.all (hinv.c2 hp) hinv.join
 have hr:Res p (restX {x with woken:=x.woken++[t] } t 0 0) _:=.of_ev hinv this.1 this.2
 refine⟨hr.inv,hr.p,hr.t,fun w hw=>?_,by have:=hr.len;rw [hl] at this;exact this⟩
 rcases hr.woken w hw with hw | hw
 ·rcases List.mem_append.1 hw with hw | hw
  ·exact .inl hw
  ·simp at hw;subst hw
   have:=hr.len
   rw [hl] at this
   have:x.c.threads.length≤(tellX fu (restX {x with woken:=x.woken++[w] } w 0 0) w l).c.threads.length:=this
   exact .inr ⟨h0,by omega⟩
 ·exact .inr hw
theorem wakeF_nil (x:Xs) {t:Int} (h0:0≤t) (h1:t<x.c.threads.length):wakeF x t [] = {x with woken:=x.woken++[t],c:=withT x.c t {at' x.c.threads t with state:=0,on:=0 } }:=by
 unfold wakeF wakeX
 rw [if_neg (by omega)]
 unfold tellX thrTell
 rw [if_pos rfl]
 have hat:at' (restX {x with woken:=x.woken++[t] } t 0 0).c.threads t = {at' x.c.threads t with state:=0,on:=0 }:=at_set h0 h1
 rw [hat]
 unfold restX withT
 simp
theorem wakeF_no (x:Xs) {t:Int} (h0:t<0) (l:List Int):wakeF x t l=x:=by unfold wakeF wakeX;rw [if_pos h0]
end Go.Hb
end
section
namespace Go.Hb
open Go
theorem spawn_run {x:Xs} (hp:MayP x.p) (h:Run x.p x) {f:Int} (h0:0≤f) (h1:f<x.p.funcs.length) (hlt:¬ x.p.threads≤(x.c.threads.length:Int)) :
  Run x.p (seeX {x with c:={x.c with threads:=x.c.threads++[thrNew x.p f] },woken:=x.woken++[(x.c.threads.length:Int)] } 1 x.t x.c.threads.length)∧Inv x.p (-1) noD {x.c with threads:=x.c.threads++[thrNew x.p f] }:=by
 have hn:=thrNew_i hp h0 h1
 have hlen:(x.c.threads++[thrNew x.p f]).length=x.c.threads.length+1:=by simp
 have hnl:∀ {k},k<x.c.threads.length→nth (x.c.threads++[thrNew x.p f]) k=nth x.c.threads k:=fun hk=>nth_app_left hk
 have key:∀ {k},k<(x.c.threads++[thrNew x.p f]).length→k<x.c.threads.length∨(k=x.c.threads.length∧nth (x.c.threads++[thrNew x.p f]) k=thrNew x.p f):=fun {k} hk=>by
  by_cases e:k<x.c.threads.length
  ·exact .inl e
  ·have e:k=x.c.threads.length:=by omega
   exact .inr ⟨e,by rw [e];exact nth_app_len⟩
 have hinv:Inv x.p (-1) noD {x.c with threads:=x.c.threads++[thrNew x.p f] }:=by
  have hi:=h.inv
  refine⟨hi.len.thr _,hi.now,⟨by show 1≤(x.c.threads++_).length;omega,by show ((x.c.threads++_).length:Int)≤_;omega⟩,fun t ht=>?_,fun t ht hte=>?_,fun t ht hte=>by omega,fun k hk hs=>?_,fun r k t ht=>?_,fun r k t hk ht=>?_,?_⟩
  ·show ThrI x.p (nth (x.c.threads++_) t)
   rcases key ht with e | e
   ·rw [hnl e];exact hi.thr t e
   ·rw [e.2];exact hn
  ·show OneI x.p x.c.now (nth (x.c.threads++_) t)
   rcases key ht with e | e
   ·rw [hnl e];exact hi.one t e hte
   ·rw [e.2];exact⟨fun _=>rfl,fun h=>by simp [thrNew] at h,fun h=>by simp [thrNew] at h,fun h=>by simp [thrNew] at h,fun h=>by simp [thrNew] at h⟩
  ·rcases key hk with e | e
   ·rw [hnl e] at hs ⊢
    obtain⟨q1,q2,q3,q4⟩:=hi.join k e hs
    refine⟨q1,by rw [hlen];omega,q3,?_⟩
    unfold at' at q4 ⊢
    rw [hnl (by omega)];exact q4
   ·rw [e.2] at hs;simp [thrNew] at hs
  ·have:=hi.mem r k t ht
   show 0≤t∧t<((x.c.threads++[thrNew x.p f]).length:Int)
   omega
  ·show (rowOf x.c r k).count (t:Int)=if (t:Int) = -1 then 0 else want x.p (nth (x.c.threads++_) t).state (nth (x.c.threads++_) t).on r k
   rcases key ht with e | e
   ·rw [hnl e];exact hi.cnt r k t hk e
   ·rw [e.2,if_neg (by omega),want0 (by simp [thrNew]) _ hk]
    refine List.count_eq_zero.2 fun hm=>?_
    have:=hi.mem r k t hm
    omega
  ·show ThingsI x.p (x.c.threads++[thrNew x.p f]).length _
   exact(hi.things.more (by omega)).thr _
 have hx2:Run x.p (seeX {x with c:={x.c with threads:=x.c.threads++[thrNew x.p f] },woken:=x.woken++[(x.c.threads.length:Int)] } 1 x.t x.c.threads.length):=by
  refine⟨hinv,h.p,⟨h.t.1,by show x.t<((x.c.threads++[thrNew x.p f]).length:Int);have:=h.t.2;omega⟩,?_⟩
  show (nth (x.c.threads++_) x.t.toNat).state=0
  rw [hnl (by have:=h.t;omega)];exact h.st
 exact⟨hx2,hinv⟩
theorem spawn_r {p:Prog} (hp:MayP p) {x:Xs} (h:Run p x) {f:Int} (h0:0≤f) (h1:f<p.funcs.length):Res p x (spawnX x f):=by
 obtain e:x.p=p:=h.p
 subst e
 unfold spawnX
 split
 ·have hs:=see_r h.inv 1 x.t (-1)
  exact hs.trans (tell_r hp (x:=seeX x 1 x.t (-1)) ⟨h.inv,h.p,h.t,h.st⟩ [-1])
 ·rename_i hlt
  have hlen:(x.c.threads++[thrNew x.p f]).length=x.c.threads.length+1:=by simp
  have hx2:=(spawn_run hp h h0 h1 hlt).1
  have ht:=tell_r hp hx2 [(x.c.threads.length:Int)]
  refine⟨ht.inv,ht.p.trans rfl,ht.t.trans rfl,fun w hw=>?_,?_⟩
  ·rcases ht.woken w hw with hw | hw
   ·rcases List.mem_append.1 hw with hw | hw
    ·exact .inl hw
    ·simp at hw;subst hw
     have hl2:=ht.len
     have hl3:(x.c.threads++[thrNew x.p f]).length≤(tellF (seeX {x with c:={x.c with threads:=x.c.threads++[thrNew x.p f] },woken:=x.woken++[(x.c.threads.length:Int)] } 1 x.t x.c.threads.length) x.t [(x.c.threads.length:Int)]).c.threads.length:=hl2
     exact .inr ⟨by omega,by omega⟩
   ·exact .inr hw
  ·have hl3:(x.c.threads++[thrNew x.p f]).length≤_:=ht.len
   have:x.c.threads.length≤(x.c.threads++[thrNew x.p f]).length:=by omega
   exact Nat.le_trans this hl3
theorem run_nat {p:Prog} {x:Xs} (h:Run p x):x.t.toNat<x.c.threads.length∧((x.t.toNat:Nat):Int)=x.t∧(nth x.c.threads x.t.toNat).state=0:=⟨by have:=h.t;omega,by have:=h.t;omega,h.st⟩
theorem run_in {p:Prog} {x:Xs} (h:Run p x):ThrI p (nth x.c.threads x.t.toNat):=h.inv.thr _ (run_nat h).1
theorem runs_zero {p:Prog} {x:Xs} (h:Run p x) {r:Int} {k:Nat} (hk:k<nRows p r):(rowOf x.c r k).count x.t=0:=by
 have:=h.inv.zero (run_nat h).1 (.inl ⟨rfl,h.st⟩) (r:=r) (k:=k) hk
 rwa [(run_nat h).2.1] at this
theorem rest_r {p:Prog} {x:Xs} (h:Run p x) {st on:Int} (hst:st=1∧x.c.now<on∧on≤1073741824∨st=2∧0≤on∧on<x.c.threads.length∧on≠x.t∧(at' x.c.threads on).state≠9) (hp:MayP p):Res p x (restX x x.t st on):=by
 obtain⟨h1,h2,h3⟩:=run_nat h
 have hi:=run_in h
 have h32:=hp.threads.2
 have hn:=h.inv.nthr.2
 refine⟨h.inv.change h1 (th:={nth x.c.threads x.t.toNat with state:=st,on:=on }) rfl (h.inv.len.thr _) rfl ⟨by simp;omega,hi.code,hi.fr,hi.sk,hi.frs,hi.sks,fun h=>by simp at h;omega,fun _=>hi.live (by omega)⟩ (.inl rfl) (.inl rfl) (fun _=>?_) (fun e=>by omega) ?_ (fun r k u hu=>.inr hu) (fun r k u _ _=>rfl) (fun r k hk=>?_) (h.inv.things.thr _),rfl,rfl,fun _ h=>.inl h,Nat.le_of_eq (rest_len x x.t st on).symm⟩
 ·exact⟨fun h=>by simp at h;omega,fun h=>by simp at h ⊢;omega,fun h=>by simp at h ⊢;omega,fun h h'=>by simp at h h';omega,fun h=>by simp at h;omega⟩
 ·rcases hst with hst | hst
  ·exact h.inv.join.set (by simp;omega) (.inl (by simp;omega))
  ·suffices hJ:JoinI noD (x.c.threads.set x.t.toNat {nth x.c.threads x.t.toNat with state:=st,on:=on }) from hJ
   intro k hk hs
   rw [List.length_set] at hk
   have goal:∀ {on':Int},0≤on'→on'<x.c.threads.length→on'≠k→(at' x.c.threads on').state≠9→0≤on'∧on'<((x.c.threads.set x.t.toNat {nth x.c.threads x.t.toNat with state:=st,on:=on }).length:Int)∧on'≠k∧((at' (x.c.threads.set x.t.toNat {nth x.c.threads x.t.toNat with state:=st,on:=on }) on').state≠9∨noD k on'):=fun {on'} q1 q2 q3 q4=>by
    rw [List.length_set]
    refine⟨q1,q2,q3,.inl ?_⟩
    unfold at' at q4 ⊢
    rw [nth_set_gen];split
    ·show st≠9;omega
    ·exact q4
   have hn:nth (x.c.threads.set x.t.toNat {nth x.c.threads x.t.toNat with state:=st,on:=on }) k=if x.t.toNat=k∧x.t.toNat<x.c.threads.length then {nth x.c.threads x.t.toNat with state:=st,on:=on } else nth x.c.threads k:=nth_set_gen _ _ _ _
   by_cases e:x.t.toNat=k∧x.t.toNat<x.c.threads.length
   ·rw [if_pos e] at hn
    rw [hn]
    exact goal hst.2.1 hst.2.2.1 (by simp;omega) hst.2.2.2.2
   ·rw [if_neg e] at hn
    rw [hn] at hs ⊢
    obtain⟨q1,q2,q3,q4⟩:=h.inv.join k hk hs
    exact goal q1 q2 q3 (q4.resolve_right id)
 ·rw [if_neg (by omega),want0 (by simp;omega) _ hk,h2]
  exact runs_zero h hk
theorem join_r {p:Prog} (hp:MayP p) {x:Xs} (h:Run p x) (v:Int):Res p x (joinX x v):=by
 unfold joinX
 split
 ·exact end_r hp h (by omega) (by omega)
 ·split
  ·exact tell_r hp h _
  ·exact rest_r h (.inr ⟨rfl,by omega,by omega,by omega,by assumption⟩) hp
theorem enter_r {p:Prog} {x:Xs} (h:Run p x) {c':Cor} {r a:Int} (h0:0≤a) (hk:a.toNat<nRows p r) (hrow:∀ r' k',rowOf c' r' k'=if r'=r∧k'=a.toNat then rowOf x.c r a.toNat++[x.t] else rowOf x.c r' k')
  (hth:c'.threads=x.c.threads) (hlen:LenI p c') (hnow:c'.now=x.c.now) (hI:ThingsI p x.c.threads.length c'):Res p x (restX {x with c:=c' } x.t r a):=by
 obtain⟨h1,h2,h3⟩:=run_nat h
 refine⟨h.inv.enter h1 (.inl ⟨rfl,h3⟩) (by omega) hk (c':=(restX {x with c:=c' } x.t r a).c) (fun r' k'=>?_) ?_ (hlen.thr _) hnow (hI.thr _),rfl,rfl,fun _ h=>.inl h,?_⟩
 ·rw [h2];exact hrow r' k'
 ·show c'.threads.set x.t.toNat {nth c'.threads x.t.toNat with state:=r,on:=a } = _
  rw [hth,show ((a.toNat:Nat):Int)=a by omega]
 ·show x.c.threads.length≤(c'.threads.set _ _).length
  rw [List.length_set,hth];exact Nat.le_refl _
theorem same_r {p:Prog} {x:Xs} (h:Inv p (-1) noD x.c) {c':Cor} (hth:c'.threads=x.c.threads) (hnow:c'.now=x.c.now) (hlen:LenI p c') (hrow:∀ r k,rowOf c' r k=rowOf x.c r k) (hI:ThingsI p x.c.threads.length c'):Res p x {x with c:=c' }:=
 ⟨h.same hth hnow hlen hrow hI,rfl,rfl,fun _ h=>.inl h,by show _≤c'.threads.length;rw [hth];exact Nat.le_refl _⟩
theorem lock_r {p:Prog} {x:Xs} (h:Run p x) {a:Int} (h0:0≤a) (h1:a<p.mutexes):Res p x (if (lockC x.c a x.t).2=true then {x with c:=(lockC x.c a x.t).1 } else restX {x with c:=(lockC x.c a x.t).1 } x.t 3 a):=by
 have hl:=h.inv.len
 unfold lockC
 by_cases ho:0≤at' x.c.owners a
 ·simp only [if_pos ho,Bool.false_eq_true,if_false]
  refine enter_r h h0 (by simp [nRows];omega) (fun r' k'=>?_) rfl (hl.lockq' _ _) rfl (h.inv.things.lockset _ _ (by show at' x.c.owners a≠ -1;omega))
  rw [row_set3 (by rw [hl.lockq];omega)];simp [rowOf,at']
 ·simp only [if_neg ho,if_true]
  exact same_r h.inv rfl rfl (hl.owners' _ _) (fun _ _=>rfl) (h.inv.things.owner _ h.t.1 h.t.2)
theorem unlock_i {p:Prog} {c:Cor} {ex:Int} (hex:ex = -1) (h:Inv p ex noD c) {m t:Int} (h0:0≤m) (h1:m<p.mutexes) (ho:at' c.owners m=t) (ht:0≤t) :
  ((unlockC c m t).2.2=0)∧(unlockC c m t).1.threads=c.threads∧(((unlockC c m t).2.1 = -1∧Inv p (-1) noD (unlockC c m t).1)∨
   ((0≤(unlockC c m t).2.1∧(unlockC c m t).2.1<c.threads.length∧(at' c.threads (unlockC c m t).2.1).state≠9∧(at' c.threads (unlockC c m t).2.1).state≠0)∧Inv p (unlockC c m t).2.1 noD (unlockC c m t).1)):=by
 subst hex
 have hl:=h.len
 unfold unlockC
 rw [if_neg (by omega)]
 by_cases hq:0<(at' c.lockq m).length
 ·simp only [if_pos hq]
  refine⟨trivial,trivial,.inr ?_⟩
  have hhd:rowOf c 3 m.toNat=nth (at' c.lockq m) 0 :: (at' c.lockq m).drop 1:=by
   show nth c.lockq m.toNat=_
   exact head_nth hq
  have hmem:=h.mem 3 m.toNat (nth (at' c.lockq m) 0) (by rw [hhd];simp)
  have hlt:m.toNat<c.owners.length:=by rw [hl.owners];omega
  have hI:ThingsI p c.threads.length {c with owners:=c.owners.set m.toNat (nth (at' c.lockq m) 0),lockq:=c.lockq.set m.toNat ((at' c.lockq m).drop 1) }:=
   (h.things.owner m.toNat hmem.1 hmem.2).lockset m.toNat _ (by show nth (c.owners.set _ _) _≠ -1;rw [nth_set hlt];omega)
  exact h.leave (r:=3) (k:=m.toNat) (by simp [nRows];omega) (by omega) hhd (fun r' k'=>by
   show rowOf {c with lockq:=c.lockq.set m.toNat _ } r' k'=_
   rw [row_set3 (by rw [hl.lockq];omega)]) rfl ((hl.owners' _ _).lockq' _ _) rfl hI
 ·simp only [if_neg hq]
  have hq0:nth c.lockq m.toNat=[]:=List.length_eq_zero_iff.1 (by unfold at' at hq;omega)
  exact⟨trivial,trivial,.inl ⟨trivial,h.same rfl rfl (hl.owners' _ _) (fun _ _=>rfl) (h.things.free _ hq0)⟩⟩
theorem unlock_r {p:Prog} (hp:MayP p) {x:Xs} (h:Run p x) {a:Int} (h0:0≤a) (h1:a<p.mutexes):Res p x (if (unlockC x.c a x.t).2.2=0 then wakeF {x with c:=(unlockC x.c a x.t).1 } (unlockC x.c a x.t).2.1 [] else endF x x.t 4):=by
 by_cases ho:at' x.c.owners a=x.t
 ·obtain⟨e1,e2,e3⟩:=unlock_i rfl h.inv h0 h1 ho h.t.1
  rw [if_pos e1]
  rcases e3 with ⟨e3,e4⟩ | ⟨e3,e4⟩
  ·rw [e3,wakeF_no _ (by omega)]
   exact⟨e4,rfl,rfl,fun _ h=>.inl h,by show _≤(unlockC x.c a x.t).1.threads.length;rw [e2];exact Nat.le_refl _⟩
  ·have:=wake_r hp (x:={x with c:=(unlockC x.c a x.t).1 }) e4 e3.1 (by show _<((unlockC x.c a x.t).1.threads.length:Int);rw [e2];exact e3.2.1) []
   exact⟨this.inv,this.p,this.t,this.woken,by have:=this.len;rw [show ({x with c:=(unlockC x.c a x.t).1 } : Xs).c.threads.length=x.c.threads.length from by show (unlockC x.c a x.t).1.threads.length=_;rw [e2]] at this;exact this⟩
 ·have e:(unlockC x.c a x.t).2.2=10:=by unfold unlockC;rw [if_pos ho]
  rw [e,if_neg (by omega)]
  exact end_r hp h (by omega) (by omega)
theorem wait_r {p:Prog} (hp:MayP p) {x:Xs} (h:Run p x) {a:Int} (h0:0≤a) (h1:a<p.conds.length) :
  Res p x (if (waitC x.c a (at' p.conds a) x.t).2.2=0 then restX (wakeF {x with c:=(waitC x.c a (at' p.conds a) x.t).1 } (waitC x.c a (at' p.conds a) x.t).2.1 []) x.t 4 a else endF x x.t 4):=by
 have hm:=hp.conds.2 _ (at_in h0 h1)
 generalize at' p.conds a=m at *
 by_cases ho:at' x.c.owners m=x.t
 ·obtain⟨e1,e2,e3⟩:=unlock_i rfl h.inv hm.1 hm.2 ho h.t.1
  have hl:=h.inv.len
  have hw:(waitC x.c a m x.t)=({(unlockC x.c m x.t).1 with waitq:=(unlockC x.c m x.t).1.waitq.set a.toNat (at' (unlockC x.c m x.t).1.waitq a++[x.t]) },(unlockC x.c m x.t).2.1,(unlockC x.c m x.t).2.2):=by
   unfold waitC;rw [if_neg (by omega)]
  rw [hw]
  simp only [e1,if_true]
  have hres:Res p x (wakeF {x with c:=(unlockC x.c m x.t).1 } (unlockC x.c m x.t).2.1 []):=by
   have:=unlock_r hp h hm.1 hm.2
   rwa [if_pos e1] at this
  have hx2:Run p (wakeF {x with c:=(unlockC x.c m x.t).1 } (unlockC x.c m x.t).2.1 []):=by
   refine⟨hres.inv,hres.p.trans h.p,⟨by rw [hres.t];exact h.t.1,by rw [hres.t];have:=h.t.2;have:=hres.len;omega⟩,?_⟩
   rw [hres.t]
   rcases e3 with ⟨e3,e4⟩ | ⟨e3,e4⟩
   ·rw [e3,wakeF_no _ (by omega)]
    show (at' (unlockC x.c m x.t).1.threads x.t).state=0
    rw [e2];exact h.st
   ·rw [wakeF_nil _ e3.1 (by show _<((unlockC x.c m x.t).1.threads.length:Int);rw [e2];exact e3.2.1)]
    show (nth (withT (unlockC x.c m x.t).1 (unlockC x.c m x.t).2.1 _).threads x.t.toNat).state=0
    rw [withT_nth e3.1 (by rw [e2];exact e3.2.1)]
    split
    ·rfl
    ·rw [e2];exact h.st
  have hE:∀ (w:Int),(w<0∨(0≤w∧w<(unlockC x.c m x.t).1.threads.length))→wakeF {x with c:={(unlockC x.c m x.t).1 with waitq:=(unlockC x.c m x.t).1.waitq.set a.toNat (at' (unlockC x.c m x.t).1.waitq a++[x.t]) } } w [] =
    {wakeF {x with c:=(unlockC x.c m x.t).1 } w [] with c:={(wakeF {x with c:=(unlockC x.c m x.t).1 } w []).c with waitq:=(wakeF {x with c:=(unlockC x.c m x.t).1 } w []).c.waitq.set a.toNat (at' (wakeF {x with c:=(unlockC x.c m x.t).1 } w []).c.waitq a++[x.t]) } }:=fun w hw=>by
   rcases hw with hw | hw
   ·rw [wakeF_no _ hw,wakeF_no _ hw]
   ·rw [wakeF_nil _ hw.1 hw.2,wakeF_nil _ hw.1 hw.2];rfl
  rw [hE _ (e3.elim (fun e3=>.inl (by omega)) fun e3=>.inr ⟨e3.1.1,by rw [e2];exact e3.1.2.1⟩)]
  have ht:=hres.t
  have ht2:(wakeF {x with c:=(unlockC x.c m x.t).1 } (unlockC x.c m x.t).2.1 []).t=x.t:=ht
  refine hres.trans ?_
  generalize wakeF {x with c:=(unlockC x.c m x.t).1 } (unlockC x.c m x.t).2.1 []=y at *
  rw [← ht2]
  have hly:=hx2.inv.len
  refine enter_r hx2 h0 (by simp [nRows];omega) (fun r' k'=>?_) rfl (hly.waitq' _ _) rfl (hx2.inv.things.waits _)
  rw [row_set4 (by rw [hly.waitq];omega)];simp [rowOf,at']
 ·have e:(waitC x.c a m x.t).2.2=10:=by unfold waitC unlockC;rw [if_pos ho];rfl
  rw [e,if_neg (by omega)]
  exact end_r hp h (by omega) (by omega)
theorem sigStep_r {p:Prog} (hp:MayP p) {x:Xs} (h:Inv p (-1) noD x.c) {a m:Int} (h0:0≤a) (h1:a<p.conds.length) (hm0:0≤m) (hm1:m<p.mutexes) (hq:(at' x.c.waitq a).length≠0):Res p x (sigStep m a x)∧((sigStep m a x).c.waitq=x.c.waitq.set a.toNat ((at' x.c.waitq a).drop 1)):=by
 have hl:=h.len
 have hhd:rowOf x.c 4 a.toNat=nth (at' x.c.waitq a) 0 :: (at' x.c.waitq a).drop 1:=by
  show nth x.c.waitq a.toNat=_
  exact head_nth (by unfold at' at hq;omega)
 obtain⟨hw,hlv⟩:=h.leave (r:=4) (k:=a.toNat) (c':={x.c with waitq:=x.c.waitq.set a.toNat ((at' x.c.waitq a).drop 1) }) (by simp [nRows];omega) (by omega) hhd (fun r' k'=>row_set4 (by rw [hl.waitq];omega) _ _ _) rfl (hl.waitq' _ _) rfl (h.things.waits _)
 unfold sigStep signalC
 rw [if_neg hq]
 simp only
 generalize nth (at' x.c.waitq a) 0=w at *
 obtain⟨w,rfl⟩:∃ n:Nat,w=n:=⟨w.toNat,by omega⟩
 unfold lockC
 by_cases ho:0≤at' x.c.owners m
 ·simp only [if_pos ho,Bool.false_eq_true,if_false]
  have hl2:=hlv.len
  refine⟨⟨hlv.enter (t:=w) (by have:=hw.2.1;simpa using this) (.inr rfl) hw.2.2.1 (r:=3) (k:=m.toNat) (by simp [nRows];omega) (fun r' k'=>?_) ?_ ((hl2.lockq' _ _).thr _) rfl ((hlv.things.lockset m.toNat (at' x.c.lockq m++[(w:Int)]) (by show at' x.c.owners m≠ -1;omega)).thr _),rfl,rfl,fun _ h=>.inl h,?_⟩,rfl⟩
  ·show rowOf {({x.c with waitq:=x.c.waitq.set a.toNat ((at' x.c.waitq a).drop 1) } : Cor) with lockq:=x.c.lockq.set m.toNat (at' x.c.lockq m++[(w:Int)]) } r' k'=_
   rw [row_set3 (c:={x.c with waitq:=x.c.waitq.set a.toNat ((at' x.c.waitq a).drop 1) }) (by show _<x.c.lockq.length;rw [hl.lockq];omega)]
   simp [rowOf,at']
  ·show x.c.threads.set _ _=x.c.threads.set _ _
   rw [show ((m.toNat:Nat):Int)=m by omega];rfl
  ·exact Nat.le_of_eq (rest_len _ _ _ _).symm
 ·simp only [if_neg ho,if_true]
  have hI:Inv p w noD {({x.c with waitq:=x.c.waitq.set a.toNat ((at' x.c.waitq a).drop 1) } : Cor) with owners:=x.c.owners.set m.toNat (w:Int) }:=
   hlv.same rfl rfl (hlv.len.owners' _ _) (fun _ _=>rfl) (hlv.things.owner m.toNat hw.1 hw.2.1)
  have:=wake_r hp (x:={x with c:={x.c with waitq:=x.c.waitq.set a.toNat ((at' x.c.waitq a).drop 1),owners:=x.c.owners.set m.toNat (w:Int) } }) hI hw.1 hw.2.1 []
  refine⟨⟨this.inv,this.p,this.t,this.woken,this.len⟩,?_⟩
  rw [wakeF_nil {x with c:={x.c with waitq:=x.c.waitq.set a.toNat ((at' x.c.waitq a).drop 1),owners:=x.c.owners.set m.toNat (w:Int) } } hw.1 hw.2.1];rfl
theorem sig_r {p:Prog} (hp:MayP p) (kind:Int) {a m:Int} (h0:0≤a) (h1:a<p.conds.length) (hm0:0≤m) (hm1:m<p.mutexes):∀ (n:Nat) {x:Xs},Inv p (-1) noD x.c→Res p x (sigX kind m a n x)
 | 0,x,h=>.refl h
 | n+1,x,h=>by
  unfold sigX
  split
  ·exact .refl h
  ·rename_i hq
   have h1':=(sigStep_r hp h h0 h1 hm0 hm1 hq).1
   split
   ·exact h1'
   ·exact h1'.trans (sig_r hp kind h0 h1 hm0 hm1 n h1'.inv)
theorem mutex_r {p:Prog} (hp:MayP p) {x:Xs} (h:Run p x) {q:Req} (hq:ReqI p q) (hk:q.kind=6∨q.kind=7∨q.kind=8∨q.kind=9∨q.kind=10):Res p x (mutexX x q.kind q.a):=by
 obtain e:x.p=p:=h.p
 subst e
 unfold mutexX
 by_cases h6:q.kind=6
 ·rw [if_pos h6]
  have:=hq.mutex (.inl h6)
  exact lock_r h this.1 this.2
 rw [if_neg h6]
 by_cases h7:q.kind=7
 ·rw [if_pos h7]
  have:=hq.mutex (.inr h7)
  exact unlock_r hp h this.1 this.2
 rw [if_neg h7]
 have hc:=hq.cond (by omega)
 by_cases h8:q.kind=8
 ·rw [if_pos h8]
  exact wait_r hp h hc.1 hc.2
 rw [if_neg h8]
 have hm:=hp.conds.2 _ (at_in hc.1 hc.2)
 exact sig_r hp _ hc.1 hc.2 hm.1 hm.2 _ h.inv
theorem sema_r {p:Prog} (hp:MayP p) {x:Xs} (h:Run p x) {kind a:Int} (h0:0≤a) (h1:a<p.semas.length):Res p x (semaX x kind a):=by
 have hl:=h.inv.len
 have hc:=h.inv.things.counts a.toNat (by rw [hl.counts];omega)
 have hs:=h.inv.things.sema a.toNat (by rw [hl.counts];omega)
 unfold semaX
 split
 ·unfold downC
  by_cases ho:at' x.c.counts a=0
  ·simp only [if_pos ho,Bool.false_eq_true,if_false]
   refine enter_r h h0 (by simp [nRows];omega) (fun r' k'=>?_) rfl (hl.downq' _ _) rfl (h.inv.things.downset _ _ ho)
   rw [row_set5 (by rw [hl.downq];omega)];simp [rowOf,at']
  ·simp only [if_neg ho,if_true]
   unfold at' at ho
   exact same_r h.inv rfl rfl (hl.counts' _ _) (fun _ _=>rfl) (h.inv.things.count _ (by unfold at';omega) (by unfold at';omega) (.inr (hs.resolve_left ho)))
 ·unfold upC
  by_cases hq:(at' x.c.downq a).length=0
  ·rw [if_pos hq]
   have hq0:nth x.c.downq a.toNat=[]:=List.length_eq_zero_iff.1 hq
   split
   ·rw [wakeF_no _ (by omega)]
    exact same_r h.inv rfl rfl (hl.counts' _ _) (fun _ _=>rfl) (h.inv.things.count _ (by unfold at';omega) (by unfold at' at *;omega) (.inr hq0))
   ·rw [wakeF_no _ (by omega)]
    exact .refl h.inv
  ·rw [if_neg hq]
   have hhd:rowOf x.c 5 a.toNat=nth (at' x.c.downq a) 0 :: (at' x.c.downq a).drop 1:=by
    show nth x.c.downq a.toNat=_
    exact head_nth (by unfold at' at hq;omega)
   have h00:nth x.c.counts a.toNat=0:=hs.resolve_right fun e=>hq (by unfold at';rw [e];rfl)
   obtain⟨hw,hlv⟩:=h.inv.leave (r:=5) (k:=a.toNat) (c':={x.c with downq:=x.c.downq.set a.toNat ((at' x.c.downq a).drop 1) }) (by simp [nRows];omega) (by omega) hhd (fun r' k'=>row_set5 (by rw [hl.downq];omega) _ _ _) rfl (hl.downq' _ _) rfl (h.inv.things.downset _ _ h00)
   have:=wake_r hp (x:={x with c:={x.c with downq:=x.c.downq.set a.toNat ((at' x.c.downq a).drop 1) } }) hlv hw.1 hw.2.1 []
   exact⟨this.inv,this.p,this.t,this.woken,this.len⟩
end Go.Hb
end
section
namespace Go.Hb
open Go
theorem nth_pair {l:List Int} {t v:Int} (i:Nat):nth (l++[t,v]) i=if i<l.length then nth l i else if i=l.length then t else if i=l.length+1 then v else 0:=by
 unfold nth
 simp only [List.getD_eq_getElem?_getD]
 by_cases h:i<l.length
 ·rw [if_pos h,List.getElem?_append_left h]
 ·rw [if_neg h,List.getElem?_append_right (by omega)]
  by_cases h2:i=l.length
  ·rw [if_pos h2,h2];simp
  ·rw [if_neg h2]
   by_cases h3:i=l.length+1
   ·rw [if_pos h3,h3];simp
   ·rw [if_neg h3,List.getElem?_eq_none (by simp;omega)];rfl
theorem nth_drop' {α : Type} [Enc α] (l:List α) (n i:Nat):nth (l.drop n) i=nth l (n+i):=by simp [nth,List.getD_eq_getElem?_getD]
theorem filter_nil {l:List Int} {f:Int→Bool} (h:l=[]):l.filter f=[]:=by rw [h];rfl
theorem nth_map_filter (L:List (List Int)) (f:Int→Bool) (k:Nat):nth (L.map fun l=>l.filter f) k=(nth L k).filter f:=by
 by_cases hk:k<L.length
 ·rw [nth_eq (by simpa using hk),nth_eq hk];simp
 ·rw [nth_out (by simp;omega),nth_out (by omega)];rfl
theorem ThingsI.cancel {p:Prog} {n:Nat} {c:Cor} (h:ThingsI p n c) (t:Int):ThingsI p n (cancelC c t):=by
 refine⟨h.owners,h.counts,h.mutex,h.sema,fun k hk=>?_⟩
 have hc:=h.chan k hk
 show ChanI p k (nth c.bufs k) (nth c.sendq k) (nth (c.recvq.map _) k)
 rw [nth_map_filter]
 exact⟨hc.recv.imp filter_nil id,hc.send,hc.room,hc.bk,hc.even,hc.sk⟩
theorem ChanI.pop {p:Prog} {k:Nat} {b s r:List Int} (h:ChanI p k b s r):s.drop 2=s.drop 2∧(s.drop 2).length % 2=0∧∀ i,i*2+1<(s.drop 2).length→ -1073741824≤nth (s.drop 2) (i*2+1)∧nth (s.drop 2) (i*2+1)≤1073741824:=by
 refine⟨rfl,by have:=h.even;rw [List.length_drop];omega,fun i hi=>?_⟩
 rw [List.length_drop] at hi
 rw [nth_drop',show 2+(i*2+1)=(i+1)*2+1 by omega]
 exact h.sk (i+1) (by omega)
section
variable {p:Prog} {x:Xs} {a:Int}
theorem send_r (hp:MayP p) (h:Run p x) {v:Int} (hv : -1073741824≤v∧v≤1073741824) (h0:0≤a) (h1:a<p.chans.length) {q:Req} (hq:q.kind=13) (ha:q.a=a) (hqv:q.v=v):Res p x (chanX x q):=by
 obtain e:x.p=p:=h.p
 subst e
 subst ha;subst hqv
 have hl:=h.inv.len
 have hn:q.a.toNat<x.p.chans.length:=by omega
 have hch:=h.inv.things.chan q.a.toNat hn
 unfold chanX
 rw [if_pos hq]
 simp only
 by_cases hr:0<(at' x.c.recvq q.a).length
 ·have hs:sendC x.c q.a (at' x.p.chans q.a) x.t q.v=(cancelC x.c (nth (at' x.c.recvq q.a) 0),nth (at' x.c.recvq q.a) 0,true):=by unfold sendC;rw [if_pos hr]
  rw [hs]
  simp only [Bool.true_eq_false,if_false]
  obtain⟨hw,hcn⟩:=h.inv.cancel (k:=q.a.toNat) (t:=nth (at' x.c.recvq q.a) 0) (by simp [nRows];omega) (nth_mem hr) (h.inv.things.cancel _)
  rw [if_neg (by omega)]
  generalize nth (at' x.c.recvq q.a) 0=w at *
  have key:∀ l,Res x.p x (wakeF {x with c:=cancelC x.c w } w l):=fun l=>by
   have:=wake_r hp (x:={x with c:=cancelC x.c w }) hcn hw.1 hw.2.1 l
   exact⟨this.inv,this.p,this.t,this.woken,this.len⟩
  split
  ·exact key _
  ·exact key _
 by_cases hb:((at' x.c.bufs q.a).length:Int)<at' x.p.chans q.a
 ·have hs:sendC x.c q.a (at' x.p.chans q.a) x.t q.v=({x.c with bufs:=x.c.bufs.set q.a.toNat (at' x.c.bufs q.a++[q.v]) }, -1,true):=by unfold sendC;rw [if_neg hr,if_pos hb]
  rw [hs]
  simp only [Bool.true_eq_false,if_false]
  rw [if_pos (by omega)]
  have hr0:nth x.c.recvq q.a.toNat=[]:=List.length_eq_zero_iff.1 (by unfold at' at hr;omega)
  have hs0:nth x.c.sendq q.a.toNat=[]:=hch.send.resolve_right (by unfold at' at hb;omega)
  refine same_r h.inv rfl rfl (hl.bufs' _ _) (fun _ _=>rfl) (h.inv.things.chans (c:=x.c) (B:=x.c.bufs.set q.a.toNat (at' x.c.bufs q.a++[q.v])) (S:=x.c.sendq) (R:=x.c.recvq) fun k hk=>?_)
  rw [nth_set_gen]
  by_cases e:q.a.toNat=k
  ·subst e
   rw [if_pos ⟨rfl,by rw [hl.bufs];exact hn⟩]
   refine .inr ⟨.inl hr0,.inl hs0,?_,kept_app hch.bk (fun y hy=>by simp at hy;subst hy;exact hv),hch.even,hch.sk⟩
   unfold at' at hb ⊢
   simp;omega
  ·rw [if_neg (fun h=>e h.1)]
   exact .inl ⟨rfl,rfl,rfl⟩
 ·have hs:sendC x.c q.a (at' x.p.chans q.a) x.t q.v=({x.c with sendq:=x.c.sendq.set q.a.toNat (at' x.c.sendq q.a++[x.t,q.v]) }, -1,false):=by unfold sendC;rw [if_neg hr,if_neg hb]
  rw [hs]
  simp only [if_true]
  have hr0:nth x.c.recvq q.a.toNat=[]:=List.length_eq_zero_iff.1 (by unfold at' at hr;omega)
  refine enter_r h h0 (by simp [nRows];omega) (fun r' k'=>?_) rfl (hl.sendq' _ _) rfl (h.inv.things.chans (c:=x.c) (B:=x.c.bufs) (S:=x.c.sendq.set q.a.toNat (at' x.c.sendq q.a++[x.t,q.v])) (R:=x.c.recvq) fun k hk=>?_)
  ·rw [row_set6 (by rw [hl.sendq];exact hn)];unfold at';rw [evens_app _ _ hch.even];simp [rowOf]
  ·rw [nth_set_gen]
   by_cases e:q.a.toNat=k
   ·subst e
    rw [if_pos ⟨rfl,by rw [hl.sendq];exact hn⟩]
    refine .inr ⟨.inl hr0,.inr ?_,hch.room,hch.bk,?_,fun i hi=>?_⟩
    ·have:=hch.room;unfold at' at hb;omega
    ·have:=hch.even;unfold at';simp;omega
    ·have he:=hch.even
     have hsk:=hch.sk i
     unfold at' at hi ⊢
     rw [nth_pair]
     simp at hi
     split
     ·exact hsk (by omega)
     ·rw [if_neg (by omega),if_pos (by omega)];exact hv
   ·rw [if_neg (fun h=>e h.1)]
    exact .inl ⟨rfl,rfl,rfl⟩
theorem recv_i {p:Prog} {c:Cor} (h:Inv p (-1) noD c) {ch t:Int} (h0:0≤ch) (h1:ch<p.chans.length) (hr:readyC c ch=true) :
  (recvC c ch t).2.2.2=true∧(recvC c ch t).1.threads=c.threads∧(((recvC c ch t).2.2.1 = -1∧Inv p (-1) noD (recvC c ch t).1)∨
   ((0≤(recvC c ch t).2.2.1∧(recvC c ch t).2.2.1<c.threads.length∧(at' c.threads (recvC c ch t).2.2.1).state≠9∧(at' c.threads (recvC c ch t).2.2.1).state≠0)∧Inv p (recvC c ch t).2.2.1 noD (recvC c ch t).1)):=by
 have hl:=h.len
 have hn:ch.toNat<p.chans.length:=by omega
 have hch:=h.things.chan ch.toNat hn
 have he:=hch.even
 have hpop:=hch.pop.2
 have hrow:∀ {B:List (List Int)},0<(nth c.sendq ch.toNat).length→∀ r' k',rowOf {c with bufs:=B,sendq:=c.sendq.set ch.toNat ((nth c.sendq ch.toNat).drop 2) } r' k'=if r'=6∧k'=ch.toNat then evens ((nth c.sendq ch.toNat).drop 2) else rowOf c r' k':=fun {B} hs r' k'=>by
  have:=row_set6 (c:={c with bufs:=B }) (m:=ch.toNat) (by show _<c.sendq.length;rw [hl.sendq];exact hn) ((nth c.sendq ch.toNat).drop 2) r' k'
  exact this
 have hhd:0<(nth c.sendq ch.toNat).length→rowOf c 6 ch.toNat=nth (nth c.sendq ch.toNat) 0 :: evens ((nth c.sendq ch.toNat).drop 2):=fun hs=>by
  show evens (nth c.sendq ch.toNat)=_
  exact evens_head (by omega)
 have hrb:∀ {B:List (List Int)},(∀ k,k≠ch.toNat→nth B k=nth c.bufs k)→0<(nth c.sendq ch.toNat).length→((nth B ch.toNat).length:Int)=nth p.chans ch.toNat→kept' (nth B ch.toNat)→ThingsI p c.threads.length {c with bufs:=B,sendq:=c.sendq.set ch.toNat ((nth c.sendq ch.toNat).drop 2) }:=fun {B} hB hs hlen hk=>by
  have hr0:nth c.recvq ch.toNat=[]:=hch.recv.resolve_right fun e=>by have:=e.2;rw [this] at hs;simp at hs
  refine h.things.chans (c:=c) (R:=c.recvq) fun k hk'=>?_
  rw [nth_set_gen]
  by_cases e:ch.toNat=k
  ·subst e
   rw [if_pos ⟨rfl,by rw [hl.sendq];exact hn⟩]
   exact .inr ⟨.inl hr0,.inr hlen,by omega,hk,hpop.1,hpop.2⟩
  ·rw [if_neg (fun h=>e h.1)]
   exact .inl ⟨hB k (fun h=>e h.symm),rfl,rfl⟩
 unfold recvC at'
 by_cases hb:0<(nth c.bufs ch.toNat).length
 ·rw [if_pos hb]
  by_cases hs:0<(nth c.sendq ch.toNat).length
  ·rw [if_pos hs]
   have hfull:((nth c.bufs ch.toNat).length:Int)=nth p.chans ch.toNat:=hch.send.resolve_left fun e=>by rw [e] at hs;simp at hs
   have hself:nth (c.bufs.set ch.toNat ((nth c.bufs ch.toNat).drop 1++[nth (nth c.sendq ch.toNat) 1])) ch.toNat=(nth c.bufs ch.toNat).drop 1++[nth (nth c.sendq ch.toNat) 1]:=nth_set (by rw [hl.bufs];exact hn) _
   have hI:=hrb (B:=c.bufs.set ch.toNat ((nth c.bufs ch.toNat).drop 1++[nth (nth c.sendq ch.toNat) 1])) (fun k hk=>nth_set_ne (fun e=>hk e.symm) _) hs (by rw [hself];simp;omega) (by
    rw [hself]
    exact kept_app (kept_drop hch.bk 1) (fun y hy=>by simp at hy;subst hy;exact hch.sk 0 (by omega)))
   exact⟨rfl,rfl,.inr (h.leave (r:=6) (k:=ch.toNat) (by simp [nRows];omega) (by omega) (hhd hs) (hrow hs) rfl ((hl.bufs' _ _).sendq' _ _) rfl hI)⟩
  ·rw [if_neg hs]
   have hs0:nth c.sendq ch.toNat=[]:=List.length_eq_zero_iff.1 (by omega)
   refine⟨rfl,rfl,.inl ⟨rfl,h.same rfl rfl (hl.bufs' _ _) (fun _ _=>rfl) (h.things.chans (c:=c) (S:=c.sendq) (R:=c.recvq) fun k hk=>?_)⟩⟩
   rw [nth_set_gen]
   by_cases e:ch.toNat=k
   ·subst e
    rw [if_pos ⟨rfl,by rw [hl.bufs];exact hn⟩]
    refine .inr ⟨.inl (hch.recv.resolve_right fun e=>by have:=e.1;rw [this] at hb;simp at hb),.inl hs0,?_,kept_drop hch.bk 1,hch.even,hch.sk⟩
    have:=hch.room
    simp;omega
   ·rw [if_neg (fun h=>e h.1)]
    exact .inl ⟨rfl,rfl,rfl⟩
 ·rw [if_neg hb]
  have hs:0<(nth c.sendq ch.toNat).length:=by unfold readyC at' at hr;simp at hr;omega
  rw [if_pos hs]
  have hfull:((nth c.bufs ch.toNat).length:Int)=nth p.chans ch.toNat:=hch.send.resolve_left fun e=>by rw [e] at hs;simp at hs
  have hI:=hrb (B:=c.bufs) (fun k hk=>rfl) hs hfull hch.bk
  exact⟨rfl,rfl,.inr (h.leave (r:=6) (k:=ch.toNat) (by simp [nRows];omega) (by omega) (hhd hs) (hrow hs) rfl (hl.sendq' _ _) rfl hI)⟩
theorem got_r (hp:MayP p) (h:Run p x) {c':Cor} {s:Int} (l:List Int) (hth:c'.threads=x.c.threads)
  (hs:(s = -1∧Inv p (-1) noD c')∨((0≤s∧s<x.c.threads.length∧(at' x.c.threads s).state≠9∧(at' x.c.threads s).state≠0)∧Inv p s noD c')):Res p x (wakeF (tellF {x with c:=c' } x.t l) s []):=by
 have hinv:∃ ex,Inv p ex noD c':=by
  rcases hs with hs | hs
  ·exact⟨_,hs.2⟩
  ·exact⟨_,hs.2⟩
 obtain⟨ex,hi⟩:=hinv
 have hat:at' c'.threads x.t=at' x.c.threads x.t:=by rw [hth]
 have ht:=tell_i (end_i p fu) (D:=noD) (x:={x with c:=c' }) (t:=x.t) (l:=l) h.t.1 (by show x.t<(c'.threads.length:Int);rw [hth];exact h.t.2) (by show (at' c'.threads x.t).state=0;rw [hat];exact h.st) (by show (at' c'.threads x.t).on=0;rw [hat];exact h.on) (Inv.all (x:={x with c:=c' }) hi) (hi.c2 hp) hi.join
 have hlen:(tellF {x with c:=c' } x.t l).c.threads.length=x.c.threads.length:=by
  have:=ht.1.len
  rw [show ({x with c:=c' } : Xs).c.threads.length=x.c.threads.length from congrArg List.length hth] at this
  exact this
 have hwk:∀ w∈(tellF {x with c:=c' } x.t l).woken,w∈x.woken∨(0≤w∧w<x.c.threads.length):=fun w hw=>by
  have:=ht.1.woken w hw
  rw [show ({x with c:=c' } : Xs).c.threads.length=x.c.threads.length from congrArg List.length hth] at this
  exact this
 rcases hs with ⟨rfl,hs⟩ | ⟨hs,hs2⟩
 ·rw [wakeF_no _ (by omega)]
  have:=hs.ev (x:={x with c:=c' }) ht.1 ht.2
  exact⟨this,ht.1.p,ht.1.t,by rw [hlen];exact hwk,by rw [hlen];exact Nat.le_refl _⟩
 ·have hx:=hs2.ev (x:={x with c:=c' }) ht.1 ht.2
  have:=wake_r hp (x:=tellF {x with c:=c' } x.t l) hx hs.1 (by rw [hlen];exact hs.2.1) []
  refine⟨this.inv,this.p.trans ht.1.p,this.t.trans ht.1.t,fun w hw=>?_,by have:=this.len;omega⟩
  have hl:=this.len
  rcases this.woken w hw with hw | hw
  ·rcases hwk w hw with hw | hw
   ·exact .inl hw
   ·exact .inr ⟨hw.1,by omega⟩
  ·exact .inr hw
theorem recv_r (hp:MayP p) (h:Run p x) {q:Req} (hq:q.kind=14) (h0:0≤q.a) (h1:q.a<p.chans.length):Res p x (chanX x q):=by
 have hl:=h.inv.len
 unfold chanX
 rw [if_neg (by omega),if_pos hq]
 simp only
 by_cases hr:readyC x.c q.a=true
 ·obtain⟨e1,e2,e3⟩:=recv_i (t:=x.t) h.inv h0 h1 hr
  rw [e1]
  simp only [Bool.true_eq_false,if_false]
  exact got_r hp h _ e2 e3
 ·have hn:¬ 0<(at' x.c.bufs q.a).length∧¬ 0<(at' x.c.sendq q.a).length:=by unfold readyC at hr;simp at hr;simp [hr]
  have hrc:recvC x.c q.a x.t=({x.c with recvq:=x.c.recvq.set q.a.toNat (at' x.c.recvq q.a++[x.t]) },0, -1,false):=by unfold recvC;rw [if_neg hn.1,if_neg hn.2]
  rw [hrc]
  simp only [if_true]
  have hb0:nth x.c.bufs q.a.toNat=[]:=List.length_eq_zero_iff.1 (by have:=hn.1;unfold at' at this;omega)
  have hs0:nth x.c.sendq q.a.toNat=[]:=List.length_eq_zero_iff.1 (by have:=hn.2;unfold at' at this;omega)
  refine enter_r h h0 (by simp [nRows];omega) (fun r' k'=>?_) rfl (hl.recvq' _ _) rfl (h.inv.things.chans (c:=x.c) (B:=x.c.bufs) (S:=x.c.sendq) (R:=x.c.recvq.set q.a.toNat (at' x.c.recvq q.a++[x.t])) fun k hk=>?_)
  ·rw [row_set7 (by rw [hl.recvq];omega)];simp [rowOf,at']
  ·rw [nth_set_gen]
   by_cases e:q.a.toNat=k
   ·subst e
    have hc:=h.inv.things.chan q.a.toNat hk
    rw [if_pos ⟨rfl,by rw [hl.recvq];exact hk⟩]
    exact .inr ⟨.inr ⟨hb0,hs0⟩,hc.send,hc.room,hc.bk,hc.even,hc.sk⟩
   ·rw [if_neg (fun h=>e h.1)]
    exact .inl ⟨rfl,rfl,rfl⟩
theorem waitAll_nth (t:Int):∀ (l:List Int) (q:List (List Int)) (k:Nat),l.Nodup→(∀ y∈l,0≤y∧y<q.length)→nth (waitAll q l t) k=nth q k++if (k:Int)∈l then [t] else []
 | [],q,k,_,_=>by simp [waitAll]
 | y :: l,q,k,hnd,hin=>by
  have hy:=hin y (by simp)
  show nth (waitAll (q.set y.toNat (at' q y++[t])) l t) k=_
  rw [waitAll_nth t l _ k (List.nodup_cons.1 hnd).2 (fun z hz=>by rw [List.length_set];exact hin z (by simp [hz])),nth_set_gen]
  by_cases e:y.toNat=k
  ·subst e
   have hn:¬ ((y.toNat:Nat):Int)∈l:=by rw [show ((y.toNat:Nat):Int)=y by omega];exact(List.nodup_cons.1 hnd).1
   rw [if_pos ⟨rfl,by omega⟩,if_neg hn,if_pos (by simp;omega)]
   simp [at']
  ·rw [if_neg (fun h=>e h.1)]
   have:((k:Int)∈y :: l)↔(k:Int)∈l:=by
    simp only [List.mem_cons]
    exact⟨fun h=>h.resolve_left (by omega),.inr⟩
   simp only [this]
theorem waitAll_len' (t:Int):∀ (l:List Int) (q:List (List Int)),(waitAll q l t).length=q.length
 | [],q=>rfl
 | y :: l,q=>by
  show (waitAll (q.set y.toNat (at' q y++[t])) l t).length=_
  rw [waitAll_len' t l];simp
theorem select_r (hp:MayP p) (h:Run p x) {q:Req} (hq:q.kind=15) (h0:0≤q.a) (h1:q.a<p.choices.length):Res p x (chanX x q):=by
 obtain e:x.p=p:=h.p
 subst e
 have hl:=h.inv.len
 have hcho:=hp.choices.2 _ (at_in h0 h1)
 unfold chanX
 rw [if_neg (by omega),if_neg (by omega)]
 simp only
 cases hf:(at' x.p.choices q.a).findIdx? (readyC x.c) with
 | some i=>
  have hsel:selectC x.c (at' x.p.choices q.a) x.t=((recvC x.c (nth (at' x.p.choices q.a) i) x.t).1,(i:Int),(recvC x.c (nth (at' x.p.choices q.a) i) x.t).2.1,(recvC x.c (nth (at' x.p.choices q.a) i) x.t).2.2.1,true):=by unfold selectC;rw [hf]
  rw [hsel]
  simp only [Bool.true_eq_false,if_false]
  obtain⟨hi1,hi2,_⟩:=List.findIdx?_eq_some_iff_getElem.1 hf
  have hmem:nth (at' x.p.choices q.a) i∈at' x.p.choices q.a:=nth_mem hi1
  have hrd:readyC x.c (nth (at' x.p.choices q.a) i)=true:=by rw [nth_eq hi1];exact hi2
  obtain⟨e1,e2,e3⟩:=recv_i (t:=x.t) h.inv (hcho.2.2.2 _ hmem).1 (hcho.2.2.2 _ hmem).2 hrd
  exact got_r hp h _ e2 e3
 | none=>
  have hsel:selectC x.c (at' x.p.choices q.a) x.t=({x.c with recvq:=waitAll x.c.recvq (at' x.p.choices q.a) x.t }, -1,0, -1,false):=by unfold selectC;rw [hf]
  rw [hsel]
  simp only [if_true]
  have hnr:∀ y∈at' x.p.choices q.a,readyC x.c y=false:=fun y hy=>by
   have:=List.findIdx?_eq_none_iff.1 hf y hy
   exact this
  obtain⟨n1,n2,n3⟩:=run_nat h
  have hi:=run_in h
  have hw:∀ k,nth (waitAll x.c.recvq (at' x.p.choices q.a) x.t) k=nth x.c.recvq k++if (k:Int)∈at' x.p.choices q.a then [x.t] else []:=fun k=>waitAll_nth x.t _ _ k hcho.1 (fun y hy=>by rw [hl.recvq];exact hcho.2.2.2 y hy)
  have hrow:∀ r k,rowOf (restX {x with c:={x.c with recvq:=waitAll x.c.recvq (at' x.p.choices q.a) x.t } } x.t 8 q.a).c r k=if r=7 then nth x.c.recvq k++(if (k:Int)∈at' x.p.choices q.a then [x.t] else []) else rowOf x.c r k:=fun r k=>by
   show rowOf {x.c with recvq:=waitAll x.c.recvq (at' x.p.choices q.a) x.t } r k=_
   rw [rowOf_recvq,hw]
  have hrow7:∀ k,rowOf x.c 7 k=nth x.c.recvq k:=fun k=>by simp [rowOf]
  have hlen:LenI x.p {x.c with recvq:=waitAll x.c.recvq (at' x.p.choices q.a) x.t }:=⟨hl.owners,hl.counts,hl.bufs,hl.lockq,hl.waitq,hl.downq,hl.sendq,by show (waitAll _ _ _).length=_;rw [waitAll_len'];exact hl.recvq⟩
  refine⟨h.inv.change n1 (th:={nth x.c.threads x.t.toNat with state:=8,on:=q.a }) rfl (hlen.thr _) rfl ⟨by simp,hi.code,hi.fr,hi.sk,hi.frs,hi.sks,fun h=>by simp at h,fun _=>hi.live (by omega)⟩ (.inl rfl) (.inl rfl) (fun _=>?_) (fun e=>by omega) (h.inv.join.set (by simp) (.inl (by simp))) (fun r k u hu=>?_) (fun r k u hk hu=>?_) (fun r k hk=>?_) (.thr ?_ _),rfl,rfl,fun _ h=>.inl h,?_⟩
  ·exact⟨fun h=>by simp at h,fun h=>by simp at h,fun h=>by simp at h,fun h h'=>by simp at h',fun _=>⟨h0,h1⟩⟩
  ·rw [hrow] at hu
   split at hu
   ·rename_i e
    rcases List.mem_append.1 hu with hu | hu
    ·rw [e,hrow7];exact .inr hu
    ·split at hu
     ·simp at hu;left;rw [hu];exact n2.symm
     ·simp at hu
   ·exact .inr hu
  ·rw [hrow]
   split
   ·rename_i e
    rw [e,hrow7,List.count_append]
    split
    ·rw [List.count_singleton]
     have:(x.t == u)=false:=by simp;omega
     rw [this];simp
    ·simp
   ·rfl
  ·rw [hrow,if_neg (show ¬ ((x.t.toNat:Nat):Int) = -1 by omega),n2]
   have hz:=runs_zero h hk
   have hr:=nRows_in hk
   by_cases e:r=7
   ·subst e
    rw [hrow7] at hz
    rw [if_pos rfl,List.count_append,hz]
    unfold want must
    by_cases hm:(k:Int)∈at' x.p.choices q.a
    ·rw [if_pos hm,if_pos (by simp [hm])];simp
    ·rw [if_neg hm,if_neg (by simp [hm])];simp
   ·rw [if_neg e,hz]
    unfold want must
    rw [if_neg]
    simp only [Bool.or_eq_true,decide_eq_true_eq,not_or]
    exact⟨fun h=>by have:=h.1;omega,fun h=>e h.2.1⟩
  ·refine h.inv.things.chans (c:=x.c) (B:=x.c.bufs) (S:=x.c.sendq) (R:=waitAll x.c.recvq (at' x.p.choices q.a) x.t) fun k hk=>?_
   rw [hw]
   by_cases hm:(k:Int)∈at' x.p.choices q.a
   ·have hnr:=hnr _ hm
    have hc:=h.inv.things.chan k hk
    unfold readyC at' at hnr
    simp at hnr
    rw [hnr.1,hnr.2] at hc ⊢
    exact .inr ⟨.inr ⟨rfl,rfl⟩,hc.send,hc.room,hc.bk,hc.even,hc.sk⟩
   ·rw [if_neg hm]
    exact .inl ⟨rfl,rfl,by simp⟩
  ·exact Nat.le_of_eq (rest_len _ _ _ _).symm
end
end Go.Hb
end
