/-
  A layer for reasoning about the program's calls, and contracts of its functions. CONDITIONS: none; each theorem bears its own.
-/
import Derived.Test.YtieoaonaijbijaaGreatG01
import Derived.RangeFuncCalls
import Derived.RangeFuncLeaves
import Derived.OrdersIn
set_option linter.unusedVariables false
set_option linter.unusedSimpArgs false
section
namespace Go.Hb
open Go Go.RowKit
def aUn (op:UnOp)(x:LV):Option LV:=match op,x with
 | .not,.bool b=>some (.bool (!b))
 | .neg,.int k n=>some (.int k (k.wrap (0-n)))
 | _,_=>none
theorem zeI {P:Program}{C:Ctx}{s:List AObj}{op:UnOp}{x y:LV}{v:Value}(hok:Ok C s)(hx:RelV C x v)(h:aUn op x=some y):Runs P C (Op.unary op v) y s C.τ:=by
 unfold aUn at h
 split at h
 ·simp only[RelV] at hx;subst hx;simp at h;subst h
  exact Runs.quiet hok (xr _) (by simp[Op.unary])
 ·simp only[RelV] at hx;subst hx;simp at h;subst h
  exact Runs.quiet hok (wU _ _) (by simp[Op.unary,Op.intArith])
 ·cases h
def zhu (P:Program)(src dst:TypeId)(x:LV):Option LV:=match P.underlying src,P.underlying dst,x with
 | some _,some (.int k),.int _ n=>some (.int k (k.wrap n))
 | some .string,some .string,.str b=>some (.str b)
 | _,_,_=>none
theorem zbF {P:Program}{C:Ctx}{s:List AObj}{src dst:TypeId}{x y:LV}{v:Value}(hok:Ok C s)(hx:RelV C x v)(h:zhu P src dst x=some y):Runs P C (convert src dst v) y s C.τ:=by
 unfold zhu at h
 split at h
 ·rename_i hu hd
  simp only[RelV] at hx;subst hx;simp at h;subst h
  refine Runs.quiet hok (wU _ _) ?_
  simp[convert,run_underlying hu,run_underlying hd,Conv.intToInt]
 ·rename_i hu hd
  simp only[RelV] at hx;subst hx;simp at h;subst h
  refine Runs.quiet hok (zik _) ?_
  simp[convert,run_underlying hu,run_underlying hd]
 ·cases h
def aLen (P:Program)(t:TypeId)(x:LV):Option LV:=match P.underlying t,x with
 | some .string,.str b=>some (.int .i64 b.size)
 | some (.slice _),.nils=>some (.int .i64 0)
 | some (.slice _),.emp _=>some (.int .i64 0)
 | some (.slice _),.imm _ n _ _=>some (.int .i64 n)
 | some (.slice _),.ref _ _ _ n _=>some (.int .i64 n)
 | some (.array n _),_=>some (.int .i64 n)
 | _,_=>none
theorem zdo {P:Program}{C:Ctx}{s:List AObj}{t ty:TypeId}{x y:LV}{v:Value}(hok:Ok C s)(hx:RelV C x v)(h:aLen P t x=some y):Runs P C (Builtin.len_ #[t] ty #[v]) y s C.τ:=by
 unfold aLen at h
 split at h
 ·rename_i hu
  simp only[RelV] at hx;subst hx;simp at h;subst h
  exact Runs.quiet hok (wU _ _) (by simp[Builtin.len_,run_underlying hu,goInt])
 ·rename_i hu
  simp only[RelV] at hx;subst hx;simp at h;subst h
  exact Runs.quiet hok (wU _ _) (by simp[Builtin.len_,run_underlying hu,goInt])
 ·rename_i hu
  simp only[RelV] at hx;obtain⟨a,cap,rfl,_⟩:=hx;simp at h;subst h
  exact Runs.quiet hok (wU _ _) (by simp[Builtin.len_,run_underlying hu,goInt])
 ·rename_i hu
  simp only[RelV] at hx;obtain⟨A,cap,rfl,_⟩:=hx;simp at h;subst h
  exact Runs.quiet hok (wU _ _) (by simp[Builtin.len_,run_underlying hu,goInt])
 ·rename_i hu
  simp only[RelV] at hx;obtain⟨_,cap,rfl,_⟩:=hx;simp at h;subst h
  exact Runs.quiet hok (wU _ _) (by simp[Builtin.len_,run_underlying hu,goInt])
 ·rename_i n e hu
  simp at h;subst h
  exact Runs.quiet hok (wU _ _) (by simp[Builtin.len_,run_underlying hu,goInt])
 ·cases h
def Qu (mx:Bool)(x y:LV):Option LV:=match x,y with
 | .int k a,.int k' b=>if k=k' then some (.int k (if mx then (if a<b then b else a) else (if b<a then b else a))) else none
 | _,_=>none
theorem zcN {P:Program}{C:Ctx}{s:List AObj}{at_:Array TypeId}{ty:TypeId}{x y z:LV}{v u:Value}(hok:Ok C s)(hx:RelV C x v)(hy:RelV C y u)(h:Qu false x y=some z):Runs P C (Builtin.min_ at_ ty #[v,u]) z s C.τ:=by
 unfold Qu at h
 split at h
 ·simp only[RelV] at hx hy;subst hx;subst hy
  split at h
  ·rename_i e;subst e;simp only[Option.some.injEq,Bool.false_eq_true,if_false] at h;subst h
   exact Runs.quiet hok (wU _ _) (by simp[Builtin.min_,Builtin.min2])
  ·cases h
 ·cases h
theorem zdk {P:Program}{C:Ctx}{s:List AObj}{at_:Array TypeId}{ty:TypeId}{x y z:LV}{v u:Value}(hok:Ok C s)(hx:RelV C x v)(hy:RelV C y u)(h:Qu true x y=some z):Runs P C (Builtin.max_ at_ ty #[v,u]) z s C.τ:=by
 unfold Qu at h
 split at h
 ·simp only[RelV] at hx hy;subst hx;subst hy
  split at h
  ·rename_i e;subst e;simp only[Option.some.injEq,if_true] at h;subst h
   exact Runs.quiet hok (wU _ _) (by simp[Builtin.max_,Builtin.max2])
  ·cases h
 ·cases h
def Jm (x:LV)(i:Nat):Option LV:=match x with | .tup vs=>vs[i]? | _=>none
theorem Zz {P:Program}{C:Ctx}{s:List AObj}{x y:LV}{i:Nat}{v:Value}(hok:Ok C s)(hx:RelV C x v)(h:Jm x i=some y):Runs P C (Instr.extract v i) y s C.τ:=by
 unfold Jm at h
 split at h
 ·simp only[RelV] at hx;obtain⟨vs,rfl,h1⟩:=hx
  obtain⟨u,h2,h3⟩:=h1.get h
  have h2':vs[i]? = some u:=by simpa using h2
  exact Runs.quiet hok h3 (by simp[Instr.extract,h2'])
 ·cases h
theorem xZ {C:Ctx}{t:Nat→LV}{a:Act}(r:RelT C t a.tmps):∀ l:List Operand,zi C (l.map (aev t)) (l.map a.eval):=by
 intro l
 induction l with
 | nil=>simp[zi]
 | cons x l ih=>exact⟨_,_,rfl,zX r x,ih⟩
def aNil (x:LV):Option LV:=match x with
 | .ptr id off=>some (.ptr id off)
 | .eptr cs=>some (.eptr cs)
 | .fn (.func f) a b=>some (.fn (.func f) a b)
 | .yld id=>some (.yld id)
 | _=>none
def uN (P:Program)(b:Builtin)(at_:List TypeId)(args:List LV)(st:St):Option (LV × List AObj × List Nat):=match b,at_,args with
 | .len,[t],[x]=>(aLen P t x).map (·,st.s,st.v)
 | .append,[t,t2],[x,y]=>(zR P t t2 x y st.s st.v).map fun (r,v)=>(r,st.s,v)
 | .clear,[t],[x]=>(zbX P t x st.s).map fun s=>(.tup [],s,st.v)
 | .min,_,[x,y]=>(Qu false x y).map (·,st.s,st.v)
 | .max,_,[x,y]=>(Qu true x y).map (·,st.s,st.v)
 | .delete,[t,_],[m,k]=>(Yt P t m k st.s).map fun s=>(.tup [],s,st.v)
 | _,_,_=>none
def aop (P:Program)(o:Op)(st:St):Option (LV × List AObj × List Nat):=match o with
 | .move x | .assign x=>some (aev st.t x,st.s,st.v)
 | .pick c a b=>match aev st.t c with
  | .bool t=>some (if t then aev st.t a else aev st.t b,st.s,st.v)
  | _=>none
 | .alloc e=>(zcr P e st.s).map fun (x,s)=>(x,s,st.v)
 | .box _ x=>(aNew (aev st.t x) st.s).map fun (x,s)=>(x,s,st.v)
 | .build t parts=>(zbZ P t (parts.toList.map fun p=>(p.1,aev st.t p.2))).map (·,st.s,st.v)
 | .buildSlice t len parts=>(yX P t len (parts.toList.map fun p=>(p.1,aev st.t p.2))).map (·,st.s,st.v)
 | .load t a=>(zcQ P t (aev st.t a) st.s).map (·,st.s,st.v)
 | .store t a x=>(zcq P t (aev st.t a) (aev st.t x) st.s).map fun s=>(.any,s,st.v)
 | .nilCheck x=>(aNil (aev st.t x)).map (·,st.s,st.v)
 | .binOp op t x y _=>(aBin P op t (aev st.t x) (aev st.t y)).map (·,st.s,st.v)
 | .unOp op _ x=>(aUn op (aev st.t x)).map (·,st.s,st.v)
 | .convert src dst x=>(zhu P src dst (aev st.t x)).map (·,st.s,st.v)
 | .makeFunc fn first captured=>some (.fn fn (first.toList.map (aev st.t)) (captured.toList.map (aev st.t)),st.s,st.v)
 | .makeSlice t l c=>(uU P t (aev st.t l) (aev st.t c) st.s).map fun (x,s)=>(x,s,st.v)
 | .makeMap _ none=>some ((uO st.s).1,(uO st.s).2,st.v)
 | .lookup t x i ok=>(YH P t (aev st.t x) (aev st.t i) ok st.s).map (·,st.s,st.v)
 | .mapUpdate t m k x | .insert t m k x=>(Qc P t (aev st.t m) (aev st.t k) (aev st.t x) st.s).map fun s=>(.any,s,st.v)
 | .slice t x lo hi mx=>(ya P t (aev st.t x) (lo.map (aev st.t)) (hi.map (aev st.t)) (mx.map (aev st.t))).map (·,st.s,st.v)
 | .fieldAddr t x f=>(uL P t (aev st.t x) f).map (·,st.s,st.v)
 | .field t x f=>(zcC P t (aev st.t x) f).map (·,st.s,st.v)
 | .indexAddr t x i=>(zt P t (aev st.t x) (aev st.t i)).map (·,st.s,st.v)
 | .index t x i=>(zci P t (aev st.t x) (aev st.t i)).map (·,st.s,st.v)
 | .extract x i=>(Jm (aev st.t x) i).map (·,st.s,st.v)
 | .call c=>match c.callee with
  | .builtin b=>uN P b c.argTypes.toList (c.args.toList.map (aev st.t)) st
  | _=>none
 | _=>none
def Done (P:Program)(C:Ctx)(o:Oper)(a:Act)(x:LV)(s:List AObj)(v:List Nat):Prop:=
 ∃ C' u,C.le C'∧Ok C' s∧C'.τ = v∧RelV C' x u∧((execOp a.eval o).run P C.w = .ok (.value u) C'.w∨((execOp a.eval o).run P C.w = .ok .skip C'.w∧u=undef))
theorem Runs.done {P:Program}{C:Ctx}{m:Sem Value}{o:Oper}{a:Act}{x:LV}{s:List AObj}{v:List Nat}(h:Runs P C m x s v)(e:execOp a.eval o=(do pure (.value (← m)))):Done P C o a x s v:=by
 obtain⟨C',u,h1,h2,h3,h4,h5⟩:=h
 exact⟨C',u,h1,h2,h3,h4,.inl (by rw[e];simp[h5])⟩
theorem zjs {C:Ctx}{t:Nat→LV}{a:Act}(r:RelT C t a.tmps)(x:Option Operand):zbc C (x.map (aev t)) (x.map a.eval):=by
 cases x with
 | none=>trivial
 | some x=>exact zX r x
set_option maxHeartbeats 2000000 in
theorem JJ {P:Program}{C:Ctx}{st:St}{o:Oper}{a:Act}{x:LV}{s:List AObj}{v:List Nat}(hok:Ok C st.s)(hv:C.τ = st.v)(hT:RelT C st.t a.tmps)(h:aop P o.op st=some (x,s,v)):Done P C o a x s v:=by
 obtain⟨dst,op,type,pos,after,guard⟩:=o
 unfold aop at h
 cases op<;>simp only at h<;>(try (cases h;done))
 case move y=>
  simp only[Option.some.injEq,Prod.mk.injEq] at h;obtain⟨rfl,rfl,rfl⟩:=h
  exact⟨C,_,.refl C,hok,hv,zX hT y,.inl rfl⟩
 case assign y=>
  simp only[Option.some.injEq,Prod.mk.injEq] at h;obtain⟨rfl,rfl,rfl⟩:=h
  exact⟨C,_,.refl C,hok,hv,zX hT y,.inl rfl⟩
 case pick c y z=>
  split at h
  ·rename_i t hc
   simp only[Option.some.injEq,Prod.mk.injEq] at h;obtain⟨rfl,rfl,rfl⟩:=h
   have h1:=zX hT c
   rw[hc] at h1;simp only[RelV] at h1
   refine⟨C,if t then a.eval y else a.eval z,.refl C,hok,hv,?_,.inl ?_⟩
   ·cases t
    ·exact zX hT z
    ·exact zX hT y
   ·simp[execOp,h1,asBool]
  ·cases h
 case alloc e=>
  simp only[Option.map_eq_some_iff] at h
  obtain⟨⟨y,s'⟩,h1,h2⟩:=h
  simp only[Prod.mk.injEq] at h2;obtain⟨rfl,rfl,rfl⟩:=h2
  rw[← hv];exact(zal hok h1).done rfl
 case box e y=>
  simp only[Option.map_eq_some_iff] at h
  obtain⟨⟨z,s'⟩,h1,h2⟩:=h
  simp only[Prod.mk.injEq] at h2;obtain⟨rfl,rfl,rfl⟩:=h2
  rw[← hv];exact(zdx hok (zX hT y) h1).done rfl
 case build t parts=>
  simp only[Option.map_eq_some_iff] at h
  obtain⟨y,h1,h2⟩:=h
  simp only[Prod.mk.injEq] at h2;obtain⟨rfl,rfl,rfl⟩:=h2
  rw[← hv]
  refine(zaD (pv:=parts.map fun p=>(p.1,a.eval p.2)) hok (by simp[List.map_map]) ?_ h1).done rfl
  have:=xZ hT (parts.toList.map (·.2))
  rw[List.map_map,List.map_map] at this
  rw[Array.toList_map,List.map_map,List.map_map]
  exact this
 case buildSlice t len parts=>
  simp only[Option.map_eq_some_iff] at h
  obtain⟨y,h1,h2⟩:=h
  simp only[Prod.mk.injEq] at h2;obtain⟨rfl,rfl,rfl⟩:=h2
  rw[← hv]
  refine(Kt (pv:=parts.map fun p=>(p.1,a.eval p.2)) hok (by simp[List.map_map]) ?_ h1).done rfl
  have:=xZ hT (parts.toList.map (·.2))
  rw[List.map_map,List.map_map] at this
  rw[Array.toList_map,List.map_map,List.map_map]
  exact this
 case load t p=>
  simp only[Option.map_eq_some_iff] at h
  obtain⟨y,h1,h2⟩:=h
  simp only[Prod.mk.injEq] at h2;obtain⟨rfl,rfl,rfl⟩:=h2
  rw[← hv];exact(zaS hok (zX hT p) h1).done rfl
 case store t p y=>
  simp only[Option.map_eq_some_iff] at h
  obtain⟨s',h1,h2⟩:=h
  simp only[Prod.mk.injEq] at h2;obtain⟨rfl,rfl,rfl⟩:=h2
  obtain⟨C',k1,k2,k3,k4⟩:=XB hok (zX hT p) (zX hT y) h1
  exact⟨C',undef,k1,k2,k3.trans hv,by simp[RelV],.inr ⟨by simp[execOp,k4],rfl⟩⟩
 case nilCheck y=>
  simp only[Option.map_eq_some_iff] at h
  obtain⟨z,h1,h2⟩:=h
  simp only[Prod.mk.injEq] at h2;obtain⟨rfl,rfl,rfl⟩:=h2
  have hr:=zX hT y
  refine⟨C,a.eval y,.refl C,hok,hv,?_,.inl ?_⟩
  ·unfold aNil at h1
   split at h1<;>first|(cases h1;done)|(rename_i e;simp at h1;subst h1;rw[e] at hr;exact hr)
  ·unfold aNil at h1
   split at h1<;>first|(cases h1;done)|skip
   ·rename_i e;rw[e] at hr;simp only[RelV] at hr;simp[execOp,hr.2]
   ·rename_i e;rw[e] at hr;simp only[RelV] at hr;obtain⟨b,o,hr,_⟩:=hr;simp[execOp,hr]
   ·rename_i e;rw[e] at hr;simp only[RelV] at hr;obtain⟨b,o,hr,_⟩:=hr;simp[execOp,hr]
   ·rename_i e;rw[e] at hr;simp only[RelV] at hr;simp[execOp,hr.2]
 case binOp op t y z ty=>
  simp only[Option.map_eq_some_iff] at h
  obtain⟨r,h1,h2⟩:=h
  simp only[Prod.mk.injEq] at h2;obtain⟨rfl,rfl,rfl⟩:=h2
  rw[← hv];exact(zds hok (zX hT y) (zX hT z) h1).done rfl
 case unOp op t y=>
  simp only[Option.map_eq_some_iff] at h
  obtain⟨r,h1,h2⟩:=h
  simp only[Prod.mk.injEq] at h2;obtain⟨rfl,rfl,rfl⟩:=h2
  rw[← hv];exact(zeI hok (zX hT y) h1).done rfl
 case convert src d y=>
  simp only[Option.map_eq_some_iff] at h
  obtain⟨r,h1,h2⟩:=h
  simp only[Prod.mk.injEq] at h2;obtain⟨rfl,rfl,rfl⟩:=h2
  rw[← hv];exact(zbF hok (zX hT y) h1).done rfl
 case makeFunc f first captured=>
  simp only[Option.some.injEq,Prod.mk.injEq] at h;obtain⟨rfl,rfl,rfl⟩:=h
  refine⟨C,.func f (first.map a.eval) (captured.map a.eval),.refl C,hok,hv,?_,.inl rfl⟩
  simp only[RelV]
  exact⟨_,_,rfl,by simpa using xZ hT first.toList,by simpa using xZ hT captured.toList⟩
 case makeSlice t l c=>
  simp only[Option.map_eq_some_iff] at h
  obtain⟨⟨z,s'⟩,h1,h2⟩:=h
  simp only[Prod.mk.injEq] at h2;obtain⟨rfl,rfl,rfl⟩:=h2
  rw[← hv];exact(KU hok (zX hT l) (zX hT c) h1).done rfl
 case makeMap t r=>
  cases r with
  | some r=>simp at h
  | none=>
   simp only[Option.some.injEq,Prod.mk.injEq] at h;obtain⟨rfl,rfl,rfl⟩:=h
   rw[← hv];exact(ZC hok).done rfl
 case lookup t y i ok=>
  simp only[Option.map_eq_some_iff] at h
  obtain⟨r,h1,h2⟩:=h
  simp only[Prod.mk.injEq] at h2;obtain⟨rfl,rfl,rfl⟩:=h2
  rw[← hv];exact(Xb hok (zX hT y) (zX hT i) h1).done rfl
 case mapUpdate t m k y=>
  simp only[Option.map_eq_some_iff] at h
  obtain⟨s',h1,h2⟩:=h
  simp only[Prod.mk.injEq] at h2;obtain⟨rfl,rfl,rfl⟩:=h2
  obtain⟨C',k1,k2,k3,k4⟩:=uc hok (zX hT m) (zX hT k) (zX hT y) h1
  exact⟨C',undef,k1,k2,k3.trans hv,by simp[RelV],.inr ⟨by simp[execOp,k4],rfl⟩⟩
 case insert t m k y=>
  simp only[Option.map_eq_some_iff] at h
  obtain⟨s',h1,h2⟩:=h
  simp only[Prod.mk.injEq] at h2;obtain⟨rfl,rfl,rfl⟩:=h2
  obtain⟨C',k1,k2,k3,k4⟩:=uc hok (zX hT m) (zX hT k) (zX hT y) h1
  exact⟨C',undef,k1,k2,k3.trans hv,by simp[RelV],.inr ⟨by simp[execOp,k4],rfl⟩⟩
 case slice t y lo hi mx=>
  simp only[Option.map_eq_some_iff] at h
  obtain⟨r,h1,h2⟩:=h
  simp only[Prod.mk.injEq] at h2;obtain⟨rfl,rfl,rfl⟩:=h2
  rw[← hv];exact(zar hok (zX hT y) (zjs hT lo) (zjs hT hi) (zjs hT mx) h1).done rfl
 case fieldAddr t y f=>
  simp only[Option.map_eq_some_iff] at h
  obtain⟨r,h1,h2⟩:=h
  simp only[Prod.mk.injEq] at h2;obtain⟨rfl,rfl,rfl⟩:=h2
  rw[← hv];exact(KW hok (zX hT y) h1).done rfl
 case field t y f=>
  simp only[Option.map_eq_some_iff] at h
  obtain⟨r,h1,h2⟩:=h
  simp only[Prod.mk.injEq] at h2;obtain⟨rfl,rfl,rfl⟩:=h2
  rw[← hv];exact(zan hok (zX hT y) h1).done rfl
 case indexAddr t y i=>
  simp only[Option.map_eq_some_iff] at h
  obtain⟨r,h1,h2⟩:=h
  simp only[Prod.mk.injEq] at h2;obtain⟨rfl,rfl,rfl⟩:=h2
  rw[← hv];exact(KR hok (zX hT y) (zX hT i) h1).done rfl
 case index t y i=>
  simp only[Option.map_eq_some_iff] at h
  obtain⟨r,h1,h2⟩:=h
  simp only[Prod.mk.injEq] at h2;obtain⟨rfl,rfl,rfl⟩:=h2
  rw[← hv];exact(zab hok (zX hT y) (zX hT i) h1).done rfl
 case extract y i=>
  simp only[Option.map_eq_some_iff] at h
  obtain⟨r,h1,h2⟩:=h
  simp only[Prod.mk.injEq] at h2;obtain⟨rfl,rfl,rfl⟩:=h2
  rw[← hv];exact(Zz hok (zX hT y) h1).done rfl
 case call c=>
  obtain⟨callee,args,argTypes⟩:=c
  cases callee<;>simp only at h<;>(try (cases h;done))
  rename_i b
  have hargs:=xZ hT args.toList
  unfold uN at h
  have two:∀ {x y:LV},args.toList.map (aev st.t)=[x,y]→∃ u w,args.map a.eval = #[u,w]∧RelV C x u∧RelV C y w:=by
   intro x y e
   rw[e] at hargs
   obtain⟨u,r,e1,h1,w,r',e2,h2,h3⟩:=hargs
   simp only[zi] at h3
   subst h3;subst e2
   exact⟨u,w,by apply Array.ext';simpa using e1,h1,h2⟩
  have one:∀ {x:LV},args.toList.map (aev st.t)=[x]→∃ u,args.map a.eval = #[u]∧RelV C x u:=by
   intro x e
   rw[e] at hargs
   obtain⟨u,r,e1,h1,h3⟩:=hargs
   simp only[zi] at h3
   subst h3
   exact⟨u,by apply Array.ext';simpa using e1,h1⟩
  split at h
  ·rename_i t y e1 e2
   obtain⟨u,e3,hr⟩:=one e2
   simp only[Option.map_eq_some_iff] at h
   obtain⟨r,h1,h2⟩:=h
   simp only[Prod.mk.injEq] at h2;obtain⟨rfl,rfl,rfl⟩:=h2
   have e4:argTypes = #[t]:=by apply Array.ext';simpa using e1
   subst e4
   rw[← hv];exact(zdo (ty:=type) hok hr h1).done (by simp[execOp,resolve,invoke,builtin,e3])
  ·rename_i t t2 y z e1 e2
   obtain⟨u,w,e3,hr1,hr2⟩:=two e2
   simp only[Option.map_eq_some_iff] at h
   obtain⟨⟨r,v'⟩,h1,h2⟩:=h
   simp only[Prod.mk.injEq] at h2;obtain⟨rfl,rfl,rfl⟩:=h2
   have e4:argTypes = #[t,t2]:=by apply Array.ext';simpa using e1
   subst e4
   rw[← hv] at h1
   exact(Xy (ty:=type) hok hr1 hr2 h1).done (by simp[execOp,resolve,invoke,builtin,e3])
  ·rename_i t y e1 e2
   obtain⟨u,e3,hr⟩:=one e2
   simp only[Option.map_eq_some_iff] at h
   obtain⟨s',h1,h2⟩:=h
   simp only[Prod.mk.injEq] at h2;obtain⟨rfl,rfl,rfl⟩:=h2
   have e4:argTypes = #[t]:=by apply Array.ext';simpa using e1
   subst e4
   obtain⟨C',k1,k2,k3,k4⟩:=zaK (ty:=type) hok hr h1
   exact⟨C',.tuple #[],k1,k2,k3.trans hv,by simp only[RelV];exact⟨#[],rfl,by simp[zi]⟩,.inl (by simp[execOp,resolve,invoke,builtin,e3,k4])⟩
  ·rename_i y z e2
   obtain⟨u,w,e3,hr1,hr2⟩:=two e2
   simp only[Option.map_eq_some_iff] at h
   obtain⟨r,h1,h2⟩:=h
   simp only[Prod.mk.injEq] at h2;obtain⟨rfl,rfl,rfl⟩:=h2
   rw[← hv];exact(zcN (ty:=type) (at_:=argTypes) hok hr1 hr2 h1).done (by simp[execOp,resolve,invoke,builtin,e3])
  ·rename_i y z e2
   obtain⟨u,w,e3,hr1,hr2⟩:=two e2
   simp only[Option.map_eq_some_iff] at h
   obtain⟨r,h1,h2⟩:=h
   simp only[Prod.mk.injEq] at h2;obtain⟨rfl,rfl,rfl⟩:=h2
   rw[← hv];exact(zdk (ty:=type) (at_:=argTypes) hok hr1 hr2 h1).done (by simp[execOp,resolve,invoke,builtin,e3])
  ·rename_i t t2 m k e1 e2
   obtain⟨u,w,e3,hr1,hr2⟩:=two e2
   simp only[Option.map_eq_some_iff] at h
   obtain⟨s',h1,h2⟩:=h
   simp only[Prod.mk.injEq] at h2;obtain⟨rfl,rfl,rfl⟩:=h2
   have e4:argTypes = #[t,t2]:=by apply Array.ext';simpa using e1
   subst e4
   obtain⟨C',k1,k2,k3,k4⟩:=YQ (t2:=t2) (ty:=type) hok hr1 hr2 h1
   exact⟨C',.tuple #[],k1,k2,k3.trans hv,by simp only[RelV];exact⟨#[],rfl,by simp[zi]⟩,.inl (by simp[execOp,resolve,invoke,builtin,e3,k4])⟩
  ·cases h
def zF (P:Program)(t t2:TypeId)(x y:LV)(s:List AObj):Option (LV × List AObj):=match P.underlying t with
 | some (.slice e)=>match szT P e,zD P e,zT P e with
  | some size,some by_,some z=>if ua P t2=true∧z.cellsOk=true∧z.cells.length=size then
   match uD size x,zQ size y s with
   | some (cs,n,.full),some (ds,m)=>if n+m≤maxLen∧(n+m)*by_≤140737488355328∧m≠0 then some (.ref size s.length 0 (n+m) false,s++[.cells (cs++ds)]) else none
   | _,_=>none
   else none
  | _,_,_=>none
 | _=>none
theorem Jb {P:Program}{C:Ctx}{s s':List AObj}{t t2 ty:TypeId}{x y r:LV}{v u:Value}(hok:Ok C s)(hx:RelV C x v)(hy:RelV C y u)(h:zF P t t2 x y s=some (r,s')) :
  Runs P C (Builtin.append_ #[t,t2] ty #[v,u]) r s' C.τ:=by
 unfold zF at h
 split at h
 ·rename_i e hu
  split at h
  ·rename_i size by_ z hsz hby hz
   split at h
   ·rename_i hc
    obtain⟨hc1,hc2,hc3⟩:=hc
    split at h
    ·rename_i cs n ds m hh hcs
     split at h
     ·rename_i hbd
      obtain⟨hbd1,hbd2,hm⟩:=hbd
      simp only[Option.some.injEq,Prod.mk.injEq] at h
      obtain⟨rfl,rfl⟩:=h
      have hx':=XR hx hh
      simp only[RelV] at hx'
      obtain⟨A,cap,rfl,k1,k2,k3,k4,k5,k6,k7⟩:=hx'
      obtain⟨us,q1,q2,q3,q4⟩:=xm (P:=P) hok hy hcs
      unfold szT at hsz;unfold zD at hby;unfold zT at hz
      simp only[Option.map_eq_some_iff,Option.bind_eq_some_iff] at hsz hby hz
      obtain⟨i,hi,hsz⟩:=hsz
      obtain⟨i2,hi2,hby⟩:=hby
      rw[hi] at hi2;cases hi2
      obtain⟨zv,⟨i3,hi3,hz1⟩,hz2⟩:=hz
      rw[hi] at hi3;cases hi3
      unfold ua at hc1
      subst hsz
      subst hby
      cases hu2:P.underlying t2 with
      | none=>simp[hu2] at hc1
      | some d2=>
      have hd2:∀ k,d2≠.int k:=by intro k e;subst e;simp[hu2] at hc1
      have hcap:cap=n:=k7
      have hold:∃ os:List Value,zi C cs os∧(∀ u∈os,u.oneCell'=true)∧∀ w':World,w'.heap=C.w.heap→(Builtin.firstCells i.size n (.slice A n cap)).run P w' = .ok os.toArray w':=by
       have hhead:RelV C (.imm i.size n cs .no) (.slice A n cap):=by
        simp only[RelV];exact⟨A,cap,rfl,k1,k2,k3,k4,k5,k6,trivial⟩
       obtain⟨os,o1,o2,o3,o4⟩:=xm (P:=P) (size:=i.size) (cs:=cs) (n:=n) hok hhead (by simp[zQ])
       exact⟨os,o1,o2,fun w' hw=>(o4 w' hw).2⟩
      obtain⟨os,o1,o2,o3⟩:=hold
      have ol:=o1.length
      have hrun:=wn (P:=P) (w:=C.w) t t2 ty e i zv hu d2 hu2 hd2 hi hz1 A n cap os.toArray us.toArray m u o3 q4 (by omega) hbd1 hbd2
      have hge:=grownCap_ge C.w (n+m) cap e
      have hle2:=grownCap_le_maxLen C.w (n+m) cap e hbd1
      generalize grownCap C.w (n+m) cap e=gc at *
      let vs:Array Value:=os.toArray++us.toArray++Builtin.zeroCells zv.cells (gc-(n+m))
      have hok2:=hok.drew
      have hle:=C.le_drew.trans (hok2.le_push (.cells vs e))
      refine⟨C.drew.push (.cells vs e),_,hle,hok2.push _ _ ?_,rfl,?_,hrun⟩
      ·refine⟨vs,e,os++us,(Builtin.zeroCells zv.cells (gc-(n+m))).toList,yH _ _,by simp[vs],(zi.mono hle _ _ o1).app (zi.mono hle _ _ q1),?_⟩
       intro u' hu'
       rcases List.mem_append.1 hu' with h' | h'
       ·exact o2 u' h'
       ·exact q2 u' h'
      ·simp only[RelV]
       have hn:C.n=s.length:=hok.n
       refine⟨by simp[Ctx.push,Ctx.drew,hn],gc,?_,hge,hle2,by simp,?_⟩
       ·simp[Ctx.push,Ctx.drew,hn]
       ·have hzrel:=ur C zv z hz2
        have hzl:zv.cells.size=i.size:=by have:=(yu hc2 hzrel).1.length;simp at this;omega
        have e1:(C.drew.push (.cells vs e)).ρ s.length=C.w.heap.size:=by simp[Ctx.push,Ctx.drew,hn]
        have e2:(C.drew.push (.cells vs e)).w.heap[C.w.heap.size]? = some (.cells vs e):=yH C.drew.w _
        have e3:n+m+(gc-(n+m))=gc:=by omega
        have e4:vs.size=gc*i.size:=by
         have e5:=congrArg (· * i.size) e3
         simp only[Nat.add_mul] at e5
         simp[vs,Ky,hzl]
         omega
        rw[e1];unfold bs;rw[e2];simp only[e4];simp
     ·cases h
    ·cases h
   ·cases h
  ·cases h
 ·cases h
def aSl (size:Nat)(x:LV):Bool:=match x with
 | .nils=>true
 | .emp _=>true
 | .imm sz _ _ _=>sz == size
 | .ref sz _ _ _ _=>sz == size
 | _=>false
def zw (P:Program)(t t2:TypeId)(x y:LV)(s:List AObj):Bool:=match P.underlying t with
 | some (.slice e)=>match szT P e with
  | some size=>ua P t2 && aSl size x && (match zQ size y s with | some (_,m)=>m == 0 | none=>false)
  | none=>false
 | _=>false
theorem KQ {P:Program}{C:Ctx}{s:List AObj}{t t2 ty:TypeId}{x y:LV}{v u:Value}(hok:Ok C s)(hx:RelV C x v)(hy:RelV C y u)(h:zw P t t2 x y s=true) :
  Runs P C (Builtin.append_ #[t,t2] ty #[v,u]) x s C.τ:=by
 unfold zw at h
 split at h
 ·rename_i e hu
  split at h
  ·rename_i size hsz
   simp only[Bool.and_eq_true] at h
   obtain⟨⟨hc1,hsl⟩,h⟩:=h
   split at h
   ·rename_i ds m hcs
    have hm:m=0:=by simpa using h
    subst hm
    obtain⟨us,q1,q2,q3,q4⟩:=xm (P:=P) hok hy hcs
    unfold szT at hsz
    simp only[Option.map_eq_some_iff] at hsz
    obtain⟨i,hi,hsz⟩:=hsz
    subst hsz
    unfold ua at hc1
    cases hu2:P.underlying t2 with
    | none=>simp[hu2] at hc1
    | some d2=>
    have hd2:∀ k,d2≠.int k:=by intro k e;subst e;simp[hu2] at hc1
    have hus:us=[]:=List.eq_nil_of_length_eq_zero (by have:=q1.length;omega)
    subst hus
    have hv:∃ A n cap,v = .slice A n cap∧n≤cap:=by
     unfold aSl at hsl
     split at hsl
     ·simp only[RelV] at hx;exact⟨_,_,_,hx,Nat.le_refl _⟩
     ·simp only[RelV] at hx;obtain⟨a,cap,e1,e2⟩:=hx;exact⟨_,_,_,e1,Nat.zero_le _⟩
     ·simp only[RelV] at hx;obtain⟨A,cap,e1,e2,_⟩:=hx;exact⟨_,_,_,e1,e2⟩
     ·simp only[RelV] at hx;obtain⟨_,cap,e1,e2,_⟩:=hx;exact⟨_,_,_,e1,e2⟩
     ·cases hsl
    obtain⟨A,n,cap,rfl,hn⟩:=hv
    refine Runs.quiet hok hx ?_
    have:=xJ (P:=P) (w:=C.w) t t2 ty e i hu d2 hu2 hd2 hi A n cap #[] 0 u q4 (by omega) C.w (fun a _=>by simp[storeCells]) (fun _=>rfl)
    simpa using this
   ·cases h
  ·cases h
 ·cases h
def zI (P:Program)(t t2:TypeId)(x y:LV)(s:List AObj):Option (LV × List AObj):=match P.underlying t with
 | some (.slice e)=>match szT P e,zD P e,zT P e with
  | some size,some by_,some z=>if ua P t2=true∧z.cellsOk=true∧z.cells.length=size then
   match x,zQ size y s with
   | .ref sz id off n _,some (ds,m)=>match s[id]? with
    | some (.cells cs)=>if sz=size∧off=0∧n*size≤cs.length∧n+m≤maxLen∧(n+m)*by_≤140737488355328∧0<ds.length∧cs≠[] then some (.ref size s.length 0 (n+m) false,s.set id (.cells [])++[.cells (cs.take (n*size)++ds)]) else none
    | _=>none
   | _,_=>none
   else none
  | _,_,_=>none
 | _=>none
theorem Ja {P:Program}{C:Ctx}{s s':List AObj}{t t2 ty:TypeId}{x y r:LV}{v u:Value}(hok:Ok C s)(hx:RelV C x v)(hy:RelV C y u)(h:zI P t t2 x y s=some (r,s')) :
  Runs P C (Builtin.append_ #[t,t2] ty #[v,u]) r s' C.τ:=by
 unfold zI at h
 split at h
 ·rename_i e hu
  split at h
  ·rename_i size by_ z hsz hby hz
   split at h
   ·rename_i hc
    obtain⟨hc1,hc2,hc3⟩:=hc
    split at h
    ·rename_i sz id off n fl ds m hcs
     split at h
     ·rename_i cs hid
      split at h
      ·rename_i hbd
       obtain⟨rfl,rfl,hbd0,hbd1,hbd2,hm,hdead⟩:=hbd
       simp only[Option.some.injEq,Prod.mk.injEq] at h
       obtain⟨rfl,rfl⟩:=h
       simp only[RelV] at hx
       obtain⟨k0,cap,rfl,k1,k2,k3,k4⟩:=hx
       obtain⟨us,q1,q2,q3,q4⟩:=xm (P:=P) hok hy hcs
       have ql:=q1.length
       obtain⟨vs,T,os,ws,p1,p2,p3,p4⟩:=hok.obj id _ hid
       have pl:=p3.length
       have hidl:=(List.getElem?_eq_some_iff.1 hid).1
       unfold szT at hsz;unfold zD at hby;unfold zT at hz
       simp only[Option.map_eq_some_iff,Option.bind_eq_some_iff] at hsz hby hz
       obtain⟨i,hi,hsz⟩:=hsz
       obtain⟨i2,hi2,hby⟩:=hby
       rw[hi] at hi2;cases hi2
       obtain⟨zv,⟨i3,hi3,hz1⟩,hz2⟩:=hz
       rw[hi] at hi3;cases hi3
       unfold ua at hc1
       subst hsz
       subst hby
       cases hu2:P.underlying t2 with
       | none=>simp[hu2] at hc1
       | some d2=>
       have hd2:∀ k,d2≠.int k:=by intro k e;subst e;simp[hu2] at hc1
       have hn:C.n=s.length:=hok.n
       have hbs:bs C.w (C.ρ id)=vs.size:=by unfold bs;rw[p1]
       rw[hbs] at k4
       have hvl:vs.size=os.length+ws.length:=by
        have:=congrArg List.length p2
        simpa using this
       have hzrel:=ur C zv z hz2
       have hzl:zv.cells.size=i.size:=by have:=(yu hc2 hzrel).1.length;simp at this;omega
       have hne:cs.take (n*i.size)++ds≠[]:=by
        intro e0
        have:=(List.append_eq_nil_iff.1 e0).2
        rw[this] at hm;simp at hm
       by_cases hroom:n+m≤cap
       ·-- in its place
        have hmul:(n+m)*i.size≤cap*i.size:=Nat.mul_le_mul_right _ hroom
        rw[Nat.add_mul] at hmul
        have hfit:n*i.size+us.length≤vs.size:=by omega
        have hst:=run_storeCells_at (P:=P) (C.ρ id) (n*i.size) T us 0 vs C.w p1 (by omega) q2
        have hlive:¬ s[id]? = some (.cells [])→C.lim (C.ρ id)=0:=fun hh=>(hok.own id (by omega)).2.1.resolve_left hh
        ·have hnd:¬ s[id]? = some (.cells []):=by rw[hid];simpa using hdead
         let vs':Array Value:=(vs.toList.take (n*i.size+0)++us++vs.toList.drop (n*i.size+0+us.length)).toArray
         have hvsz:vs'.size=vs.size:=by simp[vs'];omega
         have hao:RelO (C.set (C.ρ id) vs') (.cells (cs.take (n*i.size)++ds)) (C.ρ id):=by
          have hle:=C.le_set (hok.own id (by omega)).1 (hlive hnd) vs' p1 (Nat.le_of_eq hvsz.symm)
          refine⟨vs',T,os.take (n*i.size)++us,vs.toList.drop (n*i.size+us.length),setRow_heap _ _ _ _ _ _ p1,?_,((zi.mono hle _ _ p3).take _).app (zi.mono hle _ _ q1),?_⟩
          ·simp only[vs',Nat.add_zero]
           rw[p2,List.take_append_of_le_length (by omega)]
          ·intro u' hu'
           rcases List.mem_append.1 hu' with h' | h'
           ·exact p4 u' (List.mem_of_mem_take h')
           ·exact q2 u' h'
         have hok1:=hok.set hidl hnd (hlive hnd) vs' p1 (Nat.le_of_eq hvsz.symm) _ hao
         have hle1:=C.le_set (hok.own id (by omega)).1 (hlive hnd) vs' p1 (Nat.le_of_eq hvsz.symm)
         have hs1:(s.set id (.cells (cs.take (n*i.size)++ds)))[id]? = some (.cells (cs.take (n*i.size)++ds)):=List.getElem?_set_self hidl
         have hok2:=hok1.dup hs1 hne
         rw[List.set_set] at hok2
         refine⟨(C.set (C.ρ id) vs').dup id,.slice (some ⟨C.ρ id,0,none⟩) (n+m) cap,hle1.trans (Ctx.le_dup _ id),hok2,rfl,?_,?_⟩
         ·simp only[RelV]
          refine⟨by simp[Ctx.dup,Ctx.set,hn],cap,?_,hroom,k2,by simp,?_⟩
          ·simp[Ctx.dup,Ctx.set,hn]
          ·have e1:((C.set (C.ρ id) vs').dup id).ρ s.length=C.ρ id:=by simp[Ctx.dup,Ctx.set,hn]
           have e2:((C.set (C.ρ id) vs').dup id).w.heap[C.ρ id]? = some (.cells vs' T (0,0)):=setRow_heap _ _ _ _ _ _ p1
           rw[e1];unfold bs;rw[e2];simp only[hvsz];omega
         ·exact xJ (P:=P) (w:=C.w) t t2 ty e i hu d2 hu2 hd2 hi (some ⟨C.ρ id,0,none⟩) n cap us.toArray m u q4 hroom (C.w.setRow (C.ρ id) vs')
           (fun a ha=>by cases ha;rw[ym,Nat.zero_add];exact hst) (fun h=>by cases h)
       ·-- in a new block
        have hhead:RelV C (.ref i.size id 0 n fl) (.slice (some ⟨C.ρ id,0,none⟩) n cap):=by
         simp only[RelV];exact⟨k0,cap,rfl,k1,k2,k3,by rw[hbs];exact k4⟩
        obtain⟨os2,r1,r2,r3,r4⟩:=xm (P:=P) (size:=i.size) (cs:=cs.take (n*i.size)) (n:=n) hok hhead (by simp[zQ,hid,hbd0])
        have hrun:=wn (P:=P) (w:=C.w) t t2 ty e i zv hu d2 hu2 hd2 hi hz1 (some ⟨C.ρ id,0,none⟩) n cap os2.toArray us.toArray m u (fun w' hw=>(r4 w' hw).2) q4 (by omega) hbd1 hbd2
        have hge:=grownCap_ge C.w (n+m) cap e
        have hle2:=grownCap_le_maxLen C.w (n+m) cap e hbd1
        generalize grownCap C.w (n+m) cap e=gc at *
        let vs2:Array Value:=os2.toArray++us.toArray++Builtin.zeroCells zv.cells (gc-(n+m))
        have hok1:=hok.kill hid
        have hok2:=hok1.drew
        have hle:=C.le_drew.trans (hok2.le_push (.cells vs2 e))
        refine⟨C.drew.push (.cells vs2 e),_,hle,hok2.push _ (.cells (cs.take (n*i.size)++ds)) ?_,rfl,?_,hrun⟩
        ·refine⟨vs2,e,os2++us,(Builtin.zeroCells zv.cells (gc-(n+m))).toList,yH _ _,by simp[vs2],(zi.mono hle _ _ r1).app (zi.mono hle _ _ q1),?_⟩
         intro u' hu'
         rcases List.mem_append.1 hu' with h' | h'
         ·exact r2 u' h'
         ·exact q2 u' h'
        ·simp only[RelV]
         refine⟨by simp[Ctx.push,Ctx.drew,hn],gc,?_,hge,hle2,by simp,?_⟩
         ·simp[Ctx.push,Ctx.drew,hn]
         ·have e1:(C.drew.push (.cells vs2 e)).ρ s.length=C.w.heap.size:=by simp[Ctx.push,Ctx.drew,hn]
          have e2:(C.drew.push (.cells vs2 e)).w.heap[C.w.heap.size]? = some (.cells vs2 e):=yH C.drew.w _
          have e3:n+m+(gc-(n+m))=gc:=by omega
          have e4:vs2.size=gc*i.size:=by
           have e5:=congrArg (· * i.size) e3
           simp only[Nat.add_mul] at e5
           simp[vs2,Ky,hzl]
           omega
          rw[e1];unfold bs;rw[e2];simp only[e4];simp
      ·cases h
     ·cases h
    ·cases h
   ·cases h
  ·cases h
 ·cases h
def zk (P:Program)(t t2:TypeId)(x y:LV)(s:List AObj):Option (LV × List AObj):=
 if zw P t t2 x y s=true then some (x,s) else match x with
  | .ref .. =>zI P t t2 x y s
  | _=>zF P t t2 x y s
theorem KV {P:Program}{C:Ctx}{s s':List AObj}{t t2 ty:TypeId}{x y r:LV}{v u:Value}(hok:Ok C s)(hx:RelV C x v)(hy:RelV C y u)(h:zk P t t2 x y s=some (r,s')) :
  Runs P C (Builtin.append_ #[t,t2] ty #[v,u]) r s' C.τ:=by
 unfold zk at h
 split at h
 ·rename_i hn
  simp only[Option.some.injEq,Prod.mk.injEq] at h
  obtain⟨rfl,rfl⟩:=h
  exact KQ hok hx hy hn
 ·split at h
  ·exact Ja hok hx hy h
  ·exact Jb hok hx hy h
def ziC (P:Program)(t:TypeId):Bool:=match P.underlying t with
 | some (.slice e)=>(match szT P e with | some n=>n == 5 | none=>false)
 | _=>false
def aopO (P:Program)(own:Bool)(o:Op)(st:St):Option (LV × List AObj × List Nat):=match own,o with
 | true,.call c=>(match c.callee,c.argTypes.toList,c.args.toList.map (aev st.t) with
  | .builtin .append,[t,t2],[x,y]=>(zk P t t2 x y st.s).map fun (r,s)=>(r,s,st.v)
  | _,_,_=>aop P o st)
 | true,.buildSlice t len parts=>if ziC P t=true then (Km P t len (parts.toList.map fun p=>(p.1,aev st.t p.2)) st.s).map fun (x,s)=>(x,s,st.v) else aop P o st
 | _,_=>aop P o st
theorem zdp {P:Program}{own:Bool}{C:Ctx}{st:St}{o:Oper}{a:Act}{x:LV}{s:List AObj}{v:List Nat}(hok:Ok C st.s)(hv:C.τ = st.v)(hT:RelT C st.t a.tmps)(h:aopO P own o.op st=some (x,s,v)):Done P C o a x s v:=by
 unfold aopO at h
 split at h
 ·rename_i c ho
  split at h
  ·rename_i t t2 y z hc e1 e2
   have hargs:=xZ hT c.args.toList
   rw[e2] at hargs
   obtain⟨u,r,e3,h1,w,r',e4,h2,h3⟩:=hargs
   simp only[zi] at h3
   subst h3;subst e4
   have e5:c.args.map a.eval = #[u,w]:=by apply Array.ext';simpa using e3
   have e6:c.argTypes = #[t,t2]:=by apply Array.ext';simpa using e1
   simp only[Option.map_eq_some_iff] at h
   obtain⟨⟨r,s'⟩,k1,k2⟩:=h
   simp only[Prod.mk.injEq] at k2;obtain⟨rfl,rfl,rfl⟩:=k2
   rw[← hv]
   exact(KV (ty:=o.type) hok h1 h2 k1).done (by simp[execOp,ho,resolve,invoke,builtin,hc,e5,e6])
  ·exact JJ hok hv hT h
 ·rename_i t len parts ho
  split at h
  ·simp only[Option.map_eq_some_iff] at h
   obtain⟨⟨r,s'⟩,k1,k2⟩:=h
   simp only[Prod.mk.injEq] at k2;obtain⟨rfl,rfl,rfl⟩:=k2
   rw[← hv]
   refine(JX (pv:=parts.map fun p=>(p.1,a.eval p.2)) hok (by simp[List.map_map]) ?_ k1).done (by simp[execOp,ho])
   have:=xZ hT (parts.toList.map (·.2))
   rw[List.map_map,List.map_map] at this
   rw[Array.toList_map,List.map_map,List.map_map]
   exact this
  ·exact JJ hok hv hT h
 ·exact JJ hok hv hT h
end Go.Hb
end
section
namespace Go.Hb
open Go Go.RowKit
def mark (b:Nat):Deferred:={target:=.collected b,args:= #[] }
def RelD (C:Ctx)(B:Nat)(ds:List Deferred):Prop:=B≤C.w.heap.size∧∃ bs:List Nat,ds=bs.map mark∧bs.Nodup∧∀ b∈bs,(B≤b∧C.kept b)∧C.w.heap[b]? = some (.deferred (some []))
theorem RelD.mono {C C':Ctx}(h:C.le C'){B:Nat}{ds:List Deferred}(r:RelD C B ds):RelD C' B ds:=by
 obtain⟨h0,bs,h1,h2,h3⟩:=r
 exact⟨Nat.le_trans h0 h.size,bs,h1,h2,fun b hb=>⟨⟨(h3 b hb).1.1,h.kept b (h3 b hb).1.2⟩,(h.keep b (h3 b hb).1.2).trans (h3 b hb).2⟩⟩
def RelS (C:Ctx)(N B:Nat)(t:Nat→LV)(a:Act):Prop:=a.tmps.size=N∧RelT C t a.tmps∧RelD C B a.defers
theorem RelS.mono {C C':Ctx}(h:C.le C'){N B:Nat}{t:Nat→LV}{a:Act}(r:RelS C N B t a):RelS C' N B t a:=⟨r.1,RelT.mono h r.2.1,RelD.mono h r.2.2⟩
def dOk (N:Nat)(d:Option Tmp):Prop:=match d with | some d=>d<N | none=>True
theorem RelS.put {C:Ctx}{N B:Nat}{t:Nat→LV}{a:Act}(r:RelS C N B t a){d:Option Tmp}(hd:dOk N d){x:LV}{v:Value}(hx:RelV C x v):RelS C N B (updO d x t) (a.put d v):=by
 cases d with
 | none=>exact r
 | some d=>
  obtain⟨h1,h2,h3⟩:=r
  exact⟨by simp[Act.put,h1],h2.upd (show d<a.tmps.size from by rw[h1];exact hd) hx,h3⟩
def Lift (C0:Ctx)(N B:Nat)(Q:Exit→St→Prop):Exit→Act→World→Prop:=
 fun e a w=>∃ C st,C.w=w∧C0.le C∧Ok C st.s∧C.τ = st.v∧RelS C N B st.t a∧Q e st
theorem Lift.from {C0 C1:Ctx}(h:C0.le C1){N B:Nat}{Q:Exit→St→Prop}{e:Exit}{a:Act}{w:World}(r:Lift C1 N B Q e a w):Lift C0 N B Q e a w:=by
 obtain⟨C,st,h1,h2,h3⟩:=r
 exact⟨C,st,h1,h.trans h2,h3⟩
def Fr (C:Ctx)(r:Option Nat):Fence:={Fence.wide with round:=r.map C.ρ }
theorem Fr.eq {C C':Ctx}(h:C.le C'){r:Option Nat}(hr:∀ l,r=some l→l<C.n):Fr C' r=Fr C r:=by
 cases r with
 | none=>rfl
 | some l=>simp[Fr,h.ρ l (hr l rfl)]
def rOk (n:Nat)(r:Option Nat):Prop:=∀ l,r=some l→l<n
theorem rOk.mono {C C':Ctx}(h:C.le C'){r:Option Nat}(hr:rOk C.n r):rOk C'.n r:=fun l hl=>Nat.lt_of_lt_of_le (hr l hl) h.n
def aW (P:Program)(r:Option Nat)(N:Nat)(c:Code)(Q:Exit→St→Prop)(st:St):Prop:=
 ∀ B C a,Ok C st.s→C.τ = st.v→RelS C N B st.t a→rOk C.n r→c.wpIn (Fr C r) 0 P (Lift C N B Q) a C.w
def yp (next:St→Prop)(Q:Exit→St→Prop):Exit→St→Prop
 | .normal,st=>next st
 | e,st=>Q e st
def zE (id:Nat)(Q:Exit→St→Prop):Exit→St→Prop
 | .exit id',st=>if id'=id then Q .normal st else Q (.exit id') st
 | e,st=>Q e st
section
variable {P:Program} {r:Option Nat} {N:Nat} {Q Q':Exit→St→Prop} {st:St}
theorem uo {c:Code}(h:aW P r N c Q st)(hq:∀ e st,Q e st→Q' e st):aW P r N c Q' st:=fun B C a h1 h2 h3 h4=>
 wpIn_mono (h B C a h1 h2 h3 h4) fun e a w ⟨C',st',k1,k2,k3,k4,k5,k6⟩=>⟨C',st',k1,k2,k3,k4,k5,hq _ _ k6⟩
theorem zjr (h:Q .normal st):aW P r N .skip Q st:=fun B C a h1 h2 h3 _=>wpIn_skip ⟨C,st,rfl,.refl C,h1,h2,h3,h⟩
theorem zkN (h:Q .ret st):aW P r N .ret Q st:=fun B C a h1 h2 h3 _=>wpIn_ret ⟨C,st,rfl,.refl C,h1,h2,h3,h⟩
theorem zjG {id:Nat}(h:Q (.exit id) st):aW P r N (.exit id) Q st:=fun B C a h1 h2 h3 _=>wpIn_exit ⟨C,st,rfl,.refl C,h1,h2,h3,h⟩
theorem Yc {x y:Code}(h:aW P r N x (yp (aW P r N y Q) Q) st):aW P r N (.seq x y) Q st:=fun B C a h1 h2 h3 h4=>
 wpIn_seq (wpIn_mono (h B C a h1 h2 h3 h4) fun e a' w ⟨C',st',k1,k2,k3,k4,k5,k6⟩=>by
  subst k1
  cases e with
  | normal=>
   have:=k6 B C' a' k3 k4 k5 (rOk.mono k2 h4)
   rw[Fr.eq k2 h4] at this
   exact wpIn_mono this fun e a w hl=>Lift.from k2 hl
  | _=>exact⟨C',st',rfl,k2,k3,k4,k5,k6⟩)
theorem Jp {id:Nat}{c:Code}(h:aW P r N c (zE id Q) st):aW P r N (.block id c) Q st:=fun B C a h1 h2 h3 h4=>
 wpIn_block (wpIn_mono (h B C a h1 h2 h3 h4) fun e a' w ⟨C',st',k1,k2,k3,k4,k5,k6⟩=>by
  subst k1
  cases e with
  | exit id'=>
   by_cases e:id'=id
   ·simp only[Exit.inBlock,e,if_true]
    simp only[zE,e,if_true] at k6
    exact⟨C',st',rfl,k2,k3,k4,k5,k6⟩
   ·simp only[Exit.inBlock,e,if_false]
    simp only[zE,e,if_false] at k6
    exact⟨C',st',rfl,k2,k3,k4,k5,k6⟩
  | _=>exact⟨C',st',rfl,k2,k3,k4,k5,k6⟩)
def aIf (c:LV)(x y:Prop):Prop:=match c with | .bool b=>if b=true then x else y | _=>False
theorem zkc {c:Operand}{x y:Code}(h:aIf (aev st.t c) (aW P r N x Q st) (aW P r N y Q st)):aW P r N (.cond c x y) Q st:=fun B C a h1 h2 h3 h4=>by
 have hr:=zX h3.2.1 c
 cases hc:aev st.t c<;>simp only[hc,aIf] at h
 rename_i b
 rw[hc] at hr;simp only[RelV] at hr
 refine wpIn_cond hr ?_
 cases b
 ·exact h B C a h1 h2 h3 h4
 ·exact h B C a h1 h2 h3 h4
theorem yR {p:Nat→Prop}(h:∃ n,p n):∃ n,p n∧∀ m,p m→n≤m:=by
 obtain⟨n,hn⟩:=h
 induction n using Nat.strongRecOn with
 | _ n ih=>
  by_cases hex:∃ m,m<n∧p m
  ·obtain⟨m,hm,hpm⟩:=hex
   exact ih m hm hpm
  ·exact⟨n,hn,fun m hm=>by
    rcases Nat.lt_or_ge m n with h' | h'
    ·exact absurd ⟨m,h',hm⟩ hex
    ·exact h'⟩
open Classical in
theorem ziL {c:Code}(I:St→Prop)(μ : St→Nat)(h0:I st)(round:∀ st,I st→aW P r N c (yp (fun st'=>I st'∧μ st'<μ st) Q) st):aW P r N (.loop c) Q st:=fun B C a h1 h2 h3 h4=>by
 let R:Nat→Act→World→Prop:=fun n a w=>∃ C' st',C'.w=w∧C.le C'∧Ok C' st'.s∧C'.τ = st'.v∧RelS C' N B st'.t a∧I st'∧μ st'=n
 refine wpIn_loop (fun a w=>∃ n,R n a w) (fun a w=>if h:∃ n,R n a w then Classical.choose (yR h) else 0) ⟨μ st,C,st,rfl,.refl C,h1,h2,h3,h0,rfl⟩ ?_
 intro a w hI
 obtain⟨C',st',k1,k2,k3,k4,k5,k6,k7⟩:=(Classical.choose_spec (yR hI)).1
 subst k1
 have:=round st' k6 B C' a k3 k4 k5 (rOk.mono k2 h4)
 rw[Fr.eq k2 h4] at this
 refine wpIn_mono this fun e a' w' ⟨C2,st2,m1,m2,m3,m4,m5,m6⟩=>?_
 subst m1
 cases e with
 | normal=>
  have hR:R (μ st2) a' C2.w:=⟨C2,st2,rfl,k2.trans m2,m3,m4,m5,m6.1,rfl⟩
  refine⟨⟨_,hR⟩,?_⟩
  have hex:∃ n,R n a' C2.w:=⟨_,hR⟩
  show (if h:∃ n,R n a' C2.w then Classical.choose (yR h) else 0)<(if h:∃ n,R n a C'.w then Classical.choose (yR h) else 0)
  rw[dif_pos hex,dif_pos hI]
  have:=(Classical.choose_spec (yR hex)).2 _ hR
  have h9:=m6.2
  omega
 | _=>exact⟨C2,st2,rfl,k2.trans m2,m3,m4,m5,m6⟩
end
end Go.Hb
end
section
namespace Go.Hb
open Go Go.RowKit
def fnOk (P:Program)(f:FuncId):Bool:=match P.funcs[f]? with
 | some fn => fn.body.isSome && !(fn.name == "runtime.NumGoroutine")
 | none=>false
def zp (P:Program)(f:FuncId)(args:List LV)(s:List AObj)(v:List Nat)(R:LV→List AObj→List Nat→Prop):Prop:=
 fnOk P f=true∧∀ (C:Ctx) (vs:Array Value),Ok C s→C.τ = v→zi C args vs.toList→
  Calls P f vs C.w fun e w'=>∃ C' x u s' v',C'.w=w'∧e = .returned u∧C.le C'∧Ok C' s'∧C'.τ = v'∧RelV C' x u∧R x s' v'
theorem zj {P:Program}{f:FuncId}{args:List LV}{s:List AObj}{v:List Nat}{R R':LV→List AObj→List Nat→Prop}(h:zp P f args s v R)(hr:∀ x s v,R x s v→R' x s v):zp P f args s v R':=
 ⟨h.1,fun C vs h1 h2 h3=>(h.2 C vs h1 h2 h3).mono fun e w' ⟨C',x,u,s',v',k1,k2,k3,k4,k5,k6,k7⟩=>⟨C',x,u,s',v',k1,k2,k3,k4,k5,k6,hr _ _ _ k7⟩⟩
theorem KF {P:Program}{f:FuncId}(h:fnOk P f=true)(args:Array Value)(w:World):(callFunc f args).run P w = .ok (.enter f args) w:=by
 unfold fnOk at h
 cases hf:P.funcs[f]? with
 | none=>simp[hf] at h
 | some fn=>
  simp only[hf,Bool.and_eq_true,Bool.not_eq_true'] at h
  obtain⟨h1,h2⟩:=h
  have h3:fn.body.isNone=false:=by cases hb:fn.body<;>simp_all
  unfold callFunc
  simp only[Sem.run_bind,run_program,Result.andThen_ok,hf,h2,Bool.false_eq_true,if_false,h3]
  rfl
def QO (P:Program)(l:Nat)(args:List LV)(s:List AObj)(v:List Nat)(R:LV→List AObj→List Nat→Prop):Prop:=
 ∀ (C:Ctx) (vs:Array Value),Ok C s→C.τ = v→zi C args vs.toList→l<C.n∧
  ∃ fn tmps assign body,(Instr.yield (C.ρ l) vs).run P C.w = .ok (.round (C.ρ l) fn tmps assign body) C.w∧
  ∀ F:Fence,F=Fr C none→RoundIn F 0 P (C.ρ l) fn tmps assign body C.w fun e w'=>∃ C' x u s' v',C'.w=w'∧e = .returned u∧C.le C'∧Ok C' s'∧C'.τ = v'∧RelV C' x u∧R x s' v'
theorem zi.mk {C:Ctx}{t:Nat→LV}{a:Act}(r:RelT C t a.tmps)(as:Array Operand):zi C (as.toList.map (aev t)) (as.map a.eval).toList:=by
 simpa using xZ r as.toList
def wG (ops:Array Oper)(t:Nat→LV)(o:Oper):Option Bool:=match o.guard with
 | none=>some true
 | some (j,want)=>match (ops[j]?).bind (·.dst) with
  | some d=>(match t d with
   | .bool b=>some (b == want)
   | .tup _=>some false
   | _=>none)
  | none=>some false
theorem XE {C:Ctx}{N B:Nat}{ops:Array Oper}{t:Nat→LV}{a:Act}{o:Oper}{b:Bool}(r:RelS C N B t a)(h:wG ops t o=some b):Region.wanted o (yielded ops a.tmps)=b:=by
 unfold wG at h
 unfold Region.wanted
 split at h
 ·rename_i hg;simp at h;subst h;simp[hg]
 ·rename_i j want hg
  simp only[hg]
  split at h
  ·rename_i d hd
   have hr:=r.2.1 d
   unfold yielded
   rw[hd]
   simp only[Option.bind_some]
   split at h
   ·rename_i b' hb
    rw[hb] at hr;simp only[RelV] at hr
    simp at h;subst h
    rw[Array.getD_eq_getD_getElem?] at hr
    cases hx:a.tmps[d]? with
    | none=>rw[hx] at hr;simp[undef] at hr
    | some x=>rw[hx] at hr;simp at hr;subst hr;simp
   ·rename_i vs hb
    rw[hb] at hr;simp only[RelV] at hr
    obtain⟨us,hr,_⟩:=hr
    simp at h;subst h
    rw[Array.getD_eq_getD_getElem?] at hr
    cases hx:a.tmps[d]? with
    | none=>simp
    | some x=>rw[hx] at hr;simp at hr;subst hr;simp
   ·cases h
  ·rename_i hd
   simp at h;subst h
   simp[yielded,hd]
inductive Callee' where
 | func (f:FuncId) (args:List LV)
 | yld (l:Nat) (args:List LV)
 | bad
 | no
def callee (o:Op)(t:Nat→LV):Callee':=match o with
 | .call c=>match c.callee with
  | .value f=>match aev t f with
   | .fn (.func g) fa ca=>.func g (fa++c.args.toList.map (aev t)++ca)
   | .yld l=>.yld l (c.args.toList.map (aev t))
   | _=>.bad
  | .builtin _=>.no
  | _=>.bad
 | .defer _ | .go _=>.bad
 | _=>.no
def xq (P:Program)(N:Nat)(ops:Array Oper)(o:Oper)(st:St)(K:St→Prop)(own:Bool:=false):Prop:=
 dOk N o.dst∧match wG ops st.t o with
 | some false=>K {st with t:=updO o.dst (.tup []) st.t }
 | some true=>(match callee o.op st.t with
  | .func f args=>zp P f args st.s st.v fun x s v=>K ⟨updO o.dst x st.t,s,v⟩
  | .yld l args=>QO P l args st.s st.v fun x s v=>K ⟨updO o.dst x st.t,s,v⟩
  | .bad=>False
  | .no=>match aopO P own o.op st with
   | some (x,s,v)=>K ⟨updO o.dst x st.t,s,v⟩
   | none=>False)
 | none=>False
end Go.Hb
end
section
namespace Go.Hb
open Go Go.RowKit
theorem ZV {P:Program}{C:Ctx}{r:Option Nat}{f:FuncId}{args:Array Value}{w:World}{R:Ending→World→Prop}{n:Nat}(h:Calls P f args w R):CallsIn (Fr C r) n P f args w R:=by
 have h1:CallsIn Fence.wide n P f args w R:=callsIn_wide.2 h
 cases r with
 | none=>exact h1
 | some l=>exact CallsIn.inRound (C.ρ l) h1
def zmj (C0:Ctx)(N B:Nat)(K:St→Prop):Act→World→Prop:=
 fun a w=>∃ C st,C.w=w∧C0.le C∧Ok C st.s∧C.τ = st.v∧RelS C N B st.t a∧K st
theorem Kc {P:Program}{ρ : Operand→Value}{c:Call}{f:Operand}(hc:c.callee = .value f){fn:Fn}{fs cs:Array Value}(hv:ρ f = .func fn fs cs)(ty:TypeId)(w:World) :
  (do let d ← resolve ρ c ty;invoke d.target d.args:Sem Next).run P w=(invoke (.fn fn cs) (fs++c.args.map ρ)).run P w:=by
 simp[resolve,hc,hv,Deferred.ofValue]
theorem vX {P:Program}{r:Option Nat}{N:Nat}{ops:Array Oper}{i:Nat}{o:Oper}{st:St}{K:St→Prop}{own:Bool}(Q':Exit→Act→World→Prop)(ho:ops[i]? = some o)(h:xq P N ops o st K own) :
  ∀ B C a,Ok C st.s→C.τ = st.v→RelS C N B st.t a→rOk C.n r→wpOpIn (Fr C r) 0 P ops Q' i (zmj C N B K) a C.w:=by
 intro B C a h1 h2 h3 h4
 obtain⟨hd,h⟩:=h
 unfold wpOpIn
 simp only[ho]
 cases hg:wG ops st.t o with
 | none=>simp[hg] at h
 | some b=>
  have hw:=XE h3 hg
  rw[hg] at h
  cases b with
  | false=>
   simp only at h
   rw[if_neg (by simp[hw])]
   refine⟨fun _ _=>trivial,C,⟨updO o.dst (.tup []) st.t,st.s,st.v⟩,rfl,.refl C,h1,h2,?_,h⟩
   exact h3.put (x:=.tup []) (v:=undef) hd (by simp only[RelV];exact⟨#[],rfl,by simp[zi]⟩)
  | true=>
   simp only at h
   rw[if_pos hw]
   refine⟨fun _ _=>trivial,?_⟩
   have hnd:∀ c,o.op≠.defer c:=by
    intro c e
    simp[callee,e] at h
   rw[Oper.semAt_eq _ _ _ hnd]
   cases hc:callee o.op st.t with
   | bad=>simp[hc] at h
   | no=>
    simp only[hc] at h
    cases ha:aopO P own o.op st with
    | none=>simp[ha] at h
    | some y=>
     obtain⟨x,s,v⟩:=y
     simp only[ha] at h
     obtain⟨C',u,k1,k2,k3,k4,k5⟩:=zdp (o:=o) h1 h2 h3.2.1 ha
     rcases k5 with k5 | ⟨k5,rfl⟩
     ·rw[k5];exact⟨C',_,rfl,k1,k2,k3,(h3.mono k1).put hd k4,h⟩
     ·rw[k5];exact⟨C',_,rfl,k1,k2,k3,(h3.mono k1).put hd k4,h⟩
   | func f args=>
    simp only[hc] at h
    unfold callee at hc
    split at hc
    ·rename_i c hop
     split at hc
     ·rename_i g hcal
      split at hc
      ·rename_i g' fa ca hg'
       simp only[Callee'.func.injEq] at hc
       obtain⟨rfl,rfl⟩:=hc
       have hr:=zX h3.2.1 g
       rw[hg'] at hr;simp only[RelV] at hr
       obtain⟨fs,cs,hv,hr1,hr2⟩:=hr
       have hex:(execOp a.eval o).run P C.w = .ok (.enter g' (fs++c.args.map a.eval++cs)) C.w:=by
        unfold execOp
        simp only[hop]
        rw[Kc hcal hv]
        simp only[invoke]
        exact KF h.1 _ _
       rw[hex,Oper.uponIn_enter]
       refine⟨fun hh=>by cases r<;>simp[Fr,Fence.wide] at hh,ZV ?_⟩
       have hargs:zi C (fa++c.args.toList.map (aev st.t)++ca) (fs++c.args.map a.eval++cs).toList:=by
        simp only[Array.toList_append]
        exact(hr1.app (zi.mk h3.2.1 c.args)).app hr2
       refine(h.2 C _ h1 h2 hargs).mono ?_
       rintro e w' ⟨C',x,u,s',v',rfl,rfl,k3,k4,k5,k6,k7⟩
       exact⟨C',_,rfl,k3,k4,k5,(h3.mono k3).put hd k6,k7⟩
      ·cases hc
      ·cases hc
     ·cases hc
     ·cases hc
    ·cases hc
    ·cases hc
    ·cases hc
   | yld l args=>
    simp only[hc] at h
    unfold callee at hc
    split at hc
    ·rename_i c hop
     split at hc
     ·rename_i g hcal
      split at hc
      ·cases hc
      ·rename_i l' hg'
       simp only[Callee'.yld.injEq] at hc
       obtain⟨rfl,rfl⟩:=hc
       have hr:=zX h3.2.1 g
       rw[hg'] at hr;simp only[RelV] at hr
       obtain⟨hl,hv⟩:=hr
       have hargs:=zi.mk h3.2.1 c.args
       obtain⟨_,fn,tmps,assign,body,hy,hround⟩:=h C _ h1 h2 hargs
       have hex:(execOp a.eval o).run P C.w = .ok (.round (C.ρ l') fn tmps assign body) C.w:=by
        unfold execOp
        simp only[hop]
        rw[Kc hcal hv]
        simp only[invoke]
        rw[show (#[]:Array Value)++c.args.map a.eval=c.args.map a.eval from by simp]
        exact hy
       rw[hex,Oper.uponIn_round]
       refine⟨fun hh=>by cases r<;>simp[Fr,Fence.wide] at hh,?_⟩
       refine RoundIn.mono (F:=Fr C r) (show RoundIn (Fr C r) 0 P (C.ρ l') fn tmps assign body C.w _ from by
        have h9:=hround (Fr C none) rfl
        cases r with
        | none=>exact h9
        | some l0=>exact h9) ?_
       rintro e w' ⟨C',x,u,s',v',rfl,rfl,k3,k4,k5,k6,k7⟩
       exact⟨C',_,rfl,k3,k4,k5,(h3.mono k3).put hd k6,k7⟩
      ·cases hc
     ·cases hc
     ·cases hc
    ·cases hc
    ·cases hc
    ·cases hc
def aL (P:Program)(N:Nat)(ops:Array Oper)(own:Bool):List Oper→(St→Prop)→St→Prop
 | [],K,st=>K st
 | o :: rest,K,st=>xq P N ops o st (aL P N ops own rest K) own
theorem zcJ {P:Program}{r:Option Nat}{N:Nat}{ops:Array Oper}{own:Bool}{Q:Exit→St→Prop}(B:Nat)(C0:Ctx)(h4:rOk C0.n r):∀ (l:List Oper) (k:Nat) (C:Ctx) (a:Act) (st:St),C0.le C→ops.toList.drop k=l→Ok C st.s→C.τ = st.v→RelS C N B st.t a→aL P N ops own l (Q .normal) st→
   wpOpsIn (Fr C0 r) 0 P ops (Lift C0 N B Q) (List.range' k l.length) a C.w:=by
 intro l
 induction l with
 | nil=>intro k C a st hle _ h1 h2 h3 h;exact⟨C,st,rfl,hle,h1,h2,h3,h⟩
 | cons o rest ih=>
  intro k C a st hle hl h1 h2 h3 h
  have ho:ops[k]? = some o:=by
   have:ops.toList[k]? = some o:=by
    have:=congrArg (fun l=>l[0]?) hl
    simpa using this
   simpa using this
  have hrest:ops.toList.drop (k+1)=rest:=by
   have:=congrArg List.tail hl
   simpa using this
  rw[show List.range' k (o :: rest).length=k :: List.range' (k+1) rest.length from by simp[List.range'_succ],wpOpsIn_cons]
  have hs:=vX (r:=r) (Lift C0 N B Q) ho h B C a h1 h2 h3 (rOk.mono hle h4)
  rw[Fr.eq hle h4] at hs
  refine wpOpIn_mono ?_ hs
  rintro a' w' ⟨C',st',rfl,k2,k3,k4,k5,k6⟩
  exact ih (k+1) C' a' st' (hle.trans k2) hrest k3 k4 k5 k6
theorem zfB {P:Program}{r:Option Nat}{N id:Nat}{ops:Array Oper}{own:Bool}{Q:Exit→St→Prop}{st:St}(h:aL P N ops own ops.toList (Q .normal) st):aW P r N (.region id ops false) Q st:=by
 intro B C a h1 h2 h3 h4
 refine wpIn_region ?_
 have:=zcJ B C h4 ops.toList 0 C a st (.refl C) (by simp) h1 h2 h3 h
 rw[List.range_eq_range']
 simpa using this
def yP (args:List LV):Nat→LV:=fun i=>args.getD i (.tup [])
def Jw (P:Program)(st:St):ResultVar→Option LV
 | .tmp i=>some (st.t i)
 | .cell a T=>zcQ P T (st.t a) st.s
def ZJ:List LV→LV
 | [x]=>x
 | xs=>.tup xs
def aRes (P:Program)(fn:Func)(st:St):Option LV:=(fn.results.toList.mapM (Jw P st)).map ZJ
def YW (P:Program)(fn:Func)(R:LV→List AObj→List Nat→Prop):Exit→St→Prop
 | .normal,st | .ret,st=>∃ x,aRes P fn st=some x∧R x st.s st.v
 | _,_=>False
end Go.Hb
end
section
namespace Go.Hb
open Go Go.RowKit
def Ctx.shut (C:Ctx)(b:Nat):Ctx:={C with w:={C.w with heap:=C.w.heap.setIfInBounds b (.deferred none) },kept:=fun k=>C.kept k∧k≠b }
theorem vl (C:Ctx)(b k:Nat)(h:k≠b):(C.shut b).w.heap[k]? = C.w.heap[k]?:=by
 simp only[Ctx.shut]
 rw[Array.getElem?_setIfInBounds_ne (by omega)]
theorem XH {C:Ctx}{b:Nat}(hb:C.w.heap[b]? = some (.deferred (some [])))(a:Addr):(C.shut b).w.cell? a=C.w.cell? a:=by
 by_cases h:a.block=b
 ·subst h
  have hlt:=(Array.getElem?_eq_some_iff.1 hb).1
  have h1:(C.shut a.block).w.heap[a.block]? = some (.deferred none):=by simp[Ctx.shut,hlt]
  simp[World.cell?,hb,h1]
 ·simp only[World.cell?,vl C b _ h]
theorem Xw {C:Ctx}{b:Nat}(hb:C.w.heap[b]? = some (.deferred (some []))):C.wle (C.shut b):=
 ⟨fun _=>Nat.le_refl _,fun _ _ _=>XH hb _,fun _ _=>rfl,Nat.le_refl _,fun _ e h=>⟨e,h,Nat.le_refl _,fun _=>rfl⟩,fun b'=>by
  by_cases e:b'=b
  ·subst e;unfold bs;rw[hb];exact Nat.zero_le _
  ·exact Nat.le_of_eq (Zd (vl C b b' e)).symm⟩
theorem RelT.wmono {C C':Ctx}(h:C.wle C'){t:Nat→LV}{tmps:Array Value}(r:RelT C t tmps):RelT C' t tmps:=fun i=>RelV.wmono h _ _ (r i)
theorem vc.wmono {C C':Ctx}(h:C.wle C'):∀ {x:Option LV} {v:Option Value},vc C x v→vc C' x v
 | none,none,_=>trivial
 | some _,some _,r=>RelV.wmono h _ _ r
theorem RelO.wmono {C C':Ctx}(h:C.wle C'){o:AObj}{b:Nat}(hb:C'.w.heap[b]? = C.w.heap[b]?)(r:RelO C o b):RelO C' o b:=by
 cases o with
 | cells cs=>
  obtain⟨vs,T,us,ws,h1,h2,h3,h4⟩:=r
  exact⟨vs,T,us,ws,hb.trans h1,h2,zi.wmono h _ _ h3,h4⟩
 | loop r'=>
  obtain⟨L,h1,h2,h3,h4,h5,h6,h7,h8⟩:=r
  exact⟨L,hb.trans h1,h2,h3,h4,h5,h6,h7,RelT.wmono h h8⟩
 | map f=>
  obtain⟨es,cl,h1,h2,h3⟩:=r
  exact⟨es,cl,hb.trans h1,h2,fun k=>vc.wmono h (h3 k)⟩
theorem Ok.shut {C:Ctx}{s:List AObj}(h:Ok C s){b:Nat}(hk:C.kept b)(hb:C.w.heap[b]? = some (.deferred (some []))):Ok (C.shut b) s where
 n:=h.n
 obj i o ho:=by
  have hin:i<C.n:=by rw[h.n];exact(List.getElem?_eq_some_iff.1 ho).1
  exact RelO.wmono (Xw hb) (vl C b _ (fun e=>(h.own i hin).1 (e ▸ hk))) (h.obj i o ho)
 inj:=h.inj
 own i hi:=by obtain⟨a,b',c⟩:=h.own i hi;exact⟨fun hh=>a hh.1,b',by simpa[Ctx.shut] using c⟩
 tip g hg:=by
  obtain⟨a,b',vs,T,c,d⟩:=h.tip g hg
  exact⟨fun hh=>a hh.1,b',vs,T,(vl C b (C.θ g).b (fun e=>a (by rw[e];exact hk))).trans c,d⟩
 tipinj:=h.tipinj
 tipown:=h.tipown
 kept b' hb':=by have:=h.kept b' hb'.1;simpa[Ctx.shut] using this
 lim b' hb':=h.lim b' (by simpa[Ctx.shut] using hb')
theorem zhI {P:Program}{w:World}{b:Nat}(hb:w.heap[b]? = some (.deferred (some []))):(Instr.takeDeferred b).run P w = .ok [] {w with heap:=w.heap.setIfInBounds b (.deferred none) }:=by
 simp[Instr.takeDeferred,getObj,setObj,Sem.run,hb,Sem.run_bind]
def JE (tmps:Array Value):ResultVar→Sem Value
 | .tmp t=>pure (tmps.getD t undef)
 | .cell a t=>do loadVar t (← asAddr (tmps.getD a undef))
theorem zdc (fn:Func)(tmps:Array Value):results fn tmps=(do
  let vs ← fn.results.mapM (JE tmps)
  pure (if h:vs.size=1 then vs[0] else .tuple vs)):=by
 unfold results
 congr 2
theorem zmb {P:Program}{C:Ctx}{st:St}{a:Act}(hok:Ok C st.s)(hT:RelT C st.t a.tmps):∀ (rs:List ResultVar) (xs:List LV),
  rs.mapM (Jw P st)=some xs→∃ vs,zi C xs vs∧(rs.mapM (JE a.tmps)).run P C.w = .ok vs C.w:=by
 intro rs
 induction rs with
 | nil=>intro xs h;simp at h;subst h;exact⟨[],rfl,rfl⟩
 | cons r rs ih=>
  intro xs h
  simp only[List.mapM_cons,Option.bind_eq_bind,Option.bind_eq_some_iff,Option.pure_def,Option.some.injEq] at h
  obtain⟨x,hx,ys,hys,rfl⟩:=h
  obtain⟨vs,h1,h2⟩:=ih ys hys
  cases r with
  | tmp t=>
   simp only[Jw,Option.some.injEq] at hx;subst hx
   refine⟨_ :: vs,⟨_,vs,rfl,hT t,h1⟩,?_⟩
   simp only[List.mapM_cons,Sem.run_bind,JE,Sem.run_pure,Result.andThen_ok]
   rw[h2];rfl
  | cell p T=>
   simp only[Jw] at hx
   have hp:=hT p
   obtain⟨u,k1,k2,ad,k3⟩:=Za (P:=P) hok hp hx
   rw[k3] at k2
   have k4:(loadVar T ad).run P C.w = .ok u C.w:=k2
   refine⟨u :: vs,⟨u,vs,rfl,k1,h1⟩,?_⟩
   have k5:(JE a.tmps (.cell p T)).run P C.w = .ok u C.w:=by
    simp only[JE,Sem.run_bind,k3,asAddr,Sem.run_pure,Result.andThen_ok,k4]
   simp only[List.mapM_cons,Sem.run_bind]
   rw[k5];simp only[Result.andThen_ok];rw[h2];rfl
theorem Qo {P : Program} {f : FuncId} {fn : Func} {c : Code} {args : List LV} {s : List AObj} {v : List Nat} {R : LV → List AObj → List Nat → Prop} (hf : P.funcs[f]? = some fn) (hb : fn.body = some c) (hn : (fn.name == "runtime.NumGoroutine") = false) (hlen : args.length ≤ fn.ntmps)
  (h:aW P none fn.ntmps c (YW P fn R) ⟨yP args,s,v⟩):zp P f args s v R:=by
 refine⟨by simp[fnOk,hf,hb,hn],fun C vs h1 h2 h3=>?_⟩
 have hvl:args.length=vs.size:=by simpa using h3.length
 have hS:RelS C fn.ntmps C.w.heap.size (yP args) {tmps:=vs++Array.replicate (fn.ntmps-vs.size) undef,defers:=[] }:=by
  refine⟨by simp;omega,fun i=>?_,Nat.le_refl _,[],rfl,by simp,by simp⟩
  unfold yP
  by_cases hi:i<args.length
  ·have hx:args[i]? = some args[i]:=by simp[hi]
   obtain⟨u,k1,k2⟩:=h3.get hx
   have hu:(vs++Array.replicate (fn.ntmps-vs.size) undef)[i]? = some u:=by
    rw[Array.getElem?_append_left (by omega)];simpa using k1
   rw[Array.getD_eq_getD_getElem?,hu]
   simpa[List.getD,hx] using k2
  ·have:args.getD i (.tup []) = .tup []:=by simp[List.getD,List.getElem?_eq_none (Nat.le_of_not_lt hi)]
   rw[this]
   have hu:(vs++Array.replicate (fn.ntmps-vs.size) undef).getD i undef=undef:=by
    rw[Array.getD_eq_getD_getElem?,Array.getElem?_append_right (by omega)]
    by_cases h9:i-vs.size<fn.ntmps-vs.size
    ·simp[h9]
    ·simp[h9]
   rw[hu];simp only[RelV];exact⟨#[],rfl,by simp[zi]⟩
 have hw:=h C.w.heap.size C _ h1 h2 hS (fun l hl=>by cases hl)
 have hfr:Fr C none=Fence.wide:=rfl
 rw[hfr] at hw
 refine(callsIn_wide (n:=0)).1 (callsIn_of_wp_marks hf hb trivial (wpIn_mono hw ?_) rfl)
 rintro e a w ⟨C',st,rfl,k2,k3,k4,⟨k5,k6,_,bs,k7,k8,k9⟩,k10⟩
 have key:∀ (bs:List Nat) (C':Ctx),(∀ b,C.kept b→C'.kept b∧C'.w.heap[b]? = C.w.heap[b]?)→C'.w.os=C.w.os→C'.w.tape=C.w.tape→C'.w.output=C.w.output→C.w.heap.size≤C'.w.heap.size→C.w.drawn≤C'.w.drawn→C.wle C'→Ok C' st.s→C'.τ = st.v→RelT C' st.t a.tmps→bs.Nodup→
   (∀ b∈bs,(C.w.heap.size≤b∧C'.kept b)∧C'.w.heap[b]? = some (.deferred (some [])))→(∃ x,aRes P fn st=some x∧R x st.s st.v)→
   LeavesInM Fence.wide 0 P fn a.tmps (fun e w'=>∃ C' x u s' v',C'.w=w'∧e = .returned u∧C.le C'∧Ok C' s'∧C'.τ = v'∧RelV C' x u∧R x s' v') (bs.map mark) .returning C'.w:=by
  intro bs
  induction bs with
  | nil=>
   intro C' q1 q2 q3 q4 q5 qd q6 q7 q8 q9 _ _ ⟨x,r1,r2⟩
   simp only[List.map_nil,LeavesInM,LeavesIn]
   unfold aRes at r1
   simp only[Option.map_eq_some_iff] at r1
   obtain⟨xs,hm,rfl⟩:=r1
   obtain⟨us,u1,u2⟩:=zmb (P:=P) q7 q9 _ _ hm
   have hul:=u1.length
   have hrun:(results fn a.tmps).run P C'.w = .ok (if h:us.toArray.size=1 then us.toArray[0] else .tuple us.toArray) C'.w:=by
    rw[zdc,Array.mapM_eq_mapM_toList]
    simp only[Sem.run_bind,Sem.run_map,u2,Result.andThen_ok,Sem.run_pure]
   have hle:C.le C':=⟨q2,q3,q4,q5,fun b hb=>(q1 b hb).1,fun b hb=>(q1 b hb).2,q6.lim,q6.cell,q6.ρ,q6.n,q6.τ,q6.room,qd⟩
   refine⟨_,hrun,C',ZJ xs,_,st.s,st.v,rfl,rfl,hle,q7,q8,?_,r2⟩
   match xs,u1,hul with
   | [y],u1,_=>
    obtain⟨w0,r',e1,e2,e3⟩:=u1
    simp only[zi] at e3
    subst e3;subst e1
    simpa[ZJ] using e2
   | [],u1,hul=>
    have:us=[]:=List.eq_nil_of_length_eq_zero (by simpa using hul.symm)
    subst this
    simp only[ZJ,RelV];exact⟨#[],by simp,by simp[zi]⟩
   | y :: z :: l,u1,hul=>
    have hn1:¬ us.toArray.size=1:=by simp at hul ⊢;omega
    rw[dif_neg hn1]
    simp only[ZJ,RelV]
    exact⟨_,rfl,by simpa using u1⟩
  | cons b bs ih=>
   intro C' q1 q2 q3 q4 q5 qd q6 q7 q8 q9 q10 q11 q12
   have hb':=q11 b (by simp)
   simp only[List.map_cons,LeavesInM]
   refine⟨by simp,.inl ⟨b,_,rfl,zhI hb'.2,?_⟩⟩
   have hsh:=ih (C'.shut b) (fun k hk=>?_) q2 q3 q4 (by simpa[Ctx.shut] using q5) qd ?_ (q7.shut hb'.1.2 hb'.2) q8 (RelT.wmono (Xw hb'.2) q9) (by simp at q10;exact q10.2) (fun k hk=>?_) q12
   ·exact hsh
   ·have hne:k≠b:=fun e=>by
     have:=h1.kept k hk
     omega
    exact⟨⟨(q1 k hk).1,hne⟩,(vl _ _ _ hne).trans (q1 k hk).2⟩
   ·have:=Xw hb'.2
    exact⟨q6.lim,fun b' o ho=>(XH hb'.2 _).trans (q6.cell b' o ho),q6.ρ,q6.n,q6.τ,fun k=>Nat.le_trans (q6.room k) (this.room k)⟩
   ·have hne:k≠b:=fun e=>by subst e;simp at q10;exact q10.1 hk
    have:=q11 k (by simp[hk])
    exact⟨⟨this.1.1,this.1.2,hne⟩,(vl _ _ _ hne).trans this.2⟩
 have main:(∃ x,aRes P fn st=some x∧R x st.s st.v)→LeavesInM Fence.wide 0 P fn a.tmps (fun e w'=>∃ C' x u s' v',C'.w=w'∧e = .returned u∧C.le C'∧Ok C' s'∧C'.τ = v'∧RelV C' x u∧R x s' v') a.defers .returning C'.w:=fun hr=>by
  rw[k7]
  exact key bs C' (fun b hb=>⟨k2.kept b hb,k2.keep b hb⟩) k2.os k2.tape k2.output k2.size k2.drawn k2.weak k3 k4 k6 k8 k9 hr
 cases e with
 | normal=>exact main k10
 | ret=>exact main k10
 | exit _=>exact k10.elim
 | goto _=>exact k10.elim
 | panic _=>exact k10.elim
 | outgrown=>exact k10.elim
end Go.Hb
end
section
namespace Go.Hb
open Go Go.RowKit
def aC (P:Program)(r:Option Nat)(N:Nat)(own:Bool):Code→(Exit→St→Prop)→St→Prop
 | .skip,Q,st=>Q .normal st
 | .ret,Q,st=>Q .ret st
 | .label _,Q,st=>Q .normal st
 | .exit id,Q,st=>Q (.exit id) st
 | .seq (.block id (.loop c)) y,Q,st=>aW P r N (.block id (.loop c)) (yp (aW P r N y Q) Q) st
 | .seq (.seq a (.block id (.loop c))) y,Q,st=>aC P r N own a (yp (aW P r N (.block id (.loop c)) (yp (aW P r N y Q) Q)) Q) st
 | .seq x y,Q,st=>aC P r N own x (yp (aC P r N own y Q) Q) st
 | .cond c x y,Q,st=>aIf (aev st.t c) (aC P r N own x Q st) (aC P r N own y Q st)
 | .block id x,Q,st=>aC P r N own x (zE id Q) st
 | .region _ ops false,Q,st=>aL P N ops own ops.toList (Q .normal) st
 | c,Q,st=>aW P r N c Q st
theorem wt {P:Program}{r:Option Nat}{N:Nat}{own:Bool} : ∀ (c:Code) (Q:Exit→St→Prop) (st:St),aC P r N own c Q st→aW P r N c Q st:=by
 intro c
 suffices H:(∀ (Q:Exit→St→Prop) (st:St),aC P r N own c Q st→aW P r N c Q st)∧(∀ a b,c = .seq a b→∀ (Q:Exit→St→Prop) (st:St),aC P r N own a Q st→aW P r N a Q st) from H.1
 induction c with
 | skip=>exact⟨fun Q st h=>zjr h,fun _ _ e=>by cases e⟩
 | ret=>exact⟨fun Q st h=>zkN h,fun _ _ e=>by cases e⟩
 | exit id=>exact⟨fun Q st h=>zjG h,fun _ _ e=>by cases e⟩
 | seq x y ihx ihy=>
  refine⟨fun Q st h=>?_,fun a b e=>by cases e;exact ihx.1⟩
  have key:aC P r N own x (yp (aC P r N own y Q) Q) st→aW P r N (.seq x y) Q st:=fun h=>by
   refine Yc (uo (ihx.1 _ _ h) ?_)
   intro e st' h'
   cases e with
   | normal=>exact ihy.1 _ _ h'
   | _=>exact h'
  cases x with
  | block id b=>
   cases b with
   | loop c=>exact Yc h
   | _=>exact key h
  | seq a b=>
   cases b with
   | block id b'=>
    cases b' with
    | loop c=>
     have ha:=ihx.2 a _ rfl
     refine Yc (Yc (uo (ha _ _ h) ?_))
     intro e st' h'
     cases e with
     | normal=>exact h'
     | _=>exact h'
    | _=>exact key h
   | _=>exact key h
  | _=>exact key h
 | cond c x y ihx ihy=>
  refine⟨fun Q st h=>?_,fun _ _ e=>by cases e⟩
  refine zkc ?_
  simp only[aC] at h
  cases hc:aev st.t c<;>simp only[hc,aIf] at h ⊢
  split at h
  ·rename_i hb;rw[if_pos hb];exact ihx.1 _ _ h
  ·rename_i hb;rw[if_neg hb];exact ihy.1 _ _ h
 | block id x ih=>exact⟨fun Q st h=>Jp (ih.1 _ _ h),fun _ _ e=>by cases e⟩
 | region id ops d=>
  refine⟨fun Q st h=>?_,fun _ _ e=>by cases e⟩
  cases d with
  | false=>exact zfB h
  | true=>exact h
 | loop=>exact⟨fun Q st h=>h,fun _ _ e=>by cases e⟩
 | rangeFunc=>exact⟨fun Q st h=>h,fun _ _ e=>by cases e⟩
 | scope=>exact⟨fun Q st h=>h,fun _ _ e=>by cases e⟩
 | label l=>exact⟨fun Q st h=>fun B C a h1 h2 h3 _=>wpIn_label ⟨C,st,rfl,.refl C,h1,h2,h3,h⟩,fun _ _ e=>by cases e⟩
 | goto=>exact⟨fun Q st h=>h,fun _ _ e=>by cases e⟩
 | refuse=>exact⟨fun Q st h=>h,fun _ _ e=>by cases e⟩
theorem zfP {P : Program} {f : FuncId} {fn : Func} {c : Code} {args : List LV} {s : List AObj} {v : List Nat} {R : LV → List AObj → List Nat → Prop} (hf : P.funcs[f]? = some fn) (hb : fn.body = some c) (hn : (fn.name == "runtime.NumGoroutine") = false) (hlen : args.length ≤ fn.ntmps)
  (own:Bool:=false) (h:aC P none fn.ntmps own c (YW P fn R) ⟨yP args,s,v⟩):zp P f args s v R:=Qo hf hb hn hlen (wt _ _ _ h)
theorem zh (d:Nat)(x:LV)(t:Nat→LV)(i:Nat):upd d x t i=if i=d then x else t i:=rfl
end Go.Hb
end
section
namespace Go.Hb
open Go Go.RowKit
def vN:Op→Bool
 | .move _ | .assign _ | .pick .. | .build .. | .buildSlice .. | .load .. | .nilCheck _ | .binOp .. | .unOp .. | .convert .. | .makeFunc .. | .slice .. | .fieldAddr .. | .field .. | .indexAddr .. | .index .. | .extract .. =>true
 | .call c=>match c.callee with
  | .builtin .len | .builtin .min | .builtin .max=>true
  | _=>false
 | _=>false
def vp:Op→Bool
 | .load .. =>true
 | _=>false
def aq (P:Program)(ops:Array Oper)(o:Oper)(st:St):Option LV:=match wG ops st.t o with
 | some false=>some (.tup [])
 | some true=>(aop P o.op st).map (·.1)
 | none=>none
theorem zgd {P:Program}{o:Op}{st:St}{x:LV}{s:List AObj}{v:List Nat}(hq:vN o=true)(h:aop P o st=some (x,s,v)):s=st.s∧v=st.v:=by
 unfold aop at h
 cases o<;>simp only[vN] at hq<;>simp only at h<;>(try (cases hq;done))<;>(try (simp only[Option.map_eq_some_iff] at h;obtain⟨y,_,h2⟩:=h;simp only[Prod.mk.injEq] at h2;exact⟨h2.2.1.symm,h2.2.2.symm⟩))<;>(try (simp only[Option.some.injEq,Prod.mk.injEq] at h;exact⟨h.2.1.symm,h.2.2.symm⟩))
 ·split at h
  ·simp only[Option.some.injEq,Prod.mk.injEq] at h;exact⟨h.2.1.symm,h.2.2.symm⟩
  ·cases h
 ·rename_i c
  obtain⟨cal,args,ats⟩:=c
  cases cal<;>simp only at hq h<;>(try (cases hq;done))
  rename_i b
  unfold uN at h
  split at h
  ·simp only[Option.map_eq_some_iff] at h;obtain⟨y,_,h2⟩:=h;simp only[Prod.mk.injEq] at h2;exact⟨h2.2.1.symm,h2.2.2.symm⟩
  ·cases hq
  ·cases hq
  ·simp only[Option.map_eq_some_iff] at h;obtain⟨y,_,h2⟩:=h;simp only[Prod.mk.injEq] at h2;exact⟨h2.2.1.symm,h2.2.2.symm⟩
  ·simp only[Option.map_eq_some_iff] at h;obtain⟨y,_,h2⟩:=h;simp only[Prod.mk.injEq] at h2;exact⟨h2.2.1.symm,h2.2.2.symm⟩
  ·cases hq
  ·cases h
theorem zgz {P:Program}{o:Op}{t:Nat→LV}{s s':List AObj}{v v':List Nat}(hq:vN o=true)(hl:vp o=false):(aop P o ⟨t,s,v⟩).map (·.1)=(aop P o ⟨t,s',v'⟩).map (·.1):=by
 unfold aop
 cases o<;>simp only[vN] at hq<;>simp only[vp] at hl<;>(try (cases hq;done))<;>(try (cases hl;done))<;>simp only[Option.map_map,Option.map_some]<;>(try rfl)
 ·split<;>rfl
 ·rename_i c
  obtain⟨cal,args,ats⟩:=c
  cases cal<;>simp only at hq<;>(try (cases hq;done))
  rename_i b
  simp only
  unfold uN
  split<;>simp only[Option.map_map,Option.map_none]<;>(first|rfl|cases hq)
theorem vm {l:List Operand}{t t':Nat→LV}(h:∀ x∈l,aev t x=aev t' x):l.map (aev t)=l.map (aev t'):=List.map_congr_left h
theorem QH {P:Program}{o:Op}{t t':Nat→LV}{s:List AObj}{v:List Nat}(h:∀ x∈o.operands,aev t x=aev t' x):aop P o ⟨t,s,v⟩=aop P o ⟨t',s,v⟩:=by
 unfold aop
 cases o<;>simp only[Op.operands] at h<;>(try rfl)
 case move x=>simp only[h x (by simp)]
 case assign x=>simp only[h x (by simp)]
 case pick c a b=>simp only[h c (by simp),h a (by simp),h b (by simp)]
 case box e x=>simp only[h x (by simp)]
 case build ty parts=>
  have:(parts.toList.map fun p=>(p.1,aev t p.2))=parts.toList.map fun p=>(p.1,aev t' p.2):=List.map_congr_left fun p hp=>by
   rw[h p.2 (by simp only[List.mem_toArray,List.mem_map];exact⟨p,hp,rfl⟩)]
  simp only[this]
 case buildSlice ty len parts=>
  have:(parts.toList.map fun p=>(p.1,aev t p.2))=parts.toList.map fun p=>(p.1,aev t' p.2):=List.map_congr_left fun p hp=>by
   rw[h p.2 (by simp only[List.mem_toArray,List.mem_map];exact⟨p,hp,rfl⟩)]
  simp only[this]
 case load ty a=>simp only[h a (by simp)]
 case store ty a x=>simp only[h a (by simp),h x (by simp)]
 case nilCheck x=>simp only[h x (by simp)]
 case binOp op ty x y ty'=>simp only[h x (by simp),h y (by simp)]
 case unOp op ty x=>simp only[h x (by simp)]
 case convert a b x=>simp only[h x (by simp)]
 case makeFunc f a b=>
  have e1:=vm fun x hx=>h x (Array.mem_append.2 (.inl (Array.mem_toList_iff.1 hx)))
  have e2:=vm fun x hx=>h x (Array.mem_append.2 (.inr (Array.mem_toList_iff.1 hx)))
  simp only[e1,e2]
 case makeSlice ty l c=>simp only[h l (by simp),h c (by simp)]
 case slice ty x lo hi mx=>
  have e1:lo.map (aev t)=lo.map (aev t'):=by cases lo with | none=>rfl | some y=>simp only[Option.map_some,h y (by simp)]
  have e2:hi.map (aev t)=hi.map (aev t'):=by cases hi with | none=>rfl | some y=>simp only[Option.map_some,h y (by simp)]
  have e3:mx.map (aev t)=mx.map (aev t'):=by cases mx with | none=>rfl | some y=>simp only[Option.map_some,h y (by simp)]
  simp only[h x (by simp),e1,e2,e3]
 case makeMap ty r=>cases r<;>rfl
 case lookup ty x i ok=>simp only[h x (by simp),h i (by simp)]
 case mapUpdate ty m k x=>simp only[h m (by simp),h k (by simp),h x (by simp)]
 case insert ty m k x=>simp only[h m (by simp),h k (by simp),h x (by simp)]
 case fieldAddr ty x f=>simp only[h x (by simp)]
 case field ty x f=>simp only[h x (by simp)]
 case indexAddr ty x i=>simp only[h x (by simp),h i (by simp)]
 case index ty x i=>simp only[h x (by simp),h i (by simp)]
 case extract x i=>simp only[h x (by simp)]
 case call c=>
  have e:c.args.toList.map (aev t)=c.args.toList.map (aev t'):=vm fun x hx=>h x (by
   simp only[Call.operands,Array.mem_append];exact .inr (Array.mem_toList_iff.1 hx))
  simp only
  split
  ·simp only[e,uN]
  ·rfl
def KZ (ops:Array Oper)(o:Oper):List Tmp:=o.op.operands.toList.filterMap (fun | .tmp d=>some d | _=>none)++(match o.guard with | some (j,_)=>(match (ops[j]?).bind (·.dst) with | some d=>[d] | none=>[]) | none=>[])
theorem zfr {t t':Nat→LV}{x:Operand}(h:∀ d,x = .tmp d→t d=t' d):aev t x=aev t' x:=by
 cases x with
 | tmp d=>exact h d rfl
 | _=>rfl
theorem vk {ops:Array Oper}{o:Oper}{t t':Nat→LV}(h:∀ d∈KZ ops o,t d=t' d):∀ x∈o.op.operands,aev t x=aev t' x:=by
 intro x hx
 refine zfr fun d e=>h d ?_
 subst e
 exact List.mem_append_left _ (List.mem_filterMap.2 ⟨.tmp d,Array.mem_toList_iff.2 hx,rfl⟩)
theorem JR {ops:Array Oper}{o:Oper}{t t':Nat→LV}(h:∀ d∈KZ ops o,t d=t' d):wG ops t o=wG ops t' o:=by
 unfold wG
 cases hg:o.guard with
 | none=>rfl
 | some p=>
  obtain⟨j,want⟩:=p
  simp only
  cases hd:(ops[j]?).bind (·.dst) with
  | none=>rfl
  | some d=>
   have:=h d (List.mem_append_right _ (by simp[hg,hd]))
   simp only[this]
theorem Jf {P:Program}{ops:Array Oper}{o:Oper}{t t':Nat→LV}{s:List AObj}{v:List Nat}(h:∀ d∈KZ ops o,t d=t' d):aq P ops o ⟨t,s,v⟩=aq P ops o ⟨t',s,v⟩:=by
 unfold aq
 simp only[JR h,QH (vk h)]
theorem zjK {P:Program}{ops:Array Oper}{o:Oper}{t:Nat→LV}{s s':List AObj}{v v':List Nat}(hq:vN o.op=true)(hl:vp o.op=false):aq P ops o ⟨t,s,v⟩=aq P ops o ⟨t,s',v'⟩:=by
 unfold aq
 simp only[zgz (s:=s) (s':=s') (v:=v) (v':=v') hq hl]
theorem XM {ops:Array Oper}{o:Oper}{t t':Nat→LV}(h:∀ d∈KZ ops o,t d=t' d):callee o.op t=callee o.op t':=by
 have h1:=vk h
 unfold callee
 cases ho:o.op<;>(try rfl)
 rename_i c
 rw[ho] at h1
 simp only[Op.operands] at h1
 have e:c.args.toList.map (aev t)=c.args.toList.map (aev t'):=vm fun x hx=>h1 x (by
   simp only[Call.operands,Array.mem_append];exact .inr (Array.mem_toList_iff.1 hx))
 simp only
 cases hc:c.callee<;>simp only
 rename_i f
 have ef:aev t f=aev t' f:=h1 f (by simp[Call.operands,hc])
 rw[ef,e]
theorem zdb {P:Program}{own:Bool}{o:Op}{t t':Nat→LV}{s:List AObj}{v:List Nat}(h:∀ x∈o.operands,aev t x=aev t' x):aopO P own o ⟨t,s,v⟩=aopO P own o ⟨t',s,v⟩:=by
 unfold aopO
 split
 ·rename_i c
  have e:c.args.toList.map (aev t)=c.args.toList.map (aev t'):=vm fun x hx=>h x (by
   simp only[Op.operands,Call.operands,Array.mem_append];exact .inr (Array.mem_toList_iff.1 hx))
  simp only[e,QH h]
 ·rename_i ty len parts
  have:(parts.toList.map fun p=>(p.1,aev t p.2))=parts.toList.map fun p=>(p.1,aev t' p.2):=List.map_congr_left fun p hp=>by
   rw[h p.2 (by simp only[Op.operands,List.mem_toArray,List.mem_map];exact⟨p,hp,rfl⟩)]
  simp only[this,QH h]
 ·exact QH h
theorem ZP (P:Program)(o:Op)(st:St):aopO P false o st=aop P o st:=by
 unfold aopO;rfl
end Go.Hb
end
