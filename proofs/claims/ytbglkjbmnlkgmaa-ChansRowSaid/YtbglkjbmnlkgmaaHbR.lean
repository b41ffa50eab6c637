import Derived.Test.YtbglkjbmnlkgmaaHbQ
namespace Go.Hb
open Go Go.RowKit

/-- What a code must meet, reckoned as far as its loops. -/
def aC (P : Program) (r : Option Nat) (N : Nat) (own : Bool) : Code → (Exit → St → Prop) → St → Prop
  | .skip, Q, st => Q .normal st
  | .ret, Q, st => Q .ret st
  | .label _, Q, st => Q .normal st
  | .exit id, Q, st => Q (.exit id) st
  | .seq x y, Q, st => aC P r N own x (aThen (aC P r N own y Q) Q) st
  | .cond c x y, Q, st => aIf (aev st.t c) (aC P r N own x Q st) (aC P r N own y Q st)
  | .block id x, Q, st => aC P r N own x (aInBlock id Q) st
  | .region _ ops false, Q, st => aL P N ops own ops.toList (Q .normal) st
  | c, Q, st => aW P r N c Q st

theorem aC_sound {P : Program} {r : Option Nat} {N : Nat} {own : Bool} : ∀ (c : Code) (Q : Exit → St → Prop) (st : St), aC P r N own c Q st → aW P r N c Q st := by
  intro c
  induction c with
  | skip => intro Q st h; exact aW_skip h
  | ret => intro Q st h; exact aW_ret h
  | exit id => intro Q st h; exact aW_exit h
  | seq x y ihx ihy =>
    intro Q st h
    refine aW_seq (aW_mono (ihx _ _ h) ?_)
    intro e st' h'
    cases e with
    | normal => exact ihy _ _ h'
    | _ => exact h'
  | cond c x y ihx ihy =>
    intro Q st h
    refine aW_cond ?_
    simp only [aC] at h
    cases hc : aev st.t c <;> simp only [hc, aIf] at h ⊢
    split at h
    · rename_i hb; rw [if_pos hb]; exact ihx _ _ h
    · rename_i hb; rw [if_neg hb]; exact ihy _ _ h
  | block id x ih => intro Q st h; exact aW_block (ih _ _ h)
  | region id ops d =>
    intro Q st h
    cases d with
    | false => exact aW_region h
    | true => exact h
  | loop => intro Q st h; exact h
  | rangeFunc => intro Q st h; exact h
  | scope => intro Q st h; exact h
  | label l => intro Q st h; exact fun B C a h1 h2 h3 _ => wpIn_label ⟨C, st, rfl, .refl C, h1, h2, h3, h⟩
  | goto => intro Q st h; exact h
  | refuse => intro Q st h; exact h

theorem aCalls_of {P : Program} {f : FuncId} {fn : Func} {c : Code} {args : List LV} {s : List AObj} {v : List Nat} {R : LV → List AObj → List Nat → Prop} (hf : P.funcs[f]? = some fn) (hb : fn.body = some c) (hn : (fn.name == "runtime.NumGoroutine") = false) (hlen : args.length ≤ fn.ntmps)
    (own : Bool := false) (h : aC P none fn.ntmps own c (bodyQ P fn R) ⟨initT args, s, v⟩) : aCalls P f args s v R := aCalls_of_body hf hb hn hlen (aC_sound _ _ _ h)

theorem upd_apply (d : Nat) (x : LV) (t : Nat → LV) (i : Nat) : upd d x t i = if i = d then x else t i := rfl
end Go.Hb
