/- A calculus of weakest preconditions over an association list of slots: every rule is proved from the kit's own wp rules. -/
import Derived.Tactics
import Derived.Orders
import Derived.Scope
import Derived.Below
import Derived.KernelRfl
import Derived.WalkKit
set_option linter.unusedVariables false
set_option linter.unusedSimpArgs false
namespace Go.EW
open Go.RowKit

/-! ### 1. Slots -/
abbrev Env := List (Nat × Value)
def lk : Env → Nat → Option Value
  | [], _ => none
  | (k, v) :: r, t => bif Nat.beq k t then some v else lk r t
def ev (e : Env) : Operand → Option Value
  | .tmp t => lk e t
  | .const v => some v
  | .global g => some (.pointer (some ⟨g, 0, none⟩))
  | .func f => some (.func (.func f) #[] #[])
def evs (e : Env) : List Operand → Option (List Value)
  | [] => some []
  | x :: r => match ev e x, evs e r with
    | some v, some vs => some (v :: vs)
    | _, _ => none

structure Fits (n : Nat) (e : Env) (a : Act) : Prop where
  size : a.tmps.size = n
  at_ : ∀ t v, lk e t = some v → a.tmps[t]? = some v

theorem Fits.eval {n : Nat} {e : Env} {a : Act} (h : Fits n e a) {x : Operand} {v : Value} (hx : ev e x = some v) : a.eval x = v := by
  cases x with
  | tmp t => have := h.at_ t v hx; simp [Act.eval, this]
  | const u => simpa [ev, Act.eval] using hx
  | global g => simpa [ev, Act.eval] using hx
  | func f => simpa [ev, Act.eval] using hx

theorem lk_cons_self (d : Nat) (v : Value) (e : Env) : lk ((d, v) :: e) d = some v := by simp [lk]
theorem lk_cons_ne {d t : Nat} (v : Value) (e : Env) (h : d ≠ t) : lk ((d, v) :: e) t = lk e t := by
  have : Nat.beq d t = false := by
    cases hb : Nat.beq d t
    · rfl
    · exact absurd (Nat.eq_of_beq_eq_true hb) h
  simp [lk, this]

theorem Fits.put {n : Nat} {e : Env} {a : Act} (h : Fits n e a) {d : Nat} (hd : Nat.blt d n = true) (v : Value) : Fits n ((d, v) :: e) (a.put (some d) v) := by
  have hd' : d < n := by simpa [Nat.blt_eq] using hd
  refine ⟨by simpa [Act.put] using h.size, fun t u ht => ?_⟩
  by_cases hdt : d = t
  · subst hdt
    rw [lk_cons_self] at ht
    injection ht with ht
    subst ht
    have : d < a.tmps.size := by rw [h.size]; exact hd'
    simp [Act.put, this]
  · rw [lk_cons_ne _ _ hdt] at ht
    have := h.at_ t u ht
    simp only [Act.put]
    rw [Array.getElem?_setIfInBounds_ne hdt]
    exact this
theorem Fits.put_none {n : Nat} {e : Env} {a : Act} (h : Fits n e a) (v : Value) : Fits n e (a.put none v) := h
/-- every entry of e' is met in e -/
def Subs : Env → Env → Prop
  | [], _ => True
  | (t, v) :: r, e => lk e t = some v ∧ Subs r e
theorem Subs.lk {e' e : Env} (h : Subs e' e) : ∀ {t : Nat} {v : Value}, EW.lk e' t = some v → EW.lk e t = some v := by
  induction e' with
  | nil => intro t v hv; simp [EW.lk] at hv
  | cons p r ih =>
    obtain ⟨d, u⟩ := p
    intro t v hv
    by_cases hdt : d = t
    · subst hdt
      rw [lk_cons_self] at hv
      injection hv with hv
      subst hv
      exact h.1
    · rw [lk_cons_ne _ _ hdt] at hv
      exact ih h.2 hv
theorem Fits.subs {n : Nat} {e e' : Env} {a : Act} (h : Fits n e a) (hs : Subs e' e) : Fits n e' a := ⟨h.size, fun t v ht => h.at_ t v (hs.lk ht)⟩

/-! ### 2. Code -/
abbrev Post := Exit → List Deferred → Env → World → Prop
def lift (n : Nat) (Q : Post) : Exit → Act → World → Prop := fun x a w => ∃ e, Fits n e a ∧ Q x a.defers e w
def EWp (P : Program) (n : Nat) (c : Code) (Q : Post) (D : List Deferred) (e : Env) (w : World) : Prop :=
  ∀ a, Fits n e a → a.defers = D → c.wp P (lift n Q) a w
def thenQ (K : List Deferred → Env → World → Prop) (Q : Post) : Post
  | .normal, D, e, w => K D e w
  | x, D, e, w => Q x D e w
def inB (id : Nat) (Q : Post) : Post
  | .exit id', D, e, w => bif Nat.beq id' id then Q .normal D e w else Q (.exit id') D e w
  | x, D, e, w => Q x D e w

section
variable {P : Program} {n : Nat} {Q : Post} {D : List Deferred} {e : Env} {w : World}
theorem E_weaken {c : Code} (e' : Env) (hs : Subs e' e) (h : EWp P n c Q D e' w) : EWp P n c Q D e w := fun a hf hd => h a (hf.subs hs) hd
theorem E_mono {c : Code} {Q' : Post} (hq : ∀ x D e w, Q x D e w → Q' x D e w) (h : EWp P n c Q D e w) : EWp P n c Q' D e w :=
  fun a hf hd => Go.wp_mono (h a hf hd) fun x a w ⟨e, hf, hx⟩ => ⟨e, hf, hq _ _ _ _ hx⟩
theorem E_seq {x y : Code} (h : EWp P n x (thenQ (EWp P n y Q) Q) D e w) : EWp P n (.seq x y) Q D e w := fun a hf hd =>
  wp_seq (Go.wp_mono (h a hf hd) fun x a w ⟨e, hf, hx⟩ => by
    cases x with
    | normal => exact hx a hf rfl
    | _ => exact ⟨e, hf, hx⟩)
theorem E_skip (h : Q .normal D e w) : EWp P n .skip Q D e w := fun a hf hd => wp_skip ⟨e, hf, hd ▸ h⟩
theorem E_label {l : Nat} (h : Q .normal D e w) : EWp P n (.label l) Q D e w := fun a hf hd => wp_label ⟨e, hf, hd ▸ h⟩
theorem E_ret (h : Q .ret D e w) : EWp P n .ret Q D e w := fun a hf hd => wp_ret ⟨e, hf, hd ▸ h⟩
theorem E_exit {id : Nat} (h : Q (.exit id) D e w) : EWp P n (.exit id) Q D e w := fun a hf hd => wp_exit ⟨e, hf, hd ▸ h⟩
theorem E_goto {l : Nat} (h : Q (.goto l) D e w) : EWp P n (.goto l) Q D e w := fun a hf hd => wp_goto ⟨e, hf, hd ▸ h⟩
theorem E_cond {c : Operand} {x y : Code} {t : Bool} (hc : ev e c = some (.bool t)) (h1 : t = true → EWp P n x Q D e w) (h2 : t = false → EWp P n y Q D e w) :
    EWp P n (.cond c x y) Q D e w := fun a hf hd => wp_cond_split (hf.eval hc) (fun ht => h1 ht a hf hd) (fun ht => h2 ht a hf hd)
/-- what holds where ways meet -/
theorem E_cut {x y : Code} (I : Env → World → Prop) (h1 : EWp P n x (thenQ (fun D' e' w' => D' = D ∧ ∃ e0, Subs e0 e' ∧ I e0 w') Q) D e w) (h2 : ∀ e0 w', I e0 w' → EWp P n y Q D e0 w') :
    EWp P n x (thenQ (EWp P n y Q) Q) D e w := E_mono (fun x D' e' w' hx => by
    cases x with
    | normal => obtain ⟨rfl, e0, hs, hI⟩ := hx; exact E_weaken e0 hs (h2 e0 w' hI)
    | _ => exact hx) h1
theorem E_cond_t {c : Operand} {x y : Code} (hc : ev e c = some (.bool true)) (h : EWp P n x Q D e w) : EWp P n (.cond c x y) Q D e w :=
  E_cond hc (fun _ => h) (fun h => by cases h)
theorem E_cond_f {c : Operand} {x y : Code} (hc : ev e c = some (.bool false)) (h : EWp P n y Q D e w) : EWp P n (.cond c x y) Q D e w :=
  E_cond hc (fun h => by cases h) (fun _ => h)
theorem E_block {id : Nat} {c : Code} (h : EWp P n c (inB id Q) D e w) : EWp P n (.block id c) Q D e w := fun a hf hd =>
  wp_block (Go.wp_mono (h a hf hd) fun x a w ⟨e, hf, hx⟩ => by
    cases x with
    | exit id' =>
      by_cases hi : id' = id
      · subst hi
        simp only [inB, Nat.beq_refl, cond_true] at hx
        simp only [Exit.inBlock, if_true]
        exact ⟨e, hf, hx⟩
      · have : Nat.beq id' id = false := by
          cases hb : Nat.beq id' id
          · rfl
          · exact absurd (Nat.eq_of_beq_eq_true hb) hi
        simp only [inB, this, cond_false] at hx
        simp only [Exit.inBlock, if_neg hi]
        exact ⟨e, hf, hx⟩
    | _ => exact ⟨e, hf, hx⟩)
/-- a loop: I m e w is what holds at a round's head, m the measure -/
theorem E_loop {c : Code} (I : Nat → Env → World → Prop) (m : Nat) (e0 : Env) (hs : Subs e0 e) (h0 : I m e0 w)
    (hr : ∀ m e w, I m e w → EWp P n c (thenQ (fun D' e' w' => D' = D ∧ ∃ m' e'', m' < m ∧ Subs e'' e' ∧ I m' e'' w') Q) D e w) : EWp P n (.loop c) Q D e w := by
  intro a hf hd
  refine Go.wp_loop (fun a w => a.defers = D ∧ ∃ m e, Fits n e a ∧ I m e w) (fun a w => Classical.epsilon fun m => ∃ e, Fits n e a ∧ I m e w ∧ ∀ m' e', Fits n e' a → I m' e' w → m ≤ m') ⟨hd, m, e0, hf.subs hs, h0⟩ ?_
  intro a w ⟨hd, m, e, hf, hi⟩
  have key : ∀ a w, (∃ m e, Fits n e a ∧ I m e w) → ∃ m e, Fits n e a ∧ I m e w ∧ ∀ m' e', Fits n e' a → I m' e' w → m ≤ m' := by
    intro a w ⟨m, e, hf, hi⟩
    induction m using Nat.strongRecOn generalizing e with
    | _ m ih =>
      by_cases hx : ∃ m' e', Fits n e' a ∧ I m' e' w ∧ m' < m
      · obtain ⟨m', e', h1, h2, h3⟩ := hx
        exact ih m' h3 e' h1 h2
      · exact ⟨m, e, hf, hi, fun m' e' h1 h2 => Nat.le_of_not_lt fun h3 => hx ⟨m', e', h1, h2, h3⟩⟩
  have hle : ∀ a w, (∃ m e, Fits n e a ∧ I m e w) → ∃ e, Fits n e a ∧ I (Classical.epsilon fun m => ∃ e, Fits n e a ∧ I m e w ∧ ∀ m' e', Fits n e' a → I m' e' w → m ≤ m') e w ∧
      ∀ m' e', Fits n e' a → I m' e' w → (Classical.epsilon fun m => ∃ e, Fits n e a ∧ I m e w ∧ ∀ m' e', Fits n e' a → I m' e' w → m ≤ m') ≤ m' := by
    intro a w hx
    exact Classical.epsilon_spec (p := fun m => ∃ e, Fits n e a ∧ I m e w ∧ ∀ m' e', Fits n e' a → I m' e' w → m ≤ m') (key a w hx)
  obtain ⟨e1, hf1, hi1, _⟩ := hle a w ⟨m, e, hf, hi⟩
  refine Go.wp_mono (hr _ e1 w hi1 a hf1 hd) ?_
  intro x a' w' ⟨e', hf', hx⟩
  cases x with
  | normal =>
    obtain ⟨hd', m', e'', hm, hs', hi'⟩ := hx
    refine ⟨⟨hd', m', e'', hf'.subs hs', hi'⟩, ?_⟩
    obtain ⟨_, _, _, hmin⟩ := hle a' w' ⟨m', e'', hf'.subs hs', hi'⟩
    exact Nat.lt_of_le_of_lt (hmin m' e'' (hf'.subs hs') hi') hm
  | _ => exact ⟨e', hf', hx⟩
end
end Go.EW
