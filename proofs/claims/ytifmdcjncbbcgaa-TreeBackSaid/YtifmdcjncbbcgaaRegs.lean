/- Regions (in the text's order; in whatever order the tape draws), calls, and a function's contract, over the calculus of XEnv. -/
import Derived.Test.YtifmdcjncbbcgaaOps
import Derived.OrdersHeld
set_option linter.unusedVariables false
set_option linter.unusedSimpArgs false
namespace Go.EW
open Go.RowKit

abbrev Kont := List Deferred → Env → World → Prop
/-- the guard, as the slots tell it -/
def gdv (ops : Array Oper) (e : Env) : Option (Nat × Bool) → Option Bool
  | none => some true
  | some (j, want) => match (ops[j]?).bind (·.dst) with
    | some t => match lk e t with
      | some (.bool b) => some (b == want)
      | some (.tuple _) => some false
      | _ => none
    | none => none
def nQ (n : Nat) (K : Kont) : Exit → Act → World → Prop := fun x a w => x = .normal ∧ ∃ e, Fits n e a ∧ K a.defers e w
def kA (n : Nat) (K : Kont) : Act → World → Prop := fun a w => ∃ e, Fits n e a ∧ K a.defers e w
/-- one operation -/
def EO (P : Program) (n : Nat) (o : Oper) (K : Kont) (D : List Deferred) (e : Env) (w : World) : Prop :=
  ∀ a, Fits n e a → a.defers = D → ∀ Q, o.wp P a w (kA n K) Q
/-- a list of operations, in the text's order -/
def EL (P : Program) (n : Nat) (ops : Array Oper) (l : List Oper) (K : Kont) (D : List Deferred) (e : Env) (w : World) : Prop :=
  ∀ a, Fits n e a → a.defers = D → wpList P ops (nQ n K) l a w

section
variable {P : Program} {n : Nat} {Q : Post} {K : Kont} {D : List Deferred} {e : Env} {w : World} {ops : Array Oper} {rest : List Oper}

theorem gdv_wanted {a : Act} (hf : Fits n e a) {o : Oper} {b : Bool} (hg : gdv ops e o.guard = some b) : Region.wanted o (yielded ops a.tmps) = b := by
  unfold Region.wanted
  cases h : o.guard with
  | none => simpa [gdv, h] using hg
  | some p =>
    obtain ⟨j, want⟩ := p
    simp only [h, gdv] at hg
    simp only [yielded]
    cases hd : (ops[j]?).bind (·.dst) with
    | none => simp [hd] at hg
    | some t =>
      simp only [hd] at hg
      cases ht : lk e t with
      | none => simp [ht] at hg
      | some v =>
        have := hf.at_ t v ht
        simp only [ht] at hg
        cases v <;> simp at hg <;> simp [this, hg]

theorem EL_nil (h : K D e w) : EL P n ops [] K D e w := fun a hf hd => ⟨rfl, e, hf, hd ▸ h⟩
theorem EL_step {o : Oper} (hg : gdv ops e o.guard = some true) (h : EO P n o (EL P n ops rest K) D e w) : EL P n ops (o :: rest) K D e w := by
  intro a hf hd
  have hw := gdv_wanted (a := a) hf hg
  unfold wpList
  rw [if_pos hw]
  exact .inl (Oper.wp_mono (fun a w ⟨e, hf, hk⟩ => hk a hf rfl) (h a hf hd _))
theorem EL_not {o : Oper} {d : Tmp} (hg : gdv ops e o.guard = some false) (ho : o.dst = some d) (hdn : Nat.blt d n = true) (h : EL P n ops rest K D ((d, undef) :: e) w) : EL P n ops (o :: rest) K D e w := by
  intro a hf hd
  have hw := gdv_wanted (a := a) hf hg
  unfold wpList
  rw [if_neg (by simp [hw]), ho]
  exact h _ (hf.put hdn _) hd
theorem EL_notd {o : Oper} (hg : gdv ops e o.guard = some false) (ho : o.dst = none) (h : EL P n ops rest K D e w) : EL P n ops (o :: rest) K D e w := by
  intro a hf hd
  have hw := gdv_wanted (a := a) hf hg
  unfold wpList
  rw [if_neg (by simp [hw]), ho]
  exact h _ hf hd
theorem EO_val {o : Oper} {d : Tmp} {v : Value} {w' : World} (hr : Runs P e w o v w') (ho : o.dst = some d) (hdn : Nat.blt d n = true) (h : K D ((d, v) :: e) w') : EO P n o K D e w := by
  intro a hf hd Q
  unfold Oper.wp
  rw [hr a.eval (fun x u hx => hf.eval hx)]
  simp only [Oper.upon, ho]
  exact ⟨_, hf.put hdn v, by simpa [Act.put, hd] using h⟩
theorem EO_vald {o : Oper} {v : Value} {w' : World} (hr : Runs P e w o v w') (ho : o.dst = none) (h : K D e w') : EO P n o K D e w := by
  intro a hf hd Q
  unfold Oper.wp
  rw [hr a.eval (fun x u hx => hf.eval hx)]
  simp only [Oper.upon, ho]
  exact ⟨_, hf, by simpa [Act.put, hd] using h⟩
theorem EO_does {o : Oper} {w' : World} (hr : Does P e w o w') (ho : o.dst = none) (h : K D e w') : EO P n o K D e w := by
  intro a hf hd Q
  unfold Oper.wp
  rw [hr a.eval (fun x u hx => hf.eval hx)]
  simp only [Oper.upon, ho]
  exact ⟨_, hf, by simpa [Act.put, hd] using h⟩
/-- the usual step: no guard met, or a guard that is met; a value into a slot -/
theorem EL_val {o : Oper} {d : Tmp} {v : Value} {w' : World} (hr : Runs P e w o v w') (hg : gdv ops e o.guard = some true) (ho : o.dst = some d) (hdn : Nat.blt d n = true)
    (h : EL P n ops rest K D ((d, v) :: e) w') : EL P n ops (o :: rest) K D e w := EL_step hg (EO_val hr ho hdn h)
theorem EL_does {o : Oper} {w' : World} (hr : Does P e w o w') (hg : gdv ops e o.guard = some true) (ho : o.dst = none) (h : EL P n ops rest K D e w') : EL P n ops (o :: rest) K D e w := EL_step hg (EO_does hr ho h)
theorem EL_weaken {l : List Oper} (e' : Env) (hs : Subs e' e) (h : EL P n ops l K D e' w) : EL P n ops l K D e w := fun a hf hd => h a (hf.subs hs) hd

theorem E_region {id : Nat} {l : List Oper} (h : EL P n l.toArray l (fun D e w => Q .normal D e w) D e w) : EWp P n (.region id l.toArray false) Q D e w := fun a hf hd =>
  Go.wp_mono (wp_region_lit (h a hf hd)) fun x a w ⟨hx, e, hf, hk⟩ => by subst hx; exact ⟨e, hf, hk⟩
theorem E_seqR {id : Nat} {l : List Oper} {y : Code} (h : EL P n l.toArray l (EWp P n y Q) D e w) : EWp P n (.seq (.region id l.toArray false) y) Q D e w := E_seq (E_region h)

/-! ### a contract -/
/-- function f returns, with a value and a world that meet R -/
def Ret (P : Program) (f : FuncId) (vs : List Value) (w : World) (R : Value → World → Prop) : Prop :=
  Calls P f vs.toArray w fun x w' => ∃ v, x = .returned v ∧ R v w'
theorem Ret.mono {f : FuncId} {vs : List Value} {R R' : Value → World → Prop} (h : Ret P f vs w R) (hr : ∀ v w', R v w' → R' v w') : Ret P f vs w R' :=
  Calls.mono h fun x w' ⟨v, hx, hv⟩ => ⟨v, hx, hr v w' hv⟩
/-- f is a function with a body -/
def Bodied (P : Program) (f : FuncId) : Bool := match P.funcs[f]? with
  | some fn => !(fn.name == "runtime.NumGoroutine") && fn.body.isSome
  | none => false
theorem run_callFunc_bodied {f : FuncId} (h : Bodied P f = true) (args : Array Value) (w : World) : (callFunc f args).run P w = .ok (.enter f args) w := by
  unfold Bodied at h
  cases hf : P.funcs[f]? with
  | none => simp [hf] at h
  | some fn =>
    simp only [hf, Bool.and_eq_true, Bool.not_eq_true'] at h
    have hb : fn.body.isNone = false := by cases hq : fn.body <;> simp [hq] at h ⊢
    have h1 := h.1
    unfold callFunc
    rw [Sem.run_bind]
    simp only [run_program, Result.andThen_ok, hf]
    rw [if_neg (by simp [h1]), if_neg (by simp [hb])]
    rfl
theorem evs_map {ρ : Operand → Value} (h : ∀ x u, ev e x = some u → ρ x = u) : ∀ {l : List Operand} {vs : List Value}, evs e l = some vs → l.map ρ = vs
  | [], vs, hv => by simpa [evs] using hv
  | x :: r, vs, hv => by
    simp only [evs] at hv
    cases hx : ev e x with
    | none => simp [hx] at hv
    | some v =>
      cases hr : evs e r with
      | none => simp [hx, hr] at hv
      | some us =>
        simp [hx, hr] at hv
        rw [List.map_cons, h x v hx, evs_map h hr, hv]
theorem EO_call {f : FuncId} {args : List Operand} {vs : List Value} {d : Tmp} {R : Value → World → Prop} {ats : Array TypeId} {ty : TypeId} {pos : String} {af : Array Edge} {gd : Option (Nat × Bool)}
    (hf : Bodied P f = true) (ha : evs e args = some vs) (hdn : Nat.blt d n = true) (hc : Ret P f vs w R)
    (h : ∀ v w', R v w' → K D ((d, v) :: e) w') : EO P n ⟨some d, .call ⟨.value (.func f), args.toArray, ats⟩, ty, pos, af, gd⟩ K D e w := by
  intro a hfit hd Q
  have hargs : args.map a.eval = vs := evs_map (fun x u hx => hfit.eval hx) ha
  have hrun : (execOp a.eval ⟨some d, .call ⟨.value (.func f), args.toArray, ats⟩, ty, pos, af, gd⟩).run P w = .ok (.enter f vs.toArray) w := by
    have hm : args.toArray.map a.eval = vs.toArray := by rw [← hargs]; simp
    simp only [execOp, resolve, hm, Act.eval, Deferred.ofValue]
    simp [invoke, run_callFunc_bodied hf]
  unfold Oper.wp
  rw [hrun]
  simp only [Oper.upon]
  exact Calls.mono hc fun x w' ⟨v, hx, hv⟩ => by
    subst hx
    exact ⟨_, hfit.put hdn v, by simpa [Act.put, hd] using h v w' hv⟩
theorem EO_calld {f : FuncId} {args : List Operand} {vs : List Value} {R : Value → World → Prop} {ats : Array TypeId} {ty : TypeId} {pos : String} {af : Array Edge} {gd : Option (Nat × Bool)}
    (hf : Bodied P f = true) (ha : evs e args = some vs) (hc : Ret P f vs w R)
    (h : ∀ v w', R v w' → K D e w') : EO P n ⟨none, .call ⟨.value (.func f), args.toArray, ats⟩, ty, pos, af, gd⟩ K D e w := by
  intro a hfit hd Q
  have hargs : args.map a.eval = vs := evs_map (fun x u hx => hfit.eval hx) ha
  have hrun : (execOp a.eval ⟨none, .call ⟨.value (.func f), args.toArray, ats⟩, ty, pos, af, gd⟩).run P w = .ok (.enter f vs.toArray) w := by
    have hm : args.toArray.map a.eval = vs.toArray := by rw [← hargs]; simp
    simp only [execOp, resolve, hm, Act.eval, Deferred.ofValue]
    simp [invoke, run_callFunc_bodied hf]
  unfold Oper.wp
  rw [hrun]
  simp only [Oper.upon]
  exact Calls.mono hc fun x w' ⟨v, hx, hv⟩ => by
    subst hx
    exact ⟨_, hfit, by simpa [Act.put, hd] using h v w' hv⟩
/-- the body's end -/
def bodyQ (P : Program) (fn : Func) (R : Value → World → Prop) : Post := fun x D e w =>
  (x = .normal ∨ x = .ret) ∧ D = [] ∧ ∃ v, (∀ tmps : Array Value, (∀ t u, lk e t = some u → tmps[t]? = some u) → (results fn tmps).run P w = .ok v w) ∧ R v w
def argEnv : Nat → List Value → Env
  | _, [] => []
  | i, v :: r => (i, v) :: argEnv (i + 1) r
theorem lk_argEnv : ∀ (vs : List Value) (i t : Nat) (v : Value), lk (argEnv i vs) t = some v → i ≤ t ∧ vs[t - i]? = some v
  | [], i, t, v, h => by simp [argEnv, lk] at h
  | u :: r, i, t, v, h => by
    by_cases hit : i = t
    · subst hit
      rw [argEnv, lk_cons_self] at h
      simpa using h
    · rw [argEnv, lk_cons_ne _ _ hit] at h
      obtain ⟨h1, h2⟩ := lk_argEnv r (i + 1) t v h
      refine ⟨by omega, ?_⟩
      rw [show t - i = (t - (i + 1)) + 1 from by omega]
      simpa using h2
theorem Ret.enter {f : FuncId} {vs : List Value} {R : Value → World → Prop} {fn : Func} {c : Code} (hf : P.funcs[f]? = some fn) (hb : fn.body = some c) (hn : fn.ntmps = n) (hsz : Nat.ble vs.length n = true)
    (h : EWp P n c (bodyQ P fn R) [] (argEnv 0 vs) w) : Ret P f vs w R := by
  have hle : vs.length ≤ n := by simpa [Nat.ble_eq] using hsz
  refine calls_of_wp hf hb (Go.wp_mono (h _ ⟨?_, ?_⟩ rfl) ?_)
  · simp [hn]; omega
  · intro t v ht
    obtain ⟨_, h2⟩ := lk_argEnv vs 0 t v ht
    have hlt : t < vs.length := by
      rcases Nat.lt_or_ge t vs.length with h | h
      · exact h
      · rw [Nat.sub_zero, List.getElem?_eq_none h] at h2; cases h2
    rw [Array.getElem?_append, if_pos (by simpa using hlt)]
    simpa using h2
  · rintro x a w ⟨e, hfit, hx, hD, v, hv, hR⟩
    rcases hx with rfl | rfl <;> exact ⟨hD, v, hv _ hfit.at_, v, rfl, hR⟩
theorem ret0 {fn : Func} {R : Value → World → Prop} {x : Exit} (hx : x = .normal ∨ x = .ret) (hr : fn.results = #[]) (h : R (.tuple #[]) w) : bodyQ P fn R x [] e w :=
  ⟨hx, rfl, _, fun tmps ht => by simp [results, hr], h⟩
theorem ret1 {fn : Func} {R : Value → World → Prop} {t : Tmp} {v : Value} {x : Exit} (hx : x = .normal ∨ x = .ret) (hr : fn.results = #[.tmp t]) (hv : lk e t = some v) (h : R v w) : bodyQ P fn R x [] e w :=
  ⟨hx, rfl, v, fun tmps ht => by simp [results, hr, ht t v hv], h⟩
theorem ret2 {fn : Func} {R : Value → World → Prop} {t u : Tmp} {v v' : Value} {x : Exit} (hx : x = .normal ∨ x = .ret) (hr : fn.results = #[.tmp t, .tmp u]) (hv : lk e t = some v) (hv' : lk e u = some v')
    (h : R (.tuple #[v, v']) w) : bodyQ P fn R x [] e w :=
  ⟨hx, rfl, _, fun tmps ht => by simp [results, hr, ht t v hv, ht u v' hv'], h⟩
theorem ret3 {fn : Func} {R : Value → World → Prop} {t u s : Tmp} {v v' v'' : Value} {x : Exit} (hx : x = .normal ∨ x = .ret) (hr : fn.results = #[.tmp t, .tmp u, .tmp s]) (hv : lk e t = some v) (hv' : lk e u = some v') (hv'' : lk e s = some v'')
    (h : R (.tuple #[v, v', v'']) w) : bodyQ P fn R x [] e w :=
  ⟨hx, rfl, _, fun tmps ht => by simp [results, hr, ht t v hv, ht u v' hv', ht s v'' hv''], h⟩

end

/-! ### a region that draws its order -/
/-- what pending loads lean on: (k, F): till operation k has come up, F holds -/
abbrev Props := List (Nat × (World → Prop))
def Holds : Props → Array Bool → World → Prop
  | [], _, _ => True
  | p :: r, listed, w => (listed.getD p.1 false = false → p.2 w) ∧ Holds r listed w
/-- it has come up -/
theorem kl {b : Bool} {p : Prop} (h : b = true) : b = false → p := fun hh => by rw [h] at hh; cases hh
section
variable {P : Program} {n : Nat} {Q : Exit → Act → World → Prop} {ops : Array Oper} {md : Region.Mode} {pr : Props}
theorem Holds.at_ : ∀ {pr : Props} {listed : Array Bool} {w : World}, Holds pr listed w → ∀ p ∈ pr, listed.getD p.1 false = false → p.2 w
  | [], _, _, _, p, hp, _ => by cases hp
  | q :: r, listed, w, h, p, hp, hl => by
    cases hp with
    | head => exact h.1 hl
    | tail _ hp => exact Holds.at_ h.2 p hp hl
theorem Holds.of : ∀ {pr : Props} {listed : Array Bool} {w : World}, (∀ p ∈ pr, listed.getD p.1 false = false → p.2 w) → Holds pr listed w
  | [], _, _, _ => trivial
  | q :: r, listed, w, h => ⟨h q (by simp), Holds.of fun p hp => h p (by simp [hp])⟩
theorem Holds.set_iff {listed : Array Bool} {w : World} {i : Nat} (hn : ∀ p ∈ pr, p.1 ≠ i) : Holds pr (listed.setIfInBounds i true) w ↔ Holds pr listed w := by
  constructor
  · intro h
    exact Holds.of fun p hp hl => h.at_ p hp (by rw [getD_set_ne false (fun e => hn p hp e.symm)]; exact hl)
  · intro h
    exact Holds.of fun p hp hl => h.at_ p hp (by rw [getD_set_ne false (fun e => hn p hp e.symm)] at hl; exact hl)
theorem Holds.done {listed : Array Bool} {w : World} (h : pr.all (fun p => listed.getD p.1 false) = true) : Holds pr listed w :=
  Holds.of fun p hp hl => by
    have := List.all_eq_true.1 h p hp
    rw [hl] at this
    cases this
def wpAnyP (P : Program) (md : Region.Mode) (ops : Array Oper) (Q : Exit → Act → World → Prop) (pr : Props) : Nat → Array Bool → Act → World → Prop
  | 0, listed, a, w => Region.ready md ops listed = [] ∧ Q .normal a w
  | fuel + 1, listed, a, w =>
    (Region.ready md ops listed = [] → Q .normal a w) ∧
    ∀ i ∈ Region.ready md ops listed, wpOp P ops Q i (fun a' w' => Holds pr (listed.setIfInBounds i true) w' ∧ wpAnyP P md ops Q pr fuel (listed.setIfInBounds i true) a' w') a w
theorem wpAny_of_P : ∀ (fuel : Nat) (listed : Array Bool) (a : Act) (w : World), wpAnyP P md ops Q pr fuel listed a w → wpAny P md ops Q fuel listed a w
  | 0, _, _, _, h => h
  | fuel + 1, _, _, _, h => ⟨h.1, fun i hi => wpOp_mono (fun a' w' h' => wpAny_of_P fuel _ a' w' h'.2) (h.2 i hi)⟩
/-- operation i leans on F: F always holds, or stands in pr for an operation that waits for i -/
def Leans (md : Region.Mode) (ops : Array Oper) (pr : Props) (i : Nat) (F : World → Prop) (listed : Array Bool) : Prop :=
  (∀ w, F w) ∨ ∃ (k : Nat) (X : List Nat), (k, F) ∈ pr ∧ k ∈ X ∧ ∀ x ∈ X, (∀ ox, ops[x]? = some ox → ∃ e ∈ ox.after, Region.binds md e = true ∧ (e.on = i ∨ e.on ∈ X)) ∧ listed.getD x false = false
theorem wpAnyP_first {i : Nat} {oi : Oper} {v : Value} {F : World → Prop} (hi : ops[i]? = some oi) (hsel : ∀ (j : Nat) (o : Oper) cs b, ops[j]? = some o → o.op ≠ .select cs b)
    (hQ : ∀ c a w, Q (.panic c) (a.put oi.dst v) w → Q (.panic c) a w) (hn : ∀ p ∈ pr, p.1 ≠ i) :
    ∀ (fuel : Nat) (listed : Array Bool) (a : Act) (w : World),
      (∀ j oj, ops[j]? = some oj → j ≠ i → listed.getD j true = false → (∀ e ∈ oj.after, Region.binds md e = true → e.on ≠ i) → oi.apart ops oj = true) →
      i ∈ Region.ready md ops listed → Leans md ops pr i F listed → YieldsIf P ops F oi v a → Holds pr listed w →
      wpAnyP P md ops Q pr fuel (listed.setIfInBounds i true) (a.put oi.dst v) w → wpAnyP P md ops Q pr (fuel + 1) listed a w := by
  intro fuel
  have hFw : ∀ listed w, Leans md ops pr i F listed → Holds pr listed w → F w := by
    intro listed w hl hh
    rcases hl with h | ⟨k, X, hk, hkX, hX⟩
    · exact h w
    · exact hh.at_ _ hk (hX k hkX).2
  induction fuel with
  | zero =>
    intro listed a w _ hr hl hy hS H
    refine ⟨fun h => (by rw [h] at hr; cases hr), fun j hj => ?_⟩
    by_cases hji : j = i
    · subst hji; exact hy.wpOp hi (hFw _ _ hl hS) ⟨(Holds.set_iff hn).2 hS, H⟩
    · have := ready_mono hj hji
      rw [H.1] at this
      cases this
  | succ fuel ih =>
    intro listed a w hfree hr hl hy hS H
    refine ⟨fun h => (by rw [h] at hr; cases hr), fun j hj => ?_⟩
    by_cases hji : j = i
    · subst hji; exact hy.wpOp hi (hFw _ _ hl hS) ⟨(Holds.set_iff hn).2 hS, H⟩
    · have h1 := H.2 j (ready_mono hj hji)
      obtain ⟨hjun, oj, hoj, hall⟩ := mem_ready.1 hj
      have hiun : listed.getD i true = false := (mem_ready.1 hr).1
      have hnot : ∀ e ∈ oj.after, Region.binds md e = true → e.on ≠ i := fun e he hb heq => by
        have h1 := hall e he hb
        have h0 := hiun
        rw [heq] at h1
        rcases Nat.lt_or_ge i listed.size with h' | h'
        · simp [h'] at h0 h1; rw [h0] at h1; cases h1
        · simp [Array.getElem?_eq_none h'] at h1
      have h2 := wpOp_putIf hoj (hfree j oj hoj hji hjun hnot) (fun cs b => hsel i oi cs b hi) (fun cs b => hsel j oj cs b hoj) hQ hy h1
      have hfree' : ∀ k ok, ops[k]? = some ok → k ≠ i → (listed.setIfInBounds j true).getD k true = false →
          (∀ e ∈ ok.after, Region.binds md e = true → e.on ≠ i) → oi.apart ops ok = true := fun k ok hk hki hun hno => by
        refine hfree k ok hk hki ?_ hno
        by_cases hjk : j = k
        · subst hjk; exact hjun
        · rw [getD_set_ne true hjk] at hun; exact hun
      have hl' : Leans md ops pr i F (listed.setIfInBounds j true) := by
        rcases hl with h | ⟨k, X, hk, hkX, hX⟩
        · exact .inl h
        · refine .inr ⟨k, X, hk, hkX, fun x hx => ⟨(hX x hx).1, ?_⟩⟩
          have hjx : j ≠ x := by
            rintro rfl
            obtain ⟨e, he, hb, hon⟩ := (hX j hx).1 oj hoj
            rcases hon with hon | hon
            · exact hnot e he hb hon
            · have h1 := hall e he hb
              rw [(hX _ hon).2] at h1
              cases h1
          rw [getD_set_ne false hjx]
          exact (hX x hx).2
      refine wpOp_mono (fun a' w' h3 => ?_) h2
      have hS' : Holds pr (listed.setIfInBounds j true) w' := by
        have := h3.2.1
        rw [Array.setIfInBounds_comm _ _ (fun h => hji h.symm)] at this
        exact (Holds.set_iff hn).1 this
      refine ⟨hS', ih (listed.setIfInBounds j true) a' w' hfree' (ready_mono hr (Ne.symm hji)) hl' h3.1 hS' ?_⟩
      rw [Array.setIfInBounds_comm _ _ hji]
      exact h3.2.2
end

section
variable {P : Program} {n : Nat} {Q : Post} {K : Kont} {D : List Deferred} {e : Env} {w : World} {ops : Array Oper} {pr : Props} {fuel : Nat} {listed : Array Bool}
def EA (P : Program) (n : Nat) (ops : Array Oper) (pr : Props) (K : Kont) (fuel : Nat) (listed : Array Bool) (D : List Deferred) (e : Env) (w : World) : Prop :=
  Holds pr listed w ∧ ∀ a, Fits n e a → a.defers = D → wpAnyP P .any ops (nQ n K) pr fuel listed a w
/-- the closed facts of one that is taken first -/
def takeB (ops : Array Oper) (keys : List Nat) (listed : Array Bool) (i : Nat) : Bool :=
  Region.noSelect ops && Region.free .any ops listed i && (Region.ready .any ops listed).contains i && keys.all (fun k => !Nat.beq k i)
def edgeB (ops : Array Oper) (listed : Array Bool) (i k : Nat) (X : List Nat) : Bool :=
  X.contains k && X.all fun x => (match ops[x]? with | some ox => ox.after.any (fun e => Region.binds .any e && (e.on == i || X.contains e.on)) | none => true) && !(listed.getD x false)
theorem EA_take {i : Nat} {o : Oper} {v : Value} {F : World → Prop} (hi : ops[i]? = some o) (ht : takeB ops (pr.map (·.1)) listed i = true) (hl : Leans .any ops pr i F listed)
    (hy : ∀ a, Fits n e a → YieldsIf P ops F o v a) {e' : Env} (he : ∀ a, Fits n e a → Fits n e' (a.put o.dst v)) (h : EA P n ops pr K fuel (listed.setIfInBounds i true) D e' w) : EA P n ops pr K (fuel + 1) listed D e w := by
  simp only [takeB, Bool.and_eq_true] at ht
  obtain ⟨⟨⟨h1, h2⟩, h3⟩, h4⟩ := ht
  have hn : ∀ p ∈ pr, p.1 ≠ i := fun p hp heq => by
    have := List.all_eq_true.1 h4 p.1 (List.mem_map.2 ⟨p, hp, rfl⟩)
    rw [heq] at this
    simp at this
  have hH : Holds pr listed w := (Holds.set_iff hn).1 h.1
  refine ⟨hH, fun a hf hd => ?_⟩
  exact wpAnyP_first hi (Region.noSelect_spec h1) (fun c a w hq => by cases hq.1) hn fuel listed a w (Region.free_spec hi h2) (by simpa using h3) hl (hy a hf) hH
    (h.2 _ (he a hf) (by cases o.dst <;> simpa [Act.put] using hd))
theorem yieldsIf_of {o : Oper} {v : Value} {F : World → Prop} (hg : gdv ops e o.guard = some true) (hr : ∀ w', F w' → Runs P e w' o v w') : ∀ a, Fits n e a → YieldsIf P ops F o v a := fun a hf =>
  .inl ⟨gdv_wanted hf hg, fun w' hw' => hr w' hw' a.eval fun x u hx => hf.eval hx⟩
/-- taken first: what yields in whatever world -/
theorem EA_pure (i : Nat) {o : Oper} {v : Value} {d : Tmp} (hi : ops[i]? = some o) (hr : ∀ w', Runs P e w' o v w') (ht : takeB ops (pr.map (·.1)) listed i = true) (hg : gdv ops e o.guard = some true) (ho : o.dst = some d) (hdn : Nat.blt d n = true)
    (h : EA P n ops pr K fuel (listed.setIfInBounds i true) D ((d, v) :: e) w) : EA P n ops pr K (fuel + 1) listed D e w :=
  EA_take (F := fun _ => True) hi ht (.inl fun _ => trivial) (yieldsIf_of hg fun w' _ => hr w') (fun a hf => by rw [ho]; exact hf.put hdn v) h
theorem EA_not (i : Nat) {o : Oper} {d : Tmp} (hi : ops[i]? = some o) (ht : takeB ops (pr.map (·.1)) listed i = true) (hg : gdv ops e o.guard = some false) (ho : o.dst = some d) (hdn : Nat.blt d n = true)
    (h : EA P n ops pr K fuel (listed.setIfInBounds i true) D ((d, undef) :: e) w) : EA P n ops pr K (fuel + 1) listed D e w :=
  EA_take (F := fun _ => True) hi ht (.inl fun _ => trivial) (fun a hf => .inr ⟨gdv_wanted hf hg, rfl⟩) (fun a hf => by rw [ho]; exact hf.put hdn undef) h
theorem EA_lean (i p : Nat) (X : List Nat) {o : Oper} {v : Value} {d k : Tmp} {F : World → Prop} (hi : ops[i]? = some o) (hp : pr[p]? = some (k, F)) (hr : ∀ w', F w' → Runs P e w' o v w') (hk : edgeB ops listed i k X = true) (ht : takeB ops (pr.map (·.1)) listed i = true) (hg : gdv ops e o.guard = some true) (ho : o.dst = some d) (hdn : Nat.blt d n = true)
    (h : EA P n ops pr K fuel (listed.setIfInBounds i true) D ((d, v) :: e) w) : EA P n ops pr K (fuel + 1) listed D e w := by
  refine EA_take (F := F) hi ht ?_ (yieldsIf_of hg hr) (fun a hf => by rw [ho]; exact hf.put hdn v) h
  simp only [edgeB, Bool.and_eq_true, Bool.not_eq_true'] at hk
  obtain ⟨h1, h2⟩ := hk
  refine .inr ⟨k, X, List.mem_of_getElem? hp, by simpa using h1, fun x hx => ?_⟩
  have h3 := List.all_eq_true.1 h2 x hx
  simp only [Bool.and_eq_true, Bool.not_eq_true'] at h3
  refine ⟨fun ox hox => ?_, h3.2⟩
  have h4 := h3.1
  simp only [hox] at h4
  obtain ⟨ed, hed, hb⟩ := Array.any_eq_true'.1 h4
  simp only [Bool.and_eq_true, Bool.or_eq_true, beq_iff_eq] at hb
  exact ⟨ed, hed, hb.1, hb.2.imp id (fun h => by simpa using h)⟩
/-- the only one that may come up -/
theorem EA_one (i : Nat) {o : Oper} (hi : ops[i]? = some o) (hr : Region.ready .any ops listed = [i]) (hg : gdv ops e o.guard = some true) (hH : Holds pr listed w)
    (h : EO P n o (EA P n ops pr K fuel (listed.setIfInBounds i true)) D e w) : EA P n ops pr K (fuel + 1) listed D e w := by
  refine ⟨hH, fun a hf hd => ⟨fun h0 => (by rw [hr] at h0; cases h0), fun j hj => ?_⟩⟩
  rw [hr] at hj
  obtain rfl : j = i := by simpa using hj
  unfold wpOp
  simp only [hi]
  rw [if_pos (gdv_wanted hf hg)]
  exact .inl (Oper.wp_mono (fun a' w' ⟨e', hf', hk⟩ => ⟨hk.1, hk.2 a' hf' rfl⟩) (h a hf hd _))
/-- two may come up -/
theorem EA_two (i j : Nat) {o o' : Oper} (hi : ops[i]? = some o) (hj : ops[j]? = some o') (hr : Region.ready .any ops listed = [i, j]) (hg : gdv ops e o.guard = some true) (hg' : gdv ops e o'.guard = some true) (hH : Holds pr listed w)
    (h : EO P n o (EA P n ops pr K fuel (listed.setIfInBounds i true)) D e w) (h' : EO P n o' (EA P n ops pr K fuel (listed.setIfInBounds j true)) D e w) : EA P n ops pr K (fuel + 1) listed D e w := by
  refine ⟨hH, fun a hf hd => ⟨fun h0 => (by rw [hr] at h0; cases h0), fun k hk => ?_⟩⟩
  rw [hr] at hk
  rcases (by simpa using hk : k = i ∨ k = j) with rfl | rfl
  · unfold wpOp
    simp only [hi]
    rw [if_pos (gdv_wanted hf hg)]
    exact .inl (Oper.wp_mono (fun a' w' ⟨e', hf', hk⟩ => ⟨hk.1, hk.2 a' hf' rfl⟩) (h a hf hd _))
  · unfold wpOp
    simp only [hj]
    rw [if_pos (gdv_wanted hf hg')]
    exact .inl (Oper.wp_mono (fun a' w' ⟨e', hf', hk⟩ => ⟨hk.1, hk.2 a' hf' rfl⟩) (h' a hf hd _))
/-- a region without effects: the world stays -/
theorem EA_still (i : Nat) (X : List Nat) {o : Oper} {v : Value} {d k : Tmp} (hi : ops[i]? = some o) (hr : Runs P e w o v w) (hp : pr = [(k, fun w' => w' = w)]) (hk : edgeB ops listed i k X = true) (ht : takeB ops [k] listed i = true) (hg : gdv ops e o.guard = some true) (ho : o.dst = some d) (hdn : Nat.blt d n = true)
    (h : EA P n ops pr K fuel (listed.setIfInBounds i true) D ((d, v) :: e) w) : EA P n ops pr K (fuel + 1) listed D e w :=
  EA_lean i 0 X (F := fun w' => w' = w) (k := k) hi (by rw [hp]; rfl) (fun w' hw' => by subst hw'; exact hr) hk (by rw [hp]; exact ht) hg ho hdn h
theorem EA_load (i p : Nat) (X : List Nat) {x : Operand} {t : TypeId} {ad : Addr} {v : Value} {d k : Tmp} {ty : TypeId} {pos : String} {af : Array Edge} {gd : Option (Nat × Bool)} (hi : ops[i]? = some ⟨some d, .load t x, ty, pos, af, gd⟩)
    (hx : ev e x = some (.pointer (some ad))) (hag : aggT P t = some false) (hp : pr[p]? = some (k, fun w' => w'.cell? ad = some v)) (hk : edgeB ops listed i k X = true) (ht : takeB ops (pr.map (·.1)) listed i = true) (hg : gdv ops e gd = some true) (hdn : Nat.blt d n = true)
    (h : EA P n ops pr K fuel (listed.setIfInBounds i true) D ((d, v) :: e) w) : EA P n ops pr K (fuel + 1) listed D e w :=
  EA_lean i p X hi hp (fun w' hw' => R_load hx hag hw') hk ht hg rfl hdn h
theorem EA_loadAgg (i p : Nat) (X : List Nat) {x : Operand} {t : TypeId} {g j : Nat} {cs : Array Value} {d k : Tmp} {ty : TypeId} {pos : String} {af : Array Edge} {gd : Option (Nat × Bool)} (hi : ops[i]? = some ⟨some d, .load t x, ty, pos, af, gd⟩)
    (hx : ev e x = some (.pointer (some ⟨g, j, none⟩))) (hag : aggT P t = some true) (hp : pr[p]? = some (k, fun w' => Cells w' g j cs)) (hsz : sizeOfT P t = some cs.size) (hk : edgeB ops listed i k X = true) (ht : takeB ops (pr.map (·.1)) listed i = true) (hg : gdv ops e gd = some true) (hdn : Nat.blt d n = true)
    (h : EA P n ops pr K fuel (listed.setIfInBounds i true) D ((d, .agg cs) :: e) w) : EA P n ops pr K (fuel + 1) listed D e w :=
  EA_lean i p X hi hp (fun w' hw' => R_loadAgg hx hag hw' hsz) hk ht hg rfl hdn h
theorem EA_done (hr : Region.ready .any ops listed = []) (hH : Holds pr listed w) (h : K D e w) : EA P n ops pr K fuel listed D e w := by
  refine ⟨hH, fun a hf hd => ?_⟩
  have hn : nQ n K .normal a w := ⟨rfl, e, hf, hd ▸ h⟩
  cases fuel with
  | zero => exact ⟨hr, hn⟩
  | succ m => exact ⟨fun _ => hn, by rw [hr]; simp⟩
theorem EA_weaken (e' : Env) (hs : Subs e' e) (h : EA P n ops pr K fuel listed D e' w) : EA P n ops pr K fuel listed D e w := ⟨h.1, fun a hf hd => h.2 a (hf.subs hs) hd⟩
theorem E_regionD {id : Nat} {l : List Oper} (pr : World → Props) (m : Nat) (hmix : P.follows .mixedOrders = true) (hl : l.length = m)
    (h : ∀ w1, Mods No w w1 → w1.heap = w.heap → EA P n l.toArray (pr w1) (fun D e w => Q .normal D e w) m (Array.replicate m false) D e w1) : EWp P n (.region id l.toArray true) Q D e w := by
  intro a hf hd
  subst hl
  have h1 := h w.drew (mods_drew w) rfl
  have h2 : wpAny P .any l.toArray (lift n Q) l.toArray.size (Array.replicate l.toArray.size false) a { w with drawn := w.drawn + 1 } := by
    have h3 := wpAny_of_P _ _ _ _ (h1.2 a hf hd)
    have hq : ∀ x a w, nQ n (fun D e w => Q .normal D e w) x a w → lift n Q x a w := fun x a w ⟨hx, e, hf, hk⟩ => by subst hx; exact ⟨e, hf, hk⟩
    have h4 : ∀ (fuel : Nat) (listed : Array Bool) (a : Act) (w : World), wpAny P .any l.toArray (nQ n (fun D e w => Q .normal D e w)) fuel listed a w → wpAny P .any l.toArray (lift n Q) fuel listed a w := by
      have hop : ∀ (i : Nat) (K K' : Act → World → Prop) (a : Act) (w : World), (∀ a w, K a w → K' a w) → wpOp P l.toArray (nQ n (fun D e w => Q .normal D e w)) i K a w → wpOp P l.toArray (lift n Q) i K' a w := by
        intro i K K' a w hk hh
        unfold wpOp at *
        split
        · rename_i ho; simp only [ho] at hh; exact hk _ _ hh
        · rename_i o ho
          simp only [ho] at hh
          split
          · rename_i hw
            simp only [hw, if_true] at hh
            rcases hh with hh | ⟨_, a0, w0, hx⟩
            · refine .inl ?_
              unfold Oper.wp at *
              generalize (execOp a.eval o).run P w = r at *
              cases r with
              | ok nx w' =>
                cases nx <;> simp only [Oper.upon] at hh ⊢ <;>
                  first
                    | exact hk _ _ hh
                    | exact Calls.mono hh (fun x w'' hx => by
                        cases x with
                        | returned v => exact hk _ _ hx
                        | panicked c => cases hx.1
                        | outgrown => obtain ⟨_, _, hx⟩ := hx; cases hx.1)
                    | exact Rows.mono hh (fun _ _ hx => hk _ _ hx)
              | halt x w' => cases x <;> simp only [Oper.upon] at hh ⊢ <;> cases hh.1
            · cases hx.1
          · rename_i hw
            simp only [hw] at hh
            exact hk _ _ hh
      intro fuel
      induction fuel with
      | zero => exact fun listed a w h => ⟨h.1, hq _ _ _ h.2⟩
      | succ fuel ih => exact fun listed a w h => ⟨fun h0 => hq _ _ _ (h.1 h0), fun i hi => hop i _ _ a w (fun a w hh => ih _ a w hh) (h.2 i hi)⟩
    simpa using h4 _ _ _ _ h3
  exact wp_region_any hmix h2
theorem E_seqD {id : Nat} {l : List Oper} {y : Code} (pr : World → Props) (m : Nat) (hmix : P.follows .mixedOrders = true) (hl : l.length = m)
    (h : ∀ w1, Mods No w w1 → w1.heap = w.heap → EA P n l.toArray (pr w1) (EWp P n y Q) m (Array.replicate m false) D e w1) : EWp P n (.seq (.region id l.toArray true) y) Q D e w :=
  E_seq (E_regionD pr m hmix hl h)
end

/-! ### ways through the code -/
section
variable {Q : Post} {K : Kont} {D : List Deferred} {e : Env} {w : World}
theorem thenQ_n (h : K D e w) : thenQ K Q .normal D e w := h
theorem thenQ_e {i : Nat} (h : Q (.exit i) D e w) : thenQ K Q (.exit i) D e w := h
theorem thenQ_r (h : Q .ret D e w) : thenQ K Q .ret D e w := h
theorem thenQ_g {l : Nat} (h : Q (.goto l) D e w) : thenQ K Q (.goto l) D e w := h
theorem inB_n {i : Nat} (h : Q .normal D e w) : inB i Q .normal D e w := h
theorem inB_r {i : Nat} (h : Q .ret D e w) : inB i Q .ret D e w := h
theorem inB_g {i l : Nat} (h : Q (.goto l) D e w) : inB i Q (.goto l) D e w := h
theorem inB_eq {i j : Nat} (hij : Nat.beq i j = true) (h : Q .normal D e w) : inB j Q (.exit i) D e w := by simp only [inB, hij]; exact h
theorem inB_ne {i j : Nat} (hij : Nat.beq i j = false) (h : Q (.exit i) D e w) : inB j Q (.exit i) D e w := by simp only [inB, hij]; exact h
end
end Go.EW
