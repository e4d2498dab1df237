/- Functions that defer a call: their bodies, and what is called at the end; over the calculus of XEnv. -/
import Derived.Test.YtobhogdndfbniaaMore
import Derived.Defers
set_option linter.unusedVariables false
set_option linter.unusedSimpArgs false
namespace Go.EW
open Go.RowKit
section
variable {P : Program} {e : Env} {w : World} {dst : Option Tmp} {ty : TypeId} {pos : String} {af : Array Edge} {gd : Option (Nat × Bool)}
/-- a field of a value, of one cell -/
theorem R_field {x : Operand} {s : TypeId} {f off : Nat} {cs : Array Value} {v : Value} (hx : ev e x = some (.agg cs)) (hf : fieldT P s f = some off) (hag : ∀ fs fl, P.underlying s = some (.struct fs) → fs[f]? = some fl → aggT P fl.type = some false) (hv : cs[off]? = some v) :
    Runs P e w ⟨dst, .field s x f, ty, pos, af, gd⟩ v w := fun ρ h => by
  unfold fieldT at hf
  split at hf
  · rename_i fs hs
    split at hf
    · rename_i fl hfl
      split at hf
      · cases hf
      · rename_i m hm0 hm
        injection hf with hf
        subst hf
        have ha := hag fs fl hs hfl
        simp [execOp, h x _ hx, Instr.field, run_underlying hs, hfl, part, run_aggT ha, hv, asAgg]
      · cases hf
    · cases hf
  · cases hf
end
section
variable {P : Program} {n : Nat} {K : Kont} {D : List Deferred} {e : Env} {w : World} {ty : TypeId} {pos : String} {af : Array Edge} {gd : Option (Nat × Bool)}
theorem EO_defer {x : Operand} {f : FuncId} {caps : List Value} {ats : Array TypeId} (hx : ev e x = some (.func (.func f) #[] caps.toArray)) (h : K (⟨.fn (.func f) caps.toArray, #[]⟩ :: D) e w) : EO P n ⟨none, .defer ⟨.value x, #[], ats⟩, ty, pos, af, gd⟩ K D e w := by
  intro a hfit hd Q
  have hxx : a.eval x = _ := hfit.eval hx
  have hrun : (execOp a.eval ⟨none, .defer ⟨.value x, #[], ats⟩, ty, pos, af, gd⟩).run P w = .ok (.defer ⟨.fn (.func f) caps.toArray, #[]⟩) w := by
    simp [execOp, resolve, hxx, Deferred.ofValue]
  unfold Oper.wp
  rw [hrun]
  simp only [Oper.upon]
  exact ⟨e, ⟨hfit.size, hfit.at_⟩, by simpa [Act.put, hd] using h⟩
/-- the body's end, with calls deferred -/
def bodyQD (P : Program) (fn : Func) (R : Value → World → Prop) : Post := fun x D e w =>
  (x = .normal ∨ x = .ret) ∧ ∀ tmps : Array Value, (∀ t u, lk e t = some u → tmps[t]? = some u) → Leaves P fn tmps (fun en w => ∃ v, en = .returned v ∧ R v w) D .returning w
theorem Ret.enterQ {f : FuncId} {vs : List Value} {R : Value → World → Prop} {fn : Func} {c : Code} (hf : P.funcs[f]? = some fn) (hb : fn.body = some c) (hn : fn.ntmps = n) (hsz : Nat.ble vs.length n = true)
    (h : EWp P n c (bodyQD P fn R) [] (argEnv 0 vs) w) : Ret P f vs w R := by
  have hle : vs.length ≤ n := by simpa [Nat.ble_eq] using hsz
  refine calls_of_wp_defers hf hb (Go.wp_mono (h _ ⟨?_, ?_⟩ rfl) ?_)
  · simp [hn]; omega
  · intro t v ht
    obtain ⟨_, h2⟩ := lk_argEnv vs 0 t v ht
    have hlt : t < vs.length := by
      rcases Nat.lt_or_ge t vs.length with h | h
      · exact h
      · rw [Nat.sub_zero, List.getElem?_eq_none h] at h2; cases h2
    rw [Array.getElem?_append, if_pos (by simpa using hlt)]
    simpa using h2
  · rintro x a w ⟨e, hfit, hx, hl⟩
    rcases hx with rfl | rfl <;> exact hl _ hfit.at_
/-- a deferred call that returns -/
def RetD (P : Program) (f : FuncId) (vs : List Value) (w : World) (R : Value → World → Prop) : Prop :=
  ∀ u, CallsD P f vs.toArray u w fun e u' w' => u' = u ∧ ∃ v, e = .returned v ∧ R v w'
theorem RetD.enter {f : FuncId} {vs : List Value} {R : Value → World → Prop} {fn : Func} {c : Code} (hf : P.funcs[f]? = some fn) (hb : fn.body = some c) (hn : fn.ntmps = n) (hsz : Nat.ble vs.length n = true)
    (h : EWp P n c (bodyQ P fn R) [] (argEnv 0 vs) w) : RetD P f vs w R := by
  have hle : vs.length ≤ n := by simpa [Nat.ble_eq] using hsz
  intro u
  refine (callsD_of_wp hf hb (Go.wp_mono (h _ ⟨?_, ?_⟩ rfl) ?_))
  · simp [hn]; omega
  · intro t v ht
    obtain ⟨_, h2⟩ := lk_argEnv vs 0 t v ht
    have hlt : t < vs.length := by
      rcases Nat.lt_or_ge t vs.length with h | h
      · exact h
      · rw [Nat.sub_zero, List.getElem?_eq_none h] at h2; cases h2
    rw [Array.getElem?_append, if_pos (by simpa using hlt)]
    simpa using h2
  · rintro x a w ⟨e, hfit, hx, hD, v, hv, hR⟩
    rcases hx with rfl | rfl <;> exact ⟨hD, v, hv _ hfit.at_, v, rfl, hR⟩
theorem run_cell {fn : Func} {t : Tmp} {T : TypeId} {g i : Nat} {v : Value} {tmps : Array Value} (hr : fn.results = #[.cell t T]) (ht : tmps[t]? = some (.pointer (some ⟨g, i, none⟩))) (hag : aggT P T = some false) (hc : w.cell? ⟨g, i, none⟩ = some v) :
    (results fn tmps).run P w = .ok v w := by
  simp [results, hr, ht, asAddr, loadVar, run_aggT hag, hc]
theorem retQ_c0 {fn : Func} {R : Value → World → Prop} {t : Tmp} {T : TypeId} {g i : Nat} {v : Value} {x : Exit} (hx : x = .normal ∨ x = .ret) (hr : fn.results = #[.cell t T]) (ht : lk e t = some (.pointer (some ⟨g, i, none⟩)))
    (hag : aggT P T = some false) (hc : w.cell? ⟨g, i, none⟩ = some v) (h : R v w) : bodyQD P fn R x [] e w :=
  ⟨hx, fun tmps htm => ⟨v, run_cell hr (htm t _ ht) hag hc, v, rfl, h⟩⟩
theorem retQ_c1 {fn : Func} {R : Value → World → Prop} {t : Tmp} {T : TypeId} {g i : Nat} {x : Exit} {f : FuncId} {caps : List Value} {S : World → Prop} (hx : x = .normal ∨ x = .ret) (hr : fn.results = #[.cell t T]) (ht : lk e t = some (.pointer (some ⟨g, i, none⟩)))
    (hag : aggT P T = some false) (hf : Bodied P f = true) (hcall : RetD P f caps w fun _ w' => S w') (h : ∀ w', S w' → ∃ v, w'.cell? ⟨g, i, none⟩ = some v ∧ R v w') : bodyQD P fn R x [⟨.fn (.func f) caps.toArray, #[]⟩] e w :=
  ⟨hx, fun tmps htm => leaves_cons (by simp) (by simp [invoke, run_callFunc_bodied hf]) (CallsD.mono (hcall _) fun en u' w' hh => by
    obtain ⟨rfl, v, rfl, hS⟩ := hh
    obtain ⟨v', hc, hR⟩ := h w' hS
    exact ⟨v', run_cell hr (htm t _ ht) hag hc, v', rfl, hR⟩)⟩
end
end Go.EW
