/- What log.Find tells of: plain facts. -/
import Derived.Test.YtobhogdndfbniaaLogP
set_option linter.unusedVariables false
set_option linter.unusedSimpArgs false
set_option maxRecDepth 100000
namespace Go.Proofs.Ytobhogdndfbniaa
open Go.EW Go.RowKit

theorem txS_sound {Bl : List (List UInt8)} {a : Nat} {s : Int} {ks : List Int} (h : txS Bl a s = some ks) : soundS s ks = true := by
  unfold txS at h
  split at h
  · rename_i s' ks' hb
    split at h
    · rename_i hs
      subst hs
      split at h
      · split at h
        · injection h with h
          subst h
          exact beginsS_facts hb
        · cases h
      · cases h
    · cases h
  · cases h
theorem findL_rec {Bl : List (List UInt8)} (Q : Nat → Int → List (List (Int × List UInt8)) × Nat × Int → Prop) (h0 : ∀ a s, (1073741824 ≤ s ∨ txS Bl a s = none) → Q a s ([], a, s))
    (h1 : ∀ a s ks r, s < 1073741824 → txS Bl a s = some ks → r = findL Bl ((a + ks.length + 2) % 40) (s + 1) → Q ((a + ks.length + 2) % 40) (s + 1) r → Q a s (wrS Bl a ks :: r.1, r.2)) : ∀ (m : Nat) (a : Nat) (s : Int), (1073741824 - s).toNat = m → Q a s (findL Bl a s)
  | m, a, s, hm => by
    by_cases hb : 1073741824 ≤ s
    · rw [findL_big hb]; exact h0 a s (.inl hb)
    · cases ht : txS Bl a s with
      | none => rw [findL_none ht]; exact h0 a s (.inr ht)
      | some ks =>
        rw [findL_some hb ht]
        exact h1 a s ks _ (by omega) ht rfl (findL_rec Q h0 h1 (1073741824 - (s + 1)).toNat _ _ rfl)
  termination_by m => m
  decreasing_by omega
theorem findL_mem {Bl : List (List UInt8)} {a : Nat} {s : Int} : ∀ t ∈ (findL Bl a s).1, ∃ a' ks s', t = wrS Bl a' ks ∧ soundS s' ks = true := by
  refine findL_rec (Bl := Bl) (fun a s r => ∀ t ∈ r.1, ∃ a' ks s', t = wrS Bl a' ks ∧ soundS s' ks = true) (fun a s _ t ht => by cases ht) (fun a s ks r _ hks _ ih t ht => ?_) _ a s rfl
  rcases List.mem_cons.1 ht with rfl | ht
  · exact ⟨a, ks, s, rfl, txS_sound hks⟩
  · exact ih t ht
theorem findL_seq {Bl : List (List UInt8)} {a : Nat} {s : Int} (h : s ≤ 1073741824) : s + ((findL Bl a s).1.length : Int) = (findL Bl a s).2.2 ∧ (findL Bl a s).2.2 ≤ 1073741824 := by
  refine findL_rec (Bl := Bl) (fun a s r => s ≤ 1073741824 → s + (r.1.length : Int) = r.2.2 ∧ r.2.2 ≤ 1073741824) (fun a s _ h => by simp; omega) (fun a s ks r hs _ _ ih h => ?_) _ a s rfl h
  have := ih (by omega)
  simp only [List.length_cons]
  omega
theorem findL_at {Bl : List (List UInt8)} {a : Nat} {s : Int} (h : a < 40) : (findL Bl a s).2.1 < 40 := by
  refine findL_rec (Bl := Bl) (fun a s r => a < 40 → r.2.1 < 40) (fun a s _ h => h) (fun a s ks r hs _ _ ih h => ?_) _ a s rfl h
  exact ih (by omega)
/-- where it stopped there is nothing -/
theorem findL_stop {Bl : List (List UInt8)} {a : Nat} {s : Int} : findL Bl (findL Bl a s).2.1 (findL Bl a s).2.2 = ([], (findL Bl a s).2) := by
  refine findL_rec (Bl := Bl) (fun a s r => findL Bl r.2.1 r.2.2 = ([], r.2)) (fun a s h => ?_) (fun a s ks r hs _ _ ih => ih) _ a s rfl
  rcases h with h | h
  · exact findL_big h
  · exact findL_none h
theorem wrS_mem {Bl : List (List UInt8)} {a : Nat} {ks : List Int} {p : Int × List UInt8} (h : p ∈ wrS Bl a ks) : p.1 ∈ ks ∧ ∃ q, p.2 = Bl.getD (q % 40) [] := by
  unfold wrS at h
  obtain ⟨i, hi, rfl⟩ := List.mem_map.1 h
  have hi' : i < ks.length := by simpa using hi
  refine ⟨?_, _, rfl⟩
  show ks.getD i 0 ∈ ks
  rw [List.getD_eq_getElem?_getD, List.getElem?_eq_getElem hi']
  exact List.getElem_mem _
theorem sound_home {s : Int} {ks : List Int} (h : soundS s ks = true) : ∀ k ∈ ks, homeS k = true := by
  unfold soundS at h
  simp only [Bool.and_eq_true, List.all_eq_true] at h
  intro k hk
  obtain ⟨i, hi, rfl⟩ := List.getElem_of_mem hk
  have := h.1.1 i (by simpa using hi)
  unfold goodAt at this
  simp only [Bool.and_eq_true] at this
  rw [List.getD_eq_getElem?_getD, List.getElem?_eq_getElem hi] at this
  exact this.1
theorem home_range {n : Int} (h : homeS n = true) : 0 ≤ n ∧ n < 480 ∧ n ≠ 1 ∧ (n < 19 ∨ 59 ≤ n) := by
  unfold homeS at h
  rw [decide_eq_true_eq] at h
  omega
/-- each write that is told of -/
theorem findL_write {Bl : List (List UInt8)} {a : Nat} {s : Int} (h64 : ∀ q, (Bl.getD (q % 40) []).length = 64) : ∀ t ∈ (findL Bl a s).1, (t.length ≤ 20 ∧ 1 ≤ t.length) ∧ ∀ p ∈ t, homeS p.1 = true ∧ p.2.length = 64 := by
  intro t ht
  obtain ⟨a', ks, s', rfl, hs⟩ := findL_mem t ht
  have hf := soundS_facts hs
  refine ⟨by simp only [wrS, List.length_map, List.length_range]; omega, fun p hp => ?_⟩
  obtain ⟨h1, q, h2⟩ := wrS_mem hp
  exact ⟨sound_home hs _ h1, by rw [h2]; exact h64 q⟩
theorem flatten_le {α : Type} {k : Nat} : ∀ (T : List (List α)), (∀ t ∈ T, t.length ≤ k) → T.flatten.length ≤ k * T.length
  | [], _ => by simp
  | t :: r, h => by
    have h1 := flatten_le r fun t ht => h t (by simp [ht])
    have h2 := h t (by simp)
    simp only [List.flatten_cons, List.length_append, List.length_cons, Nat.mul_add]
    omega
end Go.Proofs.Ytobhogdndfbniaa
