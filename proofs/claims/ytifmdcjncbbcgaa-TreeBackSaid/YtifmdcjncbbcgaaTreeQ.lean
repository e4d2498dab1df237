/- drydocklaw11.TreeZeros: zeros behind pointers change nothing (plain), and the walk. -/
import Derived.Test.YtifmdcjncbbcgaaTreeP
set_option linter.unusedVariables false
set_option linter.unusedSimpArgs false
set_option maxRecDepth 100000
namespace Go.Proofs.Ytifmdcjncbbcgaa
open Go.EW Go.RowKit

/-- two lists with the same numbers, but for zeros behind the end -/
def Alike (a b : List Int) : Prop := ∀ i, a.getD i 0 = b.getD i 0
section
variable {a b : List Int} (h : Alike a b)
include h
theorem alike_part (s n : Nat) : partS a s n = partS b s n := by
  unfold partS
  exact List.map_congr_left fun i _ => h (s + i)
theorem alike_some (s n : Nat) : someS a s n = someS b s n := by unfold someS; rw [alike_part h]
theorem alike_cnt : ∀ k, cntS a k = cntS b k
  | 0 => rfl
  | k + 1 => by rw [cntS, cntS, alike_cnt k, alike_some h]
theorem alike_need : needS a = needS b := by unfold needS; rw [alike_some h, alike_cnt h]
theorem alike_s1 : s1S a = s1S b := alike_some h _ _
theorem alike_b1 : b1S a = b1S b := by unfold b1S; rw [alike_cnt h]
theorem alike_n1 : n1S a = n1S b := by unfold n1S; rw [alike_s1 h]
theorem alike_n2 : n2S a = n2S b := by unfold n2S; rw [alike_n1 h, alike_b1 h]
theorem alike_undW (fs : List Int) (n : Nat) : ∀ k, undW a fs n k = undW b fs n k
  | 0 => rfl
  | k + 1 => by rw [undW, undW, alike_undW fs n k, alike_some h, alike_cnt h, alike_part h]
theorem alike_undP (fs : List Int) (n : Nat) : ∀ k, undP a fs n k = undP b fs n k
  | 0 => rfl
  | k + 1 => by rw [undP, undP, alike_undP fs n k, alike_some h, alike_cnt h]
theorem alike_planL (fs : List Int) : planL a fs = planL b fs := by
  unfold planL
  rw [alike_s1 h, alike_b1 h, alike_n1 h, alike_n2 h, alike_part h, alike_undP h, alike_undW h]
theorem alike_planG (fs : List Int) : planG a fs = planG b fs := by unfold planG; rw [alike_s1 h]
theorem alike_planB (fs : List Int) : planB a fs = planB b fs := by unfold planB; rw [alike_b1 h, alike_n1 h]
theorem alike_node (s u : Int) : nodeC a s u = nodeC b s u := by unfold nodeC; rw [h, h, h, h]
theorem alike_good : Good a ↔ Good b := by
  rw [good_iff, good_iff]
  constructor
  · intro g i h0
    rw [← h] at h0 ⊢
    obtain ⟨h1, h2⟩ := g i h0
    exact ⟨h1, fun j hj => by rw [← h]; exact h2 j hj⟩
  · intro g i h0
    rw [h] at h0 ⊢
    obtain ⟨h1, h2⟩ := g i h0
    exact ⟨h1, fun j hj => by rw [h]; exact h2 j hj⟩
theorem alike_mem {x : Int} (hx : x ≠ 0) : x ∈ a ↔ x ∈ b := by
  have key : ∀ l : List Int, x ∈ l ↔ ∃ i, l.getD i 0 = x := fun l => by
    constructor
    · intro hm
      obtain ⟨i, hi, e⟩ := List.mem_iff_getElem.1 hm
      exact ⟨i, by rw [List.getD_eq_getElem?_getD, List.getElem?_eq_getElem hi]; exact e⟩
    · rintro ⟨i, e⟩
      have hi : i < l.length := getD_lt (by rw [e]; exact hx)
      rw [List.getD_eq_getElem?_getD, List.getElem?_eq_getElem hi] at e
      exact e ▸ List.getElem_mem hi
  rw [key, key]
  exact ⟨fun ⟨i, e⟩ => ⟨i, by rw [← h]; exact e⟩, fun ⟨i, e⟩ => ⟨i, by rw [h]; exact e⟩⟩
theorem alike_fresh (fs : List Int) (n : Nat) : freshE a fs n = freshE b fs n := by
  have : FreshTo a fs n ↔ FreshTo b fs n := by
    constructor
    · intro g j hj hjn
      obtain ⟨h1, h2, h3⟩ := g j hj hjn
      have h0 := dataI_iff.1 h1
      exact ⟨h1, h2, fun hm => h3 ((alike_mem h (by omega)).2 hm)⟩
    · intro g j hj hjn
      obtain ⟨h1, h2, h3⟩ := g j hj hjn
      have h0 := dataI_iff.1 h1
      exact ⟨h1, h2, fun hm => h3 ((alike_mem h (by omega)).1 hm)⟩
  unfold freshE
  split
  · rfl
  · by_cases hf : FreshTo a fs n
    · rw [if_pos hf, if_pos (this.1 hf)]
    · rw [if_neg hf, if_neg (fun q => hf (this.2 q))]
theorem alike_planE (fs : List Int) (ha : a.length ≤ 96) (hb : b.length ≤ 96) : planE a fs = planE b fs := by
  have : ptrsB a = ptrsB b := by
    unfold ptrsB
    rw [decide_eq_true ha, decide_eq_true hb]
    congr 1
    exact decide_eq_decide.2 (alike_good h)
  unfold planE
  rw [this, alike_fresh h, alike_need h]
end
theorem alike_zeros (ks : List Int) (z : Nat) : Alike (ks ++ List.replicate z 0) ks := fun i => by
  rw [List.getD_eq_getElem?_getD, List.getD_eq_getElem?_getD, List.getElem?_append]
  split
  · rfl
  · rw [List.getElem?_replicate, List.getElem?_eq_none (by omega)]
    split <;> rfl
def oneAt (n : Nat) : List Int := List.replicate n 0 ++ [100]
theorem one_facts : ∀ n, n < 96 → ptrsB (oneAt n) = true ∧ needS (oneAt n) = if n + 1 > 34 then 2 else if n + 1 > 4 then 1 else 0 := by decide +kernel
end Go.Proofs.Ytifmdcjncbbcgaa
