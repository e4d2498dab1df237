/- Words for the journal's laws. -/
import Derived.Test.YtobhogdndfbniaaGame
set_option linter.unusedVariables false
set_option linter.unusedSimpArgs false
set_option maxRecDepth 100000
namespace Go.Proofs.Ytobhogdndfbniaa
open Go.EW Go.RowKit Go.ChangeShapes Go.WideShapes

/-- slices of bytes that came in -/
def BsArg (w : World) (A : Option Addr) (L : List (List UInt8)) : Prop := L.length ≤ 9223372036854775807 ∧ (0 < L.length → ∃ g i, A = some ⟨g, i, none⟩ ∧
  ∀ (k : Nat) (hk : k < L.length), ∃ Ak ck, w.cell? ⟨g, i + k, none⟩ = some (.slice Ak L[k].length ck) ∧ BS w Ak L[k])
section
variable {H : Type} {enc : TypeId × Value → H} {w : World} {base : Nat} {spare : Nat → Bool} {held : Bool}
theorem bytess_open {fuel : Nat} {v : Value} {x : DataW H × List MemPlace} (h : DataW.trod enc Try.prog w base spare held fuel 22 [v] = some x) :
    ∃ A L c, v = .slice A (List.length L) c ∧ BsArg w A L := by
  rcases Go.Deep.open_slice Try.underlying22 h with ⟨hcs, _⟩ | ⟨a, len, cap, m, n, D, Pl, hcs, hb, hl, hm, hmm, hxx, hi⟩
  · injection hcs with hv
    exact ⟨none, [], 0, hv, by simp, fun h0 => by simp at h0⟩
  · injection hcs with hv
    clear hxx
    have hlm : len ≤ m := by rw [hmm]; split <;> omega
    have hC : Program.cellsOf Try.prog 23 = 1 := by kernel_rfl
    have hrow : ∀ i, i < len → ∃ A l c, w.cell? (a.add i) = some (.slice A (List.length l) c) ∧ BS w A l := by
      intro i hil
      obtain ⟨cs', hc, ht⟩ := hi i (by omega)
      rw [hC] at hc
      obtain ⟨_, hcl, hat⟩ := World.cells?_some hc
      have h1 := hat 0 (by omega)
      match cs', hcl with
      | [u], _ =>
        obtain ⟨A, l, c, rfl, hl', _⟩ := bytes_open ht
        refine ⟨A, l, c, ?_, hl'⟩
        rw [Nat.mul_one] at h1
        have h00 : (a.add i).add 0 = a.add i := by simp [Addr.add]
        rw [h00] at h1
        exact h1
    have hex : ∃ L : List (List UInt8), L.length = len ∧ ∀ (k : Nat) (hk : k < L.length), ∃ A c, w.cell? (a.add k) = some (.slice A L[k].length c) ∧ BS w A L[k] := by
      clear hl hm hmm hlm hv hi
      induction len with
      | zero => exact ⟨[], rfl, fun k hk => by simp at hk⟩
      | succ q ih =>
        obtain ⟨L, hL, hk⟩ := ih fun i hi => hrow i (by omega)
        obtain ⟨A, l, c, h1, h2⟩ := hrow q (by omega)
        refine ⟨L ++ [l], by simp [hL], fun k hkl => ?_⟩
        by_cases hq : k < L.length
        · rw [List.getElem_append_left hq]; exact hk k hq
        · have hkq : k = q := by simp at hkl; omega
          subst hkq
          refine ⟨A, c, ?_⟩
          rw [List.getElem_append_right (by omega)]
          simp only [hL, Nat.sub_self, List.getElem_cons_zero]
          exact ⟨h1, h2⟩
    obtain ⟨L, hL, hk⟩ := hex
    refine ⟨some a, L, cap, by rw [hv, hL], by simp [maxLen] at hm; omega, fun h0 => ?_⟩
    obtain ⟨A0, c0, hc0, _⟩ := hk 0 h0
    have ha := addr_plain hc0
    refine ⟨a.block, a.off, by rw [← ha], fun k hkl => ?_⟩
    obtain ⟨A, c, h1, h2⟩ := hk k hkl
    rw [ha, add_none] at h1
    exact ⟨A, c, h1, h2⟩
theorem ints_open {fuel : Nat} {v : Value} {x : DataW H × List MemPlace} (h : DataW.trod enc Try.prog w base spare held fuel 54 [v] = some x) :
    ∃ A ks c, v = .slice A (List.length ks) c ∧ IS w A ks ∧ ks.length ≤ 9223372036854775807 ∧ (∀ g i, 0 < ks.length → A = some ⟨g, i, none⟩ → g < w.heap.size) := by
  rcases open_ints Try.underlying54 Try.underlying3 (by kernel_rfl) h with ⟨hcs, _⟩ | ⟨a, len, cap, zs, hcs, _, hl, hm, hz, _, hcell, hwz⟩
  · injection hcs with hv
    exact ⟨none, [], 0, hv, ⟨rfl, fun h0 => by simp at h0⟩, by simp, fun g i h0 => by simp at h0⟩
  · injection hcs with hv
    have hle : len ≤ zs.length := by rw [hz]; split <;> omega
    refine ⟨some a, zs.take len, cap, by rw [hv]; simp; omega, ⟨by simp [ival], fun h0 => ?_⟩, by simp [maxLen] at hm ⊢; omega, fun g i h0 hA => ?_⟩
    · have hlen : 0 < len := by simp at h0; omega
      have hc0 := hcell 0 (by omega)
      have ha := addr_plain hc0
      refine ⟨a.block, a.off, by rw [← ha], fun j u hj => ?_⟩
      have hb := (Array.getElem?_eq_some_iff.1 hj).1
      simp [ival] at hb
      have hcj := hcell j (by omega)
      rw [ha, add_none] at hcj
      rw [hcj, ← hj]
      simp only [ival, List.getElem?_toArray, List.getElem?_map, List.getElem?_take, if_pos (show j < len by omega), List.getElem?_eq_getElem (show j < zs.length by omega), Option.map_some, Option.some.injEq, Value.int.injEq, true_and]
      rw [List.getD_eq_getElem?_getD, List.getElem?_eq_getElem (by omega)]
      rfl
    · have hlen : 0 < len := by simp at h0; omega
      have hc0 := hcell 0 (by omega)
      injection hA with hA
      have := World.block_lt_of_cell? w _ hc0
      subst hA
      simpa [Addr.add] using this
end
/-- bytes as 64 bytes: what a copy into zeros leaves -/
def pad64 (l : List UInt8) : List UInt8 := l.take 64 ++ List.replicate (64 - l.length) 0
theorem pad64_length (l : List UInt8) : (pad64 l).length = 64 := by simp [pad64]; omega
theorem ob_pad {w w' : World} {base g : Nat} {cur : Array Value} {l : List UInt8} (h : OB base w (.slice (some ⟨g, 0, none⟩) 64 64) (zerosB 64)) (hb : Bk w g cur 5) (hu : Upd w w' g (splice cur 0 ((bval l).take (min l.length 64)).toArray) 5) : OB base w' (.slice (some ⟨g, 0, none⟩) 64 64) (pad64 l) := by
  have hl : ((bval l).take (min l.length 64)).length = min l.length 64 := by simp [bval_length]
  have h1 := own_splice (xs := bval (zerosB 64)) (ys := (bval l).take (min l.length 64)) (o := 0) (m := 64) h hb hu (by rw [hl]; omega) (by omega)
  unfold OB
  rw [pad64_length]
  rw [List.take_zero, List.nil_append, hl, Nat.zero_add] at h1
  have e : (bval l).take (min l.length 64) ++ (bval (zerosB 64)).drop (min l.length 64) = bval (pad64 l) := by
    unfold pad64 bval zerosB
    rw [List.map_append, List.map_take, List.map_replicate, List.map_replicate, List.drop_replicate]
    congr 1
    · by_cases h : l.length ≤ 64
      · rw [Nat.min_eq_left h, List.take_of_length_le (by simp), List.take_of_length_le (by simpa using h)]
      · rw [Nat.min_eq_right (by omega)]
    · congr 1
      omega
  rw [e] at h1
  exact h1
theorem ints_nil {B : Nat} {w : World} : IntsOff B w none 0 [] := ⟨⟨rfl, by omega, fun h => by omega⟩, fun g i h => by omega⟩
theorem restart_on {w : World} {B d : Nat} {S : DS} (hD : Disk w B d S) {A : Option Addr} {m c : Nat} {ks : List Int} (hk : IntsOff B w A m ks) : Ret Try.prog 9 [ptr d, .slice A m c] w fun v w' => Disk w' B d (restartS S ks) ∧ DM B w w' := by
  obtain ⟨g, C, ov, h⟩ := hD
  exact restart_ok h hk
/-- a row of strings -/
def Strs (C : Array Value) (n : Nat) (f : Nat → List UInt8) : Prop := C.size = n ∧ ∀ i, i < n → C[i]? = some (.string (str (f i)))
theorem Strs.set {C : Array Value} {n i : Nat} {f : Nat → List UInt8} (h : Strs C n f) (hi : i < n) (l : List UInt8) : Strs (C.setIfInBounds i (.string (str l))) n (fun k => if k = i then l else f k) := by
  refine ⟨by simpa using h.1, fun j hj => ?_⟩
  by_cases hji : j = i
  · subst hji
    simp only [if_true]
    rw [Array.getElem?_setIfInBounds_self_of_lt (by rw [h.1]; exact hi)]
  · simp only [if_neg hji]
    rw [Array.getElem?_setIfInBounds_ne (fun e => hji e.symm)]
    exact h.2 j hj
theorem pad_ne (l : List UInt8) : pad64 l ≠ [] := fun e => by
  have := pad64_length l
  rw [e] at this
  cases this
end Go.Proofs.Ytobhogdndfbniaa
