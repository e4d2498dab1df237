/- Blocks of bytes: numbers put and read, pages, seals (packages field, bytes). -/
import Derived.Test.YtifmdcjncbbcgaaSpin
set_option linter.unusedVariables false
set_option linter.unusedSimpArgs false
set_option maxRecDepth 100000
namespace Go.EW
open Go.RowKit
/-- block i is of one of the types T, and not of before B -/
def ftT (T : TypeId → Prop) (B : Nat) (w : World) (i : Nat) : Prop := B ≤ i ∧ ∃ C t, Bk w i C t ∧ T t
/-- only such blocks have changed -/
def TM (T : TypeId → Prop) (B : Nat) (w w' : World) : Prop := Mods (ftT T B w) w w'
section
variable {T : TypeId → Prop} {B : Nat} {w w' w'' : World}
theorem TM.refl : TM T B w w := Mods.refl _ _
theorem TM.of_no (h : Mods No w w') : TM T B w w' := h.no
theorem ftT_back {S : Nat → Prop} (h : Mods S w w') (hs : ∀ i, i < w.heap.size → S i → ftT T B w i) {i : Nat} (hi : i < w.heap.size) (hf : ftT T B w' i) : ftT T B w i := by
  by_cases hq : S i
  · exact hs i hi hq
  · obtain ⟨hB, C, t, hb, ht⟩ := hf
    have he := h.keep i hi hq
    exact ⟨hB, C, t, by unfold Bk at hb ⊢; rw [← he]; exact hb, ht⟩
theorem TM.trans (h : TM T B w w') (k : TM T B w' w'') : TM T B w w'' := Mods.trans' h k fun i hi hf => ftT_back h (fun _ _ h => h) hi hf
theorem TM.below (h : TM T B w w') (hB : B ≤ w.heap.size) : Below B w w' := Mods.below h hB fun i hi hf => by have := hf.1; omega
theorem TM.upd {g : Nat} {C C' : Array Value} {t : TypeId} (h : Upd w w' g C' t) (hb : Bk w g C t) (hB : B ≤ g) (ht : T t) : TM T B w w' := h.mods.mono fun i _ hi => by subst hi; exact ⟨hB, C, t, hb, ht⟩
theorem TM.bk {g : Nat} {C : Array Value} {t : TypeId} (h : TM T B w w') (hb : Bk w g C t) (ht : ¬ T t) : Bk w' g C t := Mods.bk h hb fun ⟨_, C', t', hb', ht'⟩ => ht (by rw [(hb.inj hb').2]; exact ht')
theorem TM.old {g : Nat} {C : Array Value} {t : TypeId} (h : TM T B w w') (hb : Bk w g C t) (hg : g < B) : Bk w' g C t := Mods.bk h hb fun hf => by have := hf.1; omega
theorem TM.size (h : TM T B w w') : w.heap.size ≤ w'.heap.size := Mods.size h
/-- what is newer than all that was there changes nothing that was there -/
theorem TM.no_of (h : Mods No w w') (k : TM T B w' w'') (hB : w.heap.size ≤ B) : Mods No w w'' := Mods.trans' h k fun i hi hf => by have := hf.1; omega
theorem TM.own {base : Nat} {e : TypeId} {size : Nat} {v : Value} {m : Nat} {xs : List Value} (h : TM T B w w') (ho : w.ownsRow base e size v m xs) (ht : ¬ T e) : w'.ownsRow base e size v m xs := Mods.own h ho fun k hk hf => by
  rcases ho.2 with ⟨hv, _⟩ | ⟨g, cap, cur, hv, hb, hg, _⟩
  · rw [hv] at hk; cases hk
  · rw [hv] at hk
    have : g = k := by simpa [Value.ownBlock] using hk
    subst this
    obtain ⟨_, C', t', hb', ht'⟩ := hf
    exact ht (by rw [(Bk.inj (C := cur) (t := e) hg hb').2]; exact ht')
/-- its own block may change -/
theorem TM.self {base : Nat} {e : TypeId} {size : Nat} {v : Value} {m : Nat} {xs : List Value} (h : Mods (fun i => some i = v.ownBlock) w w') (ho : w.ownsRow base e size v m xs) (hB : B ≤ base) (ht : T e) : TM T B w w' := h.mono fun i _ hi => by
  rcases ho.2 with ⟨hv, _⟩ | ⟨g, cap, cur, hv, hb, hg, _⟩
  · rw [hv] at hi; cases hi
  · rw [hv] at hi
    have : i = g := by simpa [Value.ownBlock] using hi
    subst this
    exact ⟨by omega, cur, e, hg, ht⟩
end
theorem own_sl {w : World} {base : Nat} {E : TypeId} {size : Nat} {v : Value} {m : Nat} {xs : List Value} (h : w.ownsRow base E size v m xs) : ∃ A c, v = .slice A m c ∧ m ≤ c ∧ ∀ a, A = some a → a.spot = none := by
  rcases h.2 with ⟨hv, h0⟩ | ⟨g', cap, cur, hv, _, _, h3, _⟩
  · exact ⟨none, 0, by rw [hv, h0], by omega, fun a h => by cases h⟩
  · exact ⟨_, cap, hv, h3, fun a h => by cases h; rfl⟩
theorem own_mono {w : World} {B base : Nat} {E : TypeId} {size : Nat} {v : Value} {m : Nat} {xs : List Value} (h : w.ownsRow base E size v m xs) (hB : B ≤ base) : w.ownsRow B E size v m xs := by
  refine ⟨h.1, ?_⟩
  rcases h.2 with hh | ⟨g, cap, cur, hv, hb, rest⟩
  · exact .inl hh
  · exact .inr ⟨g, cap, cur, hv, by omega, rest⟩
theorem own_blk {w : World} {base : Nat} {E : TypeId} {size : Nat} {v : Value} {m : Nat} {xs : List Value} (h : w.ownsRow base E size v m xs) {g : Nat} (hg : v.ownBlock = some g) : base ≤ g ∧ ∃ cur, Bk w g cur E := by
  rcases h.2 with ⟨hv, _⟩ | ⟨g', cap, cur, hv, hb, hg', _⟩
  · rw [hv] at hg; cases hg
  · rw [hv] at hg
    have : g' = g := by simpa [Value.ownBlock] using hg
    subst this
    exact ⟨hb, cur, hg'⟩
/-- a block of another type is changed: the row stays -/
theorem own_upd {w w' : World} {base : Nat} {E : TypeId} {size : Nat} {v : Value} {m : Nat} {xs : List Value} {g : Nat} {C C' : Array Value} {t : TypeId} (h : w.ownsRow base E size v m xs) (hu : Upd w w' g C' t) (hb : Bk w g C t) (ht : E ≠ t) : w'.ownsRow base E size v m xs :=
  hu.mods.own h fun k hk hkg => by
    obtain ⟨_, cur, hc⟩ := own_blk h hk
    subst hkg
    exact ht (hc.inj hb).2
/-- a piece of an owned row is written over -/
theorem own_splice {w w' : World} {base g m cap : Nat} {E : TypeId} {cur : Array Value} {xs ys : List Value} {o : Nat} (h : w.ownsRow base E 1 (.slice (some ⟨g, 0, none⟩) m cap) m xs) (hb : Bk w g cur E) (hu : Upd w w' g (splice cur o ys.toArray) E) (ho : o + ys.length ≤ m) (hm : 0 < m) :
    w'.ownsRow base E 1 (.slice (some ⟨g, 0, none⟩) m cap) m (xs.take o ++ ys ++ xs.drop (o + ys.length)) := by
  obtain ⟨g', cap', cur', hv, hbase, hb', h3, h4, h5, h6⟩ := own_form h hm
  injection hv with hA hl hc
  injection hA with hA
  injection hA with hA _ _
  subst hA; subst hc
  obtain ⟨rfl, _⟩ := hb.inj hb'
  have hxl : xs.length = m := by simpa using h.1
  refine ⟨by simp; omega, .inr ⟨g, cap, _, rfl, hbase, hu.bk, h3, h4, ?_, ?_⟩⟩
  · rw [splice_size (by simp; omega)]; exact h5
  · rw [Nat.mul_one] at h6 h5 ⊢
    have hcl : cur.toList.length = cap := by simpa using h5
    unfold splice
    rw [← h6]
    apply List.ext_getElem?
    intro k
    simp only [List.getElem?_take, List.getElem?_append, List.length_append, List.length_take, List.getElem?_drop, List.size_toArray]
    by_cases hk : k < m
    · simp only [hk, if_true]
      repeat' split
      all_goals first | rfl | omega | (congr 1; omega)
    · simp only [hk, if_false]
      repeat' split
      all_goals first | rfl | omega | (symm; apply List.getElem?_eq_none; simp; omega) | skip
      all_goals (rw [List.getElem?_take]; split <;> first | omega | rfl)
end Go.EW
