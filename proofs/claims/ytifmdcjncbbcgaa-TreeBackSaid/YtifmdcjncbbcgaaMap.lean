/- Maps with whole numbers as keys that serve as sets; function values; append of zeros: rules over the calculus of XEnv. -/
import Derived.Test.YtifmdcjncbbcgaaMore
import Derived.Maps.Own
import Derived.Lib.AppendZeros
set_option linter.unusedVariables false
set_option linter.unusedSimpArgs false
namespace Go.EW
open Go.RowKit
/-- the block r is a map whose keys are ks, each with a value of no cells -/
def MSet (w : World) (r : Nat) (ks : List Int) : Prop :=
  ∃ es clock, w.heap[r]? = some (.map es clock) ∧ (∀ x ∈ es.toList, ∃ k, x.key = Value.int .i64 k ∧ x.val = .agg #[]) ∧ ∀ k : Int, (∃ x ∈ es.toList, x.key = Value.int .i64 k) ↔ k ∈ ks
theorem MSet.no {S : Nat → Prop} {w w' : World} {r : Nat} {ks : List Int} (h : MSet w r ks) (hm : Mods S w w') (hn : ¬ S r) : MSet w' r ks := by
  obtain ⟨es, clock, h1, h2⟩ := h
  exact ⟨es, clock, hm.heap_eq h1 hn, h2⟩
theorem MSet.new {w w' : World} (h : New w w' (.map #[] 0)) : MSet w' w.heap.size [] := ⟨#[], 0, h.at_, by simp, by simp⟩
theorem MSet.bk_ne {w : World} {r g : Nat} {ks : List Int} {C : Array Value} {t : TypeId} (h : MSet w r ks) (hb : Bk w g C t) : g ≠ r := by
  rintro rfl
  obtain ⟨es, clock, h1, _⟩ := h
  unfold Bk at hb
  rw [h1] at hb
  cases hb
theorem MSet.lt {w : World} {r : Nat} {ks : List Int} (h : MSet w r ks) : r < w.heap.size := by
  obtain ⟨es, clock, h1, _⟩ := h
  rcases Nat.lt_or_ge r w.heap.size with h | h
  · exact h
  · rw [Array.getElem?_eq_none h] at h1; cases h1
theorem MSet.cell {w w' : World} {r : Nat} {ms : List Int} {a : Addr} {v : Value} (h : MSet w r ms) (hm : Mods (fun i => i = r) w w') (hc : w.cell? a = some v) : w'.cell? a = some v :=
  hm.cell hc fun e => by
    obtain ⟨es, clock, h1, _⟩ := h
    subst e
    simp [World.cell?, h1] at hc
theorem MSet.src {w w' : World} {r : Nat} {ms : List Int} {A : Option Addr} {m size : Nat} {news : List Value} (h : MSet w r ms) (hm : Mods (fun i => i = r) w w') (hs : Src w A m size news) : Src w' A m size news :=
  ⟨hs.1, fun h0 => by
    obtain ⟨g, i, hA, hc⟩ := hs.2 h0
    exact ⟨g, i, hA, fun j v hj => h.cell hm (hc j v hj)⟩⟩
theorem findNow_int {k : Int} : ∀ (l : List MapEntry) (i : Nat), (∀ x ∈ l, ∃ k', x.key = Value.int .i64 k') →
    ((∃ j e, l[j]? = some e ∧ e.key = Value.int .i64 k ∧ Instr.findNow (.int .i64) (.int .i64 k) l i = some (some (i + j, e.val))) ∨ ((∀ x ∈ l, x.key ≠ Value.int .i64 k) ∧ Instr.findNow (.int .i64) (.int .i64 k) l i = some none))
  | [], i, _ => .inr ⟨by simp, rfl⟩
  | e :: r, i, h => by
    obtain ⟨k', hk'⟩ := h e (by simp)
    by_cases hkk : k = k'
    · subst hkk
      exact .inl ⟨0, e, rfl, hk', by simp [Instr.findNow, hk', Instr.sameNow]⟩
    · have hs : Instr.sameNow (.int .i64) (.int .i64 k) e.key = some false := by simp [hk', Instr.sameNow, hkk]
      rcases findNow_int r (i + 1) (fun x hx => h x (by simp [hx])) with ⟨j, e', h1, h2, h3⟩ | ⟨h1, h2⟩
      · exact .inl ⟨j + 1, e', by simpa using h1, h2, by simp only [Instr.findNow, hs]; rw [h3]; congr 3; omega⟩
      · refine .inr ⟨?_, by simp only [Instr.findNow, hs]; exact h2⟩
        intro x hx
        rcases List.mem_cons.1 hx with rfl | hx
        · rw [hk']; simpa using fun h => hkk h.symm
        · exact h1 x hx
section
variable {P : Program} {n : Nat} {K : Kont} {D : List Deferred} {e : Env} {w : World} {dst : Option Tmp} {d : Tmp} {ty : TypeId} {pos : String} {af : Array Edge} {gd : Option (Nat × Bool)}
theorem EO_makeMap {t : TypeId} (hd : Nat.blt d n = true) (h : ∀ w', New w w' (.map #[] 0) → K D ((d, .map (some w.heap.size)) :: e) w') : EO P n ⟨some d, .makeMap t none, ty, pos, af, gd⟩ K D e w := by
  refine EO_val (w' := w.alloc (.map #[] 0)) (fun ρ hρ => ?_) rfl hd (h _ (new_alloc w _))
  simp [execOp, Instr.makeMap]
theorem run_findKey_int {key : TypeId} {v : Value} {l : List MapEntry} {r : Option (Nat × Value)} (hk : P.underlying key = some (.int .i64)) (h : Instr.findNow (.int .i64) v l 0 = some r) : (Instr.findKey key v l).run P w = .ok r w := by
  simp [Instr.findKey, run_underlying hk, h]
theorem run_checkKey_int {b : Bool} {key : TypeId} {k : Int} (hk : P.underlying key = some (.int .i64)) : (Instr.checkKey b 10000 key (.int .i64 k)).run P w = .ok () w := by
  unfold Instr.checkKey
  simp [run_underlying hk]
/-- v, ok := m[k] at a set -/
theorem R_lookupSet {t kt et : TypeId} {x y : Operand} {r : Nat} {ks : List Int} {k : Int} {b : Bool} (hm : MSet w r ks) (hdec : decide (k ∈ ks) = b) (ht : P.underlying t = some (.map kt et)) (hk : P.underlying kt = some (.int .i64)) (hz : zeroOfT P et = some (.agg #[])) (hx : ev e x = some (.map (some r))) (hy : ev e y = some (.int .i64 k)) :
    Runs P e w ⟨dst, .lookup t x y true, ty, pos, af, gd⟩ (.tuple #[.agg #[], .bool b]) w := fun ρ h => by
  subst hdec
  obtain ⟨es, clock, hb, hall, hmem⟩ := hm
  have hget : (getObj r).run P w = .ok (.map es clock) w := MapKept.run_getObj_map hb
  rcases findNow_int (k := k) es.toList 0 (fun x hx => by obtain ⟨k', h1, _⟩ := hall x hx; exact ⟨k', h1⟩) with ⟨j, e0, h1, h2, h3⟩ | ⟨h1, h2⟩
  · have hin : k ∈ ks := (hmem k).1 ⟨e0, List.mem_of_getElem? h1, h2⟩
    obtain ⟨k', _, hv⟩ := hall e0 (List.mem_of_getElem? h1)
    simp [execOp, h x _ hx, h y _ hy, Instr.lookup, run_underlying ht, hget, run_checkKey_int hk, run_findKey_int hk h3, hv, hin]
  · have hin : k ∉ ks := fun hh => by obtain ⟨x, hx, hk'⟩ := (hmem k).2 hh; exact h1 x hx hk'
    simp [execOp, h x _ hx, h y _ hy, Instr.lookup, run_underlying ht, hget, run_checkKey_int hk, run_findKey_int hk h2, run_zeroOfT hz, hin]
/-- m[k] = struct{}{} -/
theorem EO_mapUpdateSet {t kt et : TypeId} {x y z : Operand} {r : Nat} {ks : List Int} {k : Int} (hm : MSet w r ks) (ht : P.underlying t = some (.map kt et)) (hk : P.underlying kt = some (.int .i64)) (hx : ev e x = some (.map (some r))) (hy : ev e y = some (.int .i64 k)) (hz : ev e z = some (.agg #[]))
    (h : ∀ w', MSet w' r (k :: ks) → Mods (fun i => i = r) w w' → w'.heap.size = w.heap.size → K D e w') : EO P n ⟨none, .mapUpdate t x y z, ty, pos, af, gd⟩ K D e w := by
  obtain ⟨es, clock, hb, hall, hmem⟩ := hm
  have hlt : r < w.heap.size := by
    rcases Nat.lt_or_ge r w.heap.size with h | h
    · exact h
    · rw [Array.getElem?_eq_none h] at hb; cases hb
  have hget : (getObj r).run P w = .ok (.map es clock) w := MapKept.run_getObj_map hb
  have hmods : ∀ o, Mods (fun i => i = r) w { w with heap := w.heap.setIfInBounds r o } := fun o => ⟨rfl, rfl, rfl, by simp, fun i hi hn => by simp only; rw [Array.getElem?_setIfInBounds_ne (fun e => hn e.symm)]⟩
  have hat : ∀ o, ({ w with heap := w.heap.setIfInBounds r o } : World).heap[r]? = some o := fun o => by simp [hlt]
  have hset := fun o => MapKept.run_setObj_map (P := P) o hb
  rcases findNow_int (k := k) es.toList 0 (fun x hx => by obtain ⟨k', h1, _⟩ := hall x hx; exact ⟨k', h1⟩) with ⟨j, e0, h1, h2, h3⟩ | ⟨h1, h2⟩
  · have hj : es[j]? = some e0 := by simpa using h1
    have hjl : j < es.toList.length := (List.getElem?_eq_some_iff.1 h1).1
    obtain ⟨k', hk', hv'⟩ := hall e0 (List.mem_of_getElem? h1)
    have hlist : (es.modify j (fun e' => { e' with key := Value.int .i64 k, val := .agg #[] })).toList = es.toList.set j { e0 with key := Value.int .i64 k, val := .agg #[] } := by
      apply List.ext_getElem?
      intro i
      rw [Array.getElem?_toList, Array.getElem?_modify, List.getElem?_set]
      by_cases hij : j = i
      · subst hij
        simp [hj]
        omega
      · simp [hij]
    have hsame : ({ e0 with key := Value.int .i64 k, val := .agg #[] } : MapEntry) = e0 := by
      cases e0; simp only at h2 hv'; subst h2; subst hv'; rfl
    have hl2 : (es.modify j (fun e' => { e' with key := Value.int .i64 k, val := .agg #[] })).toList = es.toList := by
      rw [hlist, hsame]
      apply List.ext_getElem?
      intro i
      rw [List.getElem?_set]
      by_cases hij : j = i
      · subst hij; rw [if_pos rfl, if_pos hjl, h1]
      · rw [if_neg hij]
    refine EO_does (w' := { w with heap := w.heap.setIfInBounds r (.map (es.modify j (fun e' => { e' with key := Value.int .i64 k, val := .agg #[] })) clock) }) (fun ρ hρ => ?_) rfl
      (h _ ⟨_, _, hat _, by rw [hl2]; exact hall, fun q => ?_⟩ (hmods _) (by simp))
    · rw [Nat.zero_add] at h3
      simp [execOp, hρ x _ hx, hρ y _ hy, hρ z _ hz, Instr.mapUpdate, run_underlying ht, hget, run_checkKey_int hk, run_findKey_int hk h3, hj, h2, Instr.keyThatStays, Instr.sameBits, hset]
    · rw [hl2, hmem q]
      have hin : k ∈ ks := (hmem k).1 ⟨e0, List.mem_of_getElem? h1, h2⟩
      constructor
      · intro hq; exact List.mem_cons_of_mem _ hq
      · intro hq
        rcases List.mem_cons.1 hq with rfl | hq
        · exact hin
        · exact hq
  · refine EO_does (w' := { w with heap := w.heap.setIfInBounds r (.map (es.push ⟨Value.int .i64 k, .agg #[], clock⟩) (clock + 1)) }) (fun ρ hρ => ?_) rfl
      (h _ ⟨_, _, hat _, ?_, fun q => ?_⟩ (hmods _) (by simp))
    · simp [execOp, hρ x _ hx, hρ y _ hy, hρ z _ hz, Instr.mapUpdate, run_underlying ht, hget, run_checkKey_int hk, run_findKey_int hk h2, hset]
    · intro x hx
      simp only [Array.toList_push, List.mem_append, List.mem_singleton] at hx
      rcases hx with hx | rfl
      · exact hall x hx
      · exact ⟨k, rfl, rfl⟩
    · simp only [Array.toList_push, List.mem_append, List.mem_cons, List.not_mem_nil, or_false]
      constructor
      · rintro ⟨x, hx | rfl, hk'⟩
        · exact .inr ((hmem q).1 ⟨x, hx, hk'⟩)
        · simp only at hk'; injection hk' with _ hk'; exact .inl hk'.symm
      · rintro (rfl | hq)
        · exact ⟨_, .inr rfl, rfl⟩
        · obtain ⟨x, hx, hk'⟩ := (hmem q).2 hq
          exact ⟨x, .inl hx, hk'⟩
end
end Go.EW
