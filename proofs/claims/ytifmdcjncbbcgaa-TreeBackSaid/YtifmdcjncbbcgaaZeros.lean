/- append of zeros ('append(s, make(T, n)...)' as the translation says it), cap; over the calculus of XEnv. -/
import Derived.Test.YtifmdcjncbbcgaaMap
import Derived.Lib.AppendZerosOnto
set_option linter.unusedVariables false
set_option linter.unusedSimpArgs false
namespace Go.EW
open Go.RowKit
section
variable {P : Program} {n : Nat} {K : Kont} {D : List Deferred} {e : Env} {w : World} {dst : Option Tmp} {d : Tmp} {ty : TypeId} {pos : String} {af : Array Edge} {gd : Option (Nat × Bool)}
theorem R_capSlice {x : Operand} {t E : TypeId} {a : Option Addr} {len cap : Nat} (hx : ev e x = some (.slice a len cap)) (hu : P.underlying t = some (.slice E)) :
    Runs P e w ⟨dst, .call ⟨.builtin .cap, #[x], #[t]⟩, ty, pos, af, gd⟩ (.int .i64 (cap : Int)) w := fun ρ h => by
  simp [execOp, resolve, h x _ hx, invoke, builtin, Builtin.cap_, run_underlying hu, goInt]
theorem zeroCells_one (z : Value) (k : Nat) : Builtin.zeroCells #[z] k = Array.replicate k z := by
  apply Array.ext_getElem?
  intro j
  by_cases hj : j < k
  · simp [Builtin.zeroCells, hj, Nat.mod_one]
  · rw [Array.getElem?_eq_none (by simp [Builtin.zeroCells]; omega), Array.getElem?_eq_none (by simp; omega)]
theorem run_append_zeros {base : Nat} {t tn E : TypeId} {v : Value} {m0 k : Nat} {xs : List Value} (hu : P.underlying t = some (.slice E)) (hn : P.underlying tn = some (.int .i64)) (hs : sizeOfT P E = some 1) (hz : zeroOfT P E = some (.int .i64 0)) (hby : bytesOfT P E = some 8)
    (hown : w.ownsRow base E 1 v m0 xs) (hk : (m0 + k) * 8 ≤ 140737488355328) (hbase : base ≤ w.heap.size) :
    ∃ v' w', (Builtin.append_ #[t, tn] ty #[v, .int .i64 (k : Int)]).run P w = .ok v' w' ∧ w'.ownsRow base E 1 v' (m0 + k) (xs ++ List.replicate k (.int .i64 0)) ∧ Mods (fun i => some i = v.ownBlock) w w' := by
  obtain ⟨i, hi, hi1⟩ := info_of_size hs
  have hib : i.bytes = 8 := by simpa [bytesOfT, hi] using hby
  have hzz : i.zero = some (.int .i64 0) := by simpa [zeroOfT, hi] using hz
  have hw : IntKind.i64.wrap (k : Int) = k := by rw [IntKind.wrap_i64]; omega
  have hw0 : IntKind.i64.wrap 0 = 0 := by rw [IntKind.wrap_i64]; rfl
  have h48 : ¬ (281474976710656 < (k : Int) * 8) := by omega
  have hneg : ¬ ((k : Int) < 0) := by omega
  have hzero : (Value.int .i64 0).cells = #[Value.int .i64 0] := rfl
  rcases hown.2 with ⟨rfl, hm⟩ | ⟨g, cap, cur, rfl, hb, hg, hle, hmx, hcs, htk⟩
  · subst hm
    have hxs : xs = [] := List.eq_nil_of_length_eq_zero (by simpa using hown.1)
    subst hxs
    by_cases h0 : k = 0
    · subst h0
      exact ⟨.slice none 0 0, w, by simp [Builtin.append_, run_underlying hu, run_underlying hn, sizeOf, typeInfo, hi, hi1, hib, asInt, asIntOf, hw0], by simpa using hown, Mods.refl _ _⟩
    · have hr := Lib.run_append_nil_zeros (P := P) w t tn ty E i (.int .i64 0) .i64 .i64 hu hn hi hzz k (by omega) (by omega) (by omega) (by rw [hib]; omega)
      refine ⟨_, _, hr, ⟨by simp, .inr ⟨w.heap.size, _, _, by rw [Nat.zero_add], hbase, heap_alloc_new w.drew _, ?_, grownCap_le_maxLen w k 0 E (by simp only [maxLen]; omega), ?_, ?_⟩⟩, ?_⟩
      · have := grownCap_ge w k 0 E; omega
      · have := grownCap_ge w k 0 E
        simp only [hzero, zeroCells_one, Array.size_append, Array.size_replicate]
        omega
      · simp only [hzero, zeroCells_one, Array.toList_append, Array.toList_replicate, Nat.zero_add, Nat.mul_one, List.nil_append]
        rw [List.take_append_of_le_length (by simp), List.take_of_length_le (by simp)]
      · exact ⟨rfl, rfl, rfl, by simp, fun q hq _ => Below.heap_alloc w.drew _ q hq⟩
  · have hbk : Bk w g cur E := hg
    have hxl : xs.length = m0 := by simpa using hown.1
    have hcl : cur.size = cap := by simpa using hcs
    by_cases hroom : m0 + k ≤ cap
    · have hst := run_storeCells_at (P := P) g m0 E (List.replicate k (Value.int .i64 0)) 0 cur w hbk (by simp; omega) (fun v hv => by rw [List.eq_of_mem_replicate hv]; rfl)
      simp only [Nat.add_zero, List.length_replicate] at hst
      refine ⟨.slice (some ⟨g, 0, none⟩) (m0 + k) cap, w.setRow g (splice cur m0 (List.replicate k (Value.int .i64 0)).toArray), ?_, ?_, ?_⟩
      · have hsp : splice cur m0 (List.replicate k (Value.int .i64 0)).toArray = (cur.toList.take m0 ++ List.replicate k (Value.int .i64 0) ++ cur.toList.drop (m0 + k)).toArray := by simp [splice]
        rw [hsp]
        have hzc : (Builtin.zeroCells #[Value.int .i64 0] k).toList = List.replicate k (Value.int .i64 0) := by rw [zeroCells_one]; simp
        by_cases h0 : k = 0
        · subst h0
          simp at hst
          simp [Builtin.append_, run_underlying hu, run_underlying hn, sizeOf, typeInfo, hi, hi1, hib, asInt, asIntOf, hw0, hle, Addr.add_lit, hst]
        · simp [Builtin.append_, run_underlying hu, run_underlying hn, sizeOf, typeInfo, zeroValue, hi, hi1, hib, hzz, asInt, asIntOf, hw, h48, hneg, h0, hroom, Addr.add_lit, hzero, hzc, hst]
      · have hu' := upd_setRow (C' := splice cur m0 (List.replicate k (Value.int .i64 0)).toArray) hbk
        have hsz : (splice cur m0 (List.replicate k (Value.int .i64 0)).toArray).size = cap := by rw [splice_size (by simp; omega)]; exact hcl
        refine ⟨by simp [hxl], .inr ⟨g, cap, _, rfl, hb, hu'.bk, hroom, hmx, by rw [hsz]; omega, ?_⟩⟩
        rw [Nat.mul_one]
        rw [Nat.mul_one] at htk
        simp only [splice, List.size_toArray, List.length_replicate]
        rw [List.append_assoc, List.take_append, List.length_take, Array.length_toList, Nat.min_eq_left (by omega), List.take_of_length_le (by simp; omega), htk, show m0 + k - m0 = k from by omega, List.take_append_of_le_length (by simp), List.take_of_length_le (by simp)]
      · exact (upd_setRow hbk).mods.mono fun q _ hq => by subst hq; rfl
    · have hold : (Builtin.firstCells i.size m0 (.slice (some ⟨g, 0, none⟩) m0 cap)).run P w.drew = .ok xs.toArray w.drew := by
        refine run_firstCells_some (P := P) w.drew i.size m0 _ m0 cap xs (by rw [hi1]; omega) (fun j u hj => ?_)
        rw [add_none]
        refine Bk.cell (C := cur) (t := E) hg ?_
        rw [Nat.mul_one] at htk
        rw [← htk, List.getElem?_take] at hj
        split at hj
        · rw [Nat.zero_add]; simpa using hj
        · cases hj
      have hgs := growslice_fits (need := m0 + k) (old := cap) (bytes := 8) (by omega) (by omega)
      have hr := Lib.run_append_grow_zeros (P := P) w t tn ty E i (.int .i64 0) .i64 .i64 hu hn hi hzz (some ⟨g, 0, none⟩) m0 cap xs hold k (by omega) (by omega) (by omega) (by omega) (by rw [hib]; omega) (by rw [hib]; exact hgs)
      have hge := grownCap_ge w (m0 + k) cap E
      refine ⟨_, _, hr, ⟨by simp [hxl], .inr ⟨w.heap.size, _, _, rfl, hbase, heap_alloc_new w.drew _, hge, grownCap_le_maxLen w (m0 + k) cap E (by simp only [maxLen]; omega), ?_, ?_⟩⟩, ?_⟩
      · simp only [hzero, zeroCells_one, Array.size_append, Array.size_replicate, List.size_toArray, hxl]
        omega
      · simp only [hzero, zeroCells_one, Array.toList_append, Array.toList_replicate, Nat.mul_one]
        rw [List.take_append_of_le_length (by simp [hxl]), List.take_of_length_le (by simp [hxl])]
      · exact ⟨rfl, rfl, rfl, by simp, fun q hq _ => Below.heap_alloc w.drew _ q hq⟩
theorem EO_appendZeros {x y : Operand} {base : Nat} {t tn E : TypeId} {v : Value} {m0 k : Nat} {xs : List Value} {ki : Int} (hown : w.ownsRow base E 1 v m0 xs) (hki : ki = (k : Int)) (hk : (m0 + k) * 8 ≤ 140737488355328) (hbase : base ≤ w.heap.size) (hx : ev e x = some v) (hy : ev e y = some (.int .i64 ki)) (hu : P.underlying t = some (.slice E)) (hn : P.underlying tn = some (.int .i64)) (hs : sizeOfT P E = some 1) (hz : zeroOfT P E = some (.int .i64 0)) (hby : bytesOfT P E = some 8)
    (hd : Nat.blt d n = true) (h : ∀ v' w', w'.ownsRow base E 1 v' (m0 + k) (xs ++ List.replicate k (.int .i64 0)) → Mods (fun i => some i = v.ownBlock) w w' → K D ((d, v') :: e) w') :
    EO P n ⟨some d, .call ⟨.builtin .append, #[x, y], #[t, tn]⟩, ty, pos, af, gd⟩ K D e w := by
  subst hki
  obtain ⟨v', w', hrun, h2, h3⟩ := run_append_zeros (ty := ty) hu hn hs hz hby hown hk hbase
  refine EO_val (w' := w') (fun ρ hρ => ?_) rfl hd (h v' w' h2 h3)
  simp [execOp, resolve, hρ x _ hx, hρ y _ hy, invoke, builtin, hrun]
end
end Go.EW
