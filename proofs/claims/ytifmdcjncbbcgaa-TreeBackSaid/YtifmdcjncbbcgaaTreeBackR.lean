/- drydocklaw11.TreeBack returns true for every input; the arguments read as they did. -/
import Derived.Test.YtifmdcjncbbcgaaTreeArg
import Derived.Test.YtifmdcjncbbcgaaTreeT
import Derived.Deep.Slices
set_option linter.unusedVariables false
set_option linter.unusedSimpArgs false
set_option maxRecDepth 100000
namespace Go.Proofs.Ytifmdcjncbbcgaa
open Go.EW Go.RowKit Go.ChangeShapes Go.WideShapes Go.ChangeAt
section
variable {H : Type} {enc : TypeId × Value → H} {w : World} {base : Nat} {spare : Nat → Bool} {held : Bool}
theorem bulk_mem {d : DataW H} : ∀ {l : List (DataW H)}, d ∈ l → Rows.uptoBulk d ≤ Rows.uptoBulkAll l
  | [], h => by cases h
  | x :: r, h => by
    simp only [Rows.uptoBulkAll]
    rcases List.mem_cons.1 h with e | e
    · subst e; omega
    · have := bulk_mem e; omega
theorem bulk_elem {d : DataW H} {l s : List (DataW H)} (h : d ∈ l) : Rows.uptoBulk d ≤ Rows.uptoBulk (.slice l s) := by
  have := bulk_mem h
  simp only [Rows.uptoBulk]
  omega
theorem spot_none {w : World} {a : Addr} {n : Nat} {v : Value} (h : w.cell? (a.add n) = some v) : (a.add n).spot = none := by
  unfold World.cell? at h
  split at h
  · cases hs : (a.add n).spot with
    | none => rfl
    | some x => simp [hs] at h
  · cases h
theorem addr_plain {w : World} {a : Addr} {v : Value} (h : w.cell? (a.add 0) = some v) : a = ⟨a.block, a.off, none⟩ := by
  have := spot_none h
  cases a
  simp [Addr.add] at this
  simp [this]
theorem byte_of_wf {n : Int} (h : (Lit.int .u8 n).wf = true) : 0 ≤ n ∧ n ≤ 255 := by
  simp [Lit.wf, IntKind.min, IntKind.max, IntKind.bits, IntKind.signed] at h
  omega
theorem bytes_open {fuel : Nat} {v : Value} {x : DataW H × List MemPlace} (h : DataW.trod enc Try.prog w base spare held fuel 56 [v] = some x) :
    ∃ A l c, v = .slice A (List.length l) c ∧ BS w A l ∧ l.length ≤ c ∧ l.length ≤ 9223372036854775807 := by
  rcases open_ints Try.underlying56 Try.underlying5 (by kernel_rfl) h with ⟨hcs, _⟩ | ⟨a, len, cap, zs, hcs, _, hl, hm, hz, _, hcell, hwz⟩
  · injection hcs with hv
    exact ⟨none, [], 0, hv, ⟨rfl, fun h0 => by simp at h0⟩, by simp, by simp⟩
  · injection hcs with hv
    have hle : len ≤ zs.length := by rw [hz]; split <;> omega
    refine ⟨some a, (zs.take len).map fun z => UInt8.ofNat z.toNat, cap, by rw [hv]; simp; omega, ⟨by simp [bval], fun h0 => ?_⟩, by simp; omega, by simp [maxLen] at hm ⊢; omega⟩
    have hlen : 0 < len := by simp at h0; omega
    have hc0 := hcell 0 (by omega)
    have ha := addr_plain hc0
    refine ⟨a.block, a.off, by rw [← ha], fun j u hj => ?_⟩
    have hb : j < len := by
      have := (Array.getElem?_eq_some_iff.1 hj).1
      simp [bval] at this
      omega
    have hcj := hcell j (by omega)
    rw [ha, add_none] at hcj
    rw [hcj, ← hj]
    have hwf := byte_of_wf (hwz (zs.getD j 0) (by rw [List.getD_eq_getElem?_getD, List.getElem?_eq_getElem (by omega)]; exact List.getElem_mem _))
    have hzj : zs[j]? = some (zs.getD j 0) := by rw [List.getD_eq_getElem?_getD, List.getElem?_eq_getElem (by omega)]; rfl
    generalize zs.getD j 0 = z at hwf hzj
    have hz' : (UInt8.ofNat z.toNat).toNat = z.toNat := by
      show (BitVec.ofNat 8 z.toNat).toNat = _
      rw [BitVec.toNat_ofNat]
      omega
    simp only [bval, List.getElem?_toArray, List.getElem?_map, List.getElem?_take, if_pos hb, hzj, Option.map_some, Option.some.injEq, Value.int.injEq, true_and, hz']
    omega
/-- a slice opened: each element by R -/
theorem rows_open {α : Type} {t e : TypeId} {size : Nat} (ht : Program.underlying Try.prog t = some (.slice e)) (hC : Program.cellsOf Try.prog e = size) (hs : 0 < size) (R : List Value → α → DataW H → Prop)
    (hR : ∀ fuel cs y, DataW.trod enc Try.prog w base spare held fuel e cs = some y → cs.length = size → ∃ a, R cs a y.1) {fuel : Nat} {v : Value} {x : DataW H × List MemPlace} (h : DataW.trod enc Try.prog w base spare held fuel t [v] = some x) :
    ∃ A l c, v = .slice A (List.length l) c ∧ l.length ≤ 9223372036854775807 ∧ (l = [] ∨ ∃ el sp, x.1 = .slice el sp ∧ el.length = l.length) ∧ (0 < l.length → ∃ g i, A = some ⟨g, i, none⟩ ∧ g < w.heap.size ∧
      ∀ (k : Nat) (hk : k < l.length), ∃ cs y, R cs l[k] y ∧ Rows.uptoBulk y ≤ Rows.uptoBulk x.1 ∧ ∀ (j : Nat) (u : Value), cs[j]? = some u → w.cell? ⟨g, i + k * size + j, none⟩ = some u) := by
  rcases Go.Deep.open_slice ht h with ⟨hcs, _⟩ | ⟨a, len, cap, m, n, D, Pl, hcs, hb, hl, hm, hmm, hxx, hi⟩
  · injection hcs with hv
    exact ⟨none, [], 0, hv, by simp, .inl rfl, fun h0 => by simp at h0⟩
  · injection hcs with hv
    have hlm : len ≤ m := by rw [hmm]; split <;> omega
    have hrow : ∀ i, i < len → ∃ (al : α) (cs : List Value), R cs al (D i) ∧ cs.length = size ∧ ∀ (j : Nat) (u : Value), cs[j]? = some u → w.cell? ((a.add (i * size)).add j) = some u := by
      intro i hil
      obtain ⟨cs', hc, ht⟩ := hi i (by omega)
      rw [hC] at hc
      obtain ⟨_, hcl, hat⟩ := World.cells?_some hc
      obtain ⟨al, hal⟩ := hR _ _ _ ht hcl
      refine ⟨al, cs', hal, hcl, fun j u hj => ?_⟩
      have hjl := (List.getElem?_eq_some_iff.1 hj).1
      rw [hat j (by omega), hj]
    have hex : ∃ L : List α, L.length = len ∧ ∀ (k : Nat) (hk : k < L.length), ∃ cs, R cs L[k] (D k) ∧ cs.length = size ∧ ∀ (j : Nat) (u : Value), cs[j]? = some u → w.cell? ((a.add (k * size)).add j) = some u := by
      clear hl hm hmm hlm hv hi hxx
      induction len with
      | zero => exact ⟨[], rfl, fun k hk => by simp at hk⟩
      | succ q ih =>
        obtain ⟨L, hL, hk⟩ := ih fun i hi => hrow i (by omega)
        obtain ⟨al, cs, h1, h2⟩ := hrow q (by omega)
        refine ⟨L ++ [al], by simp [hL], fun k hkl => ?_⟩
        by_cases hq : k < L.length
        · rw [List.getElem_append_left hq]; exact hk k hq
        · have hkq : k = q := by simp at hkl; omega
          subst hkq
          refine ⟨cs, ?_⟩
          rw [List.getElem_append_right (by omega)]
          simp only [hL, Nat.sub_self, List.getElem_cons_zero]
          exact ⟨h1, h2⟩
    obtain ⟨L, hL, hk⟩ := hex
    have hx1 : x.1 = .slice ((List.range len).map D) ((List.range (m - len)).map fun j => D (len + j)) := by rw [hxx]
    refine ⟨some a, L, cap, by rw [hv, hL], by simp [maxLen] at hm; omega, ?_, fun h0 => ?_⟩
    · exact .inr ⟨_, _, hx1, by simp [hL]⟩
    · obtain ⟨cs0, _, h0l, hc0⟩ := hk 0 h0
      have hc00 := hc0 0 (cs0[0]'(by omega)) (List.getElem?_eq_getElem (by omega))
      rw [Nat.zero_mul] at hc00
      have ha0 : (a.add 0).add 0 = a.add 0 := by simp [Addr.add]
      rw [ha0] at hc00
      have ha := addr_plain hc00
      refine ⟨a.block, a.off, by rw [← ha], ?_, fun k hkl => ?_⟩
      · have := World.block_lt_of_cell? w _ hc00
        simpa [Addr.add] using this
      · obtain ⟨cs, h1, _, h2⟩ := hk k hkl
        refine ⟨cs, D k, h1, ?_, fun j u hj => ?_⟩
        · rw [hx1]
          exact bulk_elem (List.mem_map.2 ⟨k, by simp; omega, rfl⟩)
        · have := h2 j u hj
          rw [ha, add_none, add_none] at this
          exact this
/-- a struct's fields, each of one cell -/
theorem fields_open {t : TypeId} {fs : Array Field} (ht : Program.underlying Try.prog t = some (.struct fs)) {fuel : Nat} {cs : List Value} {x : DataW H × List MemPlace} (h : DataW.trod enc Try.prog w base spare held fuel t cs = some x) :
    ∃ n xs, x.1 = .agg xs ∧ xs.length = fs.size ∧ ∀ (i : Nat) (f : Field), fs[i]? = some f → f.offset = i → Program.cellsOf Try.prog f.type = 1 → ∀ u, cs[i]? = some u → ∃ y, xs[i]? = some y ∧ ∃ p, DataW.trod enc Try.prog w base spare held n f.type [u] = some (y, p) := by
  obtain ⟨xs, n, _, rfl, _, hxl, hf⟩ := DataW.trod_struct ht h
  refine ⟨n, xs.map (·.1), rfl, by simpa using hxl, fun i f hi ho hc u hu => ?_⟩
  have hlt : i < fs.size := (Array.getElem?_eq_some_iff.1 hi).1
  have hil := (List.getElem?_eq_some_iff.1 hu).1
  have g := hf i f hi
  rw [ho, hc] at g
  have e : (cs.drop i).take 1 = [u] := by
    rw [List.getElem?_eq_getElem hil] at hu
    injection hu with hu
    rw [List.drop_eq_getElem_cons hil, hu]
    rfl
  rw [e, List.getElem?_eq_getElem (by omega)] at g
  exact ⟨(xs[i]'(by omega)).1, by simp [List.getElem?_eq_getElem (show i < xs.length by omega)], _, g⟩
theorem two_of {cs : List Value} (h : cs.length = 2) : ∃ a b, cs = [a, b] := by
  match cs, h with
  | [a, b], _ => exact ⟨a, b, rfl⟩
theorem BS.lt {A : Option Addr} {l : List UInt8} (h : BS w A l) (h0 : 0 < l.length) : ∀ g i, A = some ⟨g, i, none⟩ → g < w.heap.size := fun g i hA => by
  obtain ⟨g', i', hA', hc⟩ := h.2 h0
  rw [hA] at hA'
  injection hA' with hA'
  injection hA' with e1 e2 _
  subst e1; subst e2
  have := hc 0 (.int .u8 (l[0].toNat : Int)) (by simp [bval, List.getElem?_eq_getElem h0])
  exact World.block_lt_of_cell? w _ this
/-- one write -/
def WR (w : World) (cs : List Value) (p : Int × List UInt8) (_ : DataW H) : Prop := ∃ Ad cd, cs = [.int .i64 p.1, .slice Ad p.2.length cd] ∧ BS w Ad p.2 ∧ p.2.length ≤ cd
theorem write_open {fuel : Nat} {cs : List Value} {y : DataW H × List MemPlace} (h : DataW.trod enc Try.prog w base spare held fuel 59 cs = some y) (hl : cs.length = 2) : ∃ p, WR w cs p y.1 := by
  obtain ⟨a, b, rfl⟩ := two_of hl
  obtain ⟨n, xs, _, _, hf⟩ := fields_open Try.underlying59 h
  obtain ⟨y0, _, p0, h0⟩ := hf 0 _ rfl rfl (by kernel_rfl) a rfl
  obtain ⟨y1, _, p1, h1⟩ := hf 1 _ rfl rfl (by kernel_rfl) b rfl
  obtain ⟨z, hz, _, _⟩ := DataW.trod_int Try.underlying3 h0
  obtain ⟨A, l, c, hv, hb, hc, _⟩ := bytes_open h1
  have hz' : a = .int .i64 z := by cases hz; rfl
  exact ⟨(z, l), A, c, by rw [hz', hv], hb, hc⟩
theorem writes_open {fuel : Nat} {v : Value} {x : DataW H × List MemPlace} (h : DataW.trod enc Try.prog w base spare held fuel 33 [v] = some x) :
    ∃ A L c, v = .slice A (List.length L) c ∧ RW w w.heap.size A L ∧ (L = [] ∨ ∃ el sp, x.1 = .slice el sp ∧ el.length = L.length) := by
  obtain ⟨A, L, c, hv, h1, h2, h3⟩ := rows_open Try.underlying33 (size := 2) (by kernel_rfl) (by omega) (WR w) (fun _ _ _ h hl => write_open h hl) h
  refine ⟨A, L, c, hv, fun h0 => ?_, h2⟩
  obtain ⟨g, i, hA, hg, hk⟩ := h3 h0
  refine ⟨g, i, hA, hg, fun k hkl => ?_⟩
  obtain ⟨cs, y, ⟨Ad, cd, rfl, hb, hcd⟩, _, hc⟩ := hk k hkl
  exact ⟨Ad, cd, fun j u hj => hc j u (by simpa using hj), hcd, hb, fun g' i' hA' h0' => hb.lt h0' g' i' hA'⟩
end
theorem back_row {H : Type} {enc : TypeId × Value → H} {W : World} {base : Nat} {v0 v1 v2 : Value} {d0 d1 d2 : DataW H} {p0 p1 p2 : List MemPlace} (k0 : Value.okWide Try.prog W .any base 22 v0) (h0 : DataW.Trod enc Try.prog W 0 (fun _ => true) true 22 v0 d0 p0)
    (k1 : Value.okWide Try.prog W .any base 22 v1) (h1 : DataW.Trod enc Try.prog W 0 (fun _ => true) true 22 v1 d1 p1) (k2 : Value.okWide Try.prog W .any base 33 v2) (h2 : DataW.Trod enc Try.prog W 0 (fun _ => true) true 33 v2 d2 p2) (hb : (DataW.weightsEach Try.prog [22, 22, 33] [d0, d1, d2]).all (· ≤ reachBytes) = true) :
    Ret Try.prog 5 [v0, v1, v2] W fun r w' => r = .bool true ∧ Below W.heap.size W w' := by
  obtain ⟨A0, ks, c0, rfl, hk, _⟩ := arg_open k0 h0
  obtain ⟨A1, fs, c1, rfl, hf, _⟩ := arg_open k1 h1
  obtain ⟨A2, n2, c2, rfl⟩ := okWide_slice Try.underlying33 k2
  obtain ⟨f2, h2⟩ := h2
  obtain ⟨B2, L, c2', e2, hL, hLb⟩ := writes_open h2
  rw [e2]
  have hlen : L.length * 32 ≤ 140737488351232 := by
    rcases hLb with rfl | ⟨el, sp, hd, hel⟩
    · simp
    · have h := sized_slice hb (j := 2) rfl (show _ = some (DataW.slice el sp) by show some d2 = _; rw [← hd]) Try.underlying33
      have h32 : Program.bytesOf Try.prog 59 = 32 := by kernel_rfl
      rw [h32] at h
      have : reachBytes = 140737488351232 := rfl
      omega
  exact (back_walk hk hf ⟨hL, hlen⟩).mono fun v w' ⟨h1, h2⟩ => ⟨h1, Mods.below h2 (Nat.le_refl _) fun _ _ h => h⟩
theorem treeBack_own : ownKnob Try.prog.godebug = none := by kernel_rfl
theorem treeBack_laidOut : laidOutB Try.prog = true := by kernel_rfl
set_option maxRecDepth 100000 in
theorem treeBack_lifted (os : Os) (started : os.Started) (H : Type) (enc : TypeId × Value → H) :
    ReturnsInHanded {} Try.checked os 5 .any (Rows.treeBackSpec.pre6 enc Try.prog Try.f5 Rows.treeBackRow.domain false) (Rows.treeBackSpec.post enc Try.prog Try.f5 false true false false) := by
  refine returnsInHanded_of_change_sized (C := Try.checked) treeBack_own started (by kernel_rfl) Try.func5
    (ChangeSpec.witness6 (enc := enc) (C := Try.checked) false ⟨#[], #[.slice none 0 0, .slice none 0 0, .slice none 0 0], []⟩ 8 (by kernel_rfl) (by kernel_rfl) (by kernel_rfl) (by kernel_rfl)) ?_
  intro W base args ds gs before hval0 hW hcnd hsz _
  have hval : ∀ (j : Nat) t v, Try.f5.params[j]? = some t → args[j]? = some v → Value.okWide Try.prog W .any base t v := hval0
  have hW' := hW
  obtain ⟨p, q, hA0, hV, rfl, hfz, hnd⟩ := hW
  have hA : DataW.TrodAll enc Try.prog W 0 (fun _ => true) true Try.f5.params.toList args.toList ds p := hA0
  rw [Try.params5] at hA hval
  obtain ⟨v0, vs0, d0, ds0, p0, q0, hargs, rfl, rfl, h0, r0⟩ := trodAll_cons hA
  obtain ⟨v1, vs1, d1, ds1, p1, q1, rfl, rfl, rfl, h1, r1⟩ := trodAll_cons r0
  obtain ⟨v2, vs2, d2, ds2, p2, q2, rfl, rfl, rfl, h2, r2⟩ := trodAll_cons r1
  obtain ⟨rfl, rfl, rfl⟩ := trodAll_nil r2
  obtain rfl : args = #[v0, v1, v2] := by cases args; simp_all
  obtain ⟨rfl, rfl⟩ := trodVars_none hV
  have lt0 : ∀ x ∈ p0, x.block < W.heap.size := by obtain ⟨m, hm⟩ := h0; exact DataW.trod_lt m _ _ _ hm
  have lt1 : ∀ x ∈ p1, x.block < W.heap.size := by obtain ⟨m, hm⟩ := h1; exact DataW.trod_lt m _ _ _ hm
  have lt2 : ∀ x ∈ p2, x.block < W.heap.size := by obtain ⟨m, hm⟩ := h2; exact DataW.trod_lt m _ _ _ hm
  clear hA0 hval0
  simp only [List.append_nil, Try.params5] at hsz
  refine Calls.mono (back_row (hval 0 22 v0 rfl rfl) h0 (hval 1 22 v1 rfl rfl) h1 (hval 2 33 v2 rfl rfl) h2 hsz) ?_
  rintro x W' ⟨v, rfl, rfl, bel⟩
  exact ⟨_, rfl, _, _, _, [], _, [], hW', trodAll_mk1 (shut_bool Try.underlying4 _), (trodAll_cons_mk (Below.trod treeBack_laidOut (by kernel_rfl) (of_decide_eq_true (by kernel_rfl)) h0 bel lt0) (trodAll_cons_mk (Below.trod treeBack_laidOut (by kernel_rfl) (of_decide_eq_true (by kernel_rfl)) h1 bel lt1) (trodAll_cons_mk (Below.trod treeBack_laidOut (by kernel_rfl) (of_decide_eq_true (by kernel_rfl)) h2 bel lt2) trodAll_mk0))), rfl, bel.frame _, fun h => by cases h⟩
/-- THE STATEMENT -/
theorem treeBack_holds : Rows.TreeBackSaid :=
  OpenClaim.holds_of_wide 5 Try.f5 rfl rfl rfl rfl rfl rfl rfl ⟨rfl, rfl, rfl, rfl, rfl⟩ rfl rfl rfl rfl rfl (by kernel_rfl) Try.func5 (by kernel_rfl)
    (of_decide_eq_true (by kernel_rfl)) (by unfold Func.isWrapper; first | (rw [if_pos (by decide +kernel)]; kernel_rfl) | (rw [if_neg (by decide +kernel)]; exact ⟨rfl, rfl⟩))
    (fun os started H enc _ => treeBack_lifted os started H enc)
#print axioms treeBack_holds
end Go.Proofs.Ytifmdcjncbbcgaa
