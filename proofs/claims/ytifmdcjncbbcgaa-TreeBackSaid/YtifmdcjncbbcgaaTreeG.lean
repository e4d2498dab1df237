/- What a plan is: plain facts (packages tree, drydockref11). -/
import Derived.Test.YtifmdcjncbbcgaaTreeF
set_option linter.unusedVariables false
set_option linter.unusedSimpArgs false
set_option maxRecDepth 100000
namespace Go.EW
open Go.RowKit
section
variable {P : Program} {n : Nat} {D : List Deferred} {e : Env} {w : World}
theorem ret_ctt {fn : Func} {R : Value → World → Prop} {t u s : Tmp} {T : TypeId} {g i : Nat} {cs : Array Value} {v v' : Value} {x : Exit} (hx : x = .normal ∨ x = .ret) (hr : fn.results = #[.cell t T, .tmp u, .tmp s]) (ht : lk e t = some (.pointer (some ⟨g, i, none⟩))) (hu : lk e u = some v) (hs : lk e s = some v')
    (hag : aggT P T = some true) (hsz : sizeOfT P T = some cs.size) (hc : Cells w g i cs) (h : R (.tuple #[.agg cs, v, v']) w) : bodyQ P fn R x [] e w :=
  ⟨hx, rfl, _, fun tmps htm => by
    have hl : (loadCells ⟨g, i, none⟩ cs.toList.length).run P w = .ok cs.toList.toArray w :=
      run_loadCells_list (P := P) w ⟨g, i, none⟩ cs.toList (fun j v hv => by rw [add_none]; exact hc j v (by simpa using hv))
    simp only [Array.length_toList, Array.toArray_toList] at hl
    have h0 := htm s _ hs
    have h1 := htm t _ ht
    have h2 := htm u _ hu
    simp [results, hr, h0, h1, h2, asAddr, loadVar, run_aggT hag, run_sizeOfT hsz, hl], h⟩
end
theorem whole_cells {w : World} {g : Nat} {C : Array Value} {t : TypeId} (h : Bk w g C t) : Cells w g 0 C := h.cells 0 _ fun j v hj => by rw [Nat.zero_add]; exact hj
end Go.EW
namespace Go.Proofs.Ytifmdcjncbbcgaa
open Go.EW Go.RowKit

theorem someS_iff {ks : List Int} {a n : Nat} : someS ks a n = true ↔ ∃ i, i < n ∧ ks.getD (a + i) 0 ≠ 0 := by
  unfold someS partS
  rw [List.any_eq_true]
  constructor
  · rintro ⟨x, hx, hn⟩
    obtain ⟨i, hi, rfl⟩ := List.mem_map.1 hx
    exact ⟨i, by simpa using hi, by simpa [nzI] using hn⟩
  · rintro ⟨i, hi, hn⟩
    exact ⟨_, List.mem_map.2 ⟨i, by simpa using hi, rfl⟩, by simpa [nzI] using hn⟩
theorem getD_lt {ks : List Int} {i : Nat} (h : ks.getD i 0 ≠ 0) : i < ks.length := by
  rcases Nat.lt_or_ge i ks.length with h' | h'
  · exact h'
  · rw [List.getD_eq_getElem?_getD, List.getElem?_eq_none h'] at h; exact absurd rfl h
theorem cnt_pos {ks : List Int} : ∀ {k : Nat}, 0 < cntS ks k ↔ ∃ j, j < k ∧ someS ks (34 + 30 * j) 30 = true
  | 0 => by simp [cntS]
  | k + 1 => by
    rw [cntS]
    constructor
    · intro h
      by_cases hs : someS ks (34 + 30 * k) 30 = true
      · exact ⟨k, by omega, hs⟩
      · rw [if_neg hs] at h
        obtain ⟨j, hj, hjs⟩ := cnt_pos.1 (by omega : 0 < cntS ks k)
        exact ⟨j, by omega, hjs⟩
    · rintro ⟨j, hj, hjs⟩
      by_cases he : j = k
      · subst he; rw [if_pos hjs]; omega
      · have := (cnt_pos (ks := ks) (k := k)).2 ⟨j, by omega, hjs⟩
        omega
theorem some34 {ks : List Int} (h96 : ks.length ≤ 96) {n : Nat} (hn : 62 ≤ n) : someS ks 34 n = decide (0 < cntS ks 3) := by
  rw [Bool.eq_iff_iff, someS_iff, decide_eq_true_iff, cnt_pos]
  constructor
  · rintro ⟨i, _, h⟩
    have := getD_lt h
    refine ⟨i / 30, by omega, someS_iff.2 ⟨i % 30, by omega, ?_⟩⟩
    rwa [show 34 + 30 * (i / 30) + i % 30 = 34 + i from by omega]
  · rintro ⟨j, hj, hs⟩
    obtain ⟨i, hi, h⟩ := someS_iff.1 hs
    have := getD_lt h
    exact ⟨30 * j + i, by omega, by rwa [show 34 + (30 * j + i) = 34 + 30 * j + i from by omega]⟩
theorem cntS_mono {ks : List Int} {i j : Nat} (h : i ≤ j) : cntS ks i ≤ cntS ks j := by
  induction j with
  | zero => have : i = 0 := by omega
            subst this; exact Nat.le_refl _
  | succ j ih =>
    by_cases he : i = j + 1
    · subst he; exact Nat.le_refl _
    · have := ih (by omega)
      rw [cntS]; omega
/-- the pages that lie under a double block: those of the first k parts; its pointers -/
def undW (ks fs : List Int) (n : Nat) : Nat → List (Int × List UInt8)
  | 0 => []
  | k + 1 => undW ks fs n k ++ (if someS ks (34 + 30 * k) 30 then [(fs.getD (n + cntS ks k) 0, pageC (partS ks (34 + 30 * k) 30))] else [])
def undP (ks fs : List Int) (n : Nat) : Nat → List Int
  | 0 => []
  | k + 1 => undP ks fs n k ++ [if someS ks (34 + 30 * k) 30 then fs.getD (n + cntS ks k) 0 else 0]
theorem undW_length (ks fs : List Int) (n : Nat) : ∀ k, (undW ks fs n k).length = cntS ks k
  | 0 => rfl
  | k + 1 => by
    rw [undW, List.length_append, undW_length ks fs n k, cntS]
    split <;> rfl
theorem undP_length (ks fs : List Int) (n : Nat) : ∀ k, (undP ks fs n k).length = k
  | 0 => rfl
  | k + 1 => by rw [undP, List.length_append, undP_length ks fs n k]; rfl
theorem undW_rest {ks fs : List Int} {n k : Nat} (h : ks.length ≤ 34 + 30 * k) : ∀ d, undW ks fs n (k + d) = undW ks fs n k
  | 0 => rfl
  | d + 1 => by
    rw [show k + (d + 1) = (k + d) + 1 from rfl, undW, undW_rest h d, if_neg, List.append_nil]
    rw [someS, partS_none (by omega)]; simp
theorem undP_rest {ks fs : List Int} {n k : Nat} (h : ks.length ≤ 34 + 30 * k) : ∀ d, undP ks fs n (k + d) = undP ks fs n k ++ List.replicate d 0
  | 0 => by simp
  | d + 1 => by
    rw [show k + (d + 1) = (k + d) + 1 from rfl, undP, undP_rest h d, if_neg, List.append_assoc, List.replicate_succ']
    rw [someS, partS_none (by omega)]; simp
theorem pageC_zeros {l : List Int} {z : Nat} (h : l.length + z ≤ 30) : pageC (l ++ List.replicate z 0) = pageC l := by
  have hz : flatB (List.replicate z 0) = zerosB (z * 2) := by
    induction z with
    | zero => rfl
    | succ z ih =>
      rw [List.replicate_succ, flatB, List.flatMap_cons, ← flatB, ih (by omega)]
      show zerosB 2 ++ zerosB (z * 2) = _
      simp only [zerosB, List.replicate_append_replicate]
      congr 1; omega
  unfold pageC sealR
  have hl := flatB_length l
  have e : flatB (l ++ List.replicate z 0) ++ zerosB (60 - (flatB (l ++ List.replicate z 0)).length) = flatB l ++ zerosB (60 - (flatB l).length) := by
    rw [flatB_app, hz, List.length_append, List.append_assoc]
    congr 1
    simp only [zerosB, List.length_replicate, List.replicate_append_replicate]
    congr 1
    omega
  rw [e]
theorem good_small {ks : List Int} (h : Good ks) : Small ks := fun x hx => by
  obtain ⟨i, hi, rfl⟩ := List.getElem_of_mem hx
  by_cases h0 : ks[i] = 0
  · omega
  · have := dataI_iff.1 (h i hi h0).1
    omega
theorem part_small {ks : List Int} (h : Small ks) (a n : Nat) : Small (partS ks a n) := fun x hx => by
  simp only [partS, List.mem_map] at hx
  obtain ⟨i, _, rfl⟩ := hx
  rcases Nat.lt_or_ge (a + i) ks.length with hlt | hge
  · rw [List.getD_eq_getElem?_getD, List.getElem?_eq_getElem hlt]
    exact h _ (List.getElem_mem hlt)
  · rw [List.getD_eq_getElem?_getD, List.getElem?_eq_none hge]
    simp
theorem und_small {ks fs : List Int} {n m : Nat} (h : FreshTo ks fs m) : ∀ k, n + cntS ks k ≤ m → Small (undP ks fs n k)
  | 0, _ => fun x hx => by simp [undP] at hx
  | k + 1, hm => fun x hx => by
    have hc : cntS ks k ≤ cntS ks (k + 1) := cntS_mono (by omega)
    rw [undP, List.mem_append] at hx
    rcases hx with hx | hx
    · exact und_small h k (by omega) x hx
    · rw [List.mem_singleton] at hx
      subst hx
      split
      · rename_i hs
        have hc1 : cntS ks (k + 1) = cntS ks k + 1 := by rw [cntS, if_pos hs]
        rcases Nat.lt_or_ge (n + cntS ks k) fs.length with hlt | hge
        · rw [List.getD_eq_getElem?_getD, List.getElem?_eq_getElem hlt]
          have := dataI_iff.1 (h _ hlt (by omega)).1
          simp only [Option.getD_some]
          omega
        · rw [List.getD_eq_getElem?_getD, List.getElem?_eq_none hge]
          simp
      · omega
/-- the places of writes are the first of the fresh blocks -/
def PL (L : List (Int × List UInt8)) (fs : List Int) : Prop := L.map (·.1) = fs.take L.length
theorem PL.snoc {L : List (Int × List UInt8)} {fs : List Int} (h : PL L fs) (hl : L.length < fs.length) (l : List UInt8) : PL (L ++ [(fs.getD L.length 0, l)]) fs := by
  unfold PL at h ⊢
  rw [List.map_append, h, List.length_append, List.length_singleton, List.take_succ_eq_append_getElem hl, List.map_singleton, List.getD_eq_getElem?_getD, List.getElem?_eq_getElem hl]
  rfl
theorem PL.new {L : List (Int × List UInt8)} {ks fs : List Int} {m : Nat} (h : PL L fs) (hl : L.length < fs.length) (hf : FreshTo ks fs m) (hm : L.length < m) : fs.getD L.length 0 ≠ 0 ∧ ∀ p ∈ L, p.1 ≠ fs.getD L.length 0 := by
  obtain ⟨h1, h2, _⟩ := hf L.length hl hm
  rw [List.getD_eq_getElem?_getD, List.getElem?_eq_getElem hl, Option.getD_some]
  refine ⟨by have := dataI_iff.1 h1; omega, fun p hp e => h2 ?_⟩
  rw [← e]
  unfold PL at h
  rw [← h]
  exact List.mem_map.2 ⟨p, hp, rfl⟩
theorem fillS_zero (L : List (Int × List UInt8)) (l : List Int) : fillS L 0 l = L := by
  unfold fillS
  simp
theorem fillS_other {L : List (Int × List UInt8)} {a : Int} {l : List Int} (h : ∀ p ∈ L, p.1 ≠ a) : fillS L a l = L := by
  unfold fillS
  conv => rhs; rw [← List.map_id L]
  apply List.map_congr_left
  intro p hp
  rw [if_neg (fun hh => h p hp hh.1)]
  rfl
theorem fillS_new {L : List (Int × List UInt8)} {a : Int} {l : List Int} {b : List UInt8} (h0 : a ≠ 0) (h : ∀ p ∈ L, p.1 ≠ a) : fillS (L ++ [(a, b)]) a l = L ++ [(a, pageC l)] := by
  have := fillS_other (l := l) h
  unfold fillS at this ⊢
  rw [List.map_append, this]
  simp [h0]
def oneL (fs : List Int) (n : Nat) (b : Bool) (l : List UInt8) : List (Int × List UInt8) := if b then [(fs.getD n 0, l)] else []
theorem oneL_length (fs : List Int) (n : Nat) (b : Bool) (l : List UInt8) : (oneL fs n b l).length = (if b then 1 else 0) := by unfold oneL; split <;> rfl
theorem PL.one {L : List (Int × List UInt8)} {fs : List Int} (h : PL L fs) (b : Bool) (hl : b = true → L.length < fs.length) (l : List UInt8) : PL (L ++ oneL fs L.length b l) fs := by
  cases b with
  | true => exact h.snoc (hl rfl) l
  | false => unfold oneL; simpa using h
theorem fill_one {L : List (Int × List UInt8)} {ks fs : List Int} {m : Nat} (h : PL L fs) (hf : FreshTo ks fs m) {b : Bool} (hl : b = true → L.length < fs.length ∧ L.length < m) (l : List Int) :
    fillS (L ++ oneL fs L.length b []) (if b then fs.getD L.length 0 else 0) l = L ++ oneL fs L.length b (pageC l) := by
  cases b with
  | true =>
    obtain ⟨h1, h2⟩ := hl rfl
    obtain ⟨h3, h4⟩ := h.new h1 hf h2
    exact fillS_new h3 h4
  | false => simp [oneL, fillS_zero]
/-! ### what a plan is -/
def s1S (ks : List Int) : Bool := someS ks 4 30
def b1S (ks : List Int) : Bool := decide (0 < cntS ks 3)
def n1S (ks : List Int) : Nat := if s1S ks then 1 else 0
def n2S (ks : List Int) : Nat := n1S ks + (if b1S ks then 1 else 0)
def planL (ks fs : List Int) : List (Int × List UInt8) := oneL fs 0 (s1S ks) (pageC (partS ks 4 30)) ++ oneL fs (n1S ks) (b1S ks) (pageC (undP ks fs (n2S ks) 3)) ++ undW ks fs (n2S ks) 3
def planG (ks fs : List Int) : Int := if s1S ks then fs.getD 0 0 else 0
def planB (ks fs : List Int) : Int := if b1S ks then fs.getD (n1S ks) 0 else 0
def planE (ks fs : List Int) : Int := if ptrsB ks then freshE ks fs (needS ks) else 1
theorem need_n2 (ks : List Int) : needS ks = n2S ks + cntS ks 3 := by
  unfold needS n2S n1S b1S s1S
  by_cases h : 0 < cntS ks 3
  · simp only [h, if_true, decide_true]; omega
  · have : cntS ks 3 = 0 := by omega
    simp [this]
def nodeC (ks : List Int) (s b : Int) : Array Value := #[.int .i64 0, .int .i64 1, .int .i64 0, .int .i64 0, .int .i64 (ks.getD (0 + 0) 0), .int .i64 (ks.getD (0 + 1) 0), .int .i64 (ks.getD (0 + 2) 0), .int .i64 (ks.getD (0 + 3) 0), .int .i64 s, .int .i64 b, .slice none 0 0, .int .i64 0]
def nodeZ : Array Value := #[.int .i64 0, .int .i64 0, .int .i64 0, .int .i64 0, .int .i64 0, .int .i64 0, .int .i64 0, .int .i64 0, .int .i64 0, .int .i64 0, .slice none 0 0, .int .i64 0]
/-- what a plan answers -/
def PlanR (ks fs : List Int) (B : Nat) (v : Value) (w : World) : Prop :=
  if planE ks fs = 0 then ∃ vw xs, v = .tuple #[.agg (nodeC ks (planG ks fs) (planB ks fs)), vw, .int .i64 0] ∧ w.ownsRow B 59 2 vw (planL ks fs).length xs ∧ WLo w B (planL ks fs) xs
  else v = .tuple #[.agg nodeZ, .slice none 0 0, .int .i64 (planE ks fs)]
theorem PL.left {L R : List (Int × List UInt8)} {fs : List Int} (h : PL (L ++ R) fs) : PL L fs := by
  unfold PL at h ⊢
  have := congrArg (List.take L.length) h
  rw [List.map_append, List.take_append_of_le_length (by simp), List.take_of_length_le (by simp), List.take_take, List.length_append, Nat.min_eq_left (by omega)] at this
  exact this
theorem PL.und {L : List (Int × List UInt8)} {ks fs : List Int} {n : Nat} (h : PL L fs) (hn : L.length = n) : ∀ k, n + cntS ks k ≤ fs.length → PL (L ++ undW ks fs n k) fs
  | 0, _ => by simpa [undW] using h
  | k + 1, hk => by
    have hc : cntS ks k ≤ cntS ks (k + 1) := cntS_mono (by omega)
    have ih := PL.und h hn (ks := ks) k (by omega)
    have hq : (L ++ undW ks fs n k).length = n + cntS ks k := by rw [List.length_append, undW_length, hn]
    have := ih.one (someS ks (34 + 30 * k) 30) (fun hs => by
      have hc1 : cntS ks (k + 1) = cntS ks k + 1 := by rw [cntS, if_pos hs]
      omega) (pageC (partS ks (34 + 30 * k) 30))
    rw [hq, List.append_assoc] at this
    exact this
theorem fill_mid {L R : List (Int × List UInt8)} {ks fs l : List Int} {m : Nat} (h : PL (L ++ [(fs.getD L.length 0, [])] ++ R) fs) (hf : FreshTo ks fs m) (hm : (L ++ [(fs.getD L.length 0, [])] ++ R).length ≤ m) (hl : (L ++ [(fs.getD L.length 0, [])] ++ R).length ≤ fs.length) :
    fillS (L ++ [(fs.getD L.length 0, [])] ++ R) (fs.getD L.length 0) l = L ++ [(fs.getD L.length 0, pageC l)] ++ R := by
  simp only [List.length_append, List.length_singleton] at hm hl
  have h1 := h.left.left
  obtain ⟨h2, h3⟩ := h1.new (by omega) hf (by omega)
  have hR : ∀ p ∈ R, p.1 ≠ fs.getD L.length 0 := fun p hp e => by
    obtain ⟨j, hj, rfl⟩ := List.getElem_of_mem hp
    have hget := congrArg (fun q : List Int => q[L.length + 1 + j]?) h
    simp only [PL, List.map_append, List.map_singleton] at hget
    rw [List.getElem?_append_right (by simp)] at hget
    simp only [List.length_append, List.length_map, List.length_singleton, Nat.add_sub_cancel_left] at hget
    rw [List.getElem?_take_of_lt (by omega), List.getElem?_map, List.getElem?_eq_getElem hj, List.getElem?_eq_getElem (by omega)] at hget
    simp only [Option.map_some, Option.some.injEq] at hget
    have hx := (hf (L.length + 1 + j) (by omega) (by omega)).2.1
    rw [← hget, e] at hx
    refine hx ?_
    rw [List.getD_eq_getElem?_getD, List.getElem?_eq_getElem (by omega : L.length < fs.length), Option.getD_some]
    refine List.mem_iff_getElem.2 ⟨L.length, by simp; omega, by simp⟩
  have e1 := fillS_new (l := l) (b := []) h2 h3
  have e2 := fillS_other (l := l) hR
  unfold fillS at e1 e2 ⊢
  rw [List.map_append, e1, e2]
theorem need_le (ks : List Int) : needS ks ≤ 5 := by have := cntS_le ks 3; unfold needS; split <;> split <;> omega
theorem reserve_any {w : World} {B m : Nat} {A : Option Addr} {c : Nat} {fs : List Int} {vw : Value} {L : List (Int × List UInt8)} {xs : List Value} (h : MK w B m A c fs vw L xs) (hB : B ≤ w.heap.size) (hk : IS w A fs) {b : Bool} (hL : b = true → L.length < fs.length) (hL2 : L.length ≤ 1000) :
    Ret Try.prog 25 [ptr m, .bool b] w fun v w' => v = .int .i64 (if b then fs.getD L.length 0 else 0) ∧ (∃ vw' xs', MK w' B m A c fs vw' (L ++ oneL fs L.length b []) xs') ∧ TM MKT B w w' := by
  cases b with
  | true =>
    have hl := hL rfl
    have hg : fs.getD L.length 0 = fs[L.length] := by rw [List.getD_eq_getElem?_getD, List.getElem?_eq_getElem hl]; rfl
    refine Ret.mono (reserve_ok h hB hk hl hL2) ?_
    rintro v w' ⟨h1, h2, h3⟩
    rw [← hg] at h1 h2
    exact ⟨h1, h2, h3⟩
  | false =>
    refine Ret.mono reserve_no ?_
    rintro v w' ⟨rfl, rfl⟩
    refine ⟨rfl, ⟨vw, xs, ?_⟩, TM.refl⟩
    simpa [oneL] using h
end Go.Proofs.Ytifmdcjncbbcgaa
