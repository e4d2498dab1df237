/- drydocklaw11.TreeBack walked. -/
import Derived.Test.YtifmdcjncbbcgaaTreeS
set_option linter.unusedVariables false
set_option linter.unusedSimpArgs false
set_option maxRecDepth 100000
namespace Go.Proofs.Ytifmdcjncbbcgaa
open Go.EW Go.RowKit

/-- writes as cells -/
def RC (w : World) (B : Nat) : List (Int × List UInt8) → List Value → Prop
  | [], [] => True
  | (a, l) :: r, x :: y :: t => (x = .int .i64 a ∧ ∃ Ay cy, y = .slice Ay l.length cy ∧ l.length ≤ cy ∧ BS w Ay l ∧ ∀ g i, Ay = some ⟨g, i, none⟩ → 0 < l.length → g < B) ∧ RC w B r t
  | _, _ => False
theorem RC.len {w : World} {B : Nat} : ∀ {L : List (Int × List UInt8)} {xs : List Value}, RC w B L xs → xs.length = L.length * 2
  | [], [], _ => rfl
  | (a, l) :: r, x :: y :: t, h => by have := RC.len h.2; simp only [List.length_cons]; omega
theorem RC.one {w : World} {B : Nat} : ∀ {L : List (Int × List UInt8)} {xs : List Value}, RC w B L xs → ∀ u ∈ xs, u.oneCell' = true
  | [], [], _, u, hu => by cases hu
  | (a, l) :: r, x :: y :: t, h, u, hu => by
    obtain ⟨⟨rfl, Ay, cy, rfl, _⟩, h2⟩ := h
    rcases List.mem_cons.1 hu with rfl | hu
    · rfl
    · rcases List.mem_cons.1 hu with rfl | hu
      · rfl
      · exact RC.one h2 u hu
theorem RC.app {w : World} {B : Nat} {M : List (Int × List UInt8)} {ys : List Value} (hM : RC w B M ys) : ∀ {L : List (Int × List UInt8)} {xs : List Value}, RC w B L xs → RC w B (L ++ M) (xs ++ ys)
  | [], [], _ => hM
  | (a, l) :: r, x :: y :: t, h => ⟨h.1, RC.app hM h.2⟩
theorem RC.mods {w w' : World} {B : Nat} {S : Nat → Prop} (hm : Mods S w w') (hS : ∀ i, i < B → ¬ S i) : ∀ {L : List (Int × List UInt8)} {xs : List Value}, RC w B L xs → RC w' B L xs
  | [], [], _ => trivial
  | (a, l) :: r, x :: y :: t, h => by
    obtain ⟨⟨h1, Ay, cy, h2, h3, h4, h5⟩, h6⟩ := h
    refine ⟨⟨h1, Ay, cy, h2, h3, ⟨h4.1, fun h0 => ?_⟩, h5⟩, RC.mods hm hS h6⟩
    obtain ⟨g, i, hA, hc⟩ := h4.2 h0
    exact ⟨g, i, hA, hm.cells hc (hS g (h5 g i hA h0))⟩
theorem RC.at_ {w : World} {B : Nat} : ∀ {L : List (Int × List UInt8)} {xs : List Value}, RC w B L xs → ∀ (k : Nat) (hk : k < L.length), ∃ Ay cy, xs[k * 2]? = some (.int .i64 L[k].1) ∧ xs[k * 2 + 1]? = some (.slice Ay L[k].2.length cy) ∧ L[k].2.length ≤ cy ∧ BS w Ay L[k].2 ∧ ∀ g i, Ay = some ⟨g, i, none⟩ → 0 < L[k].2.length → g < B
  | (a, l) :: r, x :: y :: t, h, 0, _ => by
    obtain ⟨⟨rfl, Ay, cy, rfl, h3⟩, _⟩ := h
    exact ⟨Ay, cy, rfl, rfl, h3⟩
  | (a, l) :: r, x :: y :: t, h, k + 1, hk => by
    obtain ⟨Ay, cy, h1, h2, h3⟩ := RC.at_ h.2 k (by simpa using hk)
    refine ⟨Ay, cy, ?_, ?_, h3⟩
    · rw [show (k + 1) * 2 = k * 2 + 1 + 1 from by omega]
      simpa using h1
    · rw [show (k + 1) * 2 + 1 = k * 2 + 1 + 1 + 1 from by omega]
      simpa using h2
theorem rc_of {w : World} {B g : Nat} : ∀ (L : List (Int × List UInt8)) (o : Nat), (∀ k (hk : k < L.length), ∃ Ay cy, Cells w g (o + k * 2) #[.int .i64 L[k].1, .slice Ay L[k].2.length cy] ∧ L[k].2.length ≤ cy ∧ BS w Ay L[k].2 ∧ ∀ g' i', Ay = some ⟨g', i', none⟩ → 0 < L[k].2.length → g' < B) →
    ∃ xs, RC w B L xs ∧ Cells w g o xs.toArray
  | [], o, _ => ⟨[], trivial, fun j v hj => by simp at hj⟩
  | (a, l) :: r, o, h => by
    obtain ⟨Ay, cy, h1, h2⟩ := h 0 (by simp)
    obtain ⟨xs, h3, h4⟩ := rc_of r (o + 2) fun k hk => by
      obtain ⟨Az, cz, k1, k2⟩ := h (k + 1) (by simpa using hk)
      refine ⟨Az, cz, ?_, k2⟩
      rw [show o + 2 + k * 2 = o + (k + 1) * 2 from by omega]
      exact k1
    refine ⟨.int .i64 a :: .slice Ay l.length cy :: xs, ⟨⟨rfl, Ay, cy, rfl, h2⟩, h3⟩, fun j v hj => ?_⟩
    match j, hj with
    | 0, hj => exact h1 0 v hj
    | 1, hj => exact h1 1 v hj
    | j + 2, hj =>
      have := h4 j v (by simpa using hj)
      rw [show o + (j + 2) = o + 2 + j from by omega]
      exact this
theorem RW.rc {w : World} {B : Nat} {A : Option Addr} {L : List (Int × List UInt8)} (h : RW w B A L) : ∃ xs, RC w B L xs ∧ EW.Src w A L.length 2 xs := by
  by_cases h0 : 0 < L.length
  · obtain ⟨g, o, hA, _, hc⟩ := h h0
    obtain ⟨xs, h1, h2⟩ := rc_of L o hc
    exact ⟨xs, h1, h1.len, fun _ => ⟨g, o, hA, h2⟩⟩
  · have : L = [] := List.eq_nil_of_length_eq_zero (by omega)
    subst this
    exact ⟨[], trivial, rfl, fun h => absurd h (by simp)⟩
theorem RC.rw {w : World} {B base : Nat} {A : Option Addr} {c : Nat} {L : List (Int × List UInt8)} {xs : List Value} (h : RC w B L xs) (hB : B ≤ w.heap.size) (ho : w.ownsRow base 59 2 (.slice A L.length c) L.length xs) : RW w w.heap.size A L := fun h0 => by
  obtain ⟨g, cap, cur, hv, _, hg, _, _, _, ht⟩ := own_form ho h0
  injection hv with e1 _ _
  subst e1
  refine ⟨g, 0, rfl, hg.lt, fun k hk => ?_⟩
  obtain ⟨Ay, cy, h1, h2, h3, h4, h5⟩ := h.at_ k hk
  have hat : ∀ (j : Nat) (u : Value), xs[j]? = some u → cur[0 + j]? = some u := by
    intro j u hu
    rw [← ht, List.getElem?_take] at hu
    split at hu
    · rw [Nat.zero_add]; simpa using hu
    · cases hu
  refine ⟨Ay, cy, hg.cells _ _ fun j v hj => ?_, h3, h4, fun g' i' hA h0' => by have := h5 g' i' hA h0'; omega⟩
  rcases (by have := (Array.getElem?_eq_some_iff.1 hj).1; simp at this; omega : j = 0 ∨ j = 1) with rfl | rfl
  · rw [Nat.add_zero, hat _ _ h1]; exact hj
  · rw [Nat.add_assoc, hat _ _ h2]; exact hj
theorem RC.wide {w : World} {B B' : Nat} (hB : B ≤ B') : ∀ {L : List (Int × List UInt8)} {xs : List Value}, RC w B L xs → RC w B' L xs
  | [], [], _ => trivial
  | (a, l) :: r, x :: y :: t, h => by
    obtain ⟨⟨h1, Ay, cy, h2, h3, h4, h5⟩, h6⟩ := h
    exact ⟨⟨h1, Ay, cy, h2, h3, h4, fun g i hA h0 => by have := h5 g i hA h0; omega⟩, RC.wide hB h6⟩
/-- an argument: writes -/
structure WArg (w : World) (A : Option Addr) (L : List (Int × List UInt8)) : Prop where
  rw : RW w w.heap.size A L
  len : L.length * 32 ≤ 140737488351232
set_option maxHeartbeats 1000000 in
theorem back_walk {w : World} {A A' A2 : Option Addr} {ks fs : List Int} {c c' c2 : Nat} {M : List (Int × List UInt8)} (h : Arg w A ks c) (h' : Arg w A' fs c') (hM : WArg w A2 M) :
    Ret Try.prog 5 [.slice A ks.length c, .slice A' fs.length c', .slice A2 M.length c2] w fun v w' => v = .bool true ∧ Mods No w w' := by
  have hp1 := plan_any (c := c) (c' := c') h.is h.lt h.le h.len h'.spot h'.is h'.lt h'.le h'.len
  have hWl := planW_len ks fs
  by_cases he : planE ks fs = 0
  · have P := planned_of he
    have hN : planN ks fs = nodeC ks (planG ks fs) (planB ks fs) := by rw [planN, if_pos he]
    have hW : planW ks fs = planL ks fs := by rw [planW, if_pos he]
    have hbk := fun {w' : World} {A : Option Addr} {c : Nat} (hk : RW w' w'.heap.size A (planL ks fs ++ M)) => back_ok (c := c) he hk (by rw [List.length_append, P.length]; have := need_le ks; have := hM.len; omega)
    have hpb : ptrsB ks = true := by simp [ptrsB, P.good, P.len]
    have hnd := fun {w' : World} (hm : Mods No w w') => need_ok (c := c) (h.is.no hm) h.le h.len
    rw [hpb] at hnd
    simp only [if_true] at hnd
    have hplen := P.length
    have hnl := need_le ks
    have hfl := P.fl
    rw [hN, hW, he] at hp1
    obtain ⟨L, hL⟩ : ∃ L, L = planL ks fs := ⟨_, rfl⟩
    obtain ⟨G, hG⟩ : ∃ G, G = planG ks fs := ⟨_, rfl⟩
    obtain ⟨Bv, hBv⟩ : ∃ Bv, Bv = planB ks fs := ⟨_, rfl⟩
    rw [← hL] at hplen
    rw [← hL, ← hG, ← hBv] at hp1
    simp only [← hL, ← hG, ← hBv] at hbk
    have hMl := hM.len
    refine Ret.enter Try.func5 rfl Try.ntmps5 rfl ?_
    simp only [argEnv, Nat.reduceAdd]
    refine E_seqR ?_
    refine EL_val (R_assign rfl) rfl rfl rfl ?_
    refine EL_nil ?_
    refine E_seqR ?_
    refine EL_val (R_move rfl) rfl rfl rfl ?_
    refine EL_val (R_move rfl) rfl rfl rfl ?_
    refine EL_step rfl ?_
    refine EO_call K.bd11 rfl rfl (hp1) ?_
    rintro _ w1 ⟨⟨Aw, cw, rfl, hW1⟩, hm1⟩
    refine EL_val (R_move rfl) rfl rfl rfl ?_
    refine EL_val (R_extract rfl rfl) rfl rfl rfl ?_
    refine EL_val (R_extract rfl rfl) rfl rfl rfl ?_
    refine EL_val (R_extract rfl rfl) rfl rfl rfl ?_
    refine EL_step rfl ?_
    refine EO_alloc K.zr32 rfl ?_
    intro w2 hn2
    refine EL_step rfl ?_
    refine EO_storeWhole hn2.bk rfl rfl K.sz32 rfl rfl ?_
    intro w3 hu3
    (have hm03 : Mods No w w3 := (hm1.trans hn2.mods).trans' hu3.mods (fun k hk e => by have := hm1.size; omega))
    refine EL_val (R_assign rfl) rfl rfl rfl ?_
    refine EL_val (R_assign rfl) rfl rfl rfl ?_
    refine EL_nil ?_
    refine E_seq ?_
    refine E_seqR ?_
    refine EL_step rfl ?_
    refine EO_call K.bd9 rfl rfl (awake_ok) ?_
    rintro _ w4 ⟨rfl, hm4⟩
    refine EL_val (R_not rfl) rfl rfl rfl ?_
    refine EL_val (R_move rfl) rfl rfl rfl ?_
    first | refine EL_val (R_move rfl) rfl rfl rfl ?_ | refine EL_not rfl rfl rfl ?_
    first | refine EL_val (R_neq_t rfl rfl (by omega)) rfl rfl rfl ?_ | refine EL_val (R_neq_f rfl rfl (by omega)) rfl rfl rfl ?_ | refine EL_not rfl rfl rfl ?_
    first | refine EL_val (R_pick_t rfl rfl) rfl rfl rfl ?_ | refine EL_val (R_pick_f rfl rfl) rfl rfl rfl ?_
    refine EL_nil ?_
    refine E_cond_f rfl ?_
    refine E_skip ?_
    refine thenQ_n ?_
    refine E_seqR ?_
    refine EL_val (R_move rfl) rfl rfl rfl ?_
    refine EL_step rfl ?_
    refine EO_call K.bd7 rfl rfl (hnd (hm03.trans hm4)) ?_
    rintro _ w5 ⟨rfl, hm5⟩
    refine EL_val (R_move rfl) rfl rfl rfl ?_
    refine EL_val (R_extract rfl rfl) rfl rfl rfl ?_
    refine EL_val (R_extract rfl rfl) rfl rfl rfl ?_
    refine EL_val (R_assign rfl) rfl rfl rfl ?_
    refine EL_val (R_assign rfl) rfl rfl rfl ?_
    refine EL_nil ?_
    have hb5 := hm5.bk' (hm4.bk' hu3.bk)
    have hm05 : Mods No w w5 := (hm03.trans hm4).trans hm5
    have hs5 := hm05.size
    have hW5 : RW w5 w1.heap.size Aw L := ((((hW1.no hn2.mods).mods hu3.mods fun i hi e => by omega).no hm4).no hm5)
    have hM5 : RW w5 w.heap.size A2 M := hM.rw.no hm05
    have hs01 := hm1.size
    have hs15 : w1.heap.size ≤ w5.heap.size := by have := hn2.size; have := hu3.size; have := hm4.size; have := hm5.size; omega
    clear hW1 hn2 hu3 hm4 hm5 hm03
    obtain ⟨xs, hxs, hsx⟩ := hW5.rc
    obtain ⟨ys, hys, hsy⟩ := hM5.rc
    have hxl := hxs.len
    have hyl := hys.len
    have hcat : RC w5 w1.heap.size (L ++ M) (xs ++ ys) := RC.app (hys.wide hs01) hxs
    have e0 : 0 + L.length + M.length = (L ++ M).length := by rw [List.length_append]; omega
    have htl : (fs.take (needS ks)).length = needS ks := by simp; omega
    have hsp' := h'.spot
    have hle' := h'.le
    obtain ⟨b7, hb7⟩ : ∃ b7, b7 = w1.heap.size := ⟨_, rfl⟩
    rw [← hb7] at hb5 hcat hs15 ⊢
    refine E_seqD (fun _ => [(6, fun W => Cells W b7 0 (nodeC ks G Bv))]) 14 K.mix rfl ?_
    intro w6 hm6 hh6
    (have hb6 := hm6.bk' hb5)
    refine EA_loadAgg 0 0 [6, 7, 8, 9, 10, 11, 12, 13] rfl rfl K.ag32 rfl K.sz32 (by kernel_rfl) (by kernel_rfl) rfl rfl ?_
    refine EA_pure 2 rfl (fun _ => R_move rfl) (by kernel_rfl) rfl rfl rfl ?_
    refine EA_pure 4 rfl (fun _ => R_move rfl) (by kernel_rfl) rfl rfl rfl ?_
    refine EA_one 1 rfl (by kernel_rfl) rfl ⟨fun _ => whole_cells hb6, trivial⟩ ?_
    refine EO_buildSlice0 Try.underlying33 K.sz59 rfl ?_
    intro w7 hn7
    (have ho7 : w7.ownsRow w6.heap.size 59 2 (.slice (some ⟨w6.heap.size, 0, none⟩) 0 0) 0 [] := hn7.own0 (m := 0) rfl (Nat.le_refl _) (by simp only [maxLen]; omega); have hs7 := hn7.size)
    refine EA_one 3 rfl (by kernel_rfl) rfl ⟨fun _ => whole_cells (hn7.mods.bk' hb6), trivial⟩ ?_
    refine EO_append rfl rfl Try.underlying33 K.sz59 K.zr59 K.by59 rfl (by decide) ho7 (Src.mods hsx (hm6.trans hn7.mods) fun _ _ _ h => h) hxs.one (by simp only [maxLen]; omega) (by omega) (by omega) rfl ?_
    intro v8 w8 ho8 hm8 hat8
    (have hm68 : Mods No w6 w8 := own_newer ho7 hn7.mods hm8; have hs8 := hm68.size)
    refine EA_one 5 rfl (by kernel_rfl) rfl ⟨fun _ => whole_cells (hm68.bk' hb6), trivial⟩ ?_
    refine EO_append rfl rfl Try.underlying33 K.sz59 K.zr59 K.by59 rfl (by decide) ho8 (Src.mods hsy (hm6.trans hm68) fun _ _ _ h => h) hys.one (by simp only [maxLen]; omega) (by omega) (by omega) rfl ?_
    intro v9 w9 ho9 hm9 hat9
    (have hm69 : Mods No w6 w9 := own_newer ho8 hm68 hm9; have ho9' : w9.ownsRow w6.heap.size 59 2 v9 (L ++ M).length (xs ++ ys) := (by rw [← e0]; simpa using ho9); obtain ⟨A9, c9, rfl, _, _⟩ := own_sl ho9'; have hm59 := hm6.trans hm69)
    refine EA_one 6 rfl (by kernel_rfl) rfl ⟨fun _ => whole_cells (hm69.bk' hb6), trivial⟩ ?_
    refine EO_call K.bd15 rfl rfl (hbk ((hcat.mods hm59 fun _ _ h => h).rw (by have := hm59.size; omega) ho9')) ?_
    rintro _ w10 ⟨⟨vp, vo, rfl, hop, hoo⟩, hm10⟩
    refine EA_pure 7 rfl (fun _ => R_move rfl) (by kernel_rfl) rfl rfl rfl ?_
    refine EA_pure 8 rfl (fun _ => R_extract rfl rfl) (by kernel_rfl) rfl rfl rfl ?_
    refine EA_pure 9 rfl (fun _ => R_extract rfl rfl) (by kernel_rfl) rfl rfl rfl ?_
    refine EA_pure 10 rfl (fun _ => R_extract rfl rfl) (by kernel_rfl) rfl rfl rfl ?_
    refine EA_pure 11 rfl (fun _ => R_assign rfl) (by kernel_rfl) rfl rfl rfl ?_
    refine EA_pure 12 rfl (fun _ => R_assign rfl) (by kernel_rfl) rfl rfl rfl ?_
    refine EA_pure 13 rfl (fun _ => R_assign rfl) (by kernel_rfl) rfl rfl rfl ?_
    refine EA_done (by kernel_rfl) (Holds.done (by kernel_rfl)) ?_
    have hoo' : w10.ownsRow w9.heap.size 3 1 vo (needS ks) (ival (fs.take (needS ks))) := by have := hoo; unfold OI at this; rw [htl] at this; exact this
    obtain ⟨Ao, co, rfl, _, _⟩ := own_sl hoo'
    obtain ⟨Ap, cp, rfl, _, _⟩ := hop.sl
    have hm010 : Mods No w w10 := (hm05.trans hm59).trans hm10
    have htrl : (trimS ks).length ≤ 1000 := by have := P.len; simp [trimS]; omega
    have hlast := fun {w' : World} (hm : Mods No w10 w') => ints_ok (l := fs.take (needS ks)) (c := co) (c' := c') (OI.is (hoo.no hm)) ((h'.is.no (hm010.trans hm)).take (needS ks)) (by rw [htl]; omega)
    rw [htl] at hlast
    have hlen96 := P.len
    refine E_seqR ?_
    refine EL_val (R_move rfl) rfl rfl rfl ?_
    first | refine EL_val (R_eql_t rfl rfl (by omega)) rfl rfl rfl ?_ | refine EL_val (R_eql_f rfl rfl (by omega)) rfl rfl rfl ?_
    refine EL_val (R_move rfl) rfl rfl rfl ?_
    first | refine EL_val (R_move rfl) rfl rfl rfl ?_ | refine EL_not rfl rfl rfl ?_
    first | refine EL_val (R_eql_t rfl rfl (by omega)) rfl rfl rfl ?_ | refine EL_val (R_eql_f rfl rfl (by omega)) rfl rfl rfl ?_ | refine EL_not rfl rfl rfl ?_
    first | refine EL_val (R_pick_t rfl rfl) rfl rfl rfl ?_ | refine EL_val (R_pick_f rfl rfl) rfl rfl rfl ?_
    refine EL_val (R_move rfl) rfl rfl rfl ?_
    first | refine EL_val (R_move rfl) rfl rfl rfl ?_ | refine EL_not rfl rfl rfl ?_
    first | refine EL_val (R_move rfl) rfl rfl rfl ?_ | refine EL_not rfl rfl rfl ?_
    first | refine EL_val (R_lenSlice rfl Try.underlying33) rfl rfl rfl ?_ | refine EL_not rfl rfl rfl ?_
    first | refine EL_val (R_eql_t rfl rfl (by omega)) rfl rfl rfl ?_ | refine EL_val (R_eql_f rfl rfl (by omega)) rfl rfl rfl ?_ | refine EL_not rfl rfl rfl ?_
    first | refine EL_val (R_pick_t rfl rfl) rfl rfl rfl ?_ | refine EL_val (R_pick_f rfl rfl) rfl rfl rfl ?_
    refine EL_val (R_move rfl) rfl rfl rfl ?_
    first | refine EL_val (R_move rfl) rfl rfl rfl ?_ | refine EL_not rfl rfl rfl ?_
    first | refine EL_val (R_move rfl) rfl rfl rfl ?_ | refine EL_not rfl rfl rfl ?_
    refine EL_step rfl ?_
    refine EO_call K.bd17 rfl rfl (rtrim_ok h.spot (h.is.no hm010) h.le (by omega)) ?_
    rintro vt w11 ⟨hot, hm11⟩
    (obtain ⟨At, ct, rfl, _, hist⟩ := hot.sl)
    refine EL_step rfl ?_
    refine EO_call K.bd16 rfl rfl (ints_ok (OI.is (hop.no hm11)) hist (by omega)) ?_
    rintro _ w12 ⟨rfl, hm12⟩
    first | refine EL_val (R_pick_t rfl rfl) rfl rfl rfl ?_ | refine EL_val (R_pick_f rfl rfl) rfl rfl rfl ?_
    refine EL_val (R_move rfl) rfl rfl rfl ?_
    first | refine EL_val (R_move rfl) rfl rfl rfl ?_ | refine EL_not rfl rfl rfl ?_
    first | refine EL_val (R_move rfl) rfl rfl rfl ?_ | refine EL_not rfl rfl rfl ?_
    first | refine EL_val (R_move rfl) rfl rfl rfl ?_ | refine EL_not rfl rfl rfl ?_
    first | refine EL_val (R_sliceH (needS ks) (by omega) (by omega) rfl rfl Try.underlying22 K.sz3 (by first | (rintro _ ⟨⟩ <;> rfl) | assumption)) rfl rfl rfl ?_ | refine EL_not rfl rfl rfl ?_
    refine EL_step rfl ?_
    refine EO_call K.bd16 rfl rfl (hlast (hm11.trans hm12)) ?_
    rintro _ w13 ⟨rfl, hm13⟩
    first | refine EL_val (R_pick_t rfl rfl) rfl rfl rfl ?_ | refine EL_val (R_pick_f rfl rfl) rfl rfl rfl ?_
    refine EL_val (R_assign rfl) rfl rfl rfl ?_
    refine EL_nil ?_
    refine E_ret ?_
    refine ret1 (.inr rfl) rfl rfl ?_
    exact ⟨rfl, hm010.trans ((hm11.trans hm12).trans hm13)⟩
  · have hN : planN ks fs = nodeZ := by rw [planN, if_neg he]
    have hW : planW ks fs = [] := by rw [planW, if_neg he]
    rw [hN, hW] at hp1
    refine Ret.enter Try.func5 rfl Try.ntmps5 rfl ?_
    simp only [argEnv, Nat.reduceAdd]
    refine E_seqR ?_
    refine EL_val (R_assign rfl) rfl rfl rfl ?_
    refine EL_nil ?_
    refine E_seqR ?_
    refine EL_val (R_move rfl) rfl rfl rfl ?_
    refine EL_val (R_move rfl) rfl rfl rfl ?_
    refine EL_step rfl ?_
    refine EO_call K.bd11 rfl rfl (hp1) ?_
    rintro _ w1 ⟨⟨Aw, cw, rfl, hW1⟩, hm1⟩
    refine EL_val (R_move rfl) rfl rfl rfl ?_
    refine EL_val (R_extract rfl rfl) rfl rfl rfl ?_
    refine EL_val (R_extract rfl rfl) rfl rfl rfl ?_
    refine EL_val (R_extract rfl rfl) rfl rfl rfl ?_
    refine EL_step rfl ?_
    refine EO_alloc K.zr32 rfl ?_
    intro w2 hn2
    refine EL_step rfl ?_
    refine EO_storeWhole hn2.bk rfl rfl K.sz32 rfl rfl ?_
    intro w3 hu3
    refine EL_val (R_assign rfl) rfl rfl rfl ?_
    refine EL_val (R_assign rfl) rfl rfl rfl ?_
    refine EL_nil ?_
    refine E_seq ?_
    refine E_seqR ?_
    refine EL_step rfl ?_
    refine EO_call K.bd9 rfl rfl (awake_ok) ?_
    rintro _ w4 ⟨rfl, hm4⟩
    refine EL_val (R_not rfl) rfl rfl rfl ?_
    refine EL_val (R_move rfl) rfl rfl rfl ?_
    first | refine EL_val (R_move rfl) rfl rfl rfl ?_ | refine EL_not rfl rfl rfl ?_
    first | refine EL_val (R_neq_t rfl rfl (he)) rfl rfl rfl ?_ | refine EL_val (R_neq_f rfl rfl (he)) rfl rfl rfl ?_ | refine EL_not rfl rfl rfl ?_
    first | refine EL_val (R_pick_t rfl rfl) rfl rfl rfl ?_ | refine EL_val (R_pick_f rfl rfl) rfl rfl rfl ?_
    refine EL_nil ?_
    refine E_cond_t rfl ?_
    refine E_seqR ?_
    refine EL_step rfl ?_
    refine EO_call K.bd9 rfl rfl (awake_ok) ?_
    rintro _ w5 ⟨rfl, hm5⟩
    refine EL_val (R_move rfl) rfl rfl rfl ?_
    first | refine EL_val (R_move rfl) rfl rfl rfl ?_ | refine EL_not rfl rfl rfl ?_
    first | refine EL_val (R_lenSlice rfl Try.underlying33) rfl rfl rfl ?_ | refine EL_not rfl rfl rfl ?_
    first | refine EL_val (R_eql_t rfl rfl (rfl)) rfl rfl rfl ?_ | refine EL_val (R_eql_f rfl rfl (rfl)) rfl rfl rfl ?_ | refine EL_not rfl rfl rfl ?_
    first | refine EL_val (R_pick_t rfl rfl) rfl rfl rfl ?_ | refine EL_val (R_pick_f rfl rfl) rfl rfl rfl ?_
    refine EL_val (R_assign rfl) rfl rfl rfl ?_
    refine EL_nil ?_
    refine E_ret ?_
    refine thenQ_r ?_
    refine ret1 (.inr rfl) rfl rfl ?_
    exact ⟨rfl, (((hm1.trans hn2.mods).trans' hu3.mods fun k hk e => by have := hm1.size; omega).trans hm4).trans hm5⟩
end Go.Proofs.Ytifmdcjncbbcgaa
