/- Pages of pointers; a maker of writes (packages tree, drydockref11). -/
import Derived.Test.YtifmdcjncbbcgaaTreeE
set_option linter.unusedVariables false
set_option linter.unusedSimpArgs false
set_option maxRecDepth 100000
namespace Go.Proofs.Ytifmdcjncbbcgaa
open Go.EW Go.RowKit

def flatB (ks : List Int) : List UInt8 := ks.flatMap fun x => leB x.toNat 2
theorem flatB_length (ks : List Int) : (flatB ks).length = ks.length * 2 := by
  induction ks with
  | nil => rfl
  | cons a r ih => simp only [flatB, List.flatMap_cons, List.length_append, leB_length, List.length_cons] at ih ⊢; omega
theorem flatB_app (a b : List Int) : flatB (a ++ b) = flatB a ++ flatB b := by simp [flatB]
def pageC (ks : List Int) : List UInt8 := sealR (flatB ks)
def Small (ks : List Int) : Prop := ∀ x ∈ ks, 0 ≤ x ∧ x < 65536
theorem setN_flat {ks : List Int} (hx : Small ks) (h30 : ks.length ≤ 30) : ∀ i, i ≤ ks.length → setN (zerosB 64) 0 2 ks i = flatB (ks.take i) ++ zerosB (64 - i * 2)
  | 0, _ => rfl
  | i + 1, hi => by
    have ih := setN_flat hx h30 i (by omega)
    have hlt : i < ks.length := by omega
    have hxi := hx ks[i] (List.getElem_mem hlt)
    have hfl : (flatB (ks.take i)).length = i * 2 := by rw [flatB_length, List.length_take, Nat.min_eq_left (by omega)]
    rw [setN, ih, putAt, numB_length, numB, List.getD_eq_getElem?_getD, List.getElem?_eq_getElem hlt, Option.getD_some, Nat.zero_add, List.take_succ_eq_append_getElem hlt, flatB_app]
    have h1 : (flatB (ks.take i) ++ zerosB (64 - i * 2)).take (i * 2) = flatB (ks.take i) := by
      rw [List.take_append_of_le_length (by omega), List.take_of_length_le (by omega)]
    have h2 : (flatB (ks.take i) ++ zerosB (64 - i * 2)).drop (i * 2 + 2) = zerosB (64 - (i + 1) * 2) := by
      rw [List.drop_append, List.drop_eq_nil_of_le (by omega), hfl, List.nil_append]
      simp only [zerosB, List.drop_replicate]
      congr 1
      omega
    rw [h1, h2]
    congr 1
    congr 1
    simp only [flatB, List.flatMap_cons, List.flatMap_nil, List.append_nil]
    rw [Int.emod_eq_of_lt (by omega) (by omega)]
theorem pageC_eq {ks : List Int} (hx : Small ks) (h30 : ks.length ≤ 30) : sealS (setS (zerosB 64) 0 2 ks) = pageC ks := by
  unfold pageC setS
  rw [sealR_eq (m := setN (zerosB 64) 0 2 ks ks.length) (by rw [setN_flat hx h30 _ (Nat.le_refl _), List.take_length, flatB_length]) (by rw [flatB_length]; omega)]
theorem page_ok {w : World} {A : Option Addr} {ks : List Int} {c : Nat} (hk : IS w A ks) (hA : ∀ g i, A = some ⟨g, i, none⟩ → g < w.heap.size) (h30 : ks.length ≤ 30) (hx : Small ks) :
    Ret Try.prog 40 [.slice A ks.length c] w fun v w' => OB w.heap.size w' v (pageC ks) ∧ Mods No w w' := by
  have hnp := newpage_ok (w := w) (l := []) (by simp)
  refine Ret.enter Try.func40 rfl Try.ntmps40 rfl ?_
  simp only [argEnv, Nat.reduceAdd]
  refine E_seqR ?_
  refine EL_val (R_assign rfl) rfl rfl rfl ?_
  refine EL_nil ?_
  refine E_seqR ?_
  refine EL_step rfl ?_
  refine EO_call K.bd49 rfl rfl (hnp) ?_
  rintro _ w1 ⟨p, rfl, hp, hm1⟩
  refine EL_val (R_move rfl) rfl rfl rfl ?_
  refine EL_step rfl ?_
  refine EO_call K.bd50 rfl rfl (pageset_ok (ks := ks) (a := 0) (size := 2) hp (hk.no hm1) (fun g i hg => ⟨by have := hm1.size; have := hA g i hg; omega, fun hf => by have := hA g i hg; have := hf.1; omega⟩) (by omega) (by omega) (by omega) (by omega) (by omega)) ?_
  rintro _ w2 ⟨rfl, hp2, hm2⟩
  refine EL_step rfl ?_
  refine EO_call K.bd51 rfl rfl (pageseal_ok hp2) ?_
  rintro v3 w3 ⟨ho3, hm3⟩
  refine EL_val (R_assign rfl) rfl rfl rfl ?_
  refine EL_nil ?_
  refine E_ret ?_
  refine ret1 (.inr rfl) rfl rfl ?_
  have e : (([] : List UInt8) ++ zerosB (64 - ([] : List UInt8).length)) = zerosB 64 := rfl
  rw [e, pageC_eq hx h30] at ho3
  have hm12 := TM.no_of hm1 hm2 (Nat.le_refl _)
  exact ⟨own_mono ho3 hm12.size, hm12.trans hm3⟩
theorem rpage_ok {w : World} {A : Option Addr} {ks : List Int} {c : Nat} (hk : IS w A ks) (hA : ∀ g i, A = some ⟨g, i, none⟩ → g < w.heap.size) (h30 : ks.length ≤ 30) (hx : Small ks) :
    Ret Try.prog 29 [.slice A ks.length c] w fun v w' => OB w.heap.size w' v (pageC ks) ∧ Mods No w w' := by
  obtain ⟨B, hB⟩ : ∃ B, B = w.heap.size := ⟨_, rfl⟩
  refine Ret.enter Try.func29 rfl Try.ntmps29 rfl ?_
  simp only [argEnv, Nat.reduceAdd]
  refine E_seqR ?_
  refine EL_val (R_assign rfl) rfl rfl rfl ?_
  refine EL_nil ?_
  refine E_seqR ?_
  refine EL_step rfl ?_
  refine EO_buildSlice0 Try.underlying56 K.sz5 rfl ?_
  intro w1 hn1
  refine EL_val (R_assign rfl) rfl rfl rfl ?_
  refine EL_nil ?_
  refine E_seq ?_
  refine E_seqR ?_
  refine EL_val (R_assign rfl) rfl rfl rfl ?_
  refine EL_nil ?_
  refine E_block ?_
  rw [← hB]
  refine E_loop (fun m' e' w' => ∃ i u, i ≤ ks.length ∧ m' = ks.length - i ∧ e' = [(0, .slice (A) ks.length c), (3, u), (4, .int .i64 ((i : Nat) : Int))] ∧ OB B w' u (flatB (ks.take i)) ∧ Mods No w w') ks.length [(0, .slice (A) ks.length c), (3, .slice (some ⟨B, 0, none⟩) 0 0), (4, .int .i64 ((0 : Nat) : Int))] ⟨rfl, rfl, rfl, trivial⟩
    ⟨0, _, by omega, by omega, rfl, by have := hn1.own0 (base := B) (size := 1) (m := 0) rfl (by omega) (by simp only [maxLen]; omega); rw [← hB] at this; exact this, hn1.mods⟩ ?_
  clear hn1
  rintro m' e w2 ⟨i, u, hi, rfl, rfl, ho, hm⟩
  have hsz := hm.size
  by_cases hlt : i < ks.length
  · obtain ⟨g, o, rfl, hcell⟩ := (hk.no hm).cell hlt
    have hxi := hx ks[i] (List.getElem_mem hlt)
    have hfl : (flatB (ks.take i)).length = i * 2 := by rw [flatB_length, List.length_take, Nat.min_eq_left (by omega)]
    have hput := refput_ok (n := ks[i]) (size := 2) ho (by omega) (by omega) (by omega) (by omega) (by omega)
    refine E_seq ?_
    refine E_seqR ?_
    refine EL_val (R_move rfl) rfl rfl rfl ?_
    refine EL_val (R_move rfl) rfl rfl rfl ?_
    refine EL_val (R_lenSlice rfl Try.underlying22) rfl rfl rfl ?_
    first | refine EL_val (R_lss_t rfl rfl (by omega)) rfl rfl rfl ?_ | refine EL_val (R_lss_f rfl rfl (by omega)) rfl rfl rfl ?_
    refine EL_nil ?_
    refine E_cond_t rfl ?_
    refine E_skip ?_
    refine thenQ_n ?_
    refine E_seq ?_
    refine E_block ?_
    refine E_region ?_
    refine EL_val (R_move rfl) rfl rfl rfl ?_
    refine EL_val (R_move rfl) rfl rfl rfl ?_
    refine EL_val (R_move rfl) rfl rfl rfl ?_
    refine EL_val (R_indexAddr rfl rfl Try.underlying22 K.sz3 (m := i) rfl hlt) rfl rfl rfl ?_
    refine EL_val (R_load rfl K.ag3 ((by rw [Nat.mul_one]; exact hcell))) rfl rfl rfl ?_
    refine EL_step rfl ?_
    refine EO_call K.bd41 rfl rfl (hput) ?_
    rintro v3 w3 ⟨ho3, hm3⟩
    refine EL_val (R_assign rfl) rfl rfl rfl ?_
    refine EL_nil ?_
    refine inB_n ?_
    refine thenQ_n ?_
    refine E_region ?_
    refine EL_val (R_move rfl) rfl rfl rfl ?_
    first | refine EL_val (R_inc rfl (by omega)) rfl rfl rfl ?_ | refine EL_val (R_add_in rfl rfl (by omega) (by omega)) rfl rfl rfl ?_
    refine EL_val (R_assign rfl) rfl rfl rfl ?_
    refine EL_nil ?_
    refine thenQ_n ?_
    refine ⟨rfl, ks.length - (i + 1), [(0, .slice (some ⟨g, o, none⟩) ks.length c), (3, v3), (4, .int .i64 ((i + 1 : Nat) : Int))], by omega, ⟨rfl, rfl, rfl, trivial⟩, i + 1, v3, by omega, rfl, rfl, ?_, TM.no_of hm hm3 (by omega)⟩
    rw [List.take_succ_eq_append_getElem hlt, flatB_app]
    have e : flatB [ks[i]] = leB ks[i].toNat 2 := by simp [flatB]
    rw [e]
    exact ho3
  · have hi' : ks.length = i := by omega
    rw [← hi', List.take_length] at ho
    have hfl := flatB_length ks
    have hsl : ∃ A' c', u = .slice A' (flatB ks).length c' ∧ BS w2 A' (flatB ks) := by
      obtain ⟨A', c', rfl, _, _⟩ := own_sl ho
      exact ⟨A', c', rfl, Src.own ho⟩
    obtain ⟨A', c', rfl, hbs⟩ := hsl
    refine E_seq ?_
    refine E_seqR ?_
    refine EL_val (R_move rfl) rfl rfl rfl ?_
    refine EL_val (R_move rfl) rfl rfl rfl ?_
    refine EL_val (R_lenSlice rfl Try.underlying22) rfl rfl rfl ?_
    first | refine EL_val (R_lss_t rfl rfl (by omega)) rfl rfl rfl ?_ | refine EL_val (R_lss_f rfl rfl (by omega)) rfl rfl rfl ?_
    refine EL_nil ?_
    refine E_cond_f rfl ?_
    refine E_exit ?_
    refine thenQ_e ?_
    refine thenQ_e ?_
    refine inB_eq rfl ?_
    refine thenQ_n ?_
    refine E_seqR ?_
    refine EL_val (R_move rfl) rfl rfl rfl ?_
    refine EL_step rfl ?_
    refine EO_call K.bd42 rfl rfl (refseal_ok (c := c') hbs (by omega)) ?_
    rintro v3 w3 ⟨ho3, hm3⟩
    refine EL_val (R_assign rfl) rfl rfl rfl ?_
    refine EL_nil ?_
    refine E_ret ?_
    refine ret1 (.inr rfl) rfl rfl ?_
    exact ⟨own_mono ho3 (by omega), hm.trans hm3⟩

/-! ### writes of the call's own -/
def WLo (w : World) (B : Nat) : List (Int × List UInt8) → List Value → Prop
  | [], [] => True
  | (a, l) :: r, x :: y :: t => (x = .int .i64 a ∧ OB B w y l) ∧ WLo w B r t
  | _, _ => False
theorem WLo.mods {w w' : World} {B : Nat} {S : Nat → Prop} (hm : Mods S w w') (hs : ∀ g C, Bk w g C 5 → ¬ S g) : ∀ {L : List (Int × List UInt8)} {xs : List Value}, WLo w B L xs → WLo w' B L xs
  | [], [], _ => trivial
  | (a, l) :: r, x :: y :: t, h => ⟨⟨h.1.1, hm.own h.1.2 fun k hk => by obtain ⟨_, cur, hc⟩ := own_blk h.1.2 hk; exact hs k cur hc⟩, WLo.mods hm hs h.2⟩
theorem WLo.snoc {w : World} {B : Nat} {a : Int} {l : List UInt8} {y : Value} (ho : OB B w y l) : ∀ {L : List (Int × List UInt8)} {xs : List Value}, WLo w B L xs → WLo w B (L ++ [(a, l)]) (xs ++ [.int .i64 a, y])
  | [], [], _ => ⟨⟨rfl, ho⟩, trivial⟩
  | (a', l') :: r, x :: z :: t, h => ⟨h.1, WLo.snoc ho h.2⟩
theorem WLo.len {w : World} {B : Nat} : ∀ {L : List (Int × List UInt8)} {xs : List Value}, WLo w B L xs → xs.length = L.length * 2
  | [], [], _ => rfl
  | (a, l) :: r, x :: y :: t, h => by have := WLo.len h.2; simp only [List.length_cons]; omega
theorem WLo.at_ {w : World} {B : Nat} : ∀ {L : List (Int × List UInt8)} {xs : List Value}, WLo w B L xs → ∀ (k : Nat) (hk : k < L.length), ∃ y, xs[k * 2]? = some (.int .i64 L[k].1) ∧ xs[k * 2 + 1]? = some y ∧ OB B w y L[k].2
  | (a, l) :: r, x :: y :: t, h, 0, _ => by
    obtain ⟨⟨rfl, h1⟩, _⟩ := h
    exact ⟨y, rfl, rfl, h1⟩
  | (a, l) :: r, x :: y :: t, h, k + 1, hk => by
    obtain ⟨z, h1, h2, h3⟩ := WLo.at_ h.2 k (by simpa using hk)
    refine ⟨z, ?_, ?_, h3⟩
    · rw [show (k + 1) * 2 = k * 2 + 1 + 1 from by omega]
      simpa using h1
    · rw [show (k + 1) * 2 + 1 = k * 2 + 1 + 1 + 1 from by omega]
      simpa using h2
theorem WLo.set {w : World} {B : Nat} {y : Value} {l : List UInt8} (ho : OB B w y l) : ∀ {L : List (Int × List UInt8)} {xs : List Value}, WLo w B L xs → ∀ (k : Nat) (hk : k < L.length), WLo w B (L.set k (L[k].1, l)) (xs.set (k * 2 + 1) y)
  | (a, l') :: r, x :: y' :: t, h, 0, _ => ⟨⟨h.1.1, ho⟩, h.2⟩
  | (a, l') :: r, x :: y' :: t, h, k + 1, hk => by
    rw [show (k + 1) * 2 + 1 = k * 2 + 1 + 1 + 1 from by omega]
    exact ⟨h.1, WLo.set ho h.2 k (by simpa using hk)⟩
/-- one cell of an owned row is written over -/
theorem own_set {w w' : World} {base g m cap size j : Nat} {E : TypeId} {cur : Array Value} {xs : List Value} {v : Value} (h : w.ownsRow base E size (.slice (some ⟨g, 0, none⟩) m cap) m xs) (hb : Bk w g cur E) (hu : Upd w w' g (cur.setIfInBounds j v) E) (hj : j < m * size) (hm : 0 < m) :
    w'.ownsRow base E size (.slice (some ⟨g, 0, none⟩) m cap) m (xs.set j v) := by
  obtain ⟨g', cap', cur', hv, hbase, hb', h3, h4, h5, h6⟩ := own_form h hm
  injection hv with hA hl hc
  injection hA with hA
  injection hA with hA _ _
  subst hA; subst hc
  obtain ⟨rfl, _⟩ := hb.inj hb'
  refine ⟨by simp [h.1], .inr ⟨g, cap, _, rfl, hbase, hu.bk, h3, h4, by simpa using h5, ?_⟩⟩
  rw [← h6]
  apply List.ext_getElem?
  intro k
  simp only [Array.toList_setIfInBounds, List.getElem?_take, List.getElem?_set, List.length_take, List.length_set]
  have hle : m * size ≤ cap * size := Nat.mul_le_mul_right _ h3
  have hlen : cur.toList.length = cap * size := by simpa using h5
  by_cases hjk : j = k
  · subst hjk
    simp only [hj, if_true]
    rw [if_pos (by omega), if_pos (by omega)]
  · simp [hjk]

/-! ### the maker -/
def MKT (t : TypeId) : Prop := t = 51 ∨ t = 59
instance (t : TypeId) : Decidable (MKT t) := inferInstanceAs (Decidable (_ ∨ _))
structure MK (w : World) (B m : Nat) (A : Option Addr) (c : Nat) (fs : List Int) (vw : Value) (L : List (Int × List UInt8)) (xs : List Value) : Prop where
  bm : Bk w m #[.slice A fs.length c, vw] 51
  ge : B ≤ m
  own : w.ownsRow B 59 2 vw L.length xs
  wl : WLo w B L xs
theorem MK.no {w w' : World} {B m : Nat} {A : Option Addr} {c : Nat} {fs : List Int} {vw : Value} {L : List (Int × List UInt8)} {xs : List Value} (h : MK w B m A c fs vw L xs) (hm : Mods No w w') : MK w' B m A c fs vw L xs :=
  ⟨hm.bk' h.bm, h.ge, hm.own h.own fun _ _ h => h, h.wl.mods hm fun _ _ _ h => h⟩
theorem MK.other {w w' : World} {B m : Nat} {A : Option Addr} {c : Nat} {fs : List Int} {vw : Value} {L : List (Int × List UInt8)} {xs : List Value} {g : Nat} {C C' : Array Value} {t : TypeId} (h : MK w B m A c fs vw L xs) (hu : Upd w w' g C' t) (hb : Bk w g C t) (h1 : t ≠ 51) (h2 : t ≠ 59) (h3 : t ≠ 5) : MK w' B m A c fs vw L xs :=
  ⟨hu.mods.bk h.bm fun e => by subst e; exact h1 (hb.inj h.bm).2, h.ge, own_upd h.own hu hb (fun e => h2 e.symm), h.wl.mods hu.mods fun k C hk e => by subst e; exact h3 (hb.inj hk).2⟩
theorem old_is {w w' : World} {T : TypeId → Prop} {B : Nat} {A : Option Addr} {ks : List Int} (h : IS w A ks) (hA : ∀ g i, A = some ⟨g, i, none⟩ → g < B) (hm : TM T B w w') : IS w' A ks :=
  Src.mods h hm fun g i hg hf => by have := hA g i hg; have := hf.1; omega
theorem reserve_no {w : World} {m : Nat} : Ret Try.prog 25 [ptr m, .bool false] w fun v w' => v = .int .i64 0 ∧ w = w' := by
  refine Ret.enter Try.func25 rfl Try.ntmps25 rfl ?_
  simp only [argEnv, Nat.reduceAdd]
  refine E_seqR ?_
  refine EL_val (R_assign rfl) rfl rfl rfl ?_
  refine EL_nil ?_
  refine E_seq ?_
  refine E_seqR ?_
  refine EL_val (R_move rfl) rfl rfl rfl ?_
  refine EL_val (R_not rfl) rfl rfl rfl ?_
  refine EL_nil ?_
  refine E_cond_t rfl ?_
  refine E_seqR ?_
  refine EL_val (R_assign rfl) rfl rfl rfl ?_
  refine EL_nil ?_
  refine E_ret ?_
  refine thenQ_r ?_
  refine ret1 (.inr rfl) rfl rfl ?_
  exact ⟨rfl, rfl⟩
theorem reserve_ok {w : World} {B m : Nat} {A : Option Addr} {c : Nat} {fs : List Int} {vw : Value} {L : List (Int × List UInt8)} {xs : List Value} (h : MK w B m A c fs vw L xs) (hB : B ≤ w.heap.size) (hk : IS w A fs) (hL : L.length < fs.length) (hL2 : L.length ≤ 1000) :
    Ret Try.prog 25 [ptr m, .bool true] w fun v w' => v = .int .i64 (fs[L.length]'hL) ∧ (∃ vw' xs', MK w' B m A c fs vw' (L ++ [(fs[L.length]'hL, [])]) xs') ∧ TM MKT B w w' := by
  obtain ⟨g, o, rfl, hcell⟩ := hk.cell hL
  obtain ⟨Aw, cw, rfl, _, _⟩ := own_sl h.own
  obtain ⟨a, ha⟩ : ∃ a, a = fs[L.length]'hL := ⟨_, rfl⟩
  rw [← ha] at hcell ⊢
  refine Ret.enter Try.func25 rfl Try.ntmps25 rfl ?_
  simp only [argEnv, Nat.reduceAdd]
  refine E_seqR ?_
  refine EL_val (R_assign rfl) rfl rfl rfl ?_
  refine EL_nil ?_
  refine E_seq ?_
  refine E_seqR ?_
  refine EL_val (R_move rfl) rfl rfl rfl ?_
  refine EL_val (R_not rfl) rfl rfl rfl ?_
  refine EL_nil ?_
  refine E_cond_f rfl ?_
  refine E_skip ?_
  refine thenQ_n ?_
  refine E_seqD (fun w' => [(1000, fun w'' => w'' = w')]) 12 K.mix rfl ?_
  intro w1 hm1 hh1
  refine EA_pure 0 rfl (fun _ => R_move rfl) (by kernel_rfl) rfl rfl rfl ?_
  refine EA_pure 1 rfl (fun _ => R_nilCheck rfl) (by kernel_rfl) rfl rfl rfl ?_
  refine EA_pure 2 rfl (fun _ => R_fieldAddr rfl K.fT51_0) (by kernel_rfl) rfl rfl rfl ?_
  refine EA_still 3 [1000] rfl (R_load rfl K.ag22 ((hm1.bk' h.bm).cell rfl)) rfl (by kernel_rfl) (by kernel_rfl) rfl rfl rfl ?_
  refine EA_pure 4 rfl (fun _ => R_move rfl) (by kernel_rfl) rfl rfl rfl ?_
  refine EA_pure 5 rfl (fun _ => R_nilCheck rfl) (by kernel_rfl) rfl rfl rfl ?_
  refine EA_pure 6 rfl (fun _ => R_fieldAddr rfl K.fT51_1) (by kernel_rfl) rfl rfl rfl ?_
  refine EA_still 7 [1000] rfl (R_load rfl K.ag33 ((hm1.bk' h.bm).cell rfl)) rfl (by kernel_rfl) (by kernel_rfl) rfl rfl rfl ?_
  refine EA_pure 8 rfl (fun _ => R_lenSlice rfl Try.underlying33) (by kernel_rfl) rfl rfl rfl ?_
  refine EA_pure 9 rfl (fun _ => R_indexAddr rfl rfl Try.underlying22 K.sz3 (m := L.length) rfl hL) (by kernel_rfl) rfl rfl rfl ?_
  refine EA_still 10 [1000] rfl (R_load rfl K.ag3 ((by rw [Nat.mul_one]; exact hm1.cell hcell id))) rfl (by kernel_rfl) (by kernel_rfl) rfl rfl rfl ?_
  refine EA_pure 11 rfl (fun _ => R_assign rfl) (by kernel_rfl) rfl rfl rfl ?_
  refine EA_done (by kernel_rfl) ⟨fun _ => rfl, trivial⟩ ?_
  refine E_seqR ?_
  refine EL_val (R_move rfl) rfl rfl rfl ?_
  refine EL_val (R_move rfl) rfl rfl rfl ?_
  refine EL_val (R_nilCheck rfl) rfl rfl rfl ?_
  refine EL_val (R_fieldAddr rfl K.fT51_1) rfl rfl rfl ?_
  refine EL_val (R_load rfl K.ag33 ((hm1.bk' h.bm).cell rfl)) rfl rfl rfl ?_
  refine EL_val (R_move rfl) rfl rfl rfl ?_
  refine EL_val (R_build (cells := #[.int .i64 a, .slice none 0 0]) K.zr59 K.pl59 rfl rfl) rfl rfl rfl ?_
  refine EL_step rfl ?_
  refine EO_buildSlice Try.underlying33 K.zr59 K.sz59 rfl rfl rfl (fill_whole rfl (by rw [size_madeCells])) rfl ?_
  intro w2 hn2
  refine EL_step rfl ?_
  refine EO_append rfl rfl Try.underlying33 K.sz59 K.zr59 K.by59 rfl (by decide) ((hm1.trans hn2.mods).own h.own fun _ _ h => h) (Src.bk hn2.bk 1 2 [.int .i64 a, .slice none 0 0] rfl (fun q' u hq' => by rw [Nat.zero_add]; show (#[.int .i64 a, .slice none 0 0] : Array Value)[q']? = some u; simpa using hq')) (by simp [Value.oneCell']) (by simp only [maxLen]; omega) (by omega) (by have := hm1.size; have := hn2.size; omega) rfl ?_
  intro v3 w3 ho3 hm3 hat3
  (have hm12 := hm1.trans hn2.mods; have how2 := hm12.own h.own (fun _ _ h => h); have hb3 := hm3.bk (hm12.bk' h.bm) (fun e => (by obtain ⟨_, cur, hc⟩ := own_blk how2 e.symm; exact absurd (hc.inj (hm12.bk' h.bm)).2 (by decide))); obtain ⟨A3, c3, rfl, _, _⟩ := own_sl ho3)
  refine EL_val (R_nilCheck rfl) rfl rfl rfl ?_
  refine EL_val (R_fieldAddr rfl K.fT51_1) rfl rfl rfl ?_
  refine EL_step rfl ?_
  refine EO_store1 rfl rfl K.sz33 rfl hb3 (by show 1 < 2; omega) ?_
  intro w4 hu4
  refine EL_nil ?_
  refine E_seqR ?_
  refine EL_val (R_move rfl) rfl rfl rfl ?_
  refine EL_val (R_assign rfl) rfl rfl rfl ?_
  refine EL_nil ?_
  refine E_ret ?_
  refine ret1 (.inr rfl) rfl rfl ?_
  have hwl3 : WLo w3 B (L ++ [(a, [])]) (xs ++ [.int .i64 a, .slice none 0 0]) := ((h.wl.mods hm12 fun _ _ _ h => h).snoc (a := a) (l := []) (y := .slice none 0 0) (show OB B w2 (.slice none 0 0) [] from World.ownsRow_nil _ _ _ _)).mods hm3 fun g C hb e => by
    obtain ⟨_, cur, hc⟩ := own_blk how2 e.symm
    exact absurd (hb.inj hc).2 (by decide)
  have ho3' : w3.ownsRow B 59 2 (.slice A3 (L.length + 1) c3) (L ++ [(a, [])]).length (xs ++ [.int .i64 a, .slice none 0 0]) := by rw [List.length_append]; exact ho3
  refine ⟨rfl, ⟨_, _, ⟨hu4.bk, h.ge, own_upd ho3' hu4 hb3 (by decide), hwl3.mods hu4.mods fun k C hk e => by subst e; exact absurd (hk.inj hb3).2 (by decide)⟩⟩, ?_⟩
  exact ((TM.of_no hm12).trans (TM.self hm3 how2 (Nat.le_refl _) (.inr rfl))).trans (TM.upd hu4 hb3 h.ge (.inl rfl))
def fillS (L : List (Int × List UInt8)) (a : Int) (ks : List Int) : List (Int × List UInt8) := L.map fun p => if p.1 = a ∧ a ≠ 0 then (p.1, pageC ks) else p
def fillTo (L : List (Int × List UInt8)) (a : Int) (ks : List Int) (i : Nat) : List (Int × List UInt8) := fillS (L.take i) a ks ++ L.drop i
theorem fillTo_length (L : List (Int × List UInt8)) (a : Int) (ks : List Int) (i : Nat) : (fillTo L a ks i).length = L.length := by simp [fillTo, fillS]; omega
theorem fillTo_at {L : List (Int × List UInt8)} {a : Int} {ks : List Int} {i : Nat} (h : i < L.length) : (fillTo L a ks i)[i]'(by rw [fillTo_length]; exact h) = L[i] := by
  simp only [fillTo]
  rw [List.getElem_append_right (by simp [fillS]; omega)]
  simp [fillS, Nat.min_eq_left (Nat.le_of_lt h)]
theorem fillTo_succ {L : List (Int × List UInt8)} {a : Int} {ks : List Int} {i : Nat} (h : i < L.length) : fillTo L a ks (i + 1) = (fillTo L a ks i).set i (if L[i].1 = a ∧ a ≠ 0 then (L[i].1, pageC ks) else L[i]) := by
  have hl : (fillS (L.take i) a ks).length = i := by simp [fillS]; omega
  unfold fillTo
  rw [List.take_succ_eq_append_getElem h, List.set_append_right _ _ (by omega), hl, Nat.sub_self, List.drop_eq_getElem_cons h, List.set_cons_zero]
  rw [show fillS (L.take i ++ [L[i]]) a ks = fillS (L.take i) a ks ++ [if L[i].1 = a ∧ a ≠ 0 then (L[i].1, pageC ks) else L[i]] from by simp only [fillS, List.map_append, List.map_cons, List.map_nil], List.append_assoc]
  rfl
theorem fill_ok {w : World} {B m : Nat} {A : Option Addr} {c : Nat} {fs : List Int} {vw : Value} {L : List (Int × List UInt8)} {xs : List Value} (h : MK w B m A c fs vw L xs) (hB : B ≤ w.heap.size) (hL2 : L.length ≤ 1000) {a : Int} {base : Nat} {Al : Option Addr} {cl : Nat} {ks : List Int} (hl : OI base w (.slice Al ks.length cl) ks) (h30 : ks.length ≤ 30) (hx : Small ks) :
    Ret Try.prog 26 [ptr m, .int .i64 a, .slice Al ks.length cl] w fun v w' => (∃ xs', MK w' B m A c fs vw (fillS L a ks) xs') ∧ TM MKT B w w' := by
  obtain ⟨Aw, cw, rfl, _, _⟩ := own_sl h.own
  refine Ret.enter Try.func26 rfl Try.ntmps26 rfl ?_
  simp only [argEnv, Nat.reduceAdd]
  refine E_seqR ?_
  refine EL_val (R_move rfl) rfl rfl rfl ?_
  refine EL_val (R_nilCheck rfl) rfl rfl rfl ?_
  refine EL_val (R_fieldAddr rfl K.fT51_1) rfl rfl rfl ?_
  refine EL_val (R_load rfl K.ag33 (h.bm.cell rfl)) rfl rfl rfl ?_
  refine EL_val (R_lenSlice rfl Try.underlying33) rfl rfl rfl ?_
  refine EL_val (R_move rfl) rfl rfl rfl ?_
  refine EL_nil ?_
  refine E_block ?_
  refine E_loop (fun m' e' w' => ∃ i xs', i ≤ L.length ∧ m' = L.length - i ∧ e' = [(0, ptr m), (1, .int .i64 a), (2, .slice Al ks.length cl), (11, .int .i64 (L.length : Int)), (12, .int .i64 ((i : Nat) : Int))] ∧ MK w' B m A c fs (.slice Aw L.length cw) (fillTo L a ks i) xs' ∧ TM MKT B w w') L.length [(0, ptr m), (1, .int .i64 a), (2, .slice Al ks.length cl), (11, .int .i64 (L.length : Int)), (12, .int .i64 ((0 : Nat) : Int))] ⟨rfl, rfl, rfl, rfl, rfl, trivial⟩ ⟨0, xs, by omega, by omega, rfl, h, TM.refl⟩ ?_
  rintro m' e w2 ⟨i, xs', hi, rfl, rfl, hM, hm⟩
  have hsz := hm.size
  by_cases hlt : i < L.length
  · have hfl := fillTo_length L a ks i
    have hfa := fillTo_at (a := a) (ks := ks) hlt
    obtain ⟨y, hy1, hy2, hy3⟩ := hM.wl.at_ i (by omega)
    have how := hM.own
    rw [hfl] at how
    obtain ⟨gw, cap, cur, hv, hgw, hcur, hcap, hmx, hcs, hct⟩ := own_form how (by omega)
    injection hv with hAw _ hcw
    subst hAw; subst hcw
    have hat : ∀ (j : Nat) (u : Value), xs'[j]? = some u → cur[0 + j]? = some u := by
      intro j u hu
      rw [← hct, List.getElem?_take] at hu
      split at hu
      · rw [Nat.zero_add]; simpa using hu
      · cases hu
    have h1 : w2.cell? ⟨gw, 0 + i * 2 + 0, none⟩ = some (.int .i64 L[i].1) := hcur.cell (by rw [Nat.add_zero]; exact hat _ _ (by rw [hy1, hfa]))
    by_cases hp : L[i].1 = a
    · by_cases h0 : a = 0
      · have hnext : fillTo L a ks (i + 1) = fillTo L a ks i := by
          rw [fillTo_succ hlt, if_neg (fun hh => hh.2 h0)]
          conv => lhs; rw [← hfa]
          exact List.set_getElem_self _

        refine E_seqR ?_
        first | refine EL_val (R_lss_t rfl rfl (by omega)) rfl rfl rfl ?_ | refine EL_val (R_lss_f rfl rfl (by omega)) rfl rfl rfl ?_
        refine EL_nil ?_
        refine E_seq ?_
        refine E_cond_t rfl ?_
        refine E_skip ?_
        refine thenQ_n ?_
        refine E_seq ?_
        refine E_block ?_
        refine E_seqR ?_
        refine EL_val (R_move rfl) rfl rfl rfl ?_
        refine EL_val (R_assign rfl) rfl rfl rfl ?_
        refine EL_nil ?_
        refine E_seqR ?_
        refine EL_val (R_move rfl) rfl rfl rfl ?_
        refine EL_val (R_nilCheck rfl) rfl rfl rfl ?_
        refine EL_val (R_fieldAddr rfl K.fT51_1) rfl rfl rfl ?_
        refine EL_val (R_load rfl K.ag33 (hM.bm.cell rfl)) rfl rfl rfl ?_
        refine EL_val (R_move rfl) rfl rfl rfl ?_
        refine EL_val (R_indexAddr rfl rfl Try.underlying33 K.sz59 (m := i) rfl (by omega)) rfl rfl rfl ?_
        refine EL_val (R_fieldAddr rfl K.fT59_0) rfl rfl rfl ?_
        refine EL_val (R_load rfl K.ag3 (h1)) rfl rfl rfl ?_
        refine EL_val (R_move rfl) rfl rfl rfl ?_
        first | refine EL_val (R_eql_t rfl rfl (by omega)) rfl rfl rfl ?_ | refine EL_val (R_eql_f rfl rfl (by omega)) rfl rfl rfl ?_
        refine EL_val (R_move rfl) rfl rfl rfl ?_
        first | refine EL_val (R_move rfl) rfl rfl rfl ?_ | refine EL_not rfl rfl rfl ?_
        first | refine EL_val (R_neq_t rfl rfl (by omega)) rfl rfl rfl ?_ | refine EL_val (R_neq_f rfl rfl (by omega)) rfl rfl rfl ?_ | refine EL_not rfl rfl rfl ?_
        first | refine EL_val (R_pick_t rfl rfl) rfl rfl rfl ?_ | refine EL_val (R_pick_f rfl rfl) rfl rfl rfl ?_
        refine EL_nil ?_
        refine E_cond_f rfl ?_
        refine E_skip ?_
        refine inB_n ?_
        refine thenQ_n ?_
        refine E_region ?_
        first | refine EL_val (R_inc rfl (by omega)) rfl rfl rfl ?_ | refine EL_val (R_add_in rfl rfl (by omega) (by omega)) rfl rfl rfl ?_
        refine EL_val (R_move rfl) rfl rfl rfl ?_
        refine EL_nil ?_
        refine thenQ_n ?_
        exact ⟨rfl, L.length - (i + 1), [(0, ptr m), (1, .int .i64 a), (2, .slice Al ks.length cl), (11, .int .i64 (L.length : Int)), (12, .int .i64 ((i + 1 : Nat) : Int))], by omega, ⟨rfl, rfl, rfl, rfl, rfl, trivial⟩, i + 1, xs', by omega, rfl, rfl, hnext ▸ hM, hm⟩
      · have hIS : IS w2 Al ks := OI.is (hm.own hl (by decide))
        have hAl : ∀ g i, Al = some ⟨g, i, none⟩ → g < w2.heap.size := fun g i hg => by
          subst hg
          obtain ⟨_, cur, hc⟩ := own_blk hl (g := g) (by
            obtain ⟨A', c', hv', _, _⟩ := own_sl hl
            rcases hl.2 with ⟨hv, _⟩ | ⟨g', cap, cur, hv, _⟩
            · cases hv
            · injection hv with e1 _ _; injection e1 with e1; injection e1 with e1 _ _; subst e1; rfl)
          have := hc.lt
          omega
        have hpg := fun {w' : World} (h : Mods No w2 w') => page_ok (c := cl) (hIS.no h) (fun g i hg => by have := hAl g i hg; have := h.size; omega) h30 hx
        have hnext : fillTo L a ks (i + 1) = (fillTo L a ks i).set i (((fillTo L a ks i)[i]'(by omega)).1, pageC ks) := by
          rw [fillTo_succ hlt, if_pos ⟨hp, h0⟩, hfa]

        refine E_seqR ?_
        first | refine EL_val (R_lss_t rfl rfl (by omega)) rfl rfl rfl ?_ | refine EL_val (R_lss_f rfl rfl (by omega)) rfl rfl rfl ?_
        refine EL_nil ?_
        refine E_seq ?_
        refine E_cond_t rfl ?_
        refine E_skip ?_
        refine thenQ_n ?_
        refine E_seq ?_
        refine E_block ?_
        refine E_seqR ?_
        refine EL_val (R_move rfl) rfl rfl rfl ?_
        refine EL_val (R_assign rfl) rfl rfl rfl ?_
        refine EL_nil ?_
        refine E_seqR ?_
        refine EL_val (R_move rfl) rfl rfl rfl ?_
        refine EL_val (R_nilCheck rfl) rfl rfl rfl ?_
        refine EL_val (R_fieldAddr rfl K.fT51_1) rfl rfl rfl ?_
        refine EL_val (R_load rfl K.ag33 (hM.bm.cell rfl)) rfl rfl rfl ?_
        refine EL_val (R_move rfl) rfl rfl rfl ?_
        refine EL_val (R_indexAddr rfl rfl Try.underlying33 K.sz59 (m := i) rfl (by omega)) rfl rfl rfl ?_
        refine EL_val (R_fieldAddr rfl K.fT59_0) rfl rfl rfl ?_
        refine EL_val (R_load rfl K.ag3 (h1)) rfl rfl rfl ?_
        refine EL_val (R_move rfl) rfl rfl rfl ?_
        first | refine EL_val (R_eql_t rfl rfl (by omega)) rfl rfl rfl ?_ | refine EL_val (R_eql_f rfl rfl (by omega)) rfl rfl rfl ?_
        refine EL_val (R_move rfl) rfl rfl rfl ?_
        first | refine EL_val (R_move rfl) rfl rfl rfl ?_ | refine EL_not rfl rfl rfl ?_
        first | refine EL_val (R_neq_t rfl rfl (by omega)) rfl rfl rfl ?_ | refine EL_val (R_neq_f rfl rfl (by omega)) rfl rfl rfl ?_ | refine EL_not rfl rfl rfl ?_
        first | refine EL_val (R_pick_t rfl rfl) rfl rfl rfl ?_ | refine EL_val (R_pick_f rfl rfl) rfl rfl rfl ?_
        refine EL_nil ?_
        refine E_cond_t rfl ?_
        refine E_regionD (fun _ => [(9, fun W => W.cell? ⟨m, 0 + 1, none⟩ = some (.slice (some ⟨gw, 0, none⟩) L.length cw))]) 10 K.mix rfl ?_
        intro w3 hm3 hh3
        refine EA_pure 0 rfl (fun _ => R_move rfl) (by kernel_rfl) rfl rfl rfl ?_
        refine EA_pure 1 rfl (fun _ => R_nilCheck rfl) (by kernel_rfl) rfl rfl rfl ?_
        refine EA_pure 2 rfl (fun _ => R_fieldAddr rfl K.fT51_1) (by kernel_rfl) rfl rfl rfl ?_
        refine EA_load 3 0 [7, 8, 9] rfl rfl K.ag33 rfl (by kernel_rfl) (by kernel_rfl) rfl rfl ?_
        refine EA_pure 4 rfl (fun _ => R_move rfl) (by kernel_rfl) rfl rfl rfl ?_
        refine EA_pure 5 rfl (fun _ => R_move rfl) (by kernel_rfl) rfl rfl rfl ?_
        refine EA_one 6 rfl (by kernel_rfl) rfl ⟨fun _ => (hm3.bk' hM.bm).cell rfl, trivial⟩ ?_
        refine EO_call K.bd40 rfl rfl (hpg hm3) ?_
        rintro v4 w4 ⟨ho4, hm4⟩
        (obtain ⟨A4, c4, rfl, _, _⟩ := own_sl ho4)
        refine EA_pure 7 rfl (fun _ => R_indexAddr rfl rfl Try.underlying33 K.sz59 (m := i) rfl (by omega)) (by kernel_rfl) rfl rfl rfl ?_
        refine EA_pure 8 rfl (fun _ => R_fieldAddr rfl K.fT59_1) (by kernel_rfl) rfl rfl rfl ?_
        refine EA_one 9 rfl (by kernel_rfl) rfl ⟨fun _ => ((hm3.trans hm4).bk' hM.bm).cell rfl, trivial⟩ ?_
        refine EO_store1 rfl rfl K.sz56 rfl ((hm3.trans hm4).bk' hcur) (by rw [hcs]; omega) ?_
        intro w5 hu5
        refine EA_done (by kernel_rfl) (Holds.done (by kernel_rfl)) ?_
        refine inB_n ?_
        refine thenQ_n ?_
        refine E_region ?_
        first | refine EL_val (R_inc rfl (by omega)) rfl rfl rfl ?_ | refine EL_val (R_add_in rfl rfl (by omega) (by omega)) rfl rfl rfl ?_
        refine EL_val (R_move rfl) rfl rfl rfl ?_
        refine EL_nil ?_
        refine thenQ_n ?_
        have hm25 := hm3.trans hm4
        have hcur4 := hm25.bk' hcur
        have ho4' : OB B w4 (.slice A4 (pageC ks).length c4) (pageC ks) := own_mono ho4 (by have := hm3.size; omega)
        rw [Nat.zero_add] at hu5
        have how5 := own_set (j := i * 2 + 1) (hm25.own how fun _ _ h => h) hcur4 hu5 (by omega) (by omega)
        have hwl5 := ((hM.wl.mods hm25 fun _ _ _ h => h).set ho4' i (by omega)).mods hu5.mods fun k C hk e => by subst e; exact absurd (hk.inj hcur4).2 (by decide)
        refine ⟨rfl, L.length - (i + 1), [(0, ptr m), (1, .int .i64 a), (2, .slice Al ks.length cl), (11, .int .i64 (L.length : Int)), (12, .int .i64 ((i + 1 : Nat) : Int))], by omega, ⟨rfl, rfl, rfl, rfl, rfl, trivial⟩, i + 1, _, by omega, rfl, rfl, ⟨hu5.mods.bk (hm25.bk' hM.bm) (fun e => by subst e; exact absurd ((hm25.bk' hM.bm).inj hcur4).2 (by decide)), h.ge, by rw [hnext, List.length_set, hfl]; exact how5, by rw [hnext]; exact hwl5⟩, hm.trans ((TM.of_no hm25).trans (TM.upd hu5 hcur4 hgw (.inr rfl)))⟩
    · have hnext : fillTo L a ks (i + 1) = fillTo L a ks i := by
        rw [fillTo_succ hlt, if_neg (fun hh => hp hh.1)]
        conv => lhs; rw [← hfa]
        exact List.set_getElem_self _

      refine E_seqR ?_
      first | refine EL_val (R_lss_t rfl rfl (by omega)) rfl rfl rfl ?_ | refine EL_val (R_lss_f rfl rfl (by omega)) rfl rfl rfl ?_
      refine EL_nil ?_
      refine E_seq ?_
      refine E_cond_t rfl ?_
      refine E_skip ?_
      refine thenQ_n ?_
      refine E_seq ?_
      refine E_block ?_
      refine E_seqR ?_
      refine EL_val (R_move rfl) rfl rfl rfl ?_
      refine EL_val (R_assign rfl) rfl rfl rfl ?_
      refine EL_nil ?_
      refine E_seqR ?_
      refine EL_val (R_move rfl) rfl rfl rfl ?_
      refine EL_val (R_nilCheck rfl) rfl rfl rfl ?_
      refine EL_val (R_fieldAddr rfl K.fT51_1) rfl rfl rfl ?_
      refine EL_val (R_load rfl K.ag33 (hM.bm.cell rfl)) rfl rfl rfl ?_
      refine EL_val (R_move rfl) rfl rfl rfl ?_
      refine EL_val (R_indexAddr rfl rfl Try.underlying33 K.sz59 (m := i) rfl (by omega)) rfl rfl rfl ?_
      refine EL_val (R_fieldAddr rfl K.fT59_0) rfl rfl rfl ?_
      refine EL_val (R_load rfl K.ag3 (h1)) rfl rfl rfl ?_
      refine EL_val (R_move rfl) rfl rfl rfl ?_
      first | refine EL_val (R_eql_t rfl rfl (by omega)) rfl rfl rfl ?_ | refine EL_val (R_eql_f rfl rfl (by omega)) rfl rfl rfl ?_
      refine EL_val (R_move rfl) rfl rfl rfl ?_
      refine EL_not rfl rfl rfl ?_
      refine EL_not rfl rfl rfl ?_
      first | refine EL_val (R_pick_t rfl rfl) rfl rfl rfl ?_ | refine EL_val (R_pick_f rfl rfl) rfl rfl rfl ?_
      refine EL_nil ?_
      refine E_cond_f rfl ?_
      refine E_skip ?_
      refine inB_n ?_
      refine thenQ_n ?_
      refine E_region ?_
      first | refine EL_val (R_inc rfl (by omega)) rfl rfl rfl ?_ | refine EL_val (R_add_in rfl rfl (by omega) (by omega)) rfl rfl rfl ?_
      refine EL_val (R_move rfl) rfl rfl rfl ?_
      refine EL_nil ?_
      refine thenQ_n ?_
      exact ⟨rfl, L.length - (i + 1), [(0, ptr m), (1, .int .i64 a), (2, .slice Al ks.length cl), (11, .int .i64 (L.length : Int)), (12, .int .i64 ((i + 1 : Nat) : Int))], by omega, ⟨rfl, rfl, rfl, rfl, rfl, trivial⟩, i + 1, xs', by omega, rfl, rfl, hnext ▸ hM, hm⟩
  · have hi' : i = L.length := by omega

    refine E_seqR ?_
    first | refine EL_val (R_lss_t rfl rfl (by omega)) rfl rfl rfl ?_ | refine EL_val (R_lss_f rfl rfl (by omega)) rfl rfl rfl ?_
    refine EL_nil ?_
    refine E_seq ?_
    refine E_cond_f rfl ?_
    refine E_exit ?_
    refine thenQ_e ?_
    refine thenQ_e ?_
    refine inB_eq rfl ?_
    refine ret0 (.inl rfl) rfl ?_
    refine ⟨⟨xs', ?_⟩, hm⟩
    have e : fillTo L a ks i = fillS L a ks := by rw [hi']; simp [fillTo]
    rw [← e]
    exact hM
end Go.Proofs.Ytifmdcjncbbcgaa
