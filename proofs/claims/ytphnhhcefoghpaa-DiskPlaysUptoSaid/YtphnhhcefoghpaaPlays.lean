/- 'drydocklaw07.DiskPlays' returns true where what comes in is small (the second form); the arguments read as they did. -/
import Derived.Test.YtphnhhcefoghpaaRefC
import Derived.Test.YtphnhhcefoghpaaActs
import Derived.ChangeOld
import Derived.OpenShut
import Derived.JoinedCond
set_option linter.unusedVariables false
set_option linter.unusedSimpArgs false
set_option maxRecDepth 100000
namespace Go.Proofs.Ytphnhhcefoghpaa
open Go.EW Go.RowKit Go.ChangeShapes Go.WideShapes Go.ChangeAt

structure Actn where
  what : Int
  n : Int
  L : List (Int × List UInt8)
  ks : List Int
def ActsAt (B : Nat) (w : World) (A : Option Addr) (T : List Actn) : Prop := T.length ≤ 9223372036854775807 ∧ (0 < T.length → ∃ g i, A = some ⟨g, i, none⟩ ∧ g < B ∧
  ∀ (k : Nat) (hk : k < T.length), ∃ Aw cw Ak ck, Cells w g (i + k * 4) #[.int .i64 T[k].what, .int .i64 T[k].n, .slice Aw T[k].L.length cw, .slice Ak T[k].ks.length ck] ∧ WritesAt B w Aw T[k].L ∧ IntsAt B w Ak T[k].ks ∧
    T[k].L.length ≤ 1048576 ∧ -9223372036854775808 ≤ T[k].n ∧ T[k].n ≤ 9223372036854775807)
theorem Cells.below {B : Nat} {w w' : World} {g i : Nat} {cs : Array Value} (h : Cells w g i cs) (hg : g < B) (hb : Below B w w') : Cells w' g i cs := fun j v hj => (hb.cell (p := ⟨g, i + j, none⟩) hg).trans (h j v hj)
theorem ActsAt.below {B : Nat} {w w' : World} {A : Option Addr} {T : List Actn} (h : ActsAt B w A T) (hb : Below B w w') : ActsAt B w' A T :=
  ⟨h.1, fun h0 => by
    obtain ⟨g, i, hA, hg, hc⟩ := h.2 h0
    refine ⟨g, i, hA, hg, fun k hk => ?_⟩
    obtain ⟨Aw, cw, Ak, ck, h1, h2, h3, h4⟩ := hc k hk
    exact ⟨Aw, cw, Ak, ck, Cells.below h1 hg hb, h2.below hb, h3.below hb, h4⟩⟩
section
variable {H : Type} {enc : TypeId × Value → H} {w : World} {base : Nat} {spare : Nat → Bool} {held : Bool}
theorem int64_of_wf {n : Int} (h : (Lit.int .i64 n).wf = true) : -9223372036854775808 ≤ n ∧ n ≤ 9223372036854775807 := by
  simp [Lit.wf, IntKind.min, IntKind.max, IntKind.bits, IntKind.signed] at h
  omega
def AR (w : World) (cs : List Value) (a : Actn) (y : DataW H) : Prop := ∃ Aw cw Ak ck, cs = [.int .i64 a.what, .int .i64 a.n, .slice Aw a.L.length cw, .slice Ak a.ks.length ck] ∧ WritesAt w.heap.size w Aw a.L ∧ IntsAt w.heap.size w Ak a.ks ∧
  a.L.length ≤ Rows.uptoBulk y ∧ -9223372036854775808 ≤ a.n ∧ a.n ≤ 9223372036854775807
theorem act_open {fuel : Nat} {cs : List Value} {y : DataW H × List MemPlace} (h : DataW.trod enc Try.prog w base spare held fuel 46 cs = some y) (hl : cs.length = 4) : ∃ a, AR w cs a y.1 := by
  obtain ⟨a, b, e, f, rfl⟩ := four_of hl
  obtain ⟨n, xs, hy, _, hf⟩ := fields_open Try.underlying46 h
  obtain ⟨y0, _, p0, h0⟩ := hf 0 _ rfl rfl (by kernel_rfl) a rfl
  obtain ⟨y1, _, p1, h1⟩ := hf 1 _ rfl rfl (by kernel_rfl) b rfl
  obtain ⟨y2, hy2, p2, h2⟩ := hf 2 _ rfl rfl (by kernel_rfl) e rfl
  obtain ⟨y3, _, p3, h3⟩ := hf 3 _ rfl rfl (by kernel_rfl) f rfl
  obtain ⟨z, hz, _, _⟩ := DataW.trod_int Try.underlying3 h0
  obtain ⟨z', hz', _, hw⟩ := DataW.trod_int Try.underlying3 h1
  obtain ⟨Aw, L, cw, hv, hL, hbulk⟩ := writes_open h2
  obtain ⟨Ak, ks, ck, hv', hk⟩ := ints_open h3
  have e1 : a = .int .i64 z := by cases hz; rfl
  have e2 : b = .int .i64 z' := by cases hz'; rfl
  have := int64_of_wf hw
  refine ⟨⟨z, z', L, ks⟩, Aw, cw, Ak, ck, by rw [e1, e2, hv, hv'], hL, hk, ?_, this.1, this.2⟩
  rw [hy]
  exact Nat.le_trans hbulk (bulk_field hy2)
theorem acts_open {fuel : Nat} {v : Value} {x : DataW H × List MemPlace} (h : DataW.trod enc Try.prog w base spare held fuel 42 [v] = some x) (hb : Rows.uptoBulk x.1 ≤ 1048576) :
    ∃ A T c, v = .slice A (List.length T) c ∧ ActsAt w.heap.size w A T := by
  obtain ⟨A, T, c, hv, h1, h2, h3⟩ := rows_open Try.underlying42 (size := 4) (by kernel_rfl) (by omega) (AR w) (fun _ _ _ h hl => act_open h hl) h
  refine ⟨A, T, c, hv, h1, fun h0 => ?_⟩
  obtain ⟨g, i, hA, hg, hk⟩ := h3 h0
  refine ⟨g, i, hA, hg, fun k hkl => ?_⟩
  obtain ⟨cs, y, ⟨Aw, cw, Ak, ck, rfl, hL, hks, hbk, hn⟩, hy, hc⟩ := hk k hkl
  exact ⟨Aw, cw, Ak, ck, fun j v hj => hc j v (by simpa using hj), hL, hks, by omega, hn⟩
end
/-- Get, told as the document tells it -/
theorem get_all {w : World} {B d g : Nat} {C : Array Value} {ov : Nat → Value} {S : DS} (h : DiskAt w B d g C ov S) (i : Int) :
    Ret Try.prog 12 [ptr d, .int .i64 i] w fun v w' => ∃ A c, v = .tuple #[.slice A (rgetS S i).1.length c, .int .i64 (rgetS S i).2] ∧ Src w' A (rgetS S i).1.length 1 ((rgetS S i).1.map fun b => Value.int .u8 (b.toNat : Int)) ∧ Mods No w w' :=
  (get_ok h i).mono fun v w' hv => by
    unfold getP at hv
    unfold rgetS
    cases ho : S.off
    · simp only [ho, Bool.false_eq_true, if_false] at hv ⊢
      by_cases hr : i < 0 ∨ (S.n : Int) ≤ i
      · simp only [if_pos hr] at hv ⊢
        obtain ⟨rfl, rfl⟩ := hv
        exact ⟨none, 0, rfl, ⟨rfl, fun h0 => by simp at h0⟩, Mods.refl _ _⟩
      · simp only [if_neg hr] at hv ⊢
        obtain ⟨u, rfl, hu, hm⟩ := hv
        obtain ⟨A, c, rfl⟩ := own_slice hu
        have hl := h.now_len (i := i.toNat) (by omega)
        have hs := Src.own hu
        refine ⟨A, c, by rw [hl], ?_, hm⟩
        rw [hl]
        simpa [bv] using hs
    · simp only [ho, if_true] at hv ⊢
      obtain ⟨rfl, rfl⟩ := hv
      exact ⟨none, 0, rfl, ⟨rfl, fun h0 => by simp at h0⟩, Mods.refl _ _⟩
theorem putL_len : ∀ (L : List (Int × List UInt8)) (S : DS) (j : Nat), ((putL S L).1.opn j).length ≤ (S.opn j).length + L.length
  | [], S, j => by simp [putL]
  | (a, b) :: r, S, j => by
    unfold putL
    split
    · refine Nat.le_trans (putL_len r _ j) ?_
      show (fup (spendS S).1.opn a.toNat _ j).length + r.length ≤ _
      rw [(spend_opn S).1]
      by_cases hj : j = a.toNat
      · subst hj; rw [fup_at]; simp only [List.length_append, List.length_cons, List.length_nil]; omega
      · rw [fup_ne _ _ hj]; simp only [List.length_cons]; omega
    · show ((spendS S).1.opn j).length ≤ _
      rw [(spend_opn S).1]; omega
theorem putS_facts (S : DS) (L : List (Int × List UInt8)) : (putS S L).1.n = S.n ∧ ∀ j, ((putS S L).1.opn j).length ≤ (S.opn j).length + L.length := by
  unfold putS
  split
  · exact ⟨rfl, fun j => by simp⟩
  · split
    · exact ⟨rfl, fun j => by simp⟩
    · split
      · exact ⟨rfl, fun j => by simp⟩
      · exact ⟨putL_n _ _, putL_len L S⟩
theorem barrierS_facts (S : DS) : (barrierS S).1.n = S.n ∧ ∀ j, ((barrierS S).1.opn j).length ≤ (S.opn j).length := by
  unfold barrierS
  split
  · exact ⟨rfl, fun j => Nat.le_refl _⟩
  · split
    · refine ⟨spend_n S, fun j => ?_⟩
      simp only [allS, keepAll]
      split
      · simp
      · rw [(spend_opn S).1]; exact Nat.le_refl _
    · exact ⟨spend_n S, fun j => by rw [(spend_opn S).1]; exact Nat.le_refl _⟩
theorem restartS_facts (S : DS) (ks : List Int) : (restartS S ks).n = S.n ∧ ∀ j, ((restartS S ks).opn j).length ≤ (S.opn j).length := by
  refine ⟨rfl, fun j => ?_⟩
  simp only [restartS, keepAll]
  split
  · simp
  · exact Nat.le_refl _
set_option maxHeartbeats 2000000 in
theorem plays_walk {w : World} {n : Int} {A : Option Addr} {T : List Actn} {c : Nat} (hT : ActsAt w.heap.size w A T) :
    Ret Try.prog 5 [.int .i64 n, .slice A T.length c] w fun r w' => r = .bool true ∧ Below w.heap.size w w' := by
  have hT1 := hT.1
  by_cases hbad : n < 1 ∨ 480 < n
  · by_cases hlo : n < 1
    · refine Ret.enter Try.func5 rfl Try.ntmps5 rfl ?_
      simp only [argEnv, Nat.reduceAdd]
      refine E_seqR ?_
      refine EL_val (R_assign rfl) rfl rfl rfl ?_
      refine EL_nil ?_
      refine E_seqR ?_
      refine EL_val (R_move rfl) rfl rfl rfl ?_
      refine EL_step rfl ?_
      refine EO_call K.bd8 rfl rfl (new_bad hbad) ?_
      rintro _ _ ⟨rfl, rfl⟩
      refine EL_val (R_move rfl) rfl rfl rfl ?_
      refine EL_val (R_extract rfl rfl) rfl rfl rfl ?_
      refine EL_val (R_extract rfl rfl) rfl rfl rfl ?_
      refine EL_val (R_assign rfl) rfl rfl rfl ?_
      refine EL_val (R_assign rfl) rfl rfl rfl ?_
      refine EL_nil ?_
      refine E_seq ?_
      refine E_seqR ?_
      refine EL_val (R_move rfl) rfl rfl rfl ?_
      first | refine EL_val (R_lss_t rfl rfl (by omega)) rfl rfl rfl ?_ | refine EL_val (R_lss_f rfl rfl (by omega)) rfl rfl rfl ?_
      refine EL_val (R_move rfl) rfl rfl rfl ?_
      refine EL_not rfl rfl rfl ?_
      refine EL_not rfl rfl rfl ?_
      first | refine EL_val (R_pick_t rfl rfl) rfl rfl rfl ?_ | refine EL_val (R_pick_f rfl rfl) rfl rfl rfl ?_
      refine EL_nil ?_
      refine E_cond_t rfl ?_
      refine E_seqR ?_
      refine EL_step rfl ?_
      refine EO_call K.bd9 rfl rfl (awake_ok) ?_
      rintro _ w2 ⟨rfl, hm2⟩
      refine EL_val (R_move rfl) rfl rfl rfl ?_
      first | refine EL_val (R_move rfl) rfl rfl rfl ?_ | refine EL_not rfl rfl rfl ?_
      first | refine EL_val (R_eql_t rfl rfl (by omega)) rfl rfl rfl ?_ | refine EL_val (R_eql_f rfl rfl (by omega)) rfl rfl rfl ?_ | refine EL_not rfl rfl rfl ?_
      first | refine EL_val (R_pick_t rfl rfl) rfl rfl rfl ?_ | refine EL_val (R_pick_f rfl rfl) rfl rfl rfl ?_
      refine EL_val (R_move rfl) rfl rfl rfl ?_
      first | refine EL_val (R_move rfl) rfl rfl rfl ?_ | refine EL_not rfl rfl rfl ?_
      first | refine EL_val (R_eqlPtrNil rfl Try.underlying25) rfl rfl rfl ?_ | refine EL_not rfl rfl rfl ?_
      first | refine EL_val (R_pick_t rfl rfl) rfl rfl rfl ?_ | refine EL_val (R_pick_f rfl rfl) rfl rfl rfl ?_
      refine EL_val (R_assign rfl) rfl rfl rfl ?_
      refine EL_nil ?_
      refine E_ret ?_
      refine thenQ_r ?_
      refine ret1 (.inr rfl) rfl rfl ?_
      exact ⟨rfl, hm2.below (Nat.le_refl _) fun _ _ => id⟩
    · refine Ret.enter Try.func5 rfl Try.ntmps5 rfl ?_
      simp only [argEnv, Nat.reduceAdd]
      refine E_seqR ?_
      refine EL_val (R_assign rfl) rfl rfl rfl ?_
      refine EL_nil ?_
      refine E_seqR ?_
      refine EL_val (R_move rfl) rfl rfl rfl ?_
      refine EL_step rfl ?_
      refine EO_call K.bd8 rfl rfl (new_bad hbad) ?_
      rintro _ _ ⟨rfl, rfl⟩
      refine EL_val (R_move rfl) rfl rfl rfl ?_
      refine EL_val (R_extract rfl rfl) rfl rfl rfl ?_
      refine EL_val (R_extract rfl rfl) rfl rfl rfl ?_
      refine EL_val (R_assign rfl) rfl rfl rfl ?_
      refine EL_val (R_assign rfl) rfl rfl rfl ?_
      refine EL_nil ?_
      refine E_seq ?_
      refine E_seqR ?_
      refine EL_val (R_move rfl) rfl rfl rfl ?_
      first | refine EL_val (R_lss_t rfl rfl (by omega)) rfl rfl rfl ?_ | refine EL_val (R_lss_f rfl rfl (by omega)) rfl rfl rfl ?_
      refine EL_val (R_move rfl) rfl rfl rfl ?_
      first | refine EL_val (R_move rfl) rfl rfl rfl ?_ | refine EL_not rfl rfl rfl ?_
      first | refine EL_val (R_gtr_t rfl rfl (by omega)) rfl rfl rfl ?_ | refine EL_val (R_gtr_f rfl rfl (by omega)) rfl rfl rfl ?_ | refine EL_not rfl rfl rfl ?_
      first | refine EL_val (R_pick_t rfl rfl) rfl rfl rfl ?_ | refine EL_val (R_pick_f rfl rfl) rfl rfl rfl ?_
      refine EL_nil ?_
      refine E_cond_t rfl ?_
      refine E_seqR ?_
      refine EL_step rfl ?_
      refine EO_call K.bd9 rfl rfl (awake_ok) ?_
      rintro _ w2 ⟨rfl, hm2⟩
      refine EL_val (R_move rfl) rfl rfl rfl ?_
      first | refine EL_val (R_move rfl) rfl rfl rfl ?_ | refine EL_not rfl rfl rfl ?_
      first | refine EL_val (R_eql_t rfl rfl (by omega)) rfl rfl rfl ?_ | refine EL_val (R_eql_f rfl rfl (by omega)) rfl rfl rfl ?_ | refine EL_not rfl rfl rfl ?_
      first | refine EL_val (R_pick_t rfl rfl) rfl rfl rfl ?_ | refine EL_val (R_pick_f rfl rfl) rfl rfl rfl ?_
      refine EL_val (R_move rfl) rfl rfl rfl ?_
      first | refine EL_val (R_move rfl) rfl rfl rfl ?_ | refine EL_not rfl rfl rfl ?_
      first | refine EL_val (R_eqlPtrNil rfl Try.underlying25) rfl rfl rfl ?_ | refine EL_not rfl rfl rfl ?_
      first | refine EL_val (R_pick_t rfl rfl) rfl rfl rfl ?_ | refine EL_val (R_pick_f rfl rfl) rfl rfl rfl ?_
      refine EL_val (R_assign rfl) rfl rfl rfl ?_
      refine EL_nil ?_
      refine E_ret ?_
      refine thenQ_r ?_
      refine ret1 (.inr rfl) rfl rfl ?_
      exact ⟨rfl, hm2.below (Nat.le_refl _) fun _ _ => id⟩
  obtain ⟨N, rfl⟩ : ∃ N : Nat, n = N := ⟨n.toNat, by omega⟩
  obtain ⟨B, hBB⟩ : ∃ B, B = w.heap.size := ⟨_, rfl⟩
  rw [← hBB] at hT ⊢
  have hB : B ≤ w.heap.size := by omega
  clear hBB
  refine Ret.enter Try.func5 rfl Try.ntmps5 rfl ?_
  simp only [argEnv, Nat.reduceAdd]
  refine E_seqR ?_
  refine EL_val (R_assign rfl) rfl rfl rfl ?_
  refine EL_nil ?_
  refine E_seqR ?_
  refine EL_val (R_move rfl) rfl rfl rfl ?_
  refine EL_step rfl ?_
  refine EO_call K.bd8 rfl rfl ((new_ok (n := N) (B := B) (by omega) (by omega) hB)) ?_
  rintro _ w1 ⟨d, rfl, hD1, hm1⟩
  refine EL_val (R_move rfl) rfl rfl rfl ?_
  refine EL_val (R_extract rfl rfl) rfl rfl rfl ?_
  refine EL_val (R_extract rfl rfl) rfl rfl rfl ?_
  refine EL_val (R_assign rfl) rfl rfl rfl ?_
  refine EL_val (R_assign rfl) rfl rfl rfl ?_
  refine EL_nil ?_
  refine E_seq ?_
  refine E_seqR ?_
  refine EL_val (R_move rfl) rfl rfl rfl ?_
  first | refine EL_val (R_lss_t rfl rfl (by omega)) rfl rfl rfl ?_ | refine EL_val (R_lss_f rfl rfl (by omega)) rfl rfl rfl ?_
  refine EL_val (R_move rfl) rfl rfl rfl ?_
  first | refine EL_val (R_move rfl) rfl rfl rfl ?_ | refine EL_not rfl rfl rfl ?_
  first | refine EL_val (R_gtr_t rfl rfl (by omega)) rfl rfl rfl ?_ | refine EL_val (R_gtr_f rfl rfl (by omega)) rfl rfl rfl ?_ | refine EL_not rfl rfl rfl ?_
  first | refine EL_val (R_pick_t rfl rfl) rfl rfl rfl ?_ | refine EL_val (R_pick_f rfl rfl) rfl rfl rfl ?_
  refine EL_nil ?_
  refine E_cond_f rfl ?_
  refine E_skip ?_
  refine thenQ_n ?_
  refine E_seq ?_
  refine E_seqR ?_
  refine EL_step rfl ?_
  refine EO_call K.bd9 rfl rfl (awake_ok) ?_
  rintro _ w2 ⟨rfl, hm2⟩
  refine EL_val (R_not rfl) rfl rfl rfl ?_
  refine EL_val (R_move rfl) rfl rfl rfl ?_
  first | refine EL_val (R_move rfl) rfl rfl rfl ?_ | refine EL_not rfl rfl rfl ?_
  first | refine EL_val (R_neq_t rfl rfl (by omega)) rfl rfl rfl ?_ | refine EL_val (R_neq_f rfl rfl (by omega)) rfl rfl rfl ?_ | refine EL_not rfl rfl rfl ?_
  first | refine EL_val (R_pick_t rfl rfl) rfl rfl rfl ?_ | refine EL_val (R_pick_f rfl rfl) rfl rfl rfl ?_
  refine EL_val (R_move rfl) rfl rfl rfl ?_
  first | refine EL_val (R_move rfl) rfl rfl rfl ?_ | refine EL_not rfl rfl rfl ?_
  first | refine EL_val (R_eqlPtrNil rfl Try.underlying25) rfl rfl rfl ?_ | refine EL_not rfl rfl rfl ?_
  first | refine EL_val (R_pick_t rfl rfl) rfl rfl rfl ?_ | refine EL_val (R_pick_f rfl rfl) rfl rfl rfl ?_
  refine EL_nil ?_
  refine E_cond_f rfl ?_
  refine E_skip ?_
  refine thenQ_n ?_
  refine E_seqR ?_
  refine EL_val (R_move rfl) rfl rfl rfl ?_
  refine EL_step rfl ?_
  refine EO_call K.bd15 rfl rfl ((rnew_ok (n := N) (B := B) (by omega) (by omega) (by have := hm1.size; have := hm2.size; omega))) ?_
  rintro _ w3 ⟨r, rfl, hR3, hm3⟩
  refine EL_val (R_assign rfl) rfl rfl rfl ?_
  refine EL_nil ?_
  refine E_seq ?_
  refine E_seqR ?_
  refine EL_val (R_assign rfl) rfl rfl rfl ?_
  refine EL_nil ?_
  refine E_block ?_
  have bl3 : Below B w w3 := bl_no (Below.refl _ _) hB ((hm1.trans hm2).trans hm3)
  have hD3 := hD1.no (hm2.trans hm3)
  clear hD1 hm1 hm2 hm3
  refine E_loop (fun m' e' w' => ∃ i AA S, i ≤ 100 ∧ m' = 100 - i ∧ e' = [(0, .int .i64 (N : Int)), (1, .slice (AA) T.length c), (5, ptr d), (7, ptr r), (8, .int .i64 ((i : Nat) : Int))] ∧ ActsAt B w' AA T ∧ Disk w' B d S ∧ Ref w' B r S ∧ Below B w w' ∧ S.n = N ∧ ∀ j, (S.opn j).length ≤ i * 1048576) 100 [(0, .int .i64 (N : Int)), (1, .slice (A) T.length c), (5, ptr d), (7, ptr r), (8, .int .i64 ((0 : Nat) : Int))] ⟨rfl, rfl, rfl, rfl, rfl, trivial⟩
    ⟨0, A, newS N, by omega, rfl, rfl, hT.below bl3, hD3, hR3, bl3, rfl, fun j => by simp [newS]⟩ ?_
  clear hT hD3 hR3 bl3
  rintro m' e w4 ⟨i, A, S, hi, rfl, rfl, hT, ⟨g, C, ov, hD⟩, ⟨gl, go, CL, CO, cl, co, lf, ov', hR⟩, bl4, hSn, hlen⟩
  have hs4 := bl4.size
  by_cases hin : i < T.length ∧ i < 100
  · obtain ⟨hi1, hi2⟩ := hin
    obtain ⟨gT, iT, rfl, hgT, hc⟩ := hT.2 (by omega)
    obtain ⟨Aw, cw, Ak, ck, hcs, hw, hk, hLle, hn0, hn1⟩ := hc i hi1
    obtain ⟨ac, hac⟩ : ∃ ac, ac = T[i] := ⟨_, rfl⟩
    rw [← hac] at hcs hw hk hLle hn0 hn1
    clear hac hc
    have hlb := hw.1
    have hkb := hk.1
    refine E_seq ?_
    refine E_seqR ?_
    refine EL_val (R_move rfl) rfl rfl rfl ?_
    refine EL_val (R_move rfl) rfl rfl rfl ?_
    refine EL_val (R_lenSlice rfl Try.underlying42) rfl rfl rfl ?_
    first | refine EL_val (R_lss_t rfl rfl (by omega)) rfl rfl rfl ?_ | refine EL_val (R_lss_f rfl rfl (by omega)) rfl rfl rfl ?_
    refine EL_val (R_move rfl) rfl rfl rfl ?_
    first | refine EL_val (R_move rfl) rfl rfl rfl ?_ | refine EL_not rfl rfl rfl ?_
    first | refine EL_val (R_lss_t rfl rfl (by omega)) rfl rfl rfl ?_ | refine EL_val (R_lss_f rfl rfl (by omega)) rfl rfl rfl ?_ | refine EL_not rfl rfl rfl ?_
    first | refine EL_val (R_pick_t rfl rfl) rfl rfl rfl ?_ | refine EL_val (R_pick_f rfl rfl) rfl rfl rfl ?_
    refine EL_nil ?_
    refine E_cond_t rfl ?_
    refine E_skip ?_
    refine thenQ_n ?_
    refine E_seq ?_
    refine E_block ?_
    refine E_seqR ?_
    refine EL_val (R_move rfl) rfl rfl rfl ?_
    refine EL_val (R_move rfl) rfl rfl rfl ?_
    refine EL_val (R_indexAddr rfl rfl Try.underlying42 K.sz46 rfl (by omega)) rfl rfl rfl ?_
    refine EL_val (R_loadAgg rfl K.ag46 (hcs) (K.sz46)) rfl rfl rfl ?_
    refine EL_step rfl ?_
    refine EO_alloc K.zr46 rfl ?_
    intro w5 hn5
    refine EL_step rfl ?_
    refine EO_storeWhole hn5.bk rfl rfl K.sz46 rfl rfl ?_
    intro w6 hu6
    refine EL_nil ?_
    refine E_seqR ?_
    refine EL_val (R_assign rfl) rfl rfl rfl ?_
    refine EL_val (R_assign rfl) rfl rfl rfl ?_
    refine EL_nil ?_
    refine E_seqR ?_
    refine EL_val (R_assign rfl) rfl rfl rfl ?_
    refine EL_val (R_assign rfl) rfl rfl rfl ?_
    refine EL_nil ?_
    refine E_seq ?_
    refine E_seqR ?_
    refine EL_val (R_fieldAddr rfl K.fT46_0) rfl rfl rfl ?_
    refine EL_val (R_load rfl K.ag3 (hu6.bk.cell rfl)) rfl rfl rfl ?_
    refine EL_nil ?_
    have hlen' : ∀ j, (S.opn j).length ≤ (i + 1) * 1048576 := fun j => Nat.le_trans (hlen j) (Nat.mul_le_mul_right _ (Nat.le_succ i))
    have hm46 : Mods No w4 w6 := hn5.mods.trans' hu6.mods fun k hk hk' => by omega
    have hact := hu6.bk
    have hD6 := hD.no hm46
    have hR6 := hR.no hm46
    have bl6 := bl_no bl4 hB hm46
    have bl46 : Below B w4 w6 := hm46.below (by omega) fun _ _ => id
    have hT6 := hT.below bl46
    have hw6 := hw.below bl46
    have hk6 := hk.below bl46
    have hs6 := bl6.size
    clear hcs hD hR hT hw hk
    obtain ⟨ga, hga⟩ : ∃ ga, ga = w4.heap.size := ⟨_, rfl⟩
    rw [← hga] at hact
    rw [← hga]
    refine E_cut (fun e0 w' => ∃ f x S', e0 = [(0, .int .i64 (N : Int)), (1, .slice (some ⟨gT, iT, none⟩) T.length c), (5, ptr d), (7, ptr r), (8, .int .i64 (i : Int)), (10, .int .i64 (f)), (11, .int .i64 (f)), (12, .string (str (x))), (13, .string (str (x)))] ∧ Disk w' B d S' ∧ Ref w' B r S' ∧ Below B w6 w' ∧ S'.n = N ∧ ∀ j, (S'.opn j).length ≤ (i + 1) * 1048576) ?_ ?_
    · by_cases h0 : ac.what = 0
      · obtain ⟨hPn, hPl⟩ := putS_facts S ac.L
        have hroom : ∀ q, q < S.n → (S.opn q).length + ac.L.length ≤ 2199023255552 := fun q _ => by have := hlen q; omega
        refine E_block ?_
        refine E_seqR ?_
        first | refine EL_val (R_eql_t rfl rfl (by omega)) rfl rfl rfl ?_ | refine EL_val (R_eql_f rfl rfl (by omega)) rfl rfl rfl ?_
        refine EL_val (R_assign rfl) rfl rfl rfl ?_
        refine EL_nil ?_
        refine E_cond_t rfl ?_
        refine E_seqR ?_
        refine EL_val (R_move rfl) rfl rfl rfl ?_
        refine EL_val (R_fieldAddr rfl K.fT46_2) rfl rfl rfl ?_
        refine EL_val (R_load rfl K.ag40 (hact.cell rfl)) rfl rfl rfl ?_
        refine EL_step rfl ?_
        refine EO_call K.bd10 rfl rfl ((put_ok hD6 (by omega) (hw6.off (Nat.le_refl _)) cw hroom)) ?_
        rintro _ w7 ⟨rfl, hD7, hm7⟩
        refine EL_val (R_assign rfl) rfl rfl rfl ?_
        refine EL_nil ?_
        refine E_region ?_
        refine EL_val (R_move rfl) rfl rfl rfl ?_
        refine EL_val (R_fieldAddr rfl K.fT46_2) rfl rfl rfl ?_
        refine EL_val (R_load rfl K.ag40 ((hm7.bk hact (by decide)).cell rfl)) rfl rfl rfl ?_
        refine EL_step rfl ?_
        refine EO_call K.bd16 rfl rfl ((rput_ok (hR6.dm hm7) (by have := hm7.size; omega) (hw6.below (hm7.below (by omega))) cw hroom)) ?_
        rintro _ w8 ⟨rfl, hR8, hm8⟩
        refine EL_val (R_assign rfl) rfl rfl rfl ?_
        refine EL_nil ?_
        refine inB_n ?_
        refine thenQ_n ?_
        exact ⟨rfl, [(0, .int .i64 (N : Int)), (1, .slice (some ⟨gT, iT, none⟩) T.length c), (5, ptr d), (7, ptr r), (8, .int .i64 (i : Int)), (10, .int .i64 ((putS S ac.L).2)), (11, .int .i64 ((putS S ac.L).2)), (12, .string (str ([]))), (13, .string (str ([])))], ⟨rfl, rfl, rfl, rfl, rfl, rfl, rfl, rfl, rfl, trivial⟩, _, _, _, rfl, hD7.rm hm8, hR8, bl_rm (hm7.below (by omega)) (by omega) hm8, by omega, fun j => by have := hPl j; have := hlen j; omega⟩
      by_cases h1 : ac.what = 1
      · refine E_block ?_
        refine E_seqR ?_
        first | refine EL_val (R_eql_t rfl rfl (by omega)) rfl rfl rfl ?_ | refine EL_val (R_eql_f rfl rfl (by omega)) rfl rfl rfl ?_
        refine EL_val (R_assign rfl) rfl rfl rfl ?_
        refine EL_nil ?_
        refine E_cond_f rfl ?_
        refine E_seqR ?_
        first | refine EL_val (R_eql_t rfl rfl (by omega)) rfl rfl rfl ?_ | refine EL_val (R_eql_f rfl rfl (by omega)) rfl rfl rfl ?_
        refine EL_val (R_assign rfl) rfl rfl rfl ?_
        refine EL_nil ?_
        refine E_cond_t rfl ?_
        refine E_seqR ?_
        refine EL_val (R_move rfl) rfl rfl rfl ?_
        refine EL_val (R_fieldAddr rfl K.fT46_1) rfl rfl rfl ?_
        refine EL_val (R_load rfl K.ag3 (hact.cell rfl)) rfl rfl rfl ?_
        refine EL_step rfl ?_
        refine EO_call K.bd12 rfl rfl ((get_all hD6 ac.n)) ?_
        rintro _ w7 ⟨Ab, cb, rfl, hsrc, hm7⟩
        refine EL_val (R_move rfl) rfl rfl rfl ?_
        refine EL_val (R_extract rfl rfl) rfl rfl rfl ?_
        refine EL_val (R_extract rfl rfl) rfl rfl rfl ?_
        refine EL_val (R_assign rfl) rfl rfl rfl ?_
        refine EL_val (R_assign rfl) rfl rfl rfl ?_
        refine EL_nil ?_
        refine E_seqR ?_
        refine EL_val (R_move rfl) rfl rfl rfl ?_
        refine EL_val (R_bytesStr rfl hsrc rfl Try.underlying23 Try.underlying5 Try.underlying9) rfl rfl rfl ?_
        refine EL_val (R_move rfl) rfl rfl rfl ?_
        refine EL_val (R_assign rfl) rfl rfl rfl ?_
        refine EL_val (R_assign rfl) rfl rfl rfl ?_
        refine EL_nil ?_
        refine E_region ?_
        refine EL_val (R_move rfl) rfl rfl rfl ?_
        refine EL_val (R_fieldAddr rfl K.fT46_1) rfl rfl rfl ?_
        refine EL_val (R_load rfl K.ag3 ((hm7.bk' hact).cell rfl)) rfl rfl rfl ?_
        refine EL_step rfl ?_
        refine EO_call K.bd17 rfl rfl ((rget_ok (hR6.no hm7) ac.n)) ?_
        rintro _ w8 ⟨rfl, hm8⟩
        refine EL_val (R_move rfl) rfl rfl rfl ?_
        refine EL_val (R_extract rfl rfl) rfl rfl rfl ?_
        refine EL_val (R_extract rfl rfl) rfl rfl rfl ?_
        refine EL_val (R_assign rfl) rfl rfl rfl ?_
        refine EL_val (R_assign rfl) rfl rfl rfl ?_
        refine EL_nil ?_
        refine inB_n ?_
        refine thenQ_n ?_
        exact ⟨rfl, [(0, .int .i64 (N : Int)), (1, .slice (some ⟨gT, iT, none⟩) T.length c), (5, ptr d), (7, ptr r), (8, .int .i64 (i : Int)), (10, .int .i64 ((rgetS S ac.n).2)), (11, .int .i64 ((rgetS S ac.n).2)), (12, .string (str ((rgetS S ac.n).1))), (13, .string (str ((rgetS S ac.n).1)))], ⟨rfl, rfl, rfl, rfl, rfl, rfl, rfl, rfl, rfl, trivial⟩, _, _, _, rfl, Disk.no ⟨g, C, ov, hD6⟩ (hm7.trans hm8), (hR6.no (hm7.trans hm8)).ref, (hm7.trans hm8).below (by omega) fun _ _ => id, hSn, hlen'⟩
      by_cases h2 : ac.what = 2
      · obtain ⟨hPn, hPl⟩ := barrierS_facts S
        refine E_block ?_
        refine E_seqR ?_
        first | refine EL_val (R_eql_t rfl rfl (by omega)) rfl rfl rfl ?_ | refine EL_val (R_eql_f rfl rfl (by omega)) rfl rfl rfl ?_
        refine EL_val (R_assign rfl) rfl rfl rfl ?_
        refine EL_nil ?_
        refine E_cond_f rfl ?_
        refine E_seqR ?_
        first | refine EL_val (R_eql_t rfl rfl (by omega)) rfl rfl rfl ?_ | refine EL_val (R_eql_f rfl rfl (by omega)) rfl rfl rfl ?_
        refine EL_val (R_assign rfl) rfl rfl rfl ?_
        refine EL_nil ?_
        refine E_cond_f rfl ?_
        refine E_seqR ?_
        first | refine EL_val (R_eql_t rfl rfl (by omega)) rfl rfl rfl ?_ | refine EL_val (R_eql_f rfl rfl (by omega)) rfl rfl rfl ?_
        refine EL_val (R_assign rfl) rfl rfl rfl ?_
        refine EL_nil ?_
        refine E_cond_t rfl ?_
        refine E_seqR ?_
        refine EL_val (R_move rfl) rfl rfl rfl ?_
        refine EL_step rfl ?_
        refine EO_call K.bd14 rfl rfl ((barrier_ok hD6)) ?_
        rintro _ w7 ⟨rfl, hD7, hm7⟩
        refine EL_val (R_assign rfl) rfl rfl rfl ?_
        refine EL_nil ?_
        refine E_region ?_
        refine EL_val (R_move rfl) rfl rfl rfl ?_
        refine EL_step rfl ?_
        refine EO_call K.bd18 rfl rfl ((rbarrier_ok (hR6.dm hm7))) ?_
        rintro _ w8 ⟨rfl, hR8, hm8⟩
        refine EL_val (R_assign rfl) rfl rfl rfl ?_
        refine EL_nil ?_
        refine inB_n ?_
        refine thenQ_n ?_
        exact ⟨rfl, [(0, .int .i64 (N : Int)), (1, .slice (some ⟨gT, iT, none⟩) T.length c), (5, ptr d), (7, ptr r), (8, .int .i64 (i : Int)), (10, .int .i64 ((barrierS S).2)), (11, .int .i64 ((barrierS S).2)), (12, .string (str ([]))), (13, .string (str ([])))], ⟨rfl, rfl, rfl, rfl, rfl, rfl, rfl, rfl, rfl, trivial⟩, _, _, _, rfl, hD7.rm hm8, hR8, bl_rm (hm7.below (by omega)) (by omega) hm8, by omega, fun j => by have := hPl j; have := hlen j; omega⟩
      by_cases h3 : ac.what = 3
      · refine E_block ?_
        refine E_seqR ?_
        first | refine EL_val (R_eql_t rfl rfl (by omega)) rfl rfl rfl ?_ | refine EL_val (R_eql_f rfl rfl (by omega)) rfl rfl rfl ?_
        refine EL_val (R_assign rfl) rfl rfl rfl ?_
        refine EL_nil ?_
        refine E_cond_f rfl ?_
        refine E_seqR ?_
        first | refine EL_val (R_eql_t rfl rfl (by omega)) rfl rfl rfl ?_ | refine EL_val (R_eql_f rfl rfl (by omega)) rfl rfl rfl ?_
        refine EL_val (R_assign rfl) rfl rfl rfl ?_
        refine EL_nil ?_
        refine E_cond_f rfl ?_
        refine E_seqR ?_
        first | refine EL_val (R_eql_t rfl rfl (by omega)) rfl rfl rfl ?_ | refine EL_val (R_eql_f rfl rfl (by omega)) rfl rfl rfl ?_
        refine EL_val (R_assign rfl) rfl rfl rfl ?_
        refine EL_nil ?_
        refine E_cond_f rfl ?_
        refine E_seqR ?_
        first | refine EL_val (R_eql_t rfl rfl (by omega)) rfl rfl rfl ?_ | refine EL_val (R_eql_f rfl rfl (by omega)) rfl rfl rfl ?_
        refine EL_val (R_assign rfl) rfl rfl rfl ?_
        refine EL_nil ?_
        refine E_cond_t rfl ?_
        refine E_seqR ?_
        refine EL_val (R_move rfl) rfl rfl rfl ?_
        refine EL_val (R_fieldAddr rfl K.fT46_1) rfl rfl rfl ?_
        refine EL_val (R_load rfl K.ag3 (hact.cell rfl)) rfl rfl rfl ?_
        refine EL_step rfl ?_
        refine EO_call K.bd19 rfl rfl ((fail_ok hD6 hn1)) ?_
        rintro _ w7 ⟨hD7, hm7⟩
        refine EL_nil ?_
        refine E_region ?_
        refine EL_val (R_move rfl) rfl rfl rfl ?_
        refine EL_val (R_fieldAddr rfl K.fT46_1) rfl rfl rfl ?_
        refine EL_val (R_load rfl K.ag3 ((hm7.bk hact (by decide)).cell rfl)) rfl rfl rfl ?_
        refine EL_val (R_nilCheck rfl) rfl rfl rfl ?_
        refine EL_val (R_fieldAddr rfl K.fT52_2) rfl rfl rfl ?_
        refine EL_step rfl ?_
        refine EO_store1 rfl rfl K.sz3 rfl (hR6.dm hm7).hd (by simp) ?_
        intro w8 hu8
        refine EL_nil ?_
        refine inB_n ?_
        refine thenQ_n ?_
        have hR8 := (hR6.dm hm7).setPower (off := S.off) hn0 hn1 hu8
        have hm8 : RM B w7 w8 := RM.upd hu8 (hR6.dm hm7).hd hR6.Bd (.inl rfl)
        exact ⟨rfl, [(0, .int .i64 (N : Int)), (1, .slice (some ⟨gT, iT, none⟩) T.length c), (5, ptr d), (7, ptr r), (8, .int .i64 (i : Int)), (10, .int .i64 (0)), (11, .int .i64 (0)), (12, .string (str ([]))), (13, .string (str ([])))], ⟨rfl, rfl, rfl, rfl, rfl, rfl, rfl, rfl, rfl, trivial⟩, _, _, _, rfl, Disk.rm ⟨_, _, _, hD7⟩ hm8, hR8.ref, bl_rm (hm7.below (by omega)) (by omega) hm8, hSn, hlen'⟩
      · obtain ⟨hPn, hPl⟩ := restartS_facts S ac.ks
        refine E_block ?_
        refine E_seqR ?_
        first | refine EL_val (R_eql_t rfl rfl (by omega)) rfl rfl rfl ?_ | refine EL_val (R_eql_f rfl rfl (by omega)) rfl rfl rfl ?_
        refine EL_val (R_assign rfl) rfl rfl rfl ?_
        refine EL_nil ?_
        refine E_cond_f rfl ?_
        refine E_seqR ?_
        first | refine EL_val (R_eql_t rfl rfl (by omega)) rfl rfl rfl ?_ | refine EL_val (R_eql_f rfl rfl (by omega)) rfl rfl rfl ?_
        refine EL_val (R_assign rfl) rfl rfl rfl ?_
        refine EL_nil ?_
        refine E_cond_f rfl ?_
        refine E_seqR ?_
        first | refine EL_val (R_eql_t rfl rfl (by omega)) rfl rfl rfl ?_ | refine EL_val (R_eql_f rfl rfl (by omega)) rfl rfl rfl ?_
        refine EL_val (R_assign rfl) rfl rfl rfl ?_
        refine EL_nil ?_
        refine E_cond_f rfl ?_
        refine E_seqR ?_
        first | refine EL_val (R_eql_t rfl rfl (by omega)) rfl rfl rfl ?_ | refine EL_val (R_eql_f rfl rfl (by omega)) rfl rfl rfl ?_
        refine EL_val (R_assign rfl) rfl rfl rfl ?_
        refine EL_nil ?_
        refine E_cond_f rfl ?_
        refine E_seqR ?_
        refine EL_val (R_move rfl) rfl rfl rfl ?_
        refine EL_val (R_fieldAddr rfl K.fT46_3) rfl rfl rfl ?_
        refine EL_val (R_load rfl K.ag24 (hact.cell rfl)) rfl rfl rfl ?_
        refine EL_step rfl ?_
        refine EO_call K.bd11 rfl rfl ((restart_ok hD6 (hk6.off (Nat.le_refl _)))) ?_
        rintro _ w7 ⟨hD7, hm7⟩
        refine EL_nil ?_
        refine E_region ?_
        refine EL_val (R_move rfl) rfl rfl rfl ?_
        refine EL_val (R_fieldAddr rfl K.fT46_3) rfl rfl rfl ?_
        refine EL_val (R_load rfl K.ag24 ((hm7.bk hact (by decide)).cell rfl)) rfl rfl rfl ?_
        refine EL_step rfl ?_
        refine EO_call K.bd20 rfl rfl ((rrestart_ok (hR6.dm hm7) (by have := hm7.size; omega) (hk6.below (hm7.below (by omega))))) ?_
        rintro _ w8 ⟨hR8, hm8⟩
        refine EL_nil ?_
        refine inB_n ?_
        refine thenQ_n ?_
        exact ⟨rfl, [(0, .int .i64 (N : Int)), (1, .slice (some ⟨gT, iT, none⟩) T.length c), (5, ptr d), (7, ptr r), (8, .int .i64 (i : Int)), (10, .int .i64 (0)), (11, .int .i64 (0)), (12, .string (str ([]))), (13, .string (str ([])))], ⟨rfl, rfl, rfl, rfl, rfl, rfl, rfl, rfl, rfl, trivial⟩, _, _, _, rfl, hD7.rm hm8, hR8, bl_rm (hm7.below (by omega)) (by omega) hm8, by omega, fun j => by have := hPl j; have := hlen j; omega⟩
    clear hD6 hR6 hact hw6 hk6
    rintro e0 w7 ⟨f, x, S7, rfl, ⟨g7, C7, ov7, hD7⟩, ⟨gl7, go7, CL7, CO7, cl7, co7, lf7, ov7', hR7⟩, bl67, hSn7, hlen7⟩
    have bl7 : Below B w w7 := bl6.trans bl67
    have hT7 := hT6.below bl67
    clear hT6 bl6 bl67 bl46 bl4
    refine E_seq ?_
    refine E_seqR ?_
    refine EL_val (R_move rfl) rfl rfl rfl ?_
    refine EL_val (R_move rfl) rfl rfl rfl ?_
    first | refine EL_val (R_neq_t rfl rfl (by omega)) rfl rfl rfl ?_ | refine EL_val (R_neq_f rfl rfl (by omega)) rfl rfl rfl ?_
    refine EL_val (R_move rfl) rfl rfl rfl ?_
    first | refine EL_val (R_move rfl) rfl rfl rfl ?_ | refine EL_not rfl rfl rfl ?_
    first | refine EL_val (R_move rfl) rfl rfl rfl ?_ | refine EL_not rfl rfl rfl ?_
    first | refine EL_val (R_strNeq_t rfl rfl ((fun h => h rfl))) rfl rfl rfl ?_ | refine EL_val (R_strNeq_f rfl rfl ((fun h => h rfl))) rfl rfl rfl ?_
    first | refine EL_val (R_pick_t rfl rfl) rfl rfl rfl ?_ | refine EL_val (R_pick_f rfl rfl) rfl rfl rfl ?_
    refine EL_nil ?_
    refine E_cond_f rfl ?_
    refine E_skip ?_
    refine thenQ_n ?_
    refine E_seqR ?_
    refine EL_val (R_assign rfl) rfl rfl rfl ?_
    refine EL_nil ?_
    refine E_block ?_
    refine E_loop (fun m' e' w' => ∃ q, q ≤ 12 ∧ m' = 12 - q ∧ e' = [(0, .int .i64 (N : Int)), (1, .slice (some ⟨gT, iT, none⟩) T.length c), (5, ptr d), (7, ptr r), (8, .int .i64 (i : Int)), (16, .int .i64 ((q : Nat) : Int))] ∧ Mods No w7 w') 12 [(0, .int .i64 (N : Int)), (1, .slice (some ⟨gT, iT, none⟩) T.length c), (5, ptr d), (7, ptr r), (8, .int .i64 (i : Int)), (16, .int .i64 ((0 : Nat) : Int))] ⟨rfl, rfl, rfl, rfl, rfl, rfl, trivial⟩ ⟨0, by omega, rfl, rfl, Mods.refl _ _⟩ ?_
    rintro m' e w8 ⟨q, hq, rfl, rfl, hm8⟩
    have hD8 := hD7.no hm8
    have hR8 := hR7.no hm8
    by_cases hqn : q < N ∧ q < 12
    · obtain ⟨hq1, hq2⟩ := hqn
      have hqS : q < S7.n := by omega
      obtain ⟨Ao, ca, hov, _⟩ := hR8.form hqS
      have hop : openS S7 q = (S7.opn q).length := by
        simp only [openS]
        rw [if_neg (by omega), Int.toNat_natCast]
      refine E_seq ?_
      refine E_seqR ?_
      refine EL_val (R_move rfl) rfl rfl rfl ?_
      refine EL_val (R_move rfl) rfl rfl rfl ?_
      first | refine EL_val (R_lss_t rfl rfl (by omega)) rfl rfl rfl ?_ | refine EL_val (R_lss_f rfl rfl (by omega)) rfl rfl rfl ?_
      refine EL_val (R_move rfl) rfl rfl rfl ?_
      first | refine EL_val (R_move rfl) rfl rfl rfl ?_ | refine EL_not rfl rfl rfl ?_
      first | refine EL_val (R_lss_t rfl rfl (by omega)) rfl rfl rfl ?_ | refine EL_val (R_lss_f rfl rfl (by omega)) rfl rfl rfl ?_ | refine EL_not rfl rfl rfl ?_
      first | refine EL_val (R_pick_t rfl rfl) rfl rfl rfl ?_ | refine EL_val (R_pick_f rfl rfl) rfl rfl rfl ?_
      refine EL_nil ?_
      refine E_cond_t rfl ?_
      refine E_skip ?_
      refine thenQ_n ?_
      refine E_seq ?_
      refine E_block ?_
      refine E_seqD (fun _ => [(11, fun W => W.cell? ⟨r, 0 + 1, none⟩ = some (.slice (some ⟨go7, 0, none⟩) S7.n co7)), (11, fun W => W.cell? ⟨go7, 0 + q * 1, none⟩ = some (.slice Ao (S7.opn q).length ca))]) 12 K.mix rfl ?_
      intro w9 hm9 hh9
      (have hD9 := hD8.no hm9; have hR9 := hR8.no hm9; have hrow9 := hR9.cRow hqS; rw [hov] at hrow9)
      refine EA_pure 0 rfl (fun _ => R_move rfl) (by kernel_rfl) rfl rfl rfl ?_
      refine EA_pure 1 rfl (fun _ => R_move rfl) (by kernel_rfl) rfl rfl rfl ?_
      refine EA_pure 3 rfl (fun _ => R_move rfl) (by kernel_rfl) rfl rfl rfl ?_
      refine EA_pure 4 rfl (fun _ => R_nilCheck rfl) (by kernel_rfl) rfl rfl rfl ?_
      refine EA_pure 5 rfl (fun _ => R_fieldAddr rfl K.fT52_1) (by kernel_rfl) rfl rfl rfl ?_
      refine EA_load 6 0 [8, 9, 10, 11] rfl rfl K.ag30 rfl (by kernel_rfl) (by kernel_rfl) rfl rfl ?_
      refine EA_pure 7 rfl (fun _ => R_move rfl) (by kernel_rfl) rfl rfl rfl ?_
      refine EA_pure 8 rfl (fun _ => R_indexAddr rfl rfl Try.underlying30 K.sz31 (m := q) rfl hqS) (by kernel_rfl) rfl rfl rfl ?_
      refine EA_load 9 1 [10, 11] rfl rfl K.ag31 rfl (by kernel_rfl) (by kernel_rfl) rfl rfl ?_
      refine EA_pure 10 rfl (fun _ => R_lenSlice rfl Try.underlying31) (by kernel_rfl) rfl rfl rfl ?_
      refine EA_one 2 rfl (by kernel_rfl) rfl ⟨fun _ => hR9.cOpen, fun _ => hrow9, trivial⟩ ?_
      refine EO_call K.bd13 rfl rfl ((open_ok hD9 q)) ?_
      rintro _ w10 ⟨rfl, rfl⟩
      refine EA_one 11 rfl (by kernel_rfl) rfl ⟨fun _ => hR9.cOpen, fun _ => hrow9, trivial⟩ ?_
      first | refine EO_val (R_neq_t rfl rfl ((fun h => h hop))) rfl rfl ?_ | refine EO_val (R_neq_f rfl rfl ((fun h => h hop))) rfl rfl ?_
      skip
      refine EA_done (by kernel_rfl) (Holds.done (by kernel_rfl)) ?_
      refine E_cond_f rfl ?_
      refine E_skip ?_
      refine inB_n ?_
      refine thenQ_n ?_
      refine E_region ?_
      refine EL_val (R_move rfl) rfl rfl rfl ?_
      first | refine EL_val (R_inc rfl (by omega)) rfl rfl rfl ?_ | refine EL_val (R_add_in rfl rfl (by omega) (by omega)) rfl rfl rfl ?_
      refine EL_val (R_assign rfl) rfl rfl rfl ?_
      refine EL_nil ?_
      refine thenQ_n ?_
      exact ⟨rfl, 12 - (q + 1), [(0, .int .i64 (N : Int)), (1, .slice (some ⟨gT, iT, none⟩) T.length c), (5, ptr d), (7, ptr r), (8, .int .i64 (i : Int)), (16, .int .i64 ((q + 1 : Nat) : Int))], by omega, ⟨rfl, rfl, rfl, rfl, rfl, rfl, trivial⟩, q + 1, by omega, rfl, rfl, hm8.trans hm9⟩
    · have hfin : ∃ k, q = k := ⟨q, rfl⟩
      have hstep : Mods No w7 w8 → Disk w8 B d S7 ∧ Ref w8 B r S7 ∧ Below B w w8 ∧ ActsAt B w8 (some ⟨gT, iT, none⟩) T := fun h => ⟨⟨_, _, _, hD8⟩, hR8.ref, bl_no bl7 (by omega) h, hT7.below (h.below (by have := bl7.size; omega) fun _ _ => id)⟩
      obtain ⟨k1, k2, k3, k4⟩ := hstep hm8
      by_cases hq1 : q < N
      · refine E_seq ?_
        refine E_seqR ?_
        refine EL_val (R_move rfl) rfl rfl rfl ?_
        refine EL_val (R_move rfl) rfl rfl rfl ?_
        first | refine EL_val (R_lss_t rfl rfl (by omega)) rfl rfl rfl ?_ | refine EL_val (R_lss_f rfl rfl (by omega)) rfl rfl rfl ?_
        refine EL_val (R_move rfl) rfl rfl rfl ?_
        first | refine EL_val (R_move rfl) rfl rfl rfl ?_ | refine EL_not rfl rfl rfl ?_
        first | refine EL_val (R_lss_t rfl rfl (by omega)) rfl rfl rfl ?_ | refine EL_val (R_lss_f rfl rfl (by omega)) rfl rfl rfl ?_ | refine EL_not rfl rfl rfl ?_
        first | refine EL_val (R_pick_t rfl rfl) rfl rfl rfl ?_ | refine EL_val (R_pick_f rfl rfl) rfl rfl rfl ?_
        refine EL_nil ?_
        refine E_cond_f rfl ?_
        refine E_exit ?_
        refine thenQ_e ?_
        refine thenQ_e ?_
        refine inB_eq rfl ?_
        refine inB_n ?_
        refine thenQ_n ?_
        refine E_region ?_
        refine EL_val (R_move rfl) rfl rfl rfl ?_
        first | refine EL_val (R_inc rfl (by omega)) rfl rfl rfl ?_ | refine EL_val (R_add_in rfl rfl (by omega) (by omega)) rfl rfl rfl ?_
        refine EL_val (R_assign rfl) rfl rfl rfl ?_
        refine EL_nil ?_
        refine thenQ_n ?_
        exact ⟨rfl, 100 - (i + 1), [(0, .int .i64 (N : Int)), (1, .slice (some ⟨gT, iT, none⟩) T.length c), (5, ptr d), (7, ptr r), (8, .int .i64 ((i + 1 : Nat) : Int))], by omega, ⟨rfl, rfl, rfl, rfl, rfl, trivial⟩, i + 1, _, S7, by omega, rfl, rfl, k4, k1, k2, k3, hSn7, hlen7⟩
      · refine E_seq ?_
        refine E_seqR ?_
        refine EL_val (R_move rfl) rfl rfl rfl ?_
        refine EL_val (R_move rfl) rfl rfl rfl ?_
        first | refine EL_val (R_lss_t rfl rfl (by omega)) rfl rfl rfl ?_ | refine EL_val (R_lss_f rfl rfl (by omega)) rfl rfl rfl ?_
        refine EL_val (R_move rfl) rfl rfl rfl ?_
        first | refine EL_val (R_move rfl) rfl rfl rfl ?_ | refine EL_not rfl rfl rfl ?_
        first | refine EL_val (R_lss_t rfl rfl (by omega)) rfl rfl rfl ?_ | refine EL_val (R_lss_f rfl rfl (by omega)) rfl rfl rfl ?_ | refine EL_not rfl rfl rfl ?_
        first | refine EL_val (R_pick_t rfl rfl) rfl rfl rfl ?_ | refine EL_val (R_pick_f rfl rfl) rfl rfl rfl ?_
        refine EL_nil ?_
        refine E_cond_f rfl ?_
        refine E_exit ?_
        refine thenQ_e ?_
        refine thenQ_e ?_
        refine inB_eq rfl ?_
        refine inB_n ?_
        refine thenQ_n ?_
        refine E_region ?_
        refine EL_val (R_move rfl) rfl rfl rfl ?_
        first | refine EL_val (R_inc rfl (by omega)) rfl rfl rfl ?_ | refine EL_val (R_add_in rfl rfl (by omega) (by omega)) rfl rfl rfl ?_
        refine EL_val (R_assign rfl) rfl rfl rfl ?_
        refine EL_nil ?_
        refine thenQ_n ?_
        exact ⟨rfl, 100 - (i + 1), [(0, .int .i64 (N : Int)), (1, .slice (some ⟨gT, iT, none⟩) T.length c), (5, ptr d), (7, ptr r), (8, .int .i64 ((i + 1 : Nat) : Int))], by omega, ⟨rfl, rfl, rfl, rfl, rfl, trivial⟩, i + 1, _, S7, by omega, rfl, rfl, k4, k1, k2, k3, hSn7, hlen7⟩
  · have e1 : openS S (-1) = 0 := by simp [openS]
    have e2 : openS S N = 0 := by simp [openS, hSn]
    have hblk := blocks_ok hD
    rw [hSn] at hblk
    by_cases hi1 : i < T.length
    · refine E_seq ?_
      refine E_seqR ?_
      refine EL_val (R_move rfl) rfl rfl rfl ?_
      refine EL_val (R_move rfl) rfl rfl rfl ?_
      refine EL_val (R_lenSlice rfl Try.underlying42) rfl rfl rfl ?_
      first | refine EL_val (R_lss_t rfl rfl (by omega)) rfl rfl rfl ?_ | refine EL_val (R_lss_f rfl rfl (by omega)) rfl rfl rfl ?_
      refine EL_val (R_move rfl) rfl rfl rfl ?_
      first | refine EL_val (R_move rfl) rfl rfl rfl ?_ | refine EL_not rfl rfl rfl ?_
      first | refine EL_val (R_lss_t rfl rfl (by omega)) rfl rfl rfl ?_ | refine EL_val (R_lss_f rfl rfl (by omega)) rfl rfl rfl ?_ | refine EL_not rfl rfl rfl ?_
      first | refine EL_val (R_pick_t rfl rfl) rfl rfl rfl ?_ | refine EL_val (R_pick_f rfl rfl) rfl rfl rfl ?_
      refine EL_nil ?_
      refine E_cond_f rfl ?_
      refine E_exit ?_
      refine thenQ_e ?_
      refine thenQ_e ?_
      refine inB_eq rfl ?_
      refine thenQ_n ?_
      refine E_seqR ?_
      refine EL_val (R_move rfl) rfl rfl rfl ?_
      refine EL_step rfl ?_
      refine EO_call K.bd13 rfl rfl ((open_ok hD (-1))) ?_
      rintro _ _ ⟨rfl, rfl⟩
      first | refine EL_val (R_eql_t rfl rfl (e1)) rfl rfl rfl ?_ | refine EL_val (R_eql_f rfl rfl (e1)) rfl rfl rfl ?_
      refine EL_val (R_move rfl) rfl rfl rfl ?_
      first | refine EL_val (R_move rfl) rfl rfl rfl ?_ | refine EL_not rfl rfl rfl ?_
      first | refine EL_val (R_move rfl) rfl rfl rfl ?_ | refine EL_not rfl rfl rfl ?_
      refine EL_step rfl ?_
      refine EO_call K.bd13 rfl rfl ((open_ok hD N)) ?_
      rintro _ _ ⟨rfl, rfl⟩
      first | refine EL_val (R_eql_t rfl rfl (e2)) rfl rfl rfl ?_ | refine EL_val (R_eql_f rfl rfl (e2)) rfl rfl rfl ?_
      first | refine EL_val (R_pick_t rfl rfl) rfl rfl rfl ?_ | refine EL_val (R_pick_f rfl rfl) rfl rfl rfl ?_
      refine EL_val (R_move rfl) rfl rfl rfl ?_
      first | refine EL_val (R_move rfl) rfl rfl rfl ?_ | refine EL_not rfl rfl rfl ?_
      refine EL_step rfl ?_
      refine EO_call K.bd21 rfl rfl (hblk) ?_
      rintro _ _ ⟨rfl, rfl⟩
      first | refine EL_val (R_move rfl) rfl rfl rfl ?_ | refine EL_not rfl rfl rfl ?_
      first | refine EL_val (R_eql_t rfl rfl (by omega)) rfl rfl rfl ?_ | refine EL_val (R_eql_f rfl rfl (by omega)) rfl rfl rfl ?_ | refine EL_not rfl rfl rfl ?_
      first | refine EL_val (R_pick_t rfl rfl) rfl rfl rfl ?_ | refine EL_val (R_pick_f rfl rfl) rfl rfl rfl ?_
      refine EL_val (R_assign rfl) rfl rfl rfl ?_
      refine EL_nil ?_
      refine E_ret ?_
      refine ret1 (.inr rfl) rfl rfl ?_
      exact ⟨rfl, bl4⟩
    · refine E_seq ?_
      refine E_seqR ?_
      refine EL_val (R_move rfl) rfl rfl rfl ?_
      refine EL_val (R_move rfl) rfl rfl rfl ?_
      refine EL_val (R_lenSlice rfl Try.underlying42) rfl rfl rfl ?_
      first | refine EL_val (R_lss_t rfl rfl (by omega)) rfl rfl rfl ?_ | refine EL_val (R_lss_f rfl rfl (by omega)) rfl rfl rfl ?_
      refine EL_val (R_move rfl) rfl rfl rfl ?_
      first | refine EL_val (R_move rfl) rfl rfl rfl ?_ | refine EL_not rfl rfl rfl ?_
      first | refine EL_val (R_lss_t rfl rfl (by omega)) rfl rfl rfl ?_ | refine EL_val (R_lss_f rfl rfl (by omega)) rfl rfl rfl ?_ | refine EL_not rfl rfl rfl ?_
      first | refine EL_val (R_pick_t rfl rfl) rfl rfl rfl ?_ | refine EL_val (R_pick_f rfl rfl) rfl rfl rfl ?_
      refine EL_nil ?_
      refine E_cond_f rfl ?_
      refine E_exit ?_
      refine thenQ_e ?_
      refine thenQ_e ?_
      refine inB_eq rfl ?_
      refine thenQ_n ?_
      refine E_seqR ?_
      refine EL_val (R_move rfl) rfl rfl rfl ?_
      refine EL_step rfl ?_
      refine EO_call K.bd13 rfl rfl ((open_ok hD (-1))) ?_
      rintro _ _ ⟨rfl, rfl⟩
      first | refine EL_val (R_eql_t rfl rfl (e1)) rfl rfl rfl ?_ | refine EL_val (R_eql_f rfl rfl (e1)) rfl rfl rfl ?_
      refine EL_val (R_move rfl) rfl rfl rfl ?_
      first | refine EL_val (R_move rfl) rfl rfl rfl ?_ | refine EL_not rfl rfl rfl ?_
      first | refine EL_val (R_move rfl) rfl rfl rfl ?_ | refine EL_not rfl rfl rfl ?_
      refine EL_step rfl ?_
      refine EO_call K.bd13 rfl rfl ((open_ok hD N)) ?_
      rintro _ _ ⟨rfl, rfl⟩
      first | refine EL_val (R_eql_t rfl rfl (e2)) rfl rfl rfl ?_ | refine EL_val (R_eql_f rfl rfl (e2)) rfl rfl rfl ?_
      first | refine EL_val (R_pick_t rfl rfl) rfl rfl rfl ?_ | refine EL_val (R_pick_f rfl rfl) rfl rfl rfl ?_
      refine EL_val (R_move rfl) rfl rfl rfl ?_
      first | refine EL_val (R_move rfl) rfl rfl rfl ?_ | refine EL_not rfl rfl rfl ?_
      refine EL_step rfl ?_
      refine EO_call K.bd21 rfl rfl (hblk) ?_
      rintro _ _ ⟨rfl, rfl⟩
      first | refine EL_val (R_move rfl) rfl rfl rfl ?_ | refine EL_not rfl rfl rfl ?_
      first | refine EL_val (R_eql_t rfl rfl (by omega)) rfl rfl rfl ?_ | refine EL_val (R_eql_f rfl rfl (by omega)) rfl rfl rfl ?_ | refine EL_not rfl rfl rfl ?_
      first | refine EL_val (R_pick_t rfl rfl) rfl rfl rfl ?_ | refine EL_val (R_pick_f rfl rfl) rfl rfl rfl ?_
      refine EL_val (R_assign rfl) rfl rfl rfl ?_
      refine EL_nil ?_
      refine E_ret ?_
      refine ret1 (.inr rfl) rfl rfl ?_
      exact ⟨rfl, bl4⟩
theorem plays_row {H : Type} {enc : TypeId × Value → H} {W : World} {base : Nat} {v0 v1 : Value} {d0 d1 : DataW H} {p0 p1 : List MemPlace} (k0 : Value.okWide Try.prog W .any base 3 v0) (h0 : DataW.Trod enc Try.prog W 0 (fun _ => true) true 3 v0 d0 p0)
    (k1 : Value.okWide Try.prog W .any base 42 v1) (h1 : DataW.Trod enc Try.prog W 0 (fun _ => true) true 42 v1 d1 p1) (hb : Rows.uptoBulkAll [d0, d1] ≤ 1048576) :
    Ret Try.prog 5 [v0, v1] W fun r w' => r = .bool true ∧ Below W.heap.size W w' := by
  obtain ⟨n, rfl, rfl, rfl, hn⟩ := open_int Try.underlying3 k0 h0
  obtain ⟨A1, n1, c1, rfl⟩ := okWide_slice Try.underlying42 k1
  obtain ⟨f1, h1⟩ := h1
  obtain ⟨B1, T, c1', e1, hT⟩ := acts_open h1 (by have := bulk_mem (d := d1) (l := [.lit (.int .i64 n), d1]) (by simp); simp only at this ⊢; omega)
  rw [e1]
  exact plays_walk hT
theorem diskPlays_own : ownKnob Try.prog.godebug = none := by kernel_rfl
theorem diskPlays_laidOut : laidOutB Try.prog = true := by kernel_rfl
set_option maxRecDepth 100000 in
theorem diskPlays_lifted (os : Os) (started : os.Started) (H : Type) (enc : TypeId × Value → H) (F : Stop.Interp) :
    ReturnsInHanded {} Try.checked os 5 .any ((Rows.OpenSpec.upto Rows.diskPlaysSpec).pre6 enc Try.prog Try.f5 Rows.diskPlaysUptoRow.domain false) (((Rows.OpenSpec.upto Rows.diskPlaysSpec).at F).post enc Try.prog Try.f5 false true false false) := by
  refine returnsInHanded_of_cond (C := Try.checked) (s := Rows.OpenSpec.upto Rows.diskPlaysSpec) (k := Rows.uptoSmall) rfl diskPlays_own started (by kernel_rfl) Try.func5
    (OpenSpec.witness (enc := enc) (C := Try.checked) (s := Rows.OpenSpec.upto Rows.diskPlaysSpec) (k := Rows.uptoSmall) rfl false ⟨#[], #[.int .i64 0, .slice none 0 0], []⟩ 8 (by kernel_rfl) (by kernel_rfl) (by kernel_rfl) (x := ([.lit (.int .i64 0), .nil], [], [])) (by kernel_rfl) rfl (by kernel_rfl)) ?_
  intro W base args ds gs before hval0 hW _ hk _
  have hval : ∀ (j : Nat) t v, Try.f5.params[j]? = some t → args[j]? = some v → Value.okWide Try.prog W .any base t v := hval0
  have hW' := hW
  obtain ⟨p, q, hA0, hV, rfl, hfz, hnd⟩ := hW
  have hA : DataW.TrodAll enc Try.prog W 0 (fun _ => true) true Try.f5.params.toList args.toList ds p := hA0
  rw [Try.params5] at hA hval
  obtain ⟨v0, vs0, d0, ds0, p0, q0, hargs, rfl, rfl, h0, r0⟩ := trodAll_cons hA
  obtain ⟨v1, vs1, d1, ds1, p1, q1, rfl, rfl, rfl, h1, r1⟩ := trodAll_cons r0
  obtain ⟨rfl, rfl, rfl⟩ := trodAll_nil r1
  obtain rfl : args = #[v0, v1] := by cases args; simp_all
  obtain ⟨rfl, rfl⟩ := trodVars_none hV
  have lt0 : ∀ x ∈ p0, x.block < W.heap.size := by obtain ⟨m, hm⟩ := h0; exact DataW.trod_lt m _ _ _ hm
  have lt1 : ∀ x ∈ p1, x.block < W.heap.size := by obtain ⟨m, hm⟩ := h1; exact DataW.trod_lt m _ _ _ hm
  clear hA0 hval0
  have hbulk : Rows.uptoBulkAll [d0, d1] ≤ 1048576 := of_decide_eq_true hk
  refine Calls.mono (plays_row (hval 0 3 v0 rfl rfl) h0 (hval 1 42 v1 rfl rfl) h1 hbulk) ?_
  rintro x W' ⟨v, rfl, rfl, bel⟩
  exact ⟨_, rfl, _, _, _, [], _, [], hW', trodAll_mk1 (shut_bool Try.underlying4 _), (trodAll_cons_mk (Below.trod diskPlays_laidOut (by kernel_rfl) (of_decide_eq_true (by kernel_rfl)) h0 bel lt0) (trodAll_cons_mk (Below.trod diskPlays_laidOut (by kernel_rfl) (of_decide_eq_true (by kernel_rfl)) h1 bel lt1) trodAll_mk0)), rfl, bel.frame _, fun h => by cases h⟩
/-- THE STATEMENT -/
theorem diskPlaysUpto_holds : Rows.DiskPlaysUptoSaid :=
  OpenClaim.holds_of_cond 5 Try.f5 rfl rfl rfl rfl rfl rfl rfl ⟨rfl, rfl, rfl, rfl, rfl⟩ rfl rfl rfl rfl rfl (by kernel_rfl) Try.func5 (by kernel_rfl)
    (of_decide_eq_true (by kernel_rfl)) (by unfold Func.isWrapper; first | (rw [if_pos (by decide +kernel)]; kernel_rfl) | (rw [if_neg (by decide +kernel)]; exact ⟨rfl, rfl⟩))
    (fun os started H enc _ F => diskPlays_lifted os started H enc F)
#print axioms diskPlaysUpto_holds
end Go.Proofs.Ytphnhhcefoghpaa
