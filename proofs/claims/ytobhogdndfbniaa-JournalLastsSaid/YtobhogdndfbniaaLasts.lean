/- The law JournalLasts: the walk through its code. -/
import Derived.Test.YtobhogdndfbniaaJTools
set_option linter.unusedVariables false
set_option linter.unusedSimpArgs false
set_option maxRecDepth 100000
namespace Go.Proofs.Ytobhogdndfbniaa
open Go.EW Go.RowKit

/-- the law's own variables -/
structure LS (w0 w : World) (g d j bl : Nat) (u1 u2 : Value) (J : JS) (C : Array Value) : Prop where
  hj : JAt w w0.heap.size d j J
  hg : Bk w g #[ptr d, ptr j, u1, u2, .bool false] 32
  hl : Bk w bl C 9
  no : Mods No w0 w
  gB : w0.heap.size ≤ g
  lB : w0.heap.size ≤ bl
/-- the plain state -/
structure LP (J : JS) (s : Int) (lst : Nat → List UInt8) : Prop where
  inv : ∃ V, Inv J V ∧ ∀ k, k < 140 → V (60 + k) = if lst k = [] then zerosB 64 else lst k
  n : J.st.n = 200
  s : J.nS = s
section
variable {w0 w w' : World} {g d j bl : Nat} {u1 u2 : Value} {J J' : JS} {C C' : Array Value}
theorem LS.mv (h : LS w0 w g d j bl u1 u2 J C) (hm : Mods No w w') : LS w0 w' g d j bl u1 u2 J C := ⟨h.hj.no hm, hm.bk' h.hg, hm.bk' h.hl, h.no.trans hm, h.gB, h.lB⟩
theorem LS.tm (h : LS w0 w g d j bl u1 u2 J C) (hj : JAt w' w0.heap.size d j J') (hm : TM JT w0.heap.size w w') : LS w0 w' g d j bl u1 u2 J' C :=
  ⟨hj, hm.bk h.hg (by decide), hm.bk h.hl (by decide), TM.no_of h.no hm (Nat.le_refl _), h.gB, h.lB⟩
theorem LS.re {w1 : World} (h : LS w0 w g d j bl u1 u2 J C) (hm : TM JT w0.heap.size w w1) {j' : Nat} (hj : JAt w1 w0.heap.size d j' J') (hu : Upd w1 w' g (#[ptr d, ptr j, u1, u2, .bool false].setIfInBounds (0 + 1) (ptr j')) 32) : LS w0 w' g d j' bl u1 u2 J' C := by
  have hg1 := hm.bk h.hg (by decide)
  have hl1 := hm.bk h.hl (by decide)
  exact ⟨hj.upd hu hg1 (by decide), hu.bk, hu.mods.bk hl1 (fun e => by subst e; exact absurd (hl1.inj hg1).2 (by decide)), (TM.no_of h.no hm (Nat.le_refl _)).trans' hu.mods (fun k hk e => by have := h.gB; omega), h.gB, h.lB⟩
theorem LS.setL (h : LS w0 w g d j bl u1 u2 J C) (hu : Upd w w' bl C' 9) : LS w0 w' g d j bl u1 u2 J C' :=
  ⟨h.hj.upd hu h.hl (by decide), hu.mods.bk h.hg (fun e => by subst e; exact absurd (h.hg.inj h.hl).2 (by decide)), hu.bk, h.no.trans' hu.mods (fun k hk e => by have := h.lB; omega), h.gB, h.lB⟩
end
theorem LP.commit {J : JS} {s : Int} {lst : Nat → List UInt8} (h : LP J s lst) (hs : s < 1073741824) {k : Nat} (hk : k < 140) {b : List UInt8} (hb : b.length = 64) :
    GoodW J.st.n [(((60 + k : Nat) : Int), b)] ∧ soundS J.nS (tosL [(((60 + k : Nat) : Int), b)]) = true ∧ LP (commitJ J [(((60 + k : Nat) : Int), b)]) (s + 1) (fun q => if q = k then b else lst q) := by
  obtain ⟨V, hV, hl⟩ := h.inv
  have hn := h.n
  have hs' := h.s
  obtain ⟨h1, h2, h3, h4, h5⟩ := commit_one hV (i := 60 + k) hb (by omega) (by unfold homeN; omega) (by omega)
  refine ⟨h1, h2, ⟨⟨_, h3, fun q hq => ?_⟩, by omega, by omega⟩⟩
  by_cases hqk : q = k
  · subst hqk
    simp only [if_true]
    rw [if_neg (fun e => by rw [e] at hb; cases hb)]
  · simp only [if_neg hqk, if_neg (show ¬ 60 + q = 60 + k by omega)]
    exact hl q hq
theorem LP.again {J : JS} {s : Int} {lst : Nat → List UInt8} (h : LP J s lst) : getHeadS (nowS (restartS J.st []) 1) = some ((J.hA : Int), J.hS) ∧ LP (openJ (restartS J.st []) J.hA J.hS) s lst := by
  obtain ⟨V, hV, hl⟩ := h.inv
  obtain ⟨h1, h2, h3, h4⟩ := hV.restart
  exact ⟨h1, ⟨⟨V, h2, hl⟩, by rw [h4, h.n], by rw [h3, h.s]⟩⟩
theorem LP.new : LP (newJ 200) 1 (fun _ => []) := by
  obtain ⟨_, h1, h2, h3⟩ := new_inv (n := 200) (by omega) (by omega)
  exact ⟨⟨_, h1, fun k _ => by rw [if_pos rfl]⟩, h3, h2⟩
/-- a restart, and an opening -/
theorem reopen_ok {w : World} {B d : Nat} {J : JS} {s : Int} {lst : Nat → List UInt8} (hp : LP J s lst) (hD : Disk w B d (restartS J.st [])) (hB : B ≤ w.heap.size) :
    Ret Try.prog 10 [ptr d] w fun v w' => ∃ j' J', v = .tuple #[ptr j', .int .i64 0] ∧ JAt w' B d j' J' ∧ LP J' s lst ∧ TM JT B w w' := by
  obtain ⟨h1, h2⟩ := hp.again
  refine (openj_some hD (restartS_free _ _) hB (by show ¬ J.st.n < 64; have := hp.n; omega) (fun i hi => by rw [restartS_opn (S := J.st) hi]; simp) h1).mono fun v w' ⟨j', hv, hj, _, hm⟩ => ⟨j', _, hv, hj, h2, hm⟩
set_option maxHeartbeats 4000000 in
theorem lasts_walk {w : World} {A1 A2 : Option Addr} {T : List (List UInt8)} {a : List UInt8} {c1 c2 : Nat} (hT : BsArg w A1 T) (ha : BS w A2 a) (hal : a.length ≤ 9223372036854775807) :
    Ret Try.prog 3 [.slice A1 T.length c1, .slice A2 a.length c2] w fun v w' => v = .bool true ∧ Mods No w w' := by
  have hTl := hT.1
  have hgb := begin_game (w := w) (n := 200) (by omega) (by omega)
  obtain ⟨J0, hJ0⟩ : ∃ J0, J0 = newJ 200 := ⟨_, rfl⟩
  have hp0 := LP.new
  rw [← hJ0] at hgb hp0
  refine Ret.enter Try.func3 rfl Try.ntmps3 rfl ?_
  simp only [argEnv, Nat.reduceAdd]
  refine E_seqR ?_
  refine EL_val (R_assign rfl) rfl rfl rfl ?_
  refine EL_nil ?_
  refine E_seqR ?_
  refine EL_step rfl ?_
  refine EO_call K.bd6 rfl rfl (hgb) ?_
  rintro _ w1 ⟨g, j, d, u1, u2, rfl, hg1, hj1, hm1, hgB⟩
  (have hs1 := hm1.size)
  refine EL_val (R_assign rfl) rfl rfl rfl ?_
  refine EL_nil ?_
  refine E_seq ?_
  refine E_seqR ?_
  refine EL_val (R_move rfl) rfl rfl rfl ?_
  refine EL_val (R_eqlPtrNil rfl Try.underlying24) rfl rfl rfl ?_
  refine EL_val (R_move rfl) rfl rfl rfl ?_
  refine EL_step rfl ?_
  refine EO_call K.bd7 rfl rfl (awake16_ok) ?_
  rintro _ w2 ⟨rfl, hm2⟩
  first | refine EL_val (R_not rfl) rfl rfl rfl ?_ | refine EL_not rfl rfl rfl ?_
  first | refine EL_val (R_pick_t rfl rfl) rfl rfl rfl ?_ | refine EL_val (R_pick_f rfl rfl) rfl rfl rfl ?_
  refine EL_nil ?_
  refine E_cond_f rfl ?_
  refine E_skip ?_
  refine thenQ_n ?_
  refine E_seqR ?_
  refine EL_step rfl ?_
  refine EO_makeSlice 140 140 rfl rfl Try.underlying27 K.zr9 K.sz9 K.by9 (by first | rfl | omega) (by first | rfl | omega) (by omega) (by omega) (by omega) rfl ?_
  intro w3 hn3
  refine EL_val (R_assign rfl) rfl rfl rfl ?_
  refine EL_nil ?_
  refine E_seq ?_
  refine E_seqR ?_
  refine EL_val (R_assign rfl) rfl rfl rfl ?_
  refine EL_nil ?_
  have hs2 := hm2.size
  have hs3 := hn3.size
  have hst3 : Strs (madeCells (Value.string ByteArray.empty).cells (140 * 1)) 140 (fun _ => []) := by
    have e : madeCells (Value.string ByteArray.empty).cells (140 * 1) = Array.replicate 140 (.string (str [])) := madeCells_one (.string ByteArray.empty) 140
    rw [e]
    exact ⟨by simp, fun i hi => by simp [hi]⟩
  obtain ⟨bl, hbl⟩ : ∃ bl, bl = w2.heap.size := ⟨_, rfl⟩
  have hl3 := hn3.bk
  rw [← hbl] at hl3 ⊢
  obtain ⟨C0, hC0⟩ : ∃ C0, C0 = madeCells (Value.string ByteArray.empty).cells (140 * 1) := ⟨_, rfl⟩
  rw [← hC0] at hst3 hl3
  have hm13 := hm2.trans hn3.mods
  have ls3 : LS w w3 g d j bl u1 u2 J0 C0 := ⟨hj1.no hm13, hm13.bk' hg1, hl3, hm1.trans hm13, hgB, by omega⟩
  clear hn3 hm2 hm1 hj1 hg1 hl3 hm13 hgb
  refine E_cut (fun e0 w' => ∃ j J C s lst, e0 = [(5, ptr g), (6, .slice (some ⟨bl, 0, none⟩) 140 140)] ∧ LS w w' g d j bl u1 u2 J C ∧ Strs C 140 lst ∧ LP J s lst) ?_ ?_
  · refine E_block ?_
    refine E_loop (fun m' e' w' => ∃ i j J C lst, i ≤ 60 ∧ m' = 60 - i ∧ e' = [(0, .slice (A1) T.length c1), (1, .slice (A2) a.length c2), (5, ptr g), (6, .slice (some ⟨bl, 0, none⟩) 140 140), (7, .int .i64 ((i : Nat) : Int))] ∧ LS w w' g d j bl u1 u2 J C ∧ Strs C 140 lst ∧ LP J (1 + (i : Int)) lst) 60 [(0, .slice (A1) T.length c1), (1, .slice (A2) a.length c2), (5, ptr g), (6, .slice (some ⟨bl, 0, none⟩) 140 140), (7, .int .i64 ((0 : Nat) : Int))] ⟨rfl, rfl, rfl, rfl, rfl, trivial⟩
      ⟨0, j, J0, C0, _, by omega, rfl, rfl, ls3, hst3, (by rw [show (1 : Int) + ((0 : Nat) : Int) = 1 from rfl]; exact hp0)⟩ ?_
    clear ls3 hst3 hp0 hC0 hJ0 hs1 hs2 hs3 hbl
    clear j J0 C0 w1 w2 w3
    rintro m' e w1 ⟨i, j, J, C, lst, hi, rfl, rfl, ls, hst, hp⟩
    have hs1 := ls.no.size
    by_cases hin : i < T.length ∧ i < a.length ∧ i < 60
    · obtain ⟨hi1, hi2, hi3⟩ := hin
      obtain ⟨gt, it, rfl, hct⟩ := hT.2 (by omega)
      obtain ⟨Ak, ck, hk1, hk2⟩ := hct i hi1
      obtain ⟨ga, oa, rfl, hca⟩ := ha.cell hi2
      obtain ⟨n, hn⟩ : ∃ n, n = a[i].toNat % 140 := ⟨_, rfl⟩
      have hn140 : n < 140 := by omega
      have hx256 : a[i].toNat < 256 := UInt8.toNat_lt _
      obtain ⟨b, hb⟩ : ∃ b, b = pad64 T[i] := ⟨_, rfl⟩
      have hbl64 : b.length = 64 := by rw [hb]; exact pad64_length _
      obtain ⟨hgood, hsound, hpc⟩ := hp.commit (by omega) hn140 hbl64
      obtain ⟨V, hV, _⟩ := hp.inv
      have hcm := fun {w : World} {B d j : Nat} (h : JAt w B d j J) (hB : B ≤ w.heap.size) {A : Option Addr} {c base b1 : Nat} {xs : List Value} (how : w.ownsRow base 35 2 (.slice A 1 c) 1 xs) (hwl : WLo w b1 [(((60 + n : Nat) : Int), b)] xs) => commit_ok (L := [(((60 + n : Nat) : Int), b)]) h hB hV.nA hV.n1 (by have := hV.used; omega) ⟨by have := hV.hS; have := hV.hle; omega, by have := hp.s; omega⟩ (fun i hi => by have := hV.few i hi; omega) how hwl (by simp) (by simp) hgood hsound
      obtain ⟨J1, hJ1⟩ : ∃ J1, J1 = commitJ J [(((60 + n : Nat) : Int), b)] := ⟨_, rfl⟩
      rw [← hJ1] at hcm hpc
      by_cases h7 : i % 7 = 3
      · refine E_seq ?_
        refine E_seqR ?_
        refine EL_val (R_move rfl) rfl rfl rfl ?_
        refine EL_val (R_move rfl) rfl rfl rfl ?_
        refine EL_val (R_lenSlice rfl Try.underlying22) rfl rfl rfl ?_
        first | refine EL_val (R_lss_t rfl rfl (by omega)) rfl rfl rfl ?_ | refine EL_val (R_lss_f rfl rfl (by omega)) rfl rfl rfl ?_
        refine EL_val (R_move rfl) rfl rfl rfl ?_
        first | refine EL_val (R_move rfl) rfl rfl rfl ?_ | refine EL_not rfl rfl rfl ?_
        first | refine EL_val (R_move rfl) rfl rfl rfl ?_ | refine EL_not rfl rfl rfl ?_
        first | refine EL_val (R_lenSlice rfl Try.underlying23) rfl rfl rfl ?_ | refine EL_not rfl rfl rfl ?_
        first | refine EL_val (R_lss_t rfl rfl (by omega)) rfl rfl rfl ?_ | refine EL_val (R_lss_f rfl rfl (by omega)) rfl rfl rfl ?_ | refine EL_not rfl rfl rfl ?_
        first | refine EL_val (R_pick_t rfl rfl) rfl rfl rfl ?_ | refine EL_val (R_pick_f rfl rfl) rfl rfl rfl ?_
        refine EL_val (R_move rfl) rfl rfl rfl ?_
        first | refine EL_val (R_move rfl) rfl rfl rfl ?_ | refine EL_not rfl rfl rfl ?_
        first | refine EL_val (R_lss_t rfl rfl (by omega)) rfl rfl rfl ?_ | refine EL_val (R_lss_f rfl rfl (by omega)) rfl rfl rfl ?_ | refine EL_not rfl rfl rfl ?_
        first | refine EL_val (R_pick_t rfl rfl) rfl rfl rfl ?_ | refine EL_val (R_pick_f rfl rfl) rfl rfl rfl ?_
        refine EL_nil ?_
        refine E_cond_t rfl ?_
        refine E_skip ?_
        refine thenQ_n ?_
        refine E_seq ?_
        refine E_block ?_
        refine E_seqR ?_
        refine EL_step rfl ?_
        refine EO_makeSlice 64 64 rfl rfl Try.underlying23 K.zr5 K.sz5 K.by5 (by first | rfl | omega) (by first | rfl | omega) (by omega) (by omega) (by omega) rfl ?_
        intro w2 hn2
        refine EL_val (R_assign rfl) rfl rfl rfl ?_
        refine EL_nil ?_
        refine E_seqR ?_
        refine EL_val (R_move rfl) rfl rfl rfl ?_
        refine EL_val (R_move rfl) rfl rfl rfl ?_
        refine EL_val (R_move rfl) rfl rfl rfl ?_
        refine EL_val (R_indexAddr rfl rfl Try.underlying22 K.sz23 (m := i) rfl hi1) rfl rfl rfl ?_
        refine EL_val (R_load rfl K.ag23 ((by rw [Nat.mul_one]; exact (ls.no.trans hn2.mods).cell hk1 id))) rfl rfl rfl ?_
        refine EL_step rfl ?_
        refine EO_copy hn2.bk (hk2.no (ls.no.trans hn2.mods)) bval_one (by rw [size_madeCells]; omega) rfl rfl Try.underlying23 K.sz5 rfl ?_
        intro w3 hu3
        (have hob2 : OB w1.heap.size w2 (.slice (some ⟨w1.heap.size, 0, none⟩) 64 64) (zerosB 64) := OB.new hn2 (Nat.le_refl _) (by simp only [maxLen]; omega); have hob3 : OB w1.heap.size w3 (.slice (some ⟨w1.heap.size, 0, none⟩) 64 64) b := (by rw [hb]; exact ob_pad hob2 hn2.bk hu3); have hno13 : Mods No w1 w3 := hn2.mods.trans' hu3.mods (fun k hk e => by omega); have hs2 := hn2.size; have hs3 := hu3.size; have ls3 := ls.mv hno13)
        refine EL_nil ?_
        refine E_seqR ?_
        refine EL_val (R_move rfl) rfl rfl rfl ?_
        refine EL_val (R_move rfl) rfl rfl rfl ?_
        refine EL_val (R_indexAddr rfl rfl Try.underlying23 K.sz5 (m := i) rfl hi2) rfl rfl rfl ?_
        refine EL_val (R_load rfl K.ag5 ((by rw [Nat.mul_one]; exact ls3.no.cell hca id))) rfl rfl rfl ?_
        refine EL_val (R_convInt (a[i].toNat : Int) (wrap_i64_in (by omega) (by omega)) rfl Try.underlying5 Try.underlying3) rfl rfl rfl ?_
        refine EL_val (R_remE (n : Int) (by omega) (by omega) (by omega) rfl rfl) rfl rfl rfl ?_
        refine EL_val (R_assign rfl) rfl rfl rfl ?_
        refine EL_nil ?_
        refine E_seq ?_
        refine E_seqR ?_
        refine EL_val (R_move rfl) rfl rfl rfl ?_
        refine EL_val (R_nilCheck rfl) rfl rfl rfl ?_
        refine EL_val (R_fieldAddr rfl K.fT32_1) rfl rfl rfl ?_
        refine EL_val (R_load rfl K.ag30 (ls3.hg.cell rfl)) rfl rfl rfl ?_
        refine EL_val (R_move rfl) rfl rfl rfl ?_
        refine EL_val (R_addE (((60 + n : Nat) : Int)) rfl rfl (by omega) (by omega) (by omega)) rfl rfl rfl ?_
        refine EL_val (R_move rfl) rfl rfl rfl ?_
        refine EL_val (R_build (cells := #[.int .i64 ((60 + n : Nat) : Int), .slice (some ⟨w1.heap.size, 0, none⟩) 64 64]) K.zr35 K.pl35 rfl rfl) rfl rfl rfl ?_
        refine EL_step rfl ?_
        refine EO_buildSlice Try.underlying42 K.zr35 K.sz35 rfl rfl rfl (fill_whole rfl (by rw [size_madeCells])) rfl ?_
        intro w4 hn4
        (have ls4 := ls3.mv hn4.mods; have hs4 := hn4.size; have hob4 := hn4.mods.own hob3 (fun _ _ h => h); have how4 : w4.ownsRow w3.heap.size 35 2 (.slice (some ⟨w3.heap.size, 0, none⟩) 1 1) 1 [.int .i64 ((60 + n : Nat) : Int), .slice (some ⟨w1.heap.size, 0, none⟩) 64 64] := hn4.own (m := 1) (size := 2) rfl (Nat.le_refl _) (by simp only [maxLen]; omega); have hwl4 : WLo w4 w1.heap.size [(((60 + n : Nat) : Int), b)] [.int .i64 ((60 + n : Nat) : Int), .slice (some ⟨w1.heap.size, 0, none⟩) 64 64] := ⟨⟨rfl, hob4⟩, trivial⟩)
        refine EL_step rfl ?_
        refine EO_call K.bd8 rfl rfl (hcm ls4.hj (by omega) how4 hwl4) ?_
        rintro _ w5 ⟨rfl, hj5, hm5⟩
        (have ls5 := ls4.tm hj5 hm5; have hob5 := ob_tm hob4 hm5 (by decide); have hs5 := hm5.size; have hsr : Src w5 (some ⟨w1.heap.size, 0, none⟩) 64 1 (bval b) := (by unfold OB at hob5; rw [hbl64] at hob5; exact Src.own hob5))
        first | refine EL_val (R_neq_t rfl rfl (by omega)) rfl rfl rfl ?_ | refine EL_val (R_neq_f rfl rfl (by omega)) rfl rfl rfl ?_
        refine EL_nil ?_
        refine E_cond_f rfl ?_
        refine E_skip ?_
        refine thenQ_n ?_
        refine E_seqR ?_
        refine EL_val (R_move rfl) rfl rfl rfl ?_
        refine EL_val (R_move rfl) rfl rfl rfl ?_
        refine EL_val (R_move rfl) rfl rfl rfl ?_
        refine EL_val (R_bytesStr hbl64 hsr rfl Try.underlying23 Try.underlying5 Try.underlying9) rfl rfl rfl ?_
        refine EL_val (R_indexAddr rfl rfl Try.underlying27 K.sz9 (m := n) rfl hn140) rfl rfl rfl ?_
        refine EL_step rfl ?_
        refine EO_store1 rfl rfl K.sz9 rfl ls5.hl (by rw [hst.1]; omega) ?_
        intro w6 hu6
        (have e1 : 0 + n * 1 = n := (by omega); rw [e1] at hu6; have ls6 := ls5.setL hu6; have hst6 := hst.set hn140 b; have hs6 := hu6.size)
        refine EL_nil ?_
        refine E_seqR ?_
        refine EL_val (R_move rfl) rfl rfl rfl ?_
        refine EL_val (R_remE ((i % 7 : Nat) : Int) (by omega) (by omega) (by omega) rfl rfl) rfl rfl rfl ?_
        first | refine EL_val (R_eql_t rfl rfl (by omega)) rfl rfl rfl ?_ | refine EL_val (R_eql_f rfl rfl (by omega)) rfl rfl rfl ?_
        refine EL_nil ?_
        refine E_cond_t rfl ?_
        refine E_seqR ?_
        refine EL_val (R_move rfl) rfl rfl rfl ?_
        refine EL_val (R_nilCheck rfl) rfl rfl rfl ?_
        refine EL_val (R_fieldAddr rfl K.fT32_0) rfl rfl rfl ?_
        refine EL_val (R_load rfl K.ag29 (ls6.hg.cell rfl)) rfl rfl rfl ?_
        refine EL_step rfl ?_
        refine EO_call K.bd9 rfl rfl (restart_on ls6.hj.disk ints_nil) ?_
        rintro _ w7 ⟨hD7, hm7⟩
        (have hg7 := hm7.jt.bk ls6.hg (by decide); have hs7 := hm7.size)
        refine EL_nil ?_
        refine E_seqR ?_
        refine EL_val (R_move rfl) rfl rfl rfl ?_
        refine EL_val (R_nilCheck rfl) rfl rfl rfl ?_
        refine EL_val (R_fieldAddr rfl K.fT32_0) rfl rfl rfl ?_
        refine EL_val (R_load rfl K.ag29 (hg7.cell rfl)) rfl rfl rfl ?_
        refine EL_step rfl ?_
        refine EO_call K.bd10 rfl rfl (reopen_ok hpc hD7 (by omega)) ?_
        rintro _ w8 ⟨j', J', rfl, hj8, hp8, hm8⟩
        (have hm68 := hm7.jt.trans hm8; have hg8 := hm8.bk hg7 (by decide); have hl8 := hm68.bk ls6.hl (by decide))
        refine EL_val (R_move rfl) rfl rfl rfl ?_
        refine EL_val (R_extract rfl rfl) rfl rfl rfl ?_
        refine EL_val (R_extract rfl rfl) rfl rfl rfl ?_
        refine EL_val (R_assign rfl) rfl rfl rfl ?_
        refine EL_val (R_assign rfl) rfl rfl rfl ?_
        refine EL_nil ?_
        refine E_seq ?_
        refine E_seqR ?_
        refine EL_val (R_move rfl) rfl rfl rfl ?_
        first | refine EL_val (R_neq_t rfl rfl (by omega)) rfl rfl rfl ?_ | refine EL_val (R_neq_f rfl rfl (by omega)) rfl rfl rfl ?_
        refine EL_val (R_move rfl) rfl rfl rfl ?_
        first | refine EL_val (R_move rfl) rfl rfl rfl ?_ | refine EL_not rfl rfl rfl ?_
        first | refine EL_val (R_eqlPtrNil rfl Try.underlying30) rfl rfl rfl ?_ | refine EL_not rfl rfl rfl ?_
        first | refine EL_val (R_pick_t rfl rfl) rfl rfl rfl ?_ | refine EL_val (R_pick_f rfl rfl) rfl rfl rfl ?_
        refine EL_nil ?_
        refine E_cond_f rfl ?_
        refine E_skip ?_
        refine thenQ_n ?_
        refine E_region ?_
        refine EL_val (R_move rfl) rfl rfl rfl ?_
        refine EL_val (R_move rfl) rfl rfl rfl ?_
        refine EL_val (R_nilCheck rfl) rfl rfl rfl ?_
        refine EL_val (R_fieldAddr rfl K.fT32_1) rfl rfl rfl ?_
        refine EL_step rfl ?_
        refine EO_store1 rfl rfl K.sz30 rfl hg8 (by show 1 < 5; omega) ?_
        intro w9 hu9
        refine EL_nil ?_
        refine inB_n ?_
        refine thenQ_n ?_
        refine E_region ?_
        refine EL_val (R_move rfl) rfl rfl rfl ?_
        first | refine EL_val (R_inc rfl (by omega)) rfl rfl rfl ?_ | refine EL_val (R_add_in rfl rfl (by omega) (by omega)) rfl rfl rfl ?_
        refine EL_val (R_assign rfl) rfl rfl rfl ?_
        refine EL_nil ?_
        refine thenQ_n ?_
        have ls9 := ls6.re hm68 hj8 hu9
        exact ⟨rfl, 60 - (i + 1), [(0, .slice (some ⟨gt, it, none⟩) T.length c1), (1, .slice (some ⟨ga, oa, none⟩) a.length c2), (5, ptr g), (6, .slice (some ⟨bl, 0, none⟩) 140 140), (7, .int .i64 ((i + 1 : Nat) : Int))], by omega, ⟨rfl, rfl, rfl, rfl, rfl, trivial⟩, i + 1, j', J', _, _, by omega, rfl, rfl, ls9, hst6, by rw [show (1 : Int) + ((i + 1 : Nat) : Int) = 1 + (i : Int) + 1 by omega]; exact hp8⟩
      · refine E_seq ?_
        refine E_seqR ?_
        refine EL_val (R_move rfl) rfl rfl rfl ?_
        refine EL_val (R_move rfl) rfl rfl rfl ?_
        refine EL_val (R_lenSlice rfl Try.underlying22) rfl rfl rfl ?_
        first | refine EL_val (R_lss_t rfl rfl (by omega)) rfl rfl rfl ?_ | refine EL_val (R_lss_f rfl rfl (by omega)) rfl rfl rfl ?_
        refine EL_val (R_move rfl) rfl rfl rfl ?_
        first | refine EL_val (R_move rfl) rfl rfl rfl ?_ | refine EL_not rfl rfl rfl ?_
        first | refine EL_val (R_move rfl) rfl rfl rfl ?_ | refine EL_not rfl rfl rfl ?_
        first | refine EL_val (R_lenSlice rfl Try.underlying23) rfl rfl rfl ?_ | refine EL_not rfl rfl rfl ?_
        first | refine EL_val (R_lss_t rfl rfl (by omega)) rfl rfl rfl ?_ | refine EL_val (R_lss_f rfl rfl (by omega)) rfl rfl rfl ?_ | refine EL_not rfl rfl rfl ?_
        first | refine EL_val (R_pick_t rfl rfl) rfl rfl rfl ?_ | refine EL_val (R_pick_f rfl rfl) rfl rfl rfl ?_
        refine EL_val (R_move rfl) rfl rfl rfl ?_
        first | refine EL_val (R_move rfl) rfl rfl rfl ?_ | refine EL_not rfl rfl rfl ?_
        first | refine EL_val (R_lss_t rfl rfl (by omega)) rfl rfl rfl ?_ | refine EL_val (R_lss_f rfl rfl (by omega)) rfl rfl rfl ?_ | refine EL_not rfl rfl rfl ?_
        first | refine EL_val (R_pick_t rfl rfl) rfl rfl rfl ?_ | refine EL_val (R_pick_f rfl rfl) rfl rfl rfl ?_
        refine EL_nil ?_
        refine E_cond_t rfl ?_
        refine E_skip ?_
        refine thenQ_n ?_
        refine E_seq ?_
        refine E_block ?_
        refine E_seqR ?_
        refine EL_step rfl ?_
        refine EO_makeSlice 64 64 rfl rfl Try.underlying23 K.zr5 K.sz5 K.by5 (by first | rfl | omega) (by first | rfl | omega) (by omega) (by omega) (by omega) rfl ?_
        intro w2 hn2
        refine EL_val (R_assign rfl) rfl rfl rfl ?_
        refine EL_nil ?_
        refine E_seqR ?_
        refine EL_val (R_move rfl) rfl rfl rfl ?_
        refine EL_val (R_move rfl) rfl rfl rfl ?_
        refine EL_val (R_move rfl) rfl rfl rfl ?_
        refine EL_val (R_indexAddr rfl rfl Try.underlying22 K.sz23 (m := i) rfl hi1) rfl rfl rfl ?_
        refine EL_val (R_load rfl K.ag23 ((by rw [Nat.mul_one]; exact (ls.no.trans hn2.mods).cell hk1 id))) rfl rfl rfl ?_
        refine EL_step rfl ?_
        refine EO_copy hn2.bk (hk2.no (ls.no.trans hn2.mods)) bval_one (by rw [size_madeCells]; omega) rfl rfl Try.underlying23 K.sz5 rfl ?_
        intro w3 hu3
        (have hob2 : OB w1.heap.size w2 (.slice (some ⟨w1.heap.size, 0, none⟩) 64 64) (zerosB 64) := OB.new hn2 (Nat.le_refl _) (by simp only [maxLen]; omega); have hob3 : OB w1.heap.size w3 (.slice (some ⟨w1.heap.size, 0, none⟩) 64 64) b := (by rw [hb]; exact ob_pad hob2 hn2.bk hu3); have hno13 : Mods No w1 w3 := hn2.mods.trans' hu3.mods (fun k hk e => by omega); have hs2 := hn2.size; have hs3 := hu3.size; have ls3 := ls.mv hno13)
        refine EL_nil ?_
        refine E_seqR ?_
        refine EL_val (R_move rfl) rfl rfl rfl ?_
        refine EL_val (R_move rfl) rfl rfl rfl ?_
        refine EL_val (R_indexAddr rfl rfl Try.underlying23 K.sz5 (m := i) rfl hi2) rfl rfl rfl ?_
        refine EL_val (R_load rfl K.ag5 ((by rw [Nat.mul_one]; exact ls3.no.cell hca id))) rfl rfl rfl ?_
        refine EL_val (R_convInt (a[i].toNat : Int) (wrap_i64_in (by omega) (by omega)) rfl Try.underlying5 Try.underlying3) rfl rfl rfl ?_
        refine EL_val (R_remE (n : Int) (by omega) (by omega) (by omega) rfl rfl) rfl rfl rfl ?_
        refine EL_val (R_assign rfl) rfl rfl rfl ?_
        refine EL_nil ?_
        refine E_seq ?_
        refine E_seqR ?_
        refine EL_val (R_move rfl) rfl rfl rfl ?_
        refine EL_val (R_nilCheck rfl) rfl rfl rfl ?_
        refine EL_val (R_fieldAddr rfl K.fT32_1) rfl rfl rfl ?_
        refine EL_val (R_load rfl K.ag30 (ls3.hg.cell rfl)) rfl rfl rfl ?_
        refine EL_val (R_move rfl) rfl rfl rfl ?_
        refine EL_val (R_addE (((60 + n : Nat) : Int)) rfl rfl (by omega) (by omega) (by omega)) rfl rfl rfl ?_
        refine EL_val (R_move rfl) rfl rfl rfl ?_
        refine EL_val (R_build (cells := #[.int .i64 ((60 + n : Nat) : Int), .slice (some ⟨w1.heap.size, 0, none⟩) 64 64]) K.zr35 K.pl35 rfl rfl) rfl rfl rfl ?_
        refine EL_step rfl ?_
        refine EO_buildSlice Try.underlying42 K.zr35 K.sz35 rfl rfl rfl (fill_whole rfl (by rw [size_madeCells])) rfl ?_
        intro w4 hn4
        (have ls4 := ls3.mv hn4.mods; have hs4 := hn4.size; have hob4 := hn4.mods.own hob3 (fun _ _ h => h); have how4 : w4.ownsRow w3.heap.size 35 2 (.slice (some ⟨w3.heap.size, 0, none⟩) 1 1) 1 [.int .i64 ((60 + n : Nat) : Int), .slice (some ⟨w1.heap.size, 0, none⟩) 64 64] := hn4.own (m := 1) (size := 2) rfl (Nat.le_refl _) (by simp only [maxLen]; omega); have hwl4 : WLo w4 w1.heap.size [(((60 + n : Nat) : Int), b)] [.int .i64 ((60 + n : Nat) : Int), .slice (some ⟨w1.heap.size, 0, none⟩) 64 64] := ⟨⟨rfl, hob4⟩, trivial⟩)
        refine EL_step rfl ?_
        refine EO_call K.bd8 rfl rfl (hcm ls4.hj (by omega) how4 hwl4) ?_
        rintro _ w5 ⟨rfl, hj5, hm5⟩
        (have ls5 := ls4.tm hj5 hm5; have hob5 := ob_tm hob4 hm5 (by decide); have hs5 := hm5.size; have hsr : Src w5 (some ⟨w1.heap.size, 0, none⟩) 64 1 (bval b) := (by unfold OB at hob5; rw [hbl64] at hob5; exact Src.own hob5))
        first | refine EL_val (R_neq_t rfl rfl (by omega)) rfl rfl rfl ?_ | refine EL_val (R_neq_f rfl rfl (by omega)) rfl rfl rfl ?_
        refine EL_nil ?_
        refine E_cond_f rfl ?_
        refine E_skip ?_
        refine thenQ_n ?_
        refine E_seqR ?_
        refine EL_val (R_move rfl) rfl rfl rfl ?_
        refine EL_val (R_move rfl) rfl rfl rfl ?_
        refine EL_val (R_move rfl) rfl rfl rfl ?_
        refine EL_val (R_bytesStr hbl64 hsr rfl Try.underlying23 Try.underlying5 Try.underlying9) rfl rfl rfl ?_
        refine EL_val (R_indexAddr rfl rfl Try.underlying27 K.sz9 (m := n) rfl hn140) rfl rfl rfl ?_
        refine EL_step rfl ?_
        refine EO_store1 rfl rfl K.sz9 rfl ls5.hl (by rw [hst.1]; omega) ?_
        intro w6 hu6
        (have e1 : 0 + n * 1 = n := (by omega); rw [e1] at hu6; have ls6 := ls5.setL hu6; have hst6 := hst.set hn140 b; have hs6 := hu6.size)
        refine EL_nil ?_
        refine E_seqR ?_
        refine EL_val (R_move rfl) rfl rfl rfl ?_
        refine EL_val (R_remE ((i % 7 : Nat) : Int) (by omega) (by omega) (by omega) rfl rfl) rfl rfl rfl ?_
        first | refine EL_val (R_eql_t rfl rfl (by omega)) rfl rfl rfl ?_ | refine EL_val (R_eql_f rfl rfl (by omega)) rfl rfl rfl ?_
        refine EL_nil ?_
        refine E_cond_f rfl ?_
        refine E_skip ?_
        refine inB_n ?_
        refine thenQ_n ?_
        refine E_region ?_
        refine EL_val (R_move rfl) rfl rfl rfl ?_
        first | refine EL_val (R_inc rfl (by omega)) rfl rfl rfl ?_ | refine EL_val (R_add_in rfl rfl (by omega) (by omega)) rfl rfl rfl ?_
        refine EL_val (R_assign rfl) rfl rfl rfl ?_
        refine EL_nil ?_
        refine thenQ_n ?_
        exact ⟨rfl, 60 - (i + 1), [(0, .slice (some ⟨gt, it, none⟩) T.length c1), (1, .slice (some ⟨ga, oa, none⟩) a.length c2), (5, ptr g), (6, .slice (some ⟨bl, 0, none⟩) 140 140), (7, .int .i64 ((i + 1 : Nat) : Int))], by omega, ⟨rfl, rfl, rfl, rfl, rfl, trivial⟩, i + 1, j, J1, _, _, by omega, rfl, rfl, ls6, hst6, by rw [show (1 : Int) + ((i + 1 : Nat) : Int) = 1 + (i : Int) + 1 by omega]; exact hpc⟩
    · have hex : ¬ i < T.length ∨ (i < T.length ∧ ¬ i < a.length) ∨ (i < T.length ∧ i < a.length ∧ ¬ i < 60) := by omega
      rcases hex with hx | ⟨hx1, hx2⟩ | ⟨hx1, hx2, hx3⟩
      · refine E_seq ?_
        refine E_seqR ?_
        refine EL_val (R_move rfl) rfl rfl rfl ?_
        refine EL_val (R_move rfl) rfl rfl rfl ?_
        refine EL_val (R_lenSlice rfl Try.underlying22) rfl rfl rfl ?_
        first | refine EL_val (R_lss_t rfl rfl (by omega)) rfl rfl rfl ?_ | refine EL_val (R_lss_f rfl rfl (by omega)) rfl rfl rfl ?_
        refine EL_val (R_move rfl) rfl rfl rfl ?_
        first | refine EL_val (R_move rfl) rfl rfl rfl ?_ | refine EL_not rfl rfl rfl ?_
        first | refine EL_val (R_move rfl) rfl rfl rfl ?_ | refine EL_not rfl rfl rfl ?_
        first | refine EL_val (R_lenSlice rfl Try.underlying23) rfl rfl rfl ?_ | refine EL_not rfl rfl rfl ?_
        first | refine EL_val (R_lss_t rfl rfl (by omega)) rfl rfl rfl ?_ | refine EL_val (R_lss_f rfl rfl (by omega)) rfl rfl rfl ?_ | refine EL_not rfl rfl rfl ?_
        first | refine EL_val (R_pick_t rfl rfl) rfl rfl rfl ?_ | refine EL_val (R_pick_f rfl rfl) rfl rfl rfl ?_
        refine EL_val (R_move rfl) rfl rfl rfl ?_
        first | refine EL_val (R_move rfl) rfl rfl rfl ?_ | refine EL_not rfl rfl rfl ?_
        first | refine EL_val (R_lss_t rfl rfl (by omega)) rfl rfl rfl ?_ | refine EL_val (R_lss_f rfl rfl (by omega)) rfl rfl rfl ?_ | refine EL_not rfl rfl rfl ?_
        first | refine EL_val (R_pick_t rfl rfl) rfl rfl rfl ?_ | refine EL_val (R_pick_f rfl rfl) rfl rfl rfl ?_
        refine EL_nil ?_
        refine E_cond_f rfl ?_
        refine E_exit ?_
        refine thenQ_e ?_
        refine thenQ_e ?_
        refine inB_eq rfl ?_
        refine thenQ_n ?_
        exact ⟨rfl, [(5, ptr g), (6, .slice (some ⟨bl, 0, none⟩) 140 140)], ⟨rfl, rfl, trivial⟩, j, J, C, _, lst, rfl, ls, hst, hp⟩
      · refine E_seq ?_
        refine E_seqR ?_
        refine EL_val (R_move rfl) rfl rfl rfl ?_
        refine EL_val (R_move rfl) rfl rfl rfl ?_
        refine EL_val (R_lenSlice rfl Try.underlying22) rfl rfl rfl ?_
        first | refine EL_val (R_lss_t rfl rfl (by omega)) rfl rfl rfl ?_ | refine EL_val (R_lss_f rfl rfl (by omega)) rfl rfl rfl ?_
        refine EL_val (R_move rfl) rfl rfl rfl ?_
        first | refine EL_val (R_move rfl) rfl rfl rfl ?_ | refine EL_not rfl rfl rfl ?_
        first | refine EL_val (R_move rfl) rfl rfl rfl ?_ | refine EL_not rfl rfl rfl ?_
        first | refine EL_val (R_lenSlice rfl Try.underlying23) rfl rfl rfl ?_ | refine EL_not rfl rfl rfl ?_
        first | refine EL_val (R_lss_t rfl rfl (by omega)) rfl rfl rfl ?_ | refine EL_val (R_lss_f rfl rfl (by omega)) rfl rfl rfl ?_ | refine EL_not rfl rfl rfl ?_
        first | refine EL_val (R_pick_t rfl rfl) rfl rfl rfl ?_ | refine EL_val (R_pick_f rfl rfl) rfl rfl rfl ?_
        refine EL_val (R_move rfl) rfl rfl rfl ?_
        first | refine EL_val (R_move rfl) rfl rfl rfl ?_ | refine EL_not rfl rfl rfl ?_
        first | refine EL_val (R_lss_t rfl rfl (by omega)) rfl rfl rfl ?_ | refine EL_val (R_lss_f rfl rfl (by omega)) rfl rfl rfl ?_ | refine EL_not rfl rfl rfl ?_
        first | refine EL_val (R_pick_t rfl rfl) rfl rfl rfl ?_ | refine EL_val (R_pick_f rfl rfl) rfl rfl rfl ?_
        refine EL_nil ?_
        refine E_cond_f rfl ?_
        refine E_exit ?_
        refine thenQ_e ?_
        refine thenQ_e ?_
        refine inB_eq rfl ?_
        refine thenQ_n ?_
        exact ⟨rfl, [(5, ptr g), (6, .slice (some ⟨bl, 0, none⟩) 140 140)], ⟨rfl, rfl, trivial⟩, j, J, C, _, lst, rfl, ls, hst, hp⟩
      · refine E_seq ?_
        refine E_seqR ?_
        refine EL_val (R_move rfl) rfl rfl rfl ?_
        refine EL_val (R_move rfl) rfl rfl rfl ?_
        refine EL_val (R_lenSlice rfl Try.underlying22) rfl rfl rfl ?_
        first | refine EL_val (R_lss_t rfl rfl (by omega)) rfl rfl rfl ?_ | refine EL_val (R_lss_f rfl rfl (by omega)) rfl rfl rfl ?_
        refine EL_val (R_move rfl) rfl rfl rfl ?_
        first | refine EL_val (R_move rfl) rfl rfl rfl ?_ | refine EL_not rfl rfl rfl ?_
        first | refine EL_val (R_move rfl) rfl rfl rfl ?_ | refine EL_not rfl rfl rfl ?_
        first | refine EL_val (R_lenSlice rfl Try.underlying23) rfl rfl rfl ?_ | refine EL_not rfl rfl rfl ?_
        first | refine EL_val (R_lss_t rfl rfl (by omega)) rfl rfl rfl ?_ | refine EL_val (R_lss_f rfl rfl (by omega)) rfl rfl rfl ?_ | refine EL_not rfl rfl rfl ?_
        first | refine EL_val (R_pick_t rfl rfl) rfl rfl rfl ?_ | refine EL_val (R_pick_f rfl rfl) rfl rfl rfl ?_
        refine EL_val (R_move rfl) rfl rfl rfl ?_
        first | refine EL_val (R_move rfl) rfl rfl rfl ?_ | refine EL_not rfl rfl rfl ?_
        first | refine EL_val (R_lss_t rfl rfl (by omega)) rfl rfl rfl ?_ | refine EL_val (R_lss_f rfl rfl (by omega)) rfl rfl rfl ?_ | refine EL_not rfl rfl rfl ?_
        first | refine EL_val (R_pick_t rfl rfl) rfl rfl rfl ?_ | refine EL_val (R_pick_f rfl rfl) rfl rfl rfl ?_
        refine EL_nil ?_
        refine E_cond_f rfl ?_
        refine E_exit ?_
        refine thenQ_e ?_
        refine thenQ_e ?_
        refine inB_eq rfl ?_
        refine thenQ_n ?_
        exact ⟨rfl, [(5, ptr g), (6, .slice (some ⟨bl, 0, none⟩) 140 140)], ⟨rfl, rfl, trivial⟩, j, J, C, _, lst, rfl, ls, hst, hp⟩
  clear ls3 hst3 hp0 hC0 hJ0 hs1 hs2 hs3 hbl
  clear j J0 C0 w1 w2 w3
  rintro e0 w1 ⟨j, J, C, s, lst, rfl, ls, hst, hp⟩
  have hs1 := ls.no.size

  refine E_seqR ?_
  refine EL_val (R_move rfl) rfl rfl rfl ?_
  refine EL_val (R_nilCheck rfl) rfl rfl rfl ?_
  refine EL_val (R_fieldAddr rfl K.fT32_0) rfl rfl rfl ?_
  refine EL_val (R_load rfl K.ag29 (ls.hg.cell rfl)) rfl rfl rfl ?_
  refine EL_step rfl ?_
  refine EO_call K.bd9 rfl rfl (restart_on ls.hj.disk ints_nil) ?_
  rintro _ w2 ⟨hD2, hm2⟩
  (have hg2 := hm2.jt.bk ls.hg (by decide); have hs2 := hm2.size)
  refine EL_nil ?_
  refine E_seqR ?_
  refine EL_val (R_move rfl) rfl rfl rfl ?_
  refine EL_val (R_nilCheck rfl) rfl rfl rfl ?_
  refine EL_val (R_fieldAddr rfl K.fT32_0) rfl rfl rfl ?_
  refine EL_val (R_load rfl K.ag29 (hg2.cell rfl)) rfl rfl rfl ?_
  refine EL_step rfl ?_
  refine EO_call K.bd10 rfl rfl (reopen_ok hp hD2 (by omega)) ?_
  rintro _ w3 ⟨j', J', rfl, hj3, hp3, hm3⟩
  refine EL_val (R_move rfl) rfl rfl rfl ?_
  refine EL_val (R_extract rfl rfl) rfl rfl rfl ?_
  refine EL_val (R_extract rfl rfl) rfl rfl rfl ?_
  refine EL_val (R_assign rfl) rfl rfl rfl ?_
  refine EL_val (R_assign rfl) rfl rfl rfl ?_
  refine EL_nil ?_
  refine E_seq ?_
  refine E_seqR ?_
  refine EL_val (R_move rfl) rfl rfl rfl ?_
  first | refine EL_val (R_neq_t rfl rfl (by omega)) rfl rfl rfl ?_ | refine EL_val (R_neq_f rfl rfl (by omega)) rfl rfl rfl ?_
  refine EL_val (R_move rfl) rfl rfl rfl ?_
  first | refine EL_val (R_move rfl) rfl rfl rfl ?_ | refine EL_not rfl rfl rfl ?_
  first | refine EL_val (R_eqlPtrNil rfl Try.underlying30) rfl rfl rfl ?_ | refine EL_not rfl rfl rfl ?_
  first | refine EL_val (R_pick_t rfl rfl) rfl rfl rfl ?_ | refine EL_val (R_pick_f rfl rfl) rfl rfl rfl ?_
  refine EL_nil ?_
  refine E_cond_f rfl ?_
  refine E_skip ?_
  refine thenQ_n ?_
  refine E_seq ?_
  refine E_seqR ?_
  refine EL_val (R_assign rfl) rfl rfl rfl ?_
  refine EL_nil ?_
  refine E_block ?_
  have hm13 := hm2.jt.trans hm3
  have hl3 := hm13.bk ls.hl (by decide)
  have hno3 := TM.no_of ls.no hm13 (Nat.le_refl _)
  have hlB := ls.lB
  obtain ⟨V, hV, hlV⟩ := hp3.inv
  have hn3 := hp3.n
  refine E_loop (fun m' e' w' => ∃ n C, n ≤ 140 ∧ m' = 140 - n ∧ e' = [(6, .slice (some ⟨bl, 0, none⟩) 140 140), (12, ptr j'), (14, .int .i64 ((n : Nat) : Int))] ∧ JAt w' w.heap.size d j' J' ∧ Bk w' bl C 9 ∧ C.size = 140 ∧ (∀ k, n ≤ k → k < 140 → C[k]? = some (.string (str (lst k)))) ∧ Mods No w w') 140 [(6, .slice (some ⟨bl, 0, none⟩) 140 140), (12, ptr j'), (14, .int .i64 ((0 : Nat) : Int))] ⟨rfl, rfl, rfl, trivial⟩ ⟨0, C, by omega, rfl, rfl, hj3, hl3, hst.1, fun k _ hk => hst.2 k hk, hno3⟩ ?_
  clear hj3 hl3 hst hno3 hD2 hm2 hg2 hm3 hm13 ls
  clear hs1 hs2
  clear C w1 w2 w3
  rintro m' e w1 ⟨n, C, hn, rfl, rfl, hj1, hl1, hCs, hCl, hno1⟩
  have hs1 := hno1.size
  by_cases hn140 : n < 140
  · have hnow := hV.now (i := 60 + n) (by omega) (by unfold homeN; omega)
    rw [hlV n hn140] at hnow
    have hln := hCl n (Nat.le_refl _) hn140
    by_cases hne : lst n = []
    · rw [if_pos hne] at hnow
      rw [hne] at hln
      have hrd := read_ok hj1 (i := 60 + n) (by omega)
      rw [hnow] at hrd
      refine E_seq ?_
      refine E_seqR ?_
      refine EL_val (R_move rfl) rfl rfl rfl ?_
      first | refine EL_val (R_lss_t rfl rfl (by omega)) rfl rfl rfl ?_ | refine EL_val (R_lss_f rfl rfl (by omega)) rfl rfl rfl ?_
      refine EL_nil ?_
      refine E_cond_t rfl ?_
      refine E_skip ?_
      refine thenQ_n ?_
      refine E_seq ?_
      refine E_block ?_
      refine E_seqR ?_
      refine EL_val (R_move rfl) rfl rfl rfl ?_
      refine EL_val (R_move rfl) rfl rfl rfl ?_
      refine EL_val (R_addE (((60 + n : Nat) : Int)) rfl rfl (by omega) (by omega) (by omega)) rfl rfl rfl ?_
      refine EL_step rfl ?_
      refine EO_call K.bd11 rfl rfl (hrd) ?_
      rintro _ w2 ⟨⟨u, rfl, ho2⟩, hj2, hm2⟩
      (obtain ⟨Au, cu, rfl, _, _⟩ := own_sl ho2; have hl2 := hm2.bk hl1 (by decide); have hs2 := hm2.size)
      refine EL_val (R_move rfl) rfl rfl rfl ?_
      refine EL_val (R_extract rfl rfl) rfl rfl rfl ?_
      refine EL_val (R_extract rfl rfl) rfl rfl rfl ?_
      refine EL_val (R_assign rfl) rfl rfl rfl ?_
      refine EL_val (R_assign rfl) rfl rfl rfl ?_
      refine EL_nil ?_
      refine E_seq ?_
      refine E_seqR ?_
      refine EL_val (R_move rfl) rfl rfl rfl ?_
      refine EL_val (R_move rfl) rfl rfl rfl ?_
      refine EL_val (R_indexAddr rfl rfl Try.underlying27 K.sz9 (m := n) rfl hn140) rfl rfl rfl ?_
      refine EL_val (R_load rfl K.ag9 ((by rw [Nat.zero_add, Nat.mul_one]; exact hl2.cell hln))) rfl rfl rfl ?_
      first | refine EL_val (R_strEql_t rfl rfl (rfl)) rfl rfl rfl ?_ | refine EL_val (R_strEql_f rfl rfl (rfl)) rfl rfl rfl ?_
      refine EL_nil ?_
      refine E_cond_t rfl ?_
      refine E_region ?_
      refine EL_val (R_move rfl) rfl rfl rfl ?_
      refine EL_val (R_move rfl) rfl rfl rfl ?_
      refine EL_step rfl ?_
      refine EO_makeSlice 64 64 rfl rfl Try.underlying23 K.zr5 K.sz5 K.by5 (by first | rfl | omega) (by first | rfl | omega) (by omega) (by omega) (by omega) rfl ?_
      intro w3 hn3'
      (have hs3 := hn3'.size; have hsrc3 : Src w3 (some ⟨w2.heap.size, 0, none⟩) 64 1 ((zerosB 64).map fun b => Value.int .u8 (b.toNat : Int)) := Src.own (OB.new (base := w.heap.size) hn3' (by omega) (by simp only [maxLen]; omega)); have hl3 := hn3'.mods.bk' hl2)
      refine EL_val (R_bytesStr (l := zerosB 64) rfl hsrc3 rfl Try.underlying23 Try.underlying5 Try.underlying9) rfl rfl rfl ?_
      refine EL_val (R_indexAddr rfl rfl Try.underlying27 K.sz9 (m := n) rfl hn140) rfl rfl rfl ?_
      refine EL_step rfl ?_
      refine EO_store1 rfl rfl K.sz9 rfl hl3 (by omega) ?_
      intro w4 hu4
      (have hj4 := (hj2.no hn3'.mods).upd hu4 hl3 (by decide); have ho4 := own_upd (hn3'.mods.own ho2 fun _ _ h => h) hu4 hl3 (by decide))
      refine EL_nil ?_
      refine thenQ_n ?_
      refine E_seqD (fun w' => [(1000, fun w'' => w'' = w')]) 11 K.mix rfl ?_
      intro w30d hm30d hh30d
      (have ho5 := hm30d.own ho4 (fun _ _ h => h); have hl5 := hm30d.bk' hu4.bk)
      refine EA_pure 0 rfl (fun _ => R_move rfl) (by kernel_rfl) rfl rfl rfl ?_
      first | refine EA_pure 1 rfl (fun _ => R_neq_t rfl rfl (by omega)) (by kernel_rfl) rfl rfl rfl ?_ | refine EA_pure 1 rfl (fun _ => R_neq_f rfl rfl (by omega)) (by kernel_rfl) rfl rfl rfl ?_
      refine EA_pure 2 rfl (fun _ => R_move rfl) (by kernel_rfl) rfl rfl rfl ?_
      first | refine EA_pure 3 rfl (fun _ => R_move rfl) (by kernel_rfl) rfl rfl rfl ?_ | refine EA_not 3 rfl (by kernel_rfl) rfl rfl rfl ?_
      refine EA_still 4 [1000] rfl (R_bytesStr rfl (OB.src ho5) rfl Try.underlying23 Try.underlying5 Try.underlying9) rfl (by kernel_rfl) (by kernel_rfl) rfl rfl rfl ?_
      first | refine EA_pure 5 rfl (fun _ => R_move rfl) (by kernel_rfl) rfl rfl rfl ?_ | refine EA_not 5 rfl (by kernel_rfl) rfl rfl rfl ?_
      first | refine EA_pure 6 rfl (fun _ => R_move rfl) (by kernel_rfl) rfl rfl rfl ?_ | refine EA_not 6 rfl (by kernel_rfl) rfl rfl rfl ?_
      refine EA_pure 7 rfl (fun _ => R_indexAddr rfl rfl Try.underlying27 K.sz9 (m := n) rfl hn140) (by kernel_rfl) rfl rfl rfl ?_
      refine EA_still 8 [1000] rfl (R_load rfl K.ag9 ((hl5.cell (by rw [Array.getElem?_setIfInBounds_self_of_lt (by omega)])))) rfl (by kernel_rfl) (by kernel_rfl) rfl rfl rfl ?_
      first | refine EA_pure 9 rfl (fun _ => R_strNeq_t rfl rfl (fun h => h rfl)) (by kernel_rfl) rfl rfl rfl ?_ | refine EA_pure 9 rfl (fun _ => R_strNeq_f rfl rfl (fun h => h rfl)) (by kernel_rfl) rfl rfl rfl ?_
      first | refine EA_pure 10 rfl (fun _ => R_pick_t rfl rfl) (by kernel_rfl) rfl rfl rfl ?_ | refine EA_pure 10 rfl (fun _ => R_pick_f rfl rfl) (by kernel_rfl) rfl rfl rfl ?_
      refine EA_done (by kernel_rfl) ⟨fun _ => rfl, trivial⟩ ?_
      refine E_cond_f rfl ?_
      refine E_skip ?_
      refine inB_n ?_
      refine thenQ_n ?_
      refine E_region ?_
      refine EL_val (R_move rfl) rfl rfl rfl ?_
      first | refine EL_val (R_inc rfl (by omega)) rfl rfl rfl ?_ | refine EL_val (R_add_in rfl rfl (by omega) (by omega)) rfl rfl rfl ?_
      refine EL_val (R_assign rfl) rfl rfl rfl ?_
      refine EL_nil ?_
      refine thenQ_n ?_
      refine ⟨rfl, 140 - (n + 1), [(6, .slice (some ⟨bl, 0, none⟩) 140 140), (12, ptr j'), (14, .int .i64 ((n + 1 : Nat) : Int))], by omega, ⟨rfl, rfl, rfl, trivial⟩, n + 1, _, by omega, rfl, rfl, hj4.no hm30d, hl5, by simpa using hCs, fun k hk hk2 => ?_, ((TM.no_of hno1 hm2 (Nat.le_refl _)).trans hn3'.mods |>.trans' hu4.mods fun q hq e => by omega).trans hm30d⟩
      rw [Array.getElem?_setIfInBounds_ne (by omega)]
      exact hCl k (by omega) hk2
    · rw [if_neg hne] at hnow
      have hrd := read_ok hj1 (i := 60 + n) (by omega)
      rw [hnow] at hrd
      refine E_seq ?_
      refine E_seqR ?_
      refine EL_val (R_move rfl) rfl rfl rfl ?_
      first | refine EL_val (R_lss_t rfl rfl (by omega)) rfl rfl rfl ?_ | refine EL_val (R_lss_f rfl rfl (by omega)) rfl rfl rfl ?_
      refine EL_nil ?_
      refine E_cond_t rfl ?_
      refine E_skip ?_
      refine thenQ_n ?_
      refine E_seq ?_
      refine E_block ?_
      refine E_seqR ?_
      refine EL_val (R_move rfl) rfl rfl rfl ?_
      refine EL_val (R_move rfl) rfl rfl rfl ?_
      refine EL_val (R_addE (((60 + n : Nat) : Int)) rfl rfl (by omega) (by omega) (by omega)) rfl rfl rfl ?_
      refine EL_step rfl ?_
      refine EO_call K.bd11 rfl rfl (hrd) ?_
      rintro _ w2 ⟨⟨u, rfl, ho2⟩, hj2, hm2⟩
      (obtain ⟨Au, cu, rfl, _, _⟩ := own_sl ho2; have hl2 := hm2.bk hl1 (by decide); have hs2 := hm2.size)
      refine EL_val (R_move rfl) rfl rfl rfl ?_
      refine EL_val (R_extract rfl rfl) rfl rfl rfl ?_
      refine EL_val (R_extract rfl rfl) rfl rfl rfl ?_
      refine EL_val (R_assign rfl) rfl rfl rfl ?_
      refine EL_val (R_assign rfl) rfl rfl rfl ?_
      refine EL_nil ?_
      refine E_seq ?_
      refine E_seqR ?_
      refine EL_val (R_move rfl) rfl rfl rfl ?_
      refine EL_val (R_move rfl) rfl rfl rfl ?_
      refine EL_val (R_indexAddr rfl rfl Try.underlying27 K.sz9 (m := n) rfl hn140) rfl rfl rfl ?_
      refine EL_val (R_load rfl K.ag9 ((by rw [Nat.zero_add, Nat.mul_one]; exact hl2.cell hln))) rfl rfl rfl ?_
      first | refine EL_val (R_strEql_t rfl rfl (hne)) rfl rfl rfl ?_ | refine EL_val (R_strEql_f rfl rfl (hne)) rfl rfl rfl ?_
      refine EL_nil ?_
      refine E_cond_f rfl ?_
      refine E_skip ?_
      refine thenQ_n ?_
      refine E_seqD (fun w' => [(1000, fun w'' => w'' = w')]) 11 K.mix rfl ?_
      intro w30d hm30d hh30d
      (have ho5 := hm30d.own ho2 (fun _ _ h => h); have hl5 := hm30d.bk' hl2)
      refine EA_pure 0 rfl (fun _ => R_move rfl) (by kernel_rfl) rfl rfl rfl ?_
      first | refine EA_pure 1 rfl (fun _ => R_neq_t rfl rfl (by omega)) (by kernel_rfl) rfl rfl rfl ?_ | refine EA_pure 1 rfl (fun _ => R_neq_f rfl rfl (by omega)) (by kernel_rfl) rfl rfl rfl ?_
      refine EA_pure 2 rfl (fun _ => R_move rfl) (by kernel_rfl) rfl rfl rfl ?_
      first | refine EA_pure 3 rfl (fun _ => R_move rfl) (by kernel_rfl) rfl rfl rfl ?_ | refine EA_not 3 rfl (by kernel_rfl) rfl rfl rfl ?_
      refine EA_still 4 [1000] rfl (R_bytesStr rfl (OB.src ho5) rfl Try.underlying23 Try.underlying5 Try.underlying9) rfl (by kernel_rfl) (by kernel_rfl) rfl rfl rfl ?_
      first | refine EA_pure 5 rfl (fun _ => R_move rfl) (by kernel_rfl) rfl rfl rfl ?_ | refine EA_not 5 rfl (by kernel_rfl) rfl rfl rfl ?_
      first | refine EA_pure 6 rfl (fun _ => R_move rfl) (by kernel_rfl) rfl rfl rfl ?_ | refine EA_not 6 rfl (by kernel_rfl) rfl rfl rfl ?_
      refine EA_pure 7 rfl (fun _ => R_indexAddr rfl rfl Try.underlying27 K.sz9 (m := n) rfl hn140) (by kernel_rfl) rfl rfl rfl ?_
      refine EA_still 8 [1000] rfl (R_load rfl K.ag9 ((by rw [Nat.zero_add, Nat.mul_one]; exact hl5.cell hln))) rfl (by kernel_rfl) (by kernel_rfl) rfl rfl rfl ?_
      first | refine EA_pure 9 rfl (fun _ => R_strNeq_t rfl rfl (fun h => h rfl)) (by kernel_rfl) rfl rfl rfl ?_ | refine EA_pure 9 rfl (fun _ => R_strNeq_f rfl rfl (fun h => h rfl)) (by kernel_rfl) rfl rfl rfl ?_
      first | refine EA_pure 10 rfl (fun _ => R_pick_t rfl rfl) (by kernel_rfl) rfl rfl rfl ?_ | refine EA_pure 10 rfl (fun _ => R_pick_f rfl rfl) (by kernel_rfl) rfl rfl rfl ?_
      refine EA_done (by kernel_rfl) ⟨fun _ => rfl, trivial⟩ ?_
      refine E_cond_f rfl ?_
      refine E_skip ?_
      refine inB_n ?_
      refine thenQ_n ?_
      refine E_region ?_
      refine EL_val (R_move rfl) rfl rfl rfl ?_
      first | refine EL_val (R_inc rfl (by omega)) rfl rfl rfl ?_ | refine EL_val (R_add_in rfl rfl (by omega) (by omega)) rfl rfl rfl ?_
      refine EL_val (R_assign rfl) rfl rfl rfl ?_
      refine EL_nil ?_
      refine thenQ_n ?_
      exact ⟨rfl, 140 - (n + 1), [(6, .slice (some ⟨bl, 0, none⟩) 140 140), (12, ptr j'), (14, .int .i64 ((n + 1 : Nat) : Int))], by omega, ⟨rfl, rfl, rfl, trivial⟩, n + 1, C, by omega, rfl, rfl, hj2.no hm30d, hl5, hCs, fun k hk hk2 => hCl k (by omega) hk2, (TM.no_of hno1 hm2 (Nat.le_refl _)).trans hm30d⟩
  · refine E_seq ?_
    refine E_seqR ?_
    refine EL_val (R_move rfl) rfl rfl rfl ?_
    first | refine EL_val (R_lss_t rfl rfl (by omega)) rfl rfl rfl ?_ | refine EL_val (R_lss_f rfl rfl (by omega)) rfl rfl rfl ?_
    refine EL_nil ?_
    refine E_cond_f rfl ?_
    refine E_exit ?_
    refine thenQ_e ?_
    refine thenQ_e ?_
    refine inB_eq rfl ?_
    refine thenQ_n ?_
    refine E_seqR ?_
    refine EL_val (R_assign rfl) rfl rfl rfl ?_
    refine EL_nil ?_
    refine E_ret ?_
    refine ret1 (.inr rfl) rfl rfl ?_
    exact ⟨rfl, hno1⟩
end Go.Proofs.Ytobhogdndfbniaa
