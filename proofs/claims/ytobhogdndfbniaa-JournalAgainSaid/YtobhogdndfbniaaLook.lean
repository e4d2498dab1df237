/- What a look at a disk tells (journal.look, Look). -/
import Derived.Test.YtobhogdndfbniaaGlue
import Derived.Test.YtobhogdndfbniaaRefG
set_option linter.unusedVariables false
set_option linter.unusedSimpArgs false
set_option maxRecDepth 100000
namespace Go.Proofs.Ytobhogdndfbniaa
open Go.EW Go.RowKit

def lookP (S : DS) (w : World) (v : Value) (w' : World) : Prop :=
  (if S.n < 64 then v = .tuple #[.slice none 0 0, .slice none 0 0, .agg #[.int .i64 0, .int .i64 0], .int .i64 1] else match getHeadS (nowS S 1) with
    | none => v = .tuple #[.slice none 0 0, .slice none 0 0, .agg #[.int .i64 0, .int .i64 0], .int .i64 2]
    | some p => ∃ gb cb xb vw xw, v = .tuple #[.slice (some ⟨gb, 0, none⟩) S.n cb, vw, .agg #[.int .i64 ((foundS S p).2.1 : Int), .int .i64 (foundS S p).2.2], .int .i64 0] ∧
        w'.ownsRow w.heap.size 23 1 (.slice (some ⟨gb, 0, none⟩) S.n cb) S.n xb ∧ BR w' w.heap.size (lookB S.n (foundS S p).1.flatten (blocksS S)) xb ∧
        w'.ownsRow w.heap.size 35 2 vw (lookW S.n (foundS S p).1.flatten).length xw ∧ WLo w' w.heap.size (lookW S.n (foundS S p).1.flatten) xw) ∧ Mods No w w'
theorem own_cells2 {w : World} {base g m c : Nat} {E : TypeId} {xs : List Value} (h : w.ownsRow base E 2 (.slice (some ⟨g, 0, none⟩) m c) m xs) {k : Nat} {u v : Value} (hu : xs[k * 2]? = some u) (hv : xs[k * 2 + 1]? = some v) : Cells w g (0 + k * 2) #[u, v] := by
  have hs := Src.own h
  have hlt := (List.getElem?_eq_some_iff.1 hu).1
  have hl : xs.length = m * 2 := hs.1
  obtain ⟨g', i, hA, hc⟩ := hs.2 (by omega)
  injection hA with hA
  injection hA with h1 h2 _
  subst h1; subst h2
  intro j x hj
  have h2 : j < 2 := by
    have := (Array.getElem?_eq_some_iff.1 hj).1
    simpa using this
  have hx : xs[k * 2 + j]? = some x := by
    match j, h2 with
    | 0, _ => rw [Nat.add_zero, hu]; simpa using hj
    | 1, _ => rw [hv]; simpa using hj
  have := hc (k * 2 + j) x (by simpa using hx)
  rwa [← Nat.add_assoc] at this
structure LK (w0 wF w : World) (gb cb n : Nat) (Bl : List (List UInt8)) (xb : List Value) (vw : Value) (Wl : List (Int × List UInt8)) (xw : List Value) : Prop where
  ownb : w.ownsRow w0.heap.size 23 1 (.slice (some ⟨gb, 0, none⟩) n cb) n xb
  br : BR w w0.heap.size Bl xb
  len : Bl.length = n
  ownw : w.ownsRow wF.heap.size 35 2 vw Wl.length xw
  wl : WLo w w0.heap.size Wl xw
  md : Mods (fun i => i = gb) wF w
  hg : w0.heap.size ≤ gb
  hgF : gb < wF.heap.size
  w0F : w0.heap.size ≤ wF.heap.size
section
variable {w0 wF w w' : World} {gb cb n : Nat} {Bl : List (List UInt8)} {xb : List Value} {vw : Value} {Wl : List (Int × List UInt8)} {xw : List Value}
theorem LK.mv (h : LK w0 wF w gb cb n Bl xb vw Wl xw) (hm : Mods No w w') : LK w0 wF w' gb cb n Bl xb vw Wl xw :=
  ⟨hm.own h.ownb fun _ _ h => h, h.br.no hm, h.len, hm.own h.ownw fun _ _ h => h, h.wl.mods hm fun _ _ _ h => h, h.md.trans' hm fun _ _ h => h.elim, h.hg, h.hgF, h.w0F⟩
theorem LK.gbk (h : LK w0 wF w gb cb n Bl xb vw Wl xw) (h0 : 0 < n) : ∃ cur, Bk w gb cur 23 ∧ n ≤ cur.size := by
  obtain ⟨g, cp, cur, hv, hB, hb, h3, _, h5, _⟩ := own_form h.ownb h0
  injection hv with hA hl hc
  injection hA with hA
  injection hA with hA
  subst hA
  exact ⟨cur, hb, by omega⟩
theorem LK.set (h : LK w0 wF w gb cb n Bl xb vw Wl xw) {cur : Array Value} (hb : Bk w gb cur 23) {j : Nat} {v : Value} {l : List UInt8} (hj : j < n) (hu : Upd w w' gb (cur.setIfInBounds j v) 23) (ho : OB w0.heap.size w v l) : LK w0 wF w' gb cb n (Bl.set j l) (xb.set j v) vw Wl xw :=
  ⟨own_set1 h.ownb hb hu hj, (h.br.set ho j).mods hu.mods (fun g C hg e => by subst e; exact absurd (hg.inj hb).2 (by decide)), by rw [List.length_set]; exact h.len, own_upd h.ownw hu hb (by decide),
    h.wl.mods hu.mods (fun g C hg e => by subst e; exact absurd (hg.inj hb).2 (by decide)), h.md.trans hu.mods, h.hg, h.hgF, h.w0F⟩
theorem LK.app (h : LK w0 wF w gb cb n Bl xb vw Wl xw) {v' y : Value} {a : Int} {l : List UInt8} (hm : Mods (fun i => some i = vw.ownBlock) w w') (ho : w'.ownsRow wF.heap.size 35 2 v' (Wl.length + 1) (xw ++ [.int .i64 a, y])) (hy : OB w0.heap.size w y l) : LK w0 wF w' gb cb n Bl xb v' (Wl ++ [(a, l)]) (xw ++ [.int .i64 a, y]) := by
  have hne : ∀ {g : Nat} {C : Array Value} {t : TypeId}, Bk w g C t → t ≠ 35 → ¬ (some g = vw.ownBlock) := fun hb ht e => by
    obtain ⟨_, cur, hc⟩ := own_blk h.ownw e.symm
    exact ht (hb.inj hc).2
  exact ⟨hm.own h.ownb (fun k hk e => by obtain ⟨_, cur, hc⟩ := own_blk h.ownb hk; exact hne hc (by decide) e), h.br.mods hm (fun g C hb => hne hb (by decide)), h.len, by rw [List.length_append]; exact ho,
    (h.wl.snoc hy).mods hm (fun g C hb => hne hb (by decide)), h.md.trans' hm (fun k hk e => by have := (own_blk h.ownw e.symm).1; omega), h.hg, h.hgF, h.w0F⟩
end
theorem look_small {w : World} {B d : Nat} {S : DS} (hD : Disk w B d S) (h64 : S.n < 64) : Ret Try.prog 27 [ptr d] w fun v w' => v = .tuple #[.slice none 0 0, .slice none 0 0, .agg #[.int .i64 0, .int .i64 0], .int .i64 1] ∧ Mods No w w' := by
  have hn480 := hD.nle
  refine Ret.enter Try.func27 rfl Try.ntmps27 rfl ?_
  simp only [argEnv, Nat.reduceAdd]
  refine E_seqR ?_
  refine EL_val (R_assign rfl) rfl rfl rfl ?_
  refine EL_val (R_assign rfl) rfl rfl rfl ?_
  refine EL_step rfl ?_
  refine EO_alloc K.zr46 rfl ?_
  intro w1 hn1
  refine EL_val (R_assign rfl) rfl rfl rfl ?_
  refine EL_nil ?_
  refine E_seq ?_
  refine E_seqR ?_
  refine EL_val (R_move rfl) rfl rfl rfl ?_
  refine EL_val (R_eqlPtrNil rfl Try.underlying29) rfl rfl rfl ?_
  refine EL_val (R_move rfl) rfl rfl rfl ?_
  first | refine EL_val (R_move rfl) rfl rfl rfl ?_ | refine EL_not rfl rfl rfl ?_
  refine EL_step rfl ?_
  refine EO_call K.bd20 rfl rfl (blocks_on (hD.no hn1.mods)) ?_
  rintro _ _ ⟨rfl, rfl⟩
  first | refine EL_val (R_lss_t rfl rfl (by omega)) rfl rfl rfl ?_ | refine EL_val (R_lss_f rfl rfl (by omega)) rfl rfl rfl ?_ | refine EL_not rfl rfl rfl ?_
  first | refine EL_val (R_pick_t rfl rfl) rfl rfl rfl ?_ | refine EL_val (R_pick_f rfl rfl) rfl rfl rfl ?_
  refine EL_nil ?_
  refine E_cond_t rfl ?_
  refine E_seqD (fun w' => [(3, fun w'' => w'' = w')]) 5 K.mix rfl ?_
  intro w2d hm2d hh2d
  refine EA_still 0 [3, 4] rfl (R_loadAgg rfl K.ag46 (whole_cells (hm2d.bk' hn1.bk)) (K.sz46)) rfl (by kernel_rfl) (by kernel_rfl) rfl rfl rfl ?_
  refine EA_pure 1 rfl (fun _ => R_assign rfl) (by kernel_rfl) rfl rfl rfl ?_
  refine EA_pure 2 rfl (fun _ => R_assign rfl) (by kernel_rfl) rfl rfl rfl ?_
  refine EA_one 3 rfl (by kernel_rfl) rfl ⟨fun _ => rfl, trivial⟩ ?_
  refine EO_storeWhole (hm2d.bk' hn1.bk) rfl rfl K.sz46 rfl rfl ?_
  intro w2 hu2
  refine EA_pure 4 rfl (fun _ => R_assign rfl) (by kernel_rfl) rfl rfl rfl ?_
  refine EA_done (by kernel_rfl) (Holds.done (by kernel_rfl)) ?_
  refine E_ret ?_
  refine thenQ_r ?_
  refine ret_ttct (.inr rfl) rfl rfl rfl rfl rfl K.ag46 (by exact K.sz46) (whole_cells hu2.bk) ?_
  exact ⟨rfl, (hn1.mods.trans hm2d).trans' hu2.mods fun k hk e => by omega⟩
set_option maxHeartbeats 4000000 in
theorem look_walk {w : World} {B d : Nat} {S : DS} {R : Value → World → Prop} (hD : Disk w B d S) (ho : S.off = false) (h64 : ¬ S.n < 64)
    (hnone : getHeadS (nowS S 1) = none → ∀ w', Mods No w w' → R (.tuple #[.slice none 0 0, .slice none 0 0, .agg #[.int .i64 0, .int .i64 0], .int .i64 2]) w')
    (hsome : ∀ (a0 : Nat) (s : Int) T H, getHeadS (nowS S 1) = some ((a0 : Int), s) → T = (findL (logB S) a0 s).1 → H = (findL (logB S) a0 s).2 → ∀ gb cb xb vw xw w', w'.ownsRow w.heap.size 23 1 (.slice (some ⟨gb, 0, none⟩) S.n cb) S.n xb → BR w' w.heap.size (lookB S.n T.flatten (blocksS S)) xb →
        w'.ownsRow w.heap.size 35 2 vw (lookW S.n T.flatten).length xw → WLo w' w.heap.size (lookW S.n T.flatten) xw → Mods No w w' → R (.tuple #[.slice (some ⟨gb, 0, none⟩) S.n cb, vw, .agg #[.int .i64 (H.1 : Int), .int .i64 H.2], .int .i64 0]) w') :
    Ret Try.prog 27 [ptr d] w R := by
  have hn480 := hD.nle
  refine Ret.enter Try.func27 rfl Try.ntmps27 rfl ?_
  simp only [argEnv, Nat.reduceAdd]
  refine E_seqR ?_
  refine EL_val (R_assign rfl) rfl rfl rfl ?_
  refine EL_val (R_assign rfl) rfl rfl rfl ?_
  refine EL_step rfl ?_
  refine EO_alloc K.zr46 rfl ?_
  intro w1 hn1
  refine EL_val (R_assign rfl) rfl rfl rfl ?_
  refine EL_nil ?_
  refine E_seq ?_
  refine E_seqR ?_
  refine EL_val (R_move rfl) rfl rfl rfl ?_
  refine EL_val (R_eqlPtrNil rfl Try.underlying29) rfl rfl rfl ?_
  refine EL_val (R_move rfl) rfl rfl rfl ?_
  first | refine EL_val (R_move rfl) rfl rfl rfl ?_ | refine EL_not rfl rfl rfl ?_
  refine EL_step rfl ?_
  refine EO_call K.bd20 rfl rfl (blocks_on (hD.no hn1.mods)) ?_
  rintro _ _ ⟨rfl, rfl⟩
  first | refine EL_val (R_lss_t rfl rfl (by omega)) rfl rfl rfl ?_ | refine EL_val (R_lss_f rfl rfl (by omega)) rfl rfl rfl ?_ | refine EL_not rfl rfl rfl ?_
  first | refine EL_val (R_pick_t rfl rfl) rfl rfl rfl ?_ | refine EL_val (R_pick_f rfl rfl) rfl rfl rfl ?_
  refine EL_nil ?_
  refine E_cond_f rfl ?_
  refine E_skip ?_
  refine thenQ_n ?_
  refine E_seq ?_
  refine E_seqR ?_
  refine EL_val (R_move rfl) rfl rfl rfl ?_
  refine EL_step rfl ?_
  refine EO_call K.bd20 rfl rfl (blocks_on (hD.no hn1.mods)) ?_
  rintro _ _ ⟨rfl, rfl⟩
  refine EL_val (R_move rfl) rfl rfl rfl ?_
  refine EL_nil ?_
  have hno1 := hn1.mods
  have hb41 := hn1.bk
  obtain ⟨b4, hb4⟩ : ∃ b4, b4 = w.heap.size := ⟨_, rfl⟩
  rw [← hb4] at hb41 ⊢
  refine E_cut (fun e0 w' => ∃ gb cb xb, e0 = [(2, .slice (some ⟨gb, 0, none⟩) S.n cb), (3, .slice none 0 0), (4, ptr b4)] ∧ Mods No w w' ∧ Bk w' b4 #[.int .i64 0, .int .i64 0] 46 ∧ w'.ownsRow w.heap.size 23 1 (.slice (some ⟨gb, 0, none⟩) S.n cb) S.n xb ∧ BR w' w.heap.size (blocksS S) xb) ?_ ?_
  · refine E_block ?_
    refine E_loop (fun m' e' w' => ∃ i v xb, i ≤ S.n ∧ m' = S.n - i ∧ e' = [(0, ptr d), (2, v), (3, .slice none 0 0), (4, ptr b4), (23, .int .i64 (S.n : Int)), (24, .int .i64 ((i : Nat) : Int))] ∧ Mods No w w' ∧ Bk w' b4 #[.int .i64 0, .int .i64 0] 46 ∧ w'.ownsRow w.heap.size 23 1 v i xb ∧ BR w' w.heap.size ((blocksS S).take i) xb) S.n [(0, ptr d), (2, .slice none 0 0), (3, .slice none 0 0), (4, ptr b4), (23, .int .i64 (S.n : Int)), (24, .int .i64 ((0 : Nat) : Int))] ⟨rfl, rfl, rfl, rfl, rfl, rfl, trivial⟩
      ⟨0, _, [], by omega, rfl, rfl, hno1, hb41, World.ownsRow_nil _ _ _ _, trivial⟩ ?_
    clear hno1 hb41 hn1
    rintro m' e w2 ⟨i, v, xb, hi, rfl, rfl, hno2, hb42, hov, hbr⟩
    have hz2 := hno2.size
    by_cases hlt : i < S.n
    · skip
      refine E_seqR ?_
      first | refine EL_val (R_lss_t rfl rfl (by omega)) rfl rfl rfl ?_ | refine EL_val (R_lss_f rfl rfl (by omega)) rfl rfl rfl ?_
      refine EL_nil ?_
      refine E_seq ?_
      refine E_cond_t rfl ?_
      refine E_skip ?_
      refine thenQ_n ?_
      refine E_seq ?_
      refine E_block ?_
      refine E_seqR ?_
      refine EL_val (R_move rfl) rfl rfl rfl ?_
      refine EL_val (R_assign rfl) rfl rfl rfl ?_
      refine EL_nil ?_
      refine E_seqR ?_
      refine EL_val (R_move rfl) rfl rfl rfl ?_
      refine EL_val (R_move rfl) rfl rfl rfl ?_
      refine EL_step rfl ?_
      refine EO_call K.bd28 rfl rfl (get_on (hD.no hno2) ho hlt) ?_
      rintro _ w3 ⟨u, rfl, hou, hm3⟩
      (obtain ⟨Au, cu, rfl, _, _⟩ := own_sl hou)
      refine EL_val (R_move rfl) rfl rfl rfl ?_
      refine EL_val (R_extract rfl rfl) rfl rfl rfl ?_
      refine EL_val (R_extract rfl rfl) rfl rfl rfl ?_
      refine EL_val (R_assign rfl) rfl rfl rfl ?_
      refine EL_val (R_assign rfl) rfl rfl rfl ?_
      refine EL_nil ?_
      refine E_seq ?_
      refine E_seqR ?_
      refine EL_val (R_move rfl) rfl rfl rfl ?_
      first | refine EL_val (R_neq_t rfl rfl (by omega)) rfl rfl rfl ?_ | refine EL_val (R_neq_f rfl rfl (by omega)) rfl rfl rfl ?_
      refine EL_nil ?_
      refine E_cond_f rfl ?_
      refine E_skip ?_
      refine thenQ_n ?_
      refine E_region ?_
      refine EL_val (R_move rfl) rfl rfl rfl ?_
      refine EL_val (R_move rfl) rfl rfl rfl ?_
      refine EL_step rfl ?_
      refine EO_buildSlice Try.underlying22 K.zr23 K.sz23 rfl rfl rfl (fill_whole rfl (by rw [size_madeCells])) rfl ?_
      intro w4 hn4
      refine EL_step rfl ?_
      refine EO_append rfl rfl Try.underlying22 K.sz23 K.zr23 K.by23 rfl (by decide) ((hm3.trans hn4.mods).own hov fun _ _ h => h) (Src.bk hn4.bk 1 1 [.slice Au (nowS S i).length cu] rfl (fun q u hq => by rw [Nat.zero_add]; show (#[.slice Au (nowS S i).length cu] : Array Value)[q]? = some u; simpa using hq)) (by simp [Value.oneCell']) (by simp only [maxLen]; omega) (by omega) (by have := hm3.size; have := hn4.size; omega) rfl ?_
      intro v5 w5 ho5 hm5 hat5
      refine EL_val (R_assign rfl) rfl rfl rfl ?_
      refine EL_nil ?_
      refine inB_n ?_
      refine thenQ_n ?_
      refine E_region ?_
      first | refine EL_val (R_inc rfl (by omega)) rfl rfl rfl ?_ | refine EL_val (R_add_in rfl rfl (by omega) (by omega)) rfl rfl rfl ?_
      refine EL_val (R_move rfl) rfl rfl rfl ?_
      refine EL_nil ?_
      refine thenQ_n ?_
      have hm24 := hm3.trans hn4.mods
      have ho4 := hm24.own hov fun _ _ h => h
      have hne : ∀ {g : Nat} {C : Array Value} {t : TypeId}, Bk w4 g C t → t ≠ 23 → ¬ (some g = v.ownBlock) := fun hb ht e => by
        obtain ⟨_, cur, hc⟩ := own_blk ho4 e.symm
        exact ht (hb.inj hc).2
      have hbr4 := (hbr.no hm24).snoc (own_mono (hn4.mods.own hou fun _ _ h => h) (B := w.heap.size) hz2)
      refine ⟨rfl, S.n - (i + 1), [(0, ptr d), (2, v5), (3, .slice none 0 0), (4, ptr b4), (23, .int .i64 (S.n : Int)), (24, .int .i64 ((i + 1 : Nat) : Int))], by omega, ⟨rfl, rfl, rfl, rfl, rfl, rfl, trivial⟩, i + 1, v5, _, by omega, rfl, rfl, (hno2.trans hm24).trans' hm5 (fun k hk e => by have := (own_blk ho4 e.symm).1; omega), hm5.bk (hm24.bk' hb42) (hne (hm24.bk' hb42) (by decide)), ho5, ?_⟩
      rw [blocksS_take_succ S hlt]
      exact hbr4.mods hm5 fun g C hb => hne hb (by decide)
    · have hi' : i = S.n := by omega
      subst hi'
      obtain ⟨gb, cb, _, rfl, _⟩ := own_form hov (by omega)
      rw [List.take_of_length_le (by rw [blocksS_length]; omega)] at hbr

      refine E_seqR ?_
      first | refine EL_val (R_lss_t rfl rfl (by omega)) rfl rfl rfl ?_ | refine EL_val (R_lss_f rfl rfl (by omega)) rfl rfl rfl ?_
      refine EL_nil ?_
      refine E_seq ?_
      refine E_cond_f rfl ?_
      refine E_exit ?_
      refine thenQ_e ?_
      refine thenQ_e ?_
      refine inB_eq rfl ?_
      refine thenQ_n ?_
      exact ⟨rfl, [(2, .slice (some ⟨gb, 0, none⟩) S.n cb), (3, .slice none 0 0), (4, ptr b4)], ⟨rfl, rfl, rfl, trivial⟩, gb, cb, xb, rfl, hno2, hb42, hov, hbr⟩
  clear hno1 hb41 hn1
  clear w1
  rintro e0 w1 ⟨gb, cb, xb, rfl, hno1, hb41, hob1, hbr1⟩
  obtain ⟨v1, hx1, hov1⟩ := hbr1.at_ 1 (by rw [blocksS_length]; omega)
  rw [blocksS_at S (by omega)] at hov1
  obtain ⟨A1, c1, rfl, hc1, _⟩ := own_sl hov1
  have hlen1 := hD.now_len (i := 1) (by omega)
  have hgh := gethead_ok (c := c1) (OB.src hov1) hc1 (by omega)
  unfold getHeadP at hgh
  have hz1 := hno1.size
  cases hg : getHeadS (nowS S 1) with
  | none =>
    rw [hg] at hgh

    refine E_seqR ?_
    refine EL_val (R_move rfl) rfl rfl rfl ?_
    refine EL_val (R_indexAddr rfl rfl Try.underlying22 K.sz23 (m := 1) rfl (by omega)) rfl rfl rfl ?_
    refine EL_val (R_load rfl K.ag23 (own_cell hob1 hx1)) rfl rfl rfl ?_
    refine EL_step rfl ?_
    refine EO_call K.bd42 rfl rfl (hgh) ?_
    rintro _ w2 ⟨rfl, hm2⟩
    refine EL_val (R_move rfl) rfl rfl rfl ?_
    refine EL_val (R_extract rfl rfl) rfl rfl rfl ?_
    refine EL_val (R_extract rfl rfl) rfl rfl rfl ?_
    refine EL_step rfl ?_
    refine EO_storeWhole (hm2.bk' hb41) rfl rfl K.sz46 rfl rfl ?_
    intro w3 hu3
    refine EL_val (R_assign rfl) rfl rfl rfl ?_
    refine EL_nil ?_
    refine E_seq ?_
    refine E_seqR ?_
    refine EL_val (R_move rfl) rfl rfl rfl ?_
    first | refine EL_val (R_neq_t rfl rfl (by omega)) rfl rfl rfl ?_ | refine EL_val (R_neq_f rfl rfl (by omega)) rfl rfl rfl ?_
    refine EL_nil ?_
    refine E_cond_t rfl ?_
    refine E_seqD (fun w' => [(4, fun w'' => w'' = w')]) 6 K.mix rfl ?_
    intro w13d hm13d hh13d
    refine EA_still 0 [4, 5] rfl (R_loadAgg rfl K.ag46 (whole_cells (hm13d.bk' hu3.bk)) (K.sz46)) rfl (by kernel_rfl) (by kernel_rfl) rfl rfl rfl ?_
    refine EA_pure 1 rfl (fun _ => R_move rfl) (by kernel_rfl) rfl rfl rfl ?_
    refine EA_pure 2 rfl (fun _ => R_assign rfl) (by kernel_rfl) rfl rfl rfl ?_
    refine EA_pure 3 rfl (fun _ => R_assign rfl) (by kernel_rfl) rfl rfl rfl ?_
    refine EA_one 4 rfl (by kernel_rfl) rfl ⟨fun _ => rfl, trivial⟩ ?_
    refine EO_storeWhole (hm13d.bk' hu3.bk) rfl rfl K.sz46 rfl rfl ?_
    intro w4 hu4
    refine EA_pure 5 rfl (fun _ => R_assign rfl) (by kernel_rfl) rfl rfl rfl ?_
    refine EA_done (by kernel_rfl) (Holds.done (by kernel_rfl)) ?_
    refine E_ret ?_
    refine thenQ_r ?_
    refine ret_ttct (.inr rfl) rfl rfl rfl rfl rfl K.ag46 (by exact K.sz46) (whole_cells hu4.bk) ?_
    exact hnone hg _ ((((hno1.trans hm2).trans' hu3.mods fun k hk e => by omega).trans hm13d).trans' hu4.mods fun k hk e => by omega)
  | some p =>
    obtain ⟨a, s⟩ := p
    rw [hg] at hgh
    obtain ⟨_, hok, _⟩ := getHeadS_length hg
    have hf : (0 ≤ a ∧ a ≤ 39) ∧ 1 ≤ s ∧ s ≤ 1073741824 := by simpa [headOk] using hok
    obtain ⟨a0, ha0⟩ : ∃ a0 : Nat, a = (a0 : Int) := ⟨a.toNat, by omega⟩
    subst ha0
    have hllen := logB_length (S := S) (by omega)
    have hl64 : ∀ q, ((logB S).getD (q % 40) []).length = 64 := fun q => by
      have hq : q % 40 < (logB S).length := by omega
      have e : (logB S)[q % 40] = nowS S (19 + q % 40) := by
        have : (logB S)[q % 40] = (blocksS S)[19 + q % 40]'(by rw [blocksS_length]; omega) := by simp [logB]
        rw [this, blocksS_at S (by omega)]
      rw [List.getD_eq_getElem?_getD, List.getElem?_eq_getElem hq]
      show (logB S)[q % 40].length = 64
      rw [e]
      exact hD.now_len (by omega)
    have hbbs : ∀ {w2 : World} {xb : List Value}, w2.ownsRow w.heap.size 23 1 (.slice (some ⟨gb, 0, none⟩) S.n cb) S.n xb → BR w2 w.heap.size (blocksS S) xb → BBs w2 (some ⟨gb, 0, none⟩) (blocksS S) := fun {w2 xb} hob hbr => hbr.bbs (c := cb) (base := w.heap.size) (by rw [blocksS_length]; exact hob) (by rw [blocksS_length]; omega) (fun l hl => by
      obtain ⟨k, hk, rfl⟩ := List.getElem_of_mem hl
      rw [blocksS_length] at hk
      rw [blocksS_at S hk, hD.now_len hk]
      omega)
    have hcb : S.n ≤ cb := by
      obtain ⟨_, _, _, hv, _, _, h, _⟩ := own_form hob1 (by omega)
      injection hv with _ _ hc
      omega
    obtain ⟨T, hT⟩ : ∃ T, T = (findL (logB S) a0 s).1 := ⟨_, rfl⟩
    obtain ⟨H, hH⟩ : ∃ H, H = (findL (logB S) a0 s).2 := ⟨_, rfl⟩
    have hTw := findL_write (Bl := logB S) (a := a0) (s := s) hl64
    have hTs := findL_seq (Bl := logB S) (a := a0) (s := s) hf.2.2
    rw [← hT] at hTw hTs
    rw [← hH] at hTs
    have hfi : ∀ {w2 : World}, BBs w2 (some ⟨gb, 0, none⟩) (blocksS S) → Ret Try.prog 43 [.slice (some ⟨gb, 0 + 19 * 1, none⟩) 40 (cb - 19), .agg #[.int .i64 (a0 : Int), .int .i64 s]] w2 fun v w' => (∃ vo vs, v = .tuple #[vo, .agg #[.int .i64 (H.1 : Int), .int .i64 H.2], .int .i64 0] ∧ w'.ownsRow w2.heap.size 42 1 vo T.length vs ∧ TXs w' w2.heap.size T vs) ∧ Mods No w2 w' := fun {w2} hbb => by
      have hb : BBs w2 (some ⟨gb, 0 + 19 * 1, none⟩) (logB S) := hbb.sub (k := 19) (m := 40) (by rw [blocksS_length]; omega)
      have := find_in (cb := cb - 19) (a0 := a0) (s0 := s) hb (by omega) hf.2.1 hf.2.2 hllen (fun k hk => by
        have := hl64 k
        rw [show k % 40 = k from Nat.mod_eq_of_lt (by have : k < (logB S).length := hk; omega), List.getD_eq_getElem?_getD, List.getElem?_eq_getElem hk] at this
        exact this)
      rw [hllen, ← hT, ← hH] at this
      exact this

    refine E_seqR ?_
    refine EL_val (R_move rfl) rfl rfl rfl ?_
    refine EL_val (R_indexAddr rfl rfl Try.underlying22 K.sz23 (m := 1) rfl (by omega)) rfl rfl rfl ?_
    refine EL_val (R_load rfl K.ag23 (own_cell hob1 hx1)) rfl rfl rfl ?_
    refine EL_step rfl ?_
    refine EO_call K.bd42 rfl rfl (hgh) ?_
    rintro _ w2 ⟨rfl, hm2⟩
    refine EL_val (R_move rfl) rfl rfl rfl ?_
    refine EL_val (R_extract rfl rfl) rfl rfl rfl ?_
    refine EL_val (R_extract rfl rfl) rfl rfl rfl ?_
    refine EL_step rfl ?_
    refine EO_storeWhole (hm2.bk' hb41) rfl rfl K.sz46 rfl rfl ?_
    intro w3 hu3
    refine EL_val (R_assign rfl) rfl rfl rfl ?_
    refine EL_nil ?_
    refine E_seq ?_
    refine E_seqR ?_
    refine EL_val (R_move rfl) rfl rfl rfl ?_
    first | refine EL_val (R_neq_t rfl rfl (by omega)) rfl rfl rfl ?_ | refine EL_val (R_neq_f rfl rfl (by omega)) rfl rfl rfl ?_
    refine EL_nil ?_
    refine E_cond_f rfl ?_
    refine E_skip ?_
    refine thenQ_n ?_
    refine E_seqD (fun w' => [(3, fun w'' => w'' = w')]) 11 K.mix rfl ?_
    intro w14d hm14d hh14d
    (have hob13 := hm14d.own (own_upd (hm2.own hob1 fun _ _ h => h) hu3 (hm2.bk' hb41) (by decide)) (fun _ _ h => h); have hbr13 := ((hbr1.no hm2).mods hu3.mods (fun g C hb e => (by subst e; exact absurd (hb.inj (hm2.bk' hb41)).2 (by decide)))).no hm14d; have hno13 : Mods No w w14d := ((hno1.trans hm2).trans' hu3.mods (fun k hk e => by omega)).trans hm14d)
    refine EA_pure 0 rfl (fun _ => R_move rfl) (by kernel_rfl) rfl rfl rfl ?_
    refine EA_pure 1 rfl (fun _ => R_sliceLH (19) (59) (by omega) (by omega) (by omega) (by omega) (by omega) rfl rfl rfl Try.underlying22 K.sz23) (by kernel_rfl) rfl rfl rfl ?_
    refine EA_still 2 [3, 4, 5, 6, 7, 8, 9, 10] rfl (R_loadAgg rfl K.ag46 (whole_cells (hm14d.bk' hu3.bk)) (K.sz46)) rfl (by kernel_rfl) (by kernel_rfl) rfl rfl rfl ?_
    refine EA_one 3 rfl (by kernel_rfl) rfl ⟨fun _ => rfl, trivial⟩ ?_
    refine EO_call K.bd43 rfl rfl (hfi (hbbs hob13 hbr13)) ?_
    rintro _ w4 ⟨⟨vo, vs, rfl, hoF, htF⟩, hm4⟩
    (obtain ⟨Avo, cvo, rfl, _, _⟩ := own_sl hoF)
    refine EA_pure 4 rfl (fun _ => R_move rfl) (by kernel_rfl) rfl rfl rfl ?_
    refine EA_pure 5 rfl (fun _ => R_extract rfl rfl) (by kernel_rfl) rfl rfl rfl ?_
    refine EA_pure 6 rfl (fun _ => R_extract rfl rfl) (by kernel_rfl) rfl rfl rfl ?_
    refine EA_pure 7 rfl (fun _ => R_extract rfl rfl) (by kernel_rfl) rfl rfl rfl ?_
    refine EA_pure 8 rfl (fun _ => R_assign rfl) (by kernel_rfl) rfl rfl rfl ?_
    refine EA_one 9 rfl (by kernel_rfl) rfl (Holds.done (by kernel_rfl)) ?_
    refine EO_storeWhole (hm4.bk' (hm14d.bk' hu3.bk)) rfl rfl K.sz46 rfl rfl ?_
    intro w5 hu5
    refine EA_pure 10 rfl (fun _ => R_assign rfl) (by kernel_rfl) rfl rfl rfl ?_
    refine EA_done (by kernel_rfl) (Holds.done (by kernel_rfl)) ?_
    refine E_seq ?_
    refine E_seqR ?_
    refine EL_val (R_move rfl) rfl rfl rfl ?_
    refine EL_val (R_lenSlice rfl Try.underlying90) rfl rfl rfl ?_
    refine EL_val (R_move rfl) rfl rfl rfl ?_
    refine EL_nil ?_
    refine E_block ?_
    have hb44 := hm4.bk' (hm14d.bk' hu3.bk)
    have hoT := own_upd hoF hu5 hb44 (by decide)
    have htT := htF.mods hu5.mods (fun g C hb e => by subst e; exact absurd (hb.inj hb44).2 (by decide)) (fun g C hb e => by subst e; exact absurd (hb.inj hb44).2 (by decide))
    have hob5 := own_upd (hm4.own hob13 fun _ _ h => h) hu5 hb44 (by decide)
    have hbr5 := (hbr13.no hm4).mods hu5.mods (fun g C hb e => by subst e; exact absurd (hb.inj hb44).2 (by decide))
    have hno5 : Mods No w w5 := (hno13.trans hm4).trans' hu5.mods fun k hk e => by omega
    have hz5 := hno5.size
    have hb45 := hu5.bk
    have hzb : w.heap.size ≤ w14d.heap.size := hno13.size
    have hgbk : w.heap.size ≤ gb ∧ gb < w5.heap.size := by
      obtain ⟨g', _, _, hv, hB, hbk, _⟩ := own_form hob5 (by omega)
      injection hv with hA _ _
      injection hA with hA
      injection hA with hA
      subst hA
      exact ⟨hB, hbk.lt⟩
    have lk5 : LK w w5 w5 gb cb S.n (blocksS S) xb (.slice none 0 0) [] [] := ⟨hob5, hbr5, blocksS_length S, World.ownsRow_nil _ _ _ _, trivial, Mods.refl _ _, hgbk.1, hgbk.2, hz5⟩
    have hgb5 : ∃ cur, Bk w5 gb cur 23 := by
      obtain ⟨cur, hb, _⟩ := lk5.gbk (by omega)
      exact ⟨cur, hb⟩
    obtain ⟨curb5, hgb5⟩ := hgb5
    have hb4gb : b4 ≠ gb := fun e => by subst e; exact absurd (hb45.inj hgb5).2 (by decide)
    clear hob5 hbr5 hb44 hoF htF hu5 hm4 hob13 hbr13 hno13 hm14d hh14d hu3 hm2 hgh hfi hbbs hov1 hbr1 hob1 hb41 hno1 hx1
    refine E_loop (fun m' e' w' => ∃ i vw Bl xb xw, i ≤ T.length ∧ m' = T.length - i ∧ e' = [(2, .slice (some ⟨gb, 0, none⟩) S.n cb), (3, vw), (4, ptr b4), (5, .int .i64 0), (61, .slice (Avo) T.length cvo), (62, .int .i64 (T.length : Int)), (63, .int .i64 ((i : Nat) : Int))] ∧ Bl = lookB S.n (T.take i).flatten (blocksS S) ∧ LK w w5 w' gb cb S.n Bl xb vw (lookW S.n (T.take i).flatten) xw) T.length [(2, .slice (some ⟨gb, 0, none⟩) S.n cb), (3, .slice none 0 0), (4, ptr b4), (5, .int .i64 0), (61, .slice (Avo) T.length cvo), (62, .int .i64 (T.length : Int)), (63, .int .i64 ((0 : Nat) : Int))] ⟨rfl, rfl, rfl, rfl, rfl, rfl, rfl, trivial⟩
      ⟨0, _, _, xb, [], by omega, rfl, rfl, rfl, lk5⟩ ?_
    clear lk5
    clear xb
    rintro m' e w6 ⟨i, vw, Bl, xb, xw, hi, rfl, rfl, hBl, lk⟩
    by_cases hlt : i < T.length
    · obtain ⟨gv, capv, _, hv, _⟩ := own_form hoT (by omega)
      injection hv with hA _ _
      subst hA
      obtain ⟨vi, xi, hxi, hoi, hwi⟩ := htT.at_ i hlt
      have hti := hTw T[i] (List.getElem_mem hlt)
      obtain ⟨gi, ci, _, rfl, hgiB, hgi5, _⟩ := own_form hoi (by omega)
      have hgine : gi ≠ gb := fun e => by subst e; exact absurd (hgi5.inj hgb5).2 (by decide)
      have hoT6 := lk.md.own hoT (fun k hk e => by obtain ⟨_, cur, hc⟩ := own_blk hoT hk; subst e; exact absurd (hc.inj hgb5).2 (by decide))

      refine E_seqR ?_
      first | refine EL_val (R_lss_t rfl rfl (by omega)) rfl rfl rfl ?_ | refine EL_val (R_lss_f rfl rfl (by omega)) rfl rfl rfl ?_
      refine EL_nil ?_
      refine E_seq ?_
      refine E_cond_t rfl ?_
      refine E_skip ?_
      refine thenQ_n ?_
      refine E_seq ?_
      refine E_block ?_
      refine E_seqR ?_
      refine EL_val (R_indexAddr rfl rfl Try.underlying90 K.sz42 (m := i) rfl hlt) rfl rfl rfl ?_
      refine EL_val (R_load rfl K.ag42 ((by rw [Nat.zero_add, Nat.mul_one]; exact own_cell hoT6 hxi))) rfl rfl rfl ?_
      refine EL_val (R_assign rfl) rfl rfl rfl ?_
      refine EL_nil ?_
      refine E_seqR ?_
      refine EL_val (R_move rfl) rfl rfl rfl ?_
      refine EL_val (R_lenSlice rfl Try.underlying42) rfl rfl rfl ?_
      refine EL_val (R_move rfl) rfl rfl rfl ?_
      refine EL_nil ?_
      refine E_block ?_
      refine E_loop (fun m' e' w' => ∃ k vw Bl xb xw, k ≤ T[i].length ∧ m' = T[i].length - k ∧ e' = [(2, .slice (some ⟨gb, 0, none⟩) S.n cb), (3, vw), (4, ptr b4), (5, .int .i64 0), (61, .slice (some ⟨gv, 0, none⟩) T.length cvo), (62, .int .i64 (T.length : Int)), (63, .int .i64 ((i : Nat) : Int)), (67, .slice (some ⟨gi, 0, none⟩) T[i].length ci), (68, .int .i64 (T[i].length : Int)), (69, .int .i64 ((k : Nat) : Int))] ∧ Bl = lookB S.n ((T.take i).flatten ++ T[i].take k) (blocksS S) ∧ LK w w5 w' gb cb S.n Bl xb vw (lookW S.n ((T.take i).flatten ++ T[i].take k)) xw) T[i].length [(2, .slice (some ⟨gb, 0, none⟩) S.n cb), (3, vw), (4, ptr b4), (5, .int .i64 0), (61, .slice (some ⟨gv, 0, none⟩) T.length cvo), (62, .int .i64 (T.length : Int)), (63, .int .i64 ((i : Nat) : Int)), (67, .slice (some ⟨gi, 0, none⟩) T[i].length ci), (68, .int .i64 (T[i].length : Int)), (69, .int .i64 ((0 : Nat) : Int))] ⟨rfl, rfl, rfl, rfl, rfl, rfl, rfl, rfl, rfl, rfl, trivial⟩
        ⟨0, vw, Bl, xb, xw, by omega, by omega, rfl, by rw [List.take_zero, List.append_nil]; exact hBl, by rw [List.take_zero, List.append_nil]; exact lk⟩ ?_
      clear lk hoT6 hBl
      clear vw Bl xb xw w6
      rintro m' e w7 ⟨k, vw, Bl, xb, xw, hk, rfl, rfl, hBl, lk⟩
      by_cases hkn : k < T[i].length
      · obtain ⟨y, hx0, hx1, hy5⟩ := hwi.at_ k hkn
        have hp := hti.2 T[i][k] (List.getElem_mem hkn)
        have htk : T[i].take (k + 1) = T[i].take k ++ [T[i][k]] := List.take_succ_eq_append_getElem hkn
        have hlW := lookW_snoc S.n ((T.take i).flatten ++ T[i].take k) T[i][k]
        have hlB := lookB_snoc S.n ((T.take i).flatten ++ T[i].take k) T[i][k] (blocksS S)
        rw [List.append_assoc, ← htk] at hlW hlB
        rcases hpp : T[i][k] with ⟨a, l⟩
        rw [hpp] at hx0 hy5 hp hlW hlB
        dsimp only at hx0 hy5 hp hlW hlB
        have hWl : (lookW S.n ((T.take i).flatten ++ T[i].take k)).length ≤ 21474836500 := by
          have h1 : (lookW S.n ((T.take i).flatten ++ T[i].take k)).length ≤ ((T.take i).flatten ++ T[i].take k).length := List.length_filter_le _ _
          have h2 := flatten_le (k := 20) (T.take i) fun t ht => (hTw t (List.mem_of_mem_take ht)).1.1
          have h3 := hti.1
          simp only [List.length_append, List.length_take] at h1 h2
          omega
        have har := home_range hp.1
        obtain ⟨a', rfl⟩ : ∃ a' : Nat, a = (a' : Int) := ⟨a.toNat, by omega⟩
        obtain ⟨Ay, cy, rfl, _, _⟩ := own_sl hy5
        have hz7 := lk.md.size
        have hoi7 := lk.md.own hoi (fun q hq e => by obtain ⟨_, cur, hc⟩ := own_blk hoi hq; subst e; exact absurd (hc.inj hgb5).2 (by decide))
        have hy7 : OB w.heap.size w7 (.slice Ay l.length cy) l := own_mono (lk.md.own hy5 (fun q hq e => by obtain ⟨_, cur, hc⟩ := own_blk hy5 hq; subst e; exact absurd (hc.inj hgb5).2 (by decide))) hzb
        by_cases han : (a' : Int) < (S.n : Int)
        · rw [if_pos han] at hlW hlB

          refine E_seqR ?_
          first | refine EL_val (R_lss_t rfl rfl (by omega)) rfl rfl rfl ?_ | refine EL_val (R_lss_f rfl rfl (by omega)) rfl rfl rfl ?_
          refine EL_nil ?_
          refine E_seq ?_
          refine E_cond_t rfl ?_
          refine E_skip ?_
          refine thenQ_n ?_
          refine E_seq ?_
          refine E_block ?_
          refine E_seqR ?_
          refine EL_val (R_indexAddr rfl rfl Try.underlying42 K.sz35 (m := k) rfl hkn) rfl rfl rfl ?_
          refine EL_val (R_loadAgg rfl K.ag35 (own_cells2 hoi7 hx0 hx1) (K.sz35)) rfl rfl rfl ?_
          refine EL_step rfl ?_
          refine EO_alloc K.zr35 rfl ?_
          intro w8 hn8
          refine EL_step rfl ?_
          refine EO_storeWhole hn8.bk rfl rfl K.sz35 rfl rfl ?_
          intro w9 hu9
          (have hno79 : Mods No w7 w9 := hn8.mods.trans' hu9.mods (fun q hq e => by omega); have lk9 := lk.mv hno79; have hy9 := hno79.own hy7 (fun _ _ h => h); obtain ⟨cur9, hgb9, hcs9⟩ := lk9.gbk (by omega))
          refine EL_nil ?_
          refine E_seqR ?_
          refine EL_val (R_fieldAddr rfl K.fT35_0) rfl rfl rfl ?_
          refine EL_val (R_load rfl K.ag3 (hu9.bk.cell rfl)) rfl rfl rfl ?_
          refine EL_val (R_move rfl) rfl rfl rfl ?_
          refine EL_val (R_lenSlice rfl Try.underlying22) rfl rfl rfl ?_
          first | refine EL_val (R_lss_t rfl rfl (by omega)) rfl rfl rfl ?_ | refine EL_val (R_lss_f rfl rfl (by omega)) rfl rfl rfl ?_
          refine EL_nil ?_
          refine E_cond_t rfl ?_
          refine E_seqR ?_
          refine EL_val (R_move rfl) rfl rfl rfl ?_
          refine EL_val (R_fieldAddr rfl K.fT35_0) rfl rfl rfl ?_
          refine EL_val (R_load rfl K.ag3 (hu9.bk.cell rfl)) rfl rfl rfl ?_
          refine EL_val (R_fieldAddr rfl K.fT35_1) rfl rfl rfl ?_
          refine EL_val (R_load rfl K.ag23 (hu9.bk.cell rfl)) rfl rfl rfl ?_
          refine EL_val (R_indexAddr rfl rfl Try.underlying22 K.sz23 (m := a') rfl (by omega)) rfl rfl rfl ?_
          refine EL_step rfl ?_
          refine EO_store1 rfl rfl K.sz23 rfl hgb9 (by omega) ?_
          intro w10 hu10
          (have hb10 := hu10.mods.bk hu9.bk (fun e => (by have h9 := hu9.bk; rw [e] at h9; exact absurd (h9.inj hgb9).2 (by decide))))
          refine EL_nil ?_
          refine E_region ?_
          refine EL_val (R_move rfl) rfl rfl rfl ?_
          refine EL_val (R_loadAgg rfl K.ag35 (whole_cells hb10) (K.sz35)) rfl rfl rfl ?_
          refine EL_step rfl ?_
          refine EO_buildSlice Try.underlying42 K.zr35 K.sz35 rfl rfl rfl (fill_whole rfl (by rw [size_madeCells])) rfl ?_
          intro w11 hn11
          (have e1 : 0 + a' * 1 = a' := (by omega); rw [e1] at hu10; have lk10 := lk9.set hgb9 (by omega) hu10 hy9; have lk11 := lk10.mv hn11.mods; have hz9 := hno79.size; have hz10 := hu10.size; have hz11 := hn11.size; have hy11 := hn11.mods.own (hu10.mods.own hy9 (fun q hq e => (by obtain ⟨_, cur, hc⟩ := own_blk hy9 hq; subst e; exact absurd (hc.inj hgb9).2 (by decide)))) (fun _ _ h => h))
          refine EL_step rfl ?_
          refine EO_append rfl rfl Try.underlying42 K.sz35 K.zr35 K.by35 rfl (by decide) lk11.ownw (Src.bk hn11.bk 1 2 [.int .i64 (a' : Int), .slice Ay l.length cy] rfl (fun q u hq => by rw [Nat.zero_add]; show (#[.int .i64 (a' : Int), .slice Ay l.length cy] : Array Value)[q]? = some u; simpa using hq)) (by simp [Value.oneCell']) (by simp only [maxLen]; omega) (by omega) (by omega) rfl ?_
          intro v12 w12 ho12 hm12 hat12
          refine EL_val (R_assign rfl) rfl rfl rfl ?_
          refine EL_nil ?_
          refine inB_n ?_
          refine thenQ_n ?_
          refine E_region ?_
          first | refine EL_val (R_inc rfl (by omega)) rfl rfl rfl ?_ | refine EL_val (R_add_in rfl rfl (by omega) (by omega)) rfl rfl rfl ?_
          refine EL_val (R_move rfl) rfl rfl rfl ?_
          refine EL_nil ?_
          refine thenQ_n ?_
          refine ⟨rfl, T[i].length - (k + 1), [(2, .slice (some ⟨gb, 0, none⟩) S.n cb), (3, v12), (4, ptr b4), (5, .int .i64 0), (61, .slice (some ⟨gv, 0, none⟩) T.length cvo), (62, .int .i64 (T.length : Int)), (63, .int .i64 ((i : Nat) : Int)), (67, .slice (some ⟨gi, 0, none⟩) T[i].length ci), (68, .int .i64 (T[i].length : Int)), (69, .int .i64 ((k + 1 : Nat) : Int))], by omega, ⟨rfl, rfl, rfl, rfl, rfl, rfl, rfl, rfl, rfl, rfl, trivial⟩, k + 1, v12, _, _, _, by omega, rfl, rfl, ?_, by rw [hlW]; exact lk11.app hm12 ho12 hy11⟩
          rw [hlB, ← hBl]
          rfl
        · rw [if_neg han] at hlW hlB
          rw [List.append_nil] at hlW

          refine E_seqR ?_
          first | refine EL_val (R_lss_t rfl rfl (by omega)) rfl rfl rfl ?_ | refine EL_val (R_lss_f rfl rfl (by omega)) rfl rfl rfl ?_
          refine EL_nil ?_
          refine E_seq ?_
          refine E_cond_t rfl ?_
          refine E_skip ?_
          refine thenQ_n ?_
          refine E_seq ?_
          refine E_block ?_
          refine E_seqR ?_
          refine EL_val (R_indexAddr rfl rfl Try.underlying42 K.sz35 (m := k) rfl hkn) rfl rfl rfl ?_
          refine EL_val (R_loadAgg rfl K.ag35 (own_cells2 hoi7 hx0 hx1) (K.sz35)) rfl rfl rfl ?_
          refine EL_step rfl ?_
          refine EO_alloc K.zr35 rfl ?_
          intro w8 hn8
          refine EL_step rfl ?_
          refine EO_storeWhole hn8.bk rfl rfl K.sz35 rfl rfl ?_
          intro w9 hu9
          refine EL_nil ?_
          refine E_seqR ?_
          refine EL_val (R_fieldAddr rfl K.fT35_0) rfl rfl rfl ?_
          refine EL_val (R_load rfl K.ag3 (hu9.bk.cell rfl)) rfl rfl rfl ?_
          refine EL_val (R_move rfl) rfl rfl rfl ?_
          refine EL_val (R_lenSlice rfl Try.underlying22) rfl rfl rfl ?_
          first | refine EL_val (R_lss_t rfl rfl (by omega)) rfl rfl rfl ?_ | refine EL_val (R_lss_f rfl rfl (by omega)) rfl rfl rfl ?_
          refine EL_nil ?_
          refine E_cond_f rfl ?_
          refine E_skip ?_
          refine inB_n ?_
          refine thenQ_n ?_
          refine E_region ?_
          first | refine EL_val (R_inc rfl (by omega)) rfl rfl rfl ?_ | refine EL_val (R_add_in rfl rfl (by omega) (by omega)) rfl rfl rfl ?_
          refine EL_val (R_move rfl) rfl rfl rfl ?_
          refine EL_nil ?_
          refine thenQ_n ?_
          have hno79 : Mods No w7 w9 := hn8.mods.trans' hu9.mods (fun q hq e => by omega)
          exact ⟨rfl, T[i].length - (k + 1), [(2, .slice (some ⟨gb, 0, none⟩) S.n cb), (3, vw), (4, ptr b4), (5, .int .i64 0), (61, .slice (some ⟨gv, 0, none⟩) T.length cvo), (62, .int .i64 (T.length : Int)), (63, .int .i64 ((i : Nat) : Int)), (67, .slice (some ⟨gi, 0, none⟩) T[i].length ci), (68, .int .i64 (T[i].length : Int)), (69, .int .i64 ((k + 1 : Nat) : Int))], by omega, ⟨rfl, rfl, rfl, rfl, rfl, rfl, rfl, rfl, rfl, rfl, trivial⟩, k + 1, vw, Bl, xb, xw, by omega, rfl, rfl, by rw [hlB]; exact hBl, by rw [hlW]; exact lk.mv hno79⟩
      · have hk' : k = T[i].length := by omega
        subst hk'
        have hfl : (T.take i).flatten ++ T[i].take T[i].length = (T.take (i + 1)).flatten := by
          rw [List.take_length, List.take_succ_eq_append_getElem hlt]
          simp only [List.flatten_append, List.flatten_cons, List.flatten_nil, List.append_nil]
        rw [hfl] at hBl lk

        refine E_seqR ?_
        first | refine EL_val (R_lss_t rfl rfl (by omega)) rfl rfl rfl ?_ | refine EL_val (R_lss_f rfl rfl (by omega)) rfl rfl rfl ?_
        refine EL_nil ?_
        refine E_seq ?_
        refine E_cond_f rfl ?_
        refine E_exit ?_
        refine thenQ_e ?_
        refine thenQ_e ?_
        refine inB_eq rfl ?_
        refine inB_n ?_
        refine thenQ_n ?_
        refine E_region ?_
        first | refine EL_val (R_inc rfl (by omega)) rfl rfl rfl ?_ | refine EL_val (R_add_in rfl rfl (by omega) (by omega)) rfl rfl rfl ?_
        refine EL_val (R_move rfl) rfl rfl rfl ?_
        refine EL_nil ?_
        refine thenQ_n ?_
        exact ⟨rfl, T.length - (i + 1), [(2, .slice (some ⟨gb, 0, none⟩) S.n cb), (3, vw), (4, ptr b4), (5, .int .i64 0), (61, .slice (some ⟨gv, 0, none⟩) T.length cvo), (62, .int .i64 (T.length : Int)), (63, .int .i64 ((i + 1 : Nat) : Int))], by omega, ⟨rfl, rfl, rfl, rfl, rfl, rfl, rfl, trivial⟩, i + 1, vw, Bl, xb, xw, by omega, rfl, rfl, hBl, lk⟩
    · have hi' : i = T.length := by omega
      subst hi'
      rw [List.take_length] at hBl lk
      have hb46 := lk.md.bk hb45 hb4gb

      refine E_seqR ?_
      first | refine EL_val (R_lss_t rfl rfl (by omega)) rfl rfl rfl ?_ | refine EL_val (R_lss_f rfl rfl (by omega)) rfl rfl rfl ?_
      refine EL_nil ?_
      refine E_seq ?_
      refine E_cond_f rfl ?_
      refine E_exit ?_
      refine thenQ_e ?_
      refine thenQ_e ?_
      refine inB_eq rfl ?_
      refine thenQ_n ?_
      refine E_seqD (fun w' => [(6, fun w'' => w'' = w')]) 8 K.mix rfl ?_
      intro w7 hm7 hh7
      refine EA_pure 0 rfl (fun _ => R_move rfl) (by kernel_rfl) rfl rfl rfl ?_
      refine EA_pure 1 rfl (fun _ => R_move rfl) (by kernel_rfl) rfl rfl rfl ?_
      refine EA_still 2 [6, 7] rfl (R_loadAgg rfl K.ag46 (whole_cells (hm7.bk' hb46)) (K.sz46)) rfl (by kernel_rfl) (by kernel_rfl) rfl rfl rfl ?_
      refine EA_pure 3 rfl (fun _ => R_move rfl) (by kernel_rfl) rfl rfl rfl ?_
      refine EA_pure 4 rfl (fun _ => R_assign rfl) (by kernel_rfl) rfl rfl rfl ?_
      refine EA_pure 5 rfl (fun _ => R_assign rfl) (by kernel_rfl) rfl rfl rfl ?_
      refine EA_one 6 rfl (by kernel_rfl) rfl ⟨fun _ => rfl, trivial⟩ ?_
      refine EO_storeWhole (hm7.bk' hb46) rfl rfl K.sz46 rfl rfl ?_
      intro w8 hu8
      refine EA_pure 7 rfl (fun _ => R_assign rfl) (by kernel_rfl) rfl rfl rfl ?_
      refine EA_done (by kernel_rfl) (Holds.done (by kernel_rfl)) ?_
      refine E_ret ?_
      refine ret_ttct (.inr rfl) rfl rfl rfl rfl rfl K.ag46 (by exact K.sz46) (whole_cells hu8.bk) ?_
      have lk7 := lk.mv hm7
      subst hBl
      have hne8 : ∀ {g : Nat} {C : Array Value}, Bk w7 g C 5 → ¬ (g = b4) := fun hb e => by subst e; exact absurd (hb.inj (hm7.bk' hb46)).2 (by decide)
      exact hsome a0 s T H hg hT hH gb cb xb vw xw w8 (own_upd lk7.ownb hu8 (hm7.bk' hb46) (by decide)) (lk7.br.mods hu8.mods fun g C hb => hne8 hb) (own_mono (own_upd lk7.ownw hu8 (hm7.bk' hb46) (by decide)) hz5) (lk7.wl.mods hu8.mods fun g C hb => hne8 hb)
        (((hno5.trans' lk.md fun q hq e => by omega).trans hm7).trans' hu8.mods fun q hq e => by omega)
end Go.Proofs.Ytobhogdndfbniaa
