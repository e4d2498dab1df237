/- The law LogWhole: the walk through its code. -/
import Derived.Test.YtoikdgoadjedaaaWholeP
import Derived.Test.YtoikdgoadjedaaaRowB
set_option linter.unusedVariables false
set_option linter.unusedSimpArgs false
set_option maxRecDepth 100000
namespace Go.Proofs.Ytoikdgoadjedaaa
open Go.EW Go.RowKit

theorem TXs.at_ {w : World} {B : Nat} : ∀ {T : List (List (Int × List UInt8))} {vs : List Value}, TXs w B T vs → ∀ (k : Nat) (hk : k < T.length), ∃ v xs, vs[k]? = some v ∧ w.ownsRow B 40 2 v T[k].length xs ∧ WLo w B T[k] xs
  | t :: r, v :: vs, h, 0, _ => by
    obtain ⟨⟨xs, h1, h2⟩, _⟩ := h
    exact ⟨v, xs, rfl, h1, h2⟩
  | t :: r, v :: vs, h, k + 1, hk => by
    obtain ⟨u, xs, h1, h2⟩ := TXs.at_ h.2 k (by simpa using hk)
    exact ⟨u, xs, by simpa using h1, h2⟩
theorem TXs.no {w w' : World} {B : Nat} (hm : Mods No w w') {T : List (List (Int × List UInt8))} {vs : List Value} (h : TXs w B T vs) : TXs w' B T vs := h.mods hm (fun _ _ _ h => h) (fun _ _ _ h => h)
theorem TXs.len {w : World} {B : Nat} : ∀ {T : List (List (Int × List UInt8))} {vs : List Value}, TXs w B T vs → vs.length = T.length
  | [], [], _ => rfl
  | t :: r, v :: vs, h => by have := TXs.len h.2; simp only [List.length_cons]; omega
theorem byte_of {i : Nat} (h : i < 14) : IntKind.u8.wrap (i : Int) = ((UInt8.ofNat i).toNat : Int) := by
  have : ∀ i : Nat, i < 14 → IntKind.u8.wrap (i : Int) = ((UInt8.ofNat i).toNat : Int) := by decide
  exact this i h
theorem dat_set (fill : UInt8) (i : Nat) : ((zerosB 64).set 0 fill).set 1 (UInt8.ofNat i) = dat fill i := rfl
theorem toW_succ (i k : Nat) : ival (toW i (k + 1)) = ival (toW i k) ++ [.int .i64 ((60 + 7 * i + k : Nat) : Int)] := by
  simp [ival, toW, List.range_succ]
/-- one block more of a transaction: nothing changes elsewhere -/
theorem laid_step {st tx : List (List UInt8)} {cut p k q : Nat} (hp : st.length = p) (h : q ≠ p + k ∨ cut ≤ p + k) : laidW cut (st ++ tx.take (k + 1)) q = laidW cut (st ++ tx.take k) q := by
  unfold laidW
  split
  · rw [List.getD_eq_getElem?_getD, List.getD_eq_getElem?_getD]
    congr 1
    by_cases hq : q < p
    · rw [List.getElem?_append_left (by omega), List.getElem?_append_left (by omega)]
    · rw [List.getElem?_append_right (by omega), List.getElem?_append_right (by omega), List.getElem?_take, List.getElem?_take]
      by_cases h1 : q - st.length < k
      · rw [if_pos h1, if_pos (by omega)]
      · rw [if_neg h1, if_neg (by omega)]
  · rfl
theorem laid_at {st tx : List (List UInt8)} {cut p k : Nat} (hp : st.length = p) (hk : k < tx.length) (h : p + k < cut) : laidW cut (st ++ tx.take (k + 1)) (p + k) = tx[k] := by
  unfold laidW
  rw [if_pos h, List.getD_eq_getElem?_getD, List.getElem?_append_right (by omega), List.getElem?_take, if_pos (by omega), show p + k - st.length = k by omega, List.getElem?_eq_getElem hk]
  rfl
/-- the law's own variables -/
structure WS (w0 w : World) (b11 b16 a0 : Nat) (s0 : Int) (ea : Nat) (es : Int) (gb cap : Nat) (Bl : List (List UInt8)) (xs : List Value) : Prop where
  hh : Bk w b11 #[.int .i64 (a0 : Int), .int .i64 s0] 25
  he : Bk w b16 #[.int .i64 (ea : Int), .int .i64 es] 25
  own : w.ownsRow w0.heap.size 23 1 (.slice (some ⟨gb, 0, none⟩) 40 cap) 40 xs
  br : BR w w0.heap.size Bl xs
  len : Bl.length = 40
  no : Mods No w0 w
  l11 : w0.heap.size ≤ b11
  l16 : w0.heap.size ≤ b16
  ne : b11 ≠ b16
section
variable {w0 w w' : World} {b11 b16 a0 : Nat} {s0 : Int} {ea : Nat} {es : Int} {gb cap : Nat} {Bl : List (List UInt8)} {xs : List Value}
theorem WS.mv (h : WS w0 w b11 b16 a0 s0 ea es gb cap Bl xs) (hm : Mods No w w') : WS w0 w' b11 b16 a0 s0 ea es gb cap Bl xs :=
  ⟨hm.bk' h.hh, hm.bk' h.he, hm.own h.own fun _ _ h => h, h.br.no hm, h.len, h.no.trans hm, h.l11, h.l16, h.ne⟩
theorem WS.setE (h : WS w0 w b11 b16 a0 s0 ea es gb cap Bl xs) {ea' : Nat} {es' : Int} (hu : Upd w w' b16 #[.int .i64 (ea' : Int), .int .i64 es'] 25) : WS w0 w' b11 b16 a0 s0 ea' es' gb cap Bl xs :=
  ⟨hu.mods.bk h.hh h.ne, hu.bk, own_upd h.own hu h.he (by decide), h.br.mods hu.mods (fun g C hb e => by subst e; exact absurd (hb.inj h.he).2 (by decide)), h.len, h.no.trans' hu.mods (fun k hk e => by have := h.l16; omega), h.l11, h.l16, h.ne⟩
theorem WS.gbk (h : WS w0 w b11 b16 a0 s0 ea es gb cap Bl xs) : ∃ cur, Bk w gb cur 23 ∧ w0.heap.size ≤ gb ∧ 40 ≤ cur.size := by
  obtain ⟨g, cp, cur, hv, hB, hb, h3, _, h5, _⟩ := own_form h.own (by omega)
  injection hv with hA hl hc
  injection hA with hA
  injection hA with hA
  subst hA
  exact ⟨cur, hb, hB, by omega⟩
theorem WS.setB (h : WS w0 w b11 b16 a0 s0 ea es gb cap Bl xs) {cur : Array Value} (hb : Bk w gb cur 23) {j : Nat} {v : Value} {l : List UInt8} (hj : j < 40) (hu : Upd w w' gb (cur.setIfInBounds j v) 23) (ho : OB w0.heap.size w v l) : WS w0 w' b11 b16 a0 s0 ea es gb cap (Bl.set j l) (xs.set j v) := by
  obtain ⟨cur', hb', hB, _⟩ := h.gbk
  exact ⟨hu.mods.bk h.hh (fun e => by subst e; exact absurd (h.hh.inj hb).2 (by decide)), hu.mods.bk h.he (fun e => by subst e; exact absurd (h.he.inj hb).2 (by decide)), own_set1 h.own hb hu hj,
    (h.br.set ho j).mods hu.mods (fun g C hg e => by subst e; exact absurd (hg.inj hb).2 (by decide)), by rw [List.length_set]; exact h.len, h.no.trans' hu.mods (fun k hk e => by omega), h.l11, h.l16, h.ne⟩
end
/-- the writes of one transaction told of -/
theorem tx_cells {w : World} {B gvo cvo : Nat} {T : List (List (Int × List UInt8))} {vs : List Value} (ho : w.ownsRow B 38 1 (.slice (some ⟨gvo, 0, none⟩) T.length cvo) T.length vs) (htx : TXs w B T vs) {i : Nat} (hi : i < T.length) {a : Int} {l : List UInt8} {rest : List (Int × List UInt8)}
    (hT : T[i] = (a, l) :: rest) (hl : l.length = 64) : ∃ gi ci gy cy, w.cell? ⟨gvo, i, none⟩ = some (.slice (some ⟨gi, 0, none⟩) T[i].length ci) ∧ w.cell? ⟨gi, 0, none⟩ = some (.int .i64 a) ∧ w.cell? ⟨gi, 1, none⟩ = some (.slice (some ⟨gy, 0, none⟩) 64 cy) ∧ Cells w gy 0 (bval l).toArray := by
  obtain ⟨v, xs, h1, h2, h3⟩ := htx.at_ i hi
  rw [hT] at h3
  match xs, h3, h2 with
  | x :: y :: t, h3, h2 =>
    obtain ⟨⟨rfl, hy⟩, _⟩ := h3
    obtain ⟨gi, ci, cur, rfl, _, hbk, _, _, _, htk⟩ := own_form h2 (by rw [hT]; simp)
    obtain ⟨gy, cy, cury, rfl, _, hbky, _, _, _, htky⟩ := own_form hy (by omega)
    have hc : ∀ (j : Nat) (u : Value), (Value.int .i64 a :: Value.slice (some ⟨gy, 0, none⟩) l.length cy :: t)[j]? = some u → w.cell? ⟨gi, j, none⟩ = some u := fun j u hj => by
      refine hbk.cell ?_
      rw [← htk, List.getElem?_take] at hj
      split at hj
      · simpa using hj
      · cases hj
    refine ⟨gi, ci, gy, cy, own_cell ho h1, hc 0 _ rfl, by rw [← hl]; exact hc 1 _ rfl, fun j u hj => ?_⟩
    rw [Nat.zero_add]
    refine hbky.cell ?_
    have hj' : (bval l)[j]? = some u := by simpa using hj
    rw [← htky, List.getElem?_take] at hj'
    split at hj'
    · simpa using hj'
    · cases hj'
theorem wrS_head {Bl : List (List UInt8)} {a : Nat} {ks : List Int} (h : 0 < ks.length) : ∃ rest, wrS Bl a ks = (ks.getD 0 0, Bl.getD ((a + 1) % 40) []) :: rest := by
  obtain ⟨n, hn⟩ : ∃ n, ks.length = n + 1 := ⟨ks.length - 1, by omega⟩
  unfold wrS
  rw [hn, List.range_succ_eq_map]
  exact ⟨_, rfl⟩
theorem wrS_length (Bl : List (List UInt8)) (a : Nat) (ks : List Int) : (wrS Bl a ks).length = ks.length := by simp [wrS]
set_option maxHeartbeats 4000000 in
theorem whole_walk {w : World} {A2 : Option Addr} {sz : List UInt8} {c2 : Nat} {at_ sq ct : Nat} {fill : UInt8} (h256 : at_ < 256) (hsq : sq < 65536) (hct : ct < 256) (hsz : BS w A2 sz) (hszl : sz.length ≤ 9223372036854775807) :
    Ret Try.prog 3 [.int .u8 (at_ : Int), .int .u16 (sq : Int), .slice A2 sz.length c2, .int .u8 (ct : Int), .int .u8 (fill.toNat : Int)] w fun v w' => v = .bool true ∧ Mods No w w' := by
  obtain ⟨a0, ha0⟩ : ∃ a0, a0 = at_ % 40 := ⟨_, rfl⟩
  obtain ⟨s0, hs0⟩ : ∃ s0 : Int, s0 = (sq : Int) + 1 := ⟨_, rfl⟩
  obtain ⟨cut, hcut⟩ : ∃ cut, cut = ct % 41 := ⟨_, rfl⟩
  obtain ⟨b11, hb11⟩ : ∃ b11, b11 = w.heap.size := ⟨_, rfl⟩
  refine Ret.enter Try.func3 rfl Try.ntmps3 rfl ?_
  simp only [argEnv, Nat.reduceAdd]
  refine E_seqR ?_
  refine EL_val (R_assign rfl) rfl rfl rfl ?_
  refine EL_nil ?_
  refine E_seqR ?_
  refine EL_val (R_move rfl) rfl rfl rfl ?_
  refine EL_val (R_remE (a0 : Int) (by omega) (by omega) (by omega) rfl rfl) rfl rfl rfl ?_
  refine EL_val (R_convInt (a0 : Int) (wrap_i64_in (by omega) (by omega)) rfl Try.underlying5 Try.underlying3) rfl rfl rfl ?_
  refine EL_val (R_move rfl) rfl rfl rfl ?_
  refine EL_val (R_convInt (sq : Int) (wrap_i64_in (by omega) (by omega)) rfl Try.underlying22 Try.underlying3) rfl rfl rfl ?_
  refine EL_val (R_addE (s0) rfl rfl (by omega) (by omega) (by omega)) rfl rfl rfl ?_
  refine EL_val (R_build (cells := #[.int .i64 (a0 : Int), .int .i64 s0]) K.zr25 K.pl25 rfl rfl) rfl rfl rfl ?_
  refine EL_step rfl ?_
  refine EO_alloc K.zr25 rfl ?_
  intro w1 hn1
  refine EL_step rfl ?_
  refine EO_storeAggB hn1.bk rfl rfl K.sz25 rfl rfl ?_
  intro w2 hu2
  refine EL_nil ?_
  refine E_seqR ?_
  refine EL_step rfl ?_
  refine EO_buildSlice0 Try.underlying26 K.sz23 rfl ?_
  intro w3 hn3
  refine EL_val (R_assign rfl) rfl rfl rfl ?_
  refine EL_nil ?_
  refine E_seq ?_
  refine E_seqR ?_
  refine EL_val (R_assign rfl) rfl rfl rfl ?_
  refine EL_nil ?_
  have hno2 : Mods No w w2 := hn1.mods.trans' hu2.mods (fun k hk e => by omega)
  have hno3 := hno2.trans hn3.mods
  have hz1 := hn1.size
  have hz2 := hu2.size
  have hz3 := hn3.size
  have hh3 := hn3.mods.bk' hu2.bk
  rw [← hb11] at hh3 ⊢
  refine E_cut (fun e0 w' => ∃ gb cap xs, e0 = [(2, .slice A2 sz.length c2), (3, .int .u8 (ct : Int)), (4, .int .u8 (fill.toNat : Int)), (11, ptr b11), (12, .slice (some ⟨gb, 0, none⟩) 40 cap)] ∧ Mods No w w' ∧ Bk w' b11 #[.int .i64 (a0 : Int), .int .i64 s0] 25 ∧ w'.ownsRow w.heap.size 23 1 (.slice (some ⟨gb, 0, none⟩) 40 cap) 40 xs ∧ BR w' w.heap.size (List.replicate 40 (zerosB 64)) xs) ?_ ?_
  · refine E_block ?_
    refine E_loop (fun m' e' w' => ∃ i v xs, i ≤ 40 ∧ m' = 40 - i ∧ e' = [(2, .slice A2 sz.length c2), (3, .int .u8 (ct : Int)), (4, .int .u8 (fill.toNat : Int)), (11, ptr b11), (12, v), (13, .int .i64 ((i : Nat) : Int))] ∧ Mods No w w' ∧ Bk w' b11 #[.int .i64 (a0 : Int), .int .i64 s0] 25 ∧ w'.ownsRow w.heap.size 23 1 v i xs ∧ BR w' w.heap.size (List.replicate i (zerosB 64)) xs) 40 [(2, .slice A2 sz.length c2), (3, .int .u8 (ct : Int)), (4, .int .u8 (fill.toNat : Int)), (11, ptr b11), (12, .slice (some ⟨w2.heap.size, 0, none⟩) 0 0), (13, .int .i64 ((0 : Nat) : Int))] ⟨rfl, rfl, rfl, rfl, rfl, rfl, trivial⟩
      ⟨0, _, [], by omega, rfl, rfl, hno3, hh3, hn3.own0 (m := 0) rfl (by omega) (by simp only [maxLen]; omega), trivial⟩ ?_
    clear hh3 hno3
    rintro m' e w4 ⟨i, v, xs, hi, rfl, rfl, hno4, hh4, ho4, hbr4⟩
    by_cases hlt : i < 40
    · have hz4 := hno4.size
      refine E_seq ?_
      refine E_seqR ?_
      refine EL_val (R_move rfl) rfl rfl rfl ?_
      first | refine EL_val (R_lss_t rfl rfl (by omega)) rfl rfl rfl ?_ | refine EL_val (R_lss_f rfl rfl (by omega)) rfl rfl rfl ?_
      refine EL_nil ?_
      refine E_cond_t rfl ?_
      refine E_skip ?_
      refine thenQ_n ?_
      refine E_seq ?_
      refine E_block ?_
      refine E_region ?_
      refine EL_val (R_move rfl) rfl rfl rfl ?_
      refine EL_step rfl ?_
      refine EO_makeSlice 64 64 rfl rfl Try.underlying23 K.zr5 K.sz5 K.by5 (by first | rfl | omega) (by first | rfl | omega) (by omega) (by omega) (by omega) rfl ?_
      intro w5 hn5
      refine EL_step rfl ?_
      refine EO_buildSlice Try.underlying26 K.zr23 K.sz23 rfl rfl rfl (fill_whole rfl (by rw [size_madeCells])) rfl ?_
      intro w6 hn6
      refine EL_step rfl ?_
      refine EO_append rfl rfl Try.underlying26 K.sz23 K.zr23 K.by23 rfl (by decide) ((hn5.mods.trans hn6.mods).own ho4 fun _ _ h => h) (Src.bk hn6.bk 1 1 [.slice (some ⟨w4.heap.size, 0, none⟩) 64 64] rfl (fun q u hq => by rw [Nat.zero_add]; show (#[.slice (some ⟨w4.heap.size, 0, none⟩) 64 64] : Array Value)[q]? = some u; simpa using hq)) (by simp [Value.oneCell']) (by simp only [maxLen]; omega) (by omega) (by have := hn5.size; have := hn6.size; omega) rfl ?_
      intro v7 w7 ho7 hm7 hat7
      refine EL_val (R_assign rfl) rfl rfl rfl ?_
      refine EL_nil ?_
      refine inB_n ?_
      refine thenQ_n ?_
      refine E_region ?_
      refine EL_val (R_move rfl) rfl rfl rfl ?_
      first | refine EL_val (R_inc rfl (by omega)) rfl rfl rfl ?_ | refine EL_val (R_add_in rfl rfl (by omega) (by omega)) rfl rfl rfl ?_
      refine EL_val (R_assign rfl) rfl rfl rfl ?_
      refine EL_nil ?_
      refine thenQ_n ?_
      have hno46 := hn5.mods.trans hn6.mods
      have ho6 := hno46.own ho4 fun _ _ h => h
      have hob : OB w.heap.size w6 (.slice (some ⟨w4.heap.size, 0, none⟩) 64 64) (zerosB 64) := hn6.mods.own (OB.new hn5 (by omega) (by simp only [maxLen]; omega)) fun _ _ h => h
      have hbr6 := (hbr4.no hno46).snoc hob
      have hne : ∀ {g : Nat} {C : Array Value} {t : TypeId}, Bk w6 g C t → t ≠ 23 → ¬ (some g = v.ownBlock) := fun hb ht e => by
        obtain ⟨_, cur, hc⟩ := own_blk ho6 e.symm
        exact ht (hb.inj hc).2
      have hno6 := hno4.trans hno46
      refine ⟨rfl, 40 - (i + 1), [(2, .slice A2 sz.length c2), (3, .int .u8 (ct : Int)), (4, .int .u8 (fill.toNat : Int)), (11, ptr b11), (12, v7), (13, .int .i64 ((i + 1 : Nat) : Int))], by omega, ⟨rfl, rfl, rfl, rfl, rfl, rfl, trivial⟩, i + 1, v7, _, by omega, rfl, rfl, hno6.trans' hm7 (fun k hk e => by have := (own_blk ho6 e.symm).1; omega), hm7.bk (hno46.bk' hh4) (hne (hno46.bk' hh4) (by decide)), ho7, ?_⟩
      rw [show i + 1 = i + 1 from rfl, List.replicate_succ']
      exact hbr6.mods hm7 fun g C hb => hne hb (by decide)
    · have hi' : i = 40 := by omega
      subst hi'
      obtain ⟨gb, cap, _, rfl, _⟩ := own_form ho4 (by omega)
      refine E_seq ?_
      refine E_seqR ?_
      refine EL_val (R_move rfl) rfl rfl rfl ?_
      first | refine EL_val (R_lss_t rfl rfl (by omega)) rfl rfl rfl ?_ | refine EL_val (R_lss_f rfl rfl (by omega)) rfl rfl rfl ?_
      refine EL_nil ?_
      refine E_cond_f rfl ?_
      refine E_exit ?_
      refine thenQ_e ?_
      refine thenQ_e ?_
      refine inB_eq rfl ?_
      refine thenQ_n ?_
      exact ⟨rfl, [(2, .slice A2 sz.length c2), (3, .int .u8 (ct : Int)), (4, .int .u8 (fill.toNat : Int)), (11, ptr b11), (12, .slice (some ⟨gb, 0, none⟩) 40 cap)], ⟨rfl, rfl, rfl, rfl, rfl, trivial⟩, gb, cap, xs, rfl, hno4, hh4, ho4, hbr4⟩
  clear hh3 hno3 hno2 hn1 hu2 hn3 hz1 hz2 hz3 w1 w2 w3
  rintro e0 w1 ⟨gb, cap, xs, rfl, hno1, hh1, ho1, hbr1⟩

  refine E_seqR ?_
  refine EL_val (R_assign rfl) rfl rfl rfl ?_
  refine EL_nil ?_
  refine E_seqR ?_
  refine EL_val (R_assign rfl) rfl rfl rfl ?_
  refine EL_nil ?_
  refine E_seqR ?_
  refine EL_val (R_loadAgg rfl K.ag25 (whole_cells hh1) (K.sz25)) rfl rfl rfl ?_
  refine EL_step rfl ?_
  refine EO_alloc K.zr25 rfl ?_
  intro w2 hn2
  refine EL_step rfl ?_
  refine EO_storeAggB hn2.bk rfl rfl K.sz25 rfl rfl ?_
  intro w3 hu3
  refine EL_nil ?_
  refine E_seq ?_
  refine E_seqR ?_
  refine EL_val (R_assign rfl) rfl rfl rfl ?_
  refine EL_nil ?_
  have hz1 := hno1.size
  obtain ⟨b16, hb16⟩ : ∃ b16, b16 = w1.heap.size := ⟨_, rfl⟩
  rw [← hb16] at hu3 ⊢
  have hne16 : b11 ≠ b16 := by have := hh1.lt; omega
  have ws3 : WS w w3 b11 b16 a0 s0 a0 s0 gb cap (List.replicate 40 (zerosB 64)) xs := by
    have hn2' := hn2.bk
    rw [← hb16] at hn2'
    exact ⟨hu3.mods.bk (hn2.mods.bk' hh1) hne16, hu3.bk, own_upd (hn2.mods.own ho1 fun _ _ h => h) hu3 hn2' (by decide), (hbr1.no hn2.mods).mods hu3.mods (fun g C hb e => by subst e; exact absurd (hb.inj hn2').2 (by decide)), by simp,
      (hno1.trans hn2.mods).trans' hu3.mods (fun k hk e => by omega), by omega, by omega, hne16⟩
  clear hh1 ho1 hbr1 hno1 hn2 hu3
  have hwh0 : plW sz 0 ≤ cut := Nat.zero_le _
  have hlaid0 : ∀ q, q < 40 → (List.replicate 40 (zerosB 64)).getD ((a0 + q) % 40) [] = laidW cut (stW s0 fill sz 0) q := fun q hq => by
    have h1 : (a0 + q) % 40 < 40 := by omega
    have h2 : laidW cut (stW s0 fill sz 0) q = zerosB 64 := by unfold laidW; split <;> rfl
    rw [h2, List.getD_eq_getElem?_getD, List.getElem?_eq_getElem (by simpa using h1), List.getElem_replicate]
    rfl
  refine E_cut (fun e0 w' => ∃ m wh Bl xs, e0 = [(2, .slice (A2) sz.length c2), (4, .int .u8 (fill.toNat : Int)), (11, ptr b11), (12, .slice (some ⟨gb, 0, none⟩) 40 cap), (15, .int .i64 ((wh : Nat) : Int)), (16, ptr b16)] ∧ m ≤ sz.length ∧ plW sz m ≤ 40 ∧ wh ≤ m ∧ plW sz wh ≤ cut ∧ (wh = m ∨ cut < plW sz (wh + 1)) ∧ WS w w' b11 b16 a0 s0 ((a0 + plW sz wh) % 40) (s0 + wh) gb cap Bl xs ∧ ∀ q, q < 40 → Bl.getD ((a0 + q) % 40) [] = laidW cut (stW s0 fill sz m) q) ?_ ?_
  · refine E_block ?_
    refine E_loop (fun m' e' w' => ∃ i wh Bl xs, m' = sz.length - i ∧ e' = [(2, .slice (A2) sz.length c2), (3, .int .u8 (ct : Int)), (4, .int .u8 (fill.toNat : Int)), (11, ptr b11), (12, .slice (some ⟨gb, 0, none⟩) 40 cap), (14, .int .i64 (plW sz (i) : Int)), (15, .int .i64 ((wh : Nat) : Int)), (16, ptr b16), (17, .int .i64 ((i : Nat) : Int))] ∧ i ≤ sz.length ∧ plW sz i ≤ 40 ∧ wh ≤ i ∧ plW sz wh ≤ cut ∧ (wh = i ∨ cut < plW sz (wh + 1)) ∧ WS w w' b11 b16 a0 s0 ((a0 + plW sz wh) % 40) (s0 + wh) gb cap Bl xs ∧ ∀ q, q < 40 → Bl.getD ((a0 + q) % 40) [] = laidW cut (stW s0 fill sz i) q) sz.length [(2, .slice (A2) sz.length c2), (3, .int .u8 (ct : Int)), (4, .int .u8 (fill.toNat : Int)), (11, ptr b11), (12, .slice (some ⟨gb, 0, none⟩) 40 cap), (14, .int .i64 (plW sz (0) : Int)), (15, .int .i64 ((0 : Nat) : Int)), (16, ptr b16), (17, .int .i64 ((0 : Nat) : Int))] ⟨rfl, rfl, rfl, rfl, rfl, rfl, rfl, rfl, rfl, trivial⟩
      ⟨0, 0, _, xs, by omega, rfl, by omega, Nat.zero_le _, Nat.le_refl _, hwh0, .inl rfl, by rw [plW, show (a0 + 0) % 40 = a0 from by omega, show s0 + ((0 : Nat) : Int) = s0 from by omega]; exact ws3, hlaid0⟩ ?_
    clear ws3 hlaid0
    clear xs w1 hb16 hne16 hz1
    rintro m' e w4 ⟨i, wh, Bl, xs, rfl, rfl, hi, hp40, hwi, hwc, hws, ws, hlaid⟩
    have h3i := plW_ge sz i
    by_cases hlt : i < sz.length
    case neg =>
      have hi' : i = sz.length := by omega
      subst hi'
      refine E_seq ?_
      refine E_seqR ?_
      refine EL_val (R_move rfl) rfl rfl rfl ?_
      refine EL_val (R_move rfl) rfl rfl rfl ?_
      refine EL_val (R_lenSlice rfl Try.underlying23) rfl rfl rfl ?_
      first | refine EL_val (R_lss_t rfl rfl (by omega)) rfl rfl rfl ?_ | refine EL_val (R_lss_f rfl rfl (by omega)) rfl rfl rfl ?_
      refine EL_nil ?_
      refine E_cond_f rfl ?_
      refine E_exit ?_
      refine thenQ_e ?_
      refine thenQ_e ?_
      refine inB_eq rfl ?_
      refine thenQ_n ?_
      exact ⟨rfl, [(2, .slice (A2) sz.length c2), (4, .int .u8 (fill.toNat : Int)), (11, ptr b11), (12, .slice (some ⟨gb, 0, none⟩) 40 cap), (15, .int .i64 ((wh : Nat) : Int)), (16, ptr b16)], ⟨rfl, rfl, rfl, rfl, rfl, rfl, trivial⟩, sz.length, wh, Bl, xs, rfl, Nat.le_refl _, hp40, hwi, hwc, hws, ws, hlaid⟩
    obtain ⟨g, o, rfl, hcell⟩ := hsz.cell hlt
    obtain ⟨n, hn⟩ : ∃ n, n = txN sz i := ⟨_, rfl⟩
    have hgd : sz.getD i 0 = sz[i] := by rw [List.getD_eq_getElem?_getD, List.getElem?_eq_getElem hlt]; rfl
    have hn5 : n = sz[i].toNat % 5 + 1 := by rw [hn]; unfold txN; rw [hgd]
    have hpl : plW sz (i + 1) = plW sz i + n + 2 := by rw [plW, hn]
    have hc4 : w4.cell? ⟨g, o + i * 1, none⟩ = some (.int .u8 (sz[i].toNat : Int)) := by rw [Nat.mul_one]; exact ws.no.cell hcell id
    by_cases hfit : plW sz i + n + 2 ≤ 40
    case neg =>
      refine E_seq ?_
      refine E_seqR ?_
      refine EL_val (R_move rfl) rfl rfl rfl ?_
      refine EL_val (R_move rfl) rfl rfl rfl ?_
      refine EL_val (R_lenSlice rfl Try.underlying23) rfl rfl rfl ?_
      first | refine EL_val (R_lss_t rfl rfl (by omega)) rfl rfl rfl ?_ | refine EL_val (R_lss_f rfl rfl (by omega)) rfl rfl rfl ?_
      refine EL_nil ?_
      refine E_cond_t rfl ?_
      refine E_skip ?_
      refine thenQ_n ?_
      refine E_seq ?_
      refine E_block ?_
      refine E_seqR ?_
      refine EL_val (R_move rfl) rfl rfl rfl ?_
      refine EL_val (R_move rfl) rfl rfl rfl ?_
      refine EL_val (R_indexAddr rfl rfl Try.underlying23 K.sz5 (m := i) rfl hlt) rfl rfl rfl ?_
      refine EL_val (R_load rfl K.ag5 (hc4)) rfl rfl rfl ?_
      refine EL_val (R_remE ((sz[i].toNat % 5 : Nat) : Int) (by omega) (by omega) (by omega) rfl rfl) rfl rfl rfl ?_
      refine EL_val (R_convInt ((sz[i].toNat % 5 : Nat) : Int) (wrap_i64_in (by omega) (by omega)) rfl Try.underlying5 Try.underlying3) rfl rfl rfl ?_
      refine EL_val (R_addE ((n : Int)) rfl rfl (by omega) (by omega) (by omega)) rfl rfl rfl ?_
      refine EL_val (R_assign rfl) rfl rfl rfl ?_
      refine EL_nil ?_
      refine E_seq ?_
      refine E_seqR ?_
      refine EL_val (R_move rfl) rfl rfl rfl ?_
      refine EL_val (R_move rfl) rfl rfl rfl ?_
      refine EL_val (R_addE (((plW sz i + n : Nat) : Int)) rfl rfl (by omega) (by omega) (by omega)) rfl rfl rfl ?_
      refine EL_val (R_addE (((plW sz i + n + 2 : Nat) : Int)) rfl rfl (by omega) (by omega) (by omega)) rfl rfl rfl ?_
      first | refine EL_val (R_gtr_t rfl rfl (by omega)) rfl rfl rfl ?_ | refine EL_val (R_gtr_f rfl rfl (by omega)) rfl rfl rfl ?_
      refine EL_nil ?_
      refine E_cond_t rfl ?_
      refine E_exit ?_
      refine thenQ_e ?_
      refine inB_ne rfl ?_
      refine thenQ_e ?_
      refine thenQ_e ?_
      refine inB_eq rfl ?_
      refine thenQ_n ?_
      exact ⟨rfl, [(2, .slice (some ⟨g, o, none⟩) sz.length c2), (4, .int .u8 (fill.toNat : Int)), (11, ptr b11), (12, .slice (some ⟨gb, 0, none⟩) 40 cap), (15, .int .i64 ((wh : Nat) : Int)), (16, ptr b16)], ⟨rfl, rfl, rfl, rfl, rfl, rfl, trivial⟩, i, wh, Bl, xs, rfl, hi, hp40, hwi, hwc, hws, ws, hlaid⟩
    have hz4 := ws.no.size
    obtain ⟨b19, hb19⟩ : ∃ b19, b19 = w4.heap.size := ⟨_, rfl⟩
    refine E_seq ?_
    refine E_seqR ?_
    refine EL_val (R_move rfl) rfl rfl rfl ?_
    refine EL_val (R_move rfl) rfl rfl rfl ?_
    refine EL_val (R_lenSlice rfl Try.underlying23) rfl rfl rfl ?_
    first | refine EL_val (R_lss_t rfl rfl (by omega)) rfl rfl rfl ?_ | refine EL_val (R_lss_f rfl rfl (by omega)) rfl rfl rfl ?_
    refine EL_nil ?_
    refine E_cond_t rfl ?_
    refine E_skip ?_
    refine thenQ_n ?_
    refine E_seq ?_
    refine E_block ?_
    refine E_seqR ?_
    refine EL_val (R_move rfl) rfl rfl rfl ?_
    refine EL_val (R_move rfl) rfl rfl rfl ?_
    refine EL_val (R_indexAddr rfl rfl Try.underlying23 K.sz5 (m := i) rfl hlt) rfl rfl rfl ?_
    refine EL_val (R_load rfl K.ag5 (hc4)) rfl rfl rfl ?_
    refine EL_val (R_remE ((sz[i].toNat % 5 : Nat) : Int) (by omega) (by omega) (by omega) rfl rfl) rfl rfl rfl ?_
    refine EL_val (R_convInt ((sz[i].toNat % 5 : Nat) : Int) (wrap_i64_in (by omega) (by omega)) rfl Try.underlying5 Try.underlying3) rfl rfl rfl ?_
    refine EL_val (R_addE ((n : Int)) rfl rfl (by omega) (by omega) (by omega)) rfl rfl rfl ?_
    refine EL_val (R_assign rfl) rfl rfl rfl ?_
    refine EL_nil ?_
    refine E_seq ?_
    refine E_seqR ?_
    refine EL_val (R_move rfl) rfl rfl rfl ?_
    refine EL_val (R_move rfl) rfl rfl rfl ?_
    refine EL_val (R_addE (((plW sz i + n : Nat) : Int)) rfl rfl (by omega) (by omega) (by omega)) rfl rfl rfl ?_
    refine EL_val (R_addE (((plW sz i + n + 2 : Nat) : Int)) rfl rfl (by omega) (by omega) (by omega)) rfl rfl rfl ?_
    first | refine EL_val (R_gtr_t rfl rfl (by omega)) rfl rfl rfl ?_ | refine EL_val (R_gtr_f rfl rfl (by omega)) rfl rfl rfl ?_
    refine EL_nil ?_
    refine E_cond_f rfl ?_
    refine E_skip ?_
    refine thenQ_n ?_
    refine E_seqR ?_
    refine EL_val (R_fieldAddr rfl K.fT25_1) rfl rfl rfl ?_
    refine EL_val (R_load rfl K.ag3 (ws.hh.cell rfl)) rfl rfl rfl ?_
    refine EL_val (R_move rfl) rfl rfl rfl ?_
    refine EL_val (R_addE ((s0 + (i : Int))) rfl rfl (by omega) (by omega) (by omega)) rfl rfl rfl ?_
    refine EL_val (R_build (cells := #[.int .i64 (s0 + (i : Int)), .slice none 0 0]) K.zr29 K.pl29 rfl rfl) rfl rfl rfl ?_
    refine EL_step rfl ?_
    refine EO_alloc K.zr29 rfl ?_
    intro w5 hn5'
    refine EL_step rfl ?_
    refine EO_storeAggB hn5'.bk rfl rfl K.sz29 rfl rfl ?_
    intro w6 hu6
    refine EL_nil ?_
    refine E_seq ?_
    refine E_seqR ?_
    refine EL_val (R_assign rfl) rfl rfl rfl ?_
    refine EL_nil ?_
    have hno46 : Mods No w4 w6 := hn5'.mods.trans' hu6.mods (fun k hk e => by omega)
    rw [← hb19] at hu6 ⊢
    refine E_cut (fun e0 w' => ∃ u, e0 = [(2, .slice (some ⟨g, o, none⟩) sz.length c2), (3, .int .u8 (ct : Int)), (4, .int .u8 (fill.toNat : Int)), (11, ptr b11), (12, .slice (some ⟨gb, 0, none⟩) 40 cap), (14, .int .i64 (plW sz i : Int)), (15, .int .i64 ((wh : Nat) : Int)), (16, ptr b16), (17, .int .i64 ((i : Nat) : Int)), (18, .int .i64 (n : Int)), (19, ptr b19)] ∧ Mods No w4 w' ∧ Bk w' b19 #[.int .i64 (s0 + (i : Int)), u] 29 ∧ w'.ownsRow w4.heap.size 3 1 u n (ival (toW i n))) ?_ ?_
    · refine E_block ?_
      refine E_loop (fun m' e' w' => ∃ k u, k ≤ n ∧ m' = n - k ∧ e' = [(2, .slice (some ⟨g, o, none⟩) sz.length c2), (3, .int .u8 (ct : Int)), (4, .int .u8 (fill.toNat : Int)), (11, ptr b11), (12, .slice (some ⟨gb, 0, none⟩) 40 cap), (14, .int .i64 (plW sz i : Int)), (15, .int .i64 ((wh : Nat) : Int)), (16, ptr b16), (17, .int .i64 ((i : Nat) : Int)), (18, .int .i64 (n : Int)), (19, ptr b19), (20, .int .i64 ((k : Nat) : Int))] ∧ Mods No w4 w' ∧ Bk w' b19 #[.int .i64 (s0 + (i : Int)), u] 29 ∧ w'.ownsRow w4.heap.size 3 1 u k (ival (toW i k))) n [(2, .slice (some ⟨g, o, none⟩) sz.length c2), (3, .int .u8 (ct : Int)), (4, .int .u8 (fill.toNat : Int)), (11, ptr b11), (12, .slice (some ⟨gb, 0, none⟩) 40 cap), (14, .int .i64 (plW sz i : Int)), (15, .int .i64 ((wh : Nat) : Int)), (16, ptr b16), (17, .int .i64 ((i : Nat) : Int)), (18, .int .i64 (n : Int)), (19, ptr b19), (20, .int .i64 ((0 : Nat) : Int))] ⟨rfl, rfl, rfl, rfl, rfl, rfl, rfl, rfl, rfl, rfl, rfl, rfl, trivial⟩
        ⟨0, .slice none 0 0, by omega, by omega, rfl, hno46, hu6.bk, World.ownsRow_nil _ _ _ _⟩ ?_
      clear hno46 hu6 hn5'
      clear w5 w6
      rintro m' e w5 ⟨k, u, hk, rfl, rfl, hno5, hd5, ho5⟩
      by_cases hkn : k < n
      · have hz5 := hno5.size
        refine E_seq ?_
        refine E_seqR ?_
        refine EL_val (R_move rfl) rfl rfl rfl ?_
        refine EL_val (R_move rfl) rfl rfl rfl ?_
        first | refine EL_val (R_lss_t rfl rfl (by omega)) rfl rfl rfl ?_ | refine EL_val (R_lss_f rfl rfl (by omega)) rfl rfl rfl ?_
        refine EL_nil ?_
        refine E_cond_t rfl ?_
        refine E_skip ?_
        refine thenQ_n ?_
        refine E_seq ?_
        refine E_block ?_
        refine E_region ?_
        refine EL_val (R_fieldAddr rfl K.fT29_1) rfl rfl rfl ?_
        refine EL_val (R_load rfl K.ag27 (hd5.cell rfl)) rfl rfl rfl ?_
        refine EL_val (R_move rfl) rfl rfl rfl ?_
        refine EL_val (R_mulE (((7 * i : Nat) : Int)) rfl rfl (by omega) (by omega) (by omega)) rfl rfl rfl ?_
        refine EL_val (R_addE (((60 + 7 * i : Nat) : Int)) rfl rfl (by omega) (by omega) (by omega)) rfl rfl rfl ?_
        refine EL_val (R_move rfl) rfl rfl rfl ?_
        refine EL_val (R_addE (((60 + 7 * i + k : Nat) : Int)) rfl rfl (by omega) (by omega) (by omega)) rfl rfl rfl ?_
        refine EL_step rfl ?_
        refine EO_buildSlice Try.underlying27 K.zr3 K.sz3 rfl rfl rfl (fill_whole rfl (by rw [size_madeCells])) rfl ?_
        intro w6 hn6
        refine EL_step rfl ?_
        refine EO_append rfl rfl Try.underlying27 K.sz3 K.zr3 K.by3 rfl (by decide) (hn6.mods.own ho5 fun _ _ h => h) (Src.bk hn6.bk 1 1 [.int .i64 ((60 + 7 * i + k : Nat) : Int)] rfl (fun q u hq => by rw [Nat.zero_add]; show (#[.int .i64 ((60 + 7 * i + k : Nat) : Int)] : Array Value)[q]? = some u; simpa using hq)) (by simp [Value.oneCell']) (by simp only [maxLen]; omega) (by omega) (by have := hn6.size; omega) rfl ?_
        intro v7 w7 ho7 hm7 hat7
        (have ho6 := hn6.mods.own ho5 (fun _ _ h => h); have hd7 := hm7.bk (hn6.mods.bk' hd5) (fun e => by obtain ⟨_, cur, hc⟩ := own_blk ho6 e.symm; exact absurd (hc.inj (hn6.mods.bk' hd5)).2 (by decide)); obtain ⟨A7, c7, rfl, _, _⟩ := own_sl ho7)
        refine EL_val (R_fieldAddr rfl K.fT29_1) rfl rfl rfl ?_
        refine EL_step rfl ?_
        refine EO_store1 rfl rfl K.sz27 rfl hd7 (by show 1 < 2; omega) ?_
        intro w8 hu8
        refine EL_nil ?_
        refine inB_n ?_
        refine thenQ_n ?_
        refine E_region ?_
        refine EL_val (R_move rfl) rfl rfl rfl ?_
        first | refine EL_val (R_inc rfl (by omega)) rfl rfl rfl ?_ | refine EL_val (R_add_in rfl rfl (by omega) (by omega)) rfl rfl rfl ?_
        refine EL_val (R_assign rfl) rfl rfl rfl ?_
        refine EL_nil ?_
        refine thenQ_n ?_
        refine ⟨rfl, n - (k + 1), [(2, .slice (some ⟨g, o, none⟩) sz.length c2), (3, .int .u8 (ct : Int)), (4, .int .u8 (fill.toNat : Int)), (11, ptr b11), (12, .slice (some ⟨gb, 0, none⟩) 40 cap), (14, .int .i64 (plW sz i : Int)), (15, .int .i64 ((wh : Nat) : Int)), (16, ptr b16), (17, .int .i64 ((i : Nat) : Int)), (18, .int .i64 (n : Int)), (19, ptr b19), (20, .int .i64 ((k + 1 : Nat) : Int))], by omega, ⟨rfl, rfl, rfl, rfl, rfl, rfl, rfl, rfl, rfl, rfl, rfl, rfl, trivial⟩, k + 1, _, by omega, rfl, rfl, ?_, hu8.bk, ?_⟩
        · exact ((hno5.trans hn6.mods).trans' hm7 (fun q hq e => by have := (own_blk ho6 e.symm).1; omega)).trans' hu8.mods (fun q hq e => by omega)
        · rw [toW_succ]
          exact own_upd ho7 hu8 hd7 (by decide)
      · have hk' : n = k := by omega
        subst hk'
        refine E_seq ?_
        refine E_seqR ?_
        refine EL_val (R_move rfl) rfl rfl rfl ?_
        refine EL_val (R_move rfl) rfl rfl rfl ?_
        first | refine EL_val (R_lss_t rfl rfl (by omega)) rfl rfl rfl ?_ | refine EL_val (R_lss_f rfl rfl (by omega)) rfl rfl rfl ?_
        refine EL_nil ?_
        refine E_cond_f rfl ?_
        refine E_exit ?_
        refine thenQ_e ?_
        refine thenQ_e ?_
        refine inB_eq rfl ?_
        refine thenQ_n ?_
        exact ⟨rfl, [(2, .slice (some ⟨g, o, none⟩) sz.length c2), (3, .int .u8 (ct : Int)), (4, .int .u8 (fill.toNat : Int)), (11, ptr b11), (12, .slice (some ⟨gb, 0, none⟩) 40 cap), (14, .int .i64 (plW sz i : Int)), (15, .int .i64 ((wh : Nat) : Int)), (16, ptr b16), (17, .int .i64 ((i : Nat) : Int)), (18, .int .i64 (n : Int)), (19, ptr b19)], ⟨rfl, rfl, rfl, rfl, rfl, rfl, rfl, rfl, rfl, rfl, rfl, trivial⟩, u, rfl, hno5, hd5, ho5⟩
    clear hno46 hu6 hn5'
    clear w5 w6
    rintro e0 w5 ⟨u, rfl, hno5, hd5, ho5⟩
    have ws5 := ws.mv hno5
    obtain ⟨Au, cu, rfl, hcu, _⟩ := own_sl ho5
    have hn1 : 1 ≤ n ∧ n ≤ 5 := by omega
    have hi13 : i ≤ 12 := by omega
    have htl := toW_length i n
    have hsound : soundS (s0 + (i : Int)) (toW i n) = true := sound_toW (by omega) (by omega) (by omega) hn1.1 hn1.2
    have hend : endOk (s0 + (i : Int)) (n : Int) = true := by unfold endOk; rw [decide_eq_true_eq]; omega
    have hI : IS w5 Au (toW i n) := by
      have h := Src.own ho5
      unfold IS
      rw [htl]
      exact h
    have hlb := beginB_length (s0 + (i : Int)) (toW i n) (by omega)
    have hle := endB_length (s0 + (i : Int)) (n : Int)
    have hz5 := hno5.size
    have hb19l : w4.heap.size ≤ b19 := by omega

    refine E_seqR ?_
    refine EL_val (R_loadAgg rfl K.ag29 (whole_cells hd5) (K.sz29)) rfl rfl rfl ?_
    refine EL_step rfl ?_
    refine EO_call K.bd4 rfl rfl ((by have := begin_ok (s := s0 + (i : Int)) (c := cu) hI (by omega) (by omega); rw [hsound, htl] at this; exact this)) ?_
    rintro _ w6 ⟨⟨vb, rfl, ho6⟩, hm6⟩
    refine EL_val (R_move rfl) rfl rfl rfl ?_
    refine EL_val (R_extract rfl rfl) rfl rfl rfl ?_
    refine EL_val (R_extract rfl rfl) rfl rfl rfl ?_
    refine EL_val (R_assign rfl) rfl rfl rfl ?_
    refine EL_val (R_assign rfl) rfl rfl rfl ?_
    refine EL_nil ?_
    refine E_seqR ?_
    refine EL_val (R_fieldAddr rfl K.fT29_0) rfl rfl rfl ?_
    refine EL_val (R_load rfl K.ag3 ((hm6.bk' hd5).cell rfl)) rfl rfl rfl ?_
    refine EL_val (R_move rfl) rfl rfl rfl ?_
    refine EL_step rfl ?_
    refine EO_call K.bd5 rfl rfl ((by have := end_ok (w := w6) (s := s0 + (i : Int)) (n := (n : Int)); rw [hend] at this; exact this)) ?_
    rintro _ w7 ⟨⟨ve, rfl, ho7⟩, hm7⟩
    refine EL_val (R_move rfl) rfl rfl rfl ?_
    refine EL_val (R_extract rfl rfl) rfl rfl rfl ?_
    refine EL_val (R_extract rfl rfl) rfl rfl rfl ?_
    refine EL_val (R_assign rfl) rfl rfl rfl ?_
    refine EL_val (R_assign rfl) rfl rfl rfl ?_
    refine EL_nil ?_
    refine E_seq ?_
    refine E_seqR ?_
    refine EL_val (R_move rfl) rfl rfl rfl ?_
    first | refine EL_val (R_neq_t rfl rfl (by omega)) rfl rfl rfl ?_ | refine EL_val (R_neq_f rfl rfl (by omega)) rfl rfl rfl ?_
    refine EL_val (R_move rfl) rfl rfl rfl ?_
    first | refine EL_val (R_move rfl) rfl rfl rfl ?_ | refine EL_not rfl rfl rfl ?_
    first | refine EL_val (R_neq_t rfl rfl (by omega)) rfl rfl rfl ?_ | refine EL_val (R_neq_f rfl rfl (by omega)) rfl rfl rfl ?_ | refine EL_not rfl rfl rfl ?_
    first | refine EL_val (R_pick_t rfl rfl) rfl rfl rfl ?_ | refine EL_val (R_pick_f rfl rfl) rfl rfl rfl ?_
    refine EL_nil ?_
    refine E_cond_f rfl ?_
    refine E_skip ?_
    refine thenQ_n ?_
    refine E_seqR ?_
    refine EL_val (R_move rfl) rfl rfl rfl ?_
    refine EL_step rfl ?_
    refine EO_buildSlice Try.underlying26 K.zr23 K.sz23 rfl rfl rfl (fill_whole (C := madeCells (Value.slice none 0 0).cells (1 * 1)) (v := vb) (s := 1) (by obtain ⟨_, _, rfl, _⟩ := own_sl ho6; rfl) (by rw [size_madeCells])) rfl ?_
    intro w8 hn8
    refine EL_val (R_assign rfl) rfl rfl rfl ?_
    refine EL_nil ?_
    refine E_seq ?_
    refine E_seqR ?_
    refine EL_val (R_assign rfl) rfl rfl rfl ?_
    refine EL_nil ?_
    obtain ⟨Ab, cb, rfl, hcb, _⟩ := own_sl ho6
    obtain ⟨Ae, ce, rfl, hce, _⟩ := own_sl ho7
    have hz6 := hm6.size
    have hz7 := hm7.size
    have hz8 := hn8.size
    have hno8 : Mods No w4 w8 := ((hno5.trans hm6).trans hm7).trans hn8.mods
    have hd8 := hn8.mods.bk' (hm7.bk' (hm6.bk' hd5))
    have hoe8 : OB w4.heap.size w8 (.slice Ae (endB (s0 + (i : Int)) (n : Int)).length ce) (endB (s0 + (i : Int)) (n : Int)) := own_mono (hn8.mods.own ho7 fun _ _ h => h) (by omega)
    have hol8 : w8.ownsRow w4.heap.size 23 1 (.slice (some ⟨w7.heap.size, 0, none⟩) 1 1) 1 [.slice Ab (beginB (s0 + (i : Int)) (toW i n)).length cb] := hn8.own (m := 1) (size := 1) rfl (by omega) (by simp only [maxLen]; omega)
    have hbl8 : BR w8 w4.heap.size [beginB (s0 + (i : Int)) (toW i n)] [.slice Ab (beginB (s0 + (i : Int)) (toW i n)).length cb] := ⟨own_mono ((hm7.trans hn8.mods).own ho6 fun _ _ h => h) (by omega), trivial⟩
    clear hn8 hm7 hm6 ho6 ho7 hd5 ho5 hI hno5 ws5
    refine E_cut (fun e0 w' => ∃ v xl, e0 = [(2, .slice (some ⟨g, o, none⟩) sz.length c2), (3, .int .u8 (ct : Int)), (4, .int .u8 (fill.toNat : Int)), (11, ptr b11), (12, .slice (some ⟨gb, 0, none⟩) 40 cap), (14, .int .i64 (plW sz i : Int)), (15, .int .i64 ((wh : Nat) : Int)), (16, ptr b16), (17, .int .i64 ((i : Nat) : Int)), (18, .int .i64 (n : Int)), (19, ptr b19), (23, .slice Ae (endB (s0 + (i : Int)) (n : Int)).length ce), (25, v)] ∧ Mods No w4 w' ∧ Bk w' b19 #[.int .i64 (s0 + (i : Int)), .slice Au n cu] 29 ∧ OB w4.heap.size w' (.slice Ae (endB (s0 + (i : Int)) (n : Int)).length ce) (endB (s0 + (i : Int)) (n : Int)) ∧ w'.ownsRow w4.heap.size 23 1 v (n + 1) xl ∧ BR w' w4.heap.size (beginB (s0 + (i : Int)) (toW i n) :: List.replicate n (dat fill i)) xl) ?_ ?_
    · refine E_block ?_
      refine E_loop (fun m' e' w' => ∃ k v xl, k ≤ n ∧ m' = n - k ∧ e' = [(2, .slice (some ⟨g, o, none⟩) sz.length c2), (3, .int .u8 (ct : Int)), (4, .int .u8 (fill.toNat : Int)), (11, ptr b11), (12, .slice (some ⟨gb, 0, none⟩) 40 cap), (14, .int .i64 (plW sz i : Int)), (15, .int .i64 ((wh : Nat) : Int)), (16, ptr b16), (17, .int .i64 ((i : Nat) : Int)), (18, .int .i64 (n : Int)), (19, ptr b19), (23, .slice Ae (endB (s0 + (i : Int)) (n : Int)).length ce), (25, v), (26, .int .i64 ((k : Nat) : Int))] ∧ Mods No w4 w' ∧ Bk w' b19 #[.int .i64 (s0 + (i : Int)), .slice Au n cu] 29 ∧ OB w4.heap.size w' (.slice Ae (endB (s0 + (i : Int)) (n : Int)).length ce) (endB (s0 + (i : Int)) (n : Int)) ∧ w'.ownsRow w4.heap.size 23 1 v (k + 1) xl ∧ BR w' w4.heap.size (beginB (s0 + (i : Int)) (toW i n) :: List.replicate k (dat fill i)) xl) n [(2, .slice (some ⟨g, o, none⟩) sz.length c2), (3, .int .u8 (ct : Int)), (4, .int .u8 (fill.toNat : Int)), (11, ptr b11), (12, .slice (some ⟨gb, 0, none⟩) 40 cap), (14, .int .i64 (plW sz i : Int)), (15, .int .i64 ((wh : Nat) : Int)), (16, ptr b16), (17, .int .i64 ((i : Nat) : Int)), (18, .int .i64 (n : Int)), (19, ptr b19), (23, .slice Ae (endB (s0 + (i : Int)) (n : Int)).length ce), (25, .slice (some ⟨w7.heap.size, 0, none⟩) 1 1), (26, .int .i64 ((0 : Nat) : Int))] ⟨rfl, rfl, rfl, rfl, rfl, rfl, rfl, rfl, rfl, rfl, rfl, rfl, rfl, rfl, trivial⟩
        ⟨0, _, _, by omega, by omega, rfl, hno8, hd8, hoe8, hol8, hbl8⟩ ?_
      clear hno8 hd8 hoe8 hol8 hbl8
      clear hz5 hz6 hz7 hz8 w5 w6 w7 w8
      rintro m' e w5 ⟨k, v, xl, hk, rfl, rfl, hno5, hd5, hoe5, hol5, hbl5⟩
      by_cases hkn : k < n
      · have hz5 := hno5.size
        have hbyte := byte_of (show i < 14 by omega)
        refine E_seq ?_
        refine E_seqR ?_
        refine EL_val (R_move rfl) rfl rfl rfl ?_
        refine EL_val (R_move rfl) rfl rfl rfl ?_
        first | refine EL_val (R_lss_t rfl rfl (by omega)) rfl rfl rfl ?_ | refine EL_val (R_lss_f rfl rfl (by omega)) rfl rfl rfl ?_
        refine EL_nil ?_
        refine E_cond_t rfl ?_
        refine E_skip ?_
        refine thenQ_n ?_
        refine E_seq ?_
        refine E_block ?_
        refine E_seqR ?_
        refine EL_step rfl ?_
        refine EO_makeSlice 64 64 rfl rfl Try.underlying23 K.zr5 K.sz5 K.by5 (by first | rfl | omega) (by first | rfl | omega) (by omega) (by omega) (by omega) rfl ?_
        intro w6 hn6
        refine EL_val (R_assign rfl) rfl rfl rfl ?_
        refine EL_nil ?_
        refine E_seqR ?_
        refine EL_val (R_move rfl) rfl rfl rfl ?_
        refine EL_val (R_move rfl) rfl rfl rfl ?_
        refine EL_val (R_indexAddr rfl rfl Try.underlying23 K.sz5 (m := 0) rfl (by omega)) rfl rfl rfl ?_
        refine EL_step rfl ?_
        refine EO_store1 rfl rfl K.sz5 rfl hn6.bk (by rw [size_madeCells]; omega) ?_
        intro w7 hu7
        refine EL_nil ?_
        refine E_seqR ?_
        refine EL_val (R_move rfl) rfl rfl rfl ?_
        refine EL_val (R_move rfl) rfl rfl rfl ?_
        refine EL_val (R_convInt ((UInt8.ofNat i).toNat : Int) hbyte rfl Try.underlying3 Try.underlying5) rfl rfl rfl ?_
        refine EL_val (R_indexAddr rfl rfl Try.underlying23 K.sz5 (m := 1) rfl (by omega)) rfl rfl rfl ?_
        refine EL_step rfl ?_
        refine EO_store1 rfl rfl K.sz5 rfl hu7.bk (by rw [Array.size_setIfInBounds, size_madeCells]; omega) ?_
        intro w8 hu8
        refine EL_nil ?_
        refine E_region ?_
        refine EL_val (R_move rfl) rfl rfl rfl ?_
        refine EL_val (R_move rfl) rfl rfl rfl ?_
        refine EL_step rfl ?_
        refine EO_buildSlice Try.underlying26 K.zr23 K.sz23 rfl rfl rfl (fill_whole rfl (by rw [size_madeCells])) rfl ?_
        intro w9 hn9
        (have hno69 : Mods No w5 w9 := ((hn6.mods.trans' hu7.mods (fun q hq e => by omega)).trans' hu8.mods (fun q hq e => by omega)).trans hn9.mods; have hz6 := hn6.size; have hz7 := hu7.size; have hz8 := hu8.size; have hz9 := hn9.size; have hol9 := hno69.own hol5 (fun _ _ h => h))
        refine EL_step rfl ?_
        refine EO_append rfl rfl Try.underlying26 K.sz23 K.zr23 K.by23 rfl (by decide) hol9 (Src.bk hn9.bk 1 1 [.slice (some ⟨w5.heap.size, 0, none⟩) 64 64] rfl (fun q u hq => by rw [Nat.zero_add]; show (#[.slice (some ⟨w5.heap.size, 0, none⟩) 64 64] : Array Value)[q]? = some u; simpa using hq)) (by simp [Value.oneCell']) (by simp only [maxLen]; omega) (by omega) (by omega) rfl ?_
        intro v10 w10 ho10 hm10 hat10
        refine EL_val (R_assign rfl) rfl rfl rfl ?_
        refine EL_nil ?_
        refine inB_n ?_
        refine thenQ_n ?_
        refine E_region ?_
        refine EL_val (R_move rfl) rfl rfl rfl ?_
        first | refine EL_val (R_inc rfl (by omega)) rfl rfl rfl ?_ | refine EL_val (R_add_in rfl rfl (by omega) (by omega)) rfl rfl rfl ?_
        refine EL_val (R_assign rfl) rfl rfl rfl ?_
        refine EL_nil ?_
        refine thenQ_n ?_
        have hne : ∀ {g : Nat} {C : Array Value} {t : TypeId}, Bk w9 g C t → t ≠ 23 → ¬ (some g = v.ownBlock) := fun hb ht e => by
          obtain ⟨_, cur, hc⟩ := own_blk hol9 e.symm
          exact ht (hb.inj hc).2
        have hob : OB w4.heap.size w9 (.slice (some ⟨w5.heap.size, 0, none⟩) 64 64) (dat fill i) := by
          have h1 : OB w4.heap.size w6 (.slice (some ⟨w5.heap.size, 0, none⟩) 64 64) (zerosB 64) := OB.new hn6 (by omega) (by simp only [maxLen]; omega)
          have h2 := OB.set1 h1 rfl hn6.bk hu7 (by omega)
          have h3 := OB.set1 h2 rfl hu7.bk hu8 (by omega)
          exact hn9.mods.own h3 fun _ _ h => h
        have hbl9 := (hbl5.no hno69).snoc hob
        refine ⟨rfl, n - (k + 1), [(2, .slice (some ⟨g, o, none⟩) sz.length c2), (3, .int .u8 (ct : Int)), (4, .int .u8 (fill.toNat : Int)), (11, ptr b11), (12, .slice (some ⟨gb, 0, none⟩) 40 cap), (14, .int .i64 (plW sz i : Int)), (15, .int .i64 ((wh : Nat) : Int)), (16, ptr b16), (17, .int .i64 ((i : Nat) : Int)), (18, .int .i64 (n : Int)), (19, ptr b19), (23, .slice Ae (endB (s0 + (i : Int)) (n : Int)).length ce), (25, v10), (26, .int .i64 ((k + 1 : Nat) : Int))], by omega, ⟨rfl, rfl, rfl, rfl, rfl, rfl, rfl, rfl, rfl, rfl, rfl, rfl, rfl, rfl, trivial⟩, k + 1, v10, _, by omega, rfl, rfl, (hno5.trans hno69).trans' hm10 (fun q hq e => by have := (own_blk hol9 e.symm).1; omega), hm10.bk (hno69.bk' hd5) (hne (hno69.bk' hd5) (by decide)), hm10.own (hno69.own hoe5 fun _ _ h => h) (fun q hq e => by obtain ⟨_, cur, hc⟩ := own_blk (hno69.own hoe5 fun _ _ h => h) hq; exact hne hc (by decide) e), ho10, ?_⟩
        rw [List.replicate_succ', ← List.cons_append]
        exact hbl9.mods hm10 fun g C hb => hne hb (by decide)
      · have hk' : n = k := by omega
        subst hk'
        refine E_seq ?_
        refine E_seqR ?_
        refine EL_val (R_move rfl) rfl rfl rfl ?_
        refine EL_val (R_move rfl) rfl rfl rfl ?_
        first | refine EL_val (R_lss_t rfl rfl (by omega)) rfl rfl rfl ?_ | refine EL_val (R_lss_f rfl rfl (by omega)) rfl rfl rfl ?_
        refine EL_nil ?_
        refine E_cond_f rfl ?_
        refine E_exit ?_
        refine thenQ_e ?_
        refine thenQ_e ?_
        refine inB_eq rfl ?_
        refine thenQ_n ?_
        exact ⟨rfl, [(2, .slice (some ⟨g, o, none⟩) sz.length c2), (3, .int .u8 (ct : Int)), (4, .int .u8 (fill.toNat : Int)), (11, ptr b11), (12, .slice (some ⟨gb, 0, none⟩) 40 cap), (14, .int .i64 (plW sz i : Int)), (15, .int .i64 ((wh : Nat) : Int)), (16, ptr b16), (17, .int .i64 ((i : Nat) : Int)), (18, .int .i64 (n : Int)), (19, ptr b19), (23, .slice Ae (endB (s0 + (i : Int)) (n : Int)).length ce), (25, v)], ⟨rfl, rfl, rfl, rfl, rfl, rfl, rfl, rfl, rfl, rfl, rfl, rfl, rfl, trivial⟩, v, xl, rfl, hno5, hd5, hoe5, hol5, hbl5⟩
    clear hno8 hd8 hoe8 hol8 hbl8
    clear hz5 hz6 hz7 hz8 w5 w6 w7 w8
    rintro e0 w5 ⟨v, xl, rfl, hno5, hd5, hoe5, hol5, hbl5⟩
    have hz5 := hno5.size

    refine E_seqR ?_
    refine EL_val (R_move rfl) rfl rfl rfl ?_
    refine EL_val (R_move rfl) rfl rfl rfl ?_
    refine EL_step rfl ?_
    refine EO_buildSlice Try.underlying26 K.zr23 K.sz23 rfl rfl rfl (fill_whole (C := madeCells (Value.slice none 0 0).cells (1 * 1)) (v := .slice Ae (endB (s0 + (i : Int)) (n : Int)).length ce) (s := 1) rfl (by rw [size_madeCells])) rfl ?_
    intro w6 hn6
    refine EL_step rfl ?_
    refine EO_append rfl rfl Try.underlying26 K.sz23 K.zr23 K.by23 rfl (by decide) (hn6.mods.own hol5 fun _ _ h => h) (Src.bk hn6.bk 1 1 [.slice Ae (endB (s0 + (i : Int)) (n : Int)).length ce] rfl (fun q u hq => by rw [Nat.zero_add]; show (#[.slice Ae (endB (s0 + (i : Int)) (n : Int)).length ce] : Array Value)[q]? = some u; simpa using hq)) (by simp [Value.oneCell']) (by simp only [maxLen]; omega) (by omega) (by have := hn6.size; omega) rfl ?_
    intro v7 w7 ho7 hm7 hat7
    refine EL_val (R_assign rfl) rfl rfl rfl ?_
    refine EL_nil ?_
    refine E_seq ?_
    refine E_seqR ?_
    refine EL_val (R_assign rfl) rfl rfl rfl ?_
    refine EL_nil ?_
    have hol6 := hn6.mods.own hol5 fun _ _ h => h
    have hne : ∀ {g : Nat} {C : Array Value} {t : TypeId}, Bk w6 g C t → t ≠ 23 → ¬ (some g = v.ownBlock) := fun hb ht e => by
      obtain ⟨_, cur, hc⟩ := own_blk hol6 e.symm
      exact ht (hb.inj hc).2
    have hbl7 : BR w7 w4.heap.size (txB s0 fill sz i) (xl ++ [.slice Ae (endB (s0 + (i : Int)) (n : Int)).length ce]) := by
      have h1 := ((hbl5.no hn6.mods).snoc (hn6.mods.own hoe5 fun _ _ h => h)).mods hm7 fun g C hb => hne hb (by decide)
      unfold txB
      rw [← hn]
      exact h1
    have hno7 : Mods No w4 w7 := (hno5.trans hn6.mods).trans' hm7 (fun q hq e => by have := (own_blk hol6 e.symm).1; omega)
    have hd7 := hm7.bk (hn6.mods.bk' hd5) (hne (hn6.mods.bk' hd5) (by decide))
    have ws7 := ws.mv hno7
    obtain ⟨xs7, hxs7⟩ : ∃ xs7, xs7 = xl ++ [.slice Ae (endB (s0 + (i : Int)) (n : Int)).length ce] := ⟨_, rfl⟩
    have ho7' : w7.ownsRow w4.heap.size 23 1 v7 (n + 2) xs7 := by rw [hxs7]; exact ho7
    rw [← hxs7] at hbl7
    clear ho7 hm7 hn6 hol6 hol5 hoe5 hbl5 hd5 hno5 hxs7 hat7 hne
    obtain ⟨gl, capl, _, rfl, _⟩ := own_form ho7' (by omega)
    obtain ⟨_, hgb4, _, _⟩ := ws.gbk
    have hgblt := hgb4.lt
    clear hgb4
    have htxl := txB_length s0 fill sz i
    rw [← hn] at htxl
    have hstl := stW_length s0 fill sz i
    refine E_cut (fun e0 w' => ∃ Bl xs, e0 = [(2, .slice (some ⟨g, o, none⟩) sz.length c2), (3, .int .u8 (ct : Int)), (4, .int .u8 (fill.toNat : Int)), (11, ptr b11), (12, .slice (some ⟨gb, 0, none⟩) 40 cap), (14, .int .i64 (plW sz (i + 1) : Int)), (15, .int .i64 ((wh : Nat) : Int)), (16, ptr b16), (17, .int .i64 ((i : Nat) : Int)), (19, ptr b19)] ∧ WS w w' b11 b16 a0 s0 ((a0 + plW sz wh) % 40) (s0 + wh) gb cap Bl xs ∧ Bk w' b19 #[.int .i64 (s0 + (i : Int)), .slice Au n cu] 29 ∧ ∀ q, q < 40 → Bl.getD ((a0 + q) % 40) [] = laidW cut (stW s0 fill sz (i + 1)) q) ?_ ?_
    · refine E_block ?_
      refine E_loop (fun m' e' w' => ∃ k Bl xs, k ≤ n + 2 ∧ m' = n + 2 - k ∧ e' = [(2, .slice (some ⟨g, o, none⟩) sz.length c2), (3, .int .u8 (ct : Int)), (4, .int .u8 (fill.toNat : Int)), (11, ptr b11), (12, .slice (some ⟨gb, 0, none⟩) 40 cap), (14, .int .i64 ((plW sz i + (k) : Nat) : Int)), (15, .int .i64 ((wh : Nat) : Int)), (16, ptr b16), (17, .int .i64 ((i : Nat) : Int)), (19, ptr b19), (25, .slice (some ⟨gl, 0, none⟩) (n + 2) capl), (28, .int .i64 ((k : Nat) : Int))] ∧ WS w w' b11 b16 a0 s0 ((a0 + plW sz wh) % 40) (s0 + wh) gb cap Bl xs ∧ Bk w' b19 #[.int .i64 (s0 + (i : Int)), .slice Au n cu] 29 ∧ w'.ownsRow w4.heap.size 23 1 (.slice (some ⟨gl, 0, none⟩) (n + 2) capl) (n + 2) xs7 ∧ BR w' w4.heap.size (txB s0 fill sz i) xs7 ∧
        ∀ q, q < 40 → Bl.getD ((a0 + q) % 40) [] = laidW cut (stW s0 fill sz i ++ (txB s0 fill sz i).take k) q) (n + 2) [(2, .slice (some ⟨g, o, none⟩) sz.length c2), (3, .int .u8 (ct : Int)), (4, .int .u8 (fill.toNat : Int)), (11, ptr b11), (12, .slice (some ⟨gb, 0, none⟩) 40 cap), (14, .int .i64 ((plW sz i + (0) : Nat) : Int)), (15, .int .i64 ((wh : Nat) : Int)), (16, ptr b16), (17, .int .i64 ((i : Nat) : Int)), (19, ptr b19), (25, .slice (some ⟨gl, 0, none⟩) (n + 2) capl), (28, .int .i64 ((0 : Nat) : Int))] ⟨rfl, rfl, rfl, rfl, rfl, rfl, rfl, rfl, rfl, rfl, rfl, rfl, trivial⟩
        ⟨0, Bl, xs, by omega, by omega, rfl, ws7, hd7, ho7', hbl7, fun q hq => by rw [List.take_zero, List.append_nil]; exact hlaid q hq⟩ ?_
      clear ws7 hd7 ho7' hbl7 hno7 hlaid
      rintro m' e w5 ⟨k, Bl, xs, hk, rfl, rfl, ws5, hd5, ho5, hbl5, hlaid⟩
      by_cases hkn : k < n + 2
      · obtain ⟨vk, hxk, hok⟩ := hbl5.at_ k (by omega)
        obtain ⟨Ak, ck, rfl, _, _⟩ := own_sl hok
        by_cases hpc : plW sz i + k < cut
        · refine E_seq ?_
          refine E_seqR ?_
          refine EL_val (R_move rfl) rfl rfl rfl ?_
          refine EL_val (R_move rfl) rfl rfl rfl ?_
          refine EL_val (R_lenSlice rfl Try.underlying26) rfl rfl rfl ?_
          first | refine EL_val (R_lss_t rfl rfl (by omega)) rfl rfl rfl ?_ | refine EL_val (R_lss_f rfl rfl (by omega)) rfl rfl rfl ?_
          refine EL_nil ?_
          refine E_cond_t rfl ?_
          refine E_skip ?_
          refine thenQ_n ?_
          refine E_seq ?_
          refine E_block ?_
          refine E_seq ?_
          refine E_seqR ?_
          refine EL_val (R_move rfl) rfl rfl rfl ?_
          refine EL_val (R_move rfl) rfl rfl rfl ?_
          refine EL_val (R_remE (cut : Int) (by omega) (by omega) (by omega) rfl rfl) rfl rfl rfl ?_
          refine EL_val (R_convInt (cut : Int) (wrap_i64_in (by omega) (by omega)) rfl Try.underlying5 Try.underlying3) rfl rfl rfl ?_
          first | refine EL_val (R_lss_t rfl rfl (by omega)) rfl rfl rfl ?_ | refine EL_val (R_lss_f rfl rfl (by omega)) rfl rfl rfl ?_
          refine EL_nil ?_
          refine E_cond_t rfl ?_
          refine E_regionD (fun w' => [(11, fun w'' => w'' = w')]) 12 K.mix rfl ?_
          intro w6 hm6 hh6
          (have ws6 := ws5.mv hm6; have hd6 := hm6.bk' hd5; have ho6 := hm6.own ho5 (fun _ _ h => h); have hbl6 := hbl5.no hm6; obtain ⟨curb, hbb, hgB, hcs⟩ := ws6.gbk)
          refine EA_pure 0 rfl (fun _ => R_move rfl) (by kernel_rfl) rfl rfl rfl ?_
          refine EA_pure 1 rfl (fun _ => R_fieldAddr rfl K.fT25_0) (by kernel_rfl) rfl rfl rfl ?_
          refine EA_still 2 [4, 5, 10, 11] rfl (R_load rfl K.ag3 (ws6.hh.cell rfl)) rfl (by kernel_rfl) (by kernel_rfl) rfl rfl rfl ?_
          refine EA_pure 3 rfl (fun _ => R_move rfl) (by kernel_rfl) rfl rfl rfl ?_
          refine EA_pure 4 rfl (fun _ => R_addE (((a0 + (plW sz i + k) : Nat) : Int)) rfl rfl (by omega) (by omega) (by omega)) (by kernel_rfl) rfl rfl rfl ?_
          refine EA_pure 5 rfl (fun _ => R_remE (((a0 + (plW sz i + k)) % 40 : Nat) : Int) (by omega) (by omega) (by omega) rfl rfl) (by kernel_rfl) rfl rfl rfl ?_
          refine EA_pure 6 rfl (fun _ => R_move rfl) (by kernel_rfl) rfl rfl rfl ?_
          refine EA_pure 7 rfl (fun _ => R_move rfl) (by kernel_rfl) rfl rfl rfl ?_
          refine EA_pure 8 rfl (fun _ => R_indexAddr rfl rfl Try.underlying26 K.sz23 (m := k) rfl hkn) (by kernel_rfl) rfl rfl rfl ?_
          refine EA_still 9 [10, 11] rfl (R_load rfl K.ag23 ((by rw [Nat.zero_add, Nat.mul_one]; exact own_cell ho6 hxk))) rfl (by kernel_rfl) (by kernel_rfl) rfl rfl rfl ?_
          refine EA_pure 10 rfl (fun _ => R_indexAddr rfl rfl Try.underlying26 K.sz23 (m := (a0 + (plW sz i + k)) % 40) rfl (by omega)) (by kernel_rfl) rfl rfl rfl ?_
          refine EA_one 11 rfl (by kernel_rfl) rfl ⟨fun _ => rfl, trivial⟩ ?_
          refine EO_store1 rfl rfl K.sz23 rfl hbb (by omega) ?_
          intro w7 hu7
          refine EA_done (by kernel_rfl) (Holds.done (by kernel_rfl)) ?_
          refine thenQ_n ?_
          refine E_region ?_
          refine EL_val (R_move rfl) rfl rfl rfl ?_
          first | refine EL_val (R_inc rfl (by omega)) rfl rfl rfl ?_ | refine EL_val (R_add_in rfl rfl (by omega) (by omega)) rfl rfl rfl ?_
          refine EL_val (R_assign rfl) rfl rfl rfl ?_
          refine EL_nil ?_
          refine inB_n ?_
          refine thenQ_n ?_
          refine E_region ?_
          refine EL_val (R_move rfl) rfl rfl rfl ?_
          first | refine EL_val (R_inc rfl (by omega)) rfl rfl rfl ?_ | refine EL_val (R_add_in rfl rfl (by omega) (by omega)) rfl rfl rfl ?_
          refine EL_val (R_assign rfl) rfl rfl rfl ?_
          refine EL_nil ?_
          refine thenQ_n ?_
          have e1 : 0 + (a0 + (plW sz i + k)) % 40 * 1 = (a0 + (plW sz i + k)) % 40 := by omega
          rw [e1] at hu7
          have ws7 := ws6.setB hbb (by omega) hu7 (own_mono (hm6.own hok fun _ _ h => h) (by omega))
          refine ⟨rfl, n + 2 - (k + 1), [(2, .slice (some ⟨g, o, none⟩) sz.length c2), (3, .int .u8 (ct : Int)), (4, .int .u8 (fill.toNat : Int)), (11, ptr b11), (12, .slice (some ⟨gb, 0, none⟩) 40 cap), (14, .int .i64 ((plW sz i + (k + 1) : Nat) : Int)), (15, .int .i64 ((wh : Nat) : Int)), (16, ptr b16), (17, .int .i64 ((i : Nat) : Int)), (19, ptr b19), (25, .slice (some ⟨gl, 0, none⟩) (n + 2) capl), (28, .int .i64 ((k + 1 : Nat) : Int))], by omega, ⟨rfl, rfl, rfl, rfl, rfl, rfl, rfl, rfl, rfl, rfl, rfl, rfl, trivial⟩, k + 1, _, _, by omega, rfl, rfl, ws7, hu7.mods.bk hd6 (fun e => by subst e; exact absurd (hd6.inj hbb).2 (by decide)), hu7.mods.own ho6 (fun q hq e => by have := (own_blk ho6 hq).1; omega), hbl6.mods hu7.mods (fun g C hg e => by subst e; exact absurd (hg.inj hbb).2 (by decide)), fun q hq => ?_⟩
          rw [List.getD_eq_getElem?_getD, List.getElem?_set]
          by_cases hqk : q = plW sz i + k
          · subst hqk
            rw [if_pos rfl, if_pos (by rw [ws5.len]; omega), laid_at hstl (by omega) hpc]
            rfl
          · rw [if_neg (by omega), ← List.getD_eq_getElem?_getD, hlaid q hq, laid_step hstl (.inl hqk)]
        · refine E_seq ?_
          refine E_seqR ?_
          refine EL_val (R_move rfl) rfl rfl rfl ?_
          refine EL_val (R_move rfl) rfl rfl rfl ?_
          refine EL_val (R_lenSlice rfl Try.underlying26) rfl rfl rfl ?_
          first | refine EL_val (R_lss_t rfl rfl (by omega)) rfl rfl rfl ?_ | refine EL_val (R_lss_f rfl rfl (by omega)) rfl rfl rfl ?_
          refine EL_nil ?_
          refine E_cond_t rfl ?_
          refine E_skip ?_
          refine thenQ_n ?_
          refine E_seq ?_
          refine E_block ?_
          refine E_seq ?_
          refine E_seqR ?_
          refine EL_val (R_move rfl) rfl rfl rfl ?_
          refine EL_val (R_move rfl) rfl rfl rfl ?_
          refine EL_val (R_remE (cut : Int) (by omega) (by omega) (by omega) rfl rfl) rfl rfl rfl ?_
          refine EL_val (R_convInt (cut : Int) (wrap_i64_in (by omega) (by omega)) rfl Try.underlying5 Try.underlying3) rfl rfl rfl ?_
          first | refine EL_val (R_lss_t rfl rfl (by omega)) rfl rfl rfl ?_ | refine EL_val (R_lss_f rfl rfl (by omega)) rfl rfl rfl ?_
          refine EL_nil ?_
          refine E_cond_f rfl ?_
          refine E_skip ?_
          refine thenQ_n ?_
          refine E_region ?_
          refine EL_val (R_move rfl) rfl rfl rfl ?_
          first | refine EL_val (R_inc rfl (by omega)) rfl rfl rfl ?_ | refine EL_val (R_add_in rfl rfl (by omega) (by omega)) rfl rfl rfl ?_
          refine EL_val (R_assign rfl) rfl rfl rfl ?_
          refine EL_nil ?_
          refine inB_n ?_
          refine thenQ_n ?_
          refine E_region ?_
          refine EL_val (R_move rfl) rfl rfl rfl ?_
          first | refine EL_val (R_inc rfl (by omega)) rfl rfl rfl ?_ | refine EL_val (R_add_in rfl rfl (by omega) (by omega)) rfl rfl rfl ?_
          refine EL_val (R_assign rfl) rfl rfl rfl ?_
          refine EL_nil ?_
          refine thenQ_n ?_
          exact ⟨rfl, n + 2 - (k + 1), [(2, .slice (some ⟨g, o, none⟩) sz.length c2), (3, .int .u8 (ct : Int)), (4, .int .u8 (fill.toNat : Int)), (11, ptr b11), (12, .slice (some ⟨gb, 0, none⟩) 40 cap), (14, .int .i64 ((plW sz i + (k + 1) : Nat) : Int)), (15, .int .i64 ((wh : Nat) : Int)), (16, ptr b16), (17, .int .i64 ((i : Nat) : Int)), (19, ptr b19), (25, .slice (some ⟨gl, 0, none⟩) (n + 2) capl), (28, .int .i64 ((k + 1 : Nat) : Int))], by omega, ⟨rfl, rfl, rfl, rfl, rfl, rfl, rfl, rfl, rfl, rfl, rfl, rfl, trivial⟩, k + 1, _, _, by omega, rfl, rfl, ws5, hd5, ho5, hbl5, fun q hq => by rw [hlaid q hq, laid_step hstl (.inr (by omega))]⟩
      · have hk' : k = n + 2 := by omega
        subst hk'
        refine E_seq ?_
        refine E_seqR ?_
        refine EL_val (R_move rfl) rfl rfl rfl ?_
        refine EL_val (R_move rfl) rfl rfl rfl ?_
        refine EL_val (R_lenSlice rfl Try.underlying26) rfl rfl rfl ?_
        first | refine EL_val (R_lss_t rfl rfl (by omega)) rfl rfl rfl ?_ | refine EL_val (R_lss_f rfl rfl (by omega)) rfl rfl rfl ?_
        refine EL_nil ?_
        refine E_cond_f rfl ?_
        refine E_exit ?_
        refine thenQ_e ?_
        refine thenQ_e ?_
        refine inB_eq rfl ?_
        refine thenQ_n ?_
        refine ⟨rfl, [(2, .slice (some ⟨g, o, none⟩) sz.length c2), (3, .int .u8 (ct : Int)), (4, .int .u8 (fill.toNat : Int)), (11, ptr b11), (12, .slice (some ⟨gb, 0, none⟩) 40 cap), (14, .int .i64 (plW sz (i + 1) : Int)), (15, .int .i64 ((wh : Nat) : Int)), (16, ptr b16), (17, .int .i64 ((i : Nat) : Int)), (19, ptr b19)], ⟨rfl, rfl, rfl, rfl, rfl, by rw [hpl]; rfl, rfl, rfl, rfl, rfl, trivial⟩, Bl, xs, rfl, ws5, hd5, fun q hq => ?_⟩
        rw [hlaid q hq, List.take_of_length_le (by omega)]
        rfl
    clear ws7 hd7 ho7' hbl7 hno7 hlaid ws
    clear xs
    clear Bl
    rintro e0 w5 ⟨Bl, xs, rfl, ws5, hd5, hlaid⟩
    by_cases hwhole : plW sz (i + 1) ≤ cut
    · have hwe : wh = i := by
        rcases hws with h | h
        · exact h
        · have := plW_mono sz (show wh + 1 ≤ i + 1 by omega)
          omega
      subst hwe

      refine E_seqR ?_
      refine EL_val (R_move rfl) rfl rfl rfl ?_
      refine EL_val (R_move rfl) rfl rfl rfl ?_
      refine EL_val (R_remE (cut : Int) (by omega) (by omega) (by omega) rfl rfl) rfl rfl rfl ?_
      refine EL_val (R_convInt (cut : Int) (wrap_i64_in (by omega) (by omega)) rfl Try.underlying5 Try.underlying3) rfl rfl rfl ?_
      first | refine EL_val (R_leq_t rfl rfl (by omega)) rfl rfl rfl ?_ | refine EL_val (R_leq_f rfl rfl (by omega)) rfl rfl rfl ?_
      refine EL_nil ?_
      refine E_cond_t rfl ?_
      refine E_seqR ?_
      refine EL_val (R_move rfl) rfl rfl rfl ?_
      first | refine EL_val (R_inc rfl (by omega)) rfl rfl rfl ?_ | refine EL_val (R_add_in rfl rfl (by omega) (by omega)) rfl rfl rfl ?_
      refine EL_val (R_assign rfl) rfl rfl rfl ?_
      refine EL_nil ?_
      refine E_region ?_
      refine EL_val (R_fieldAddr rfl K.fT25_0) rfl rfl rfl ?_
      refine EL_val (R_load rfl K.ag3 (ws5.hh.cell rfl)) rfl rfl rfl ?_
      refine EL_val (R_move rfl) rfl rfl rfl ?_
      refine EL_val (R_addE (((a0 + plW sz (wh + 1) : Nat) : Int)) rfl rfl (by omega) (by omega) (by omega)) rfl rfl rfl ?_
      refine EL_val (R_remE (((a0 + plW sz (wh + 1)) % 40 : Nat) : Int) (by omega) (by omega) (by omega) rfl rfl) rfl rfl rfl ?_
      refine EL_val (R_fieldAddr rfl K.fT29_0) rfl rfl rfl ?_
      refine EL_val (R_load rfl K.ag3 (hd5.cell rfl)) rfl rfl rfl ?_
      refine EL_val (R_addE ((s0 + ((wh + 1 : Nat) : Int))) rfl rfl (by omega) (by omega) (by omega)) rfl rfl rfl ?_
      refine EL_val (R_build (cells := #[.int .i64 (((a0 + plW sz (wh + 1)) % 40 : Nat) : Int), .int .i64 (s0 + ((wh + 1 : Nat) : Int))]) K.zr25 K.pl25 rfl rfl) rfl rfl rfl ?_
      refine EL_step rfl ?_
      refine EO_storeAggB ws5.he rfl rfl K.sz25 rfl rfl ?_
      intro w6 hu6
      refine EL_nil ?_
      refine inB_n ?_
      refine thenQ_n ?_
      refine E_region ?_
      refine EL_val (R_move rfl) rfl rfl rfl ?_
      first | refine EL_val (R_inc rfl (by omega)) rfl rfl rfl ?_ | refine EL_val (R_add_in rfl rfl (by omega) (by omega)) rfl rfl rfl ?_
      refine EL_val (R_assign rfl) rfl rfl rfl ?_
      refine EL_nil ?_
      refine thenQ_n ?_
      exact ⟨rfl, sz.length - (wh + 1), [(2, .slice (some ⟨g, o, none⟩) sz.length c2), (3, .int .u8 (ct : Int)), (4, .int .u8 (fill.toNat : Int)), (11, ptr b11), (12, .slice (some ⟨gb, 0, none⟩) 40 cap), (14, .int .i64 (plW sz (wh + 1) : Int)), (15, .int .i64 ((wh + 1 : Nat) : Int)), (16, ptr b16), (17, .int .i64 ((wh + 1 : Nat) : Int))], by omega, ⟨rfl, rfl, rfl, rfl, rfl, rfl, rfl, rfl, rfl, trivial⟩, wh + 1, wh + 1, Bl, xs, rfl, rfl, by omega, by omega, Nat.le_refl _, hwhole, .inl rfl, ws5.setE hu6, hlaid⟩
    · skip
      refine E_seqR ?_
      refine EL_val (R_move rfl) rfl rfl rfl ?_
      refine EL_val (R_move rfl) rfl rfl rfl ?_
      refine EL_val (R_remE (cut : Int) (by omega) (by omega) (by omega) rfl rfl) rfl rfl rfl ?_
      refine EL_val (R_convInt (cut : Int) (wrap_i64_in (by omega) (by omega)) rfl Try.underlying5 Try.underlying3) rfl rfl rfl ?_
      first | refine EL_val (R_leq_t rfl rfl (by omega)) rfl rfl rfl ?_ | refine EL_val (R_leq_f rfl rfl (by omega)) rfl rfl rfl ?_
      refine EL_nil ?_
      refine E_cond_f rfl ?_
      refine E_skip ?_
      refine inB_n ?_
      refine thenQ_n ?_
      refine E_region ?_
      refine EL_val (R_move rfl) rfl rfl rfl ?_
      first | refine EL_val (R_inc rfl (by omega)) rfl rfl rfl ?_ | refine EL_val (R_add_in rfl rfl (by omega) (by omega)) rfl rfl rfl ?_
      refine EL_val (R_assign rfl) rfl rfl rfl ?_
      refine EL_nil ?_
      refine thenQ_n ?_
      exact ⟨rfl, sz.length - (i + 1), [(2, .slice (some ⟨g, o, none⟩) sz.length c2), (3, .int .u8 (ct : Int)), (4, .int .u8 (fill.toNat : Int)), (11, ptr b11), (12, .slice (some ⟨gb, 0, none⟩) 40 cap), (14, .int .i64 (plW sz (i + 1) : Int)), (15, .int .i64 ((wh : Nat) : Int)), (16, ptr b16), (17, .int .i64 ((i + 1 : Nat) : Int))], by omega, ⟨rfl, rfl, rfl, rfl, rfl, rfl, rfl, rfl, rfl, trivial⟩, i + 1, wh, Bl, xs, rfl, rfl, by omega, by omega, by omega, hwc, .inr (by rcases hws with h | h; subst h; omega; exact h), ws5, hlaid⟩
  clear ws3 hlaid0
  clear xs w1 hb16 hne16 hz1
  rintro e0 w4 ⟨m, wh, Bl, xs, rfl, hm, hp40, hwm, hwc, hws, ws, hlaid⟩
  have h3m := plW_ge sz m
  have hF := find_laid (Bl := Bl) (a0 := a0) (cut := cut) (m := m) (s0 := s0) (fill := fill) (sz := sz) hlaid hwm hwc hws hp40 (by omega) (by omega) wh 0 (by omega)
  rw [show (a0 + plW sz 0) % 40 = a0 from by rw [plW]; omega, show s0 + ((0 : Nat) : Int) = s0 from by omega] at hF
  obtain ⟨T, hT⟩ : ∃ T, T = (List.range wh).map fun j => wrS Bl ((a0 + plW sz (0 + j)) % 40) (toW (0 + j) (txN sz (0 + j))) := ⟨_, rfl⟩
  rw [← hT] at hF
  have hTl : T.length = wh := by rw [hT]; simp
  have hall : ∀ l ∈ Bl, l.length = 64 := by
    intro l hl
    obtain ⟨k, hk, rfl⟩ := List.getElem_of_mem hl
    rw [ws.len] at hk
    have h1 := hlaid ((k + 40 - a0) % 40) (by omega)
    rw [show (a0 + (k + 40 - a0) % 40) % 40 = k by omega, List.getD_eq_getElem?_getD, List.getElem?_eq_getElem (by rw [ws.len]; exact hk)] at h1
    have h2 : Bl[k] = laidW cut (stW s0 fill sz m) ((k + 40 - a0) % 40) := h1
    rw [h2]
    unfold laidW
    split
    · rw [List.getD_eq_getElem?_getD]
      cases hx : (stW s0 fill sz m)[(k + 40 - a0) % 40]? with
      | none => rfl
      | some b => exact stW_64 (by omega) (by omega) (by omega) (List.mem_of_getElem? hx)
    · rfl
  have hbb : BBs w4 (some ⟨gb, 0, none⟩) Bl := ws.br.bbs (c := cap) (base := w.heap.size) (by rw [ws.len]; exact ws.own) (by rw [ws.len]; omega) (fun l hl => by rw [hall l hl]; omega)
  have hf := find_in (cb := cap) (a0 := a0) (s0 := s0) hbb (by omega) (by omega) (by omega) ws.len (fun k hk => hall _ (List.getElem_mem hk))
  rw [hF, ws.len] at hf
  dsimp only at hf
  rw [hTl] at hf
  have hz4 := ws.no.size

  refine E_seqR ?_
  refine EL_val (R_move rfl) rfl rfl rfl ?_
  refine EL_val (R_loadAgg rfl K.ag25 (whole_cells ws.hh) (K.sz25)) rfl rfl rfl ?_
  refine EL_step rfl ?_
  refine EO_call K.bd6 rfl rfl (hf) ?_
  rintro _ w5 ⟨⟨vo, vs, rfl, ho5, htx5⟩, hm5⟩
  (obtain ⟨Avo, cvo, rfl, hcvo, _⟩ := own_sl ho5)
  refine EL_val (R_move rfl) rfl rfl rfl ?_
  refine EL_val (R_extract rfl rfl) rfl rfl rfl ?_
  refine EL_val (R_extract rfl rfl) rfl rfl rfl ?_
  refine EL_val (R_extract rfl rfl) rfl rfl rfl ?_
  refine EL_step rfl ?_
  refine EO_alloc K.zr25 rfl ?_
  intro w6 hn6
  refine EL_val (R_assign rfl) rfl rfl rfl ?_
  refine EL_step rfl ?_
  refine EO_storeWhole hn6.bk rfl rfl K.sz25 rfl rfl ?_
  intro w7 hu7
  refine EL_val (R_assign rfl) rfl rfl rfl ?_
  refine EL_nil ?_
  refine E_seq ?_
  refine E_seqR ?_
  refine EL_step rfl ?_
  refine EO_call K.bd7 rfl rfl (awake15_ok) ?_
  rintro _ w8 ⟨rfl, hm8⟩
  (have hm67 : Mods No w5 w7 := hn6.mods.trans' hu7.mods (fun k hk e => by omega); have hm58 := hm67.trans hm8; have ws8 := ws.mv (hm5.trans hm58))
  refine EL_val (R_not rfl) rfl rfl rfl ?_
  refine EL_val (R_move rfl) rfl rfl rfl ?_
  first | refine EL_val (R_move rfl) rfl rfl rfl ?_ | refine EL_not rfl rfl rfl ?_
  first | refine EL_val (R_neq_t rfl rfl (by omega)) rfl rfl rfl ?_ | refine EL_val (R_neq_f rfl rfl (by omega)) rfl rfl rfl ?_ | refine EL_not rfl rfl rfl ?_
  first | refine EL_val (R_pick_t rfl rfl) rfl rfl rfl ?_ | refine EL_val (R_pick_f rfl rfl) rfl rfl rfl ?_
  refine EL_val (R_move rfl) rfl rfl rfl ?_
  first | refine EL_val (R_move rfl) rfl rfl rfl ?_ | refine EL_not rfl rfl rfl ?_
  first | refine EL_val (R_lenSlice rfl Try.underlying34) rfl rfl rfl ?_ | refine EL_not rfl rfl rfl ?_
  first | refine EL_val (R_move rfl) rfl rfl rfl ?_ | refine EL_not rfl rfl rfl ?_
  first | refine EL_val (R_neq_t rfl rfl (by omega)) rfl rfl rfl ?_ | refine EL_val (R_neq_f rfl rfl (by omega)) rfl rfl rfl ?_ | refine EL_not rfl rfl rfl ?_
  first | refine EL_val (R_pick_t rfl rfl) rfl rfl rfl ?_ | refine EL_val (R_pick_f rfl rfl) rfl rfl rfl ?_
  refine EL_val (R_move rfl) rfl rfl rfl ?_
  first | refine EL_val (R_loadAgg rfl K.ag25 (whole_cells (hm8.bk' hu7.bk)) (K.sz25)) rfl rfl rfl ?_ | refine EL_not rfl rfl rfl ?_
  first | refine EL_val (R_loadAgg rfl K.ag25 (whole_cells ws8.he) (K.sz25)) rfl rfl rfl ?_ | refine EL_not rfl rfl rfl ?_
  first | refine EL_val (R_neqAgg (b := true) rfl rfl (by rw [heads_eq]; simp)) rfl rfl rfl ?_ | refine EL_not rfl rfl rfl ?_
  first | refine EL_val (R_pick_t rfl rfl) rfl rfl rfl ?_ | refine EL_val (R_pick_f rfl rfl) rfl rfl rfl ?_
  refine EL_nil ?_
  refine E_cond_f rfl ?_
  refine E_skip ?_
  refine thenQ_n ?_
  refine E_seq ?_
  refine E_seqR ?_
  refine EL_val (R_assign rfl) rfl rfl rfl ?_
  refine EL_nil ?_
  refine E_block ?_
  have hno8 : Mods No w w8 := ws.no.trans (hm5.trans hm58)
  have ho8 := hm58.own ho5 fun _ _ h => h
  have htx8 := htx5.no hm58
  refine E_loop (fun m' e' w' => ∃ i, i ≤ wh ∧ m' = wh - i ∧ e' = [(2, .slice (A2) sz.length c2), (4, .int .u8 (fill.toNat : Int)), (29, .slice (Avo) wh cvo), (32, .int .i64 ((i : Nat) : Int))] ∧ Mods No w8 w') wh [(2, .slice (A2) sz.length c2), (4, .int .u8 (fill.toNat : Int)), (29, .slice (Avo) wh cvo), (32, .int .i64 ((0 : Nat) : Int))] ⟨rfl, rfl, rfl, rfl, trivial⟩ ⟨0, by omega, by omega, rfl, Mods.refl _ _⟩ ?_
  rintro m' e w9 ⟨i, hi, rfl, rfl, hm9⟩
  have hno9 := hno8.trans hm9
  have ho9 := hm9.own ho8 fun _ _ h => h
  have htx9 := htx8.no hm9
  by_cases hlt : i < wh
  · obtain ⟨g, o, rfl, hcell⟩ := hsz.cell (show i < sz.length by omega)
    have hTi : T[i] = wrS Bl ((a0 + plW sz i) % 40) (toW i (txN sz i)) := by subst hT; simp
    obtain ⟨n, hn⟩ : ∃ n, n = txN sz i := ⟨_, rfl⟩
    have hgd : sz.getD i 0 = sz[i] := by rw [List.getD_eq_getElem?_getD, List.getElem?_eq_getElem (by omega)]; rfl
    have hn5 : n = sz[i].toNat % 5 + 1 := by rw [hn]; unfold txN; rw [hgd]
    have hil : T[i].length = n := by rw [hTi, wrS_length, toW_length, hn]
    obtain ⟨rest, hw⟩ := wrS_head (Bl := Bl) (a := (a0 + plW sz i) % 40) (ks := toW i (txN sz i)) (by rw [toW_length, ← hn]; omega)
    have hp := plW_mono sz (show i + 1 ≤ m by omega)
    have hpc := plW_mono sz (show i + 1 ≤ wh by omega)
    have hpp : plW sz (i + 1) = plW sz i + n + 2 := by rw [plW, hn]
    have hdat : Bl.getD (((a0 + plW sz i) % 40 + 1) % 40) [] = dat fill i := by
      rw [at_laid hlaid (by omega), laid_get (by omega) (by omega), if_pos (by omega)]
      exact txB_mid (by omega)
    have h0 : (toW i (txN sz i)).getD 0 0 = ((60 + 7 * i : Nat) : Int) := by
      rw [← hn, hn5]
      simp [toW, List.getD_eq_getElem?_getD]
    rw [← hTi, h0, hdat] at hw
    obtain ⟨gvo, cap', _, hv, _⟩ := own_form ho9 (by omega)
    injection hv with hA _ _
    subst hA
    obtain ⟨gi, ci, gy, cy, k1, k2, k3, k4⟩ := tx_cells (cvo := cvo) (by rw [hTl]; exact ho9) htx9 (by omega) hw rfl
    rw [hil] at k1
    have k5 : w9.cell? ⟨gy, 0, none⟩ = some (.int .u8 (fill.toNat : Int)) := k4 0 _ rfl
    have k6 : w9.cell? ⟨gy, 1, none⟩ = some (.int .u8 ((UInt8.ofNat i).toNat : Int)) := k4 1 _ rfl
    have hbyte := byte_of (show i < 14 by omega)
    refine E_seq ?_
    refine E_seqR ?_
    refine EL_val (R_move rfl) rfl rfl rfl ?_
    refine EL_val (R_move rfl) rfl rfl rfl ?_
    refine EL_val (R_lenSlice rfl Try.underlying34) rfl rfl rfl ?_
    first | refine EL_val (R_lss_t rfl rfl (by omega)) rfl rfl rfl ?_ | refine EL_val (R_lss_f rfl rfl (by omega)) rfl rfl rfl ?_
    refine EL_nil ?_
    refine E_cond_t rfl ?_
    refine E_skip ?_
    refine thenQ_n ?_
    refine E_seq ?_
    refine E_block ?_
    refine E_seqD (fun w' => [(1000, fun w'' => w'' = w')]) 53 K.mix rfl ?_
    intro w48d hm48d hh48d
    (have c48 := (hno9.trans hm48d).cell hcell id; have q1 := hm48d.cell k1 id; have q2 := hm48d.cell k2 id; have q3 := hm48d.cell k3 id; have q5 := hm48d.cell k5 id; have q6 := hm48d.cell k6 id)
    refine EA_pure 0 rfl (fun _ => R_move rfl) (by kernel_rfl) rfl rfl rfl ?_
    refine EA_pure 1 rfl (fun _ => R_move rfl) (by kernel_rfl) rfl rfl rfl ?_
    refine EA_pure 2 rfl (fun _ => R_indexAddr rfl rfl Try.underlying34 K.sz38 (m := i) rfl hlt) (by kernel_rfl) rfl rfl rfl ?_
    refine EA_still 3 [1000] rfl (R_load rfl K.ag38 ((by rw [Nat.zero_add, Nat.mul_one]; exact q1))) rfl (by kernel_rfl) (by kernel_rfl) rfl rfl rfl ?_
    refine EA_pure 4 rfl (fun _ => R_lenSlice rfl Try.underlying38) (by kernel_rfl) rfl rfl rfl ?_
    refine EA_pure 5 rfl (fun _ => R_move rfl) (by kernel_rfl) rfl rfl rfl ?_
    refine EA_pure 6 rfl (fun _ => R_move rfl) (by kernel_rfl) rfl rfl rfl ?_
    refine EA_pure 7 rfl (fun _ => R_indexAddr rfl rfl Try.underlying23 K.sz5 (m := i) rfl (by omega)) (by kernel_rfl) rfl rfl rfl ?_
    refine EA_still 8 [1000] rfl (R_load rfl K.ag5 ((by rw [Nat.mul_one]; exact c48))) rfl (by kernel_rfl) (by kernel_rfl) rfl rfl rfl ?_
    refine EA_pure 9 rfl (fun _ => R_remE ((sz[i].toNat % 5 : Nat) : Int) (a := (sz[i].toNat : Int)) (b := 5) (by omega) (by omega) (by omega) rfl rfl) (by kernel_rfl) rfl rfl rfl ?_
    refine EA_pure 10 rfl (fun _ => R_convInt ((sz[i].toNat % 5 : Nat) : Int) (wrap_i64_in (by omega) (by omega)) rfl Try.underlying5 Try.underlying3) (by kernel_rfl) rfl rfl rfl ?_
    refine EA_pure 11 rfl (fun _ => R_addE ((n : Int)) rfl rfl (by omega) (by omega) (by omega)) (by kernel_rfl) rfl rfl rfl ?_
    first | refine EA_pure 12 rfl (fun _ => R_neq_t rfl rfl (by omega)) (by kernel_rfl) rfl rfl rfl ?_ | refine EA_pure 12 rfl (fun _ => R_neq_f rfl rfl (by omega)) (by kernel_rfl) rfl rfl rfl ?_
    refine EA_pure 13 rfl (fun _ => R_move rfl) (by kernel_rfl) rfl rfl rfl ?_
    first | refine EA_pure 14 rfl (fun _ => R_move rfl) (by kernel_rfl) rfl rfl rfl ?_ | refine EA_not 14 rfl (by kernel_rfl) rfl rfl rfl ?_
    first | refine EA_pure 15 rfl (fun _ => R_move rfl) (by kernel_rfl) rfl rfl rfl ?_ | refine EA_not 15 rfl (by kernel_rfl) rfl rfl rfl ?_
    refine EA_pure 16 rfl (fun _ => R_indexAddr rfl rfl Try.underlying34 K.sz38 (m := i) rfl hlt) (by kernel_rfl) rfl rfl rfl ?_
    refine EA_still 17 [1000] rfl (R_load rfl K.ag38 ((by rw [Nat.zero_add, Nat.mul_one]; exact q1))) rfl (by kernel_rfl) (by kernel_rfl) rfl rfl rfl ?_
    first | refine EA_pure 18 rfl (fun _ => R_indexAddr rfl rfl Try.underlying38 K.sz40 (m := 0) rfl (by omega)) (by kernel_rfl) rfl rfl rfl ?_ | refine EA_not 18 rfl (by kernel_rfl) rfl rfl rfl ?_
    first | refine EA_pure 19 rfl (fun _ => R_fieldAddr rfl K.fT40_0) (by kernel_rfl) rfl rfl rfl ?_ | refine EA_not 19 rfl (by kernel_rfl) rfl rfl rfl ?_
    refine EA_still 20 [1000] rfl (R_load rfl K.ag3 (q2)) rfl (by kernel_rfl) (by kernel_rfl) rfl rfl rfl ?_
    first | refine EA_pure 21 rfl (fun _ => R_move rfl) (by kernel_rfl) rfl rfl rfl ?_ | refine EA_not 21 rfl (by kernel_rfl) rfl rfl rfl ?_
    refine EA_pure 22 rfl (fun _ => R_mulE (((7 * i : Nat) : Int)) rfl rfl (by omega) (by omega) (by omega)) (by kernel_rfl) rfl rfl rfl ?_
    refine EA_pure 23 rfl (fun _ => R_addE (((60 + 7 * i : Nat) : Int)) rfl rfl (by omega) (by omega) (by omega)) (by kernel_rfl) rfl rfl rfl ?_
    first | refine EA_pure 24 rfl (fun _ => R_neq_t rfl rfl (by omega)) (by kernel_rfl) rfl rfl rfl ?_ | refine EA_pure 24 rfl (fun _ => R_neq_f rfl rfl (by omega)) (by kernel_rfl) rfl rfl rfl ?_ | refine EA_not 24 rfl (by kernel_rfl) rfl rfl rfl ?_
    first | refine EA_pure 25 rfl (fun _ => R_pick_t rfl rfl) (by kernel_rfl) rfl rfl rfl ?_ | refine EA_pure 25 rfl (fun _ => R_pick_f rfl rfl) (by kernel_rfl) rfl rfl rfl ?_
    refine EA_pure 26 rfl (fun _ => R_move rfl) (by kernel_rfl) rfl rfl rfl ?_
    first | refine EA_pure 27 rfl (fun _ => R_move rfl) (by kernel_rfl) rfl rfl rfl ?_ | refine EA_not 27 rfl (by kernel_rfl) rfl rfl rfl ?_
    first | refine EA_pure 28 rfl (fun _ => R_move rfl) (by kernel_rfl) rfl rfl rfl ?_ | refine EA_not 28 rfl (by kernel_rfl) rfl rfl rfl ?_
    refine EA_pure 29 rfl (fun _ => R_indexAddr rfl rfl Try.underlying34 K.sz38 (m := i) rfl hlt) (by kernel_rfl) rfl rfl rfl ?_
    refine EA_still 30 [1000] rfl (R_load rfl K.ag38 ((by rw [Nat.zero_add, Nat.mul_one]; exact q1))) rfl (by kernel_rfl) (by kernel_rfl) rfl rfl rfl ?_
    first | refine EA_pure 31 rfl (fun _ => R_indexAddr rfl rfl Try.underlying38 K.sz40 (m := 0) rfl (by omega)) (by kernel_rfl) rfl rfl rfl ?_ | refine EA_not 31 rfl (by kernel_rfl) rfl rfl rfl ?_
    first | refine EA_pure 32 rfl (fun _ => R_fieldAddr rfl K.fT40_1) (by kernel_rfl) rfl rfl rfl ?_ | refine EA_not 32 rfl (by kernel_rfl) rfl rfl rfl ?_
    refine EA_still 33 [1000] rfl (R_load rfl K.ag23 (q3)) rfl (by kernel_rfl) (by kernel_rfl) rfl rfl rfl ?_
    first | refine EA_pure 34 rfl (fun _ => R_indexAddr rfl rfl Try.underlying23 K.sz5 (m := 0) rfl (by omega)) (by kernel_rfl) rfl rfl rfl ?_ | refine EA_not 34 rfl (by kernel_rfl) rfl rfl rfl ?_
    first | refine EA_still 35 [1000] rfl (R_load rfl K.ag5 (by assumption)) rfl (by kernel_rfl) (by kernel_rfl) rfl rfl rfl ?_ | refine EA_not 35 rfl (by kernel_rfl) rfl rfl rfl ?_
    refine EA_pure 36 rfl (fun _ => R_move rfl) (by kernel_rfl) rfl rfl rfl ?_
    first | refine EA_pure 37 rfl (fun _ => R_neq_t rfl rfl (by omega)) (by kernel_rfl) rfl rfl rfl ?_ | refine EA_pure 37 rfl (fun _ => R_neq_f rfl rfl (by omega)) (by kernel_rfl) rfl rfl rfl ?_ | refine EA_not 37 rfl (by kernel_rfl) rfl rfl rfl ?_
    first | refine EA_pure 38 rfl (fun _ => R_pick_t rfl rfl) (by kernel_rfl) rfl rfl rfl ?_ | refine EA_pure 38 rfl (fun _ => R_pick_f rfl rfl) (by kernel_rfl) rfl rfl rfl ?_
    refine EA_pure 39 rfl (fun _ => R_move rfl) (by kernel_rfl) rfl rfl rfl ?_
    first | refine EA_pure 40 rfl (fun _ => R_move rfl) (by kernel_rfl) rfl rfl rfl ?_ | refine EA_not 40 rfl (by kernel_rfl) rfl rfl rfl ?_
    first | refine EA_pure 41 rfl (fun _ => R_move rfl) (by kernel_rfl) rfl rfl rfl ?_ | refine EA_not 41 rfl (by kernel_rfl) rfl rfl rfl ?_
    refine EA_pure 42 rfl (fun _ => R_indexAddr rfl rfl Try.underlying34 K.sz38 (m := i) rfl hlt) (by kernel_rfl) rfl rfl rfl ?_
    refine EA_still 43 [1000] rfl (R_load rfl K.ag38 ((by rw [Nat.zero_add, Nat.mul_one]; exact q1))) rfl (by kernel_rfl) (by kernel_rfl) rfl rfl rfl ?_
    first | refine EA_pure 44 rfl (fun _ => R_indexAddr rfl rfl Try.underlying38 K.sz40 (m := 0) rfl (by omega)) (by kernel_rfl) rfl rfl rfl ?_ | refine EA_not 44 rfl (by kernel_rfl) rfl rfl rfl ?_
    first | refine EA_pure 45 rfl (fun _ => R_fieldAddr rfl K.fT40_1) (by kernel_rfl) rfl rfl rfl ?_ | refine EA_not 45 rfl (by kernel_rfl) rfl rfl rfl ?_
    refine EA_still 46 [1000] rfl (R_load rfl K.ag23 (q3)) rfl (by kernel_rfl) (by kernel_rfl) rfl rfl rfl ?_
    first | refine EA_pure 47 rfl (fun _ => R_indexAddr rfl rfl Try.underlying23 K.sz5 (m := 1) rfl (by omega)) (by kernel_rfl) rfl rfl rfl ?_ | refine EA_not 47 rfl (by kernel_rfl) rfl rfl rfl ?_
    first | refine EA_still 48 [1000] rfl (R_load rfl K.ag5 (by assumption)) rfl (by kernel_rfl) (by kernel_rfl) rfl rfl rfl ?_ | refine EA_not 48 rfl (by kernel_rfl) rfl rfl rfl ?_
    refine EA_pure 49 rfl (fun _ => R_move rfl) (by kernel_rfl) rfl rfl rfl ?_
    refine EA_pure 50 rfl (fun _ => R_convInt ((UInt8.ofNat i).toNat : Int) hbyte rfl Try.underlying3 Try.underlying5) (by kernel_rfl) rfl rfl rfl ?_
    first | refine EA_pure 51 rfl (fun _ => R_neq_t rfl rfl (by omega)) (by kernel_rfl) rfl rfl rfl ?_ | refine EA_pure 51 rfl (fun _ => R_neq_f rfl rfl (by omega)) (by kernel_rfl) rfl rfl rfl ?_ | refine EA_not 51 rfl (by kernel_rfl) rfl rfl rfl ?_
    first | refine EA_pure 52 rfl (fun _ => R_pick_t rfl rfl) (by kernel_rfl) rfl rfl rfl ?_ | refine EA_pure 52 rfl (fun _ => R_pick_f rfl rfl) (by kernel_rfl) rfl rfl rfl ?_
    refine EA_done (by kernel_rfl) ⟨fun _ => rfl, trivial⟩ ?_
    refine E_cond_f rfl ?_
    refine E_skip ?_
    refine inB_n ?_
    refine thenQ_n ?_
    refine E_region ?_
    refine EL_val (R_move rfl) rfl rfl rfl ?_
    first | refine EL_val (R_inc rfl (by omega)) rfl rfl rfl ?_ | refine EL_val (R_add_in rfl rfl (by omega) (by omega)) rfl rfl rfl ?_
    refine EL_val (R_assign rfl) rfl rfl rfl ?_
    refine EL_nil ?_
    refine thenQ_n ?_
    exact ⟨rfl, wh - (i + 1), [(2, .slice (some ⟨g, o, none⟩) sz.length c2), (4, .int .u8 (fill.toNat : Int)), (29, .slice (some ⟨gvo, 0, none⟩) wh cvo), (32, .int .i64 ((i + 1 : Nat) : Int))], by omega, ⟨rfl, rfl, rfl, rfl, trivial⟩, i + 1, by omega, rfl, rfl, hm9.trans hm48d⟩
  · refine E_seq ?_
    refine E_seqR ?_
    refine EL_val (R_move rfl) rfl rfl rfl ?_
    refine EL_val (R_move rfl) rfl rfl rfl ?_
    refine EL_val (R_lenSlice rfl Try.underlying34) rfl rfl rfl ?_
    first | refine EL_val (R_lss_t rfl rfl (by omega)) rfl rfl rfl ?_ | refine EL_val (R_lss_f rfl rfl (by omega)) rfl rfl rfl ?_
    refine EL_nil ?_
    refine E_cond_f rfl ?_
    refine E_exit ?_
    refine thenQ_e ?_
    refine thenQ_e ?_
    refine inB_eq rfl ?_
    refine thenQ_n ?_
    refine E_seqR ?_
    refine EL_val (R_assign rfl) rfl rfl rfl ?_
    refine EL_nil ?_
    refine E_ret ?_
    refine ret1 (.inr rfl) rfl rfl ?_
    exact ⟨rfl, hno9⟩
end Go.Proofs.Ytoikdgoadjedaaa
