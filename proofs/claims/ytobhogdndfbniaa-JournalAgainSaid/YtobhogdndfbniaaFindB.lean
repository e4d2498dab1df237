/- The whole transactions of a log (log.Find). -/
import Derived.Test.YtobhogdndfbniaaFind
set_option linter.unusedVariables false
set_option linter.unusedSimpArgs false
set_option maxRecDepth 100000
namespace Go.Proofs.Ytobhogdndfbniaa
open Go.EW Go.RowKit

theorem findL_big {Bl : List (List UInt8)} {a : Nat} {s : Int} (h : 1073741824 ≤ s) : findL Bl a s = ([], a, s) := by rw [findL, dif_pos h]
theorem findL_none {Bl : List (List UInt8)} {a : Nat} {s : Int} (ht : txS Bl a s = none) : findL Bl a s = ([], a, s) := by
  rw [findL]
  split
  · rfl
  · rw [ht]
theorem findL_some {Bl : List (List UInt8)} {a : Nat} {s : Int} {ks : List Int} (h : ¬ 1073741824 ≤ s) (ht : txS Bl a s = some ks) :
    findL Bl a s = (wrS Bl a ks :: (findL Bl ((a + ks.length + 2) % 40) (s + 1)).1, (findL Bl ((a + ks.length + 2) % 40) (s + 1)).2) := by
  rw [findL, dif_neg h, ht]
theorem beginsS_facts {l : List UInt8} {s : Int} {ks : List Int} (h : beginsS l = some (s, ks)) : soundS s ks = true := by
  unfold beginsS at h
  split at h
  · rename_i hb
    simp only [Bool.and_eq_true] at hb
    injection h with h
    injection h with h1 h2
    rw [← h1, ← h2]
    exact hb.1.2
  · cases h
/-- what Find's own variables hold -/
structure FS (w0 w : World) (b2 b3 b5 b9 : Nat) (A : Option Addr) (cb : Nat) (Bl : List (List UInt8)) (sd : Int) (ud : Value) (a : Nat) (s : Int) (vo : Value) (vs : List Value) (To : List (List (Int × List UInt8))) : Prop where
  h2 : Bk w b2 #[.slice A Bl.length cb] 22
  h3 : Bk w b3 #[.int .i64 (a : Int), .int .i64 s] 46
  h5 : Bk w b5 #[.int .i64 0, .int .i64 0] 46
  h9 : Bk w b9 #[.int .i64 sd, ud] 61
  own : w.ownsRow w0.heap.size 42 1 vo To.length vs
  txs : TXs w w0.heap.size To vs
  no : Mods No w0 w
  l2 : w0.heap.size ≤ b2
  l3 : w0.heap.size ≤ b3
  l5 : w0.heap.size ≤ b5
  l9 : w0.heap.size ≤ b9
  n35 : b3 ≠ b5
  alt : a < 40
  s1 : 1 ≤ s
  s2 : s ≤ 1073741824
  len : (To.length : Int) ≤ s - 1
section
variable {w0 w w' : World} {b2 b3 b5 b9 : Nat} {A : Option Addr} {cb : Nat} {Bl : List (List UInt8)} {sd : Int} {ud : Value} {a : Nat} {s : Int} {vo : Value} {vs : List Value} {To : List (List (Int × List UInt8))}
theorem FS.mv (h : FS w0 w b2 b3 b5 b9 A cb Bl sd ud a s vo vs To) (hm : Mods No w w') : FS w0 w' b2 b3 b5 b9 A cb Bl sd ud a s vo vs To :=
  ⟨hm.bk' h.h2, hm.bk' h.h3, hm.bk' h.h5, hm.bk' h.h9, hm.own h.own fun _ _ h => h, h.txs.mods hm (fun _ _ _ h => h) (fun _ _ _ h => h), h.no.trans hm, h.l2, h.l3, h.l5, h.l9, h.n35, h.alt, h.s1, h.s2, h.len⟩
theorem FS.setD (h : FS w0 w b2 b3 b5 b9 A cb Bl sd ud a s vo vs To) {sd' : Int} {ud' : Value} (hu : Upd w w' b9 #[.int .i64 sd', ud'] 61) : FS w0 w' b2 b3 b5 b9 A cb Bl sd' ud' a s vo vs To :=
  ⟨hu.mods.bk h.h2 (fun e => by subst e; exact absurd (h.h2.inj h.h9).2 (by decide)), hu.mods.bk h.h3 (fun e => by subst e; exact absurd (h.h3.inj h.h9).2 (by decide)), hu.mods.bk h.h5 (fun e => by subst e; exact absurd (h.h5.inj h.h9).2 (by decide)), hu.bk,
    own_upd h.own hu h.h9 (by decide), h.txs.mods hu.mods (fun g C hb e => by subst e; exact absurd (hb.inj h.h9).2 (by decide)) (fun g C hb e => by subst e; exact absurd (hb.inj h.h9).2 (by decide)),
    h.no.trans' hu.mods (fun k hk e => by have := h.l9; omega), h.l2, h.l3, h.l5, h.l9, h.n35, h.alt, h.s1, h.s2, h.len⟩
theorem FS.setH (h : FS w0 w b2 b3 b5 b9 A cb Bl sd ud a s vo vs To) {a' : Nat} {s' : Int} (hu : Upd w w' b3 #[.int .i64 (a' : Int), .int .i64 s'] 46) (ha : a' < 40) (h1 : s ≤ s') (h2 : s' ≤ 1073741824) : FS w0 w' b2 b3 b5 b9 A cb Bl sd ud a' s' vo vs To :=
  ⟨hu.mods.bk h.h2 (fun e => by subst e; exact absurd (h.h2.inj h.h3).2 (by decide)), hu.bk, hu.mods.bk h.h5 (fun e => h.n35 e.symm), hu.mods.bk h.h9 (fun e => by subst e; exact absurd (h.h9.inj h.h3).2 (by decide)),
    own_upd h.own hu h.h3 (by decide), h.txs.mods hu.mods (fun g C hb e => by subst e; exact absurd (hb.inj h.h3).2 (by decide)) (fun g C hb e => by subst e; exact absurd (hb.inj h.h3).2 (by decide)),
    h.no.trans' hu.mods (fun k hk e => by have := h.l3; omega), h.l2, h.l3, h.l5, h.l9, h.n35, ha, by have := h.s1; omega, h2, by have := h.len; omega⟩
theorem FS.next (h : FS w0 w b2 b3 b5 b9 A cb Bl sd ud a s vo vs To) {w1 : World} {v v' : Value} {t : List (Int × List UInt8)} {a' : Nat} (hm : Mods (fun i => some i = vo.ownBlock) w w1) (ho : w1.ownsRow w0.heap.size 42 1 v' (To.length + 1) (vs ++ [v]))
    (ht : ∃ xs, w.ownsRow w0.heap.size 35 2 v t.length xs ∧ WLo w w0.heap.size t xs) (hu : Upd w1 w' b3 #[.int .i64 (a' : Int), .int .i64 (s + 1)] 46) (ha : a' < 40) (hs : s + 1 ≤ 1073741824) :
    FS w0 w' b2 b3 b5 b9 A cb Bl sd ud a' (s + 1) v' (vs ++ [v]) (To ++ [t]) := by
  have hne : ∀ {g : Nat} {C : Array Value} {t : TypeId}, Bk w g C t → t ≠ 42 → ¬ (some g = vo.ownBlock) := fun hb ht e => by
    obtain ⟨_, cur, hc⟩ := own_blk h.own e.symm
    exact ht (hb.inj hc).2
  have k3 := hm.bk h.h3 (hne h.h3 (by decide))
  have hm2 : ∀ {g : Nat} {C : Array Value}, Bk w1 g C 5 → g ≠ b3 := fun hb e => by subst e; exact absurd (hb.inj k3).2 (by decide)
  have hm3 : ∀ {g : Nat} {C : Array Value}, Bk w1 g C 35 → g ≠ b3 := fun hb e => by subst e; exact absurd (hb.inj k3).2 (by decide)
  have htx : TXs w (w0.heap.size) (To ++ [t]) (vs ++ [v]) := h.txs.snoc ht
  have htx1 : TXs w1 (w0.heap.size) (To ++ [t]) (vs ++ [v]) := htx.mods hm (fun g C hb => hne hb (by decide)) (fun g C hb => hne hb (by decide))
  have k2 := hm.bk h.h2 (hne h.h2 (by decide))
  have k5 := hm.bk h.h5 (hne h.h5 (by decide))
  have k9 := hm.bk h.h9 (hne h.h9 (by decide))
  refine ⟨hu.mods.bk k2 (fun e => by subst e; exact absurd (k2.inj k3).2 (by decide)), hu.bk, hu.mods.bk k5 (fun e => h.n35 e.symm), hu.mods.bk k9 (fun e => by subst e; exact absurd (k9.inj k3).2 (by decide)), ?_, htx1.mods hu.mods (fun g C hb => hm2 hb) (fun g C hb => hm3 hb),
    (h.no.trans' hm (fun k hk e => ?_)).trans' hu.mods (fun k hk e => by have := h.l3; omega), h.l2, h.l3, h.l5, h.l9, h.n35, ha, by have := h.s1; omega, hs, by have := h.len; rw [List.length_append]; simp only [List.length_cons, List.length_nil]; omega⟩
  · rw [List.length_append]
    exact own_upd ho hu k3 (by decide)
  · have := (own_blk h.own e.symm).1
    omega
end
set_option maxHeartbeats 4000000 in
theorem find_in {w : World} {A : Option Addr} {Bl : List (List UInt8)} {cb : Nat} {a0 : Nat} {s0 : Int} (hb : BBs w A Bl) (ha : a0 < 40) (h1 : 1 ≤ s0) (h2 : s0 ≤ 1073741824) (h40 : Bl.length = 40) (h64 : ∀ k (hk : k < Bl.length), Bl[k].length = 64) :
    Ret Try.prog 43 [.slice A Bl.length cb, .agg #[.int .i64 (a0 : Int), .int .i64 s0]] w fun v w' =>
      (∃ vo vs, v = .tuple #[vo, .agg #[.int .i64 ((findL Bl a0 s0).2.1 : Int), .int .i64 (findL Bl a0 s0).2.2], .int .i64 0] ∧ w'.ownsRow w.heap.size 42 1 vo (findL Bl a0 s0).1.length vs ∧ TXs w' w.heap.size (findL Bl a0 s0).1 vs) ∧ Mods No w w' := by
  have hok : headOk (a0 : Int) s0 = true := by simp [headOk]; omega
  have hall : (Bl.all fun b => b.length == 64) = true := by
    rw [List.all_eq_true]
    intro b hb
    obtain ⟨k, hk, rfl⟩ := List.getElem_of_mem hb
    simp [h64 k hk]
  have hgd : ∀ q, (Bl.getD (q % 40) []).length = 64 := fun q => by
    have hq : q % 40 < Bl.length := by omega
    rw [List.getD_eq_getElem?_getD, List.getElem?_eq_getElem hq]
    exact h64 _ hq
  refine Ret.enter Try.func43 rfl Try.ntmps43 rfl ?_
  simp only [argEnv, Nat.reduceAdd]
  refine E_seqR ?_
  refine EL_step rfl ?_
  refine EO_box rfl rfl ?_
  intro w1 hn1
  refine EL_step rfl ?_
  refine EO_box rfl rfl ?_
  intro w2 hn2
  refine EL_val (R_assign rfl) rfl rfl rfl ?_
  refine EL_step rfl ?_
  refine EO_alloc K.zr46 rfl ?_
  intro w3 hn3
  refine EL_val (R_assign rfl) rfl rfl rfl ?_
  refine EL_nil ?_
  obtain ⟨b2, hb2⟩ : ∃ b2, b2 = w.heap.size := ⟨_, rfl⟩
  obtain ⟨b3, hb3⟩ : ∃ b3, b3 = w1.heap.size := ⟨_, rfl⟩
  obtain ⟨b5, hb5⟩ : ∃ b5, b5 = w2.heap.size := ⟨_, rfl⟩
  have k2 := hn3.mods.bk' (hn2.mods.bk' hn1.bk)
  have k3 := hn3.mods.bk' hn2.bk
  have k5 := hn3.bk
  have z1 := hn1.size
  have z2 := hn2.size
  have z3 := hn3.size
  have hm3 : Mods No w w3 := (hn1.mods.trans hn2.mods).trans hn3.mods
  rw [← hb2] at k2 ⊢
  rw [← hb3] at k3 ⊢
  rw [← hb5] at k5 ⊢
  refine E_scope1 (la := 1) (lb := 0) (fun m e w' => ∃ a s vo vs To b9 sd ud, m = (1073741824 - s).toNat ∧ e = [(2, ptr b2), (3, ptr b3), (5, ptr b5), (7, vo), (9, ptr b9), (11, .func (.func 54) #[] #[ptr b2, ptr b3])] ∧ FS w w' b2 b3 b5 b9 A cb Bl sd ud a s vo vs To ∧ To ++ (findL Bl a s).1 = (findL Bl a0 s0).1 ∧ (findL Bl a s).2 = (findL Bl a0 s0).2)
    (fun e w' => ∃ a s vo vs b9 sd ud, e = [(2, ptr b2), (3, ptr b3), (5, ptr b5), (7, vo), (9, ptr b9), (11, .func (.func 54) #[] #[ptr b2, ptr b3])] ∧ FS w w' b2 b3 b5 b9 A cb Bl sd ud a s vo vs (findL Bl a0 s0).1 ∧ (a, s) = (findL Bl a0 s0).2) rfl rfl ?_ ?_ ?_
  · rintro m e w4 ⟨a, s, vo, vs, To, b9, sd, ud, rfl, rfl, fs, hT, hH⟩
    have halt := fs.alt
    have hs1 := fs.s1
    have hs2 := fs.s2
    have hstop : findL Bl a s = ([], a, s) → ∀ {w5 : World} {sd' : Int} {ud' : Value}, FS w w5 b2 b3 b5 b9 A cb Bl sd' ud' a s vo vs To → ∃ a s vo' vs b9' sd ud, [(2, ptr b2), (3, ptr b3), (5, ptr b5), (7, vo), (9, ptr b9), (11, .func (.func 54) #[] #[ptr b2, ptr b3])] = [(2, ptr b2), (3, ptr b3), (5, ptr b5), (7, vo'), (9, ptr b9'), (11, .func (.func 54) #[] #[ptr b2, ptr b3])] ∧ FS w w5 b2 b3 b5 b9' A cb Bl sd ud a s vo' vs (findL Bl a0 s0).1 ∧ (a, s) = (findL Bl a0 s0).2 := fun e w5 sd' ud' f => by
      rw [e] at hT hH
      rw [List.append_nil] at hT
      exact ⟨a, s, vo, vs, b9, sd', ud', rfl, hT ▸ f, hH⟩
    by_cases hbig : 1073741824 ≤ s
    · refine E_seq ?_
      refine E_seqR ?_
      refine EL_val (R_fieldAddr rfl K.fT46_1) rfl rfl rfl ?_
      refine EL_val (R_load rfl K.ag3 (fs.h3.cell rfl)) rfl rfl rfl ?_
      first | refine EL_val (R_geq_t rfl rfl (by omega)) rfl rfl rfl ?_ | refine EL_val (R_geq_f rfl rfl (by omega)) rfl rfl rfl ?_
      refine EL_nil ?_
      refine E_cond_t rfl ?_
      refine E_goto ?_
      refine thenQ_g ?_
      refine toL_g ?_
      exact ⟨rfl, .inr ⟨rfl, [(2, ptr b2), (3, ptr b3), (5, ptr b5), (7, vo), (9, ptr b9), (11, .func (.func 54) #[] #[ptr b2, ptr b3])], ⟨rfl, rfl, rfl, rfl, rfl, rfl, trivial⟩, hstop (findL_big hbig) fs⟩⟩
    cases hbg : beginsS (Bl.getD (a % 40) []) with
    | none =>
      have htx : txS Bl a s = none := by unfold txS; rw [hbg]
      refine E_seq ?_
      refine E_seqR ?_
      refine EL_val (R_fieldAddr rfl K.fT46_1) rfl rfl rfl ?_
      refine EL_val (R_load rfl K.ag3 (fs.h3.cell rfl)) rfl rfl rfl ?_
      first | refine EL_val (R_geq_t rfl rfl (by omega)) rfl rfl rfl ?_ | refine EL_val (R_geq_f rfl rfl (by omega)) rfl rfl rfl ?_
      refine EL_nil ?_
      refine E_cond_f rfl ?_
      refine E_skip ?_
      refine thenQ_n ?_
      refine E_seqR ?_
      refine EL_val (R_move rfl) rfl rfl rfl ?_
      refine EL_step rfl ?_
      refine EO_callv K.bd54 (caps := [ptr b2, ptr b3]) rfl rfl rfl (at_ok (i := 0) fs.h2 fs.h3 (hb.no fs.no) h40 halt (by omega)) ?_
      rintro _ _ ⟨⟨Ak, ck, rfl, hle, hbs⟩, rfl⟩
      refine EL_step rfl ?_
      refine EO_call K.bd57 rfl rfl ((by have := begins_ok hbs hle (by rw [hgd]; omega); unfold beginsP at this; rw [show (a + 0) % 40 = a % 40 from rfl, hbg] at this; exact this)) ?_
      rintro _ w5 ⟨rfl, hm5⟩
      refine EL_val (R_move rfl) rfl rfl rfl ?_
      refine EL_val (R_extract rfl rfl) rfl rfl rfl ?_
      refine EL_val (R_extract rfl rfl) rfl rfl rfl ?_
      refine EL_step rfl ?_
      refine EO_storeAggB (fs.mv hm5).h9 rfl rfl K.sz61 rfl rfl ?_
      intro w6 hu6
      refine EL_val (R_assign rfl) rfl rfl rfl ?_
      refine EL_nil ?_
      refine E_seq ?_
      refine E_seqR ?_
      refine EL_val (R_move rfl) rfl rfl rfl ?_
      first | refine EL_val (R_neq_t rfl rfl (by omega)) rfl rfl rfl ?_ | refine EL_val (R_neq_f rfl rfl (by omega)) rfl rfl rfl ?_
      refine EL_val (R_move rfl) rfl rfl rfl ?_
      refine EL_not rfl rfl rfl ?_
      refine EL_not rfl rfl rfl ?_
      refine EL_not rfl rfl rfl ?_
      refine EL_not rfl rfl rfl ?_
      refine EL_not rfl rfl rfl ?_
      first | refine EL_val (R_pick_t rfl rfl) rfl rfl rfl ?_ | refine EL_val (R_pick_f rfl rfl) rfl rfl rfl ?_
      refine EL_nil ?_
      refine E_cond_t rfl ?_
      refine E_goto ?_
      refine thenQ_g ?_
      refine toL_g ?_
      exact ⟨rfl, .inr ⟨rfl, [(2, ptr b2), (3, ptr b3), (5, ptr b5), (7, vo), (9, ptr b9), (11, .func (.func 54) #[] #[ptr b2, ptr b3])], ⟨rfl, rfl, rfl, rfl, rfl, rfl, trivial⟩, hstop (findL_none htx) ((fs.mv hm5).setD hu6)⟩⟩
    | some p =>
      obtain ⟨s', ks⟩ := p
      have hsnd := beginsS_facts hbg
      obtain ⟨f1, f2, f3, f4, f5⟩ := soundS_facts hsnd
      by_cases hse : s' = s
      · subst hse
        cases hen : endsS (Bl.getD ((a + (ks.length + 1)) % 40) []) with
        | none =>
          have htx : txS Bl a s' = none := by unfold txS; rw [hbg]; show (if s' = s' then _ else none) = none; rw [if_pos rfl, hen]
          refine E_seq ?_
          refine E_seqR ?_
          refine EL_val (R_fieldAddr rfl K.fT46_1) rfl rfl rfl ?_
          refine EL_val (R_load rfl K.ag3 (fs.h3.cell rfl)) rfl rfl rfl ?_
          first | refine EL_val (R_geq_t rfl rfl (by omega)) rfl rfl rfl ?_ | refine EL_val (R_geq_f rfl rfl (by omega)) rfl rfl rfl ?_
          refine EL_nil ?_
          refine E_cond_f rfl ?_
          refine E_skip ?_
          refine thenQ_n ?_
          refine E_seqR ?_
          refine EL_val (R_move rfl) rfl rfl rfl ?_
          refine EL_step rfl ?_
          refine EO_callv K.bd54 (caps := [ptr b2, ptr b3]) rfl rfl rfl (at_ok (i := 0) fs.h2 fs.h3 (hb.no fs.no) h40 halt (by omega)) ?_
          rintro _ _ ⟨⟨Ak, ck, rfl, hle, hbs⟩, rfl⟩
          refine EL_step rfl ?_
          refine EO_call K.bd57 rfl rfl ((by have := begins_ok hbs hle (by rw [hgd]; omega); unfold beginsP at this; rw [show (a + 0) % 40 = a % 40 from rfl, hbg] at this; exact this)) ?_
          rintro _ w5 ⟨⟨u, rfl, ho5⟩, hm5⟩
          (obtain ⟨Au, cu, rfl, hcu, hspu⟩ := own_sl ho5)
          refine EL_val (R_move rfl) rfl rfl rfl ?_
          refine EL_val (R_extract rfl rfl) rfl rfl rfl ?_
          refine EL_val (R_extract rfl rfl) rfl rfl rfl ?_
          refine EL_step rfl ?_
          refine EO_storeAggB (fs.mv hm5).h9 rfl rfl K.sz61 rfl rfl ?_
          intro w6 hu6
          (have f6 := (fs.mv hm5).setD hu6; have hu := own_upd ho5 hu6 (fs.mv hm5).h9 (by decide))
          refine EL_val (R_assign rfl) rfl rfl rfl ?_
          refine EL_nil ?_
          refine E_seq ?_
          refine E_seqR ?_
          refine EL_val (R_move rfl) rfl rfl rfl ?_
          first | refine EL_val (R_neq_t rfl rfl (by omega)) rfl rfl rfl ?_ | refine EL_val (R_neq_f rfl rfl (by omega)) rfl rfl rfl ?_
          refine EL_val (R_move rfl) rfl rfl rfl ?_
          first | refine EL_val (R_fieldAddr rfl K.fT61_0) rfl rfl rfl ?_ | refine EL_not rfl rfl rfl ?_
          first | refine EL_val (R_load rfl K.ag3 (hu6.bk.cell rfl)) rfl rfl rfl ?_ | refine EL_not rfl rfl rfl ?_
          first | refine EL_val (R_fieldAddr rfl K.fT46_1) rfl rfl rfl ?_ | refine EL_not rfl rfl rfl ?_
          first | refine EL_val (R_load rfl K.ag3 (f6.h3.cell rfl)) rfl rfl rfl ?_ | refine EL_not rfl rfl rfl ?_
          first | refine EL_val (R_neq_t rfl rfl (by omega)) rfl rfl rfl ?_ | refine EL_val (R_neq_f rfl rfl (by omega)) rfl rfl rfl ?_ | refine EL_not rfl rfl rfl ?_
          first | refine EL_val (R_pick_t rfl rfl) rfl rfl rfl ?_ | refine EL_val (R_pick_f rfl rfl) rfl rfl rfl ?_
          refine EL_nil ?_
          refine E_cond_f rfl ?_
          refine E_skip ?_
          refine thenQ_n ?_
          refine E_seq ?_
          refine E_seqR ?_
          refine EL_val (R_move rfl) rfl rfl rfl ?_
          refine EL_val (R_fieldAddr rfl K.fT61_1) rfl rfl rfl ?_
          refine EL_val (R_load rfl K.ag54 (hu6.bk.cell rfl)) rfl rfl rfl ?_
          refine EL_val (R_lenSlice rfl Try.underlying54) rfl rfl rfl ?_
          refine EL_val (R_addE (((ks.length + 1 : Nat) : Int)) rfl rfl (by omega) (by omega) (by omega)) rfl rfl rfl ?_
          refine EL_step rfl ?_
          refine EO_callv K.bd54 (caps := [ptr b2, ptr b3]) rfl rfl rfl (at_ok (i := ks.length + 1) f6.h2 f6.h3 (hb.no f6.no) h40 halt (by omega)) ?_
          rintro _ _ ⟨⟨Ak2, ck2, rfl, hle2, hbs2⟩, rfl⟩
          refine EL_step rfl ?_
          refine EO_call K.bd58 rfl rfl ((by have := ends_ok hbs2 hle2 (by rw [hgd]; omega); rw [hen] at this; exact this)) ?_
          rintro _ w7 ⟨rfl, hm7⟩
          (have f7 := f6.mv hm7)
          refine EL_val (R_move rfl) rfl rfl rfl ?_
          refine EL_val (R_extract rfl rfl) rfl rfl rfl ?_
          refine EL_val (R_extract rfl rfl) rfl rfl rfl ?_
          refine EL_val (R_extract rfl rfl) rfl rfl rfl ?_
          refine EL_val (R_assign rfl) rfl rfl rfl ?_
          refine EL_val (R_assign rfl) rfl rfl rfl ?_
          refine EL_val (R_assign rfl) rfl rfl rfl ?_
          refine EL_nil ?_
          refine E_seqR ?_
          refine EL_val (R_move rfl) rfl rfl rfl ?_
          first | refine EL_val (R_neq_t rfl rfl (by omega)) rfl rfl rfl ?_ | refine EL_val (R_neq_f rfl rfl (by omega)) rfl rfl rfl ?_
          refine EL_val (R_move rfl) rfl rfl rfl ?_
          first | refine EL_val (R_move rfl) rfl rfl rfl ?_ | refine EL_not rfl rfl rfl ?_
          first | refine EL_val (R_fieldAddr rfl K.fT46_1) rfl rfl rfl ?_ | refine EL_not rfl rfl rfl ?_
          refine EL_not rfl rfl rfl ?_
          first | refine EL_val (R_neq_t rfl rfl (by omega)) rfl rfl rfl ?_ | refine EL_val (R_neq_f rfl rfl (by omega)) rfl rfl rfl ?_ | refine EL_not rfl rfl rfl ?_
          first | refine EL_val (R_pick_t rfl rfl) rfl rfl rfl ?_ | refine EL_val (R_pick_f rfl rfl) rfl rfl rfl ?_
          refine EL_val (R_move rfl) rfl rfl rfl ?_
          first | refine EL_val (R_move rfl) rfl rfl rfl ?_ | refine EL_not rfl rfl rfl ?_
          first | refine EL_val (R_fieldAddr rfl K.fT61_1) rfl rfl rfl ?_ | refine EL_not rfl rfl rfl ?_
          refine EL_not rfl rfl rfl ?_
          refine EL_not rfl rfl rfl ?_
          first | refine EL_val (R_neq_t rfl rfl (by omega)) rfl rfl rfl ?_ | refine EL_val (R_neq_f rfl rfl (by omega)) rfl rfl rfl ?_ | refine EL_not rfl rfl rfl ?_
          first | refine EL_val (R_pick_t rfl rfl) rfl rfl rfl ?_ | refine EL_val (R_pick_f rfl rfl) rfl rfl rfl ?_
          refine EL_nil ?_
          refine E_cond_t rfl ?_
          refine E_goto ?_
          refine thenQ_g ?_
          refine toL_g ?_
          exact ⟨rfl, .inr ⟨rfl, [(2, ptr b2), (3, ptr b3), (5, ptr b5), (7, vo), (9, ptr b9), (11, .func (.func 54) #[] #[ptr b2, ptr b3])], ⟨rfl, rfl, rfl, rfl, rfl, rfl, trivial⟩, hstop (findL_none htx) f7⟩⟩
        | some q =>
          obtain ⟨s2', n2⟩ := q
          by_cases hq1 : s2' = s'
          · by_cases hq2 : n2 = (ks.length : Int)
            · have htx : txS Bl a s' = some ks := by unfold txS; rw [hbg]; show (if s' = s' then _ else none) = some ks; rw [if_pos rfl, hen]; show (if s2' = s' ∧ n2 = (ks.length : Int) then some ks else none) = some ks; rw [if_pos ⟨hq1, hq2⟩]
              rw [findL_some hbig htx] at hT hH
              refine E_seq ?_
              refine E_seqR ?_
              refine EL_val (R_fieldAddr rfl K.fT46_1) rfl rfl rfl ?_
              refine EL_val (R_load rfl K.ag3 (fs.h3.cell rfl)) rfl rfl rfl ?_
              first | refine EL_val (R_geq_t rfl rfl (by omega)) rfl rfl rfl ?_ | refine EL_val (R_geq_f rfl rfl (by omega)) rfl rfl rfl ?_
              refine EL_nil ?_
              refine E_cond_f rfl ?_
              refine E_skip ?_
              refine thenQ_n ?_
              refine E_seqR ?_
              refine EL_val (R_move rfl) rfl rfl rfl ?_
              refine EL_step rfl ?_
              refine EO_callv K.bd54 (caps := [ptr b2, ptr b3]) rfl rfl rfl (at_ok (i := 0) fs.h2 fs.h3 (hb.no fs.no) h40 halt (by omega)) ?_
              rintro _ _ ⟨⟨Ak, ck, rfl, hle, hbs⟩, rfl⟩
              refine EL_step rfl ?_
              refine EO_call K.bd57 rfl rfl ((by have := begins_ok hbs hle (by rw [hgd]; omega); unfold beginsP at this; rw [show (a + 0) % 40 = a % 40 from rfl, hbg] at this; exact this)) ?_
              rintro _ w5 ⟨⟨u, rfl, ho5⟩, hm5⟩
              (obtain ⟨Au, cu, rfl, hcu, hspu⟩ := own_sl ho5)
              refine EL_val (R_move rfl) rfl rfl rfl ?_
              refine EL_val (R_extract rfl rfl) rfl rfl rfl ?_
              refine EL_val (R_extract rfl rfl) rfl rfl rfl ?_
              refine EL_step rfl ?_
              refine EO_storeAggB (fs.mv hm5).h9 rfl rfl K.sz61 rfl rfl ?_
              intro w6 hu6
              (have f6 := (fs.mv hm5).setD hu6; have hu := own_upd ho5 hu6 (fs.mv hm5).h9 (by decide))
              refine EL_val (R_assign rfl) rfl rfl rfl ?_
              refine EL_nil ?_
              refine E_seq ?_
              refine E_seqR ?_
              refine EL_val (R_move rfl) rfl rfl rfl ?_
              first | refine EL_val (R_neq_t rfl rfl (by omega)) rfl rfl rfl ?_ | refine EL_val (R_neq_f rfl rfl (by omega)) rfl rfl rfl ?_
              refine EL_val (R_move rfl) rfl rfl rfl ?_
              first | refine EL_val (R_fieldAddr rfl K.fT61_0) rfl rfl rfl ?_ | refine EL_not rfl rfl rfl ?_
              first | refine EL_val (R_load rfl K.ag3 (hu6.bk.cell rfl)) rfl rfl rfl ?_ | refine EL_not rfl rfl rfl ?_
              first | refine EL_val (R_fieldAddr rfl K.fT46_1) rfl rfl rfl ?_ | refine EL_not rfl rfl rfl ?_
              first | refine EL_val (R_load rfl K.ag3 (f6.h3.cell rfl)) rfl rfl rfl ?_ | refine EL_not rfl rfl rfl ?_
              first | refine EL_val (R_neq_t rfl rfl (by omega)) rfl rfl rfl ?_ | refine EL_val (R_neq_f rfl rfl (by omega)) rfl rfl rfl ?_ | refine EL_not rfl rfl rfl ?_
              first | refine EL_val (R_pick_t rfl rfl) rfl rfl rfl ?_ | refine EL_val (R_pick_f rfl rfl) rfl rfl rfl ?_
              refine EL_nil ?_
              refine E_cond_f rfl ?_
              refine E_skip ?_
              refine thenQ_n ?_
              refine E_seq ?_
              refine E_seqR ?_
              refine EL_val (R_move rfl) rfl rfl rfl ?_
              refine EL_val (R_fieldAddr rfl K.fT61_1) rfl rfl rfl ?_
              refine EL_val (R_load rfl K.ag54 (hu6.bk.cell rfl)) rfl rfl rfl ?_
              refine EL_val (R_lenSlice rfl Try.underlying54) rfl rfl rfl ?_
              refine EL_val (R_addE (((ks.length + 1 : Nat) : Int)) rfl rfl (by omega) (by omega) (by omega)) rfl rfl rfl ?_
              refine EL_step rfl ?_
              refine EO_callv K.bd54 (caps := [ptr b2, ptr b3]) rfl rfl rfl (at_ok (i := ks.length + 1) f6.h2 f6.h3 (hb.no f6.no) h40 halt (by omega)) ?_
              rintro _ _ ⟨⟨Ak2, ck2, rfl, hle2, hbs2⟩, rfl⟩
              refine EL_step rfl ?_
              refine EO_call K.bd58 rfl rfl ((by have := ends_ok hbs2 hle2 (by rw [hgd]; omega); rw [hen] at this; exact this)) ?_
              rintro _ w7 ⟨rfl, hm7⟩
              (have f7 := f6.mv hm7)
              refine EL_val (R_move rfl) rfl rfl rfl ?_
              refine EL_val (R_extract rfl rfl) rfl rfl rfl ?_
              refine EL_val (R_extract rfl rfl) rfl rfl rfl ?_
              refine EL_val (R_extract rfl rfl) rfl rfl rfl ?_
              refine EL_val (R_assign rfl) rfl rfl rfl ?_
              refine EL_val (R_assign rfl) rfl rfl rfl ?_
              refine EL_val (R_assign rfl) rfl rfl rfl ?_
              refine EL_nil ?_
              refine E_seqR ?_
              refine EL_val (R_move rfl) rfl rfl rfl ?_
              first | refine EL_val (R_neq_t rfl rfl (by omega)) rfl rfl rfl ?_ | refine EL_val (R_neq_f rfl rfl (by omega)) rfl rfl rfl ?_
              refine EL_val (R_move rfl) rfl rfl rfl ?_
              first | refine EL_val (R_move rfl) rfl rfl rfl ?_ | refine EL_not rfl rfl rfl ?_
              first | refine EL_val (R_fieldAddr rfl K.fT46_1) rfl rfl rfl ?_ | refine EL_not rfl rfl rfl ?_
              first | refine EL_val (R_load rfl K.ag3 (f7.h3.cell rfl)) rfl rfl rfl ?_ | refine EL_not rfl rfl rfl ?_
              first | refine EL_val (R_neq_t rfl rfl (by omega)) rfl rfl rfl ?_ | refine EL_val (R_neq_f rfl rfl (by omega)) rfl rfl rfl ?_ | refine EL_not rfl rfl rfl ?_
              first | refine EL_val (R_pick_t rfl rfl) rfl rfl rfl ?_ | refine EL_val (R_pick_f rfl rfl) rfl rfl rfl ?_
              refine EL_val (R_move rfl) rfl rfl rfl ?_
              first | refine EL_val (R_move rfl) rfl rfl rfl ?_ | refine EL_not rfl rfl rfl ?_
              first | refine EL_val (R_fieldAddr rfl K.fT61_1) rfl rfl rfl ?_ | refine EL_not rfl rfl rfl ?_
              first | refine EL_val (R_load rfl K.ag54 (f7.h9.cell rfl)) rfl rfl rfl ?_ | refine EL_not rfl rfl rfl ?_
              first | refine EL_val (R_lenSlice rfl Try.underlying54) rfl rfl rfl ?_ | refine EL_not rfl rfl rfl ?_
              first | refine EL_val (R_neq_t rfl rfl (by omega)) rfl rfl rfl ?_ | refine EL_val (R_neq_f rfl rfl (by omega)) rfl rfl rfl ?_ | refine EL_not rfl rfl rfl ?_
              first | refine EL_val (R_pick_t rfl rfl) rfl rfl rfl ?_ | refine EL_val (R_pick_f rfl rfl) rfl rfl rfl ?_
              refine EL_nil ?_
              refine E_cond_f rfl ?_
              refine E_skip ?_
              refine thenQ_n ?_
              refine E_seqR ?_
              refine EL_val (R_assign rfl) rfl rfl rfl ?_
              refine EL_nil ?_
              refine E_seq ?_
              refine E_seqR ?_
              refine EL_val (R_fieldAddr rfl K.fT61_1) rfl rfl rfl ?_
              refine EL_val (R_load rfl K.ag54 (f7.h9.cell rfl)) rfl rfl rfl ?_
              refine EL_val (R_lenSlice rfl Try.underlying54) rfl rfl rfl ?_
              refine EL_val (R_move rfl) rfl rfl rfl ?_
              refine EL_nil ?_
              refine E_block ?_
              have hown7 := hm7.own hu (fun _ _ h => h)
              have hI : IS w7 Au ks := Src.own hown7
              have hwl : (wrS Bl a ks).length = ks.length := by simp [wrS]
              refine E_loop (fun m' e' w' => ∃ i v xs, i ≤ ks.length ∧ m' = ks.length - i ∧ e' = [(2, ptr b2), (3, ptr b3), (5, ptr b5), (7, vo), (9, ptr b9), (11, .func (.func 54) #[] #[ptr b2, ptr b3]), (8, v), (82, .slice (Au) ks.length cu), (83, .int .i64 (ks.length : Int)), (84, .int .i64 ((i : Nat) : Int))] ∧ Mods No w7 w' ∧ w'.ownsRow w7.heap.size 35 2 v i xs ∧ WLo w' w7.heap.size ((wrS Bl a ks).take i) xs) ks.length [(2, ptr b2), (3, ptr b3), (5, ptr b5), (7, vo), (9, ptr b9), (11, .func (.func 54) #[] #[ptr b2, ptr b3]), (8, .slice none 0 0), (82, .slice (Au) ks.length cu), (83, .int .i64 (ks.length : Int)), (84, .int .i64 ((0 : Nat) : Int))] ⟨rfl, rfl, rfl, rfl, rfl, rfl, rfl, rfl, rfl, rfl, trivial⟩
                ⟨0, .slice none 0 0, [], by omega, by omega, rfl, Mods.refl _ _, World.ownsRow_nil _ _ _ _, trivial⟩ ?_
              rintro m' e w8 ⟨i, v, xs, hi, rfl, rfl, hm8, hov, hwo⟩
              have f8 := f7.mv hm8
              have hz8 := hm8.size
              obtain ⟨Av, cv, rfl, hcv, hspv⟩ := own_sl hov
              by_cases hlt : i < ks.length
              · obtain ⟨g, o, rfl, hc⟩ := hI.cell hlt
                have hnext : (wrS Bl a ks).take (i + 1) = (wrS Bl a ks).take i ++ [(ks[i], Bl.getD ((a + (i + 1)) % 40) [])] := by
                  rw [List.take_succ_eq_append_getElem (by omega)]
                  congr 1
                  simp [wrS, List.getElem?_eq_getElem hlt]

                refine E_seqR ?_
                first | refine EL_val (R_lss_t rfl rfl (by omega)) rfl rfl rfl ?_ | refine EL_val (R_lss_f rfl rfl (by omega)) rfl rfl rfl ?_
                refine EL_nil ?_
                refine E_seq ?_
                refine E_cond_t rfl ?_
                refine E_skip ?_
                refine thenQ_n ?_
                refine E_seq ?_
                refine E_block ?_
                refine E_seqR ?_
                refine EL_val (R_move rfl) rfl rfl rfl ?_
                refine EL_val (R_indexAddr rfl rfl Try.underlying54 K.sz3 (m := i) rfl hlt) rfl rfl rfl ?_
                refine EL_val (R_load rfl K.ag3 ((by rw [Nat.mul_one]; exact hm8.cell hc id))) rfl rfl rfl ?_
                refine EL_val (R_assign rfl) rfl rfl rfl ?_
                refine EL_val (R_assign rfl) rfl rfl rfl ?_
                refine EL_nil ?_
                refine E_region ?_
                refine EL_val (R_move rfl) rfl rfl rfl ?_
                refine EL_val (R_move rfl) rfl rfl rfl ?_
                refine EL_val (R_move rfl) rfl rfl rfl ?_
                refine EL_val (R_move rfl) rfl rfl rfl ?_
                first | refine EL_val (R_inc rfl (by omega)) rfl rfl rfl ?_ | refine EL_val (R_add_in rfl rfl (by omega) (by omega)) rfl rfl rfl ?_
                refine EL_step rfl ?_
                refine EO_callv K.bd54 (caps := [ptr b2, ptr b3]) rfl rfl rfl (at_ok (i := i + 1) f8.h2 f8.h3 (hb.no f8.no) h40 halt (by omega)) ?_
                rintro _ _ ⟨⟨Ak3, ck3, rfl, hle3, hbs3⟩, rfl⟩
                refine EL_step rfl ?_
                refine EO_call K.bd59 rfl rfl ((bclone_ok hbs3 (by rw [hgd]; omega) (by rw [hgd]; omega))) ?_
                rintro y w9 ⟨ho9, hm9⟩
                (obtain ⟨gy, cy, rfl, _, _, _, _, _⟩ := ho9.form (by rw [hgd]; omega))
                refine EL_val (R_build (cells := #[.int .i64 ks[i], .slice (some ⟨gy, 0, none⟩) (Bl.getD ((a + (i + 1)) % 40) []).length cy]) K.zr35 K.pl35 rfl rfl) rfl rfl rfl ?_
                refine EL_step rfl ?_
                refine EO_buildSlice Try.underlying42 K.zr35 K.sz35 rfl rfl rfl (fill_whole rfl (by rw [size_madeCells])) rfl ?_
                intro w10 hn10
                refine EL_step rfl ?_
                refine EO_append rfl rfl Try.underlying42 K.sz35 K.zr35 K.by35 rfl (by decide) ((hm9.trans hn10.mods).own hov fun _ _ h => h) (Src.bk hn10.bk 1 2 [.int .i64 ks[i], .slice (some ⟨gy, 0, none⟩) (Bl.getD ((a + (i + 1)) % 40) []).length cy] rfl (fun q u hq => by rw [Nat.zero_add]; show (#[.int .i64 ks[i], .slice (some ⟨gy, 0, none⟩) (Bl.getD ((a + (i + 1)) % 40) []).length cy] : Array Value)[q]? = some u; simpa using hq)) (by simp [Value.oneCell']) (by simp only [maxLen]; omega) (by omega) (by have := hm9.size; have := hn10.size; omega) rfl ?_
                intro v11 w11 ho11 hm11 hat11
                refine EL_val (R_assign rfl) rfl rfl rfl ?_
                refine EL_nil ?_
                refine inB_n ?_
                refine thenQ_n ?_
                refine E_region ?_
                first | refine EL_val (R_inc rfl (by omega)) rfl rfl rfl ?_ | refine EL_val (R_add_in rfl rfl (by omega) (by omega)) rfl rfl rfl ?_
                refine EL_val (R_move rfl) rfl rfl rfl ?_
                refine EL_nil ?_
                refine thenQ_n ?_
                have ho10 := (hm9.trans hn10.mods).own hov fun _ _ h => h
                have hno11 : Mods No w7 w11 := ((hm8.trans hm9).trans hn10.mods).trans' hm11 fun k hk e => by have := (own_blk ho10 e.symm).1; omega
                have hu8 : ∀ g C, Bk w10 g C 5 → ¬ (some g = (Value.slice Av i cv).ownBlock) := fun g C hb e => by
                  obtain ⟨_, cur, hc⟩ := own_blk ho10 e.symm
                  exact absurd (hb.inj hc).2 (by decide)
                have hwo10 := (hwo.mods (hm9.trans hn10.mods) (fun _ _ _ h => h)).snoc (a := ks[i]) (l := Bl.getD ((a + (i + 1)) % 40) []) (own_mono (hn10.mods.own ho9 fun _ _ h => h) (B := w7.heap.size) (by omega))
                refine ⟨rfl, ks.length - (i + 1), [(2, ptr b2), (3, ptr b3), (5, ptr b5), (7, vo), (9, ptr b9), (11, .func (.func 54) #[] #[ptr b2, ptr b3]), (8, v11), (82, .slice (some ⟨g, o, none⟩) ks.length cu), (83, .int .i64 (ks.length : Int)), (84, .int .i64 ((i + 1 : Nat) : Int))], by omega, ⟨rfl, rfl, rfl, rfl, rfl, rfl, rfl, rfl, rfl, rfl, trivial⟩, i + 1, v11, _, by omega, rfl, rfl, hno11, ho11, ?_⟩
                rw [hnext]
                exact hwo10.mods hm11 hu8
              · have hi' : i = ks.length := by omega
                subst hi'
                rw [List.take_of_length_le (by omega)] at hwo
                have hz9 := f8.no.size
                have hz7 := f7.no.size
                have hTl := f8.len
                have hTx : To ++ [wrS Bl a ks] ++ (findL Bl ((a + ks.length + 2) % 40) (s' + 1)).1 = (findL Bl a0 s0).1 := by
                  rw [List.append_assoc]
                  exact hT

                refine E_seqR ?_
                first | refine EL_val (R_lss_t rfl rfl (by omega)) rfl rfl rfl ?_ | refine EL_val (R_lss_f rfl rfl (by omega)) rfl rfl rfl ?_
                refine EL_nil ?_
                refine E_seq ?_
                refine E_cond_f rfl ?_
                refine E_exit ?_
                refine thenQ_e ?_
                refine thenQ_e ?_
                refine inB_eq rfl ?_
                refine thenQ_n ?_
                refine E_seqR ?_
                refine EL_val (R_move rfl) rfl rfl rfl ?_
                refine EL_val (R_move rfl) rfl rfl rfl ?_
                refine EL_step rfl ?_
                refine EO_buildSlice Try.underlying90 K.zr42 K.sz42 rfl rfl rfl (fill_whole rfl (by rw [size_madeCells])) rfl ?_
                intro w9 hn9
                (have f9 := f8.mv hn9.mods)
                refine EL_step rfl ?_
                refine EO_append rfl rfl Try.underlying90 K.sz42 K.zr42 K.by42 rfl (by decide) f9.own (Src.bk hn9.bk 1 1 [.slice Av ks.length cv] rfl (fun q u hq => by rw [Nat.zero_add]; show (#[.slice Av ks.length cv] : Array Value)[q]? = some u; simpa using hq)) (by simp [Value.oneCell']) (by simp only [maxLen]; omega) (by omega) (by have := hn9.size; omega) rfl ?_
                intro v10 w10 ho10 hm10 hat10
                (have k3 := hm10.bk f9.h3 (fun e => (by obtain ⟨_, cur, hc⟩ := own_blk f9.own e.symm; exact absurd (hc.inj f9.h3).2 (by decide))); have k9 := hm10.bk f9.h9 (fun e => (by obtain ⟨_, cur, hc⟩ := own_blk f9.own e.symm; exact absurd (hc.inj f9.h9).2 (by decide))))
                refine EL_val (R_assign rfl) rfl rfl rfl ?_
                refine EL_nil ?_
                refine E_seqR ?_
                refine EL_val (R_fieldAddr rfl K.fT46_0) rfl rfl rfl ?_
                refine EL_val (R_load rfl K.ag3 (k3.cell rfl)) rfl rfl rfl ?_
                refine EL_val (R_fieldAddr rfl K.fT61_1) rfl rfl rfl ?_
                refine EL_val (R_load rfl K.ag54 (k9.cell rfl)) rfl rfl rfl ?_
                refine EL_val (R_lenSlice rfl Try.underlying54) rfl rfl rfl ?_
                refine EL_val (R_addE (((a + ks.length : Nat) : Int)) rfl rfl (by omega) (by omega) (by omega)) rfl rfl rfl ?_
                refine EL_val (R_addE (((a + ks.length + 2 : Nat) : Int)) rfl rfl (by omega) (by omega) (by omega)) rfl rfl rfl ?_
                refine EL_val (R_remE (((a + ks.length + 2) % 40 : Nat) : Int) (by omega) (by omega) (by omega) rfl rfl) rfl rfl rfl ?_
                refine EL_val (R_fieldAddr rfl K.fT46_1) rfl rfl rfl ?_
                refine EL_val (R_load rfl K.ag3 (k3.cell rfl)) rfl rfl rfl ?_
                refine EL_val (R_addE ((s' + 1)) rfl rfl (by omega) (by omega) (by omega)) rfl rfl rfl ?_
                refine EL_val (R_build (cells := #[.int .i64 (((a + ks.length + 2) % 40 : Nat) : Int), .int .i64 (s' + 1)]) K.zr46 K.pl46 rfl rfl) rfl rfl rfl ?_
                refine EL_step rfl ?_
                refine EO_storeAggB k3 rfl rfl K.sz46 rfl rfl ?_
                intro w11 hu11
                refine EL_nil ?_
                refine E_seq ?_
                refine E_goto ?_
                refine thenQ_g ?_
                refine toL_g ?_
                exact ⟨rfl, .inl ⟨rfl, (1073741824 - (s' + 1)).toNat, [(2, ptr b2), (3, ptr b3), (5, ptr b5), (7, v10), (9, ptr b9), (11, .func (.func 54) #[] #[ptr b2, ptr b3])], by omega, ⟨rfl, rfl, rfl, rfl, rfl, rfl, trivial⟩, (a + ks.length + 2) % 40, s' + 1, v10, _, To ++ [wrS Bl a ks], b9, _, _, rfl, rfl,
                  f9.next hm10 ho10 ⟨xs, by rw [hwl]; exact own_mono (hn9.mods.own hov fun _ _ h => h) (by omega), (hwo.mods hn9.mods fun _ _ _ h => h).mono (by omega)⟩ hu11 (by omega) (by omega), hTx, hH⟩⟩
            · have htx : txS Bl a s' = none := by unfold txS; rw [hbg]; show (if s' = s' then _ else none) = none; rw [if_pos rfl, hen]; show (if s2' = s' ∧ n2 = (ks.length : Int) then some ks else none) = none; rw [if_neg (fun h => hq2 h.2)]
              refine E_seq ?_
              refine E_seqR ?_
              refine EL_val (R_fieldAddr rfl K.fT46_1) rfl rfl rfl ?_
              refine EL_val (R_load rfl K.ag3 (fs.h3.cell rfl)) rfl rfl rfl ?_
              first | refine EL_val (R_geq_t rfl rfl (by omega)) rfl rfl rfl ?_ | refine EL_val (R_geq_f rfl rfl (by omega)) rfl rfl rfl ?_
              refine EL_nil ?_
              refine E_cond_f rfl ?_
              refine E_skip ?_
              refine thenQ_n ?_
              refine E_seqR ?_
              refine EL_val (R_move rfl) rfl rfl rfl ?_
              refine EL_step rfl ?_
              refine EO_callv K.bd54 (caps := [ptr b2, ptr b3]) rfl rfl rfl (at_ok (i := 0) fs.h2 fs.h3 (hb.no fs.no) h40 halt (by omega)) ?_
              rintro _ _ ⟨⟨Ak, ck, rfl, hle, hbs⟩, rfl⟩
              refine EL_step rfl ?_
              refine EO_call K.bd57 rfl rfl ((by have := begins_ok hbs hle (by rw [hgd]; omega); unfold beginsP at this; rw [show (a + 0) % 40 = a % 40 from rfl, hbg] at this; exact this)) ?_
              rintro _ w5 ⟨⟨u, rfl, ho5⟩, hm5⟩
              (obtain ⟨Au, cu, rfl, hcu, hspu⟩ := own_sl ho5)
              refine EL_val (R_move rfl) rfl rfl rfl ?_
              refine EL_val (R_extract rfl rfl) rfl rfl rfl ?_
              refine EL_val (R_extract rfl rfl) rfl rfl rfl ?_
              refine EL_step rfl ?_
              refine EO_storeAggB (fs.mv hm5).h9 rfl rfl K.sz61 rfl rfl ?_
              intro w6 hu6
              (have f6 := (fs.mv hm5).setD hu6; have hu := own_upd ho5 hu6 (fs.mv hm5).h9 (by decide))
              refine EL_val (R_assign rfl) rfl rfl rfl ?_
              refine EL_nil ?_
              refine E_seq ?_
              refine E_seqR ?_
              refine EL_val (R_move rfl) rfl rfl rfl ?_
              first | refine EL_val (R_neq_t rfl rfl (by omega)) rfl rfl rfl ?_ | refine EL_val (R_neq_f rfl rfl (by omega)) rfl rfl rfl ?_
              refine EL_val (R_move rfl) rfl rfl rfl ?_
              first | refine EL_val (R_fieldAddr rfl K.fT61_0) rfl rfl rfl ?_ | refine EL_not rfl rfl rfl ?_
              first | refine EL_val (R_load rfl K.ag3 (hu6.bk.cell rfl)) rfl rfl rfl ?_ | refine EL_not rfl rfl rfl ?_
              first | refine EL_val (R_fieldAddr rfl K.fT46_1) rfl rfl rfl ?_ | refine EL_not rfl rfl rfl ?_
              first | refine EL_val (R_load rfl K.ag3 (f6.h3.cell rfl)) rfl rfl rfl ?_ | refine EL_not rfl rfl rfl ?_
              first | refine EL_val (R_neq_t rfl rfl (by omega)) rfl rfl rfl ?_ | refine EL_val (R_neq_f rfl rfl (by omega)) rfl rfl rfl ?_ | refine EL_not rfl rfl rfl ?_
              first | refine EL_val (R_pick_t rfl rfl) rfl rfl rfl ?_ | refine EL_val (R_pick_f rfl rfl) rfl rfl rfl ?_
              refine EL_nil ?_
              refine E_cond_f rfl ?_
              refine E_skip ?_
              refine thenQ_n ?_
              refine E_seq ?_
              refine E_seqR ?_
              refine EL_val (R_move rfl) rfl rfl rfl ?_
              refine EL_val (R_fieldAddr rfl K.fT61_1) rfl rfl rfl ?_
              refine EL_val (R_load rfl K.ag54 (hu6.bk.cell rfl)) rfl rfl rfl ?_
              refine EL_val (R_lenSlice rfl Try.underlying54) rfl rfl rfl ?_
              refine EL_val (R_addE (((ks.length + 1 : Nat) : Int)) rfl rfl (by omega) (by omega) (by omega)) rfl rfl rfl ?_
              refine EL_step rfl ?_
              refine EO_callv K.bd54 (caps := [ptr b2, ptr b3]) rfl rfl rfl (at_ok (i := ks.length + 1) f6.h2 f6.h3 (hb.no f6.no) h40 halt (by omega)) ?_
              rintro _ _ ⟨⟨Ak2, ck2, rfl, hle2, hbs2⟩, rfl⟩
              refine EL_step rfl ?_
              refine EO_call K.bd58 rfl rfl ((by have := ends_ok hbs2 hle2 (by rw [hgd]; omega); rw [hen] at this; exact this)) ?_
              rintro _ w7 ⟨rfl, hm7⟩
              (have f7 := f6.mv hm7)
              refine EL_val (R_move rfl) rfl rfl rfl ?_
              refine EL_val (R_extract rfl rfl) rfl rfl rfl ?_
              refine EL_val (R_extract rfl rfl) rfl rfl rfl ?_
              refine EL_val (R_extract rfl rfl) rfl rfl rfl ?_
              refine EL_val (R_assign rfl) rfl rfl rfl ?_
              refine EL_val (R_assign rfl) rfl rfl rfl ?_
              refine EL_val (R_assign rfl) rfl rfl rfl ?_
              refine EL_nil ?_
              refine E_seqR ?_
              refine EL_val (R_move rfl) rfl rfl rfl ?_
              first | refine EL_val (R_neq_t rfl rfl (by omega)) rfl rfl rfl ?_ | refine EL_val (R_neq_f rfl rfl (by omega)) rfl rfl rfl ?_
              refine EL_val (R_move rfl) rfl rfl rfl ?_
              first | refine EL_val (R_move rfl) rfl rfl rfl ?_ | refine EL_not rfl rfl rfl ?_
              first | refine EL_val (R_fieldAddr rfl K.fT46_1) rfl rfl rfl ?_ | refine EL_not rfl rfl rfl ?_
              first | refine EL_val (R_load rfl K.ag3 (f7.h3.cell rfl)) rfl rfl rfl ?_ | refine EL_not rfl rfl rfl ?_
              first | refine EL_val (R_neq_t rfl rfl (by omega)) rfl rfl rfl ?_ | refine EL_val (R_neq_f rfl rfl (by omega)) rfl rfl rfl ?_ | refine EL_not rfl rfl rfl ?_
              first | refine EL_val (R_pick_t rfl rfl) rfl rfl rfl ?_ | refine EL_val (R_pick_f rfl rfl) rfl rfl rfl ?_
              refine EL_val (R_move rfl) rfl rfl rfl ?_
              first | refine EL_val (R_move rfl) rfl rfl rfl ?_ | refine EL_not rfl rfl rfl ?_
              first | refine EL_val (R_fieldAddr rfl K.fT61_1) rfl rfl rfl ?_ | refine EL_not rfl rfl rfl ?_
              first | refine EL_val (R_load rfl K.ag54 (f7.h9.cell rfl)) rfl rfl rfl ?_ | refine EL_not rfl rfl rfl ?_
              first | refine EL_val (R_lenSlice rfl Try.underlying54) rfl rfl rfl ?_ | refine EL_not rfl rfl rfl ?_
              first | refine EL_val (R_neq_t rfl rfl (by omega)) rfl rfl rfl ?_ | refine EL_val (R_neq_f rfl rfl (by omega)) rfl rfl rfl ?_ | refine EL_not rfl rfl rfl ?_
              first | refine EL_val (R_pick_t rfl rfl) rfl rfl rfl ?_ | refine EL_val (R_pick_f rfl rfl) rfl rfl rfl ?_
              refine EL_nil ?_
              refine E_cond_t rfl ?_
              refine E_goto ?_
              refine thenQ_g ?_
              refine toL_g ?_
              exact ⟨rfl, .inr ⟨rfl, [(2, ptr b2), (3, ptr b3), (5, ptr b5), (7, vo), (9, ptr b9), (11, .func (.func 54) #[] #[ptr b2, ptr b3])], ⟨rfl, rfl, rfl, rfl, rfl, rfl, trivial⟩, hstop (findL_none htx) f7⟩⟩
          · have htx : txS Bl a s' = none := by unfold txS; rw [hbg]; show (if s' = s' then _ else none) = none; rw [if_pos rfl, hen]; show (if s2' = s' ∧ n2 = (ks.length : Int) then some ks else none) = none; rw [if_neg (fun h => hq1 h.1)]
            refine E_seq ?_
            refine E_seqR ?_
            refine EL_val (R_fieldAddr rfl K.fT46_1) rfl rfl rfl ?_
            refine EL_val (R_load rfl K.ag3 (fs.h3.cell rfl)) rfl rfl rfl ?_
            first | refine EL_val (R_geq_t rfl rfl (by omega)) rfl rfl rfl ?_ | refine EL_val (R_geq_f rfl rfl (by omega)) rfl rfl rfl ?_
            refine EL_nil ?_
            refine E_cond_f rfl ?_
            refine E_skip ?_
            refine thenQ_n ?_
            refine E_seqR ?_
            refine EL_val (R_move rfl) rfl rfl rfl ?_
            refine EL_step rfl ?_
            refine EO_callv K.bd54 (caps := [ptr b2, ptr b3]) rfl rfl rfl (at_ok (i := 0) fs.h2 fs.h3 (hb.no fs.no) h40 halt (by omega)) ?_
            rintro _ _ ⟨⟨Ak, ck, rfl, hle, hbs⟩, rfl⟩
            refine EL_step rfl ?_
            refine EO_call K.bd57 rfl rfl ((by have := begins_ok hbs hle (by rw [hgd]; omega); unfold beginsP at this; rw [show (a + 0) % 40 = a % 40 from rfl, hbg] at this; exact this)) ?_
            rintro _ w5 ⟨⟨u, rfl, ho5⟩, hm5⟩
            (obtain ⟨Au, cu, rfl, hcu, hspu⟩ := own_sl ho5)
            refine EL_val (R_move rfl) rfl rfl rfl ?_
            refine EL_val (R_extract rfl rfl) rfl rfl rfl ?_
            refine EL_val (R_extract rfl rfl) rfl rfl rfl ?_
            refine EL_step rfl ?_
            refine EO_storeAggB (fs.mv hm5).h9 rfl rfl K.sz61 rfl rfl ?_
            intro w6 hu6
            (have f6 := (fs.mv hm5).setD hu6; have hu := own_upd ho5 hu6 (fs.mv hm5).h9 (by decide))
            refine EL_val (R_assign rfl) rfl rfl rfl ?_
            refine EL_nil ?_
            refine E_seq ?_
            refine E_seqR ?_
            refine EL_val (R_move rfl) rfl rfl rfl ?_
            first | refine EL_val (R_neq_t rfl rfl (by omega)) rfl rfl rfl ?_ | refine EL_val (R_neq_f rfl rfl (by omega)) rfl rfl rfl ?_
            refine EL_val (R_move rfl) rfl rfl rfl ?_
            first | refine EL_val (R_fieldAddr rfl K.fT61_0) rfl rfl rfl ?_ | refine EL_not rfl rfl rfl ?_
            first | refine EL_val (R_load rfl K.ag3 (hu6.bk.cell rfl)) rfl rfl rfl ?_ | refine EL_not rfl rfl rfl ?_
            first | refine EL_val (R_fieldAddr rfl K.fT46_1) rfl rfl rfl ?_ | refine EL_not rfl rfl rfl ?_
            first | refine EL_val (R_load rfl K.ag3 (f6.h3.cell rfl)) rfl rfl rfl ?_ | refine EL_not rfl rfl rfl ?_
            first | refine EL_val (R_neq_t rfl rfl (by omega)) rfl rfl rfl ?_ | refine EL_val (R_neq_f rfl rfl (by omega)) rfl rfl rfl ?_ | refine EL_not rfl rfl rfl ?_
            first | refine EL_val (R_pick_t rfl rfl) rfl rfl rfl ?_ | refine EL_val (R_pick_f rfl rfl) rfl rfl rfl ?_
            refine EL_nil ?_
            refine E_cond_f rfl ?_
            refine E_skip ?_
            refine thenQ_n ?_
            refine E_seq ?_
            refine E_seqR ?_
            refine EL_val (R_move rfl) rfl rfl rfl ?_
            refine EL_val (R_fieldAddr rfl K.fT61_1) rfl rfl rfl ?_
            refine EL_val (R_load rfl K.ag54 (hu6.bk.cell rfl)) rfl rfl rfl ?_
            refine EL_val (R_lenSlice rfl Try.underlying54) rfl rfl rfl ?_
            refine EL_val (R_addE (((ks.length + 1 : Nat) : Int)) rfl rfl (by omega) (by omega) (by omega)) rfl rfl rfl ?_
            refine EL_step rfl ?_
            refine EO_callv K.bd54 (caps := [ptr b2, ptr b3]) rfl rfl rfl (at_ok (i := ks.length + 1) f6.h2 f6.h3 (hb.no f6.no) h40 halt (by omega)) ?_
            rintro _ _ ⟨⟨Ak2, ck2, rfl, hle2, hbs2⟩, rfl⟩
            refine EL_step rfl ?_
            refine EO_call K.bd58 rfl rfl ((by have := ends_ok hbs2 hle2 (by rw [hgd]; omega); rw [hen] at this; exact this)) ?_
            rintro _ w7 ⟨rfl, hm7⟩
            (have f7 := f6.mv hm7)
            refine EL_val (R_move rfl) rfl rfl rfl ?_
            refine EL_val (R_extract rfl rfl) rfl rfl rfl ?_
            refine EL_val (R_extract rfl rfl) rfl rfl rfl ?_
            refine EL_val (R_extract rfl rfl) rfl rfl rfl ?_
            refine EL_val (R_assign rfl) rfl rfl rfl ?_
            refine EL_val (R_assign rfl) rfl rfl rfl ?_
            refine EL_val (R_assign rfl) rfl rfl rfl ?_
            refine EL_nil ?_
            refine E_seqR ?_
            refine EL_val (R_move rfl) rfl rfl rfl ?_
            first | refine EL_val (R_neq_t rfl rfl (by omega)) rfl rfl rfl ?_ | refine EL_val (R_neq_f rfl rfl (by omega)) rfl rfl rfl ?_
            refine EL_val (R_move rfl) rfl rfl rfl ?_
            first | refine EL_val (R_move rfl) rfl rfl rfl ?_ | refine EL_not rfl rfl rfl ?_
            first | refine EL_val (R_fieldAddr rfl K.fT46_1) rfl rfl rfl ?_ | refine EL_not rfl rfl rfl ?_
            first | refine EL_val (R_load rfl K.ag3 (f7.h3.cell rfl)) rfl rfl rfl ?_ | refine EL_not rfl rfl rfl ?_
            first | refine EL_val (R_neq_t rfl rfl (by omega)) rfl rfl rfl ?_ | refine EL_val (R_neq_f rfl rfl (by omega)) rfl rfl rfl ?_ | refine EL_not rfl rfl rfl ?_
            first | refine EL_val (R_pick_t rfl rfl) rfl rfl rfl ?_ | refine EL_val (R_pick_f rfl rfl) rfl rfl rfl ?_
            refine EL_val (R_move rfl) rfl rfl rfl ?_
            first | refine EL_val (R_move rfl) rfl rfl rfl ?_ | refine EL_not rfl rfl rfl ?_
            first | refine EL_val (R_fieldAddr rfl K.fT61_1) rfl rfl rfl ?_ | refine EL_not rfl rfl rfl ?_
            refine EL_not rfl rfl rfl ?_
            refine EL_not rfl rfl rfl ?_
            first | refine EL_val (R_neq_t rfl rfl (by omega)) rfl rfl rfl ?_ | refine EL_val (R_neq_f rfl rfl (by omega)) rfl rfl rfl ?_ | refine EL_not rfl rfl rfl ?_
            first | refine EL_val (R_pick_t rfl rfl) rfl rfl rfl ?_ | refine EL_val (R_pick_f rfl rfl) rfl rfl rfl ?_
            refine EL_nil ?_
            refine E_cond_t rfl ?_
            refine E_goto ?_
            refine thenQ_g ?_
            refine toL_g ?_
            exact ⟨rfl, .inr ⟨rfl, [(2, ptr b2), (3, ptr b3), (5, ptr b5), (7, vo), (9, ptr b9), (11, .func (.func 54) #[] #[ptr b2, ptr b3])], ⟨rfl, rfl, rfl, rfl, rfl, rfl, trivial⟩, hstop (findL_none htx) f7⟩⟩
      · have htx : txS Bl a s = none := by unfold txS; rw [hbg]; simp only [if_neg hse]
        refine E_seq ?_
        refine E_seqR ?_
        refine EL_val (R_fieldAddr rfl K.fT46_1) rfl rfl rfl ?_
        refine EL_val (R_load rfl K.ag3 (fs.h3.cell rfl)) rfl rfl rfl ?_
        first | refine EL_val (R_geq_t rfl rfl (by omega)) rfl rfl rfl ?_ | refine EL_val (R_geq_f rfl rfl (by omega)) rfl rfl rfl ?_
        refine EL_nil ?_
        refine E_cond_f rfl ?_
        refine E_skip ?_
        refine thenQ_n ?_
        refine E_seqR ?_
        refine EL_val (R_move rfl) rfl rfl rfl ?_
        refine EL_step rfl ?_
        refine EO_callv K.bd54 (caps := [ptr b2, ptr b3]) rfl rfl rfl (at_ok (i := 0) fs.h2 fs.h3 (hb.no fs.no) h40 halt (by omega)) ?_
        rintro _ _ ⟨⟨Ak, ck, rfl, hle, hbs⟩, rfl⟩
        refine EL_step rfl ?_
        refine EO_call K.bd57 rfl rfl ((by have := begins_ok hbs hle (by rw [hgd]; omega); unfold beginsP at this; rw [show (a + 0) % 40 = a % 40 from rfl, hbg] at this; exact this)) ?_
        rintro _ w5 ⟨⟨u, rfl, ho5⟩, hm5⟩
        (obtain ⟨Au, cu, rfl, hcu, hspu⟩ := own_sl ho5)
        refine EL_val (R_move rfl) rfl rfl rfl ?_
        refine EL_val (R_extract rfl rfl) rfl rfl rfl ?_
        refine EL_val (R_extract rfl rfl) rfl rfl rfl ?_
        refine EL_step rfl ?_
        refine EO_storeAggB (fs.mv hm5).h9 rfl rfl K.sz61 rfl rfl ?_
        intro w6 hu6
        refine EL_val (R_assign rfl) rfl rfl rfl ?_
        refine EL_nil ?_
        refine E_seq ?_
        refine E_seqR ?_
        refine EL_val (R_move rfl) rfl rfl rfl ?_
        first | refine EL_val (R_neq_t rfl rfl (by omega)) rfl rfl rfl ?_ | refine EL_val (R_neq_f rfl rfl (by omega)) rfl rfl rfl ?_
        refine EL_val (R_move rfl) rfl rfl rfl ?_
        first | refine EL_val (R_fieldAddr rfl K.fT61_0) rfl rfl rfl ?_ | refine EL_not rfl rfl rfl ?_
        first | refine EL_val (R_load rfl K.ag3 (hu6.bk.cell rfl)) rfl rfl rfl ?_ | refine EL_not rfl rfl rfl ?_
        first | refine EL_val (R_fieldAddr rfl K.fT46_1) rfl rfl rfl ?_ | refine EL_not rfl rfl rfl ?_
        first | refine EL_val (R_load rfl K.ag3 ((((fs.mv hm5).setD hu6).h3.cell rfl))) rfl rfl rfl ?_ | refine EL_not rfl rfl rfl ?_
        first | refine EL_val (R_neq_t rfl rfl (by omega)) rfl rfl rfl ?_ | refine EL_val (R_neq_f rfl rfl (by omega)) rfl rfl rfl ?_ | refine EL_not rfl rfl rfl ?_
        first | refine EL_val (R_pick_t rfl rfl) rfl rfl rfl ?_ | refine EL_val (R_pick_f rfl rfl) rfl rfl rfl ?_
        refine EL_nil ?_
        refine E_cond_t rfl ?_
        refine E_goto ?_
        refine thenQ_g ?_
        refine toL_g ?_
        exact ⟨rfl, .inr ⟨rfl, [(2, ptr b2), (3, ptr b3), (5, ptr b5), (7, vo), (9, ptr b9), (11, .func (.func 54) #[] #[ptr b2, ptr b3])], ⟨rfl, rfl, rfl, rfl, rfl, rfl, trivial⟩, hstop (findL_none htx) ((fs.mv hm5).setD hu6)⟩⟩
  · rintro e w4 ⟨a, s, vo, vs, b9, sd, ud, rfl, fs, hT⟩
    have e1 : (findL Bl a0 s0).2.1 = a := by rw [← hT]
    have e2 : (findL Bl a0 s0).2.2 = s := by rw [← hT]
    rw [e1, e2]

    refine E_seqD (fun w' => [(3, fun w'' => w'' = w')]) 5 K.mix rfl ?_
    intro w5 hm5 hh5
    refine EA_pure 0 rfl (fun _ => R_move rfl) (by kernel_rfl) rfl rfl rfl ?_
    refine EA_still 1 [3, 4] rfl (R_loadAgg rfl K.ag46 (whole_cells (hm5.bk' fs.h3)) (K.sz46)) rfl (by kernel_rfl) (by kernel_rfl) rfl rfl rfl ?_
    refine EA_pure 2 rfl (fun _ => R_assign rfl) (by kernel_rfl) rfl rfl rfl ?_
    refine EA_one 3 rfl (by kernel_rfl) rfl ⟨fun _ => rfl, trivial⟩ ?_
    refine EO_storeWhole (hm5.bk' fs.h5) rfl rfl K.sz46 rfl rfl ?_
    intro w6 hu6
    refine EA_pure 4 rfl (fun _ => R_assign rfl) (by kernel_rfl) rfl rfl rfl ?_
    refine EA_done (by kernel_rfl) (Holds.done (by kernel_rfl)) ?_
    refine E_ret ?_
    refine toL_r ?_
    refine ret_tct (.inr rfl) rfl rfl rfl rfl K.ag46 (by exact K.sz46) (whole_cells hu6.bk) ?_
    have f6 := fs.mv hm5
    refine ⟨⟨vo, vs, rfl, by rw [hb2]; exact own_upd f6.own hu6 f6.h5 (by decide), by rw [hb2]; exact f6.txs.mods hu6.mods (fun g C hb e => by subst e; exact absurd (hb.inj f6.h5).2 (by decide)) (fun g C hb e => by subst e; exact absurd (hb.inj f6.h5).2 (by decide))⟩, f6.no.trans' hu6.mods fun k hk e => by have := f6.l5; omega⟩
  · intro fallen

    refine E_seqR ?_
    refine EL_val (R_assign rfl) rfl rfl rfl ?_
    refine EL_nil ?_
    refine E_seqR ?_
    refine EL_val (R_assign rfl) rfl rfl rfl ?_
    refine EL_nil ?_
    refine E_seqR ?_
    refine EL_step rfl ?_
    refine EO_alloc K.zr61 rfl ?_
    intro w4 hn4
    refine EL_nil ?_
    refine E_seqR ?_
    refine EL_val (R_assign rfl) rfl rfl rfl ?_
    refine EL_nil ?_
    refine E_seqR ?_
    refine EL_val (R_makeFunc rfl) rfl rfl rfl ?_
    refine EL_val (R_assign rfl) rfl rfl rfl ?_
    refine EL_nil ?_
    refine E_seq ?_
    refine E_seqR ?_
    refine EL_val (R_loadAgg rfl K.ag46 (whole_cells (hn4.mods.bk' k3)) (K.sz46)) rfl rfl rfl ?_
    refine EL_step rfl ?_
    refine EO_call K.bd39 rfl rfl ((by have := puthead_ok (w := w4) (a := (a0 : Int)) (s := s0); rw [hok] at this; exact this)) ?_
    rintro _ w5 ⟨⟨u, rfl, _⟩, hm5⟩
    refine EL_val (R_move rfl) rfl rfl rfl ?_
    refine EL_val (R_extract rfl rfl) rfl rfl rfl ?_
    refine EL_val (R_extract rfl rfl) rfl rfl rfl ?_
    refine EL_val (R_assign rfl) rfl rfl rfl ?_
    refine EL_val (R_assign rfl) rfl rfl rfl ?_
    refine EL_nil ?_
    refine E_seqR ?_
    refine EL_val (R_move rfl) rfl rfl rfl ?_
    first | refine EL_val (R_neq_t rfl rfl (by omega)) rfl rfl rfl ?_ | refine EL_val (R_neq_f rfl rfl (by omega)) rfl rfl rfl ?_
    refine EL_val (R_move rfl) rfl rfl rfl ?_
    first | refine EL_val (R_load rfl K.ag22 ((hm5.bk' (hn4.mods.bk' k2)).cell rfl)) rfl rfl rfl ?_ | refine EL_not rfl rfl rfl ?_
    first | refine EL_val (R_lenSlice rfl Try.underlying22) rfl rfl rfl ?_ | refine EL_not rfl rfl rfl ?_
    first | refine EL_val (R_neq_t rfl rfl (by omega)) rfl rfl rfl ?_ | refine EL_val (R_neq_f rfl rfl (by omega)) rfl rfl rfl ?_ | refine EL_not rfl rfl rfl ?_
    first | refine EL_val (R_pick_t rfl rfl) rfl rfl rfl ?_ | refine EL_val (R_pick_f rfl rfl) rfl rfl rfl ?_
    refine EL_val (R_move rfl) rfl rfl rfl ?_
    first | refine EL_val (R_load rfl K.ag22 ((hm5.bk' (hn4.mods.bk' k2)).cell rfl)) rfl rfl rfl ?_ | refine EL_not rfl rfl rfl ?_
    refine EL_step rfl ?_
    refine EO_call K.bd55 rfl rfl ((ret_f (containsf_ok ((hb.no hm3).no (hn4.mods.trans hm5))) (by rw [hall]; rfl))) ?_
    rintro _ _ ⟨rfl, rfl⟩
    first | refine EL_val (R_pick_t rfl rfl) rfl rfl rfl ?_ | refine EL_val (R_pick_f rfl rfl) rfl rfl rfl ?_
    refine EL_nil ?_
    refine E_cond_f rfl ?_
    refine E_skip ?_
    refine thenQ_n ?_
    refine E_seq ?_
    refine E_label ?_
    refine thenQ_n ?_
    have hm45 := hn4.mods.trans hm5
    refine E_weaken [(2, ptr b2), (3, ptr b3), (5, ptr b5), (7, .slice none 0 0), (9, ptr w3.heap.size), (11, .func (.func 54) #[] #[ptr b2, ptr b3])] ⟨rfl, rfl, rfl, rfl, rfl, rfl, trivial⟩ (fallen (1073741824 - s0).toNat _ _ ⟨a0, s0, .slice none 0 0, [], [], w3.heap.size, 0, .slice none 0 0, rfl, rfl,
      ⟨hm45.bk' k2, hm45.bk' k3, hm45.bk' k5, hm5.bk' hn4.bk, World.ownsRow_nil _ _ _ _, trivial, hm3.trans hm45, by omega, by omega, by omega, by omega, by omega, ha, h1, h2, by simp; omega⟩, by rw [List.nil_append], rfl⟩)
end Go.Proofs.Ytobhogdndfbniaa
