/- tree.Read, where all is well. -/
import Derived.Test.YtifmdcjncbbcgaaTreeL
set_option linter.unusedVariables false
set_option linter.unusedSimpArgs false
set_option maxRecDepth 100000
namespace Go.Proofs.Ytifmdcjncbbcgaa
open Go.EW Go.RowKit

def flatU (us : Nat → List Int) : Nat → List Int
  | 0 => []
  | i + 1 => flatU us i ++ us i
theorem nzL_length (x : Int) : (nzL x).length ≤ 1 := by unfold nzL; split <;> simp
theorem flatNz_length : ∀ l : List Int, (l.flatMap nzL).length ≤ l.length
  | [] => by simp
  | a :: r => by
    have := nzL_length a
    have := flatNz_length r
    simp only [List.flatMap_cons, List.length_append, List.length_cons]
    omega
theorem flatU_length {us : Nat → List Int} : ∀ i, (∀ j, j < i → (us j).length = 30) → (flatU us i).length = 30 * i
  | 0, _ => rfl
  | i + 1, h => by
    have h1 := flatU_length (us := us) i fun j hj => h j (by omega)
    have h2 := h i (by omega)
    rw [flatU, List.length_append, h1, h2]
    omega
/-- the pointers of a reader go on by what a page held -/
theorem RD.app {w w' : World} {B r : Nat} {A : Option Addr} {c n : Nat} {pv pv' : Value} {ps q : List Int} {ov : Value} {os : List Int} (h : RD w B r A c n pv ps ov os) (hm : Mods (fun i => some i = pv.ownBlock) w w') (ho : OI B w' pv' (ps ++ q)) (hat : pv'.ownBlock = pv.ownBlock ∨ pv'.ownBlock = some w.heap.size) {w'' : World} {X : Value}
    (hu : Upd w' w'' r #[.slice A n c, pv', ov, .bool false] 63) : RD w'' B r A c n pv' (ps ++ q) ov os ∧ Mods (fun i => i = r ∨ some i = pv.ownBlock) w w'' := by
  have hb : Bk w' r #[.slice A n c, pv, ov, .bool false] 63 := hm.bk h.br fun e => by
    obtain ⟨_, cur, hc⟩ := own_blk h.po e.symm
    exact absurd (hc.inj h.br).2 (by decide)
  refine ⟨⟨hu.bk, h.ge, own_upd ho hu hb (by decide), own_upd (hm.own h.oo fun k hk e => h.ne k e.symm hk) hu hb (by decide), fun g hg e => ?_⟩, Mods.trans' (hm.mono fun i _ e => .inr e) hu.mods fun i _ e => .inl e⟩
  rcases hat with h1 | h1
  · rw [h1] at hg; exact h.ne g hg e
  · rw [h1] at hg
    injection hg with hg
    obtain ⟨_, cur, hc⟩ := own_blk h.oo e
    have := hc.lt
    omega
theorem read_ok {w : World} {A : Option Addr} {c : Nat} {L : List (Int × List UInt8)} (hk : RW w w.heap.size A L) (hl : L.length ≤ 9223372036854775807) {ks qs qd T own : List Int} {S Dd : Int} {us : Nat → List Int} (h1 : Pg L S qs) (h2 : Pg L Dd qd) (h3 : ∀ i, i < 30 → Pg L (qd.getD i 0) (us i))
    (hT : T = trimS (partS ks 0 4 ++ qs ++ flatU us 30)) (hown : own = nzL S ++ nzL Dd ++ qd.flatMap nzL) (hp : ptrsB T = true) (hd : Dist (own ++ T)) :
    Ret Try.prog 15 [.agg (nodeC ks S Dd), .slice A L.length c] w fun v w' => (∃ v1 v2, v = .tuple #[v1, v2, .int .i64 0] ∧ OI w.heap.size w' v1 T ∧ OI w.heap.size w' v2 own) ∧ Mods No w w' := by
  obtain ⟨B, hB⟩ : ∃ B, B = w.heap.size := ⟨_, rfl⟩
  have e4 := partS_length ks 0 4
  have l1 := h1.length
  have l2 := h2.length
  rw [← hB] at hk ⊢
  have hold : ∀ {w' : World} {S : Nat → Prop}, Mods S w w' → (∀ i, i < B → ¬ S i) → RW w' B A L := fun hm hS => hk.mods hm hS
  have hRW : ∀ {w' : World}, Mods No w w' → RW w' B A L := fun hm => hk.no hm
  have hclone : ∀ {w' : World} {b : Nat}, Bk w' b (nodeC ks S Dd) 32 → Ret Try.prog 31 [.slice (some ⟨b, 0 + 4, none⟩) 4 4] w' fun v w'' => OI w'.heap.size w'' v (partS ks 0 4) ∧ Mods No w' w'' := fun {w' b} hb => by
    have hIS : IS w' (some ⟨b, 0 + 4, none⟩) (partS ks 0 4) := Src.bk hb (partS ks 0 4).length 1 _ (by simp [ival]) fun j v hj => by
      rw [Nat.zero_add]
      rcases (by have := (List.getElem?_eq_some_iff.1 hj).1; rw [ival_length, e4] at this; omega : j = 0 ∨ j = 1 ∨ j = 2 ∨ j = 3) with rfl | rfl | rfl | rfl <;> exact hj
    have := clone_ok (c := 4) hIS (by omega)
    rw [e4] at this
    exact this
  refine Ret.enter Try.func15 rfl Try.ntmps15 rfl ?_
  simp only [argEnv, Nat.reduceAdd]
  refine E_seqR ?_
  refine EL_step rfl ?_
  refine EO_box rfl rfl ?_
  intro w1 hn1
  refine EL_val (R_assign rfl) rfl rfl rfl ?_
  refine EL_val (R_assign rfl) rfl rfl rfl ?_
  refine EL_val (R_assign rfl) rfl rfl rfl ?_
  refine EL_nil ?_
  refine E_seq ?_
  refine E_seqR ?_
  refine EL_val (R_fieldAddr rfl K.fT32_1) rfl rfl rfl ?_
  refine EL_val (R_load rfl K.ag3 (hn1.bk.cell rfl)) rfl rfl rfl ?_
  first | refine EL_val (R_neq_t rfl rfl (by omega)) rfl rfl rfl ?_ | refine EL_val (R_neq_f rfl rfl (by omega)) rfl rfl rfl ?_
  refine EL_nil ?_
  refine E_cond_f rfl ?_
  refine E_skip ?_
  refine thenQ_n ?_
  refine E_seqR ?_
  refine EL_val (R_move rfl) rfl rfl rfl ?_
  refine EL_val (R_fieldAddr rfl K.fT32_4) rfl rfl rfl ?_
  refine EL_val (R_sliceArr rfl Try.underlying29 K.sz3) rfl rfl rfl ?_
  refine EL_step rfl ?_
  refine EO_call K.bd31 rfl rfl (hclone hn1.bk) ?_
  rintro pv w2 ⟨hpv, hm2⟩
  (obtain ⟨Ap, cp, rfl, _, _⟩ := own_sl hpv)
  refine EL_val (R_build (cells := #[.slice A L.length c, .slice Ap (partS ks 0 4).length cp, .slice none 0 0, .bool false]) K.zr63 K.pl63 rfl rfl) rfl rfl rfl ?_
  refine EL_step rfl ?_
  refine EO_box rfl rfl ?_
  intro w3 hn3
  refine EL_val (R_assign rfl) rfl rfl rfl ?_
  refine EL_nil ?_
  obtain ⟨b2, hb2⟩ : ∃ b2, b2 = w.heap.size := ⟨_, rfl⟩
  obtain ⟨r, hr⟩ : ∃ r, r = w2.heap.size := ⟨_, rfl⟩
  have hs2 : w.heap.size + 1 ≤ w2.heap.size := by have := hn1.size; have := hm2.size; omega
  have k2 : Bk w3 b2 (nodeC ks S Dd) 32 := hb2 ▸ hn3.mods.bk' (hm2.bk' hn1.bk)
  have R3 : RD w3 B r A c L.length (.slice Ap (partS ks 0 4).length cp) (partS ks 0 4) (.slice none 0 0) [] := ⟨hr ▸ hn3.bk, by omega, own_mono (hpv.no hn3.mods) (by have := hn1.size; omega), OI.nil, fun g _ e => by cases e⟩
  have hm03 : Mods No w w3 := (hn1.mods.trans hm2).trans hn3.mods
  obtain ⟨pv, hpve⟩ : ∃ pv : Value, pv = .slice Ap (partS ks 0 4).length cp := ⟨_, rfl⟩
  rw [← hpve] at R3
  rw [← hb2, ← hr]
  clear hn1 hm2 hn3 hpv hr
  have hs3 := hm03.size
  have hso := nzL_length S
  have hdo := nzL_length Dd
  have hnoB : ∀ {w' w'' : World} {Q : Nat → Prop}, Mods No w w' → Mods Q w' w'' → (∀ i, Q i → B ≤ i) → Mods No w w'' := fun h h' hQ => h.trans' h' fun i hi hq => by have := hQ i hq; omega
  have hownB : ∀ {w' : World} {v : Value} {l : List Int}, OI B w' v l → ∀ i, some i = v.ownBlock → B ≤ i := fun ho i e => (own_blk ho e.symm).1
  have pg : ∀ {w' : World} {pv ov : Value} {ps os : List Int} {x : Int} {q : List Int}, RD w' B r A c L.length pv ps ov os → Mods No w w' → os.length ≤ 1000 → Pg L x q →
      Ret Try.prog 32 [ptr r, .int .i64 x] w' fun v w'' => OI w'.heap.size w'' v q ∧ (∃ ov', RD w'' B r A c L.length pv ps ov' (os ++ nzL x) ∧ (∀ g, ov'.ownBlock = some g → ov.ownBlock = some g ∨ w'.heap.size ≤ g) ∧ ∀ g, v.ownBlock = some g → ov'.ownBlock ≠ some g) ∧ Mods (fun i => i = r ∨ some i = ov.ownBlock) w' w'' :=
    fun h hm hos hq => rdpage_ok h (by have := hm.size; omega) (hRW hm) hl hos hq
  have hge := R3.ge
  refine E_seqD (fun _ => [(9, fun W => W.cell? ⟨r, 0 + 1, none⟩ = some pv), (8, fun W => W.cell? ⟨b2, 0 + 8, none⟩ = some (.int .i64 S))]) 13 K.mix rfl ?_
  intro w4 hm4 hh4
  (have R4 := R3.no hm4; have hm04 := hm03.trans hm4; have k4 := hm4.bk' k2)
  refine EA_pure 0 rfl (fun _ => R_move rfl) (by kernel_rfl) rfl rfl rfl ?_
  refine EA_pure 1 rfl (fun _ => R_move rfl) (by kernel_rfl) rfl rfl rfl ?_
  refine EA_pure 2 rfl (fun _ => R_nilCheck rfl) (by kernel_rfl) rfl rfl rfl ?_
  refine EA_pure 3 rfl (fun _ => R_fieldAddr rfl K.fT63_1) (by kernel_rfl) rfl rfl rfl ?_
  refine EA_load 4 0 [9, 10, 11, 12] rfl rfl K.ag22 rfl (by kernel_rfl) (by kernel_rfl) rfl rfl ?_
  refine EA_pure 5 rfl (fun _ => R_move rfl) (by kernel_rfl) rfl rfl rfl ?_
  refine EA_pure 6 rfl (fun _ => R_fieldAddr rfl K.fT32_5) (by kernel_rfl) rfl rfl rfl ?_
  refine EA_load 7 1 [8, 9, 10, 11, 12] rfl rfl K.ag3 rfl (by kernel_rfl) (by kernel_rfl) rfl rfl ?_
  refine EA_one 8 rfl (by kernel_rfl) rfl ⟨fun _ => R4.br.cell rfl, fun _ => k4.cell rfl, trivial⟩ ?_
  refine EO_call K.bd32 rfl rfl (pg R4 hm04 (by simp) h1) ?_
  rintro v5 w5 ⟨hv5, ⟨ov5, R5, _, _⟩, hm5⟩
  (obtain ⟨A5, c5, rfl, _, his5⟩ := hv5.sl; have hm05 := hnoB hm04 hm5 (fun i hi => hi.elim (fun e => e ▸ hge) (hownB R4.oo i)); have hs5 := hm05.size; simp only [List.nil_append] at R5; have k5 : Bk w5 b2 (nodeC ks S Dd) 32 := hm5.bk k4 (fun e => e.elim (fun e => by subst e; exact absurd (k4.inj R4.br).2 (by decide)) (fun e => by obtain ⟨_, cur, hc⟩ := own_blk R4.oo e.symm; exact absurd (hc.inj k4).2 (by decide))))
  refine EA_one 9 rfl (by kernel_rfl) rfl ⟨fun _ => R5.br.cell rfl, kl rfl, trivial⟩ ?_
  refine EO_append rfl rfl Try.underlying22 K.sz3 K.zr3 K.by3 rfl (by decide) R5.po his5 ival_one (by simp only [maxLen]; omega) (by omega) (by omega) rfl ?_
  intro v6 w6 ho6 hm6 hat6
  (obtain ⟨A6, c6, rfl, _, _⟩ := own_sl ho6)
  refine EA_pure 10 rfl (fun _ => R_nilCheck rfl) (by kernel_rfl) rfl rfl rfl ?_
  refine EA_pure 11 rfl (fun _ => R_fieldAddr rfl K.fT63_1) (by kernel_rfl) rfl rfl rfl ?_
  refine EA_one 12 rfl (by kernel_rfl) rfl ⟨kl rfl, kl rfl, trivial⟩ ?_
  refine EO_store1 rfl rfl K.sz22 rfl (hm6.bk R5.br (fun e => by obtain ⟨_, cur, hc⟩ := own_blk R5.po e.symm; exact absurd (hc.inj R5.br).2 (by decide))) (by show 1 < 4; omega) ?_
  intro w7 hu7
  refine EA_done (by kernel_rfl) (Holds.done (by kernel_rfl)) ?_
  refine E_seq ?_
  obtain ⟨R7, hm7⟩ := R5.app (X := .bool false) hm6 (OI.appd ho6) hat6 hu7
  have hm07 := hnoB hm05 hm7 fun i hi => hi.elim (fun e => e ▸ hge) (hownB R5.po i)
  have k7 : Bk w7 b2 (nodeC ks S Dd) 32 := hm7.bk k5 fun e => e.elim (fun e => by subst e; exact absurd (k5.inj R5.br).2 (by decide)) (fun e => by obtain ⟨_, cur, hc⟩ := own_blk R5.po e.symm; exact absurd (hc.inj k5).2 (by decide))
  obtain ⟨pv7, hpv7⟩ : ∃ pv7 : Value, pv7 = .slice A6 ((partS ks 0 4).length + qs.length) c6 := ⟨_, rfl⟩
  have hA6 : RD w7 B r A c L.length pv7 (partS ks 0 4 ++ qs) ov5 (nzL S) := by rw [hpv7]; exact R7
  have hs7 := hm07.size
  clear R3 R5 R7 hm03 hm05 hm4 hm5 hm6 hm7 hu7 ho6 hat6 hv5 his5 k2 k5 hpv7 hpve hs5
  refine E_seqR ?_
  refine EL_val (R_move rfl) rfl rfl rfl ?_
  refine EL_val (R_fieldAddr rfl K.fT32_6) rfl rfl rfl ?_
  refine EL_val (R_load rfl K.ag3 (k7.cell rfl)) rfl rfl rfl ?_
  refine EL_step rfl ?_
  refine EO_call K.bd32 rfl rfl (pg hA6 hm07 (by omega) h2) ?_
  rintro v8 w8 ⟨hv8, ⟨ov8, R8, hov8, hsep8⟩, hm8⟩
  (obtain ⟨A8, c8, rfl, _, _⟩ := hv8.sl)
  refine EL_val (R_lenSlice rfl Try.underlying22) rfl rfl rfl ?_
  refine EL_val (R_move rfl) rfl rfl rfl ?_
  refine EL_nil ?_
  have hm08 := hnoB hm07 hm8 fun i hi => hi.elim (fun e => e ▸ hge) (hownB hA6.oo i)
  have hdv : OI B w8 (.slice A8 qd.length c8) qd := own_mono hv8 (by omega)
  have hsepp : ∀ g, (Value.slice A8 qd.length c8).ownBlock = some g → pv7.ownBlock ≠ some g ∧ ov8.ownBlock ≠ some g := fun g hg => ⟨fun e => by
    obtain ⟨hg1, _⟩ := own_blk hv8 hg
    obtain ⟨_, cur, hc⟩ := own_blk hA6.po e
    have := hc.lt
    omega, hsep8 g hg⟩
  obtain ⟨dv, hdve⟩ : ∃ dv : Value, dv = .slice A8 qd.length c8 := ⟨_, rfl⟩
  rw [← hdve] at hdv hsepp
  clear hv8 hsep8 hov8 hm8
  refine E_cut (fun e0 w' => e0 = [(7, ptr r)] ∧ ∃ pv ov, RD w' B r A c L.length pv (partS ks 0 4 ++ qs ++ flatU us 30) ov own ∧ Mods No w w') ?_ ?_
  · refine E_block ?_
    refine E_loop (fun m' e' w' => ∃ i pv ov, i ≤ 30 ∧ m' = 30 - i ∧ e' = [(7, ptr r), (34, .slice (A8) qd.length c8), (35, .int .i64 (qd.length : Int)), (36, .int .i64 ((i : Nat) : Int))] ∧ RD w' B r A c L.length pv (partS ks 0 4 ++ qs ++ flatU us i) ov (nzL S ++ nzL Dd ++ (qd.take i).flatMap nzL) ∧ OI B w' dv qd ∧ (∀ g, dv.ownBlock = some g → pv.ownBlock ≠ some g ∧ ov.ownBlock ≠ some g) ∧ Mods No w w') 30 [(7, ptr r), (34, .slice (A8) qd.length c8), (35, .int .i64 (qd.length : Int)), (36, .int .i64 ((0 : Nat) : Int))] ⟨rfl, rfl, rfl, rfl, trivial⟩ ⟨0, pv7, ov8, by omega, rfl, rfl, by simpa [flatU] using R8, hdv, hsepp, hm08⟩ ?_
    clear R8 hdv hsepp hm08
    rintro m' e w1 ⟨i, pv, ov, hi, rfl, rfl, R1, hdv, hsepp, hm1⟩
    have hs1 := hm1.size
    by_cases hlt : i < 30
    · have hil : i < qd.length := by omega
      have hto : (qd.take (i + 1)).flatMap nzL = (qd.take i).flatMap nzL ++ nzL qd[i] := by rw [List.take_succ_eq_append_getElem hil, List.flatMap_append, List.flatMap_cons, List.flatMap_nil, List.append_nil]
      have hfn := flatNz_length (qd.take i)
      have htl : (qd.take i).length ≤ 30 := by simp; omega
      have hui := h3 i hlt
      rw [List.getD_eq_getElem?_getD, List.getElem?_eq_getElem hil, Option.getD_some] at hui
      have hul := hui.length
      have hfu := flatU_length (us := us) i fun j hj => (h3 j (by omega)).length
      have hdc : ∃ g o, A8 = some ⟨g, o, none⟩ ∧ w1.cell? ⟨g, o + i, none⟩ = some (.int .i64 qd[i]) := by rw [hdve] at hdv; exact (OI.is hdv).cell hil
      obtain ⟨g8, o8, rfl, hdc⟩ := hdc

      refine E_seqR ?_
      first | refine EL_val (R_lss_t rfl rfl (by omega)) rfl rfl rfl ?_ | refine EL_val (R_lss_f rfl rfl (by omega)) rfl rfl rfl ?_
      refine EL_nil ?_
      refine E_seq ?_
      refine E_cond_t rfl ?_
      refine E_skip ?_
      refine thenQ_n ?_
      refine E_seq ?_
      refine E_block ?_
      refine E_seqR ?_
      refine EL_val (R_indexAddr rfl rfl Try.underlying22 K.sz3 (m := i) rfl hil) rfl rfl rfl ?_
      refine EL_val (R_load rfl K.ag3 ((by rw [Nat.mul_one]; exact hdc))) rfl rfl rfl ?_
      refine EL_val (R_assign rfl) rfl rfl rfl ?_
      refine EL_nil ?_
      refine E_regionD (fun _ => [(8, fun W => W.cell? ⟨r, 0 + 1, none⟩ = some pv)]) 12 K.mix rfl ?_
      intro w2 hm2 hh2
      (have R2 := R1.no hm2; have hm02 := hm1.trans hm2; have hdv2 := hdv.no hm2)
      refine EA_pure 0 rfl (fun _ => R_move rfl) (by kernel_rfl) rfl rfl rfl ?_
      refine EA_pure 1 rfl (fun _ => R_move rfl) (by kernel_rfl) rfl rfl rfl ?_
      refine EA_pure 2 rfl (fun _ => R_nilCheck rfl) (by kernel_rfl) rfl rfl rfl ?_
      refine EA_pure 3 rfl (fun _ => R_fieldAddr rfl K.fT63_1) (by kernel_rfl) rfl rfl rfl ?_
      refine EA_load 4 0 [8, 9, 10, 11] rfl rfl K.ag22 rfl (by kernel_rfl) (by kernel_rfl) rfl rfl ?_
      refine EA_pure 5 rfl (fun _ => R_move rfl) (by kernel_rfl) rfl rfl rfl ?_
      refine EA_pure 6 rfl (fun _ => R_move rfl) (by kernel_rfl) rfl rfl rfl ?_
      refine EA_one 7 rfl (by kernel_rfl) rfl ⟨fun _ => R2.br.cell rfl, trivial⟩ ?_
      refine EO_call K.bd32 rfl rfl (pg R2 hm02 (by simp only [List.length_append]; omega) hui) ?_
      rintro v3 w3 ⟨hv3, ⟨ov3, R3, hov3, _⟩, hm3⟩
      (obtain ⟨A5, c5, rfl, _, his5⟩ := hv3.sl; have hm03 := hnoB hm02 hm3 (fun i hi => hi.elim (fun e => e ▸ hge) (hownB R2.oo i)); have hs3 := hm03.size; have hs23 := hm3.size;  have hdv3 : OI B w3 dv qd := hdv2.mods hm3 (fun g hg e => e.elim (fun e => (by obtain ⟨_, cur, hc⟩ := own_blk hdv2 hg; subst e; exact absurd (hc.inj R2.br).2 (by decide))) (fun e => (hsepp g hg).2 e.symm)))
      refine EA_one 8 rfl (by kernel_rfl) rfl ⟨fun _ => R3.br.cell rfl, trivial⟩ ?_
      refine EO_append rfl rfl Try.underlying22 K.sz3 K.zr3 K.by3 rfl (by decide) R3.po his5 ival_one (by simp only [maxLen, List.length_append]; omega) (by simp only [List.length_append]; omega) (by omega) rfl ?_
      intro v4 w4 ho4 hm4 hat4
      (obtain ⟨A6, c6, rfl, _, _⟩ := own_sl ho4)
      refine EA_pure 9 rfl (fun _ => R_nilCheck rfl) (by kernel_rfl) rfl rfl rfl ?_
      refine EA_pure 10 rfl (fun _ => R_fieldAddr rfl K.fT63_1) (by kernel_rfl) rfl rfl rfl ?_
      refine EA_one 11 rfl (by kernel_rfl) rfl ⟨kl rfl, trivial⟩ ?_
      refine EO_store1 rfl rfl K.sz22 rfl (hm4.bk R3.br (fun e => by obtain ⟨_, cur, hc⟩ := own_blk R3.po e.symm; exact absurd (hc.inj R3.br).2 (by decide))) (by show 1 < 4; omega) ?_
      intro w5 hu5
      refine EA_done (by kernel_rfl) (Holds.done (by kernel_rfl)) ?_
      refine inB_n ?_
      refine thenQ_n ?_
      refine E_region ?_
      first | refine EL_val (R_inc rfl (by omega)) rfl rfl rfl ?_ | refine EL_val (R_add_in rfl rfl (by omega) (by omega)) rfl rfl rfl ?_
      refine EL_val (R_move rfl) rfl rfl rfl ?_
      refine EL_nil ?_
      refine thenQ_n ?_
      obtain ⟨R5, hm5⟩ := R3.app (X := .bool false) hm4 (OI.appd ho4) hat4 hu5
      obtain ⟨pv5, R5, hat4⟩ : ∃ pv5, RD w5 B r A c L.length pv5 (partS ks 0 4 ++ qs ++ flatU us i ++ us i) ov3 (nzL S ++ nzL Dd ++ (qd.take i).flatMap nzL ++ nzL qd[i]) ∧ (pv5.ownBlock = pv.ownBlock ∨ pv5.ownBlock = some w3.heap.size) := ⟨_, R5, hat4⟩
      have hm05 := hnoB hm03 hm5 fun i hi => hi.elim (fun e => e ▸ hge) (hownB R3.po i)
      have hdv5 : OI B w5 dv qd := hdv3.mods hm5 fun g hg e => e.elim (fun e => by obtain ⟨_, cur, hc⟩ := own_blk hdv3 hg; subst e; exact absurd (hc.inj R3.br).2 (by decide)) (fun e => (hsepp g hg).1 e.symm)
      refine ⟨rfl, 30 - (i + 1), [(7, ptr r), (34, .slice (some ⟨g8, o8, none⟩) qd.length c8), (35, .int .i64 (qd.length : Int)), (36, .int .i64 ((i + 1 : Nat) : Int))], by omega, ⟨rfl, rfl, rfl, rfl, trivial⟩, i + 1, pv5, ov3, by omega, rfl, rfl, ?_, hdv5, fun g hg => ⟨fun e => ?_, fun e => ?_⟩, hm05⟩
      · rw [hto, flatU]
        simp only [← List.append_assoc] at R5 ⊢
        exact R5
      · rcases hat4 with h1 | h1
        · rw [h1] at e; exact (hsepp g hg).1 e
        · rw [h1] at e
          injection e with e
          obtain ⟨_, cur, hc⟩ := own_blk hdv2 hg
          have := hc.lt
          omega
      · rcases hov3 g e with h1 | h1
        · exact (hsepp g hg).2 h1
        · obtain ⟨_, cur, hc⟩ := own_blk hdv2 hg
          have := hc.lt
          omega
    · have hi' : i = 30 := by omega
      subst hi'

      refine E_seqR ?_
      first | refine EL_val (R_lss_t rfl rfl (by omega)) rfl rfl rfl ?_ | refine EL_val (R_lss_f rfl rfl (by omega)) rfl rfl rfl ?_
      refine EL_nil ?_
      refine E_seq ?_
      refine E_cond_f rfl ?_
      refine E_exit ?_
      refine thenQ_e ?_
      refine thenQ_e ?_
      refine inB_eq rfl ?_
      refine thenQ_n ?_
      refine ⟨rfl, [(7, ptr r)], ⟨rfl, trivial⟩, rfl, pv, ov, ?_, hm1⟩
      rw [hown, show qd.take 30 = qd from List.take_of_length_le (by omega)] at *
      exact R1
  clear R8 hdv hsepp hm08 hA6 k7 hm07 hs7 hs3
  rintro e0 w1 ⟨rfl, pv, ov, R1, hm1⟩
  have hs1 := hm1.size
  have hfu := flatU_length (us := us) 30 fun j hj => (h3 j hj).length
  obtain ⟨ps, hps⟩ : ∃ ps, ps = partS ks 0 4 ++ qs ++ flatU us 30 := ⟨_, rfl⟩
  rw [← hps] at R1 hT
  have hpl : ps.length ≤ 1000 := by rw [hps]; simp only [List.length_append]; omega
  have hol : own.length ≤ 1000 := by
    have := flatNz_length qd
    rw [hown]; simp only [List.length_append]; omega
  have h96 : T.length ≤ 96 := by unfold ptrsB at hp; simp at hp; exact hp.2
  have hpo := R1.po
  obtain ⟨A1, c1, rfl, hc1, hspot⟩ := own_sl hpo
  have hoo := R1.oo
  obtain ⟨Ao, co, rfl, _, hio⟩ := hoo.sl
  have htr := trim_ok hspot (OI.is hpo) hc1 (by omega)
  rw [← hT] at htr

  refine E_seqR ?_
  refine EL_val (R_move rfl) rfl rfl rfl ?_
  refine EL_val (R_move rfl) rfl rfl rfl ?_
  refine EL_val (R_nilCheck rfl) rfl rfl rfl ?_
  refine EL_val (R_fieldAddr rfl K.fT63_1) rfl rfl rfl ?_
  refine EL_val (R_load rfl K.ag22 (R1.br.cell rfl)) rfl rfl rfl ?_
  refine EL_step rfl ?_
  refine EO_call K.bd33 rfl rfl (htr) ?_
  rintro v2 w2 ⟨ho2, hm2⟩
  (obtain ⟨A2, c2, rfl, _, _⟩ := ho2.sl)
  refine EL_val (R_nilCheck rfl) rfl rfl rfl ?_
  refine EL_val (R_fieldAddr rfl K.fT63_1) rfl rfl rfl ?_
  refine EL_step rfl ?_
  refine EO_store1 rfl rfl K.sz22 rfl (hm2.bk' R1.br) (by show 1 < 4; omega) ?_
  intro w3 hu3
  refine EL_nil ?_
  refine E_seq ?_
  have hu3' : Upd w2 w3 r #[.slice A L.length c, .slice A2 T.length c2, .slice Ao own.length co, .bool false] 63 := hu3
  have hb3 := hu3'.bk
  have ho3 : OI B w3 (.slice A2 T.length c2) T := own_upd (own_mono ho2 (by omega)) hu3' (hm2.bk' R1.br) (by decide)
  have hoo3 : OI B w3 (.slice Ao own.length co) own := own_upd (hoo.no hm2) hu3' (hm2.bk' R1.br) (by decide)
  have hm03 : Mods No w w3 := hnoB (hm1.trans hm2) hu3'.mods fun i hi => hi ▸ hge
  clear hu3 hu3' ho2 hm2 R1 hpo hoo hio hm1
  have hptr : ∀ {w' : World}, Mods No w3 w' → Ret Try.prog 18 [.slice A2 T.length c2] w' fun v w'' => v = .bool true ∧ Mods No w' w'' := fun h => by
    have := pointers_ok (c := c2) (OI.is (ho3.no h)) (by omega)
    rw [hp] at this
    exact this
  have hap : ∀ {w' : World}, Mods No w3 w' → Ret Try.prog 34 [.slice Ao own.length co, .slice A2 T.length c2] w' fun v w'' => v = .bool true ∧ Mods No w' w'' := fun h => tapart_ok (OI.is (hoo3.no h)) (OI.is (ho3.no h)) (by omega) hd
  refine E_seqD (fun _ => [(9, fun W => W.cell? ⟨r, 0 + 3, none⟩ = some (.bool false)), (9, fun W => W.cell? ⟨r, 0 + 1, none⟩ = some (.slice A2 T.length c2)), (21, fun W => W.cell? ⟨r, 0 + 2, none⟩ = some (.slice Ao own.length co)), (21, fun W => W.cell? ⟨r, 0 + 1, none⟩ = some (.slice A2 T.length c2))]) 24 K.mix rfl ?_
  intro w4 hm4 hh4
  (have hb4 := hm4.bk' hb3)
  refine EA_pure 0 rfl (fun _ => R_move rfl) (by kernel_rfl) rfl rfl rfl ?_
  refine EA_pure 1 rfl (fun _ => R_nilCheck rfl) (by kernel_rfl) rfl rfl rfl ?_
  refine EA_pure 2 rfl (fun _ => R_fieldAddr rfl K.fT63_3) (by kernel_rfl) rfl rfl rfl ?_
  refine EA_load 3 0 [4, 5, 6, 7, 8, 9, 10, 11, 12, 13, 14, 15, 16, 17, 18, 19, 20, 21, 22, 23] rfl rfl K.ag4 rfl (by kernel_rfl) (by kernel_rfl) rfl rfl ?_
  refine EA_pure 4 rfl (fun _ => R_move rfl) (by kernel_rfl) rfl rfl rfl ?_
  first | refine EA_pure 5 rfl (fun _ => R_move rfl) (by kernel_rfl) rfl rfl rfl ?_ | refine EA_not 5 rfl (by kernel_rfl) rfl rfl rfl ?_
  first | refine EA_pure 6 rfl (fun _ => R_nilCheck rfl) (by kernel_rfl) rfl rfl rfl ?_ | refine EA_not 6 rfl (by kernel_rfl) rfl rfl rfl ?_
  first | refine EA_pure 7 rfl (fun _ => R_fieldAddr rfl K.fT63_1) (by kernel_rfl) rfl rfl rfl ?_ | refine EA_not 7 rfl (by kernel_rfl) rfl rfl rfl ?_
  refine EA_load 8 1 [9, 10, 11, 12, 13, 14, 15, 16, 17, 18, 19, 20, 21, 22, 23] rfl rfl K.ag22 rfl (by kernel_rfl) (by kernel_rfl) rfl rfl ?_
  refine EA_one 9 rfl (by kernel_rfl) rfl ⟨fun _ => hb4.cell rfl, fun _ => hb4.cell rfl, fun _ => hb4.cell rfl, fun _ => hb4.cell rfl, trivial⟩ ?_
  refine EO_call K.bd18 rfl rfl (hptr hm4) ?_
  rintro _ w5 ⟨rfl, hm5⟩
  first | refine EA_pure 10 rfl (fun _ => R_not rfl) (by kernel_rfl) rfl rfl rfl ?_ | refine EA_not 10 rfl (by kernel_rfl) rfl rfl rfl ?_
  first | refine EA_pure 11 rfl (fun _ => R_pick_t rfl rfl) (by kernel_rfl) rfl rfl rfl ?_ | refine EA_pure 11 rfl (fun _ => R_pick_f rfl rfl) (by kernel_rfl) rfl rfl rfl ?_
  refine EA_pure 12 rfl (fun _ => R_move rfl) (by kernel_rfl) rfl rfl rfl ?_
  first | refine EA_pure 13 rfl (fun _ => R_move rfl) (by kernel_rfl) rfl rfl rfl ?_ | refine EA_not 13 rfl (by kernel_rfl) rfl rfl rfl ?_
  first | refine EA_pure 14 rfl (fun _ => R_nilCheck rfl) (by kernel_rfl) rfl rfl rfl ?_ | refine EA_not 14 rfl (by kernel_rfl) rfl rfl rfl ?_
  first | refine EA_pure 15 rfl (fun _ => R_fieldAddr rfl K.fT63_2) (by kernel_rfl) rfl rfl rfl ?_ | refine EA_not 15 rfl (by kernel_rfl) rfl rfl rfl ?_
  refine EA_load 16 2 [21, 22, 23] rfl rfl K.ag22 rfl (by kernel_rfl) (by kernel_rfl) rfl rfl ?_
  first | refine EA_pure 17 rfl (fun _ => R_move rfl) (by kernel_rfl) rfl rfl rfl ?_ | refine EA_not 17 rfl (by kernel_rfl) rfl rfl rfl ?_
  first | refine EA_pure 18 rfl (fun _ => R_nilCheck rfl) (by kernel_rfl) rfl rfl rfl ?_ | refine EA_not 18 rfl (by kernel_rfl) rfl rfl rfl ?_
  first | refine EA_pure 19 rfl (fun _ => R_fieldAddr rfl K.fT63_1) (by kernel_rfl) rfl rfl rfl ?_ | refine EA_not 19 rfl (by kernel_rfl) rfl rfl rfl ?_
  refine EA_load 20 3 [21, 22, 23] rfl rfl K.ag22 rfl (by kernel_rfl) (by kernel_rfl) rfl rfl ?_
  refine EA_one 21 rfl (by kernel_rfl) rfl ⟨kl rfl, kl rfl, fun _ => (hm5.bk' hb4).cell rfl, fun _ => (hm5.bk' hb4).cell rfl, trivial⟩ ?_
  refine EO_call K.bd34 rfl rfl (hap (hm4.trans hm5)) ?_
  rintro _ w6 ⟨rfl, hm6⟩
  first | refine EA_pure 22 rfl (fun _ => R_not rfl) (by kernel_rfl) rfl rfl rfl ?_ | refine EA_not 22 rfl (by kernel_rfl) rfl rfl rfl ?_
  first | refine EA_pure 23 rfl (fun _ => R_pick_t rfl rfl) (by kernel_rfl) rfl rfl rfl ?_ | refine EA_pure 23 rfl (fun _ => R_pick_f rfl rfl) (by kernel_rfl) rfl rfl rfl ?_
  refine EA_done (by kernel_rfl) (Holds.done (by kernel_rfl)) ?_
  refine E_cond_f rfl ?_
  refine E_skip ?_
  refine thenQ_n ?_
  have hm36 : Mods No w3 w6 := (hm4.trans hm5).trans hm6
  have hb6 := hm36.bk' hb3
  refine E_seqD (fun w' => [(1000, fun w'' => w'' = w')]) 11 K.mix rfl ?_
  intro w7 hm7 hh7
  refine EA_pure 0 rfl (fun _ => R_move rfl) (by kernel_rfl) rfl rfl rfl ?_
  refine EA_pure 1 rfl (fun _ => R_nilCheck rfl) (by kernel_rfl) rfl rfl rfl ?_
  refine EA_pure 2 rfl (fun _ => R_fieldAddr rfl K.fT63_1) (by kernel_rfl) rfl rfl rfl ?_
  refine EA_still 3 [1000] rfl (R_load rfl K.ag22 ((hm7.bk' hb6).cell rfl)) rfl (by kernel_rfl) (by kernel_rfl) rfl rfl rfl ?_
  refine EA_pure 4 rfl (fun _ => R_move rfl) (by kernel_rfl) rfl rfl rfl ?_
  refine EA_pure 5 rfl (fun _ => R_nilCheck rfl) (by kernel_rfl) rfl rfl rfl ?_
  refine EA_pure 6 rfl (fun _ => R_fieldAddr rfl K.fT63_2) (by kernel_rfl) rfl rfl rfl ?_
  refine EA_still 7 [1000] rfl (R_load rfl K.ag22 ((hm7.bk' hb6).cell rfl)) rfl (by kernel_rfl) (by kernel_rfl) rfl rfl rfl ?_
  refine EA_pure 8 rfl (fun _ => R_assign rfl) (by kernel_rfl) rfl rfl rfl ?_
  refine EA_pure 9 rfl (fun _ => R_assign rfl) (by kernel_rfl) rfl rfl rfl ?_
  refine EA_pure 10 rfl (fun _ => R_assign rfl) (by kernel_rfl) rfl rfl rfl ?_
  refine EA_done (by kernel_rfl) ⟨fun _ => rfl, trivial⟩ ?_
  refine E_ret ?_
  refine ret3 (.inr rfl) rfl rfl rfl rfl ?_
  exact ⟨⟨_, _, rfl, ho3.no (hm36.trans hm7), hoo3.no (hm36.trans hm7)⟩, hm03.trans (hm36.trans hm7)⟩
end Go.Proofs.Ytifmdcjncbbcgaa
