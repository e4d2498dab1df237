/- Heads as blocks (package super). -/
import Derived.Test.YtobhogdndfbniaaPage
set_option linter.unusedVariables false
set_option linter.unusedSimpArgs false
set_option maxRecDepth 100000
namespace Go.Proofs.Ytobhogdndfbniaa
open Go.EW Go.RowKit

theorem OB.mono {B base : Nat} {w : World} {v : Value} {l : List UInt8} (h : OB base w v l) (hB : B ≤ base) : OB B w v l := by
  refine ⟨h.1, ?_⟩
  rcases h.2 with hh | ⟨g, cap, cur, hv, hb, rest⟩
  · exact .inl hh
  · exact .inr ⟨g, cap, cur, hv, by omega, rest⟩
theorem PageAt.mono {B base : Nat} {w : World} {p : Nat} {l : List UInt8} (h : PageAt base w p l) (hB : B ≤ base) : PageAt B w p l := by
  obtain ⟨v, h1, h2, h3, h4⟩ := h
  exact ⟨v, h1, by omega, h3.mono hB, h4⟩
theorem isNew {w w' : World} {x : Int} (hn : New w w' (.cells (Value.int .i64 x).cells 3)) : IS w' (some ⟨w.heap.size, 0, none⟩) [x] :=
  Src.bk hn.bk 1 1 [.int .i64 x] rfl fun q u hq => by
    rw [Nat.zero_add]
    show (#[.int .i64 x] : Array Value)[q]? = some u
    simpa using hq
theorem offBk {w : World} {T : TypeId → Prop} {B g i : Nat} {C : Array Value} {t : TypeId} (hb : Bk w g C t) (ht : ¬ T t) : Off T B w (some ⟨g, i, none⟩) := fun g' i' h => by
  injection h with h
  injection h with h1 h2 _
  subst h1
  exact ⟨hb.lt, fun ⟨_, C', t', hb', ht'⟩ => ht (by rw [(hb.inj hb').2]; exact ht')⟩
theorem offNew {w w' : World} {x : Int} {B : Nat} (hn : New w w' (.cells (Value.int .i64 x).cells 3)) : Off U8 B w' (some ⟨w.heap.size, 0, none⟩) := offBk hn.bk (by decide)
theorem in_ok {w : World} {a b c : Int} : Ret Try.prog 50 [.int .i64 a, .int .i64 b, .int .i64 c] w fun v w' => v = .bool (decide (b ≤ a ∧ a ≤ c)) ∧ w = w' := by
  by_cases h : b ≤ a
  · by_cases h2 : a ≤ c
    · refine Ret.enter Try.func50 rfl Try.ntmps50 rfl ?_
      simp only [argEnv, Nat.reduceAdd]
      refine E_seqR ?_
      refine EL_val (R_assign rfl) rfl rfl rfl ?_
      refine EL_nil ?_
      refine E_seqR ?_
      refine EL_val (R_move rfl) rfl rfl rfl ?_
      refine EL_val (R_move rfl) rfl rfl rfl ?_
      first | refine EL_val (R_geq_t rfl rfl (by omega)) rfl rfl rfl ?_ | refine EL_val (R_geq_f rfl rfl (by omega)) rfl rfl rfl ?_
      refine EL_val (R_move rfl) rfl rfl rfl ?_
      first | refine EL_val (R_move rfl) rfl rfl rfl ?_ | refine EL_not rfl rfl rfl ?_
      first | refine EL_val (R_move rfl) rfl rfl rfl ?_ | refine EL_not rfl rfl rfl ?_
      first | refine EL_val (R_leq_t rfl rfl (by omega)) rfl rfl rfl ?_ | refine EL_val (R_leq_f rfl rfl (by omega)) rfl rfl rfl ?_ | refine EL_not rfl rfl rfl ?_
      first | refine EL_val (R_pick_t rfl rfl) rfl rfl rfl ?_ | refine EL_val (R_pick_f rfl rfl) rfl rfl rfl ?_
      refine EL_val (R_assign rfl) rfl rfl rfl ?_
      refine EL_nil ?_
      refine E_ret ?_
      refine ret1 (.inr rfl) rfl rfl ?_
      exact ⟨by simp [h, h2], rfl⟩
    · refine Ret.enter Try.func50 rfl Try.ntmps50 rfl ?_
      simp only [argEnv, Nat.reduceAdd]
      refine E_seqR ?_
      refine EL_val (R_assign rfl) rfl rfl rfl ?_
      refine EL_nil ?_
      refine E_seqR ?_
      refine EL_val (R_move rfl) rfl rfl rfl ?_
      refine EL_val (R_move rfl) rfl rfl rfl ?_
      first | refine EL_val (R_geq_t rfl rfl (by omega)) rfl rfl rfl ?_ | refine EL_val (R_geq_f rfl rfl (by omega)) rfl rfl rfl ?_
      refine EL_val (R_move rfl) rfl rfl rfl ?_
      first | refine EL_val (R_move rfl) rfl rfl rfl ?_ | refine EL_not rfl rfl rfl ?_
      first | refine EL_val (R_move rfl) rfl rfl rfl ?_ | refine EL_not rfl rfl rfl ?_
      first | refine EL_val (R_leq_t rfl rfl (by omega)) rfl rfl rfl ?_ | refine EL_val (R_leq_f rfl rfl (by omega)) rfl rfl rfl ?_ | refine EL_not rfl rfl rfl ?_
      first | refine EL_val (R_pick_t rfl rfl) rfl rfl rfl ?_ | refine EL_val (R_pick_f rfl rfl) rfl rfl rfl ?_
      refine EL_val (R_assign rfl) rfl rfl rfl ?_
      refine EL_nil ?_
      refine E_ret ?_
      refine ret1 (.inr rfl) rfl rfl ?_
      exact ⟨by simp [h, h2], rfl⟩
  · refine Ret.enter Try.func50 rfl Try.ntmps50 rfl ?_
    simp only [argEnv, Nat.reduceAdd]
    refine E_seqR ?_
    refine EL_val (R_assign rfl) rfl rfl rfl ?_
    refine EL_nil ?_
    refine E_seqR ?_
    refine EL_val (R_move rfl) rfl rfl rfl ?_
    refine EL_val (R_move rfl) rfl rfl rfl ?_
    first | refine EL_val (R_geq_t rfl rfl (by omega)) rfl rfl rfl ?_ | refine EL_val (R_geq_f rfl rfl (by omega)) rfl rfl rfl ?_
    refine EL_val (R_move rfl) rfl rfl rfl ?_
    refine EL_not rfl rfl rfl ?_
    refine EL_not rfl rfl rfl ?_
    refine EL_not rfl rfl rfl ?_
    first | refine EL_val (R_pick_t rfl rfl) rfl rfl rfl ?_ | refine EL_val (R_pick_f rfl rfl) rfl rfl rfl ?_
    refine EL_val (R_assign rfl) rfl rfl rfl ?_
    refine EL_nil ?_
    refine E_ret ?_
    refine ret1 (.inr rfl) rfl rfl ?_
    exact ⟨by simp [h], rfl⟩
theorem in_t {w : World} {a b c : Int} (h : b ≤ a ∧ a ≤ c) : Ret Try.prog 50 [.int .i64 a, .int .i64 b, .int .i64 c] w fun v w' => v = .bool true ∧ w = w' := by
  have := in_ok (w := w) (a := a) (b := b) (c := c)
  rwa [decide_eq_true h] at this
theorem in_f {w : World} {a b c : Int} (h : ¬ (b ≤ a ∧ a ≤ c)) : Ret Try.prog 50 [.int .i64 a, .int .i64 b, .int .i64 c] w fun v w' => v = .bool false ∧ w = w' := by
  have := in_ok (w := w) (a := a) (b := b) (c := c)
  rwa [decide_eq_false h] at this
/-- a head as a block -/
def headB (at_ seq : Int) : List UInt8 := sealS (setS (setS ([72, 69, 65, 68] ++ zerosB 60) 4 1 [at_]) 8 4 [seq])
def headOk (at_ seq : Int) : Bool := decide (0 ≤ at_ ∧ at_ ≤ 39) && decide (1 ≤ seq ∧ seq ≤ 1073741824)
set_option maxHeartbeats 1000000 in
theorem puthead_ok {w : World} {a s : Int} :
    Ret Try.prog 39 [.agg #[.int .i64 a, .int .i64 s]] w fun v w' => (if headOk a s then ∃ u, v = .tuple #[u, .int .i64 0] ∧ OB w.heap.size w' u (headB a s) else v = .tuple #[.slice none 0 0, .int .i64 2]) ∧ Mods No w w' := by
  by_cases h1 : 0 ≤ a ∧ a ≤ 39
  · by_cases h2 : 1 ≤ s ∧ s ≤ 1073741824
    · have hok : headOk a s = true := by simp [headOk, h1, h2]
      obtain ⟨B, hB⟩ : ∃ B, B = w.heap.size := ⟨_, rfl⟩
      refine Ret.enter Try.func39 rfl Try.ntmps39 rfl ?_
      simp only [argEnv, Nat.reduceAdd]
      refine E_seqR ?_
      refine EL_step rfl ?_
      refine EO_box rfl rfl ?_
      intro w1 hn1
      refine EL_val (R_assign rfl) rfl rfl rfl ?_
      refine EL_val (R_assign rfl) rfl rfl rfl ?_
      refine EL_nil ?_
      refine E_seq ?_
      refine E_seqR ?_
      refine EL_val (R_fieldAddr rfl K.fT46_0) rfl rfl rfl ?_
      refine EL_val (R_load rfl K.ag3 (hn1.bk.cell rfl)) rfl rfl rfl ?_
      refine EL_step rfl ?_
      refine EO_call K.bd50 rfl rfl (in_t h1) ?_
      rintro _ _ ⟨rfl, rfl⟩
      refine EL_val (R_not rfl) rfl rfl rfl ?_
      refine EL_val (R_move rfl) rfl rfl rfl ?_
      first | refine EL_val (R_fieldAddr rfl K.fT46_1) rfl rfl rfl ?_ | refine EL_not rfl rfl rfl ?_
      first | refine EL_val (R_load rfl K.ag3 (hn1.bk.cell rfl)) rfl rfl rfl ?_ | refine EL_not rfl rfl rfl ?_
      refine EL_step rfl ?_
      refine EO_call K.bd50 rfl rfl (in_t h2) ?_
      rintro _ _ ⟨rfl, rfl⟩
      first | refine EL_val (R_not rfl) rfl rfl rfl ?_ | refine EL_not rfl rfl rfl ?_
      first | refine EL_val (R_pick_t rfl rfl) rfl rfl rfl ?_ | refine EL_val (R_pick_f rfl rfl) rfl rfl rfl ?_
      refine EL_nil ?_
      refine E_cond_f rfl ?_
      refine E_skip ?_
      refine thenQ_n ?_
      obtain ⟨bx, hbx⟩ : ∃ bx, bx = w.heap.size := ⟨_, rfl⟩
      have hX := hn1.bk
      rw [← hbx] at hX ⊢
      have hS : B ≤ w1.heap.size := by have := hn1.size; omega
      have hW : TM U8 B w w1 := TM.of_no hn1.mods
      refine E_seqD (fun _ => [(9, fun W => W.cell? ⟨bx, 0 + 0, none⟩ = some (.int .i64 a)), (9, fun W => W.cell? ⟨bx, 0 + 1, none⟩ = some (.int .i64 s))]) 12 K.mix rfl ?_
      intro wc hm0 hh0
      (have hm := TM.of_no (T := U8) (B := B) hm0; (try have hI1 := hI1.tm hO1 hm); (try have hO1 := hO1.tm hm); (try have hI2 := hI2.tm hO2 hm); (try have hO2 := hO2.tm hm); have hX := TM.bk hm hX (by decide); have hS := Nat.le_trans hS hm.size; have hW := hW.trans hm)
      refine EA_pure 1 rfl (fun _ => R_fieldAddr rfl K.fT46_0) (by kernel_rfl) rfl rfl rfl ?_
      refine EA_load 2 0 [3, 4, 8, 9, 10, 11] rfl rfl K.ag3 rfl (by kernel_rfl) (by kernel_rfl) rfl rfl ?_
      refine EA_pure 5 rfl (fun _ => R_fieldAddr rfl K.fT46_1) (by kernel_rfl) rfl rfl rfl ?_
      refine EA_load 6 1 [7, 8, 9, 10, 11] rfl rfl K.ag3 rfl (by kernel_rfl) (by kernel_rfl) rfl rfl ?_
      refine EA_three 0 3 7 rfl rfl rfl  (by kernel_rfl) rfl rfl rfl (⟨fun _ => hX.cell rfl, fun _ => hX.cell rfl, trivial⟩) ?_ ?_ ?_ 
      · refine EO_call K.bd36 rfl rfl (newpage_ok (by decide)) ?_
        rintro _ wc ⟨p, rfl, hP, hm0⟩
        (have hP := hP.mono hS; have hm := TM.of_no (T := U8) (B := B) hm0; (try have hI1 := hI1.tm hO1 hm); (try have hO1 := hO1.tm hm); (try have hI2 := hI2.tm hO2 hm); (try have hO2 := hO2.tm hm); have hX := TM.bk hm hX (by decide); have hS := Nat.le_trans hS hm.size; have hW := hW.trans hm)
        refine EA_two 3 7 rfl rfl  (by kernel_rfl) rfl rfl (⟨fun _ => hX.cell rfl, fun _ => hX.cell rfl, trivial⟩) ?_ ?_ 
        · refine EO_buildSlice Try.underlying54 K.zr3 K.sz3 rfl rfl rfl (fill_whole rfl (by rw [size_madeCells])) rfl ?_
          intro wc hn
          (have hm := TM.of_no (T := U8) (B := B) hn.mods; (try have hP := hP.no hn.mods); (try have hI1 := hI1.tm hO1 hm); (try have hO1 := hO1.tm hm); (try have hI2 := hI2.tm hO2 hm); (try have hO2 := hO2.tm hm); have hX := TM.bk hm hX (by decide); have hS := Nat.le_trans hS hm.size; have hW := hW.trans hm; have hI1 := isNew hn; have hO1 := offNew (B := B) hn)
          refine EA_two 4 7 rfl rfl  (by kernel_rfl) rfl rfl (⟨fun _ => hX.cell rfl, fun _ => hX.cell rfl, trivial⟩) ?_ ?_ 
          · refine EO_call K.bd37 rfl rfl (pageset_ok (a := 4) (size := 1) (ks := [a]) hP hI1 hO1 (by omega) (by omega) (by simp) (by simp) (by omega)) ?_
            rintro _ wc ⟨rfl, hP, hm⟩
            ((try have hI1 := hI1.tm hO1 hm); (try have hO1 := hO1.tm hm); (try have hI2 := hI2.tm hO2 hm); (try have hO2 := hO2.tm hm); have hX := TM.bk hm hX (by decide); have hS := Nat.le_trans hS hm.size; have hW := hW.trans hm)
            refine EA_one 7 rfl  (by kernel_rfl) rfl (⟨fun _ => hX.cell rfl, fun _ => hX.cell rfl, trivial⟩) ?_ 
            refine EO_buildSlice Try.underlying54 K.zr3 K.sz3 rfl rfl rfl (fill_whole rfl (by rw [size_madeCells])) rfl ?_
            intro wc hn
            (have hm := TM.of_no (T := U8) (B := B) hn.mods; (try have hP := hP.no hn.mods); (try have hI1 := hI1.tm hO1 hm); (try have hO1 := hO1.tm hm); (try have hI2 := hI2.tm hO2 hm); (try have hO2 := hO2.tm hm); have hX := TM.bk hm hX (by decide); have hS := Nat.le_trans hS hm.size; have hW := hW.trans hm; have hI2 := isNew hn; have hO2 := offNew (B := B) hn)
            refine EA_one 8 rfl  (by kernel_rfl) rfl (⟨fun _ => hX.cell rfl, fun _ => hX.cell rfl, trivial⟩) ?_ 
            refine EO_call K.bd37 rfl rfl (pageset_ok (a := 8) (size := 4) (ks := [s]) hP hI2 hO2 (by omega) (by omega) (by simp) (by simp) (by omega)) ?_
            rintro _ wc ⟨rfl, hP, hm⟩
            ((try have hI1 := hI1.tm hO1 hm); (try have hO1 := hO1.tm hm); (try have hI2 := hI2.tm hO2 hm); (try have hO2 := hO2.tm hm); have hX := TM.bk hm hX (by decide); have hS := Nat.le_trans hS hm.size; have hW := hW.trans hm)
            refine EA_one 9 rfl  (by kernel_rfl) rfl (⟨fun _ => hX.cell rfl, fun _ => hX.cell rfl, trivial⟩) ?_ 
            refine EO_call K.bd38 rfl rfl (pageseal_ok hP) ?_
            rintro u wc ⟨ho, hm0⟩
            refine EA_pure 10 rfl (fun _ => R_assign rfl) (by kernel_rfl) rfl rfl rfl ?_
            refine EA_pure 11 rfl (fun _ => R_assign rfl) (by kernel_rfl) rfl rfl rfl ?_
            refine EA_done (by kernel_rfl) (Holds.done (by kernel_rfl)) ?_
            refine E_ret ?_
            refine ret2 (.inr rfl) rfl rfl rfl ?_
            (rw [hok, if_pos rfl]; exact ⟨⟨u, rfl, ho.mono (by omega)⟩, TM.no_of (Mods.refl _ _) (hW.trans (TM.of_no hm0)) (by omega)⟩)
          · refine EO_buildSlice Try.underlying54 K.zr3 K.sz3 rfl rfl rfl (fill_whole rfl (by rw [size_madeCells])) rfl ?_
            intro wc hn
            (have hm := TM.of_no (T := U8) (B := B) hn.mods; (try have hP := hP.no hn.mods); (try have hI1 := hI1.tm hO1 hm); (try have hO1 := hO1.tm hm); (try have hI2 := hI2.tm hO2 hm); (try have hO2 := hO2.tm hm); have hX := TM.bk hm hX (by decide); have hS := Nat.le_trans hS hm.size; have hW := hW.trans hm; have hI2 := isNew hn; have hO2 := offNew (B := B) hn)
            refine EA_one 4 rfl  (by kernel_rfl) rfl (⟨fun _ => hX.cell rfl, fun _ => hX.cell rfl, trivial⟩) ?_ 
            refine EO_call K.bd37 rfl rfl (pageset_ok (a := 4) (size := 1) (ks := [a]) hP hI1 hO1 (by omega) (by omega) (by simp) (by simp) (by omega)) ?_
            rintro _ wc ⟨rfl, hP, hm⟩
            ((try have hI1 := hI1.tm hO1 hm); (try have hO1 := hO1.tm hm); (try have hI2 := hI2.tm hO2 hm); (try have hO2 := hO2.tm hm); have hX := TM.bk hm hX (by decide); have hS := Nat.le_trans hS hm.size; have hW := hW.trans hm)
            refine EA_one 8 rfl  (by kernel_rfl) rfl (⟨fun _ => hX.cell rfl, fun _ => hX.cell rfl, trivial⟩) ?_ 
            refine EO_call K.bd37 rfl rfl (pageset_ok (a := 8) (size := 4) (ks := [s]) hP hI2 hO2 (by omega) (by omega) (by simp) (by simp) (by omega)) ?_
            rintro _ wc ⟨rfl, hP, hm⟩
            ((try have hI1 := hI1.tm hO1 hm); (try have hO1 := hO1.tm hm); (try have hI2 := hI2.tm hO2 hm); (try have hO2 := hO2.tm hm); have hX := TM.bk hm hX (by decide); have hS := Nat.le_trans hS hm.size; have hW := hW.trans hm)
            refine EA_one 9 rfl  (by kernel_rfl) rfl (⟨fun _ => hX.cell rfl, fun _ => hX.cell rfl, trivial⟩) ?_ 
            refine EO_call K.bd38 rfl rfl (pageseal_ok hP) ?_
            rintro u wc ⟨ho, hm0⟩
            refine EA_pure 10 rfl (fun _ => R_assign rfl) (by kernel_rfl) rfl rfl rfl ?_
            refine EA_pure 11 rfl (fun _ => R_assign rfl) (by kernel_rfl) rfl rfl rfl ?_
            refine EA_done (by kernel_rfl) (Holds.done (by kernel_rfl)) ?_
            refine E_ret ?_
            refine ret2 (.inr rfl) rfl rfl rfl ?_
            (rw [hok, if_pos rfl]; exact ⟨⟨u, rfl, ho.mono (by omega)⟩, TM.no_of (Mods.refl _ _) (hW.trans (TM.of_no hm0)) (by omega)⟩)
        · refine EO_buildSlice Try.underlying54 K.zr3 K.sz3 rfl rfl rfl (fill_whole rfl (by rw [size_madeCells])) rfl ?_
          intro wc hn
          (have hm := TM.of_no (T := U8) (B := B) hn.mods; (try have hP := hP.no hn.mods); (try have hI1 := hI1.tm hO1 hm); (try have hO1 := hO1.tm hm); (try have hI2 := hI2.tm hO2 hm); (try have hO2 := hO2.tm hm); have hX := TM.bk hm hX (by decide); have hS := Nat.le_trans hS hm.size; have hW := hW.trans hm; have hI2 := isNew hn; have hO2 := offNew (B := B) hn)
          refine EA_one 3 rfl  (by kernel_rfl) rfl (⟨fun _ => hX.cell rfl, fun _ => hX.cell rfl, trivial⟩) ?_ 
          refine EO_buildSlice Try.underlying54 K.zr3 K.sz3 rfl rfl rfl (fill_whole rfl (by rw [size_madeCells])) rfl ?_
          intro wc hn
          (have hm := TM.of_no (T := U8) (B := B) hn.mods; (try have hP := hP.no hn.mods); (try have hI1 := hI1.tm hO1 hm); (try have hO1 := hO1.tm hm); (try have hI2 := hI2.tm hO2 hm); (try have hO2 := hO2.tm hm); have hX := TM.bk hm hX (by decide); have hS := Nat.le_trans hS hm.size; have hW := hW.trans hm; have hI1 := isNew hn; have hO1 := offNew (B := B) hn)
          refine EA_one 4 rfl  (by kernel_rfl) rfl (⟨fun _ => hX.cell rfl, fun _ => hX.cell rfl, trivial⟩) ?_ 
          refine EO_call K.bd37 rfl rfl (pageset_ok (a := 4) (size := 1) (ks := [a]) hP hI1 hO1 (by omega) (by omega) (by simp) (by simp) (by omega)) ?_
          rintro _ wc ⟨rfl, hP, hm⟩
          ((try have hI1 := hI1.tm hO1 hm); (try have hO1 := hO1.tm hm); (try have hI2 := hI2.tm hO2 hm); (try have hO2 := hO2.tm hm); have hX := TM.bk hm hX (by decide); have hS := Nat.le_trans hS hm.size; have hW := hW.trans hm)
          refine EA_one 8 rfl  (by kernel_rfl) rfl (⟨fun _ => hX.cell rfl, fun _ => hX.cell rfl, trivial⟩) ?_ 
          refine EO_call K.bd37 rfl rfl (pageset_ok (a := 8) (size := 4) (ks := [s]) hP hI2 hO2 (by omega) (by omega) (by simp) (by simp) (by omega)) ?_
          rintro _ wc ⟨rfl, hP, hm⟩
          ((try have hI1 := hI1.tm hO1 hm); (try have hO1 := hO1.tm hm); (try have hI2 := hI2.tm hO2 hm); (try have hO2 := hO2.tm hm); have hX := TM.bk hm hX (by decide); have hS := Nat.le_trans hS hm.size; have hW := hW.trans hm)
          refine EA_one 9 rfl  (by kernel_rfl) rfl (⟨fun _ => hX.cell rfl, fun _ => hX.cell rfl, trivial⟩) ?_ 
          refine EO_call K.bd38 rfl rfl (pageseal_ok hP) ?_
          rintro u wc ⟨ho, hm0⟩
          refine EA_pure 10 rfl (fun _ => R_assign rfl) (by kernel_rfl) rfl rfl rfl ?_
          refine EA_pure 11 rfl (fun _ => R_assign rfl) (by kernel_rfl) rfl rfl rfl ?_
          refine EA_done (by kernel_rfl) (Holds.done (by kernel_rfl)) ?_
          refine E_ret ?_
          refine ret2 (.inr rfl) rfl rfl rfl ?_
          (rw [hok, if_pos rfl]; exact ⟨⟨u, rfl, ho.mono (by omega)⟩, TM.no_of (Mods.refl _ _) (hW.trans (TM.of_no hm0)) (by omega)⟩)
      · refine EO_buildSlice Try.underlying54 K.zr3 K.sz3 rfl rfl rfl (fill_whole rfl (by rw [size_madeCells])) rfl ?_
        intro wc hn
        (have hm := TM.of_no (T := U8) (B := B) hn.mods; (try have hP := hP.no hn.mods); (try have hI1 := hI1.tm hO1 hm); (try have hO1 := hO1.tm hm); (try have hI2 := hI2.tm hO2 hm); (try have hO2 := hO2.tm hm); have hX := TM.bk hm hX (by decide); have hS := Nat.le_trans hS hm.size; have hW := hW.trans hm; have hI1 := isNew hn; have hO1 := offNew (B := B) hn)
        refine EA_two 0 7 rfl rfl  (by kernel_rfl) rfl rfl (⟨fun _ => hX.cell rfl, fun _ => hX.cell rfl, trivial⟩) ?_ ?_ 
        · refine EO_call K.bd36 rfl rfl (newpage_ok (by decide)) ?_
          rintro _ wc ⟨p, rfl, hP, hm0⟩
          (have hP := hP.mono hS; have hm := TM.of_no (T := U8) (B := B) hm0; (try have hI1 := hI1.tm hO1 hm); (try have hO1 := hO1.tm hm); (try have hI2 := hI2.tm hO2 hm); (try have hO2 := hO2.tm hm); have hX := TM.bk hm hX (by decide); have hS := Nat.le_trans hS hm.size; have hW := hW.trans hm)
          refine EA_two 4 7 rfl rfl  (by kernel_rfl) rfl rfl (⟨fun _ => hX.cell rfl, fun _ => hX.cell rfl, trivial⟩) ?_ ?_ 
          · refine EO_call K.bd37 rfl rfl (pageset_ok (a := 4) (size := 1) (ks := [a]) hP hI1 hO1 (by omega) (by omega) (by simp) (by simp) (by omega)) ?_
            rintro _ wc ⟨rfl, hP, hm⟩
            ((try have hI1 := hI1.tm hO1 hm); (try have hO1 := hO1.tm hm); (try have hI2 := hI2.tm hO2 hm); (try have hO2 := hO2.tm hm); have hX := TM.bk hm hX (by decide); have hS := Nat.le_trans hS hm.size; have hW := hW.trans hm)
            refine EA_one 7 rfl  (by kernel_rfl) rfl (⟨fun _ => hX.cell rfl, fun _ => hX.cell rfl, trivial⟩) ?_ 
            refine EO_buildSlice Try.underlying54 K.zr3 K.sz3 rfl rfl rfl (fill_whole rfl (by rw [size_madeCells])) rfl ?_
            intro wc hn
            (have hm := TM.of_no (T := U8) (B := B) hn.mods; (try have hP := hP.no hn.mods); (try have hI1 := hI1.tm hO1 hm); (try have hO1 := hO1.tm hm); (try have hI2 := hI2.tm hO2 hm); (try have hO2 := hO2.tm hm); have hX := TM.bk hm hX (by decide); have hS := Nat.le_trans hS hm.size; have hW := hW.trans hm; have hI2 := isNew hn; have hO2 := offNew (B := B) hn)
            refine EA_one 8 rfl  (by kernel_rfl) rfl (⟨fun _ => hX.cell rfl, fun _ => hX.cell rfl, trivial⟩) ?_ 
            refine EO_call K.bd37 rfl rfl (pageset_ok (a := 8) (size := 4) (ks := [s]) hP hI2 hO2 (by omega) (by omega) (by simp) (by simp) (by omega)) ?_
            rintro _ wc ⟨rfl, hP, hm⟩
            ((try have hI1 := hI1.tm hO1 hm); (try have hO1 := hO1.tm hm); (try have hI2 := hI2.tm hO2 hm); (try have hO2 := hO2.tm hm); have hX := TM.bk hm hX (by decide); have hS := Nat.le_trans hS hm.size; have hW := hW.trans hm)
            refine EA_one 9 rfl  (by kernel_rfl) rfl (⟨fun _ => hX.cell rfl, fun _ => hX.cell rfl, trivial⟩) ?_ 
            refine EO_call K.bd38 rfl rfl (pageseal_ok hP) ?_
            rintro u wc ⟨ho, hm0⟩
            refine EA_pure 10 rfl (fun _ => R_assign rfl) (by kernel_rfl) rfl rfl rfl ?_
            refine EA_pure 11 rfl (fun _ => R_assign rfl) (by kernel_rfl) rfl rfl rfl ?_
            refine EA_done (by kernel_rfl) (Holds.done (by kernel_rfl)) ?_
            refine E_ret ?_
            refine ret2 (.inr rfl) rfl rfl rfl ?_
            (rw [hok, if_pos rfl]; exact ⟨⟨u, rfl, ho.mono (by omega)⟩, TM.no_of (Mods.refl _ _) (hW.trans (TM.of_no hm0)) (by omega)⟩)
          · refine EO_buildSlice Try.underlying54 K.zr3 K.sz3 rfl rfl rfl (fill_whole rfl (by rw [size_madeCells])) rfl ?_
            intro wc hn
            (have hm := TM.of_no (T := U8) (B := B) hn.mods; (try have hP := hP.no hn.mods); (try have hI1 := hI1.tm hO1 hm); (try have hO1 := hO1.tm hm); (try have hI2 := hI2.tm hO2 hm); (try have hO2 := hO2.tm hm); have hX := TM.bk hm hX (by decide); have hS := Nat.le_trans hS hm.size; have hW := hW.trans hm; have hI2 := isNew hn; have hO2 := offNew (B := B) hn)
            refine EA_one 4 rfl  (by kernel_rfl) rfl (⟨fun _ => hX.cell rfl, fun _ => hX.cell rfl, trivial⟩) ?_ 
            refine EO_call K.bd37 rfl rfl (pageset_ok (a := 4) (size := 1) (ks := [a]) hP hI1 hO1 (by omega) (by omega) (by simp) (by simp) (by omega)) ?_
            rintro _ wc ⟨rfl, hP, hm⟩
            ((try have hI1 := hI1.tm hO1 hm); (try have hO1 := hO1.tm hm); (try have hI2 := hI2.tm hO2 hm); (try have hO2 := hO2.tm hm); have hX := TM.bk hm hX (by decide); have hS := Nat.le_trans hS hm.size; have hW := hW.trans hm)
            refine EA_one 8 rfl  (by kernel_rfl) rfl (⟨fun _ => hX.cell rfl, fun _ => hX.cell rfl, trivial⟩) ?_ 
            refine EO_call K.bd37 rfl rfl (pageset_ok (a := 8) (size := 4) (ks := [s]) hP hI2 hO2 (by omega) (by omega) (by simp) (by simp) (by omega)) ?_
            rintro _ wc ⟨rfl, hP, hm⟩
            ((try have hI1 := hI1.tm hO1 hm); (try have hO1 := hO1.tm hm); (try have hI2 := hI2.tm hO2 hm); (try have hO2 := hO2.tm hm); have hX := TM.bk hm hX (by decide); have hS := Nat.le_trans hS hm.size; have hW := hW.trans hm)
            refine EA_one 9 rfl  (by kernel_rfl) rfl (⟨fun _ => hX.cell rfl, fun _ => hX.cell rfl, trivial⟩) ?_ 
            refine EO_call K.bd38 rfl rfl (pageseal_ok hP) ?_
            rintro u wc ⟨ho, hm0⟩
            refine EA_pure 10 rfl (fun _ => R_assign rfl) (by kernel_rfl) rfl rfl rfl ?_
            refine EA_pure 11 rfl (fun _ => R_assign rfl) (by kernel_rfl) rfl rfl rfl ?_
            refine EA_done (by kernel_rfl) (Holds.done (by kernel_rfl)) ?_
            refine E_ret ?_
            refine ret2 (.inr rfl) rfl rfl rfl ?_
            (rw [hok, if_pos rfl]; exact ⟨⟨u, rfl, ho.mono (by omega)⟩, TM.no_of (Mods.refl _ _) (hW.trans (TM.of_no hm0)) (by omega)⟩)
        · refine EO_buildSlice Try.underlying54 K.zr3 K.sz3 rfl rfl rfl (fill_whole rfl (by rw [size_madeCells])) rfl ?_
          intro wc hn
          (have hm := TM.of_no (T := U8) (B := B) hn.mods; (try have hP := hP.no hn.mods); (try have hI1 := hI1.tm hO1 hm); (try have hO1 := hO1.tm hm); (try have hI2 := hI2.tm hO2 hm); (try have hO2 := hO2.tm hm); have hX := TM.bk hm hX (by decide); have hS := Nat.le_trans hS hm.size; have hW := hW.trans hm; have hI2 := isNew hn; have hO2 := offNew (B := B) hn)
          refine EA_one 0 rfl  (by kernel_rfl) rfl (⟨fun _ => hX.cell rfl, fun _ => hX.cell rfl, trivial⟩) ?_ 
          refine EO_call K.bd36 rfl rfl (newpage_ok (by decide)) ?_
          rintro _ wc ⟨p, rfl, hP, hm0⟩
          (have hP := hP.mono hS; have hm := TM.of_no (T := U8) (B := B) hm0; (try have hI1 := hI1.tm hO1 hm); (try have hO1 := hO1.tm hm); (try have hI2 := hI2.tm hO2 hm); (try have hO2 := hO2.tm hm); have hX := TM.bk hm hX (by decide); have hS := Nat.le_trans hS hm.size; have hW := hW.trans hm)
          refine EA_one 4 rfl  (by kernel_rfl) rfl (⟨fun _ => hX.cell rfl, fun _ => hX.cell rfl, trivial⟩) ?_ 
          refine EO_call K.bd37 rfl rfl (pageset_ok (a := 4) (size := 1) (ks := [a]) hP hI1 hO1 (by omega) (by omega) (by simp) (by simp) (by omega)) ?_
          rintro _ wc ⟨rfl, hP, hm⟩
          ((try have hI1 := hI1.tm hO1 hm); (try have hO1 := hO1.tm hm); (try have hI2 := hI2.tm hO2 hm); (try have hO2 := hO2.tm hm); have hX := TM.bk hm hX (by decide); have hS := Nat.le_trans hS hm.size; have hW := hW.trans hm)
          refine EA_one 8 rfl  (by kernel_rfl) rfl (⟨fun _ => hX.cell rfl, fun _ => hX.cell rfl, trivial⟩) ?_ 
          refine EO_call K.bd37 rfl rfl (pageset_ok (a := 8) (size := 4) (ks := [s]) hP hI2 hO2 (by omega) (by omega) (by simp) (by simp) (by omega)) ?_
          rintro _ wc ⟨rfl, hP, hm⟩
          ((try have hI1 := hI1.tm hO1 hm); (try have hO1 := hO1.tm hm); (try have hI2 := hI2.tm hO2 hm); (try have hO2 := hO2.tm hm); have hX := TM.bk hm hX (by decide); have hS := Nat.le_trans hS hm.size; have hW := hW.trans hm)
          refine EA_one 9 rfl  (by kernel_rfl) rfl (⟨fun _ => hX.cell rfl, fun _ => hX.cell rfl, trivial⟩) ?_ 
          refine EO_call K.bd38 rfl rfl (pageseal_ok hP) ?_
          rintro u wc ⟨ho, hm0⟩
          refine EA_pure 10 rfl (fun _ => R_assign rfl) (by kernel_rfl) rfl rfl rfl ?_
          refine EA_pure 11 rfl (fun _ => R_assign rfl) (by kernel_rfl) rfl rfl rfl ?_
          refine EA_done (by kernel_rfl) (Holds.done (by kernel_rfl)) ?_
          refine E_ret ?_
          refine ret2 (.inr rfl) rfl rfl rfl ?_
          (rw [hok, if_pos rfl]; exact ⟨⟨u, rfl, ho.mono (by omega)⟩, TM.no_of (Mods.refl _ _) (hW.trans (TM.of_no hm0)) (by omega)⟩)
      · refine EO_buildSlice Try.underlying54 K.zr3 K.sz3 rfl rfl rfl (fill_whole rfl (by rw [size_madeCells])) rfl ?_
        intro wc hn
        (have hm := TM.of_no (T := U8) (B := B) hn.mods; (try have hP := hP.no hn.mods); (try have hI1 := hI1.tm hO1 hm); (try have hO1 := hO1.tm hm); (try have hI2 := hI2.tm hO2 hm); (try have hO2 := hO2.tm hm); have hX := TM.bk hm hX (by decide); have hS := Nat.le_trans hS hm.size; have hW := hW.trans hm; have hI2 := isNew hn; have hO2 := offNew (B := B) hn)
        refine EA_two 0 3 rfl rfl  (by kernel_rfl) rfl rfl (⟨fun _ => hX.cell rfl, fun _ => hX.cell rfl, trivial⟩) ?_ ?_ 
        · refine EO_call K.bd36 rfl rfl (newpage_ok (by decide)) ?_
          rintro _ wc ⟨p, rfl, hP, hm0⟩
          (have hP := hP.mono hS; have hm := TM.of_no (T := U8) (B := B) hm0; (try have hI1 := hI1.tm hO1 hm); (try have hO1 := hO1.tm hm); (try have hI2 := hI2.tm hO2 hm); (try have hO2 := hO2.tm hm); have hX := TM.bk hm hX (by decide); have hS := Nat.le_trans hS hm.size; have hW := hW.trans hm)
          refine EA_one 3 rfl  (by kernel_rfl) rfl (⟨fun _ => hX.cell rfl, fun _ => hX.cell rfl, trivial⟩) ?_ 
          refine EO_buildSlice Try.underlying54 K.zr3 K.sz3 rfl rfl rfl (fill_whole rfl (by rw [size_madeCells])) rfl ?_
          intro wc hn
          (have hm := TM.of_no (T := U8) (B := B) hn.mods; (try have hP := hP.no hn.mods); (try have hI1 := hI1.tm hO1 hm); (try have hO1 := hO1.tm hm); (try have hI2 := hI2.tm hO2 hm); (try have hO2 := hO2.tm hm); have hX := TM.bk hm hX (by decide); have hS := Nat.le_trans hS hm.size; have hW := hW.trans hm; have hI1 := isNew hn; have hO1 := offNew (B := B) hn)
          refine EA_one 4 rfl  (by kernel_rfl) rfl (⟨fun _ => hX.cell rfl, fun _ => hX.cell rfl, trivial⟩) ?_ 
          refine EO_call K.bd37 rfl rfl (pageset_ok (a := 4) (size := 1) (ks := [a]) hP hI1 hO1 (by omega) (by omega) (by simp) (by simp) (by omega)) ?_
          rintro _ wc ⟨rfl, hP, hm⟩
          ((try have hI1 := hI1.tm hO1 hm); (try have hO1 := hO1.tm hm); (try have hI2 := hI2.tm hO2 hm); (try have hO2 := hO2.tm hm); have hX := TM.bk hm hX (by decide); have hS := Nat.le_trans hS hm.size; have hW := hW.trans hm)
          refine EA_one 8 rfl  (by kernel_rfl) rfl (⟨fun _ => hX.cell rfl, fun _ => hX.cell rfl, trivial⟩) ?_ 
          refine EO_call K.bd37 rfl rfl (pageset_ok (a := 8) (size := 4) (ks := [s]) hP hI2 hO2 (by omega) (by omega) (by simp) (by simp) (by omega)) ?_
          rintro _ wc ⟨rfl, hP, hm⟩
          ((try have hI1 := hI1.tm hO1 hm); (try have hO1 := hO1.tm hm); (try have hI2 := hI2.tm hO2 hm); (try have hO2 := hO2.tm hm); have hX := TM.bk hm hX (by decide); have hS := Nat.le_trans hS hm.size; have hW := hW.trans hm)
          refine EA_one 9 rfl  (by kernel_rfl) rfl (⟨fun _ => hX.cell rfl, fun _ => hX.cell rfl, trivial⟩) ?_ 
          refine EO_call K.bd38 rfl rfl (pageseal_ok hP) ?_
          rintro u wc ⟨ho, hm0⟩
          refine EA_pure 10 rfl (fun _ => R_assign rfl) (by kernel_rfl) rfl rfl rfl ?_
          refine EA_pure 11 rfl (fun _ => R_assign rfl) (by kernel_rfl) rfl rfl rfl ?_
          refine EA_done (by kernel_rfl) (Holds.done (by kernel_rfl)) ?_
          refine E_ret ?_
          refine ret2 (.inr rfl) rfl rfl rfl ?_
          (rw [hok, if_pos rfl]; exact ⟨⟨u, rfl, ho.mono (by omega)⟩, TM.no_of (Mods.refl _ _) (hW.trans (TM.of_no hm0)) (by omega)⟩)
        · refine EO_buildSlice Try.underlying54 K.zr3 K.sz3 rfl rfl rfl (fill_whole rfl (by rw [size_madeCells])) rfl ?_
          intro wc hn
          (have hm := TM.of_no (T := U8) (B := B) hn.mods; (try have hP := hP.no hn.mods); (try have hI1 := hI1.tm hO1 hm); (try have hO1 := hO1.tm hm); (try have hI2 := hI2.tm hO2 hm); (try have hO2 := hO2.tm hm); have hX := TM.bk hm hX (by decide); have hS := Nat.le_trans hS hm.size; have hW := hW.trans hm; have hI1 := isNew hn; have hO1 := offNew (B := B) hn)
          refine EA_one 0 rfl  (by kernel_rfl) rfl (⟨fun _ => hX.cell rfl, fun _ => hX.cell rfl, trivial⟩) ?_ 
          refine EO_call K.bd36 rfl rfl (newpage_ok (by decide)) ?_
          rintro _ wc ⟨p, rfl, hP, hm0⟩
          (have hP := hP.mono hS; have hm := TM.of_no (T := U8) (B := B) hm0; (try have hI1 := hI1.tm hO1 hm); (try have hO1 := hO1.tm hm); (try have hI2 := hI2.tm hO2 hm); (try have hO2 := hO2.tm hm); have hX := TM.bk hm hX (by decide); have hS := Nat.le_trans hS hm.size; have hW := hW.trans hm)
          refine EA_one 4 rfl  (by kernel_rfl) rfl (⟨fun _ => hX.cell rfl, fun _ => hX.cell rfl, trivial⟩) ?_ 
          refine EO_call K.bd37 rfl rfl (pageset_ok (a := 4) (size := 1) (ks := [a]) hP hI1 hO1 (by omega) (by omega) (by simp) (by simp) (by omega)) ?_
          rintro _ wc ⟨rfl, hP, hm⟩
          ((try have hI1 := hI1.tm hO1 hm); (try have hO1 := hO1.tm hm); (try have hI2 := hI2.tm hO2 hm); (try have hO2 := hO2.tm hm); have hX := TM.bk hm hX (by decide); have hS := Nat.le_trans hS hm.size; have hW := hW.trans hm)
          refine EA_one 8 rfl  (by kernel_rfl) rfl (⟨fun _ => hX.cell rfl, fun _ => hX.cell rfl, trivial⟩) ?_ 
          refine EO_call K.bd37 rfl rfl (pageset_ok (a := 8) (size := 4) (ks := [s]) hP hI2 hO2 (by omega) (by omega) (by simp) (by simp) (by omega)) ?_
          rintro _ wc ⟨rfl, hP, hm⟩
          ((try have hI1 := hI1.tm hO1 hm); (try have hO1 := hO1.tm hm); (try have hI2 := hI2.tm hO2 hm); (try have hO2 := hO2.tm hm); have hX := TM.bk hm hX (by decide); have hS := Nat.le_trans hS hm.size; have hW := hW.trans hm)
          refine EA_one 9 rfl  (by kernel_rfl) rfl (⟨fun _ => hX.cell rfl, fun _ => hX.cell rfl, trivial⟩) ?_ 
          refine EO_call K.bd38 rfl rfl (pageseal_ok hP) ?_
          rintro u wc ⟨ho, hm0⟩
          refine EA_pure 10 rfl (fun _ => R_assign rfl) (by kernel_rfl) rfl rfl rfl ?_
          refine EA_pure 11 rfl (fun _ => R_assign rfl) (by kernel_rfl) rfl rfl rfl ?_
          refine EA_done (by kernel_rfl) (Holds.done (by kernel_rfl)) ?_
          refine E_ret ?_
          refine ret2 (.inr rfl) rfl rfl rfl ?_
          (rw [hok, if_pos rfl]; exact ⟨⟨u, rfl, ho.mono (by omega)⟩, TM.no_of (Mods.refl _ _) (hW.trans (TM.of_no hm0)) (by omega)⟩)
    · have hok : headOk a s = false := by simp [headOk, h1, h2]
      refine Ret.enter Try.func39 rfl Try.ntmps39 rfl ?_
      simp only [argEnv, Nat.reduceAdd]
      refine E_seqR ?_
      refine EL_step rfl ?_
      refine EO_box rfl rfl ?_
      intro w1 hn1
      refine EL_val (R_assign rfl) rfl rfl rfl ?_
      refine EL_val (R_assign rfl) rfl rfl rfl ?_
      refine EL_nil ?_
      refine E_seq ?_
      refine E_seqR ?_
      refine EL_val (R_fieldAddr rfl K.fT46_0) rfl rfl rfl ?_
      refine EL_val (R_load rfl K.ag3 (hn1.bk.cell rfl)) rfl rfl rfl ?_
      refine EL_step rfl ?_
      refine EO_call K.bd50 rfl rfl (in_t h1) ?_
      rintro _ _ ⟨rfl, rfl⟩
      refine EL_val (R_not rfl) rfl rfl rfl ?_
      refine EL_val (R_move rfl) rfl rfl rfl ?_
      first | refine EL_val (R_fieldAddr rfl K.fT46_1) rfl rfl rfl ?_ | refine EL_not rfl rfl rfl ?_
      first | refine EL_val (R_load rfl K.ag3 (hn1.bk.cell rfl)) rfl rfl rfl ?_ | refine EL_not rfl rfl rfl ?_
      refine EL_step rfl ?_
      refine EO_call K.bd50 rfl rfl (in_f h2) ?_
      rintro _ _ ⟨rfl, rfl⟩
      first | refine EL_val (R_not rfl) rfl rfl rfl ?_ | refine EL_not rfl rfl rfl ?_
      first | refine EL_val (R_pick_t rfl rfl) rfl rfl rfl ?_ | refine EL_val (R_pick_f rfl rfl) rfl rfl rfl ?_
      refine EL_nil ?_
      refine E_cond_t rfl ?_
      refine E_seqR ?_
      refine EL_val (R_assign rfl) rfl rfl rfl ?_
      refine EL_val (R_assign rfl) rfl rfl rfl ?_
      refine EL_nil ?_
      refine E_ret ?_
      refine thenQ_r ?_
      refine ret2 (.inr rfl) rfl rfl rfl ?_
      rw [hok]
      exact ⟨rfl, hn1.mods⟩
  · have hok : headOk a s = false := by simp [headOk, h1]
    refine Ret.enter Try.func39 rfl Try.ntmps39 rfl ?_
    simp only [argEnv, Nat.reduceAdd]
    refine E_seqR ?_
    refine EL_step rfl ?_
    refine EO_box rfl rfl ?_
    intro w1 hn1
    refine EL_val (R_assign rfl) rfl rfl rfl ?_
    refine EL_val (R_assign rfl) rfl rfl rfl ?_
    refine EL_nil ?_
    refine E_seq ?_
    refine E_seqR ?_
    refine EL_val (R_fieldAddr rfl K.fT46_0) rfl rfl rfl ?_
    refine EL_val (R_load rfl K.ag3 (hn1.bk.cell rfl)) rfl rfl rfl ?_
    refine EL_step rfl ?_
    refine EO_call K.bd50 rfl rfl (in_f h1) ?_
    rintro _ _ ⟨rfl, rfl⟩
    refine EL_val (R_not rfl) rfl rfl rfl ?_
    refine EL_val (R_move rfl) rfl rfl rfl ?_
    refine EL_not rfl rfl rfl ?_
    refine EL_not rfl rfl rfl ?_
    refine EL_not rfl rfl rfl ?_
    refine EL_not rfl rfl rfl ?_
    first | refine EL_val (R_pick_t rfl rfl) rfl rfl rfl ?_ | refine EL_val (R_pick_f rfl rfl) rfl rfl rfl ?_
    refine EL_nil ?_
    refine E_cond_t rfl ?_
    refine E_seqR ?_
    refine EL_val (R_assign rfl) rfl rfl rfl ?_
    refine EL_val (R_assign rfl) rfl rfl rfl ?_
    refine EL_nil ?_
    refine E_ret ?_
    refine thenQ_r ?_
    refine ret2 (.inr rfl) rfl rfl rfl ?_
    rw [hok]
    exact ⟨rfl, hn1.mods⟩
end Go.Proofs.Ytobhogdndfbniaa
