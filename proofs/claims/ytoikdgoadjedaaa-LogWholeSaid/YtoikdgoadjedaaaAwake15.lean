/- drydocklaw15.awake returns true. -/
import Derived.Test.YtoikdgoadjedaaaLogP
set_option linter.unusedVariables false
set_option linter.unusedSimpArgs false
set_option maxRecDepth 100000
namespace Go.Proofs.Ytoikdgoadjedaaa
open Go.EW Go.RowKit
theorem awake15_ok {w : World} : Ret Try.prog 7 [] w fun v w' => v = .bool true ∧ Mods No w w' := by
  have hs : soundS 3 [60, 0] = true := by decide
  have he : endOk 3 2 = true := by decide
  have hbl := beginB_length 3 [60, 0] (by decide)
  have hel := endB_length 3 2
  refine Ret.enter Try.func7 rfl Try.ntmps7 rfl ?_
  simp only [argEnv, Nat.reduceAdd]
  refine E_seqR ?_
  refine EL_val (R_assign rfl) rfl rfl rfl ?_
  refine EL_nil ?_
  refine E_seqR ?_
  refine EL_step rfl ?_
  refine EO_buildSlice Try.underlying27 K.zr3 K.sz3 rfl rfl rfl (cells := #[.int .i64 60, .int .i64 0]) (by kernel_rfl) rfl ?_
  intro w1 hn1
  (have hI : IS w1 (some ⟨w.heap.size, 0, none⟩) [60, 0] := Src.bk hn1.bk 2 1 (ival [60, 0]) rfl (fun q u hq => by rw [Nat.zero_add]; show (#[Value.int .i64 60, Value.int .i64 0] : Array Value)[q]? = some u; simpa [ival] using hq))
  refine EL_val (R_build (cells := #[.int .i64 3, .slice (some ⟨w.heap.size, 0, none⟩) 2 2]) K.zr29 K.pl29 rfl rfl) rfl rfl rfl ?_
  refine EL_step rfl ?_
  refine EO_call K.bd4 rfl rfl ((by have := begin_ok (s := 3) (c := 2) hI (by decide) (by simp); rw [hs] at this; exact this)) ?_
  rintro _ w2 ⟨⟨u2, rfl, ho2⟩, hm2⟩
  (obtain ⟨g2, c2, rfl, _, hc2, _, _, hb2⟩ := ho2.form (by omega))
  refine EL_val (R_move rfl) rfl rfl rfl ?_
  refine EL_val (R_extract rfl rfl) rfl rfl rfl ?_
  refine EL_val (R_extract rfl rfl) rfl rfl rfl ?_
  refine EL_val (R_assign rfl) rfl rfl rfl ?_
  refine EL_val (R_assign rfl) rfl rfl rfl ?_
  refine EL_nil ?_
  refine E_seqR ?_
  refine EL_val (R_move rfl) rfl rfl rfl ?_
  refine EL_step rfl ?_
  refine EO_call K.bd16 rfl rfl ((by have := begins_ok hb2 hc2 (by omega); unfold beginsP at this; rw [begins_begin hs] at this; exact this)) ?_
  rintro _ w3 ⟨⟨u3, rfl, ho3⟩, hm3⟩
  (obtain ⟨A3, c3, rfl, _, _⟩ := own_sl ho3)
  refine EL_val (R_move rfl) rfl rfl rfl ?_
  refine EL_val (R_extract rfl rfl) rfl rfl rfl ?_
  refine EL_val (R_extract rfl rfl) rfl rfl rfl ?_
  refine EL_step rfl ?_
  refine EO_alloc K.zr29 rfl ?_
  intro w4 hn4
  refine EL_step rfl ?_
  refine EO_storeAggB hn4.bk rfl rfl K.sz29 rfl rfl ?_
  intro w5 hu5
  refine EL_val (R_assign rfl) rfl rfl rfl ?_
  refine EL_nil ?_
  refine E_seqR ?_
  refine EL_step rfl ?_
  refine EO_call K.bd5 rfl rfl ((by have := end_ok (w := w5) (s := 3) (n := 2); rw [he] at this; exact this)) ?_
  rintro _ w6 ⟨⟨u6, rfl, ho6⟩, hm6⟩
  (obtain ⟨g6, c6, rfl, _, hc6, _, _, hb6⟩ := ho6.form (by omega))
  refine EL_val (R_move rfl) rfl rfl rfl ?_
  refine EL_val (R_extract rfl rfl) rfl rfl rfl ?_
  refine EL_val (R_extract rfl rfl) rfl rfl rfl ?_
  refine EL_val (R_assign rfl) rfl rfl rfl ?_
  refine EL_val (R_assign rfl) rfl rfl rfl ?_
  refine EL_nil ?_
  refine E_seqR ?_
  refine EL_val (R_move rfl) rfl rfl rfl ?_
  refine EL_step rfl ?_
  refine EO_call K.bd17 rfl rfl ((by have := ends_ok hb6 hc6 (by omega); rw [ends_end he] at this; exact this)) ?_
  rintro _ w7 ⟨rfl, hm7⟩
  refine EL_val (R_move rfl) rfl rfl rfl ?_
  refine EL_val (R_extract rfl rfl) rfl rfl rfl ?_
  refine EL_val (R_extract rfl rfl) rfl rfl rfl ?_
  refine EL_val (R_extract rfl rfl) rfl rfl rfl ?_
  refine EL_val (R_assign rfl) rfl rfl rfl ?_
  refine EL_val (R_assign rfl) rfl rfl rfl ?_
  refine EL_val (R_assign rfl) rfl rfl rfl ?_
  refine EL_nil ?_
  refine E_seqR ?_
  refine EL_val (R_move rfl) rfl rfl rfl ?_
  first | refine EL_val (R_eql_t rfl rfl (by omega)) rfl rfl rfl ?_ | refine EL_val (R_eql_f rfl rfl (by omega)) rfl rfl rfl ?_
  refine EL_val (R_move rfl) rfl rfl rfl ?_
  first | refine EL_val (R_move rfl) rfl rfl rfl ?_ | refine EL_not rfl rfl rfl ?_
  first | refine EL_val (R_eql_t rfl rfl (by omega)) rfl rfl rfl ?_ | refine EL_val (R_eql_f rfl rfl (by omega)) rfl rfl rfl ?_ | refine EL_not rfl rfl rfl ?_
  first | refine EL_val (R_pick_t rfl rfl) rfl rfl rfl ?_ | refine EL_val (R_pick_f rfl rfl) rfl rfl rfl ?_
  refine EL_val (R_move rfl) rfl rfl rfl ?_
  first | refine EL_val (R_move rfl) rfl rfl rfl ?_ | refine EL_not rfl rfl rfl ?_
  first | refine EL_val (R_eql_t rfl rfl (by omega)) rfl rfl rfl ?_ | refine EL_val (R_eql_f rfl rfl (by omega)) rfl rfl rfl ?_ | refine EL_not rfl rfl rfl ?_
  first | refine EL_val (R_pick_t rfl rfl) rfl rfl rfl ?_ | refine EL_val (R_pick_f rfl rfl) rfl rfl rfl ?_
  refine EL_val (R_move rfl) rfl rfl rfl ?_
  first | refine EL_val (R_move rfl) rfl rfl rfl ?_ | refine EL_not rfl rfl rfl ?_
  first | refine EL_val (R_eql_t rfl rfl (by omega)) rfl rfl rfl ?_ | refine EL_val (R_eql_f rfl rfl (by omega)) rfl rfl rfl ?_ | refine EL_not rfl rfl rfl ?_
  first | refine EL_val (R_pick_t rfl rfl) rfl rfl rfl ?_ | refine EL_val (R_pick_f rfl rfl) rfl rfl rfl ?_
  refine EL_val (R_move rfl) rfl rfl rfl ?_
  first | refine EL_val (R_fieldAddr rfl K.fT29_0) rfl rfl rfl ?_ | refine EL_not rfl rfl rfl ?_
  first | refine EL_val (R_load rfl K.ag3 ((hm7.bk' (hm6.bk' hu5.bk)).cell rfl)) rfl rfl rfl ?_ | refine EL_not rfl rfl rfl ?_
  first | refine EL_val (R_eql_t rfl rfl (by omega)) rfl rfl rfl ?_ | refine EL_val (R_eql_f rfl rfl (by omega)) rfl rfl rfl ?_ | refine EL_not rfl rfl rfl ?_
  first | refine EL_val (R_pick_t rfl rfl) rfl rfl rfl ?_ | refine EL_val (R_pick_f rfl rfl) rfl rfl rfl ?_
  refine EL_val (R_move rfl) rfl rfl rfl ?_
  first | refine EL_val (R_fieldAddr rfl K.fT29_1) rfl rfl rfl ?_ | refine EL_not rfl rfl rfl ?_
  first | refine EL_val (R_load rfl K.ag27 ((hm7.bk' (hm6.bk' hu5.bk)).cell rfl)) rfl rfl rfl ?_ | refine EL_not rfl rfl rfl ?_
  first | refine EL_val (R_lenSlice rfl Try.underlying27) rfl rfl rfl ?_ | refine EL_not rfl rfl rfl ?_
  first | refine EL_val (R_eql_t rfl rfl (rfl)) rfl rfl rfl ?_ | refine EL_val (R_eql_f rfl rfl (rfl)) rfl rfl rfl ?_ | refine EL_not rfl rfl rfl ?_
  first | refine EL_val (R_pick_t rfl rfl) rfl rfl rfl ?_ | refine EL_val (R_pick_f rfl rfl) rfl rfl rfl ?_
  refine EL_val (R_move rfl) rfl rfl rfl ?_
  first | refine EL_val (R_move rfl) rfl rfl rfl ?_ | refine EL_not rfl rfl rfl ?_
  first | refine EL_val (R_eql_t rfl rfl (by omega)) rfl rfl rfl ?_ | refine EL_val (R_eql_f rfl rfl (by omega)) rfl rfl rfl ?_ | refine EL_not rfl rfl rfl ?_
  first | refine EL_val (R_pick_t rfl rfl) rfl rfl rfl ?_ | refine EL_val (R_pick_f rfl rfl) rfl rfl rfl ?_
  refine EL_val (R_move rfl) rfl rfl rfl ?_
  first | refine EL_val (R_move rfl) rfl rfl rfl ?_ | refine EL_not rfl rfl rfl ?_
  first | refine EL_val (R_eql_t rfl rfl (by omega)) rfl rfl rfl ?_ | refine EL_val (R_eql_f rfl rfl (by omega)) rfl rfl rfl ?_ | refine EL_not rfl rfl rfl ?_
  first | refine EL_val (R_pick_t rfl rfl) rfl rfl rfl ?_ | refine EL_val (R_pick_f rfl rfl) rfl rfl rfl ?_
  refine EL_val (R_assign rfl) rfl rfl rfl ?_
  refine EL_nil ?_
  refine E_ret ?_
  refine ret1 (.inr rfl) rfl rfl ?_
  exact ⟨rfl, (((((hn1.mods.trans hm2).trans hm3).trans hn4.mods).trans' hu5.mods fun k hk e => by have := hn1.mods.size; have := hm2.size; have := hm3.size; omega).trans hm6).trans hm7⟩
end Go.Proofs.Ytoikdgoadjedaaa
