/- Nodes, writes and numbers compared; the law's 'awake' (packages drydockref09, drydocklaw11). -/
import Derived.Test.YtifmdcjncbbcgaaTreeN
import Derived.ChangeKeysEq
import Derived.Laws.StructEq
set_option linter.unusedVariables false
set_option linter.unusedSimpArgs false
set_option maxRecDepth 100000
namespace Go.EW
open Go.RowKit
section
variable {P : Program} {e : Env} {w : World} {dst : Option Tmp} {ty : TypeId} {pos : String} {af : Array Edge} {gd : Option (Nat × Bool)}
theorem run_items_self {E : TypeId} {xs : Array Value} (d : Nat) (he : P.underlying E = some (.int .i64)) : ∀ is : List Nat, (∀ i ∈ is, ∃ a, xs[i]? = some (.int .i64 a)) → (Op.eqItems (d + 1) E 1 xs xs is).run P w = .ok true w
  | [], _ => by simp [Op.eqItems]
  | i :: r, h => by
    obtain ⟨a, ha⟩ := h i (by simp)
    have hag : aggT P E = some false := by simp [aggT, he, TypeDesc.isRow]
    have hp : (part E xs (i * 1)).run P w = .ok (.int .i64 a) w := by simp [part, run_aggT hag, ha]
    simp only [Op.eqItems, Sem.run_bind, hp, Result.andThen_ok, run_equalIn_int w d E .i64 .i64 a a he]
    simp [run_items_self d he r fun j hj => h j (by simp [hj])]
theorem R_eqlArrSelf {x y : Operand} {t E yt : TypeId} {m : Nat} {xs : Array Value} (hu : P.underlying t = some (.array m E)) (he : P.underlying E = some (.int .i64)) (hs : sizeOfT P E = some 1) (hm : P.eqGuardType P.depth t = false) (hx : ev e x = some (.agg xs)) (hy : ev e y = some (.agg xs)) (ha : ∀ i, i < m → ∃ a, xs[i]? = some (.int .i64 a)) :
    Runs P e w ⟨dst, .binOp .eql t x y yt, ty, pos, af, gd⟩ (.bool true) w := fun ρ h => by
  obtain ⟨i, hi, hi1⟩ := info_of_size hs
  have hc : P.cellsOf E = 1 := by simp [Program.cellsOf, hi, hi1]
  have h1 : (Op.equalIn 10000 t (.agg xs) (.agg xs)).run P w = .ok true w := by
    rw [show (10000 : Nat) = 9999 + 1 from rfl, run_equalIn_array w 9999 xs xs hu hi, hc]
    exact run_items_self 9998 he _ fun j hj => ha j (by simpa using hj)
  simp only [execOp, h x _ hx, h y _ hy, Sem.run_bind, run_eqGuard_agg w .eql t x y xs xs hm, Result.andThen_ok, run_eql_struct, h1, Sem.run_pure]
end
end Go.EW
namespace Go.Proofs.Ytifmdcjncbbcgaa
open Go.EW Go.RowKit

def nodeG (k f l z a b c d s u ch : Int) : Array Value := #[.int .i64 k, .int .i64 f, .int .i64 l, .int .i64 z, .int .i64 a, .int .i64 b, .int .i64 c, .int .i64 d, .int .i64 s, .int .i64 u, .slice none 0 0, .int .i64 ch]
theorem ext_ok {w : World} : Ret Try.prog 30 [.slice none 0 0, .slice none 0 0] w fun v w' => v = .bool true ∧ w = w' := by
  refine Ret.enter Try.func30 rfl Try.ntmps30 rfl ?_
  simp only [argEnv, Nat.reduceAdd]
  refine E_seqR ?_
  refine EL_val (R_assign rfl) rfl rfl rfl ?_
  refine EL_nil ?_
  refine E_seq ?_
  refine E_seqR ?_
  refine EL_val (R_move rfl) rfl rfl rfl ?_
  refine EL_val (R_lenSlice rfl Try.underlying30) rfl rfl rfl ?_
  refine EL_val (R_move rfl) rfl rfl rfl ?_
  refine EL_val (R_lenSlice rfl Try.underlying30) rfl rfl rfl ?_
  first | refine EL_val (R_neq_t rfl rfl (by omega)) rfl rfl rfl ?_ | refine EL_val (R_neq_f rfl rfl (by omega)) rfl rfl rfl ?_
  refine EL_nil ?_
  refine E_cond_f rfl ?_
  refine E_skip ?_
  refine thenQ_n ?_
  refine E_seq ?_
  refine E_seqR ?_
  refine EL_val (R_assign rfl) rfl rfl rfl ?_
  refine EL_nil ?_
  refine E_block ?_
  refine E_loop (fun m' e' w' => m' = 0 ∧ e' = [(0, .slice none 0 0), (1, .slice none 0 0), (5, .int .i64 0)] ∧ w = w') 0 [(0, .slice none 0 0), (1, .slice none 0 0), (5, .int .i64 0)] ⟨rfl, rfl, rfl, trivial⟩ ⟨rfl, rfl, rfl⟩ ?_
  rintro m' e w2 ⟨rfl, rfl, rfl⟩
  refine E_seq ?_
  refine E_seqR ?_
  refine EL_val (R_move rfl) rfl rfl rfl ?_
  refine EL_val (R_move rfl) rfl rfl rfl ?_
  refine EL_val (R_lenSlice rfl Try.underlying30) rfl rfl rfl ?_
  first | refine EL_val (R_lss_t rfl rfl (by omega)) rfl rfl rfl ?_ | refine EL_val (R_lss_f rfl rfl (by omega)) rfl rfl rfl ?_
  refine EL_nil ?_
  refine E_cond_f rfl ?_
  refine E_exit ?_
  refine thenQ_e ?_
  refine thenQ_e ?_
  refine inB_eq rfl ?_
  refine thenQ_n ?_
  refine E_seqR ?_
  refine EL_val (R_assign rfl) rfl rfl rfl ?_
  refine EL_nil ?_
  refine E_ret ?_
  refine ret1 (.inr rfl) rfl rfl ?_
  exact ⟨rfl, rfl⟩
theorem same_ok {w : World} {k f l z a b c d s u ch : Int} : Ret Try.prog 13 [.agg (nodeG k f l z a b c d s u ch), .agg (nodeG k f l z a b c d s u ch)] w fun v w' => v = .bool true ∧ Mods No w w' := by
  have hcell : ∀ {w' : World} {g : Nat}, Bk w' g (nodeG k f l z a b c d s u ch) 32 → Cells w' g (0 + 4) #[.int .i64 a, .int .i64 b, .int .i64 c, .int .i64 d] := fun hb => hb.cells _ _ fun j v hj => by
    rcases (by have := (Array.getElem?_eq_some_iff.1 hj).1; simp at this; omega : j = 0 ∨ j = 1 ∨ j = 2 ∨ j = 3) with rfl | rfl | rfl | rfl <;> exact hj
  have hch : ∀ i, i < 4 → ∃ q, (#[.int .i64 a, .int .i64 b, .int .i64 c, .int .i64 d] : Array Value)[i]? = some (.int .i64 q) := fun i hi => by
    rcases (by omega : i = 0 ∨ i = 1 ∨ i = 2 ∨ i = 3) with rfl | rfl | rfl | rfl
    · exact ⟨a, rfl⟩
    · exact ⟨b, rfl⟩
    · exact ⟨c, rfl⟩
    · exact ⟨d, rfl⟩
  refine Ret.enter Try.func13 rfl Try.ntmps13 rfl ?_
  simp only [argEnv, Nat.reduceAdd]
  refine E_seqR ?_
  refine EL_step rfl ?_
  refine EO_box rfl rfl ?_
  intro w1 hn1
  refine EL_step rfl ?_
  refine EO_box rfl rfl ?_
  intro w2 hn2
  refine EL_val (R_assign rfl) rfl rfl rfl ?_
  refine EL_nil ?_
  have h1 : Bk w2 w.heap.size (nodeG k f l z a b c d s u ch) 32 := hn2.mods.bk' hn1.bk
  have h2 : Bk w2 w1.heap.size (nodeG k f l z a b c d s u ch) 32 := hn2.bk
  have hm := hn1.mods.trans hn2.mods
  clear hn1 hn2
  refine E_seqR ?_
  refine EL_val (R_fieldAddr rfl K.fT32_0) rfl rfl rfl ?_
  refine EL_val (R_load rfl K.ag3 (h1.cell rfl)) rfl rfl rfl ?_
  refine EL_val (R_fieldAddr rfl K.fT32_0) rfl rfl rfl ?_
  refine EL_val (R_load rfl K.ag3 (h2.cell rfl)) rfl rfl rfl ?_
  first | refine EL_val (R_eql_t rfl rfl (by omega)) rfl rfl rfl ?_ | refine EL_val (R_eql_f rfl rfl (by omega)) rfl rfl rfl ?_
  refine EL_val (R_move rfl) rfl rfl rfl ?_
  first | refine EL_val (R_fieldAddr rfl K.fT32_1) rfl rfl rfl ?_ | refine EL_not rfl rfl rfl ?_
  first | refine EL_val (R_load rfl K.ag3 (h1.cell rfl)) rfl rfl rfl ?_ | refine EL_not rfl rfl rfl ?_
  first | refine EL_val (R_fieldAddr rfl K.fT32_1) rfl rfl rfl ?_ | refine EL_not rfl rfl rfl ?_
  first | refine EL_val (R_load rfl K.ag3 (h2.cell rfl)) rfl rfl rfl ?_ | refine EL_not rfl rfl rfl ?_
  first | refine EL_val (R_eql_t rfl rfl (by omega)) rfl rfl rfl ?_ | refine EL_val (R_eql_f rfl rfl (by omega)) rfl rfl rfl ?_ | refine EL_not rfl rfl rfl ?_
  first | refine EL_val (R_pick_t rfl rfl) rfl rfl rfl ?_ | refine EL_val (R_pick_f rfl rfl) rfl rfl rfl ?_
  refine EL_val (R_move rfl) rfl rfl rfl ?_
  first | refine EL_val (R_fieldAddr rfl K.fT32_2) rfl rfl rfl ?_ | refine EL_not rfl rfl rfl ?_
  first | refine EL_val (R_load rfl K.ag3 (h1.cell rfl)) rfl rfl rfl ?_ | refine EL_not rfl rfl rfl ?_
  first | refine EL_val (R_fieldAddr rfl K.fT32_2) rfl rfl rfl ?_ | refine EL_not rfl rfl rfl ?_
  first | refine EL_val (R_load rfl K.ag3 (h2.cell rfl)) rfl rfl rfl ?_ | refine EL_not rfl rfl rfl ?_
  first | refine EL_val (R_eql_t rfl rfl (by omega)) rfl rfl rfl ?_ | refine EL_val (R_eql_f rfl rfl (by omega)) rfl rfl rfl ?_ | refine EL_not rfl rfl rfl ?_
  first | refine EL_val (R_pick_t rfl rfl) rfl rfl rfl ?_ | refine EL_val (R_pick_f rfl rfl) rfl rfl rfl ?_
  refine EL_val (R_move rfl) rfl rfl rfl ?_
  first | refine EL_val (R_fieldAddr rfl K.fT32_3) rfl rfl rfl ?_ | refine EL_not rfl rfl rfl ?_
  first | refine EL_val (R_load rfl K.ag3 (h1.cell rfl)) rfl rfl rfl ?_ | refine EL_not rfl rfl rfl ?_
  first | refine EL_val (R_fieldAddr rfl K.fT32_3) rfl rfl rfl ?_ | refine EL_not rfl rfl rfl ?_
  first | refine EL_val (R_load rfl K.ag3 (h2.cell rfl)) rfl rfl rfl ?_ | refine EL_not rfl rfl rfl ?_
  first | refine EL_val (R_eql_t rfl rfl (by omega)) rfl rfl rfl ?_ | refine EL_val (R_eql_f rfl rfl (by omega)) rfl rfl rfl ?_ | refine EL_not rfl rfl rfl ?_
  first | refine EL_val (R_pick_t rfl rfl) rfl rfl rfl ?_ | refine EL_val (R_pick_f rfl rfl) rfl rfl rfl ?_
  refine EL_val (R_move rfl) rfl rfl rfl ?_
  first | refine EL_val (R_fieldAddr rfl K.fT32_4) rfl rfl rfl ?_ | refine EL_not rfl rfl rfl ?_
  first | refine EL_val (R_loadAgg rfl K.ag29 (hcell h1) (K.sz29)) rfl rfl rfl ?_ | refine EL_not rfl rfl rfl ?_
  first | refine EL_val (R_fieldAddr rfl K.fT32_4) rfl rfl rfl ?_ | refine EL_not rfl rfl rfl ?_
  first | refine EL_val (R_loadAgg rfl K.ag29 (hcell h2) (K.sz29)) rfl rfl rfl ?_ | refine EL_not rfl rfl rfl ?_
  first | refine EL_val (R_eqlArrSelf Try.underlying29 Try.underlying3 K.sz3 (by kernel_rfl) rfl rfl hch) rfl rfl rfl ?_ | refine EL_not rfl rfl rfl ?_
  first | refine EL_val (R_pick_t rfl rfl) rfl rfl rfl ?_ | refine EL_val (R_pick_f rfl rfl) rfl rfl rfl ?_
  refine EL_val (R_move rfl) rfl rfl rfl ?_
  first | refine EL_val (R_fieldAddr rfl K.fT32_5) rfl rfl rfl ?_ | refine EL_not rfl rfl rfl ?_
  first | refine EL_val (R_load rfl K.ag3 (h1.cell rfl)) rfl rfl rfl ?_ | refine EL_not rfl rfl rfl ?_
  first | refine EL_val (R_fieldAddr rfl K.fT32_5) rfl rfl rfl ?_ | refine EL_not rfl rfl rfl ?_
  first | refine EL_val (R_load rfl K.ag3 (h2.cell rfl)) rfl rfl rfl ?_ | refine EL_not rfl rfl rfl ?_
  first | refine EL_val (R_eql_t rfl rfl (by omega)) rfl rfl rfl ?_ | refine EL_val (R_eql_f rfl rfl (by omega)) rfl rfl rfl ?_ | refine EL_not rfl rfl rfl ?_
  first | refine EL_val (R_pick_t rfl rfl) rfl rfl rfl ?_ | refine EL_val (R_pick_f rfl rfl) rfl rfl rfl ?_
  refine EL_val (R_move rfl) rfl rfl rfl ?_
  first | refine EL_val (R_fieldAddr rfl K.fT32_6) rfl rfl rfl ?_ | refine EL_not rfl rfl rfl ?_
  first | refine EL_val (R_load rfl K.ag3 (h1.cell rfl)) rfl rfl rfl ?_ | refine EL_not rfl rfl rfl ?_
  first | refine EL_val (R_fieldAddr rfl K.fT32_6) rfl rfl rfl ?_ | refine EL_not rfl rfl rfl ?_
  first | refine EL_val (R_load rfl K.ag3 (h2.cell rfl)) rfl rfl rfl ?_ | refine EL_not rfl rfl rfl ?_
  first | refine EL_val (R_eql_t rfl rfl (by omega)) rfl rfl rfl ?_ | refine EL_val (R_eql_f rfl rfl (by omega)) rfl rfl rfl ?_ | refine EL_not rfl rfl rfl ?_
  first | refine EL_val (R_pick_t rfl rfl) rfl rfl rfl ?_ | refine EL_val (R_pick_f rfl rfl) rfl rfl rfl ?_
  refine EL_val (R_move rfl) rfl rfl rfl ?_
  first | refine EL_val (R_fieldAddr rfl K.fT32_8) rfl rfl rfl ?_ | refine EL_not rfl rfl rfl ?_
  first | refine EL_val (R_load rfl K.ag3 (h1.cell rfl)) rfl rfl rfl ?_ | refine EL_not rfl rfl rfl ?_
  first | refine EL_val (R_fieldAddr rfl K.fT32_8) rfl rfl rfl ?_ | refine EL_not rfl rfl rfl ?_
  first | refine EL_val (R_load rfl K.ag3 (h2.cell rfl)) rfl rfl rfl ?_ | refine EL_not rfl rfl rfl ?_
  first | refine EL_val (R_eql_t rfl rfl (by omega)) rfl rfl rfl ?_ | refine EL_val (R_eql_f rfl rfl (by omega)) rfl rfl rfl ?_ | refine EL_not rfl rfl rfl ?_
  first | refine EL_val (R_pick_t rfl rfl) rfl rfl rfl ?_ | refine EL_val (R_pick_f rfl rfl) rfl rfl rfl ?_
  refine EL_val (R_move rfl) rfl rfl rfl ?_
  first | refine EL_val (R_fieldAddr rfl K.fT32_7) rfl rfl rfl ?_ | refine EL_not rfl rfl rfl ?_
  first | refine EL_val (R_load rfl K.ag30 (h1.cell rfl)) rfl rfl rfl ?_ | refine EL_not rfl rfl rfl ?_
  first | refine EL_val (R_fieldAddr rfl K.fT32_7) rfl rfl rfl ?_ | refine EL_not rfl rfl rfl ?_
  first | refine EL_val (R_load rfl K.ag30 (h2.cell rfl)) rfl rfl rfl ?_ | refine EL_not rfl rfl rfl ?_
  refine EL_step rfl ?_
  refine EO_call K.bd30 rfl rfl (ext_ok) ?_
  rintro _ _ ⟨rfl, rfl⟩
  first | refine EL_val (R_pick_t rfl rfl) rfl rfl rfl ?_ | refine EL_val (R_pick_f rfl rfl) rfl rfl rfl ?_
  refine EL_val (R_assign rfl) rfl rfl rfl ?_
  refine EL_nil ?_
  refine E_ret ?_
  refine ret1 (.inr rfl) rfl rfl ?_
  exact ⟨rfl, hm⟩
theorem ints_ok {w : World} {A B : Option Addr} {l : List Int} {c c' : Nat} (ha : IS w A l) (hb : IS w B l) (hl : l.length ≤ 9223372036854775807) :
    Ret Try.prog 16 [.slice A l.length c, .slice B l.length c'] w fun v w' => v = .bool true ∧ Mods No w w' := by
  refine Ret.enter Try.func16 rfl Try.ntmps16 rfl ?_
  simp only [argEnv, Nat.reduceAdd]
  refine E_seqR ?_
  refine EL_val (R_assign rfl) rfl rfl rfl ?_
  refine EL_nil ?_
  refine E_seq ?_
  refine E_seqR ?_
  refine EL_val (R_move rfl) rfl rfl rfl ?_
  refine EL_val (R_lenSlice rfl Try.underlying22) rfl rfl rfl ?_
  refine EL_val (R_move rfl) rfl rfl rfl ?_
  refine EL_val (R_lenSlice rfl Try.underlying22) rfl rfl rfl ?_
  first | refine EL_val (R_neq_t rfl rfl (by omega)) rfl rfl rfl ?_ | refine EL_val (R_neq_f rfl rfl (by omega)) rfl rfl rfl ?_
  refine EL_nil ?_
  refine E_cond_f rfl ?_
  refine E_skip ?_
  refine thenQ_n ?_
  refine E_seq ?_
  refine E_seqR ?_
  refine EL_val (R_assign rfl) rfl rfl rfl ?_
  refine EL_nil ?_
  refine E_block ?_
  refine E_loop (fun m' e' w' => ∃ i, i ≤ l.length ∧ m' = l.length - i ∧ e' = [(0, .slice (A) l.length c), (1, .slice (B) l.length c'), (5, .int .i64 ((i : Nat) : Int))] ∧ Mods No w w') l.length [(0, .slice (A) l.length c), (1, .slice (B) l.length c'), (5, .int .i64 ((0 : Nat) : Int))] ⟨rfl, rfl, rfl, trivial⟩ ⟨0, by omega, by omega, rfl, Mods.refl _ _⟩ ?_
  rintro m' e w2 ⟨i, hi, rfl, rfl, hm⟩
  by_cases hlt : i < l.length
  · obtain ⟨g, o, rfl, hc⟩ := ha.cell hlt
    obtain ⟨g', o', rfl, hc'⟩ := hb.cell hlt
    refine E_seq ?_
    refine E_seqR ?_
    refine EL_val (R_move rfl) rfl rfl rfl ?_
    refine EL_val (R_move rfl) rfl rfl rfl ?_
    refine EL_val (R_lenSlice rfl Try.underlying22) rfl rfl rfl ?_
    first | refine EL_val (R_lss_t rfl rfl (by omega)) rfl rfl rfl ?_ | refine EL_val (R_lss_f rfl rfl (by omega)) rfl rfl rfl ?_
    refine EL_nil ?_
    refine E_cond_t rfl ?_
    refine E_skip ?_
    refine thenQ_n ?_
    refine E_seq ?_
    refine E_block ?_
    refine E_seqD (fun w' => [(1000, fun w'' => w'' = w')]) 9 K.mix rfl ?_
    intro w3 hm3 hh3
    refine EA_pure 0 rfl (fun _ => R_move rfl) (by kernel_rfl) rfl rfl rfl ?_
    refine EA_pure 1 rfl (fun _ => R_move rfl) (by kernel_rfl) rfl rfl rfl ?_
    refine EA_pure 2 rfl (fun _ => R_indexAddr rfl rfl Try.underlying22 K.sz3 (m := i) rfl hlt) (by kernel_rfl) rfl rfl rfl ?_
    refine EA_still 3 [1000] rfl (R_load rfl K.ag3 ((by rw [Nat.mul_one]; exact (hm.trans hm3).cell hc id))) rfl (by kernel_rfl) (by kernel_rfl) rfl rfl rfl ?_
    refine EA_pure 4 rfl (fun _ => R_move rfl) (by kernel_rfl) rfl rfl rfl ?_
    refine EA_pure 5 rfl (fun _ => R_move rfl) (by kernel_rfl) rfl rfl rfl ?_
    refine EA_pure 6 rfl (fun _ => R_indexAddr rfl rfl Try.underlying22 K.sz3 (m := i) rfl hlt) (by kernel_rfl) rfl rfl rfl ?_
    refine EA_still 7 [1000] rfl (R_load rfl K.ag3 ((by rw [Nat.mul_one]; exact (hm.trans hm3).cell hc' id))) rfl (by kernel_rfl) (by kernel_rfl) rfl rfl rfl ?_
    first | refine EA_pure 8 rfl (fun _ => R_neq_t rfl rfl (by omega)) (by kernel_rfl) rfl rfl rfl ?_ | refine EA_pure 8 rfl (fun _ => R_neq_f rfl rfl (by omega)) (by kernel_rfl) rfl rfl rfl ?_
    refine EA_done (by kernel_rfl) ⟨fun _ => rfl, trivial⟩ ?_
    refine E_cond_f rfl ?_
    refine E_skip ?_
    refine inB_n ?_
    refine thenQ_n ?_
    refine E_region ?_
    refine EL_val (R_move rfl) rfl rfl rfl ?_
    first | refine EL_val (R_inc rfl (by omega)) rfl rfl rfl ?_ | refine EL_val (R_add_in rfl rfl (by omega) (by omega)) rfl rfl rfl ?_
    refine EL_val (R_assign rfl) rfl rfl rfl ?_
    refine EL_nil ?_
    refine thenQ_n ?_
    exact ⟨rfl, l.length - (i + 1), [(0, .slice (some ⟨g, o, none⟩) l.length c), (1, .slice (some ⟨g', o', none⟩) l.length c'), (5, .int .i64 ((i + 1 : Nat) : Int))], by omega, ⟨rfl, rfl, rfl, trivial⟩, i + 1, by omega, rfl, rfl, hm.trans hm3⟩
  · refine E_seq ?_
    refine E_seqR ?_
    refine EL_val (R_move rfl) rfl rfl rfl ?_
    refine EL_val (R_move rfl) rfl rfl rfl ?_
    refine EL_val (R_lenSlice rfl Try.underlying22) rfl rfl rfl ?_
    first | refine EL_val (R_lss_t rfl rfl (by omega)) rfl rfl rfl ?_ | refine EL_val (R_lss_f rfl rfl (by omega)) rfl rfl rfl ?_
    refine EL_nil ?_
    refine E_cond_f rfl ?_
    refine E_exit ?_
    refine thenQ_e ?_
    refine thenQ_e ?_
    refine inB_eq rfl ?_
    refine thenQ_n ?_
    refine E_seqR ?_
    refine EL_val (R_assign rfl) rfl rfl rfl ?_
    refine EL_nil ?_
    refine E_ret ?_
    refine ret1 (.inr rfl) rfl rfl ?_
    exact ⟨rfl, hm⟩
theorem writes_ok {w : World} {B B' : Nat} {A A' : Option Addr} {L : List (Int × List UInt8)} {c c' : Nat} (ha : RW w B A L) (hb : RW w B' A' L) (hl : L.length ≤ 9223372036854775807) :
    Ret Try.prog 14 [.slice A L.length c, .slice A' L.length c'] w fun v w' => v = .bool true ∧ Mods No w w' := by
  refine Ret.enter Try.func14 rfl Try.ntmps14 rfl ?_
  simp only [argEnv, Nat.reduceAdd]
  refine E_seqR ?_
  refine EL_val (R_assign rfl) rfl rfl rfl ?_
  refine EL_nil ?_
  refine E_seq ?_
  refine E_seqR ?_
  refine EL_val (R_move rfl) rfl rfl rfl ?_
  refine EL_val (R_lenSlice rfl Try.underlying33) rfl rfl rfl ?_
  refine EL_val (R_move rfl) rfl rfl rfl ?_
  refine EL_val (R_lenSlice rfl Try.underlying33) rfl rfl rfl ?_
  first | refine EL_val (R_neq_t rfl rfl (by omega)) rfl rfl rfl ?_ | refine EL_val (R_neq_f rfl rfl (by omega)) rfl rfl rfl ?_
  refine EL_nil ?_
  refine E_cond_f rfl ?_
  refine E_skip ?_
  refine thenQ_n ?_
  refine E_seq ?_
  refine E_seqR ?_
  refine EL_val (R_assign rfl) rfl rfl rfl ?_
  refine EL_nil ?_
  refine E_block ?_
  refine E_loop (fun m' e' w' => ∃ i, i ≤ L.length ∧ m' = L.length - i ∧ e' = [(0, .slice (A) L.length c), (1, .slice (A') L.length c'), (5, .int .i64 ((i : Nat) : Int))] ∧ Mods No w w') L.length [(0, .slice (A) L.length c), (1, .slice (A') L.length c'), (5, .int .i64 ((0 : Nat) : Int))] ⟨rfl, rfl, rfl, trivial⟩ ⟨0, by omega, by omega, rfl, Mods.refl _ _⟩ ?_
  rintro m' e w2 ⟨i, hi, rfl, rfl, hm⟩
  by_cases hlt : i < L.length
  · obtain ⟨g, o, rfl, _, hcs⟩ := ha (by omega)
    obtain ⟨g', o', rfl, _, hcs'⟩ := hb (by omega)
    obtain ⟨Ay, cy, k1, _, k2, _⟩ := hcs i hlt
    obtain ⟨Ay', cy', k1', _, k2', _⟩ := hcs' i hlt
    have a1 := k1 0 _ rfl
    have a2 := k1 1 _ rfl
    have b1 := k1' 0 _ rfl
    have b2 := k1' 1 _ rfl
    refine E_seq ?_
    refine E_seqR ?_
    refine EL_val (R_move rfl) rfl rfl rfl ?_
    refine EL_val (R_move rfl) rfl rfl rfl ?_
    refine EL_val (R_lenSlice rfl Try.underlying33) rfl rfl rfl ?_
    first | refine EL_val (R_lss_t rfl rfl (by omega)) rfl rfl rfl ?_ | refine EL_val (R_lss_f rfl rfl (by omega)) rfl rfl rfl ?_
    refine EL_nil ?_
    refine E_cond_t rfl ?_
    refine E_skip ?_
    refine thenQ_n ?_
    refine E_seq ?_
    refine E_block ?_
    refine E_seqD (fun w' => [(1000, fun w'' => w'' = w')]) 26 K.mix rfl ?_
    intro w3 hm3 hh3
    (have hm03 := hm.trans hm3)
    refine EA_pure 0 rfl (fun _ => R_move rfl) (by kernel_rfl) rfl rfl rfl ?_
    refine EA_pure 1 rfl (fun _ => R_move rfl) (by kernel_rfl) rfl rfl rfl ?_
    refine EA_pure 2 rfl (fun _ => R_indexAddr rfl rfl Try.underlying33 K.sz59 (m := i) rfl hlt) (by kernel_rfl) rfl rfl rfl ?_
    refine EA_pure 3 rfl (fun _ => R_fieldAddr rfl K.fT59_0) (by kernel_rfl) rfl rfl rfl ?_
    refine EA_still 4 [1000] rfl (R_load rfl K.ag3 (hm03.cell a1 id)) rfl (by kernel_rfl) (by kernel_rfl) rfl rfl rfl ?_
    refine EA_pure 5 rfl (fun _ => R_move rfl) (by kernel_rfl) rfl rfl rfl ?_
    refine EA_pure 6 rfl (fun _ => R_move rfl) (by kernel_rfl) rfl rfl rfl ?_
    refine EA_pure 7 rfl (fun _ => R_indexAddr rfl rfl Try.underlying33 K.sz59 (m := i) rfl hlt) (by kernel_rfl) rfl rfl rfl ?_
    refine EA_pure 8 rfl (fun _ => R_fieldAddr rfl K.fT59_0) (by kernel_rfl) rfl rfl rfl ?_
    refine EA_still 9 [1000] rfl (R_load rfl K.ag3 (hm03.cell b1 id)) rfl (by kernel_rfl) (by kernel_rfl) rfl rfl rfl ?_
    first | refine EA_pure 10 rfl (fun _ => R_neq_t rfl rfl (by omega)) (by kernel_rfl) rfl rfl rfl ?_ | refine EA_pure 10 rfl (fun _ => R_neq_f rfl rfl (by omega)) (by kernel_rfl) rfl rfl rfl ?_
    refine EA_pure 11 rfl (fun _ => R_move rfl) (by kernel_rfl) rfl rfl rfl ?_
    first | refine EA_pure 12 rfl (fun _ => R_move rfl) (by kernel_rfl) rfl rfl rfl ?_ | refine EA_not 12 rfl (by kernel_rfl) rfl rfl rfl ?_
    first | refine EA_pure 13 rfl (fun _ => R_move rfl) (by kernel_rfl) rfl rfl rfl ?_ | refine EA_not 13 rfl (by kernel_rfl) rfl rfl rfl ?_
    refine EA_pure 14 rfl (fun _ => R_indexAddr rfl rfl Try.underlying33 K.sz59 (m := i) rfl hlt) (by kernel_rfl) rfl rfl rfl ?_
    first | refine EA_pure 15 rfl (fun _ => R_fieldAddr rfl K.fT59_1) (by kernel_rfl) rfl rfl rfl ?_ | refine EA_not 15 rfl (by kernel_rfl) rfl rfl rfl ?_
    refine EA_still 16 [1000] rfl (R_load rfl K.ag56 (hm03.cell a2 id)) rfl (by kernel_rfl) (by kernel_rfl) rfl rfl rfl ?_
    refine EA_still 17 [1000] rfl (R_bytesStr rfl (k2.no' hm03) rfl Try.underlying56 Try.underlying5 Try.underlying9) rfl (by kernel_rfl) (by kernel_rfl) rfl rfl rfl ?_
    first | refine EA_pure 18 rfl (fun _ => R_move rfl) (by kernel_rfl) rfl rfl rfl ?_ | refine EA_not 18 rfl (by kernel_rfl) rfl rfl rfl ?_
    first | refine EA_pure 19 rfl (fun _ => R_move rfl) (by kernel_rfl) rfl rfl rfl ?_ | refine EA_not 19 rfl (by kernel_rfl) rfl rfl rfl ?_
    refine EA_pure 20 rfl (fun _ => R_indexAddr rfl rfl Try.underlying33 K.sz59 (m := i) rfl hlt) (by kernel_rfl) rfl rfl rfl ?_
    first | refine EA_pure 21 rfl (fun _ => R_fieldAddr rfl K.fT59_1) (by kernel_rfl) rfl rfl rfl ?_ | refine EA_not 21 rfl (by kernel_rfl) rfl rfl rfl ?_
    refine EA_still 22 [1000] rfl (R_load rfl K.ag56 (hm03.cell b2 id)) rfl (by kernel_rfl) (by kernel_rfl) rfl rfl rfl ?_
    refine EA_still 23 [1000] rfl (R_bytesStr rfl (k2'.no' hm03) rfl Try.underlying56 Try.underlying5 Try.underlying9) rfl (by kernel_rfl) (by kernel_rfl) rfl rfl rfl ?_
    first | refine EA_pure 24 rfl (fun _ => R_strNeq_t rfl rfl (fun h => h rfl)) (by kernel_rfl) rfl rfl rfl ?_ | refine EA_pure 24 rfl (fun _ => R_strNeq_f rfl rfl (fun h => h rfl)) (by kernel_rfl) rfl rfl rfl ?_
    first | refine EA_pure 25 rfl (fun _ => R_pick_t rfl rfl) (by kernel_rfl) rfl rfl rfl ?_ | refine EA_pure 25 rfl (fun _ => R_pick_f rfl rfl) (by kernel_rfl) rfl rfl rfl ?_
    refine EA_done (by kernel_rfl) ⟨fun _ => rfl, trivial⟩ ?_
    refine E_cond_f rfl ?_
    refine E_skip ?_
    refine inB_n ?_
    refine thenQ_n ?_
    refine E_region ?_
    refine EL_val (R_move rfl) rfl rfl rfl ?_
    first | refine EL_val (R_inc rfl (by omega)) rfl rfl rfl ?_ | refine EL_val (R_add_in rfl rfl (by omega) (by omega)) rfl rfl rfl ?_
    refine EL_val (R_assign rfl) rfl rfl rfl ?_
    refine EL_nil ?_
    refine thenQ_n ?_
    exact ⟨rfl, L.length - (i + 1), [(0, .slice (some ⟨g, o, none⟩) L.length c), (1, .slice (some ⟨g', o', none⟩) L.length c'), (5, .int .i64 ((i + 1 : Nat) : Int))], by omega, ⟨rfl, rfl, rfl, trivial⟩, i + 1, by omega, rfl, rfl, hm.trans hm3⟩
  · refine E_seq ?_
    refine E_seqR ?_
    refine EL_val (R_move rfl) rfl rfl rfl ?_
    refine EL_val (R_move rfl) rfl rfl rfl ?_
    refine EL_val (R_lenSlice rfl Try.underlying33) rfl rfl rfl ?_
    first | refine EL_val (R_lss_t rfl rfl (by omega)) rfl rfl rfl ?_ | refine EL_val (R_lss_f rfl rfl (by omega)) rfl rfl rfl ?_
    refine EL_nil ?_
    refine E_cond_f rfl ?_
    refine E_exit ?_
    refine thenQ_e ?_
    refine thenQ_e ?_
    refine inB_eq rfl ?_
    refine thenQ_n ?_
    refine E_seqR ?_
    refine EL_val (R_assign rfl) rfl rfl rfl ?_
    refine EL_nil ?_
    refine E_ret ?_
    refine ret1 (.inr rfl) rfl rfl ?_
    exact ⟨rfl, hm⟩
theorem WLo.rw {w : World} {B base : Nat} {A : Option Addr} {c : Nat} {L : List (Int × List UInt8)} {xs : List Value} (h : WLo w B L xs) (ho : w.ownsRow base 59 2 (.slice A L.length c) L.length xs) : RW w w.heap.size A L := fun h0 => by
  obtain ⟨g, cap, cur, hv, _, hg, _, _, _, ht⟩ := own_form ho h0
  injection hv with e1 _ _
  subst e1
  refine ⟨g, 0, rfl, hg.lt, fun k hk => ?_⟩
  obtain ⟨y, h1, h2, h3⟩ := h.at_ k hk
  obtain ⟨Ay, cy, rfl, hcy, _⟩ := own_sl h3
  have hat : ∀ (j : Nat) (u : Value), xs[j]? = some u → cur[0 + j]? = some u := by
    intro j u hu
    rw [← ht, List.getElem?_take] at hu
    split at hu
    · rw [Nat.zero_add]; simpa using hu
    · cases hu
  refine ⟨Ay, cy, hg.cells _ _ fun j v hj => ?_, hcy, Src.own h3, fun g' i' hA h0' => ?_⟩
  · rcases (by have := (Array.getElem?_eq_some_iff.1 hj).1; simp at this; omega : j = 0 ∨ j = 1) with rfl | rfl
    · have := hat _ _ h1
      rw [Nat.add_zero]
      rw [this]; exact hj
    · have := hat _ _ h2
      rw [Nat.add_assoc, this]; exact hj
  · obtain ⟨g2, cap2, cur2, hv2, _, hg2, _⟩ := own_form h3 h0'
    injection hv2 with e1 _ _
    rw [e1] at hA
    injection hA with hA
    injection hA with hA _ _
    subst hA
    exact hg2.lt
/-- the simplest facts -/
theorem awake_ok {w : World} : Ret Try.prog 9 [] w fun v w' => v = .bool true ∧ Mods No w w' := by
  have he : planE [60, 61, 0, 62, 80] [90] = 0 := by decide +kernel
  have hG : planG [60, 61, 0, 62, 80] [90] = 90 := by decide +kernel
  have hT : trimS [60, 61, 0, 62, 80] = [60, 61, 0, 62, 80] := by decide +kernel
  have hN : ([90] : List Int).take (needS [60, 61, 0, 62, 80]) = [90] := by decide +kernel
  have hpl := fun {w' : World} {A A' : Option Addr} {c c' : Nat} (h : IS w' A [60, 61, 0, 62, 80]) (hA : ∀ g i, A = some ⟨g, i, none⟩ → g < w'.heap.size) (hc : 5 ≤ c) (hs : ∀ a, A' = some a → a.spot = none) (h' : IS w' A' [90]) (hA' : ∀ g i, A' = some ⟨g, i, none⟩ → g < w'.heap.size) (hc' : 1 ≤ c') => plan_ok (c := c) (c' := c') h hA hc (by decide) hs h' hA' hc' (by decide) he
  have hbk := fun {w' : World} {A : Option Addr} {c : Nat} (h : RW w' w'.heap.size A (planL [60, 61, 0, 62, 80] [90])) => back_ok (c := c) (M := []) he (by rw [List.append_nil]; exact h) (by rw [List.append_nil, (planned_of he).length]; decide +kernel)
  obtain ⟨L, hL⟩ : ∃ L, L = planL [60, 61, 0, 62, 80] [90] := ⟨_, rfl⟩
  obtain ⟨Bv, hBv⟩ : ∃ Bv, Bv = planB [60, 61, 0, 62, 80] [90] := ⟨_, rfl⟩
  simp only [List.append_nil] at hbk
  rw [hG, ← hL, ← hBv] at hpl
  rw [hG, hT, hN, ← hL, ← hBv] at hbk
  clear he hG hT hN
  refine Ret.enter Try.func9 rfl Try.ntmps9 rfl ?_
  simp only [argEnv, Nat.reduceAdd]
  refine E_seqR ?_
  refine EL_val (R_assign rfl) rfl rfl rfl ?_
  refine EL_nil ?_
  refine E_seqR ?_
  refine EL_step rfl ?_
  refine EO_buildSlice Try.underlying22 K.zr3 K.sz3 rfl rfl rfl (cells := #[.int .i64 60, .int .i64 61, .int .i64 0, .int .i64 62, .int .i64 80]) (by kernel_rfl) rfl ?_
  intro w1 hn1
  refine EL_step rfl ?_
  refine EO_buildSlice Try.underlying22 K.zr3 K.sz3 rfl rfl rfl (cells := #[.int .i64 90]) (by kernel_rfl) rfl ?_
  intro w2 hn2
  refine EL_step rfl ?_
  refine EO_call K.bd11 rfl rfl (hpl (Src.bk (hn2.mods.bk' hn1.bk) 5 1 _ rfl (fun j v hj => by rw [Nat.zero_add]; simpa [ival] using hj)) (fun g i hg => by injection hg with hg; injection hg with hg _ _; have := hn1.size; have := hn2.size; omega) (Nat.le_refl _) (fun a ha => by cases ha; rfl) (Src.bk hn2.bk 1 1 _ rfl (fun j v hj => by rw [Nat.zero_add]; simpa [ival] using hj)) (fun g i hg => by injection hg with hg; injection hg with hg _ _; have := hn2.size; omega) (Nat.le_refl _)) ?_
  rintro _ w3 ⟨⟨vw, xs, rfl, how, hwl⟩, hm3⟩
  (obtain ⟨Aw, cw, rfl, _, _⟩ := own_sl how)
  refine EL_val (R_move rfl) rfl rfl rfl ?_
  refine EL_val (R_extract rfl rfl) rfl rfl rfl ?_
  refine EL_val (R_extract rfl rfl) rfl rfl rfl ?_
  refine EL_val (R_extract rfl rfl) rfl rfl rfl ?_
  refine EL_step rfl ?_
  refine EO_alloc K.zr32 rfl ?_
  intro w4 hn4
  refine EL_step rfl ?_
  refine EO_storeWhole hn4.bk rfl rfl K.sz32 rfl rfl ?_
  intro w5 hu5
  refine EL_val (R_assign rfl) rfl rfl rfl ?_
  refine EL_val (R_assign rfl) rfl rfl rfl ?_
  refine EL_nil ?_
  have how5 := own_upd (hn4.mods.own how fun _ _ h => h) hu5 hn4.bk (by decide)
  have hwl5 := (hwl.mods hn4.mods fun _ _ _ h => h).mods hu5.mods fun k C hk e => by subst e; exact absurd (hk.inj hn4.bk).2 (by decide)
  have hm05 : Mods No w w5 := (((hn1.mods.trans hn2.mods).trans hm3).trans hn4.mods).trans' hu5.mods fun k hk e => by have := hn1.size; have := hn2.size; have := hm3.size; omega
  refine E_seqR ?_
  refine EL_val (R_loadAgg rfl K.ag32 (whole_cells hu5.bk) (K.sz32)) rfl rfl rfl ?_
  refine EL_val (R_move rfl) rfl rfl rfl ?_
  refine EL_step rfl ?_
  refine EO_call K.bd15 rfl rfl (hbk (hwl5.rw how5)) ?_
  rintro _ w6 ⟨⟨v1, v2, rfl, ho1, ho2⟩, hm6⟩
  (obtain ⟨A1, c1, rfl, _, _⟩ := own_sl (show w6.ownsRow w5.heap.size 3 1 v1 5 (ival [60, 61, 0, 62, 80]) from ho1); obtain ⟨A2, c2, rfl, _, _⟩ := own_sl (show w6.ownsRow w5.heap.size 3 1 v2 1 (ival [90]) from ho2); obtain ⟨g1, o1, rfl, hc1⟩ := (OI.is ho1).cell (i := 4) (by decide))
  refine EL_val (R_move rfl) rfl rfl rfl ?_
  refine EL_val (R_extract rfl rfl) rfl rfl rfl ?_
  refine EL_val (R_extract rfl rfl) rfl rfl rfl ?_
  refine EL_val (R_extract rfl rfl) rfl rfl rfl ?_
  refine EL_val (R_assign rfl) rfl rfl rfl ?_
  refine EL_val (R_assign rfl) rfl rfl rfl ?_
  refine EL_val (R_assign rfl) rfl rfl rfl ?_
  refine EL_nil ?_
  refine E_seqR ?_
  refine EL_val (R_move rfl) rfl rfl rfl ?_
  first | refine EL_val (R_eql_t rfl rfl (by omega)) rfl rfl rfl ?_ | refine EL_val (R_eql_f rfl rfl (by omega)) rfl rfl rfl ?_
  refine EL_val (R_move rfl) rfl rfl rfl ?_
  first | refine EL_val (R_move rfl) rfl rfl rfl ?_ | refine EL_not rfl rfl rfl ?_
  first | refine EL_val (R_eql_t rfl rfl (by omega)) rfl rfl rfl ?_ | refine EL_val (R_eql_f rfl rfl (by omega)) rfl rfl rfl ?_ | refine EL_not rfl rfl rfl ?_
  first | refine EL_val (R_pick_t rfl rfl) rfl rfl rfl ?_ | refine EL_val (R_pick_f rfl rfl) rfl rfl rfl ?_
  refine EL_val (R_move rfl) rfl rfl rfl ?_
  first | refine EL_val (R_fieldAddr rfl K.fT32_5) rfl rfl rfl ?_ | refine EL_not rfl rfl rfl ?_
  first | refine EL_val (R_load rfl K.ag3 ((hm6.bk' hu5.bk).cell rfl)) rfl rfl rfl ?_ | refine EL_not rfl rfl rfl ?_
  first | refine EL_val (R_eql_t rfl rfl (by omega)) rfl rfl rfl ?_ | refine EL_val (R_eql_f rfl rfl (by omega)) rfl rfl rfl ?_ | refine EL_not rfl rfl rfl ?_
  first | refine EL_val (R_pick_t rfl rfl) rfl rfl rfl ?_ | refine EL_val (R_pick_f rfl rfl) rfl rfl rfl ?_
  refine EL_val (R_move rfl) rfl rfl rfl ?_
  first | refine EL_val (R_move rfl) rfl rfl rfl ?_ | refine EL_not rfl rfl rfl ?_
  first | refine EL_val (R_lenSlice rfl Try.underlying22) rfl rfl rfl ?_ | refine EL_not rfl rfl rfl ?_
  first | refine EL_val (R_eql_t rfl rfl (by omega)) rfl rfl rfl ?_ | refine EL_val (R_eql_f rfl rfl (by omega)) rfl rfl rfl ?_ | refine EL_not rfl rfl rfl ?_
  first | refine EL_val (R_pick_t rfl rfl) rfl rfl rfl ?_ | refine EL_val (R_pick_f rfl rfl) rfl rfl rfl ?_
  refine EL_val (R_move rfl) rfl rfl rfl ?_
  first | refine EL_val (R_move rfl) rfl rfl rfl ?_ | refine EL_not rfl rfl rfl ?_
  first | refine EL_val (R_lenSlice rfl Try.underlying22) rfl rfl rfl ?_ | refine EL_not rfl rfl rfl ?_
  first | refine EL_val (R_eql_t rfl rfl (by omega)) rfl rfl rfl ?_ | refine EL_val (R_eql_f rfl rfl (by omega)) rfl rfl rfl ?_ | refine EL_not rfl rfl rfl ?_
  first | refine EL_val (R_pick_t rfl rfl) rfl rfl rfl ?_ | refine EL_val (R_pick_f rfl rfl) rfl rfl rfl ?_
  refine EL_val (R_move rfl) rfl rfl rfl ?_
  first | refine EL_val (R_move rfl) rfl rfl rfl ?_ | refine EL_not rfl rfl rfl ?_
  first | refine EL_val (R_indexAddr rfl rfl Try.underlying22 K.sz3 (m := 4) rfl (by omega)) rfl rfl rfl ?_ | refine EL_not rfl rfl rfl ?_
  first | refine EL_val (R_load rfl K.ag3 (hc1)) rfl rfl rfl ?_ | refine EL_not rfl rfl rfl ?_
  first | refine EL_val (R_eql_t rfl rfl (rfl)) rfl rfl rfl ?_ | refine EL_val (R_eql_f rfl rfl (rfl)) rfl rfl rfl ?_ | refine EL_not rfl rfl rfl ?_
  first | refine EL_val (R_pick_t rfl rfl) rfl rfl rfl ?_ | refine EL_val (R_pick_f rfl rfl) rfl rfl rfl ?_
  refine EL_val (R_assign rfl) rfl rfl rfl ?_
  refine EL_nil ?_
  refine E_ret ?_
  refine ret1 (.inr rfl) rfl rfl ?_
  exact ⟨rfl, hm05.trans hm6⟩
end Go.Proofs.Ytifmdcjncbbcgaa
