/- What ledger's Balanced comes to, where a count is balanced. -/
import Derived.Test.YtiellldikfobbaaLedgerNote
import Derived.Test.YtiellldikfobbaaCkApp
import Derived.WalkKit
import Derived.WalkSpells
import Derived.WalkLawsBesides
import Derived.WalkMore
import Derived.Deep.LoopGhost
set_option linter.unusedVariables false
set_option linter.unusedSimpArgs false
namespace Go.Proofs.Ytiellldikfobbaa
open Go.RowKit
set_option maxHeartbeats 4000000 in
theorem balanced_ct (k a0 a1 a2 a3 a4 a5 q : Int) (h1 : 0 ≤ a1) (h2 : 0 ≤ a2) (h3 : 0 ≤ a3) (h4 : 0 ≤ a4) (h5 : 0 ≤ a5) (hq : 0 ≤ q) (hs : a0 = q + a1 + a2 + a3 + a4 + a5) (hb : a0 ≤ 1000000) :
    Ct Try.prog 12 #[.agg #[.int .i64 k, .int .i64 a0, .int .i64 a1, .int .i64 a2, .int .i64 a3, .int .i64 a4, .int .i64 a5, .int .i64 q]] [] (Gives (.bool true) []) := by
  have h0 : 0 ≤ a0 := by omega
  have n0 : ¬ a0 < 0 := by omega
  have nq : ¬ q < 0 := by omega
  have m1 : ¬ a1 < 0 := by omega
  have m2 : ¬ a2 < 0 := by omega
  have m3 : ¬ a3 < 0 := by omega
  have m4 : ¬ a4 < 0 := by omega
  have m5 : ¬ a5 < 0 := by omega
  have l0 : q ≤ a0 := by omega
  have l1 : a1 ≤ a0 - q := by omega
  have l2 : a2 ≤ a0 - q - a1 := by omega
  have l3 : a3 ≤ a0 - q - a1 - a2 := by omega
  have l4 : a4 ≤ a0 - q - a1 - a2 - a3 := by omega
  have l5 : a5 ≤ a0 - q - a1 - a2 - a3 - a4 := by omega
  have e0 : (a0 - q - a1 - a2 - a3 - a4 - a5 == 0) = true := beq_iff_eq.2 (by omega)
  clear hs
  intro w0 F L w hS
  simp only [List.cons_append, List.nil_append] at hS
  go_enter Try.func12, Try.ntmps12
  go_wp2_with (first | go_skip | (refine ck_load hS rfl rfl rfl (by repeat (first | exact List.Mem.head _ | apply List.Mem.tail)) rfl (by decide +kernel) ?_; simp only [Act.put, List.setIfInBounds_toArray, List.set_cons_zero, List.set_cons_succ]) | (refine ck_store hS rfl rfl rfl (by constructor) (by repeat (first | exact Upd.here _ _ _ | apply Upd.there)) (by simp <;> omega) rfl (by decide +kernel) ?_; clear hS; intro w hS; simp only [Act.put, List.setIfInBounds_toArray, List.set_cons_zero, List.set_cons_succ] at hS ⊢) | (refine ck_box hS rfl rfl (by constructor) ?_; clear hS; intro nb w hS; simp only [Act.put, List.setIfInBounds_toArray, List.set_cons_zero, List.set_cons_succ]) | (refine ck_max rfl rfl rfl rfl ?_; simp only [Act.put, List.setIfInBounds_toArray, List.set_cons_zero, List.set_cons_succ]) | (refine ck_min rfl rfl rfl rfl ?_; simp only [Act.put, List.setIfInBounds_toArray, List.set_cons_zero, List.set_cons_succ])  | (refine ck_region (fun _ => 0) (fun _ => []) [] hS (by kernel_rfl) (by decide +kernel) ?_ ?_; exact ⟨fun _ _ _ h => h.2, fun _ _ h => h⟩; clear hS; intro w hS _; (repeat (first | (refine ckT_max rfl rfl rfl rfl ?_; simp only [Act.put, List.setIfInBounds_toArray, List.set_cons_zero, List.set_cons_succ]) | (refine ckT_min rfl rfl rfl rfl ?_; simp only [Act.put, List.setIfInBounds_toArray, List.set_cons_zero, List.set_cons_succ]) | (apply wpT_pure rfl rfl; (intro _; go_simp; (try (go_ints; (try go_simp))); (first | (rw [decide_eq_true]; omega) | (rw [decide_eq_false]; omega) | rfl)); simp only [Act.put, List.setIfInBounds_toArray, List.set_cons_zero, List.set_cons_succ]) | (refine ckT_load hS rfl rfl rfl (by simp) (by repeat (first | exact List.Mem.head _ | apply List.Mem.tail)) rfl (by decide +kernel) ?_; simp only [Act.put, List.setIfInBounds_toArray, List.set_cons_zero, List.set_cons_succ]) | (refine ckT_store hS rfl rfl rfl (by constructor) (by repeat (first | exact Upd.here _ _ _ | apply Upd.there)) (by simp) rfl (by decide +kernel) (by simp) ?_; clear hS; intro w hS; simp only [Act.put, List.setIfInBounds_toArray, List.set_cons_zero, List.set_cons_succ] at hS ⊢) | (refine wpT_skip rfl ?_; simp only [Act.put, List.setIfInBounds_toArray, List.set_cons_zero, List.set_cons_succ]) | (refine ckT_build1R (e := 3) hS rfl rfl (by constructor) rfl (by decide +kernel) rfl ?_; clear hS; intro q1 w hS; simp only [Act.put, List.setIfInBounds_toArray, List.set_cons_zero, List.set_cons_succ]) | (refine ckT_appendA (e := 3) (sz := 1) (news := [.int .i64 a1, .int .i64 a2, .int .i64 a3, .int .i64 a4, .int .i64 a5]) hS rfl rfl rfl rfl (by first | exact Rem.here _ _ | (apply Rem.there; first | exact Rem.here _ _ | (apply Rem.there; first | exact Rem.here _ _ | (apply Rem.there; first | exact Rem.here _ _ | (apply Rem.there; first | exact Rem.here _ _ | (apply Rem.there; first | exact Rem.here _ _ | (apply Rem.there; first | exact Rem.here _ _ | (apply Rem.there; first | exact Rem.here _ _ | (apply Rem.there; first | exact Rem.here _ _ | (apply Rem.there; first | exact Rem.here _ _ | (apply Rem.there; first | exact Rem.here _ _ | (apply Rem.there; first | exact Rem.here _ _ | (apply Rem.there; first | exact Rem.here _ _ | (apply Rem.there; first | exact Rem.here _ _ | (apply Rem.there; exact Rem.here _ _))))))))))))))) (cells_sub hS (b := nb) (off := 2) (cs := [.int .i64 k, .int .i64 a0, .int .i64 a1, .int .i64 a2, .int .i64 a3, .int .i64 a4, .int .i64 a5, .int .i64 q]) (by repeat (first | exact List.Mem.head _ | apply List.Mem.tail)) (fun j u hu => hu ▸ (by match j with | 0 => rfl | 1 => rfl | 2 => rfl | 3 => rfl | 4 => rfl | j + 5 => simp at hu))) rfl (by simp [Value.oneCell']) (by omega) (by omega) (by decide +kernel) rfl ?_; clear hS; intro g' cap' w hS; simp only [Act.put, List.setIfInBounds_toArray, List.set_cons_zero, List.set_cons_succ]))); refine wpT_nil ?_))
  simp only [List.cons_append, List.nil_append, Nat.reduceAdd] at hS ⊢
  refine wp_loop_rounds 8 ?_; rw [rounds_succ]
  go_wp2_with (first | go_skip | (refine ck_load hS rfl rfl rfl (by repeat (first | exact List.Mem.head _ | apply List.Mem.tail)) rfl (by decide +kernel) ?_; simp only [Act.put, List.setIfInBounds_toArray, List.set_cons_zero, List.set_cons_succ]) | (refine ck_store hS rfl rfl rfl (by constructor) (by repeat (first | exact Upd.here _ _ _ | apply Upd.there)) (by simp <;> omega) rfl (by decide +kernel) ?_; clear hS; intro w hS; simp only [Act.put, List.setIfInBounds_toArray, List.set_cons_zero, List.set_cons_succ] at hS ⊢) | (refine ck_box hS rfl rfl (by constructor) ?_; clear hS; intro nb w hS; simp only [Act.put, List.setIfInBounds_toArray, List.set_cons_zero, List.set_cons_succ]) | (refine ck_max rfl rfl rfl rfl ?_; simp only [Act.put, List.setIfInBounds_toArray, List.set_cons_zero, List.set_cons_succ]) | (refine ck_min rfl rfl rfl rfl ?_; simp only [Act.put, List.setIfInBounds_toArray, List.set_cons_zero, List.set_cons_succ]) | (refine ck_loadRow hS rfl rfl rfl (by repeat (first | exact List.Mem.head _ | apply List.Mem.tail)) rfl (by decide +kernel) ?_; simp only [Act.put, List.setIfInBounds_toArray, List.set_cons_zero, List.set_cons_succ]) | (with_reducible rw [rounds_succ]) | (refine ck_region (fun _ => 0) (fun _ => []) [] hS (by kernel_rfl) (by decide +kernel) ?_ ?_; exact ⟨fun _ _ _ h => h.2, fun _ _ h => h⟩; clear hS; intro w hS _; (repeat (first | (refine ckT_max rfl rfl rfl rfl ?_; simp only [Act.put, List.setIfInBounds_toArray, List.set_cons_zero, List.set_cons_succ]) | (refine ckT_min rfl rfl rfl rfl ?_; simp only [Act.put, List.setIfInBounds_toArray, List.set_cons_zero, List.set_cons_succ]) | (apply wpT_pure rfl rfl; (intro _; go_simp; (try (go_ints; (try go_simp))); (first | (rw [decide_eq_true]; omega) | (rw [decide_eq_false]; omega) | rfl)); simp only [Act.put, List.setIfInBounds_toArray, List.set_cons_zero, List.set_cons_succ]) | (refine ckT_load hS rfl rfl rfl (by simp) (by repeat (first | exact List.Mem.head _ | apply List.Mem.tail)) rfl (by decide +kernel) ?_; simp only [Act.put, List.setIfInBounds_toArray, List.set_cons_zero, List.set_cons_succ]) | (refine ckT_store hS rfl rfl rfl (by constructor) (by repeat (first | exact Upd.here _ _ _ | apply Upd.there)) (by simp) rfl (by decide +kernel) (by simp) ?_; clear hS; intro w hS; simp only [Act.put, List.setIfInBounds_toArray, List.set_cons_zero, List.set_cons_succ] at hS ⊢) | (refine wpT_skip rfl ?_; simp only [Act.put, List.setIfInBounds_toArray, List.set_cons_zero, List.set_cons_succ]) )); refine wpT_nil ?_))
  go_ret
  exact ⟨_, ⟨rfl, rfl⟩, hS.dropN 2⟩
end Go.Proofs.Ytiellldikfobbaa
