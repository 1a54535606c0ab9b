/- TopTurns: what functions of the program come to: part 4 of 6. -/
import Derived.WalkKit
import Derived.WalkSpells
import Derived.WalkLawsBesides
import Derived.WalkMore
import Derived.Deep.LoopGhost
import Derived.Test.YtcegknecikbbkaaGreatProg
import Derived.Test.YtcegknecikbbkaaGreatTopTurnsM1
import Derived.Test.YtcegknecikbbkaaGreatTopTurnsM2
import Derived.Test.YtcegknecikbbkaaGreatTopTurnsM3
/- Take, of buffer and of its reference. -/
set_option linter.unusedVariables false
set_option linter.unusedSimpArgs false
set_option maxRecDepth 4000
namespace Go.Proofs.YtcegknecikbbkaaGreat
open Go.RowKit
abbrev rngV (x y : Int) : Value := .agg #[.int .u64 x, .int .u64 y]
section
variable (b : Nat) (wr tk bs room n : Int)
set_option maxHeartbeats 400000 in
theorem bufTakeOk_ct (h0 : 0 ≤ tk) (h1 : tk < wr) (h2 : wr < 4611686018427387904) (h3 : 1 ≤ n) (h4 : n ≤ 9223372036854775807) :
    Ct Tryz.prog 146 #[.pointer (some ⟨b, 0, none⟩), .int .i64 n] [bufR b wr tk bs room] (Gives (.tuple #[rngV tk (tk + min n (wr - tk)), .bool true]) [bufR b wr (tk + min n (wr - tk)) bs room]) := by
  have h5 : (min n (wr - tk) == 0) = false := by simp; omega
  intro w0 F L w hS
  simp only [List.cons_append, List.nil_append] at hS
  go_enter Tryz.func146, Tryz.ntmps146
  go_wp2_with (first | go_skip | (refine ck_load hS rfl rfl rfl (by (repeat (first | exact mH _ | apply mT)) <;> fail) rfl (by decide +kernel) ?_; simp only [Act.put, spA, spZ, spS]) | (refine ck_store hS rfl rfl rfl (by constructor) (by (repeat (first | exact uH _ _ _ | apply uT)) <;> fail) (by simp <;> omega) rfl (by decide +kernel) ?_; clear hS; intro w hS; simp only [Act.put, spA, spZ, spS] at hS ⊢) | (refine ck_max rfl rfl rfl rfl ?_; simp only [Act.put, spA, spZ, spS]) | (refine ck_min rfl rfl rfl rfl ?_; simp only [Act.put, spA, spZ, spS]) | (refine ck_alloc (t := 269) (v := .agg (List.toArray [.int .u64 0, .int .u64 0])) (cs := [.int .u64 0, .int .u64 0]) hS rfl rfl (by kernel_rfl) rfl ?_; clear hS; intro nb w hS; simp only [Act.put, spA, spZ, spS]) | (refine ck_storeAll hS rfl rfl rfl rfl (by (repeat (first | exact uH _ _ _ | apply uT)) <;> fail) (by rfl) rfl (by (try simp only [List.length_cons, List.length_nil, Nat.zero_add, Nat.reduceAdd]); decide +kernel) ?_; clear hS; intro w hS; simp only [Act.put, spA, spZ, spS]) | (refine ck_loadAll hS rfl rfl rfl (by (repeat (first | exact mH _ | apply mT)) <;> fail) rfl (by (try simp only [List.length_cons, List.length_nil, Nat.zero_add, Nat.reduceAdd]); decide +kernel) ?_; simp only [Act.put, spA, spZ, spS]) | (refine ck_region (fun _ => 0) (fun _ => []) [] hS (by kernel_rfl) (by decide +kernel) ?_ ?_; exact ⟨fun _ _ _ h => h.2, fun _ _ h => h⟩; clear hS; intro w hS _; (repeat (first | (apply wpT_pure rfl rfl; (intro _; go_simp; (try (go_ints; (try go_simp))); (first | (rw [decide_eq_true]; omega) | (rw [decide_eq_false]; omega) | rfl | rw [if_pos (by omega)])); simp only [Act.put, spA, spZ, spS]) | (refine ckT_load hS rfl rfl rfl (by simp <;> fail) (by (repeat (first | exact mH _ | apply mT)) <;> fail) rfl (by decide +kernel) ?_; simp only [Act.put, spA, spZ, spS]) | (refine ckT_store hS rfl rfl rfl (by constructor) (by (repeat (first | exact uH _ _ _ | apply uT)) <;> fail) (by simp <;> fail) rfl (by decide +kernel) (by simp <;> fail) ?_; clear hS; intro w hS; simp only [Act.put, spA, spZ, spS] at hS ⊢) )); refine wpT_nil ?_))
  go_step3
  go_wp2_with (first | go_skip | (refine ck_load hS rfl rfl rfl (by (repeat (first | exact mH _ | apply mT)) <;> fail) rfl (by decide +kernel) ?_; simp only [Act.put, spA, spZ, spS]) | (refine ck_store hS rfl rfl rfl (by constructor) (by (repeat (first | exact uH _ _ _ | apply uT)) <;> fail) (by simp <;> omega) rfl (by decide +kernel) ?_; clear hS; intro w hS; simp only [Act.put, spA, spZ, spS] at hS ⊢) | (refine ck_max rfl rfl rfl rfl ?_; simp only [Act.put, spA, spZ, spS]) | (refine ck_min rfl rfl rfl rfl ?_; simp only [Act.put, spA, spZ, spS]) | (refine ck_alloc (t := 269) (v := .agg (List.toArray [.int .u64 0, .int .u64 0])) (cs := [.int .u64 0, .int .u64 0]) hS rfl rfl (by kernel_rfl) rfl ?_; clear hS; intro nb w hS; simp only [Act.put, spA, spZ, spS]) | (refine ck_storeAll hS rfl rfl rfl rfl (by (repeat (first | exact uH _ _ _ | apply uT)) <;> fail) (by rfl) rfl (by (try simp only [List.length_cons, List.length_nil, Nat.zero_add, Nat.reduceAdd]); decide +kernel) ?_; clear hS; intro w hS; simp only [Act.put, spA, spZ, spS]) | (refine ck_loadAll hS rfl rfl rfl (by (repeat (first | exact mH _ | apply mT)) <;> fail) rfl (by (try simp only [List.length_cons, List.length_nil, Nat.zero_add, Nat.reduceAdd]); decide +kernel) ?_; simp only [Act.put, spA, spZ, spS]) | (refine ck_region (fun _ => 0) (fun _ => []) [] hS (by kernel_rfl) (by decide +kernel) ?_ ?_; exact ⟨fun _ _ _ h => h.2, fun _ _ h => h⟩; clear hS; intro w hS _; (repeat (first | (apply wpT_pure rfl rfl; (intro _; go_simp; (try (go_ints; (try go_simp))); (first | (rw [decide_eq_true]; omega) | (rw [decide_eq_false]; omega) | rfl | rw [if_pos (by omega)])); simp only [Act.put, spA, spZ, spS]) | (refine ckT_load hS rfl rfl rfl (by simp <;> fail) (by (repeat (first | exact mH _ | apply mT)) <;> fail) rfl (by decide +kernel) ?_; simp only [Act.put, spA, spZ, spS]) | (refine ckT_store hS rfl rfl rfl (by constructor) (by (repeat (first | exact uH _ _ _ | apply uT)) <;> fail) (by simp <;> fail) rfl (by decide +kernel) (by simp <;> fail) ?_; clear hS; intro w hS; simp only [Act.put, spA, spZ, spS] at hS ⊢) )); refine wpT_nil ?_))
  go_step3
  go_wp2_with (first | go_skip | (refine ck_load hS rfl rfl rfl (by (repeat (first | exact mH _ | apply mT)) <;> fail) rfl (by decide +kernel) ?_; simp only [Act.put, spA, spZ, spS]) | (refine ck_store hS rfl rfl rfl (by constructor) (by (repeat (first | exact uH _ _ _ | apply uT)) <;> fail) (by simp <;> omega) rfl (by decide +kernel) ?_; clear hS; intro w hS; simp only [Act.put, spA, spZ, spS] at hS ⊢) | (refine ck_max rfl rfl rfl rfl ?_; simp only [Act.put, spA, spZ, spS]) | (refine ck_min rfl rfl rfl rfl ?_; simp only [Act.put, spA, spZ, spS]) | (refine ck_alloc (t := 269) (v := .agg (List.toArray [.int .u64 0, .int .u64 0])) (cs := [.int .u64 0, .int .u64 0]) hS rfl rfl (by kernel_rfl) rfl ?_; clear hS; intro nb w hS; simp only [Act.put, spA, spZ, spS]) | (refine ck_storeAll hS rfl rfl rfl rfl (by (repeat (first | exact uH _ _ _ | apply uT)) <;> fail) (by rfl) rfl (by (try simp only [List.length_cons, List.length_nil, Nat.zero_add, Nat.reduceAdd]); decide +kernel) ?_; clear hS; intro w hS; simp only [Act.put, spA, spZ, spS]) | (refine ck_loadAll hS rfl rfl rfl (by (repeat (first | exact mH _ | apply mT)) <;> fail) rfl (by (try simp only [List.length_cons, List.length_nil, Nat.zero_add, Nat.reduceAdd]); decide +kernel) ?_; simp only [Act.put, spA, spZ, spS]) | (refine ck_region (fun _ => 0) (fun _ => []) [] hS (by kernel_rfl) (by decide +kernel) ?_ ?_; exact ⟨fun _ _ _ h => h.2, fun _ _ h => h⟩; clear hS; intro w hS _; (repeat (first | (apply wpT_pure rfl rfl; (intro _; go_simp; (try (go_ints; (try go_simp))); (first | (rw [decide_eq_true]; omega) | (rw [decide_eq_false]; omega) | rfl | rw [if_pos (by omega)])); simp only [Act.put, spA, spZ, spS]) | (refine ckT_load hS rfl rfl rfl (by simp <;> fail) (by (repeat (first | exact mH _ | apply mT)) <;> fail) rfl (by decide +kernel) ?_; simp only [Act.put, spA, spZ, spS]) | (refine ckT_store hS rfl rfl rfl (by constructor) (by (repeat (first | exact uH _ _ _ | apply uT)) <;> fail) (by simp <;> fail) rfl (by decide +kernel) (by simp <;> fail) ?_; clear hS; intro w hS; simp only [Act.put, spA, spZ, spS] at hS ⊢) )); refine wpT_nil ?_))
  refine wp_loop_once ?_
  go_wp2_with (first | go_skip | (refine ck_load hS rfl rfl rfl (by (repeat (first | exact mH _ | apply mT)) <;> fail) rfl (by decide +kernel) ?_; simp only [Act.put, spA, spZ, spS]) | (refine ck_store hS rfl rfl rfl (by constructor) (by (repeat (first | exact uH _ _ _ | apply uT)) <;> fail) (by simp <;> omega) rfl (by decide +kernel) ?_; clear hS; intro w hS; simp only [Act.put, spA, spZ, spS] at hS ⊢) | (refine ck_max rfl rfl rfl rfl ?_; simp only [Act.put, spA, spZ, spS]) | (refine ck_min rfl rfl rfl rfl ?_; simp only [Act.put, spA, spZ, spS]) | (refine ck_alloc (t := 269) (v := .agg (List.toArray [.int .u64 0, .int .u64 0])) (cs := [.int .u64 0, .int .u64 0]) hS rfl rfl (by kernel_rfl) rfl ?_; clear hS; intro nb w hS; simp only [Act.put, spA, spZ, spS]) | (refine ck_storeAll hS rfl rfl rfl rfl (by (repeat (first | exact uH _ _ _ | apply uT)) <;> fail) (by rfl) rfl (by (try simp only [List.length_cons, List.length_nil, Nat.zero_add, Nat.reduceAdd]); decide +kernel) ?_; clear hS; intro w hS; simp only [Act.put, spA, spZ, spS]) | (refine ck_loadAll hS rfl rfl rfl (by (repeat (first | exact mH _ | apply mT)) <;> fail) rfl (by (try simp only [List.length_cons, List.length_nil, Nat.zero_add, Nat.reduceAdd]); decide +kernel) ?_; simp only [Act.put, spA, spZ, spS]) | (go_at_call 197; (with_reducible refine Ct.callU (bufUnsent_ct b wr tk bs room h0 (by omega) h2) (by (repeat (first | exact uH _ _ _ | apply uT)) <;> fail) hS ?_) <;> (first | (clear hS; intro w hS) | omega)) | (refine ck_region (fun _ => 0) (fun _ => []) [] hS (by kernel_rfl) (by decide +kernel) ?_ ?_; exact ⟨fun _ _ _ h => h.2, fun _ _ h => h⟩; clear hS; intro w hS _; (repeat (first | (apply wpT_pure rfl rfl; (intro _; go_simp; (try (go_ints; (try go_simp))); (first | (rw [decide_eq_true]; omega) | (rw [decide_eq_false]; omega) | rfl | rw [if_pos (by omega)])); simp only [Act.put, spA, spZ, spS]) | (refine ckT_load hS rfl rfl rfl (by simp <;> fail) (by (repeat (first | exact mH _ | apply mT)) <;> fail) rfl (by decide +kernel) ?_; simp only [Act.put, spA, spZ, spS]) | (refine ckT_store hS rfl rfl rfl (by constructor) (by (repeat (first | exact uH _ _ _ | apply uT)) <;> fail) (by simp <;> fail) rfl (by decide +kernel) (by simp <;> fail) ?_; clear hS; intro w hS; simp only [Act.put, spA, spZ, spS] at hS ⊢) | (refine ckT_storeAll hS rfl rfl rfl rfl (by (repeat (first | exact uH _ _ _ | apply uT)) <;> fail) (by rfl) rfl (by (try simp only [List.length_cons, List.length_nil, Nat.zero_add, Nat.reduceAdd]); decide +kernel) (by simp <;> fail) ?_; clear hS; intro w hS; simp only [Act.put, spA, spZ, spS]))); refine wpT_nil ?_) | (refine ck_region (fun _ => 0) (fun _ => []) [] hS (by kernel_rfl) (by decide +kernel) ?_ ?_; exact ⟨fun _ _ _ h => h.2, fun _ _ h => h⟩; clear hS; intro w hS _; (repeat (first | (apply wpT_pure rfl rfl; (intro _; go_simp; (try (go_ints; (try go_simp))); (first | (rw [decide_eq_true]; omega) | (rw [decide_eq_false]; omega) | rfl | rw [if_pos (by omega)])); simp only [Act.put, spA, spZ, spS]) | (refine ckT_load hS rfl rfl rfl (by simp <;> fail) (by (repeat (first | exact mH _ | apply mT)) <;> fail) rfl (by decide +kernel) ?_; simp only [Act.put, spA, spZ, spS]) | (refine ckT_store hS rfl rfl rfl (by constructor) (by (repeat (first | exact uH _ _ _ | apply uT)) <;> fail) (by simp <;> fail) rfl (by decide +kernel) (by simp <;> fail) ?_; clear hS; intro w hS; simp only [Act.put, spA, spZ, spS] at hS ⊢) )); refine wpT_nil ?_))
  rw [Exit.noGoto_ret]
  refine bodyPost_ret (ckRes_cell_tmp hS (cs := _) (by (repeat (first | exact mH _ | apply mT)) <;> fail) rfl rfl rfl (by (try simp only [List.length_cons, List.length_nil, Nat.zero_add, Nat.reduceAdd]); decide +kernel)) rfl ?_
  exact ⟨_, ⟨rfl, rfl⟩, hS.drop.drop⟩
theorem bufTakeArg_ct (h3 : n < 1) :
    Ct Tryz.prog 146 #[.pointer (some ⟨b, 0, none⟩), .int .i64 n] [bufR b wr tk bs room] (Gives (.tuple #[rngV 0 0, .bool false]) [bufR b wr tk bs room]) := by
  intro w0 F L w hS
  simp only [List.cons_append, List.nil_append] at hS
  go_enter Tryz.func146, Tryz.ntmps146
  go_wp2_with (first | go_skip | (refine ck_load hS rfl rfl rfl (by (repeat (first | exact mH _ | apply mT)) <;> fail) rfl (by decide +kernel) ?_; simp only [Act.put, spA, spZ, spS]) | (refine ck_store hS rfl rfl rfl (by constructor) (by (repeat (first | exact uH _ _ _ | apply uT)) <;> fail) (by simp <;> omega) rfl (by decide +kernel) ?_; clear hS; intro w hS; simp only [Act.put, spA, spZ, spS] at hS ⊢) | (refine ck_max rfl rfl rfl rfl ?_; simp only [Act.put, spA, spZ, spS]) | (refine ck_min rfl rfl rfl rfl ?_; simp only [Act.put, spA, spZ, spS]) | (refine ck_alloc (t := 269) (v := .agg (List.toArray [.int .u64 0, .int .u64 0])) (cs := [.int .u64 0, .int .u64 0]) hS rfl rfl (by kernel_rfl) rfl ?_; clear hS; intro nb w hS; simp only [Act.put, spA, spZ, spS]) | (refine ck_storeAll hS rfl rfl rfl rfl (by (repeat (first | exact uH _ _ _ | apply uT)) <;> fail) (by rfl) rfl (by (try simp only [List.length_cons, List.length_nil, Nat.zero_add, Nat.reduceAdd]); decide +kernel) ?_; clear hS; intro w hS; simp only [Act.put, spA, spZ, spS]) | (refine ck_loadAll hS rfl rfl rfl (by (repeat (first | exact mH _ | apply mT)) <;> fail) rfl (by (try simp only [List.length_cons, List.length_nil, Nat.zero_add, Nat.reduceAdd]); decide +kernel) ?_; simp only [Act.put, spA, spZ, spS]) | (refine ck_region (fun _ => 0) (fun _ => []) [] hS (by kernel_rfl) (by decide +kernel) ?_ ?_; exact ⟨fun _ _ _ h => h.2, fun _ _ h => h⟩; clear hS; intro w hS _; (repeat (first | (apply wpT_pure rfl rfl; (intro _; go_simp; (try (go_ints; (try go_simp))); (first | (rw [decide_eq_true]; omega) | (rw [decide_eq_false]; omega) | rfl | rw [if_pos (by omega)])); simp only [Act.put, spA, spZ, spS]) | (refine ckT_load hS rfl rfl rfl (by simp <;> fail) (by (repeat (first | exact mH _ | apply mT)) <;> fail) rfl (by decide +kernel) ?_; simp only [Act.put, spA, spZ, spS]) | (refine ckT_store hS rfl rfl rfl (by constructor) (by (repeat (first | exact uH _ _ _ | apply uT)) <;> fail) (by simp <;> fail) rfl (by decide +kernel) (by simp <;> fail) ?_; clear hS; intro w hS; simp only [Act.put, spA, spZ, spS] at hS ⊢) )); refine wpT_nil ?_))
  go_step3
  go_wp2_with (first | go_skip | (refine ck_load hS rfl rfl rfl (by (repeat (first | exact mH _ | apply mT)) <;> fail) rfl (by decide +kernel) ?_; simp only [Act.put, spA, spZ, spS]) | (refine ck_store hS rfl rfl rfl (by constructor) (by (repeat (first | exact uH _ _ _ | apply uT)) <;> fail) (by simp <;> omega) rfl (by decide +kernel) ?_; clear hS; intro w hS; simp only [Act.put, spA, spZ, spS] at hS ⊢) | (refine ck_max rfl rfl rfl rfl ?_; simp only [Act.put, spA, spZ, spS]) | (refine ck_min rfl rfl rfl rfl ?_; simp only [Act.put, spA, spZ, spS]) | (refine ck_alloc (t := 269) (v := .agg (List.toArray [.int .u64 0, .int .u64 0])) (cs := [.int .u64 0, .int .u64 0]) hS rfl rfl (by kernel_rfl) rfl ?_; clear hS; intro nb w hS; simp only [Act.put, spA, spZ, spS]) | (refine ck_storeAll hS rfl rfl rfl rfl (by (repeat (first | exact uH _ _ _ | apply uT)) <;> fail) (by rfl) rfl (by (try simp only [List.length_cons, List.length_nil, Nat.zero_add, Nat.reduceAdd]); decide +kernel) ?_; clear hS; intro w hS; simp only [Act.put, spA, spZ, spS]) | (refine ck_loadAll hS rfl rfl rfl (by (repeat (first | exact mH _ | apply mT)) <;> fail) rfl (by (try simp only [List.length_cons, List.length_nil, Nat.zero_add, Nat.reduceAdd]); decide +kernel) ?_; simp only [Act.put, spA, spZ, spS]) | (refine ck_region (fun _ => 0) (fun _ => []) [] hS (by kernel_rfl) (by decide +kernel) ?_ ?_; exact ⟨fun _ _ _ h => h.2, fun _ _ h => h⟩; clear hS; intro w hS _; (repeat (first | (apply wpT_pure rfl rfl; (intro _; go_simp; (try (go_ints; (try go_simp))); (first | (rw [decide_eq_true]; omega) | (rw [decide_eq_false]; omega) | rfl | rw [if_pos (by omega)])); simp only [Act.put, spA, spZ, spS]) | (refine ckT_load hS rfl rfl rfl (by simp <;> fail) (by (repeat (first | exact mH _ | apply mT)) <;> fail) rfl (by decide +kernel) ?_; simp only [Act.put, spA, spZ, spS]) | (refine ckT_store hS rfl rfl rfl (by constructor) (by (repeat (first | exact uH _ _ _ | apply uT)) <;> fail) (by simp <;> fail) rfl (by decide +kernel) (by simp <;> fail) ?_; clear hS; intro w hS; simp only [Act.put, spA, spZ, spS] at hS ⊢) )); refine wpT_nil ?_))
  go_step3
  go_wp2_with (first | go_skip | (refine ck_load hS rfl rfl rfl (by (repeat (first | exact mH _ | apply mT)) <;> fail) rfl (by decide +kernel) ?_; simp only [Act.put, spA, spZ, spS]) | (refine ck_store hS rfl rfl rfl (by constructor) (by (repeat (first | exact uH _ _ _ | apply uT)) <;> fail) (by simp <;> omega) rfl (by decide +kernel) ?_; clear hS; intro w hS; simp only [Act.put, spA, spZ, spS] at hS ⊢) | (refine ck_max rfl rfl rfl rfl ?_; simp only [Act.put, spA, spZ, spS]) | (refine ck_min rfl rfl rfl rfl ?_; simp only [Act.put, spA, spZ, spS]) | (refine ck_alloc (t := 269) (v := .agg (List.toArray [.int .u64 0, .int .u64 0])) (cs := [.int .u64 0, .int .u64 0]) hS rfl rfl (by kernel_rfl) rfl ?_; clear hS; intro nb w hS; simp only [Act.put, spA, spZ, spS]) | (refine ck_storeAll hS rfl rfl rfl rfl (by (repeat (first | exact uH _ _ _ | apply uT)) <;> fail) (by rfl) rfl (by (try simp only [List.length_cons, List.length_nil, Nat.zero_add, Nat.reduceAdd]); decide +kernel) ?_; clear hS; intro w hS; simp only [Act.put, spA, spZ, spS]) | (refine ck_loadAll hS rfl rfl rfl (by (repeat (first | exact mH _ | apply mT)) <;> fail) rfl (by (try simp only [List.length_cons, List.length_nil, Nat.zero_add, Nat.reduceAdd]); decide +kernel) ?_; simp only [Act.put, spA, spZ, spS]) | (refine ck_region (fun _ => 0) (fun _ => []) [] hS (by kernel_rfl) (by decide +kernel) ?_ ?_; exact ⟨fun _ _ _ h => h.2, fun _ _ h => h⟩; clear hS; intro w hS _; (repeat (first | (apply wpT_pure rfl rfl; (intro _; go_simp; (try (go_ints; (try go_simp))); (first | (rw [decide_eq_true]; omega) | (rw [decide_eq_false]; omega) | rfl | rw [if_pos (by omega)])); simp only [Act.put, spA, spZ, spS]) | (refine ckT_load hS rfl rfl rfl (by simp <;> fail) (by (repeat (first | exact mH _ | apply mT)) <;> fail) rfl (by decide +kernel) ?_; simp only [Act.put, spA, spZ, spS]) | (refine ckT_store hS rfl rfl rfl (by constructor) (by (repeat (first | exact uH _ _ _ | apply uT)) <;> fail) (by simp <;> fail) rfl (by decide +kernel) (by simp <;> fail) ?_; clear hS; intro w hS; simp only [Act.put, spA, spZ, spS] at hS ⊢) )); refine wpT_nil ?_))
  refine wp_loop_once ?_
  go_wp2_with (first | go_skip | (refine ck_load hS rfl rfl rfl (by (repeat (first | exact mH _ | apply mT)) <;> fail) rfl (by decide +kernel) ?_; simp only [Act.put, spA, spZ, spS]) | (refine ck_store hS rfl rfl rfl (by constructor) (by (repeat (first | exact uH _ _ _ | apply uT)) <;> fail) (by simp <;> omega) rfl (by decide +kernel) ?_; clear hS; intro w hS; simp only [Act.put, spA, spZ, spS] at hS ⊢) | (refine ck_max rfl rfl rfl rfl ?_; simp only [Act.put, spA, spZ, spS]) | (refine ck_min rfl rfl rfl rfl ?_; simp only [Act.put, spA, spZ, spS]) | (refine ck_alloc (t := 269) (v := .agg (List.toArray [.int .u64 0, .int .u64 0])) (cs := [.int .u64 0, .int .u64 0]) hS rfl rfl (by kernel_rfl) rfl ?_; clear hS; intro nb w hS; simp only [Act.put, spA, spZ, spS]) | (refine ck_storeAll hS rfl rfl rfl rfl (by (repeat (first | exact uH _ _ _ | apply uT)) <;> fail) (by rfl) rfl (by (try simp only [List.length_cons, List.length_nil, Nat.zero_add, Nat.reduceAdd]); decide +kernel) ?_; clear hS; intro w hS; simp only [Act.put, spA, spZ, spS]) | (refine ck_loadAll hS rfl rfl rfl (by (repeat (first | exact mH _ | apply mT)) <;> fail) rfl (by (try simp only [List.length_cons, List.length_nil, Nat.zero_add, Nat.reduceAdd]); decide +kernel) ?_; simp only [Act.put, spA, spZ, spS]) | (refine ck_region (fun _ => 0) (fun _ => []) [] hS (by kernel_rfl) (by decide +kernel) ?_ ?_; exact ⟨fun _ _ _ h => h.2, fun _ _ h => h⟩; clear hS; intro w hS _; (repeat (first | (apply wpT_pure rfl rfl; (intro _; go_simp; (try (go_ints; (try go_simp))); (first | (rw [decide_eq_true]; omega) | (rw [decide_eq_false]; omega) | rfl | rw [if_pos (by omega)])); simp only [Act.put, spA, spZ, spS]) | (refine ckT_load hS rfl rfl rfl (by simp <;> fail) (by (repeat (first | exact mH _ | apply mT)) <;> fail) rfl (by decide +kernel) ?_; simp only [Act.put, spA, spZ, spS]) | (refine ckT_store hS rfl rfl rfl (by constructor) (by (repeat (first | exact uH _ _ _ | apply uT)) <;> fail) (by simp <;> fail) rfl (by decide +kernel) (by simp <;> fail) ?_; clear hS; intro w hS; simp only [Act.put, spA, spZ, spS] at hS ⊢) )); refine wpT_nil ?_))
  rw [Exit.noGoto_ret]
  refine bodyPost_ret (ckRes_cell_tmp hS (cs := _) (by (repeat (first | exact mH _ | apply mT)) <;> fail) rfl rfl rfl (by (try simp only [List.length_cons, List.length_nil, Nat.zero_add, Nat.reduceAdd]); decide +kernel)) rfl ?_
  exact ⟨_, ⟨rfl, rfl⟩, hS.drop.drop⟩
theorem bufTakeNone_ct (h0 : 0 ≤ wr) (h2 : wr < 4611686018427387904) (h3 : 1 ≤ n) (h4 : n ≤ 9223372036854775807) :
    Ct Tryz.prog 146 #[.pointer (some ⟨b, 0, none⟩), .int .i64 n] [bufR b wr wr bs room] (Gives (.tuple #[rngV 0 0, .bool false]) [bufR b wr wr bs room]) := by
  have k := bufUnsent_ct b wr wr bs room h0 (by omega) h2
  rw [show wr - wr = 0 by omega] at k
  have e : min n 0 = 0 := by omega
  intro w0 F L w hS
  simp only [List.cons_append, List.nil_append] at hS
  go_enter Tryz.func146, Tryz.ntmps146
  go_wp2_with (first | go_skip | (refine ck_load hS rfl rfl rfl (by (repeat (first | exact mH _ | apply mT)) <;> fail) rfl (by decide +kernel) ?_; simp only [Act.put, spA, spZ, spS]) | (refine ck_store hS rfl rfl rfl (by constructor) (by (repeat (first | exact uH _ _ _ | apply uT)) <;> fail) (by simp <;> omega) rfl (by decide +kernel) ?_; clear hS; intro w hS; simp only [Act.put, spA, spZ, spS] at hS ⊢) | (refine ck_max rfl rfl rfl rfl ?_; simp only [Act.put, spA, spZ, spS]) | (refine ck_min rfl rfl rfl rfl ?_; simp only [Act.put, spA, spZ, spS]) | (refine ck_alloc (t := 269) (v := .agg (List.toArray [.int .u64 0, .int .u64 0])) (cs := [.int .u64 0, .int .u64 0]) hS rfl rfl (by kernel_rfl) rfl ?_; clear hS; intro nb w hS; simp only [Act.put, spA, spZ, spS]) | (refine ck_storeAll hS rfl rfl rfl rfl (by (repeat (first | exact uH _ _ _ | apply uT)) <;> fail) (by rfl) rfl (by (try simp only [List.length_cons, List.length_nil, Nat.zero_add, Nat.reduceAdd]); decide +kernel) ?_; clear hS; intro w hS; simp only [Act.put, spA, spZ, spS]) | (refine ck_loadAll hS rfl rfl rfl (by (repeat (first | exact mH _ | apply mT)) <;> fail) rfl (by (try simp only [List.length_cons, List.length_nil, Nat.zero_add, Nat.reduceAdd]); decide +kernel) ?_; simp only [Act.put, spA, spZ, spS]) | (refine ck_region (fun _ => 0) (fun _ => []) [] hS (by kernel_rfl) (by decide +kernel) ?_ ?_; exact ⟨fun _ _ _ h => h.2, fun _ _ h => h⟩; clear hS; intro w hS _; (repeat (first | (apply wpT_pure rfl rfl; (intro _; go_simp; (try (go_ints; (try go_simp))); (first | (rw [decide_eq_true]; omega) | (rw [decide_eq_false]; omega) | rfl | rw [if_pos (by omega)])); simp only [Act.put, spA, spZ, spS]) | (refine ckT_load hS rfl rfl rfl (by simp <;> fail) (by (repeat (first | exact mH _ | apply mT)) <;> fail) rfl (by decide +kernel) ?_; simp only [Act.put, spA, spZ, spS]) | (refine ckT_store hS rfl rfl rfl (by constructor) (by (repeat (first | exact uH _ _ _ | apply uT)) <;> fail) (by simp <;> fail) rfl (by decide +kernel) (by simp <;> fail) ?_; clear hS; intro w hS; simp only [Act.put, spA, spZ, spS] at hS ⊢) )); refine wpT_nil ?_))
  go_step3
  go_wp2_with (first | go_skip | (refine ck_load hS rfl rfl rfl (by (repeat (first | exact mH _ | apply mT)) <;> fail) rfl (by decide +kernel) ?_; simp only [Act.put, spA, spZ, spS]) | (refine ck_store hS rfl rfl rfl (by constructor) (by (repeat (first | exact uH _ _ _ | apply uT)) <;> fail) (by simp <;> omega) rfl (by decide +kernel) ?_; clear hS; intro w hS; simp only [Act.put, spA, spZ, spS] at hS ⊢) | (refine ck_max rfl rfl rfl rfl ?_; simp only [Act.put, spA, spZ, spS]) | (refine ck_min rfl rfl rfl rfl ?_; simp only [Act.put, spA, spZ, spS]) | (refine ck_alloc (t := 269) (v := .agg (List.toArray [.int .u64 0, .int .u64 0])) (cs := [.int .u64 0, .int .u64 0]) hS rfl rfl (by kernel_rfl) rfl ?_; clear hS; intro nb w hS; simp only [Act.put, spA, spZ, spS]) | (refine ck_storeAll hS rfl rfl rfl rfl (by (repeat (first | exact uH _ _ _ | apply uT)) <;> fail) (by rfl) rfl (by (try simp only [List.length_cons, List.length_nil, Nat.zero_add, Nat.reduceAdd]); decide +kernel) ?_; clear hS; intro w hS; simp only [Act.put, spA, spZ, spS]) | (refine ck_loadAll hS rfl rfl rfl (by (repeat (first | exact mH _ | apply mT)) <;> fail) rfl (by (try simp only [List.length_cons, List.length_nil, Nat.zero_add, Nat.reduceAdd]); decide +kernel) ?_; simp only [Act.put, spA, spZ, spS]) | (refine ck_region (fun _ => 0) (fun _ => []) [] hS (by kernel_rfl) (by decide +kernel) ?_ ?_; exact ⟨fun _ _ _ h => h.2, fun _ _ h => h⟩; clear hS; intro w hS _; (repeat (first | (apply wpT_pure rfl rfl; (intro _; go_simp; (try (go_ints; (try go_simp))); (first | (rw [decide_eq_true]; omega) | (rw [decide_eq_false]; omega) | rfl | rw [if_pos (by omega)])); simp only [Act.put, spA, spZ, spS]) | (refine ckT_load hS rfl rfl rfl (by simp <;> fail) (by (repeat (first | exact mH _ | apply mT)) <;> fail) rfl (by decide +kernel) ?_; simp only [Act.put, spA, spZ, spS]) | (refine ckT_store hS rfl rfl rfl (by constructor) (by (repeat (first | exact uH _ _ _ | apply uT)) <;> fail) (by simp <;> fail) rfl (by decide +kernel) (by simp <;> fail) ?_; clear hS; intro w hS; simp only [Act.put, spA, spZ, spS] at hS ⊢) )); refine wpT_nil ?_))
  go_step3
  go_wp2_with (first | go_skip | (refine ck_load hS rfl rfl rfl (by (repeat (first | exact mH _ | apply mT)) <;> fail) rfl (by decide +kernel) ?_; simp only [Act.put, spA, spZ, spS]) | (refine ck_store hS rfl rfl rfl (by constructor) (by (repeat (first | exact uH _ _ _ | apply uT)) <;> fail) (by simp <;> omega) rfl (by decide +kernel) ?_; clear hS; intro w hS; simp only [Act.put, spA, spZ, spS] at hS ⊢) | (refine ck_max rfl rfl rfl rfl ?_; simp only [Act.put, spA, spZ, spS]) | (refine ck_min rfl rfl rfl rfl ?_; simp only [Act.put, spA, spZ, spS]) | (refine ck_alloc (t := 269) (v := .agg (List.toArray [.int .u64 0, .int .u64 0])) (cs := [.int .u64 0, .int .u64 0]) hS rfl rfl (by kernel_rfl) rfl ?_; clear hS; intro nb w hS; simp only [Act.put, spA, spZ, spS]) | (refine ck_storeAll hS rfl rfl rfl rfl (by (repeat (first | exact uH _ _ _ | apply uT)) <;> fail) (by rfl) rfl (by (try simp only [List.length_cons, List.length_nil, Nat.zero_add, Nat.reduceAdd]); decide +kernel) ?_; clear hS; intro w hS; simp only [Act.put, spA, spZ, spS]) | (refine ck_loadAll hS rfl rfl rfl (by (repeat (first | exact mH _ | apply mT)) <;> fail) rfl (by (try simp only [List.length_cons, List.length_nil, Nat.zero_add, Nat.reduceAdd]); decide +kernel) ?_; simp only [Act.put, spA, spZ, spS]) | (refine ck_region (fun _ => 0) (fun _ => []) [] hS (by kernel_rfl) (by decide +kernel) ?_ ?_; exact ⟨fun _ _ _ h => h.2, fun _ _ h => h⟩; clear hS; intro w hS _; (repeat (first | (apply wpT_pure rfl rfl; (intro _; go_simp; (try (go_ints; (try go_simp))); (first | (rw [decide_eq_true]; omega) | (rw [decide_eq_false]; omega) | rfl | rw [if_pos (by omega)])); simp only [Act.put, spA, spZ, spS]) | (refine ckT_load hS rfl rfl rfl (by simp <;> fail) (by (repeat (first | exact mH _ | apply mT)) <;> fail) rfl (by decide +kernel) ?_; simp only [Act.put, spA, spZ, spS]) | (refine ckT_store hS rfl rfl rfl (by constructor) (by (repeat (first | exact uH _ _ _ | apply uT)) <;> fail) (by simp <;> fail) rfl (by decide +kernel) (by simp <;> fail) ?_; clear hS; intro w hS; simp only [Act.put, spA, spZ, spS] at hS ⊢) )); refine wpT_nil ?_))
  refine wp_loop_once ?_
  go_wp2_with (first | go_skip | (refine ck_load hS rfl rfl rfl (by (repeat (first | exact mH _ | apply mT)) <;> fail) rfl (by decide +kernel) ?_; simp only [Act.put, spA, spZ, spS]) | (refine ck_store hS rfl rfl rfl (by constructor) (by (repeat (first | exact uH _ _ _ | apply uT)) <;> fail) (by simp <;> omega) rfl (by decide +kernel) ?_; clear hS; intro w hS; simp only [Act.put, spA, spZ, spS] at hS ⊢) | (refine ck_max rfl rfl rfl rfl ?_; simp only [Act.put, spA, spZ, spS]) | (refine ck_min rfl rfl rfl rfl ?_; simp only [Act.put, spA, spZ, spS]) | (refine ck_alloc (t := 269) (v := .agg (List.toArray [.int .u64 0, .int .u64 0])) (cs := [.int .u64 0, .int .u64 0]) hS rfl rfl (by kernel_rfl) rfl ?_; clear hS; intro nb w hS; simp only [Act.put, spA, spZ, spS]) | (refine ck_storeAll hS rfl rfl rfl rfl (by (repeat (first | exact uH _ _ _ | apply uT)) <;> fail) (by rfl) rfl (by (try simp only [List.length_cons, List.length_nil, Nat.zero_add, Nat.reduceAdd]); decide +kernel) ?_; clear hS; intro w hS; simp only [Act.put, spA, spZ, spS]) | (refine ck_loadAll hS rfl rfl rfl (by (repeat (first | exact mH _ | apply mT)) <;> fail) rfl (by (try simp only [List.length_cons, List.length_nil, Nat.zero_add, Nat.reduceAdd]); decide +kernel) ?_; simp only [Act.put, spA, spZ, spS]) | (go_at_call 197; (with_reducible refine Ct.callU (k) (by (repeat (first | exact uH _ _ _ | apply uT)) <;> fail) hS ?_) <;> (first | (clear hS; intro w hS) | omega)) | (refine ck_region (fun _ => 0) (fun _ => []) [] hS (by kernel_rfl) (by decide +kernel) ?_ ?_; exact ⟨fun _ _ _ h => h.2, fun _ _ h => h⟩; clear hS; intro w hS _; (repeat (first | (apply wpT_pure rfl rfl; (intro _; go_simp; (try (go_ints; (try go_simp))); (first | (rw [decide_eq_true]; omega) | (rw [decide_eq_false]; omega) | rfl | rw [if_pos (by omega)])); simp only [Act.put, spA, spZ, spS]) | (refine ckT_load hS rfl rfl rfl (by simp <;> fail) (by (repeat (first | exact mH _ | apply mT)) <;> fail) rfl (by decide +kernel) ?_; simp only [Act.put, spA, spZ, spS]) | (refine ckT_store hS rfl rfl rfl (by constructor) (by (repeat (first | exact uH _ _ _ | apply uT)) <;> fail) (by simp <;> fail) rfl (by decide +kernel) (by simp <;> fail) ?_; clear hS; intro w hS; simp only [Act.put, spA, spZ, spS] at hS ⊢) )); refine wpT_nil ?_))
  rw [Exit.noGoto_ret]
  refine bodyPost_ret (ckRes_cell_tmp hS (cs := _) (by (repeat (first | exact mH _ | apply mT)) <;> fail) rfl rfl rfl (by (try simp only [List.length_cons, List.length_nil, Nat.zero_add, Nat.reduceAdd]); decide +kernel)) rfl ?_
  exact ⟨_, ⟨rfl, rfl⟩, hS.drop.drop⟩
theorem bufTakeZ_ct (h3 : 1 ≤ n) (h4 : n ≤ 9223372036854775807) :
    Ct Tryz.prog 146 #[.pointer none, .int .i64 n] [] (Gives (.tuple #[rngV 0 0, .bool false]) []) := by
  have e : min n 0 = 0 := by omega
  intro w0 F L w hS
  simp only [List.cons_append, List.nil_append] at hS
  go_enter Tryz.func146, Tryz.ntmps146
  go_wp2_with (first | go_skip | (refine ck_load hS rfl rfl rfl (by (repeat (first | exact mH _ | apply mT)) <;> fail) rfl (by decide +kernel) ?_; simp only [Act.put, spA, spZ, spS]) | (refine ck_store hS rfl rfl rfl (by constructor) (by (repeat (first | exact uH _ _ _ | apply uT)) <;> fail) (by simp <;> omega) rfl (by decide +kernel) ?_; clear hS; intro w hS; simp only [Act.put, spA, spZ, spS] at hS ⊢) | (refine ck_max rfl rfl rfl rfl ?_; simp only [Act.put, spA, spZ, spS]) | (refine ck_min rfl rfl rfl rfl ?_; simp only [Act.put, spA, spZ, spS]) | (refine ck_alloc (t := 269) (v := .agg (List.toArray [.int .u64 0, .int .u64 0])) (cs := [.int .u64 0, .int .u64 0]) hS rfl rfl (by kernel_rfl) rfl ?_; clear hS; intro nb w hS; simp only [Act.put, spA, spZ, spS]) | (refine ck_storeAll hS rfl rfl rfl rfl (by (repeat (first | exact uH _ _ _ | apply uT)) <;> fail) (by rfl) rfl (by (try simp only [List.length_cons, List.length_nil, Nat.zero_add, Nat.reduceAdd]); decide +kernel) ?_; clear hS; intro w hS; simp only [Act.put, spA, spZ, spS]) | (refine ck_loadAll hS rfl rfl rfl (by (repeat (first | exact mH _ | apply mT)) <;> fail) rfl (by (try simp only [List.length_cons, List.length_nil, Nat.zero_add, Nat.reduceAdd]); decide +kernel) ?_; simp only [Act.put, spA, spZ, spS]) | (refine ck_region (fun _ => 0) (fun _ => []) [] hS (by kernel_rfl) (by decide +kernel) ?_ ?_; exact ⟨fun _ _ _ h => h.2, fun _ _ h => h⟩; clear hS; intro w hS _; (repeat (first | (apply wpT_pure rfl rfl; (intro _; go_simp; (try (go_ints; (try go_simp))); (first | (rw [decide_eq_true]; omega) | (rw [decide_eq_false]; omega) | rfl | rw [if_pos (by omega)])); simp only [Act.put, spA, spZ, spS]) | (refine ckT_load hS rfl rfl rfl (by simp <;> fail) (by (repeat (first | exact mH _ | apply mT)) <;> fail) rfl (by decide +kernel) ?_; simp only [Act.put, spA, spZ, spS]) | (refine ckT_store hS rfl rfl rfl (by constructor) (by (repeat (first | exact uH _ _ _ | apply uT)) <;> fail) (by simp <;> fail) rfl (by decide +kernel) (by simp <;> fail) ?_; clear hS; intro w hS; simp only [Act.put, spA, spZ, spS] at hS ⊢) )); refine wpT_nil ?_))
  go_step3
  go_wp2_with (first | go_skip | (refine ck_load hS rfl rfl rfl (by (repeat (first | exact mH _ | apply mT)) <;> fail) rfl (by decide +kernel) ?_; simp only [Act.put, spA, spZ, spS]) | (refine ck_store hS rfl rfl rfl (by constructor) (by (repeat (first | exact uH _ _ _ | apply uT)) <;> fail) (by simp <;> omega) rfl (by decide +kernel) ?_; clear hS; intro w hS; simp only [Act.put, spA, spZ, spS] at hS ⊢) | (refine ck_max rfl rfl rfl rfl ?_; simp only [Act.put, spA, spZ, spS]) | (refine ck_min rfl rfl rfl rfl ?_; simp only [Act.put, spA, spZ, spS]) | (refine ck_alloc (t := 269) (v := .agg (List.toArray [.int .u64 0, .int .u64 0])) (cs := [.int .u64 0, .int .u64 0]) hS rfl rfl (by kernel_rfl) rfl ?_; clear hS; intro nb w hS; simp only [Act.put, spA, spZ, spS]) | (refine ck_storeAll hS rfl rfl rfl rfl (by (repeat (first | exact uH _ _ _ | apply uT)) <;> fail) (by rfl) rfl (by (try simp only [List.length_cons, List.length_nil, Nat.zero_add, Nat.reduceAdd]); decide +kernel) ?_; clear hS; intro w hS; simp only [Act.put, spA, spZ, spS]) | (refine ck_loadAll hS rfl rfl rfl (by (repeat (first | exact mH _ | apply mT)) <;> fail) rfl (by (try simp only [List.length_cons, List.length_nil, Nat.zero_add, Nat.reduceAdd]); decide +kernel) ?_; simp only [Act.put, spA, spZ, spS]) | (refine ck_region (fun _ => 0) (fun _ => []) [] hS (by kernel_rfl) (by decide +kernel) ?_ ?_; exact ⟨fun _ _ _ h => h.2, fun _ _ h => h⟩; clear hS; intro w hS _; (repeat (first | (apply wpT_pure rfl rfl; (intro _; go_simp; (try (go_ints; (try go_simp))); (first | (rw [decide_eq_true]; omega) | (rw [decide_eq_false]; omega) | rfl | rw [if_pos (by omega)])); simp only [Act.put, spA, spZ, spS]) | (refine ckT_load hS rfl rfl rfl (by simp <;> fail) (by (repeat (first | exact mH _ | apply mT)) <;> fail) rfl (by decide +kernel) ?_; simp only [Act.put, spA, spZ, spS]) | (refine ckT_store hS rfl rfl rfl (by constructor) (by (repeat (first | exact uH _ _ _ | apply uT)) <;> fail) (by simp <;> fail) rfl (by decide +kernel) (by simp <;> fail) ?_; clear hS; intro w hS; simp only [Act.put, spA, spZ, spS] at hS ⊢) )); refine wpT_nil ?_))
  go_step3
  go_wp2_with (first | go_skip | (refine ck_load hS rfl rfl rfl (by (repeat (first | exact mH _ | apply mT)) <;> fail) rfl (by decide +kernel) ?_; simp only [Act.put, spA, spZ, spS]) | (refine ck_store hS rfl rfl rfl (by constructor) (by (repeat (first | exact uH _ _ _ | apply uT)) <;> fail) (by simp <;> omega) rfl (by decide +kernel) ?_; clear hS; intro w hS; simp only [Act.put, spA, spZ, spS] at hS ⊢) | (refine ck_max rfl rfl rfl rfl ?_; simp only [Act.put, spA, spZ, spS]) | (refine ck_min rfl rfl rfl rfl ?_; simp only [Act.put, spA, spZ, spS]) | (refine ck_alloc (t := 269) (v := .agg (List.toArray [.int .u64 0, .int .u64 0])) (cs := [.int .u64 0, .int .u64 0]) hS rfl rfl (by kernel_rfl) rfl ?_; clear hS; intro nb w hS; simp only [Act.put, spA, spZ, spS]) | (refine ck_storeAll hS rfl rfl rfl rfl (by (repeat (first | exact uH _ _ _ | apply uT)) <;> fail) (by rfl) rfl (by (try simp only [List.length_cons, List.length_nil, Nat.zero_add, Nat.reduceAdd]); decide +kernel) ?_; clear hS; intro w hS; simp only [Act.put, spA, spZ, spS]) | (refine ck_loadAll hS rfl rfl rfl (by (repeat (first | exact mH _ | apply mT)) <;> fail) rfl (by (try simp only [List.length_cons, List.length_nil, Nat.zero_add, Nat.reduceAdd]); decide +kernel) ?_; simp only [Act.put, spA, spZ, spS]) | (refine ck_region (fun _ => 0) (fun _ => []) [] hS (by kernel_rfl) (by decide +kernel) ?_ ?_; exact ⟨fun _ _ _ h => h.2, fun _ _ h => h⟩; clear hS; intro w hS _; (repeat (first | (apply wpT_pure rfl rfl; (intro _; go_simp; (try (go_ints; (try go_simp))); (first | (rw [decide_eq_true]; omega) | (rw [decide_eq_false]; omega) | rfl | rw [if_pos (by omega)])); simp only [Act.put, spA, spZ, spS]) | (refine ckT_load hS rfl rfl rfl (by simp <;> fail) (by (repeat (first | exact mH _ | apply mT)) <;> fail) rfl (by decide +kernel) ?_; simp only [Act.put, spA, spZ, spS]) | (refine ckT_store hS rfl rfl rfl (by constructor) (by (repeat (first | exact uH _ _ _ | apply uT)) <;> fail) (by simp <;> fail) rfl (by decide +kernel) (by simp <;> fail) ?_; clear hS; intro w hS; simp only [Act.put, spA, spZ, spS] at hS ⊢) )); refine wpT_nil ?_))
  refine wp_loop_once ?_
  go_wp2_with (first | go_skip | (refine ck_load hS rfl rfl rfl (by (repeat (first | exact mH _ | apply mT)) <;> fail) rfl (by decide +kernel) ?_; simp only [Act.put, spA, spZ, spS]) | (refine ck_store hS rfl rfl rfl (by constructor) (by (repeat (first | exact uH _ _ _ | apply uT)) <;> fail) (by simp <;> omega) rfl (by decide +kernel) ?_; clear hS; intro w hS; simp only [Act.put, spA, spZ, spS] at hS ⊢) | (refine ck_max rfl rfl rfl rfl ?_; simp only [Act.put, spA, spZ, spS]) | (refine ck_min rfl rfl rfl rfl ?_; simp only [Act.put, spA, spZ, spS]) | (refine ck_alloc (t := 269) (v := .agg (List.toArray [.int .u64 0, .int .u64 0])) (cs := [.int .u64 0, .int .u64 0]) hS rfl rfl (by kernel_rfl) rfl ?_; clear hS; intro nb w hS; simp only [Act.put, spA, spZ, spS]) | (refine ck_storeAll hS rfl rfl rfl rfl (by (repeat (first | exact uH _ _ _ | apply uT)) <;> fail) (by rfl) rfl (by (try simp only [List.length_cons, List.length_nil, Nat.zero_add, Nat.reduceAdd]); decide +kernel) ?_; clear hS; intro w hS; simp only [Act.put, spA, spZ, spS]) | (refine ck_loadAll hS rfl rfl rfl (by (repeat (first | exact mH _ | apply mT)) <;> fail) rfl (by (try simp only [List.length_cons, List.length_nil, Nat.zero_add, Nat.reduceAdd]); decide +kernel) ?_; simp only [Act.put, spA, spZ, spS]) | (go_at_call 197; with_reducible refine Ct.call0 (bufUnsentZ_ct) hS ?_; clear hS; intro w hS) | (refine ck_region (fun _ => 0) (fun _ => []) [] hS (by kernel_rfl) (by decide +kernel) ?_ ?_; exact ⟨fun _ _ _ h => h.2, fun _ _ h => h⟩; clear hS; intro w hS _; (repeat (first | (apply wpT_pure rfl rfl; (intro _; go_simp; (try (go_ints; (try go_simp))); (first | (rw [decide_eq_true]; omega) | (rw [decide_eq_false]; omega) | rfl | rw [if_pos (by omega)])); simp only [Act.put, spA, spZ, spS]) | (refine ckT_load hS rfl rfl rfl (by simp <;> fail) (by (repeat (first | exact mH _ | apply mT)) <;> fail) rfl (by decide +kernel) ?_; simp only [Act.put, spA, spZ, spS]) | (refine ckT_store hS rfl rfl rfl (by constructor) (by (repeat (first | exact uH _ _ _ | apply uT)) <;> fail) (by simp <;> fail) rfl (by decide +kernel) (by simp <;> fail) ?_; clear hS; intro w hS; simp only [Act.put, spA, spZ, spS] at hS ⊢) )); refine wpT_nil ?_))
  rw [Exit.noGoto_ret]
  refine bodyPost_ret (ckRes_cell_tmp hS (cs := _) (by (repeat (first | exact mH _ | apply mT)) <;> fail) rfl rfl rfl (by (try simp only [List.length_cons, List.length_nil, Nat.zero_add, Nat.reduceAdd]); decide +kernel)) rfl ?_
  exact ⟨_, ⟨rfl, rfl⟩, hS.drop.drop⟩
theorem bufTakeNone'_ct (he : tk = wr) (h0 : 0 ≤ wr) (h2 : wr < 4611686018427387904) (h3 : 1 ≤ n) (h4 : n ≤ 9223372036854775807) :
    Ct Tryz.prog 146 #[.pointer (some ⟨b, 0, none⟩), .int .i64 n] [bufR b wr tk bs room] (Gives (.tuple #[rngV 0 0, .bool false]) [bufR b wr tk bs room]) := by
  subst he; exact bufTakeNone_ct _ _ _ _ _ h0 h2 h3 h4
end
end Go.Proofs.YtcegknecikbbkaaGreat

/- What tso's and its reference's sizes come to. -/
set_option linter.unusedVariables false
set_option linter.unusedSimpArgs false
set_option maxRecDepth 4000
namespace Go.Proofs.YtcegknecikbbkaaGreat
open Go.RowKit
def tsoM (mss : Int) : Int := max 100 (min mss 9000)
def tsoN (rate m : Int) : Int := max 2 (min (rate / 1024 / m) (65536 / m))
def tsoS (rate mss : Int) : Int := tsoN rate (tsoM mss) * tsoM mss

theorem tsoM_bd (mss : Int) : 100 ≤ tsoM mss ∧ tsoM mss ≤ 9000 := by unfold tsoM; omega
theorem tso_d (m : Int) (h0 : 100 ≤ m) (h1 : m ≤ 9000) : 7 ≤ 65536 / m ∧ 65536 / m ≤ 655 ∧ 65536 / m * m ≤ 65536 ∧ 65536 < 65536 / m * m + m := by
  refine ⟨Int.le_ediv_of_mul_le (by omega) (by omega), ?_, Int.ediv_mul_le _ (by omega), ?_⟩
  · by_cases h : 65536 / m ≤ 655
    · exact h
    · have h3 : (655 + 1) * m ≤ 65536 / m * m := Int.mul_le_mul_of_nonneg_right (by omega) (by omega)
      have := Int.ediv_mul_le 65536 (show m ≠ 0 by omega)
      omega
  · have := Int.lt_ediv_add_one_mul_self 65536 (show 0 < m by omega)
    rw [Int.add_mul] at this; omega
theorem tso_r (x m : Int) (h : 0 ≤ x) (h0 : 0 < m) : 0 ≤ x / m ∧ x / m ≤ x := ⟨Int.ediv_nonneg h (by omega), Int.ediv_le_self _ h⟩

set_option maxHeartbeats 800000 in
theorem size_ct (rate mss : Int) (h0 : 0 ≤ rate) (h1 : rate ≤ 18446744073709551615) (h2 : -9223372036854775808 ≤ mss) (h3 : mss ≤ 9223372036854775807) :
    Ct Tryz.prog 204 #[.int .u64 rate, .int .i64 mss] [] (Gives (.int .i64 (tsoS rate mss)) []) := by
  obtain ⟨m, hm⟩ : ∃ m, min (max mss 100) 9000 = m := ⟨_, rfl⟩
  have hM : tsoM mss = m := by unfold tsoM; omega
  have m0 : 100 ≤ m := by omega
  have m1 : m ≤ 9000 := by omega
  obtain ⟨d0, d1, d2, _⟩ := tso_d m m0 m1
  obtain ⟨r0, r1⟩ := tso_r (rate / 1024) m (by omega) (by omega)
  obtain ⟨d, hd⟩ : ∃ d, 65536 / m = d := ⟨_, rfl⟩
  obtain ⟨r, hr⟩ : ∃ r, rate / 1024 / m = r := ⟨_, rfl⟩
  have hN : tsoN rate m = max 2 (min r d) := by unfold tsoN; rw [hr, hd]
  rw [hd] at d0 d1 d2
  rw [hr] at r0 r1
  have dm : 0 ≤ d * m := Int.mul_nonneg (by omega) (by omega)
  have rm : 0 ≤ r * m := Int.mul_nonneg (by omega) (by omega)
  have hS1 : tsoS rate mss = max 2 (min r d) * m := by unfold tsoS; rw [hM, hN]
  rw [hS1]
  clear hS1 hN hM
  by_cases c1 : r < 2
  · rw [show max 2 (min r d) = 2 by omega]
    intro w0 F L w hS
    simp only [List.cons_append, List.nil_append] at hS
    go_enter Tryz.func204, Tryz.ntmps204
    go_wp2_with (first | go_skip | (refine ck_max rfl rfl rfl rfl ?_; simp only [Act.put, spA, spZ, spS]) | (refine ck_min rfl rfl rfl rfl ?_; simp only [Act.put, spA, spZ, spS]) )
    go_step3
    go_wp2_with (first | go_skip | (refine ck_max rfl rfl rfl rfl ?_; simp only [Act.put, spA, spZ, spS]) | (refine ck_min rfl rfl rfl rfl ?_; simp only [Act.put, spA, spZ, spS]) )
    go_step3
    go_wp2_with (first | go_skip | (refine ck_max rfl rfl rfl rfl ?_; simp only [Act.put, spA, spZ, spS]) | (refine ck_min rfl rfl rfl rfl ?_; simp only [Act.put, spA, spZ, spS]) )
    refine wp_loop_rounds 3 ?_; rw [rounds_succ]
    go_wp2_with (first | go_skip | (refine ck_max rfl rfl rfl rfl ?_; simp only [Act.put, spA, spZ, spS]) | (refine ck_min rfl rfl rfl rfl ?_; simp only [Act.put, spA, spZ, spS]) | (with_reducible rw [rounds_succ]))
    rw [Exit.noGoto_ret]
    go_ret
    exact ⟨_, ⟨rfl, rfl⟩, hS⟩
  · by_cases c2 : d < r
    · rw [show max 2 (min r d) = d by omega]
      intro w0 F L w hS
      simp only [List.cons_append, List.nil_append] at hS
      go_enter Tryz.func204, Tryz.ntmps204
      go_wp2_with (first | go_skip | (refine ck_max rfl rfl rfl rfl ?_; simp only [Act.put, spA, spZ, spS]) | (refine ck_min rfl rfl rfl rfl ?_; simp only [Act.put, spA, spZ, spS]) )
      go_step3
      go_wp2_with (first | go_skip | (refine ck_max rfl rfl rfl rfl ?_; simp only [Act.put, spA, spZ, spS]) | (refine ck_min rfl rfl rfl rfl ?_; simp only [Act.put, spA, spZ, spS]) )
      go_step3
      go_wp2_with (first | go_skip | (refine ck_max rfl rfl rfl rfl ?_; simp only [Act.put, spA, spZ, spS]) | (refine ck_min rfl rfl rfl rfl ?_; simp only [Act.put, spA, spZ, spS]) )
      refine wp_loop_rounds 3 ?_; rw [rounds_succ]
      go_wp2_with (first | go_skip | (refine ck_max rfl rfl rfl rfl ?_; simp only [Act.put, spA, spZ, spS]) | (refine ck_min rfl rfl rfl rfl ?_; simp only [Act.put, spA, spZ, spS]) | (with_reducible rw [rounds_succ]))
      rw [Exit.noGoto_ret]
      go_ret
      exact ⟨_, ⟨rfl, rfl⟩, hS⟩
    · have r2 : r * m ≤ d * m := Int.mul_le_mul_of_nonneg_right (by omega) (by omega)
      have r3 : r * m ≤ 65536 := by omega
      rw [show max 2 (min r d) = r by omega]
      intro w0 F L w hS
      simp only [List.cons_append, List.nil_append] at hS
      go_enter Tryz.func204, Tryz.ntmps204
      go_wp2_with (first | go_skip | (refine ck_max rfl rfl rfl rfl ?_; simp only [Act.put, spA, spZ, spS]) | (refine ck_min rfl rfl rfl rfl ?_; simp only [Act.put, spA, spZ, spS]) )
      go_step3
      go_wp2_with (first | go_skip | (refine ck_max rfl rfl rfl rfl ?_; simp only [Act.put, spA, spZ, spS]) | (refine ck_min rfl rfl rfl rfl ?_; simp only [Act.put, spA, spZ, spS]) )
      go_step3
      go_wp2_with (first | go_skip | (refine ck_max rfl rfl rfl rfl ?_; simp only [Act.put, spA, spZ, spS]) | (refine ck_min rfl rfl rfl rfl ?_; simp only [Act.put, spA, spZ, spS]) )
      refine wp_loop_rounds 3 ?_; rw [rounds_succ]
      go_wp2_with (first | go_skip | (refine ck_max rfl rfl rfl rfl ?_; simp only [Act.put, spA, spZ, spS]) | (refine ck_min rfl rfl rfl rfl ?_; simp only [Act.put, spA, spZ, spS]) | (with_reducible rw [rounds_succ]))
      rw [Exit.noGoto_ret]
      go_ret
      exact ⟨_, ⟨rfl, rfl⟩, hS⟩
set_option maxHeartbeats 400000 in
theorem refSize_ct (rate mss : Int) (h0 : 0 ≤ rate) (h1 : rate ≤ 18446744073709551615) (h2 : -9223372036854775808 ≤ mss) (h3 : mss ≤ 9223372036854775807) :
    Ct Tryz.prog 219 #[.int .u64 rate, .int .i64 mss] [] (Gives (.int .i64 (tsoS rate mss)) []) := by
  obtain ⟨m, hm⟩ : ∃ m, max 100 (min mss 9000) = m := ⟨_, rfl⟩
  have hM : tsoM mss = m := by unfold tsoM; omega
  have m0 : 100 ≤ m := by omega
  have m1 : m ≤ 9000 := by omega
  obtain ⟨d0, d1, d2, _⟩ := tso_d m m0 m1
  obtain ⟨r0, r1⟩ := tso_r (rate / 1024) m (by omega) (by omega)
  obtain ⟨d, hd⟩ : ∃ d, 65536 / m = d := ⟨_, rfl⟩
  obtain ⟨r, hr⟩ : ∃ r, rate / 1024 / m = r := ⟨_, rfl⟩
  have hN : tsoN rate m = max 2 (min r d) := by unfold tsoN; rw [hr, hd]
  rw [hd] at d0 d1 d2
  rw [hr] at r0 r1
  obtain ⟨n, hn⟩ : ∃ n, max 2 (min r d) = n := ⟨_, rfl⟩
  have n0 : 2 ≤ n := by omega
  have n1 : n ≤ 655 := by omega
  have nm : 0 ≤ n * m := Int.mul_nonneg (by omega) (by omega)
  have nd : n * m ≤ d * m := Int.mul_le_mul_of_nonneg_right (by omega) (by omega)
  have hS1 : tsoS rate mss = n * m := by unfold tsoS; rw [hM, hN, hn]
  rw [hS1]
  clear hS1 hN hM
  intro w0 F L w hS
  simp only [List.cons_append, List.nil_append] at hS
  go_enter Tryz.func219, Tryz.ntmps219
  go_wp2_with (first | go_skip | (refine ck_max rfl rfl rfl rfl ?_; simp only [Act.put, spA, spZ, spS]) | (refine ck_min rfl rfl rfl rfl ?_; simp only [Act.put, spA, spZ, spS]) )
  go_ret
  exact ⟨_, ⟨rfl, rfl⟩, hS⟩
end Go.Proofs.YtcegknecikbbkaaGreat

/- What the functions of tsq, and of its reference, come to. -/
set_option linter.unusedVariables false
set_option linter.unusedSimpArgs false
set_option maxRecDepth 4000
namespace Go.Proofs.YtcegknecikbbkaaGreat
open Go.RowKit
def tsqL (rate tso most : Int) : Int := max (2 * max tso 0) (min (rate / 1024) (max most 0))
set_option maxHeartbeats 400000 in
theorem limit_ct (rate tso most : Int) (h0 : 0 ≤ rate) (h1 : rate ≤ 18446744073709551615) (h2 : -9223372036854775808 ≤ tso) (h3 : tso ≤ 9223372036854775807) (h4 : -9223372036854775808 ≤ most) (h5 : most ≤ 9223372036854775807) :
    Ct Tryz.prog 200 #[.int .u64 rate, .int .i64 tso, .int .i64 most] [] (Gives (.int .u64 (tsqL rate tso most)) []) := by
  intro w0 F L w hS
  simp only [List.cons_append, List.nil_append] at hS
  go_enter Tryz.func200, Tryz.ntmps200
  go_wp2_with (first | go_skip | (refine ck_max rfl rfl rfl rfl ?_; simp only [Act.put, spA, spZ, spS]) | (refine ck_min rfl rfl rfl rfl ?_; simp only [Act.put, spA, spZ, spS]) )
  go_step3
  go_wp2_with (first | go_skip | (refine ck_max rfl rfl rfl rfl ?_; simp only [Act.put, spA, spZ, spS]) | (refine ck_min rfl rfl rfl rfl ?_; simp only [Act.put, spA, spZ, spS]) )
  go_step3
  go_wp2_with (first | go_skip | (refine ck_max rfl rfl rfl rfl ?_; simp only [Act.put, spA, spZ, spS]) | (refine ck_min rfl rfl rfl rfl ?_; simp only [Act.put, spA, spZ, spS]) )
  refine wp_loop_rounds 3 ?_; rw [rounds_succ]
  go_wp2_with (first | go_skip | (refine ck_max rfl rfl rfl rfl ?_; simp only [Act.put, spA, spZ, spS]) | (refine ck_min rfl rfl rfl rfl ?_; simp only [Act.put, spA, spZ, spS]) | (refine ck_index Tryz.underlying235 rfl rfl rfl rfl (by decide) (by decide) rfl (by kernel_rfl) (by kernel_rfl) ?_; simp only [Act.put, spA, spZ, spS]) | (with_reducible rw [rounds_succ]))
  all_goals
    rw [Exit.noGoto_ret]
    go_ret
    exact ⟨_, ⟨congrArg (Value.int _) (by unfold tsqL; omega), rfl⟩, hS⟩
set_option maxHeartbeats 400000 in
theorem may_ct (x y : Int) : Ct Tryz.prog 199 #[.int .u64 x, .int .u64 y] [] (Gives (.bool (decide (x < y))) []) := by
  intro w0 F L w hS
  simp only [List.cons_append, List.nil_append] at hS
  go_enter Tryz.func199, Tryz.ntmps199
  go_wp2_with (first | go_skip )
  go_ret
  exact ⟨_, ⟨rfl, rfl⟩, hS⟩
end Go.Proofs.YtcegknecikbbkaaGreat

/- A socket. -/
set_option linter.unusedVariables false
set_option linter.unusedSimpArgs false
set_option maxRecDepth 4000
namespace Go.Proofs.YtcegknecikbbkaaGreat
open Go.RowKit
structure SmpM where
  (del delAt firstAt mark : Int) (is : Bool) (size prior priorAt : Int) (lim : Bool) (sending rt : Int)
abbrev smpR (b : Nat) (s : SmpM) : Res := pts b [.int .u64 s.del, .int .u64 s.delAt, .int .u64 s.firstAt, .int .u64 s.mark, .bool s.is, .int .u64 s.size, .int .u64 s.prior, .int .u64 s.priorAt, .bool s.lim, .int .u64 s.sending, .int .u64 s.rt] 243
def smpZ : SmpM := ⟨0, 0, 0, 0, false, 0, 0, 0, false, 0, 0⟩
structure BufM where
  (w t s r : Int)
structure SockM where
  (id mss most out at' : Int) (buf : BufM) (ps : List PieceM) (en : Int) (smp : SmpM) (mdl : MdlM)
structure SockA where
  (b f o s : Nat) (oa : BrdA) (m : MdlA)
abbrev sockP (A : SockA) (k : SockM) : Res := pts A.b [.int .i64 k.id, .int .i64 k.mss, .int .i64 k.most, .pointer (some ⟨A.f, 0, none⟩), .pointer (some ⟨A.o, 0, none⟩), .pointer (some ⟨A.s, 0, none⟩), .pointer (some ⟨A.m.b, 0, none⟩), .int .u64 k.out, .int .u64 k.at'] 192
abbrev bufR' (b : Nat) (m : BufM) : Res := bufR b m.w m.t m.s m.r
def sockG (A : SockA) (k : SockM) : Res := grpR [sockP A k, bufR' A.f k.buf, brdG A.o k.ps k.en A.oa, smpR A.s k.smp, mdlG A.m k.mdl]
theorem sockOpen {A : SockA} {k : SockM} {w0 w : World} {F : List Nat} {L : List Res} : Sep w0 F (sockG A k :: L) w ↔ Sep w0 F (sockP A k :: bufR' A.f k.buf :: brdG A.o k.ps k.en A.oa :: smpR A.s k.smp :: mdlG A.m k.mdl :: L) w := (Sep.grp (l := [sockP A k, bufR' A.f k.buf, brdG A.o k.ps k.en A.oa, smpR A.s k.smp, mdlG A.m k.mdl])).symm
theorem smpNew_ct : Ct Tryz.prog 96 #[] [] (fun v L => ∃ b, v = .pointer (some ⟨b, 0, none⟩) ∧ L = [smpR b smpZ]) := by
  intro w0 F L w hS
  simp only [List.cons_append, List.nil_append] at hS
  go_enter Tryz.func96, Tryz.ntmps96
  go_wp2_with (first | go_skip | (refine ck_box hS rfl rfl (by constructor) ?_; clear hS; intro nb w hS; simp only [Act.put, spA, spZ, spS]) )
  go_ret
  exact ⟨_, ⟨_, rfl, rfl⟩, hS⟩
theorem smpLimit_ct (b : Nat) (s : SmpM) (fl : Int) (h0 : 0 ≤ s.del) (h1 : s.del ≤ 18446744073709551615) (h2 : 0 ≤ fl) (h3 : fl ≤ 18446744073709551615) : Ct Tryz.prog 198 #[.pointer (some ⟨b, 0, none⟩), .int .u64 fl] [smpR b s] (Gives (.tuple #[]) [smpR b { s with mark := max 1 (satAdd s.del fl) }]) := by
  have kA := satAdd_ct s.del fl h0 h1 h2 h3
  generalize satAdd s.del fl = sa at *
  intro w0 F L w hS
  simp only [List.cons_append, List.nil_append] at hS
  go_enter Tryz.func198, Tryz.ntmps198
  go_wp2_with (first | go_skip | (refine ck_load hS rfl rfl rfl (by (repeat (first | exact mH _ | apply mT)) <;> fail) rfl (by decide +kernel) ?_; simp only [Act.put, spA, spZ, spS]) | (refine ck_store hS rfl rfl rfl (by constructor) (by (repeat (first | exact uH _ _ _ | apply uT)) <;> fail) (by simp <;> omega) rfl (by decide +kernel) ?_; clear hS; intro w hS; simp only [Act.put, spA, spZ, spS] at hS ⊢) | (refine ck_max rfl rfl rfl rfl ?_; simp only [Act.put, spA, spZ, spS]) | (refine ck_min rfl rfl rfl rfl ?_; simp only [Act.put, spA, spZ, spS]) | (go_at_call 79; with_reducible refine Ct.call0 (kA) hS ?_; clear hS; intro w hS))
  refine bodyPost_end (results_none rfl _ _ _) rfl ?_
  exact ⟨_, ⟨rfl, rfl⟩, hS⟩
def smpSentM (s : SmpM) (now fl : Int) : SmpM := if fl = 0 then { s with firstAt := now, delAt := now } else s
def smpSentV (s : SmpM) (now : Int) : SentM := ⟨now, s.del, s.delAt, s.firstAt, !(s.mark == 0)⟩
theorem smpSent_ct (b : Nat) (s : SmpM) (now fl : Int) : Ct Tryz.prog 143 #[.pointer (some ⟨b, 0, none⟩), .int .u64 now, .int .u64 fl] [smpR b s] (Gives (.agg (sntV (smpSentV (smpSentM s now fl) now)).toArray) [smpR b (smpSentM s now fl)]) := by
  obtain ⟨d, da, fa, mk, is, sz, pr, pa, lm, sd, rt⟩ := s
  unfold smpSentM smpSentV
  by_cases h : fl = 0
  · subst h
    rw [if_pos rfl]
    dsimp only
    intro w0 F L w hS
    simp only [List.cons_append, List.nil_append] at hS
    go_enter Tryz.func143, Tryz.ntmps143
    go_wp2_with (first | go_skip | (refine ck_store hS rfl rfl rfl (by constructor) (by (repeat (first | exact uH _ _ _ | apply uT)) <;> fail) (by simp <;> omega) rfl (by decide +kernel) ?_; clear hS; intro w hS; simp only [Act.put, spA, spZ, spS] at hS ⊢) | (refine ck_alloc (t := 261) (v := .agg #[.int .u64 0, .int .u64 0, .int .u64 0, .int .u64 0, .bool false]) (cs := [.int .u64 0, .int .u64 0, .int .u64 0, .int .u64 0, .bool false]) hS rfl rfl (by kernel_rfl) rfl ?_; clear hS; intro r6 w hS; simp only [Act.put, spA, spZ, spS]) | (refine ck_storeAll hS rfl rfl rfl rfl (by (repeat (first | exact uH _ _ _ | apply uT)) <;> fail) (by rfl) rfl (by (try simp only [List.length_cons, List.length_nil, Nat.zero_add, Nat.reduceAdd]); decide +kernel) ?_; clear hS; intro w hS; simp only [Act.put, spA, spZ, spS]) | (refine ck_region (fun _ => 0) (fun _ => []) [] hS (by kernel_rfl) (by decide +kernel) ?_ ?_; exact ⟨fun _ _ _ h => h.2, fun _ _ h => h⟩; clear hS; intro w hS _; (repeat (first | (apply wpT_pure rfl rfl; (intro _; go_simp; (try (go_ints; (try go_simp))); (first | (rw [decide_eq_true]; omega) | (rw [decide_eq_false]; omega) | rfl | rw [if_pos (by omega)])); simp only [Act.put, spA, spZ, spS]) | (refine ckT_load hS rfl rfl rfl (by simp <;> fail) (by (repeat (first | exact mH _ | apply mT)) <;> fail) rfl (by decide +kernel) ?_; simp only [Act.put, spA, spZ, spS]) | (refine ckT_store hS rfl rfl rfl (by constructor) (by (repeat (first | exact uH _ _ _ | apply uT)) <;> fail) (by simp <;> fail) rfl (by decide +kernel) (by simp <;> fail) ?_; clear hS; intro w hS; simp only [Act.put, spA, spZ, spS] at hS ⊢) | (refine ckT_storeAll hS rfl rfl rfl rfl (by (repeat (first | exact uH _ _ _ | apply uT)) <;> fail) (by rfl) rfl (by (try simp only [List.length_cons, List.length_nil, Nat.zero_add, Nat.reduceAdd]); decide +kernel) (by simp <;> fail) ?_; clear hS; intro w hS; simp only [Act.put, spA, spZ, spS]))); refine wpT_nil ?_))
    refine bodyPost_ret (ckRes_cell hS (cs := [.int .u64 now, .int .u64 d, .int .u64 now, .int .u64 now, .bool (!(mk == 0))]) (b := r6) (T := 261) (by (repeat (first | exact mH _ | apply mT)) <;> fail) rfl rfl rfl (by (try simp only [List.length_cons, List.length_nil, Nat.zero_add, Nat.reduceAdd]); decide +kernel)) rfl ?_
    exact ⟨_, ⟨rfl, rfl⟩, hS.drop⟩
  · rw [if_neg h]
    dsimp only
    have h' : (fl == 0) = false := by simpa using h
    clear h
    intro w0 F L w hS
    simp only [List.cons_append, List.nil_append] at hS
    go_enter Tryz.func143, Tryz.ntmps143
    go_wp2_with (first | go_skip | (refine ck_store hS rfl rfl rfl (by constructor) (by (repeat (first | exact uH _ _ _ | apply uT)) <;> fail) (by simp <;> omega) rfl (by decide +kernel) ?_; clear hS; intro w hS; simp only [Act.put, spA, spZ, spS] at hS ⊢) | (refine ck_alloc (t := 261) (v := .agg #[.int .u64 0, .int .u64 0, .int .u64 0, .int .u64 0, .bool false]) (cs := [.int .u64 0, .int .u64 0, .int .u64 0, .int .u64 0, .bool false]) hS rfl rfl (by kernel_rfl) rfl ?_; clear hS; intro r6 w hS; simp only [Act.put, spA, spZ, spS]) | (refine ck_storeAll hS rfl rfl rfl rfl (by (repeat (first | exact uH _ _ _ | apply uT)) <;> fail) (by rfl) rfl (by (try simp only [List.length_cons, List.length_nil, Nat.zero_add, Nat.reduceAdd]); decide +kernel) ?_; clear hS; intro w hS; simp only [Act.put, spA, spZ, spS]) | (refine ck_region (fun _ => 0) (fun _ => []) [] hS (by kernel_rfl) (by decide +kernel) ?_ ?_; exact ⟨fun _ _ _ h => h.2, fun _ _ h => h⟩; clear hS; intro w hS _; (repeat (first | (apply wpT_pure rfl rfl; (intro _; go_simp; (try (go_ints; (try go_simp))); (first | (rw [decide_eq_true]; omega) | (rw [decide_eq_false]; omega) | rfl | rw [if_pos (by omega)])); simp only [Act.put, spA, spZ, spS]) | (refine ckT_load hS rfl rfl rfl (by simp <;> fail) (by (repeat (first | exact mH _ | apply mT)) <;> fail) rfl (by decide +kernel) ?_; simp only [Act.put, spA, spZ, spS]) | (refine ckT_store hS rfl rfl rfl (by constructor) (by (repeat (first | exact uH _ _ _ | apply uT)) <;> fail) (by simp <;> fail) rfl (by decide +kernel) (by simp <;> fail) ?_; clear hS; intro w hS; simp only [Act.put, spA, spZ, spS] at hS ⊢) | (refine ckT_storeAll hS rfl rfl rfl rfl (by (repeat (first | exact uH _ _ _ | apply uT)) <;> fail) (by rfl) rfl (by (try simp only [List.length_cons, List.length_nil, Nat.zero_add, Nat.reduceAdd]); decide +kernel) (by simp <;> fail) ?_; clear hS; intro w hS; simp only [Act.put, spA, spZ, spS]))); refine wpT_nil ?_))
    refine bodyPost_ret (ckRes_cell hS (cs := [.int .u64 now, .int .u64 d, .int .u64 da, .int .u64 fa, .bool (!(mk == 0))]) (b := r6) (T := 261) (by (repeat (first | exact mH _ | apply mT)) <;> fail) rfl rfl rfl (by (try simp only [List.length_cons, List.length_nil, Nat.zero_add, Nat.reduceAdd]); decide +kernel)) rfl ?_
    exact ⟨_, ⟨rfl, rfl⟩, hS.drop⟩
def sockZ (id : Int) (c : CfgM) : SockM := ⟨id, min (max c.mss 100) 9000, c.cap, 0, 0, ⟨0, 0, 0, 1073741824⟩, [], 0, smpZ, mdlZ (min (max c.mss 100) 9000) (mulDiv (10 * (min (max c.mss 100) 9000) * 1000) 739 256)⟩
set_option maxHeartbeats 4000000 in
theorem sockNew_ct (id : Int) (c : CfgM) : Ct Tryz.prog 65 #[.int .i64 id, cfgA c] [] (fun v L => ∃ A : SockA, v = .pointer (some ⟨A.b, 0, none⟩) ∧ L = [sockG A (sockZ id c)]) := by
  obtain ⟨qn, fs, lim, flim, hz, mr, dh, cap, mss⟩ := c
  have kM := mdlNew_ct (min (max mss 100) 9000) _ (by omega) (by omega) rfl
  unfold sockZ
  dsimp only
  generalize mulDiv (10 * min (max mss 100) 9000 * 1000) 739 256 = r at *
  have hms : 100 ≤ min (max mss 100) 9000 ∧ min (max mss 100) 9000 ≤ 9000 := by omega
  intro w0 F L w hS
  simp only [List.cons_append, List.nil_append] at hS
  go_enter Tryz.func65, Tryz.ntmps65
  go_wp2_with (first | go_skip  | (refine ck_load hS rfl rfl rfl (by (repeat (first | exact mH _ | apply mT)) <;> fail) rfl (by decide +kernel) ?_; simp only [Act.put, spA, spZ, spS]) | (refine ck_box hS rfl rfl (by constructor) ?_; clear hS; intro nb w hS; simp only [Act.put, spA, spZ, spS]) | (refine ck_max rfl rfl rfl rfl ?_; simp only [Act.put, spA, spZ, spS]) | (refine ck_min rfl rfl rfl rfl ?_; simp only [Act.put, spA, spZ, spS])  | (refine ck_region (fun _ => 0) (fun _ => []) [] hS (by kernel_rfl) (by decide +kernel) ?_ ?_; exact ⟨fun _ _ _ h => h.2, fun _ _ h => h⟩; clear hS; intro w hS _; (repeat (first | (apply wpT_pure rfl rfl; (intro _; go_simp; (try (go_ints; (try go_simp))); (first | (rw [decide_eq_true]; omega) | (rw [decide_eq_false]; omega) | rfl | rw [if_pos (by omega)])); simp only [Act.put, spA, spZ, spS]) | (refine ckT_load hS rfl rfl rfl (by simp <;> fail) (by (repeat (first | exact mH _ | apply mT)) <;> fail) rfl (by decide +kernel) ?_; simp only [Act.put, spA, spZ, spS]) )); refine wpT_nil ?_) | (refine ck_region (fun _ => nb) (fun i => if i = 4 then [3] else if i = 5 then [3] else if i = 6 then [3] else if i = 9 then [3] else []) ([3]) hS (by kernel_rfl) (by decide +kernel) ?_ ?_; exact ⟨fun _ _ _ h => h.2, fun _ _ h => h⟩; clear hS; intro w hS _; (repeat (first | (apply wpT_pure rfl rfl; (intro _; go_simp; (try (go_ints; (try go_simp))); (first | (rw [decide_eq_true]; omega) | (rw [decide_eq_false]; omega) | rfl | rw [if_pos (by omega)])); simp only [Act.put, spA, spZ, spS]) | (refine ckT_load hS rfl rfl rfl (by simp <;> fail) (by (repeat (first | exact mH _ | apply mT)) <;> fail) rfl (by decide +kernel) ?_; simp only [Act.put, spA, spZ, spS]) | (refine ckT_callN hS rfl (bufNew_ct _) rfl (by kernel_rfl) rfl (by intro j hj; exact ⟨_, 24, (by (repeat (first | exact mH _ | apply mT)) <;> fail)⟩) ?_; clear hS; rintro _ _ w ⟨bf, rfl, rfl⟩ hS; simp only [List.cons_append, List.nil_append] at hS; simp only [Act.put, spA, spZ, spS]) | (refine ckT_callN hS rfl (brdNew_ct) rfl (by kernel_rfl) rfl (by intro j hj; exact ⟨_, 24, (by (repeat (first | exact mH _ | apply mT)) <;> fail)⟩) ?_; clear hS; rintro _ _ w ⟨bo, oa, rfl, rfl⟩ hS; simp only [List.cons_append, List.nil_append] at hS; simp only [Act.put, spA, spZ, spS]) | (refine ckT_callN hS rfl (smpNew_ct) rfl (by kernel_rfl) rfl (by intro j hj; exact ⟨_, 24, (by (repeat (first | exact mH _ | apply mT)) <;> fail)⟩) ?_; clear hS; rintro _ _ w ⟨bs, rfl, rfl⟩ hS; simp only [List.cons_append, List.nil_append] at hS; simp only [Act.put, spA, spZ, spS]) | (refine ckT_callN hS rfl (kM) rfl (by kernel_rfl) rfl (by intro j hj; exact ⟨_, 24, (by (repeat (first | exact mH _ | apply mT)) <;> fail)⟩) ?_; clear hS; rintro _ _ w ⟨ma, rfl, rfl⟩ hS; simp only [List.cons_append, List.nil_append] at hS; simp only [Act.put, spA, spZ, spS]) | (refine ckT_box hS rfl rfl (by constructor) (by simp <;> fail) ?_; clear hS; intro kb w hS; simp only [Act.put, spA, spZ, spS]))); refine wpT_nil ?_))
  rw [show min (max (1073741824 : Int) 0) 1073741824 = 1073741824 from rfl] at hS
  go_ret
  have j1 := (hS.bring (r := pts nb (cfgV ⟨qn, fs, lim, flim, hz, mr, dh, cap, mss⟩) 24) (by (repeat (first | exact rH _ _ | apply rT)) <;> fail)).drop
  have j2 := j1.bring (r := smpR bs smpZ) (by (repeat (first | exact rH _ _ | apply rT)) <;> fail)
  have j3 := j2.bring (r := brdG bo [] 0 oa) (by (repeat (first | exact rH _ _ | apply rT)) <;> fail)
  have j4 := j3.bring (r := bufR bf 0 0 0 1073741824) (by (repeat (first | exact rH _ _ | apply rT)) <;> fail)
  have j5 := j4.bring (r := pts kb [.int .i64 id, .int .i64 (min (max mss 100) 9000), .int .i64 cap, .pointer (some ⟨bf, 0, none⟩), .pointer (some ⟨bo, 0, none⟩), .pointer (some ⟨bs, 0, none⟩), .pointer (some ⟨ma.b, 0, none⟩), .int .u64 0, .int .u64 0] 192) (by (repeat (first | exact rH _ _ | apply rT)) <;> fail)
  exact ⟨_, ⟨⟨kb, bf, bo, bs, oa, ma⟩, rfl, rfl⟩, sockOpen.2 j5⟩
section
variable (A : SockA) (k : SockM)
theorem sockModel_ct : Ct Tryz.prog 91 #[.pointer (some ⟨A.b, 0, none⟩)] [sockG A k] (Gives (.agg (stV k.mdl).toArray) [sockG A k]) := by
  have kS := mdlState_ct A.m k.mdl
  intro w0 F L w hS
  have hS := sockOpen.1 hS
  go_enter Tryz.func91, Tryz.ntmps91
  go_wp2_with (first | go_skip | (refine ck_load hS rfl rfl rfl (by (repeat (first | exact mH _ | apply mT)) <;> fail) rfl (by decide +kernel) ?_; simp only [Act.put, spA, spZ, spS]) | (refine ck_store hS rfl rfl rfl (by constructor) (by (repeat (first | exact uH _ _ _ | apply uT)) <;> fail) (by simp <;> omega) rfl (by decide +kernel) ?_; clear hS; intro w hS; simp only [Act.put, spA, spZ, spS] at hS ⊢) | (refine ck_alloc (t := 177) (v := .agg (List.toArray [.int .i64 0, .int .i64 0, .int .u64 0, .int .u64 0, .int .u64 0, .int .u64 0, .int .u64 0, .int .u64 0, .bool false, .bool false])) (cs := [.int .i64 0, .int .i64 0, .int .u64 0, .int .u64 0, .int .u64 0, .int .u64 0, .int .u64 0, .int .u64 0, .bool false, .bool false]) hS rfl rfl (by kernel_rfl) rfl ?_; clear hS; intro nb w hS; simp only [Act.put, spA, spZ, spS]) | (go_at_call 128; (with_reducible refine Ct.callU (kS) (by (repeat (first | exact uH _ _ _ | apply uT)) <;> fail) hS ?_) <;> (first | (clear hS; intro w hS) | omega)) | (refine ck_storeAll hS rfl rfl rfl rfl (by (repeat (first | exact uH _ _ _ | apply uT)) <;> fail) (by rfl) rfl (by (try simp only [List.length_cons, List.length_nil, Nat.zero_add, Nat.reduceAdd]); decide +kernel) ?_; clear hS; intro w hS; simp only [Act.put, spA, spZ, spS]))
  refine bodyPost_ret (ckRes_cell hS (cs := stV k.mdl) (b := nb) (T := 177) (by (repeat (first | exact mH _ | apply mT)) <;> fail) rfl rfl rfl (by (try simp only [List.length_cons, List.length_nil, Nat.zero_add, Nat.reduceAdd]); decide +kernel)) rfl ?_
  exact ⟨_, ⟨rfl, rfl⟩, sockOpen.2 hS.drop⟩
theorem sockFlight_ct (hsm : k.ps.length ≤ 4096) (hok : ∀ p ∈ k.ps, pieceOk p) (hfl : flightZ k.ps ≤ 4611686018427387904) : Ct Tryz.prog 144 #[.pointer (some ⟨A.b, 0, none⟩)] [sockG A k] (Gives (.int .u64 (flightZ k.ps)) [sockG A k]) := by
  have kF := brdFlight_ct A.o k.ps k.en A.oa hsm hok hfl
  clear hsm hok hfl
  generalize flightZ k.ps = fz at *
  intro w0 F L w hS
  have hS := sockOpen.1 hS
  go_enter Tryz.func144, Tryz.ntmps144
  go_wp2_with (first | go_skip | (refine ck_load hS rfl rfl rfl (by (repeat (first | exact mH _ | apply mT)) <;> fail) rfl (by decide +kernel) ?_; simp only [Act.put, spA, spZ, spS]) | (go_at_call 202; (with_reducible refine Ct.callU (kF) (by (repeat (first | exact uH _ _ _ | apply uT)) <;> fail) hS ?_) <;> (first | (clear hS; intro w hS) | omega)))
  go_ret
  exact ⟨_, ⟨rfl, rfl⟩, sockOpen.2 hS⟩
end
end Go.Proofs.YtcegknecikbbkaaGreat

/- A socket: Write, Tso, may. -/
set_option linter.unusedVariables false
set_option linter.unusedSimpArgs false
set_option maxRecDepth 4000
namespace Go.Proofs.YtcegknecikbbkaaGreat
open Go.RowKit
structure sockOk (k : SockM) : Prop where
  len : k.ps.length ≤ 4096
  ok : ∀ p ∈ k.ps, pieceOk p
  fl : flightZ k.ps ≤ 4611686018427387904
  no : ∀ p ∈ k.ps, p.lost = false
  buf : 0 ≤ k.buf.t ∧ k.buf.t ≤ k.buf.w ∧ k.buf.w < 4611686018427387904
  rate : 0 ≤ k.mdl.rate ∧ k.mdl.rate ≤ 18446744073709551615
  mss : 100 ≤ k.mss ∧ k.mss ≤ 9000
  most : -9223372036854775808 ≤ k.most ∧ k.most ≤ 9223372036854775807
  del : 0 ≤ k.smp.del ∧ k.smp.del ≤ 18446744073709551615
  out : 0 ≤ k.out ∧ k.out ≤ 4611686018427387904
  at' : 0 ≤ k.at' ∧ k.at' ≤ 18446744073709551615
  en : k.en = k.buf.t
theorem Sep.rot5 {w0 w : World} {F : List Nat} {L : List Res} {x a b c d e : Res} (h : Sep w0 F (x :: a :: b :: c :: d :: e :: L) w) : Sep w0 F (a :: b :: c :: d :: e :: x :: L) w := h.perm (List.perm_middle (l₁ := [a, b, c, d, e])).symm
section
variable (A : SockA) (k : SockM)
theorem sockWrite_ct (n : Int) (h : 1 ≤ n) (h3 : n ≤ 9223372036854775807) (h0 : 0 ≤ k.buf.s) (h1 : k.buf.s ≤ k.buf.w) (h2 : k.buf.w < 4611686018427387904) (h4 : k.buf.w - k.buf.s ≤ k.buf.r) (h5 : k.buf.r ≤ 1073741824) (hn : n ≤ k.buf.r - (k.buf.w - k.buf.s)) :
    Ct Tryz.prog 100 #[.pointer (some ⟨A.b, 0, none⟩), .int .i64 n] [sockG A k] (Gives (.int .i64 0) [sockG A { k with buf := { k.buf with w := k.buf.w + n } }]) := by
  have kW := bufWriteOk_ct A.f k.buf.w k.buf.t k.buf.s k.buf.r n h h3 h0 h1 h2 h4 h5 hn
  clear h h3 h0 h1 h2 h4 h5 hn
  intro w0 F L w hS
  have hS := sockOpen.1 hS
  have hfin : ∀ {w : World}, Sep w0 F (sockP A k :: bufR A.f (k.buf.w + n) k.buf.t k.buf.s k.buf.r :: brdG A.o k.ps k.en A.oa :: smpR A.s k.smp :: mdlG A.m k.mdl :: L) w → Sep w0 F ([sockG A { k with buf := { k.buf with w := k.buf.w + n } }] ++ L) w := fun h => sockOpen.2 h
  go_enter Tryz.func100, Tryz.ntmps100
  go_wp2_with (first | go_skip | (refine ck_load hS rfl rfl rfl (by (repeat (first | exact mH _ | apply mT)) <;> fail) rfl (by decide +kernel) ?_; simp only [Act.put, spA, spZ, spS]) | (go_at_call 136; (with_reducible refine Ct.callU (kW) (by (repeat (first | exact uH _ _ _ | apply uT)) <;> fail) hS ?_) <;> (first | (clear hS; intro w hS) | omega)))
  go_ret
  exact ⟨_, ⟨rfl, rfl⟩, hfin hS⟩
abbrev tsoK (k : SockM) : Int := tsoS k.mdl.rate k.mss
theorem sockTso_ct (h : sockOk k) : Ct Tryz.prog 147 #[.pointer (some ⟨A.b, 0, none⟩)] [sockG A k] (Gives (.int .i64 (tsoK k)) [sockG A k]) := by
  have kS := mdlState_ct A.m k.mdl
  obtain ⟨r0, r1⟩ := h.rate
  obtain ⟨m0, m1⟩ := h.mss
  have kZ := size_ct k.mdl.rate k.mss r0 r1 (by omega) (by omega)
  unfold tsoK
  generalize tsoS k.mdl.rate k.mss = tz at *
  intro w0 F L w hS
  have hS := sockOpen.1 hS
  clear h
  go_enter Tryz.func147, Tryz.ntmps147
  go_wp2_with (first | go_skip   | (refine ck_region (fun _ => 0) (fun _ => []) [] hS (by kernel_rfl) (by decide +kernel) ?_ ?_; exact ⟨fun _ _ _ h => h.2, fun _ _ h => h⟩; clear hS; intro w hS _; (repeat (first | (apply wpT_pure rfl rfl; (intro _; go_simp; (try (go_ints; (try go_simp))); (first | (rw [decide_eq_true]; omega) | (rw [decide_eq_false]; omega) | rfl | rw [if_pos (by omega)])); simp only [Act.put, spA, spZ, spS]) | (refine ckT_load hS rfl rfl rfl (by simp <;> fail) (by (repeat (first | exact mH _ | apply mT)) <;> fail) rfl (by decide +kernel) ?_; simp only [Act.put, spA, spZ, spS]) )); refine wpT_nil ?_) | (refine ck_region (fun _ => A.b) (fun i => if i = 4 then [9] else []) ([9]) hS (by kernel_rfl) (by decide +kernel) ?_ ?_; exact ⟨fun _ _ _ h => h.2, fun _ _ h => h⟩; clear hS; intro w hS _; (repeat (first | (apply wpT_pure rfl rfl; (intro _; go_simp; (try (go_ints; (try go_simp))); (first | (rw [decide_eq_true]; omega) | (rw [decide_eq_false]; omega) | rfl | rw [if_pos (by omega)])); simp only [Act.put, spA, spZ, spS]) | (refine ckT_load hS rfl rfl rfl (by simp <;> fail) (by (repeat (first | exact mH _ | apply mT)) <;> fail) rfl (by decide +kernel) ?_; simp only [Act.put, spA, spZ, spS]) | (refine ckT_callS hS rfl kS (by (repeat (first | exact uH _ _ _ | apply uT)) <;> fail) rfl (by kernel_rfl) rfl (fun j _ => ⟨_, _, ((by (repeat (first | exact mH _ | apply mT)) <;> fail) : sockP A k ∈ _)⟩) ?_; clear hS; intro w hS; simp only [Act.put, spA, spZ, spS]) | (refine ckT_call0 hS rfl (kZ) rfl (by kernel_rfl) rfl (by simp <;> fail) ?_; clear hS; intro w hS; simp only [Act.put, spA, spZ, spS]))); refine wpT_nil ?_))
  go_ret
  exact ⟨_, ⟨rfl, rfl⟩, sockOpen.2 hS⟩
theorem tsoK_bd {k : SockM} (h : sockOk k) : 0 ≤ tsoK k ∧ tsoK k ≤ 100000 := by
  obtain ⟨r0, r1⟩ := h.rate
  obtain ⟨m0, m1⟩ := tsoM_bd k.mss
  obtain ⟨d0, d1, d2, _⟩ := tso_d (tsoM k.mss) m0 m1
  unfold tsoK tsoS tsoN
  have h1 : 0 ≤ max 2 (min (k.mdl.rate / 1024 / tsoM k.mss) (65536 / tsoM k.mss)) := by omega
  have h2 : max 2 (min (k.mdl.rate / 1024 / tsoM k.mss) (65536 / tsoM k.mss)) ≤ 65536 / tsoM k.mss := by omega
  have h3 := Int.mul_le_mul_of_nonneg_right h2 (show 0 ≤ tsoM k.mss by omega)
  have h4 := Int.mul_nonneg h1 (show 0 ≤ tsoM k.mss by omega)
  omega
set_option maxRecDepth 20000 in
set_option maxHeartbeats 8000000 in
theorem sockMay1_ct (h : sockOk k) (hu : k.buf.w - k.buf.t = 0) (ho : flightZ k.ps < k.mdl.cwnd) : Ct Tryz.prog 142 #[.pointer (some ⟨A.b, 0, none⟩)] [sockG A k] (Gives (.int .i64 7) [sockG A { k with smp := { k.smp with mark := max 1 (satAdd k.smp.del (flightZ k.ps)) } }]) := by
  have kS := mdlState_ct A.m k.mdl
  have kL := brdLostNone_ct A.o k.ps k.en A.oa h.len h.no
  have kN := brdLen_ct A.o k.ps k.en A.oa
  have kF := sockFlight_ct A k h.len h.ok h.fl
  have kT := sockTso_ct A k h
  obtain ⟨b0, b1, b2⟩ := h.buf
  have kU := bufUnsent_ct A.f k.buf.w k.buf.t k.buf.s k.buf.r b0 b1 b2
  obtain ⟨r0, r1⟩ := h.rate
  obtain ⟨c0, c1⟩ := h.most
  have hfz := flightZ_nn h.ok
  have hfz1 := h.fl
  have kI := smpLimit_ct A.s k.smp (flightZ k.ps) h.del.1 h.del.2 hfz (by omega)
  have htz := tsoK_bd h
  have kQ := limit_ct k.mdl.rate (tsoK k) k.most r0 r1 (by omega) (by omega) c0 c1
  have kY := may_ct k.out (tsqL k.mdl.rate (tsoK k) k.most)
  have hlen := h.len
  obtain ⟨n, hn⟩ : ∃ n, k.ps.length = n := ⟨_, rfl⟩
  have hfin : ∀ {w : World} {w0 : World} {F : List Nat} {L : List Res}, Sep w0 F (sockP A k :: bufR' A.f k.buf :: brdG A.o k.ps k.en A.oa :: smpR A.s { k.smp with mark := max 1 (satAdd k.smp.del (flightZ k.ps)) } :: mdlG A.m k.mdl :: L) w → Sep w0 F (sockG A { k with smp := { k.smp with mark := max 1 (satAdd k.smp.del (flightZ k.ps)) } } :: L) w := fun h => sockOpen.2 h
  try rw [hn] at hN
  rw [hn] at kN hlen
  generalize flightZ k.ps = fz at *
  generalize tsqL k.mdl.rate (tsoK k) k.most = lz at *
  generalize tsoK k = tz at *
  generalize satAdd k.smp.del fz = sa at *
  have hu' : (k.buf.w - k.buf.t == 0) = true := by simpa using hu
  have ho' : decide (fz < k.mdl.cwnd) = true := decide_eq_true ho
  intro w0 F L w hS
  have hS := sockOpen.1 hS
  clear h hn
  go_enter Tryz.func142, Tryz.ntmps142
  go_wp2_with (first | go_skip | (refine ck_storeAll hS rfl rfl rfl rfl (by (repeat (first | exact uH _ _ _ | apply uT)) <;> fail) (by rfl) rfl (by (try simp only [List.length_cons, List.length_nil, Nat.zero_add, Nat.reduceAdd]); decide +kernel) ?_; clear hS; intro w hS; simp only [Act.put, spA, spZ, spS]) | (refine ck_load hS rfl rfl rfl (by (repeat (first | exact mH _ | apply mT)) <;> fail) rfl (by decide +kernel) ?_; simp only [Act.put, spA, spZ, spS]) | (refine ck_store hS rfl rfl rfl (by constructor) (by (repeat (first | exact uH _ _ _ | apply uT)) <;> fail) (by simp <;> omega) rfl (by decide +kernel) ?_; clear hS; intro w hS; simp only [Act.put, spA, spZ, spS] at hS ⊢) | (refine ck_alloc (t := 269) (v := .agg (List.toArray [.int .u64 0, .int .u64 0])) (cs := [.int .u64 0, .int .u64 0]) hS rfl rfl (by kernel_rfl) rfl ?_; clear hS; intro r3 w hS0; have hS := hS0.rot5; clear hS0; simp only [Act.put, spA, spZ, spS]) | (refine ck_alloc (t := 177) (v := .agg (List.toArray [.int .i64 0, .int .i64 0, .int .u64 0, .int .u64 0, .int .u64 0, .int .u64 0, .int .u64 0, .int .u64 0, .bool false, .bool false])) (cs := [.int .i64 0, .int .i64 0, .int .u64 0, .int .u64 0, .int .u64 0, .int .u64 0, .int .u64 0, .int .u64 0, .bool false, .bool false]) hS rfl rfl (by kernel_rfl) rfl ?_; clear hS; intro r5 w hS0; have hS := hS0.rot5; clear hS0; simp only [Act.put, spA, spZ, spS]) | (go_at_call 196; (with_reducible refine Ct.callU (kL) (by (repeat (first | exact uH _ _ _ | apply uT)) <;> fail) hS ?_) <;> (first | (clear hS; intro w hS) | omega)) | (go_at_call 128; (with_reducible refine Ct.callU (kS) (by (repeat (first | exact uH _ _ _ | apply uT)) <;> fail) hS ?_) <;> (first | (clear hS; intro w hS) | omega)) | (go_at_call 197; (with_reducible refine Ct.callU (kU) (by (repeat (first | exact uH _ _ _ | apply uT)) <;> fail) hS ?_) <;> (first | (clear hS; intro w hS) | omega)) | (go_at_call 201; (with_reducible refine Ct.callU (kN) (by (repeat (first | exact uH _ _ _ | apply uT)) <;> fail) hS ?_) <;> (first | (clear hS; intro w hS) | omega)) | (refine ck_region (fun _ => 0) (fun _ => []) [] hS (by kernel_rfl) (by decide +kernel) ?_ ?_; exact ⟨fun _ _ _ h => h.2, fun _ _ h => h⟩; clear hS; intro w hS _; (repeat (first | (apply wpT_pure rfl rfl; (intro _; go_simp; (try (go_ints; (try go_simp))); (first | (rw [decide_eq_true]; omega) | (rw [decide_eq_false]; omega) | rfl | rw [if_pos (by omega)])); simp only [Act.put, spA, spZ, spS]) | (refine ckT_load hS rfl rfl rfl (by simp <;> fail) (by (repeat (first | exact mH _ | apply mT)) <;> fail) rfl (by decide +kernel) ?_; simp only [Act.put, spA, spZ, spS]) | (refine wpT_skip rfl ?_; simp only [Act.put, spA, spZ, spS]) )); refine wpT_nil ?_) | (refine ck_region (fun _ => r5) (fun i => if i = 1 then [3] else []) ([3]) hS (by kernel_rfl) (by decide +kernel) ?_ ?_; exact ⟨fun _ _ _ h => h.2, fun _ _ h => h⟩; clear hS; intro w hS _; (repeat (first | (apply wpT_pure rfl rfl; (intro _; go_simp; (try (go_ints; (try go_simp))); (first | (rw [decide_eq_true]; omega) | (rw [decide_eq_false]; omega) | rfl | rw [if_pos (by omega)])); simp only [Act.put, spA, spZ, spS]) | (refine ckT_load hS rfl rfl rfl (by simp <;> fail) (by (repeat (first | exact mH _ | apply mT)) <;> fail) rfl (by decide +kernel) ?_; simp only [Act.put, spA, spZ, spS]) | (refine wpT_skip rfl ?_; simp only [Act.put, spA, spZ, spS]) | (refine ckT_callG' (sockOpen.2 hS) rfl kF rfl (by kernel_rfl) rfl (by intro j hj w2 h2; have h3 := sockOpen.1 h2; clear h2; simp at hj; subst hj; exact (h3.holds (pts r5 (stV k.mdl) 177) (by (repeat (first | exact mH _ | apply mT)) <;> fail)).trans (hS.holds (pts r5 (stV k.mdl) 177) (by (repeat (first | exact mH _ | apply mT)) <;> fail)).symm) ?_; clear hS; intro w hS0; have hS := sockOpen.1 hS0; clear hS0; simp only [Act.put, spA, spZ, spS]))); refine wpT_nil ?_) | (refine ck_region (fun _ => A.b) (fun i => if i = 5 then [3] else []) ([3]) hS (by kernel_rfl) (by decide +kernel) ?_ ?_; exact ⟨fun _ _ _ h => h.2, fun _ _ h => h⟩; clear hS; intro w hS _; (repeat (first | (apply wpT_pure rfl rfl; (intro _; go_simp; (try (go_ints; (try go_simp))); (first | (rw [decide_eq_true]; omega) | (rw [decide_eq_false]; omega) | rfl | rw [if_pos (by omega)])); simp only [Act.put, spA, spZ, spS]) | (refine ckT_load hS rfl rfl rfl (by simp <;> fail) (by (repeat (first | exact mH _ | apply mT)) <;> fail) rfl (by decide +kernel) ?_; simp only [Act.put, spA, spZ, spS]) | (refine wpT_skip rfl ?_; simp only [Act.put, spA, spZ, spS]) | (refine ckT_callG' (sockOpen.2 hS) rfl kF rfl (by kernel_rfl) rfl (by intro j hj w2 h2; have h3 := sockOpen.1 h2; clear h2; simp at hj; subst hj; exact (h3.holds (sockP A k) (by (repeat (first | exact mH _ | apply mT)) <;> fail)).trans (hS.holds (sockP A k) (by (repeat (first | exact mH _ | apply mT)) <;> fail)).symm) ?_; clear hS; intro w hS0; have hS := sockOpen.1 hS0; clear hS0; simp only [Act.put, spA, spZ, spS]) | ((refine ckT_callU hS rfl (kI) (by (repeat (first | exact uH _ _ _ | apply uT)) <;> fail) rfl (by kernel_rfl) rfl (by simp <;> fail) ?_) <;> (first | (clear hS; intro w hS) | omega); simp only [Act.put, spA, spZ, spS]))); refine wpT_nil ?_) | (refine ck_region (fun i => if i = 8 then r5 else A.b) (fun i => if i = 10 then [6, 8, 14] else if i = 15 then [6] else []) ([6, 8, 14]) hS (by kernel_rfl) (by decide +kernel) ?_ ?_; exact ⟨fun _ _ _ h => h.2, fun _ _ h => h⟩; clear hS; intro w hS _; (repeat (first | (apply wpT_pure rfl rfl; (intro _; go_simp; (try (go_ints; (try go_simp))); (first | (rw [decide_eq_true]; omega) | (rw [decide_eq_false]; omega) | rfl | rw [if_pos (by omega)])); simp only [Act.put, spA, spZ, spS]) | (refine ckT_load hS rfl rfl rfl (by simp <;> fail) (by (repeat (first | exact mH _ | apply mT)) <;> fail) rfl (by decide +kernel) ?_; simp only [Act.put, spA, spZ, spS]) | (refine wpT_skip rfl ?_; simp only [Act.put, spA, spZ, spS]) | (refine ckT_callG' (sockOpen.2 hS) rfl kT rfl (by kernel_rfl) rfl (by intro j hj w2 h2; have h3 := sockOpen.1 h2; clear h2; simp at hj; rcases hj with rfl | rfl | rfl <;> first | (exact (h3.holds (sockP A k) (by (repeat (first | exact mH _ | apply mT)) <;> fail)).trans (hS.holds (sockP A k) (by (repeat (first | exact mH _ | apply mT)) <;> fail)).symm) | (exact (h3.holds (pts r5 (stV k.mdl) 177) (by (repeat (first | exact mH _ | apply mT)) <;> fail)).trans (hS.holds (pts r5 (stV k.mdl) 177) (by (repeat (first | exact mH _ | apply mT)) <;> fail)).symm)) ?_; clear hS; intro w hS0; have hS := sockOpen.1 hS0; clear hS0; simp only [Act.put, spA, spZ, spS]) | (refine ckT_call0 hS rfl kQ rfl (by kernel_rfl) rfl (by intro j hj; simp at hj; subst hj; exact .inr ⟨_, _, ((by (repeat (first | exact mH _ | apply mT)) <;> fail) : sockP A k ∈ _), (by (repeat (first | exact mH _ | apply mT)) <;> fail)⟩) ?_; clear hS; intro w hS; simp only [Act.put, spA, spZ, spS]) | (refine ckT_call0 hS rfl (kY) rfl (by kernel_rfl) rfl (by simp <;> fail) ?_; clear hS; intro w hS; simp only [Act.put, spA, spZ, spS]))); refine wpT_nil ?_))
  go_ret
  refine ⟨_, ⟨rfl, rfl⟩, ?_⟩
  have j1 := (hS.bring (r := pts r5 (stV k.mdl) 177) (by (repeat (first | exact rH _ _ | apply rT)) <;> fail)).drop
  have j2 := (j1.bring (r := pts r3 [.int .u64 0, .int .u64 0] 269) (by (repeat (first | exact rH _ _ | apply rT)) <;> fail)).drop
  exact hfin j2
set_option maxRecDepth 20000 in
set_option maxHeartbeats 8000000 in
theorem sockMay2_ct (h : sockOk k) (hu : k.buf.w - k.buf.t = 0) (ho : ¬ flightZ k.ps < k.mdl.cwnd) : Ct Tryz.prog 142 #[.pointer (some ⟨A.b, 0, none⟩)] [sockG A k] (Gives (.int .i64 7) [sockG A k]) := by
  have kS := mdlState_ct A.m k.mdl
  have kL := brdLostNone_ct A.o k.ps k.en A.oa h.len h.no
  have kN := brdLen_ct A.o k.ps k.en A.oa
  have kF := sockFlight_ct A k h.len h.ok h.fl
  have kT := sockTso_ct A k h
  obtain ⟨b0, b1, b2⟩ := h.buf
  have kU := bufUnsent_ct A.f k.buf.w k.buf.t k.buf.s k.buf.r b0 b1 b2
  obtain ⟨r0, r1⟩ := h.rate
  obtain ⟨c0, c1⟩ := h.most
  have hfz := flightZ_nn h.ok
  have hfz1 := h.fl
  have kI := smpLimit_ct A.s k.smp (flightZ k.ps) h.del.1 h.del.2 hfz (by omega)
  have htz := tsoK_bd h
  have kQ := limit_ct k.mdl.rate (tsoK k) k.most r0 r1 (by omega) (by omega) c0 c1
  have kY := may_ct k.out (tsqL k.mdl.rate (tsoK k) k.most)
  have hlen := h.len
  obtain ⟨n, hn⟩ : ∃ n, k.ps.length = n := ⟨_, rfl⟩
  have hfin : ∀ {w : World} {w0 : World} {F : List Nat} {L : List Res}, Sep w0 F (sockP A k :: bufR' A.f k.buf :: brdG A.o k.ps k.en A.oa :: smpR A.s k.smp :: mdlG A.m k.mdl :: L) w → Sep w0 F (sockG A k :: L) w := fun h => sockOpen.2 h
  try rw [hn] at hN
  rw [hn] at kN hlen
  generalize flightZ k.ps = fz at *
  generalize tsqL k.mdl.rate (tsoK k) k.most = lz at *
  generalize tsoK k = tz at *
  have hu' : (k.buf.w - k.buf.t == 0) = true := by simpa using hu
  have ho' : decide (fz < k.mdl.cwnd) = false := decide_eq_false ho
  intro w0 F L w hS
  have hS := sockOpen.1 hS
  clear h hn
  go_enter Tryz.func142, Tryz.ntmps142
  go_wp2_with (first | go_skip | (refine ck_storeAll hS rfl rfl rfl rfl (by (repeat (first | exact uH _ _ _ | apply uT)) <;> fail) (by rfl) rfl (by (try simp only [List.length_cons, List.length_nil, Nat.zero_add, Nat.reduceAdd]); decide +kernel) ?_; clear hS; intro w hS; simp only [Act.put, spA, spZ, spS]) | (refine ck_load hS rfl rfl rfl (by (repeat (first | exact mH _ | apply mT)) <;> fail) rfl (by decide +kernel) ?_; simp only [Act.put, spA, spZ, spS]) | (refine ck_store hS rfl rfl rfl (by constructor) (by (repeat (first | exact uH _ _ _ | apply uT)) <;> fail) (by simp <;> omega) rfl (by decide +kernel) ?_; clear hS; intro w hS; simp only [Act.put, spA, spZ, spS] at hS ⊢) | (refine ck_alloc (t := 269) (v := .agg (List.toArray [.int .u64 0, .int .u64 0])) (cs := [.int .u64 0, .int .u64 0]) hS rfl rfl (by kernel_rfl) rfl ?_; clear hS; intro r3 w hS0; have hS := hS0.rot5; clear hS0; simp only [Act.put, spA, spZ, spS]) | (refine ck_alloc (t := 177) (v := .agg (List.toArray [.int .i64 0, .int .i64 0, .int .u64 0, .int .u64 0, .int .u64 0, .int .u64 0, .int .u64 0, .int .u64 0, .bool false, .bool false])) (cs := [.int .i64 0, .int .i64 0, .int .u64 0, .int .u64 0, .int .u64 0, .int .u64 0, .int .u64 0, .int .u64 0, .bool false, .bool false]) hS rfl rfl (by kernel_rfl) rfl ?_; clear hS; intro r5 w hS0; have hS := hS0.rot5; clear hS0; simp only [Act.put, spA, spZ, spS]) | (go_at_call 196; (with_reducible refine Ct.callU (kL) (by (repeat (first | exact uH _ _ _ | apply uT)) <;> fail) hS ?_) <;> (first | (clear hS; intro w hS) | omega)) | (go_at_call 128; (with_reducible refine Ct.callU (kS) (by (repeat (first | exact uH _ _ _ | apply uT)) <;> fail) hS ?_) <;> (first | (clear hS; intro w hS) | omega)) | (go_at_call 197; (with_reducible refine Ct.callU (kU) (by (repeat (first | exact uH _ _ _ | apply uT)) <;> fail) hS ?_) <;> (first | (clear hS; intro w hS) | omega)) | (go_at_call 201; (with_reducible refine Ct.callU (kN) (by (repeat (first | exact uH _ _ _ | apply uT)) <;> fail) hS ?_) <;> (first | (clear hS; intro w hS) | omega)) | (refine ck_region (fun _ => 0) (fun _ => []) [] hS (by kernel_rfl) (by decide +kernel) ?_ ?_; exact ⟨fun _ _ _ h => h.2, fun _ _ h => h⟩; clear hS; intro w hS _; (repeat (first | (apply wpT_pure rfl rfl; (intro _; go_simp; (try (go_ints; (try go_simp))); (first | (rw [decide_eq_true]; omega) | (rw [decide_eq_false]; omega) | rfl | rw [if_pos (by omega)])); simp only [Act.put, spA, spZ, spS]) | (refine ckT_load hS rfl rfl rfl (by simp <;> fail) (by (repeat (first | exact mH _ | apply mT)) <;> fail) rfl (by decide +kernel) ?_; simp only [Act.put, spA, spZ, spS]) | (refine wpT_skip rfl ?_; simp only [Act.put, spA, spZ, spS]) )); refine wpT_nil ?_) | (refine ck_region (fun _ => r5) (fun i => if i = 1 then [3] else []) ([3]) hS (by kernel_rfl) (by decide +kernel) ?_ ?_; exact ⟨fun _ _ _ h => h.2, fun _ _ h => h⟩; clear hS; intro w hS _; (repeat (first | (apply wpT_pure rfl rfl; (intro _; go_simp; (try (go_ints; (try go_simp))); (first | (rw [decide_eq_true]; omega) | (rw [decide_eq_false]; omega) | rfl | rw [if_pos (by omega)])); simp only [Act.put, spA, spZ, spS]) | (refine ckT_load hS rfl rfl rfl (by simp <;> fail) (by (repeat (first | exact mH _ | apply mT)) <;> fail) rfl (by decide +kernel) ?_; simp only [Act.put, spA, spZ, spS]) | (refine wpT_skip rfl ?_; simp only [Act.put, spA, spZ, spS]) | (refine ckT_callG' (sockOpen.2 hS) rfl kF rfl (by kernel_rfl) rfl (by intro j hj w2 h2; have h3 := sockOpen.1 h2; clear h2; simp at hj; subst hj; exact (h3.holds (pts r5 (stV k.mdl) 177) (by (repeat (first | exact mH _ | apply mT)) <;> fail)).trans (hS.holds (pts r5 (stV k.mdl) 177) (by (repeat (first | exact mH _ | apply mT)) <;> fail)).symm) ?_; clear hS; intro w hS0; have hS := sockOpen.1 hS0; clear hS0; simp only [Act.put, spA, spZ, spS]))); refine wpT_nil ?_) | (refine ck_region (fun _ => A.b) (fun i => if i = 5 then [3] else []) ([3]) hS (by kernel_rfl) (by decide +kernel) ?_ ?_; exact ⟨fun _ _ _ h => h.2, fun _ _ h => h⟩; clear hS; intro w hS _; (repeat (first | (apply wpT_pure rfl rfl; (intro _; go_simp; (try (go_ints; (try go_simp))); (first | (rw [decide_eq_true]; omega) | (rw [decide_eq_false]; omega) | rfl | rw [if_pos (by omega)])); simp only [Act.put, spA, spZ, spS]) | (refine ckT_load hS rfl rfl rfl (by simp <;> fail) (by (repeat (first | exact mH _ | apply mT)) <;> fail) rfl (by decide +kernel) ?_; simp only [Act.put, spA, spZ, spS]) | (refine wpT_skip rfl ?_; simp only [Act.put, spA, spZ, spS]) | (refine ckT_callG' (sockOpen.2 hS) rfl kF rfl (by kernel_rfl) rfl (by intro j hj w2 h2; have h3 := sockOpen.1 h2; clear h2; simp at hj; subst hj; exact (h3.holds (sockP A k) (by (repeat (first | exact mH _ | apply mT)) <;> fail)).trans (hS.holds (sockP A k) (by (repeat (first | exact mH _ | apply mT)) <;> fail)).symm) ?_; clear hS; intro w hS0; have hS := sockOpen.1 hS0; clear hS0; simp only [Act.put, spA, spZ, spS]) | ((refine ckT_callU hS rfl (kI) (by (repeat (first | exact uH _ _ _ | apply uT)) <;> fail) rfl (by kernel_rfl) rfl (by simp <;> fail) ?_) <;> (first | (clear hS; intro w hS) | omega); simp only [Act.put, spA, spZ, spS]))); refine wpT_nil ?_) | (refine ck_region (fun i => if i = 8 then r5 else A.b) (fun i => if i = 10 then [6, 8, 14] else if i = 15 then [6] else []) ([6, 8, 14]) hS (by kernel_rfl) (by decide +kernel) ?_ ?_; exact ⟨fun _ _ _ h => h.2, fun _ _ h => h⟩; clear hS; intro w hS _; (repeat (first | (apply wpT_pure rfl rfl; (intro _; go_simp; (try (go_ints; (try go_simp))); (first | (rw [decide_eq_true]; omega) | (rw [decide_eq_false]; omega) | rfl | rw [if_pos (by omega)])); simp only [Act.put, spA, spZ, spS]) | (refine ckT_load hS rfl rfl rfl (by simp <;> fail) (by (repeat (first | exact mH _ | apply mT)) <;> fail) rfl (by decide +kernel) ?_; simp only [Act.put, spA, spZ, spS]) | (refine wpT_skip rfl ?_; simp only [Act.put, spA, spZ, spS]) | (refine ckT_callG' (sockOpen.2 hS) rfl kT rfl (by kernel_rfl) rfl (by intro j hj w2 h2; have h3 := sockOpen.1 h2; clear h2; simp at hj; rcases hj with rfl | rfl | rfl <;> first | (exact (h3.holds (sockP A k) (by (repeat (first | exact mH _ | apply mT)) <;> fail)).trans (hS.holds (sockP A k) (by (repeat (first | exact mH _ | apply mT)) <;> fail)).symm) | (exact (h3.holds (pts r5 (stV k.mdl) 177) (by (repeat (first | exact mH _ | apply mT)) <;> fail)).trans (hS.holds (pts r5 (stV k.mdl) 177) (by (repeat (first | exact mH _ | apply mT)) <;> fail)).symm)) ?_; clear hS; intro w hS0; have hS := sockOpen.1 hS0; clear hS0; simp only [Act.put, spA, spZ, spS]) | (refine ckT_call0 hS rfl kQ rfl (by kernel_rfl) rfl (by intro j hj; simp at hj; subst hj; exact .inr ⟨_, _, ((by (repeat (first | exact mH _ | apply mT)) <;> fail) : sockP A k ∈ _), (by (repeat (first | exact mH _ | apply mT)) <;> fail)⟩) ?_; clear hS; intro w hS; simp only [Act.put, spA, spZ, spS]) | (refine ckT_call0 hS rfl (kY) rfl (by kernel_rfl) rfl (by simp <;> fail) ?_; clear hS; intro w hS; simp only [Act.put, spA, spZ, spS]))); refine wpT_nil ?_))
  go_ret
  refine ⟨_, ⟨rfl, rfl⟩, ?_⟩
  have j1 := (hS.bring (r := pts r5 (stV k.mdl) 177) (by (repeat (first | exact rH _ _ | apply rT)) <;> fail)).drop
  have j2 := (j1.bring (r := pts r3 [.int .u64 0, .int .u64 0] 269) (by (repeat (first | exact rH _ _ | apply rT)) <;> fail)).drop
  exact hfin j2
set_option maxRecDepth 20000 in
set_option maxHeartbeats 8000000 in
theorem sockMay3_ct (h : sockOk k) (hu : ¬ k.buf.w - k.buf.t = 0) (ho : ¬ flightZ k.ps < k.mdl.cwnd) : Ct Tryz.prog 142 #[.pointer (some ⟨A.b, 0, none⟩)] [sockG A k] (Gives (.int .i64 5) [sockG A k]) := by
  have kS := mdlState_ct A.m k.mdl
  have kL := brdLostNone_ct A.o k.ps k.en A.oa h.len h.no
  have kN := brdLen_ct A.o k.ps k.en A.oa
  have kF := sockFlight_ct A k h.len h.ok h.fl
  have kT := sockTso_ct A k h
  obtain ⟨b0, b1, b2⟩ := h.buf
  have kU := bufUnsent_ct A.f k.buf.w k.buf.t k.buf.s k.buf.r b0 b1 b2
  obtain ⟨r0, r1⟩ := h.rate
  obtain ⟨c0, c1⟩ := h.most
  have hfz := flightZ_nn h.ok
  have hfz1 := h.fl
  have kI := smpLimit_ct A.s k.smp (flightZ k.ps) h.del.1 h.del.2 hfz (by omega)
  have htz := tsoK_bd h
  have kQ := limit_ct k.mdl.rate (tsoK k) k.most r0 r1 (by omega) (by omega) c0 c1
  have kY := may_ct k.out (tsqL k.mdl.rate (tsoK k) k.most)
  have hlen := h.len
  obtain ⟨n, hn⟩ : ∃ n, k.ps.length = n := ⟨_, rfl⟩
  have hfin : ∀ {w : World} {w0 : World} {F : List Nat} {L : List Res}, Sep w0 F (sockP A k :: bufR' A.f k.buf :: brdG A.o k.ps k.en A.oa :: smpR A.s k.smp :: mdlG A.m k.mdl :: L) w → Sep w0 F (sockG A k :: L) w := fun h => sockOpen.2 h
  try rw [hn] at hN
  rw [hn] at kN hlen
  generalize flightZ k.ps = fz at *
  generalize tsqL k.mdl.rate (tsoK k) k.most = lz at *
  generalize tsoK k = tz at *
  have hu' : (k.buf.w - k.buf.t == 0) = false := by simpa using hu
  have ho' : decide (fz < k.mdl.cwnd) = false := decide_eq_false ho
  intro w0 F L w hS
  have hS := sockOpen.1 hS
  clear h hn
  go_enter Tryz.func142, Tryz.ntmps142
  go_wp2_with (first | go_skip | (refine ck_storeAll hS rfl rfl rfl rfl (by (repeat (first | exact uH _ _ _ | apply uT)) <;> fail) (by rfl) rfl (by (try simp only [List.length_cons, List.length_nil, Nat.zero_add, Nat.reduceAdd]); decide +kernel) ?_; clear hS; intro w hS; simp only [Act.put, spA, spZ, spS]) | (refine ck_load hS rfl rfl rfl (by (repeat (first | exact mH _ | apply mT)) <;> fail) rfl (by decide +kernel) ?_; simp only [Act.put, spA, spZ, spS]) | (refine ck_store hS rfl rfl rfl (by constructor) (by (repeat (first | exact uH _ _ _ | apply uT)) <;> fail) (by simp <;> omega) rfl (by decide +kernel) ?_; clear hS; intro w hS; simp only [Act.put, spA, spZ, spS] at hS ⊢) | (refine ck_alloc (t := 269) (v := .agg (List.toArray [.int .u64 0, .int .u64 0])) (cs := [.int .u64 0, .int .u64 0]) hS rfl rfl (by kernel_rfl) rfl ?_; clear hS; intro r3 w hS0; have hS := hS0.rot5; clear hS0; simp only [Act.put, spA, spZ, spS]) | (refine ck_alloc (t := 177) (v := .agg (List.toArray [.int .i64 0, .int .i64 0, .int .u64 0, .int .u64 0, .int .u64 0, .int .u64 0, .int .u64 0, .int .u64 0, .bool false, .bool false])) (cs := [.int .i64 0, .int .i64 0, .int .u64 0, .int .u64 0, .int .u64 0, .int .u64 0, .int .u64 0, .int .u64 0, .bool false, .bool false]) hS rfl rfl (by kernel_rfl) rfl ?_; clear hS; intro r5 w hS0; have hS := hS0.rot5; clear hS0; simp only [Act.put, spA, spZ, spS]) | (go_at_call 196; (with_reducible refine Ct.callU (kL) (by (repeat (first | exact uH _ _ _ | apply uT)) <;> fail) hS ?_) <;> (first | (clear hS; intro w hS) | omega)) | (go_at_call 128; (with_reducible refine Ct.callU (kS) (by (repeat (first | exact uH _ _ _ | apply uT)) <;> fail) hS ?_) <;> (first | (clear hS; intro w hS) | omega)) | (go_at_call 197; (with_reducible refine Ct.callU (kU) (by (repeat (first | exact uH _ _ _ | apply uT)) <;> fail) hS ?_) <;> (first | (clear hS; intro w hS) | omega)) | (go_at_call 201; (with_reducible refine Ct.callU (kN) (by (repeat (first | exact uH _ _ _ | apply uT)) <;> fail) hS ?_) <;> (first | (clear hS; intro w hS) | omega)) | (refine ck_region (fun _ => 0) (fun _ => []) [] hS (by kernel_rfl) (by decide +kernel) ?_ ?_; exact ⟨fun _ _ _ h => h.2, fun _ _ h => h⟩; clear hS; intro w hS _; (repeat (first | (apply wpT_pure rfl rfl; (intro _; go_simp; (try (go_ints; (try go_simp))); (first | (rw [decide_eq_true]; omega) | (rw [decide_eq_false]; omega) | rfl | rw [if_pos (by omega)])); simp only [Act.put, spA, spZ, spS]) | (refine ckT_load hS rfl rfl rfl (by simp <;> fail) (by (repeat (first | exact mH _ | apply mT)) <;> fail) rfl (by decide +kernel) ?_; simp only [Act.put, spA, spZ, spS]) | (refine wpT_skip rfl ?_; simp only [Act.put, spA, spZ, spS]) )); refine wpT_nil ?_) | (refine ck_region (fun _ => r5) (fun i => if i = 1 then [3] else []) ([3]) hS (by kernel_rfl) (by decide +kernel) ?_ ?_; exact ⟨fun _ _ _ h => h.2, fun _ _ h => h⟩; clear hS; intro w hS _; (repeat (first | (apply wpT_pure rfl rfl; (intro _; go_simp; (try (go_ints; (try go_simp))); (first | (rw [decide_eq_true]; omega) | (rw [decide_eq_false]; omega) | rfl | rw [if_pos (by omega)])); simp only [Act.put, spA, spZ, spS]) | (refine ckT_load hS rfl rfl rfl (by simp <;> fail) (by (repeat (first | exact mH _ | apply mT)) <;> fail) rfl (by decide +kernel) ?_; simp only [Act.put, spA, spZ, spS]) | (refine wpT_skip rfl ?_; simp only [Act.put, spA, spZ, spS]) | (refine ckT_callG' (sockOpen.2 hS) rfl kF rfl (by kernel_rfl) rfl (by intro j hj w2 h2; have h3 := sockOpen.1 h2; clear h2; simp at hj; subst hj; exact (h3.holds (pts r5 (stV k.mdl) 177) (by (repeat (first | exact mH _ | apply mT)) <;> fail)).trans (hS.holds (pts r5 (stV k.mdl) 177) (by (repeat (first | exact mH _ | apply mT)) <;> fail)).symm) ?_; clear hS; intro w hS0; have hS := sockOpen.1 hS0; clear hS0; simp only [Act.put, spA, spZ, spS]))); refine wpT_nil ?_) | (refine ck_region (fun _ => A.b) (fun i => if i = 5 then [3] else []) ([3]) hS (by kernel_rfl) (by decide +kernel) ?_ ?_; exact ⟨fun _ _ _ h => h.2, fun _ _ h => h⟩; clear hS; intro w hS _; (repeat (first | (apply wpT_pure rfl rfl; (intro _; go_simp; (try (go_ints; (try go_simp))); (first | (rw [decide_eq_true]; omega) | (rw [decide_eq_false]; omega) | rfl | rw [if_pos (by omega)])); simp only [Act.put, spA, spZ, spS]) | (refine ckT_load hS rfl rfl rfl (by simp <;> fail) (by (repeat (first | exact mH _ | apply mT)) <;> fail) rfl (by decide +kernel) ?_; simp only [Act.put, spA, spZ, spS]) | (refine wpT_skip rfl ?_; simp only [Act.put, spA, spZ, spS]) | (refine ckT_callG' (sockOpen.2 hS) rfl kF rfl (by kernel_rfl) rfl (by intro j hj w2 h2; have h3 := sockOpen.1 h2; clear h2; simp at hj; subst hj; exact (h3.holds (sockP A k) (by (repeat (first | exact mH _ | apply mT)) <;> fail)).trans (hS.holds (sockP A k) (by (repeat (first | exact mH _ | apply mT)) <;> fail)).symm) ?_; clear hS; intro w hS0; have hS := sockOpen.1 hS0; clear hS0; simp only [Act.put, spA, spZ, spS]) | ((refine ckT_callU hS rfl (kI) (by (repeat (first | exact uH _ _ _ | apply uT)) <;> fail) rfl (by kernel_rfl) rfl (by simp <;> fail) ?_) <;> (first | (clear hS; intro w hS) | omega); simp only [Act.put, spA, spZ, spS]))); refine wpT_nil ?_) | (refine ck_region (fun i => if i = 8 then r5 else A.b) (fun i => if i = 10 then [6, 8, 14] else if i = 15 then [6] else []) ([6, 8, 14]) hS (by kernel_rfl) (by decide +kernel) ?_ ?_; exact ⟨fun _ _ _ h => h.2, fun _ _ h => h⟩; clear hS; intro w hS _; (repeat (first | (apply wpT_pure rfl rfl; (intro _; go_simp; (try (go_ints; (try go_simp))); (first | (rw [decide_eq_true]; omega) | (rw [decide_eq_false]; omega) | rfl | rw [if_pos (by omega)])); simp only [Act.put, spA, spZ, spS]) | (refine ckT_load hS rfl rfl rfl (by simp <;> fail) (by (repeat (first | exact mH _ | apply mT)) <;> fail) rfl (by decide +kernel) ?_; simp only [Act.put, spA, spZ, spS]) | (refine wpT_skip rfl ?_; simp only [Act.put, spA, spZ, spS]) | (refine ckT_callG' (sockOpen.2 hS) rfl kT rfl (by kernel_rfl) rfl (by intro j hj w2 h2; have h3 := sockOpen.1 h2; clear h2; simp at hj; rcases hj with rfl | rfl | rfl <;> first | (exact (h3.holds (sockP A k) (by (repeat (first | exact mH _ | apply mT)) <;> fail)).trans (hS.holds (sockP A k) (by (repeat (first | exact mH _ | apply mT)) <;> fail)).symm) | (exact (h3.holds (pts r5 (stV k.mdl) 177) (by (repeat (first | exact mH _ | apply mT)) <;> fail)).trans (hS.holds (pts r5 (stV k.mdl) 177) (by (repeat (first | exact mH _ | apply mT)) <;> fail)).symm)) ?_; clear hS; intro w hS0; have hS := sockOpen.1 hS0; clear hS0; simp only [Act.put, spA, spZ, spS]) | (refine ckT_call0 hS rfl kQ rfl (by kernel_rfl) rfl (by intro j hj; simp at hj; subst hj; exact .inr ⟨_, _, ((by (repeat (first | exact mH _ | apply mT)) <;> fail) : sockP A k ∈ _), (by (repeat (first | exact mH _ | apply mT)) <;> fail)⟩) ?_; clear hS; intro w hS; simp only [Act.put, spA, spZ, spS]) | (refine ckT_call0 hS rfl (kY) rfl (by kernel_rfl) rfl (by simp <;> fail) ?_; clear hS; intro w hS; simp only [Act.put, spA, spZ, spS]))); refine wpT_nil ?_))
  go_ret
  refine ⟨_, ⟨rfl, rfl⟩, ?_⟩
  have j1 := (hS.bring (r := pts r5 (stV k.mdl) 177) (by (repeat (first | exact rH _ _ | apply rT)) <;> fail)).drop
  have j2 := (j1.bring (r := pts r3 [.int .u64 0, .int .u64 0] 269) (by (repeat (first | exact rH _ _ | apply rT)) <;> fail)).drop
  exact hfin j2
set_option maxRecDepth 20000 in
set_option maxHeartbeats 8000000 in
theorem sockMay4_ct (h : sockOk k) (hu : ¬ k.buf.w - k.buf.t = 0) (ho : flightZ k.ps < k.mdl.cwnd) (hq : ¬ k.out < tsqL k.mdl.rate (tsoK k) k.most) : Ct Tryz.prog 142 #[.pointer (some ⟨A.b, 0, none⟩)] [sockG A k] (Gives (.int .i64 5) [sockG A k]) := by
  have kS := mdlState_ct A.m k.mdl
  have kL := brdLostNone_ct A.o k.ps k.en A.oa h.len h.no
  have kN := brdLen_ct A.o k.ps k.en A.oa
  have kF := sockFlight_ct A k h.len h.ok h.fl
  have kT := sockTso_ct A k h
  obtain ⟨b0, b1, b2⟩ := h.buf
  have kU := bufUnsent_ct A.f k.buf.w k.buf.t k.buf.s k.buf.r b0 b1 b2
  obtain ⟨r0, r1⟩ := h.rate
  obtain ⟨c0, c1⟩ := h.most
  have hfz := flightZ_nn h.ok
  have hfz1 := h.fl
  have kI := smpLimit_ct A.s k.smp (flightZ k.ps) h.del.1 h.del.2 hfz (by omega)
  have htz := tsoK_bd h
  have kQ := limit_ct k.mdl.rate (tsoK k) k.most r0 r1 (by omega) (by omega) c0 c1
  have kY := may_ct k.out (tsqL k.mdl.rate (tsoK k) k.most)
  have hlen := h.len
  obtain ⟨n, hn⟩ : ∃ n, k.ps.length = n := ⟨_, rfl⟩
  have hfin : ∀ {w : World} {w0 : World} {F : List Nat} {L : List Res}, Sep w0 F (sockP A k :: bufR' A.f k.buf :: brdG A.o k.ps k.en A.oa :: smpR A.s k.smp :: mdlG A.m k.mdl :: L) w → Sep w0 F (sockG A k :: L) w := fun h => sockOpen.2 h
  try rw [hn] at hN
  rw [hn] at kN hlen
  generalize flightZ k.ps = fz at *
  generalize tsqL k.mdl.rate (tsoK k) k.most = lz at *
  generalize tsoK k = tz at *
  have hu' : (k.buf.w - k.buf.t == 0) = false := by simpa using hu
  have ho' : decide (fz < k.mdl.cwnd) = true := decide_eq_true ho
  rw [decide_eq_false hq] at kY
  intro w0 F L w hS
  have hS := sockOpen.1 hS
  clear h hn
  go_enter Tryz.func142, Tryz.ntmps142
  go_wp2_with (first | go_skip | (refine ck_storeAll hS rfl rfl rfl rfl (by (repeat (first | exact uH _ _ _ | apply uT)) <;> fail) (by rfl) rfl (by (try simp only [List.length_cons, List.length_nil, Nat.zero_add, Nat.reduceAdd]); decide +kernel) ?_; clear hS; intro w hS; simp only [Act.put, spA, spZ, spS]) | (refine ck_load hS rfl rfl rfl (by (repeat (first | exact mH _ | apply mT)) <;> fail) rfl (by decide +kernel) ?_; simp only [Act.put, spA, spZ, spS]) | (refine ck_store hS rfl rfl rfl (by constructor) (by (repeat (first | exact uH _ _ _ | apply uT)) <;> fail) (by simp <;> omega) rfl (by decide +kernel) ?_; clear hS; intro w hS; simp only [Act.put, spA, spZ, spS] at hS ⊢) | (refine ck_alloc (t := 269) (v := .agg (List.toArray [.int .u64 0, .int .u64 0])) (cs := [.int .u64 0, .int .u64 0]) hS rfl rfl (by kernel_rfl) rfl ?_; clear hS; intro r3 w hS0; have hS := hS0.rot5; clear hS0; simp only [Act.put, spA, spZ, spS]) | (refine ck_alloc (t := 177) (v := .agg (List.toArray [.int .i64 0, .int .i64 0, .int .u64 0, .int .u64 0, .int .u64 0, .int .u64 0, .int .u64 0, .int .u64 0, .bool false, .bool false])) (cs := [.int .i64 0, .int .i64 0, .int .u64 0, .int .u64 0, .int .u64 0, .int .u64 0, .int .u64 0, .int .u64 0, .bool false, .bool false]) hS rfl rfl (by kernel_rfl) rfl ?_; clear hS; intro r5 w hS0; have hS := hS0.rot5; clear hS0; simp only [Act.put, spA, spZ, spS]) | (go_at_call 196; (with_reducible refine Ct.callU (kL) (by (repeat (first | exact uH _ _ _ | apply uT)) <;> fail) hS ?_) <;> (first | (clear hS; intro w hS) | omega)) | (go_at_call 128; (with_reducible refine Ct.callU (kS) (by (repeat (first | exact uH _ _ _ | apply uT)) <;> fail) hS ?_) <;> (first | (clear hS; intro w hS) | omega)) | (go_at_call 197; (with_reducible refine Ct.callU (kU) (by (repeat (first | exact uH _ _ _ | apply uT)) <;> fail) hS ?_) <;> (first | (clear hS; intro w hS) | omega)) | (go_at_call 201; (with_reducible refine Ct.callU (kN) (by (repeat (first | exact uH _ _ _ | apply uT)) <;> fail) hS ?_) <;> (first | (clear hS; intro w hS) | omega)) | (refine ck_region (fun _ => 0) (fun _ => []) [] hS (by kernel_rfl) (by decide +kernel) ?_ ?_; exact ⟨fun _ _ _ h => h.2, fun _ _ h => h⟩; clear hS; intro w hS _; (repeat (first | (apply wpT_pure rfl rfl; (intro _; go_simp; (try (go_ints; (try go_simp))); (first | (rw [decide_eq_true]; omega) | (rw [decide_eq_false]; omega) | rfl | rw [if_pos (by omega)])); simp only [Act.put, spA, spZ, spS]) | (refine ckT_load hS rfl rfl rfl (by simp <;> fail) (by (repeat (first | exact mH _ | apply mT)) <;> fail) rfl (by decide +kernel) ?_; simp only [Act.put, spA, spZ, spS]) | (refine wpT_skip rfl ?_; simp only [Act.put, spA, spZ, spS]) )); refine wpT_nil ?_) | (refine ck_region (fun _ => r5) (fun i => if i = 1 then [3] else []) ([3]) hS (by kernel_rfl) (by decide +kernel) ?_ ?_; exact ⟨fun _ _ _ h => h.2, fun _ _ h => h⟩; clear hS; intro w hS _; (repeat (first | (apply wpT_pure rfl rfl; (intro _; go_simp; (try (go_ints; (try go_simp))); (first | (rw [decide_eq_true]; omega) | (rw [decide_eq_false]; omega) | rfl | rw [if_pos (by omega)])); simp only [Act.put, spA, spZ, spS]) | (refine ckT_load hS rfl rfl rfl (by simp <;> fail) (by (repeat (first | exact mH _ | apply mT)) <;> fail) rfl (by decide +kernel) ?_; simp only [Act.put, spA, spZ, spS]) | (refine wpT_skip rfl ?_; simp only [Act.put, spA, spZ, spS]) | (refine ckT_callG' (sockOpen.2 hS) rfl kF rfl (by kernel_rfl) rfl (by intro j hj w2 h2; have h3 := sockOpen.1 h2; clear h2; simp at hj; subst hj; exact (h3.holds (pts r5 (stV k.mdl) 177) (by (repeat (first | exact mH _ | apply mT)) <;> fail)).trans (hS.holds (pts r5 (stV k.mdl) 177) (by (repeat (first | exact mH _ | apply mT)) <;> fail)).symm) ?_; clear hS; intro w hS0; have hS := sockOpen.1 hS0; clear hS0; simp only [Act.put, spA, spZ, spS]))); refine wpT_nil ?_) | (refine ck_region (fun _ => A.b) (fun i => if i = 5 then [3] else []) ([3]) hS (by kernel_rfl) (by decide +kernel) ?_ ?_; exact ⟨fun _ _ _ h => h.2, fun _ _ h => h⟩; clear hS; intro w hS _; (repeat (first | (apply wpT_pure rfl rfl; (intro _; go_simp; (try (go_ints; (try go_simp))); (first | (rw [decide_eq_true]; omega) | (rw [decide_eq_false]; omega) | rfl | rw [if_pos (by omega)])); simp only [Act.put, spA, spZ, spS]) | (refine ckT_load hS rfl rfl rfl (by simp <;> fail) (by (repeat (first | exact mH _ | apply mT)) <;> fail) rfl (by decide +kernel) ?_; simp only [Act.put, spA, spZ, spS]) | (refine wpT_skip rfl ?_; simp only [Act.put, spA, spZ, spS]) | (refine ckT_callG' (sockOpen.2 hS) rfl kF rfl (by kernel_rfl) rfl (by intro j hj w2 h2; have h3 := sockOpen.1 h2; clear h2; simp at hj; subst hj; exact (h3.holds (sockP A k) (by (repeat (first | exact mH _ | apply mT)) <;> fail)).trans (hS.holds (sockP A k) (by (repeat (first | exact mH _ | apply mT)) <;> fail)).symm) ?_; clear hS; intro w hS0; have hS := sockOpen.1 hS0; clear hS0; simp only [Act.put, spA, spZ, spS]) | ((refine ckT_callU hS rfl (kI) (by (repeat (first | exact uH _ _ _ | apply uT)) <;> fail) rfl (by kernel_rfl) rfl (by simp <;> fail) ?_) <;> (first | (clear hS; intro w hS) | omega); simp only [Act.put, spA, spZ, spS]))); refine wpT_nil ?_) | (refine ck_region (fun i => if i = 8 then r5 else A.b) (fun i => if i = 10 then [6, 8, 14] else if i = 15 then [6] else []) ([6, 8, 14]) hS (by kernel_rfl) (by decide +kernel) ?_ ?_; exact ⟨fun _ _ _ h => h.2, fun _ _ h => h⟩; clear hS; intro w hS _; (repeat (first | (apply wpT_pure rfl rfl; (intro _; go_simp; (try (go_ints; (try go_simp))); (first | (rw [decide_eq_true]; omega) | (rw [decide_eq_false]; omega) | rfl | rw [if_pos (by omega)])); simp only [Act.put, spA, spZ, spS]) | (refine ckT_load hS rfl rfl rfl (by simp <;> fail) (by (repeat (first | exact mH _ | apply mT)) <;> fail) rfl (by decide +kernel) ?_; simp only [Act.put, spA, spZ, spS]) | (refine wpT_skip rfl ?_; simp only [Act.put, spA, spZ, spS]) | (refine ckT_callG' (sockOpen.2 hS) rfl kT rfl (by kernel_rfl) rfl (by intro j hj w2 h2; have h3 := sockOpen.1 h2; clear h2; simp at hj; rcases hj with rfl | rfl | rfl <;> first | (exact (h3.holds (sockP A k) (by (repeat (first | exact mH _ | apply mT)) <;> fail)).trans (hS.holds (sockP A k) (by (repeat (first | exact mH _ | apply mT)) <;> fail)).symm) | (exact (h3.holds (pts r5 (stV k.mdl) 177) (by (repeat (first | exact mH _ | apply mT)) <;> fail)).trans (hS.holds (pts r5 (stV k.mdl) 177) (by (repeat (first | exact mH _ | apply mT)) <;> fail)).symm)) ?_; clear hS; intro w hS0; have hS := sockOpen.1 hS0; clear hS0; simp only [Act.put, spA, spZ, spS]) | (refine ckT_call0 hS rfl kQ rfl (by kernel_rfl) rfl (by intro j hj; simp at hj; subst hj; exact .inr ⟨_, _, ((by (repeat (first | exact mH _ | apply mT)) <;> fail) : sockP A k ∈ _), (by (repeat (first | exact mH _ | apply mT)) <;> fail)⟩) ?_; clear hS; intro w hS; simp only [Act.put, spA, spZ, spS]) | (refine ckT_call0 hS rfl (kY) rfl (by kernel_rfl) rfl (by simp <;> fail) ?_; clear hS; intro w hS; simp only [Act.put, spA, spZ, spS]))); refine wpT_nil ?_))
  go_ret
  refine ⟨_, ⟨rfl, rfl⟩, ?_⟩
  have j1 := (hS.bring (r := pts r5 (stV k.mdl) 177) (by (repeat (first | exact rH _ _ | apply rT)) <;> fail)).drop
  have j2 := (j1.bring (r := pts r3 [.int .u64 0, .int .u64 0] 269) (by (repeat (first | exact rH _ _ | apply rT)) <;> fail)).drop
  exact hfin j2
set_option maxRecDepth 20000 in
set_option maxHeartbeats 8000000 in
theorem sockMay5_ct (h : sockOk k) (hu : ¬ k.buf.w - k.buf.t = 0) (ho : flightZ k.ps < k.mdl.cwnd) (hq : k.out < tsqL k.mdl.rate (tsoK k) k.most) (hN : 4096 ≤ k.ps.length) : Ct Tryz.prog 142 #[.pointer (some ⟨A.b, 0, none⟩)] [sockG A k] (Gives (.int .i64 5) [sockG A k]) := by
  have kS := mdlState_ct A.m k.mdl
  have kL := brdLostNone_ct A.o k.ps k.en A.oa h.len h.no
  have kN := brdLen_ct A.o k.ps k.en A.oa
  have kF := sockFlight_ct A k h.len h.ok h.fl
  have kT := sockTso_ct A k h
  obtain ⟨b0, b1, b2⟩ := h.buf
  have kU := bufUnsent_ct A.f k.buf.w k.buf.t k.buf.s k.buf.r b0 b1 b2
  obtain ⟨r0, r1⟩ := h.rate
  obtain ⟨c0, c1⟩ := h.most
  have hfz := flightZ_nn h.ok
  have hfz1 := h.fl
  have kI := smpLimit_ct A.s k.smp (flightZ k.ps) h.del.1 h.del.2 hfz (by omega)
  have htz := tsoK_bd h
  have kQ := limit_ct k.mdl.rate (tsoK k) k.most r0 r1 (by omega) (by omega) c0 c1
  have kY := may_ct k.out (tsqL k.mdl.rate (tsoK k) k.most)
  have hlen := h.len
  obtain ⟨n, hn⟩ : ∃ n, k.ps.length = n := ⟨_, rfl⟩
  have hfin : ∀ {w : World} {w0 : World} {F : List Nat} {L : List Res}, Sep w0 F (sockP A k :: bufR' A.f k.buf :: brdG A.o k.ps k.en A.oa :: smpR A.s k.smp :: mdlG A.m k.mdl :: L) w → Sep w0 F (sockG A k :: L) w := fun h => sockOpen.2 h
  try rw [hn] at hN
  rw [hn] at kN hlen
  generalize flightZ k.ps = fz at *
  generalize tsqL k.mdl.rate (tsoK k) k.most = lz at *
  generalize tsoK k = tz at *
  have hu' : (k.buf.w - k.buf.t == 0) = false := by simpa using hu
  have ho' : decide (fz < k.mdl.cwnd) = true := decide_eq_true ho
  rw [decide_eq_true hq] at kY
  intro w0 F L w hS
  have hS := sockOpen.1 hS
  clear h hn
  go_enter Tryz.func142, Tryz.ntmps142
  go_wp2_with (first | go_skip | (refine ck_storeAll hS rfl rfl rfl rfl (by (repeat (first | exact uH _ _ _ | apply uT)) <;> fail) (by rfl) rfl (by (try simp only [List.length_cons, List.length_nil, Nat.zero_add, Nat.reduceAdd]); decide +kernel) ?_; clear hS; intro w hS; simp only [Act.put, spA, spZ, spS]) | (refine ck_load hS rfl rfl rfl (by (repeat (first | exact mH _ | apply mT)) <;> fail) rfl (by decide +kernel) ?_; simp only [Act.put, spA, spZ, spS]) | (refine ck_store hS rfl rfl rfl (by constructor) (by (repeat (first | exact uH _ _ _ | apply uT)) <;> fail) (by simp <;> omega) rfl (by decide +kernel) ?_; clear hS; intro w hS; simp only [Act.put, spA, spZ, spS] at hS ⊢) | (refine ck_alloc (t := 269) (v := .agg (List.toArray [.int .u64 0, .int .u64 0])) (cs := [.int .u64 0, .int .u64 0]) hS rfl rfl (by kernel_rfl) rfl ?_; clear hS; intro r3 w hS0; have hS := hS0.rot5; clear hS0; simp only [Act.put, spA, spZ, spS]) | (refine ck_alloc (t := 177) (v := .agg (List.toArray [.int .i64 0, .int .i64 0, .int .u64 0, .int .u64 0, .int .u64 0, .int .u64 0, .int .u64 0, .int .u64 0, .bool false, .bool false])) (cs := [.int .i64 0, .int .i64 0, .int .u64 0, .int .u64 0, .int .u64 0, .int .u64 0, .int .u64 0, .int .u64 0, .bool false, .bool false]) hS rfl rfl (by kernel_rfl) rfl ?_; clear hS; intro r5 w hS0; have hS := hS0.rot5; clear hS0; simp only [Act.put, spA, spZ, spS]) | (go_at_call 196; (with_reducible refine Ct.callU (kL) (by (repeat (first | exact uH _ _ _ | apply uT)) <;> fail) hS ?_) <;> (first | (clear hS; intro w hS) | omega)) | (go_at_call 128; (with_reducible refine Ct.callU (kS) (by (repeat (first | exact uH _ _ _ | apply uT)) <;> fail) hS ?_) <;> (first | (clear hS; intro w hS) | omega)) | (go_at_call 197; (with_reducible refine Ct.callU (kU) (by (repeat (first | exact uH _ _ _ | apply uT)) <;> fail) hS ?_) <;> (first | (clear hS; intro w hS) | omega)) | (go_at_call 201; (with_reducible refine Ct.callU (kN) (by (repeat (first | exact uH _ _ _ | apply uT)) <;> fail) hS ?_) <;> (first | (clear hS; intro w hS) | omega)) | (refine ck_region (fun _ => 0) (fun _ => []) [] hS (by kernel_rfl) (by decide +kernel) ?_ ?_; exact ⟨fun _ _ _ h => h.2, fun _ _ h => h⟩; clear hS; intro w hS _; (repeat (first | (apply wpT_pure rfl rfl; (intro _; go_simp; (try (go_ints; (try go_simp))); (first | (rw [decide_eq_true]; omega) | (rw [decide_eq_false]; omega) | rfl | rw [if_pos (by omega)])); simp only [Act.put, spA, spZ, spS]) | (refine ckT_load hS rfl rfl rfl (by simp <;> fail) (by (repeat (first | exact mH _ | apply mT)) <;> fail) rfl (by decide +kernel) ?_; simp only [Act.put, spA, spZ, spS]) | (refine wpT_skip rfl ?_; simp only [Act.put, spA, spZ, spS]) )); refine wpT_nil ?_) | (refine ck_region (fun _ => r5) (fun i => if i = 1 then [3] else []) ([3]) hS (by kernel_rfl) (by decide +kernel) ?_ ?_; exact ⟨fun _ _ _ h => h.2, fun _ _ h => h⟩; clear hS; intro w hS _; (repeat (first | (apply wpT_pure rfl rfl; (intro _; go_simp; (try (go_ints; (try go_simp))); (first | (rw [decide_eq_true]; omega) | (rw [decide_eq_false]; omega) | rfl | rw [if_pos (by omega)])); simp only [Act.put, spA, spZ, spS]) | (refine ckT_load hS rfl rfl rfl (by simp <;> fail) (by (repeat (first | exact mH _ | apply mT)) <;> fail) rfl (by decide +kernel) ?_; simp only [Act.put, spA, spZ, spS]) | (refine wpT_skip rfl ?_; simp only [Act.put, spA, spZ, spS]) | (refine ckT_callG' (sockOpen.2 hS) rfl kF rfl (by kernel_rfl) rfl (by intro j hj w2 h2; have h3 := sockOpen.1 h2; clear h2; simp at hj; subst hj; exact (h3.holds (pts r5 (stV k.mdl) 177) (by (repeat (first | exact mH _ | apply mT)) <;> fail)).trans (hS.holds (pts r5 (stV k.mdl) 177) (by (repeat (first | exact mH _ | apply mT)) <;> fail)).symm) ?_; clear hS; intro w hS0; have hS := sockOpen.1 hS0; clear hS0; simp only [Act.put, spA, spZ, spS]))); refine wpT_nil ?_) | (refine ck_region (fun _ => A.b) (fun i => if i = 5 then [3] else []) ([3]) hS (by kernel_rfl) (by decide +kernel) ?_ ?_; exact ⟨fun _ _ _ h => h.2, fun _ _ h => h⟩; clear hS; intro w hS _; (repeat (first | (apply wpT_pure rfl rfl; (intro _; go_simp; (try (go_ints; (try go_simp))); (first | (rw [decide_eq_true]; omega) | (rw [decide_eq_false]; omega) | rfl | rw [if_pos (by omega)])); simp only [Act.put, spA, spZ, spS]) | (refine ckT_load hS rfl rfl rfl (by simp <;> fail) (by (repeat (first | exact mH _ | apply mT)) <;> fail) rfl (by decide +kernel) ?_; simp only [Act.put, spA, spZ, spS]) | (refine wpT_skip rfl ?_; simp only [Act.put, spA, spZ, spS]) | (refine ckT_callG' (sockOpen.2 hS) rfl kF rfl (by kernel_rfl) rfl (by intro j hj w2 h2; have h3 := sockOpen.1 h2; clear h2; simp at hj; subst hj; exact (h3.holds (sockP A k) (by (repeat (first | exact mH _ | apply mT)) <;> fail)).trans (hS.holds (sockP A k) (by (repeat (first | exact mH _ | apply mT)) <;> fail)).symm) ?_; clear hS; intro w hS0; have hS := sockOpen.1 hS0; clear hS0; simp only [Act.put, spA, spZ, spS]) | ((refine ckT_callU hS rfl (kI) (by (repeat (first | exact uH _ _ _ | apply uT)) <;> fail) rfl (by kernel_rfl) rfl (by simp <;> fail) ?_) <;> (first | (clear hS; intro w hS) | omega); simp only [Act.put, spA, spZ, spS]))); refine wpT_nil ?_) | (refine ck_region (fun i => if i = 8 then r5 else A.b) (fun i => if i = 10 then [6, 8, 14] else if i = 15 then [6] else []) ([6, 8, 14]) hS (by kernel_rfl) (by decide +kernel) ?_ ?_; exact ⟨fun _ _ _ h => h.2, fun _ _ h => h⟩; clear hS; intro w hS _; (repeat (first | (apply wpT_pure rfl rfl; (intro _; go_simp; (try (go_ints; (try go_simp))); (first | (rw [decide_eq_true]; omega) | (rw [decide_eq_false]; omega) | rfl | rw [if_pos (by omega)])); simp only [Act.put, spA, spZ, spS]) | (refine ckT_load hS rfl rfl rfl (by simp <;> fail) (by (repeat (first | exact mH _ | apply mT)) <;> fail) rfl (by decide +kernel) ?_; simp only [Act.put, spA, spZ, spS]) | (refine wpT_skip rfl ?_; simp only [Act.put, spA, spZ, spS]) | (refine ckT_callG' (sockOpen.2 hS) rfl kT rfl (by kernel_rfl) rfl (by intro j hj w2 h2; have h3 := sockOpen.1 h2; clear h2; simp at hj; rcases hj with rfl | rfl | rfl <;> first | (exact (h3.holds (sockP A k) (by (repeat (first | exact mH _ | apply mT)) <;> fail)).trans (hS.holds (sockP A k) (by (repeat (first | exact mH _ | apply mT)) <;> fail)).symm) | (exact (h3.holds (pts r5 (stV k.mdl) 177) (by (repeat (first | exact mH _ | apply mT)) <;> fail)).trans (hS.holds (pts r5 (stV k.mdl) 177) (by (repeat (first | exact mH _ | apply mT)) <;> fail)).symm)) ?_; clear hS; intro w hS0; have hS := sockOpen.1 hS0; clear hS0; simp only [Act.put, spA, spZ, spS]) | (refine ckT_call0 hS rfl kQ rfl (by kernel_rfl) rfl (by intro j hj; simp at hj; subst hj; exact .inr ⟨_, _, ((by (repeat (first | exact mH _ | apply mT)) <;> fail) : sockP A k ∈ _), (by (repeat (first | exact mH _ | apply mT)) <;> fail)⟩) ?_; clear hS; intro w hS; simp only [Act.put, spA, spZ, spS]) | (refine ckT_call0 hS rfl (kY) rfl (by kernel_rfl) rfl (by simp <;> fail) ?_; clear hS; intro w hS; simp only [Act.put, spA, spZ, spS]))); refine wpT_nil ?_))
  go_ret
  refine ⟨_, ⟨rfl, rfl⟩, ?_⟩
  have j1 := (hS.bring (r := pts r5 (stV k.mdl) 177) (by (repeat (first | exact rH _ _ | apply rT)) <;> fail)).drop
  have j2 := (j1.bring (r := pts r3 [.int .u64 0, .int .u64 0] 269) (by (repeat (first | exact rH _ _ | apply rT)) <;> fail)).drop
  exact hfin j2
set_option maxRecDepth 20000 in
set_option maxHeartbeats 8000000 in
theorem sockMay6_ct (h : sockOk k) (hu : ¬ k.buf.w - k.buf.t = 0) (ho : flightZ k.ps < k.mdl.cwnd) (hq : k.out < tsqL k.mdl.rate (tsoK k) k.most) (hN : ¬ 4096 ≤ k.ps.length) : Ct Tryz.prog 142 #[.pointer (some ⟨A.b, 0, none⟩)] [sockG A k] (Gives (.int .i64 0) [sockG A k]) := by
  have kS := mdlState_ct A.m k.mdl
  have kL := brdLostNone_ct A.o k.ps k.en A.oa h.len h.no
  have kN := brdLen_ct A.o k.ps k.en A.oa
  have kF := sockFlight_ct A k h.len h.ok h.fl
  have kT := sockTso_ct A k h
  obtain ⟨b0, b1, b2⟩ := h.buf
  have kU := bufUnsent_ct A.f k.buf.w k.buf.t k.buf.s k.buf.r b0 b1 b2
  obtain ⟨r0, r1⟩ := h.rate
  obtain ⟨c0, c1⟩ := h.most
  have hfz := flightZ_nn h.ok
  have hfz1 := h.fl
  have kI := smpLimit_ct A.s k.smp (flightZ k.ps) h.del.1 h.del.2 hfz (by omega)
  have htz := tsoK_bd h
  have kQ := limit_ct k.mdl.rate (tsoK k) k.most r0 r1 (by omega) (by omega) c0 c1
  have kY := may_ct k.out (tsqL k.mdl.rate (tsoK k) k.most)
  have hlen := h.len
  obtain ⟨n, hn⟩ : ∃ n, k.ps.length = n := ⟨_, rfl⟩
  have hfin : ∀ {w : World} {w0 : World} {F : List Nat} {L : List Res}, Sep w0 F (sockP A k :: bufR' A.f k.buf :: brdG A.o k.ps k.en A.oa :: smpR A.s k.smp :: mdlG A.m k.mdl :: L) w → Sep w0 F (sockG A k :: L) w := fun h => sockOpen.2 h
  try rw [hn] at hN
  rw [hn] at kN hlen
  generalize flightZ k.ps = fz at *
  generalize tsqL k.mdl.rate (tsoK k) k.most = lz at *
  generalize tsoK k = tz at *
  have hu' : (k.buf.w - k.buf.t == 0) = false := by simpa using hu
  have ho' : decide (fz < k.mdl.cwnd) = true := decide_eq_true ho
  rw [decide_eq_true hq] at kY
  intro w0 F L w hS
  have hS := sockOpen.1 hS
  clear h hn
  go_enter Tryz.func142, Tryz.ntmps142
  go_wp2_with (first | go_skip | (refine ck_storeAll hS rfl rfl rfl rfl (by (repeat (first | exact uH _ _ _ | apply uT)) <;> fail) (by rfl) rfl (by (try simp only [List.length_cons, List.length_nil, Nat.zero_add, Nat.reduceAdd]); decide +kernel) ?_; clear hS; intro w hS; simp only [Act.put, spA, spZ, spS]) | (refine ck_load hS rfl rfl rfl (by (repeat (first | exact mH _ | apply mT)) <;> fail) rfl (by decide +kernel) ?_; simp only [Act.put, spA, spZ, spS]) | (refine ck_store hS rfl rfl rfl (by constructor) (by (repeat (first | exact uH _ _ _ | apply uT)) <;> fail) (by simp <;> omega) rfl (by decide +kernel) ?_; clear hS; intro w hS; simp only [Act.put, spA, spZ, spS] at hS ⊢) | (refine ck_alloc (t := 269) (v := .agg (List.toArray [.int .u64 0, .int .u64 0])) (cs := [.int .u64 0, .int .u64 0]) hS rfl rfl (by kernel_rfl) rfl ?_; clear hS; intro r3 w hS0; have hS := hS0.rot5; clear hS0; simp only [Act.put, spA, spZ, spS]) | (refine ck_alloc (t := 177) (v := .agg (List.toArray [.int .i64 0, .int .i64 0, .int .u64 0, .int .u64 0, .int .u64 0, .int .u64 0, .int .u64 0, .int .u64 0, .bool false, .bool false])) (cs := [.int .i64 0, .int .i64 0, .int .u64 0, .int .u64 0, .int .u64 0, .int .u64 0, .int .u64 0, .int .u64 0, .bool false, .bool false]) hS rfl rfl (by kernel_rfl) rfl ?_; clear hS; intro r5 w hS0; have hS := hS0.rot5; clear hS0; simp only [Act.put, spA, spZ, spS]) | (go_at_call 196; (with_reducible refine Ct.callU (kL) (by (repeat (first | exact uH _ _ _ | apply uT)) <;> fail) hS ?_) <;> (first | (clear hS; intro w hS) | omega)) | (go_at_call 128; (with_reducible refine Ct.callU (kS) (by (repeat (first | exact uH _ _ _ | apply uT)) <;> fail) hS ?_) <;> (first | (clear hS; intro w hS) | omega)) | (go_at_call 197; (with_reducible refine Ct.callU (kU) (by (repeat (first | exact uH _ _ _ | apply uT)) <;> fail) hS ?_) <;> (first | (clear hS; intro w hS) | omega)) | (go_at_call 201; (with_reducible refine Ct.callU (kN) (by (repeat (first | exact uH _ _ _ | apply uT)) <;> fail) hS ?_) <;> (first | (clear hS; intro w hS) | omega)) | (refine ck_region (fun _ => 0) (fun _ => []) [] hS (by kernel_rfl) (by decide +kernel) ?_ ?_; exact ⟨fun _ _ _ h => h.2, fun _ _ h => h⟩; clear hS; intro w hS _; (repeat (first | (apply wpT_pure rfl rfl; (intro _; go_simp; (try (go_ints; (try go_simp))); (first | (rw [decide_eq_true]; omega) | (rw [decide_eq_false]; omega) | rfl | rw [if_pos (by omega)])); simp only [Act.put, spA, spZ, spS]) | (refine ckT_load hS rfl rfl rfl (by simp <;> fail) (by (repeat (first | exact mH _ | apply mT)) <;> fail) rfl (by decide +kernel) ?_; simp only [Act.put, spA, spZ, spS]) | (refine wpT_skip rfl ?_; simp only [Act.put, spA, spZ, spS]) )); refine wpT_nil ?_) | (refine ck_region (fun _ => r5) (fun i => if i = 1 then [3] else []) ([3]) hS (by kernel_rfl) (by decide +kernel) ?_ ?_; exact ⟨fun _ _ _ h => h.2, fun _ _ h => h⟩; clear hS; intro w hS _; (repeat (first | (apply wpT_pure rfl rfl; (intro _; go_simp; (try (go_ints; (try go_simp))); (first | (rw [decide_eq_true]; omega) | (rw [decide_eq_false]; omega) | rfl | rw [if_pos (by omega)])); simp only [Act.put, spA, spZ, spS]) | (refine ckT_load hS rfl rfl rfl (by simp <;> fail) (by (repeat (first | exact mH _ | apply mT)) <;> fail) rfl (by decide +kernel) ?_; simp only [Act.put, spA, spZ, spS]) | (refine wpT_skip rfl ?_; simp only [Act.put, spA, spZ, spS]) | (refine ckT_callG' (sockOpen.2 hS) rfl kF rfl (by kernel_rfl) rfl (by intro j hj w2 h2; have h3 := sockOpen.1 h2; clear h2; simp at hj; subst hj; exact (h3.holds (pts r5 (stV k.mdl) 177) (by (repeat (first | exact mH _ | apply mT)) <;> fail)).trans (hS.holds (pts r5 (stV k.mdl) 177) (by (repeat (first | exact mH _ | apply mT)) <;> fail)).symm) ?_; clear hS; intro w hS0; have hS := sockOpen.1 hS0; clear hS0; simp only [Act.put, spA, spZ, spS]))); refine wpT_nil ?_) | (refine ck_region (fun _ => A.b) (fun i => if i = 5 then [3] else []) ([3]) hS (by kernel_rfl) (by decide +kernel) ?_ ?_; exact ⟨fun _ _ _ h => h.2, fun _ _ h => h⟩; clear hS; intro w hS _; (repeat (first | (apply wpT_pure rfl rfl; (intro _; go_simp; (try (go_ints; (try go_simp))); (first | (rw [decide_eq_true]; omega) | (rw [decide_eq_false]; omega) | rfl | rw [if_pos (by omega)])); simp only [Act.put, spA, spZ, spS]) | (refine ckT_load hS rfl rfl rfl (by simp <;> fail) (by (repeat (first | exact mH _ | apply mT)) <;> fail) rfl (by decide +kernel) ?_; simp only [Act.put, spA, spZ, spS]) | (refine wpT_skip rfl ?_; simp only [Act.put, spA, spZ, spS]) | (refine ckT_callG' (sockOpen.2 hS) rfl kF rfl (by kernel_rfl) rfl (by intro j hj w2 h2; have h3 := sockOpen.1 h2; clear h2; simp at hj; subst hj; exact (h3.holds (sockP A k) (by (repeat (first | exact mH _ | apply mT)) <;> fail)).trans (hS.holds (sockP A k) (by (repeat (first | exact mH _ | apply mT)) <;> fail)).symm) ?_; clear hS; intro w hS0; have hS := sockOpen.1 hS0; clear hS0; simp only [Act.put, spA, spZ, spS]) | ((refine ckT_callU hS rfl (kI) (by (repeat (first | exact uH _ _ _ | apply uT)) <;> fail) rfl (by kernel_rfl) rfl (by simp <;> fail) ?_) <;> (first | (clear hS; intro w hS) | omega); simp only [Act.put, spA, spZ, spS]))); refine wpT_nil ?_) | (refine ck_region (fun i => if i = 8 then r5 else A.b) (fun i => if i = 10 then [6, 8, 14] else if i = 15 then [6] else []) ([6, 8, 14]) hS (by kernel_rfl) (by decide +kernel) ?_ ?_; exact ⟨fun _ _ _ h => h.2, fun _ _ h => h⟩; clear hS; intro w hS _; (repeat (first | (apply wpT_pure rfl rfl; (intro _; go_simp; (try (go_ints; (try go_simp))); (first | (rw [decide_eq_true]; omega) | (rw [decide_eq_false]; omega) | rfl | rw [if_pos (by omega)])); simp only [Act.put, spA, spZ, spS]) | (refine ckT_load hS rfl rfl rfl (by simp <;> fail) (by (repeat (first | exact mH _ | apply mT)) <;> fail) rfl (by decide +kernel) ?_; simp only [Act.put, spA, spZ, spS]) | (refine wpT_skip rfl ?_; simp only [Act.put, spA, spZ, spS]) | (refine ckT_callG' (sockOpen.2 hS) rfl kT rfl (by kernel_rfl) rfl (by intro j hj w2 h2; have h3 := sockOpen.1 h2; clear h2; simp at hj; rcases hj with rfl | rfl | rfl <;> first | (exact (h3.holds (sockP A k) (by (repeat (first | exact mH _ | apply mT)) <;> fail)).trans (hS.holds (sockP A k) (by (repeat (first | exact mH _ | apply mT)) <;> fail)).symm) | (exact (h3.holds (pts r5 (stV k.mdl) 177) (by (repeat (first | exact mH _ | apply mT)) <;> fail)).trans (hS.holds (pts r5 (stV k.mdl) 177) (by (repeat (first | exact mH _ | apply mT)) <;> fail)).symm)) ?_; clear hS; intro w hS0; have hS := sockOpen.1 hS0; clear hS0; simp only [Act.put, spA, spZ, spS]) | (refine ckT_call0 hS rfl kQ rfl (by kernel_rfl) rfl (by intro j hj; simp at hj; subst hj; exact .inr ⟨_, _, ((by (repeat (first | exact mH _ | apply mT)) <;> fail) : sockP A k ∈ _), (by (repeat (first | exact mH _ | apply mT)) <;> fail)⟩) ?_; clear hS; intro w hS; simp only [Act.put, spA, spZ, spS]) | (refine ckT_call0 hS rfl (kY) rfl (by kernel_rfl) rfl (by simp <;> fail) ?_; clear hS; intro w hS; simp only [Act.put, spA, spZ, spS]))); refine wpT_nil ?_))
  go_ret
  refine ⟨_, ⟨rfl, rfl⟩, ?_⟩
  have j1 := (hS.bring (r := pts r5 (stV k.mdl) 177) (by (repeat (first | exact rH _ _ | apply rT)) <;> fail)).drop
  have j2 := (j1.bring (r := pts r3 [.int .u64 0, .int .u64 0] 269) (by (repeat (first | exact rH _ _ | apply rT)) <;> fail)).drop
  exact hfin j2

end
def mayZ (k : SockM) : Int := if k.buf.w - k.buf.t = 0 then 7 else if flightZ k.ps < k.mdl.cwnd then (if k.out < tsqL k.mdl.rate (tsoK k) k.most then (if 4096 ≤ k.ps.length then 5 else 0) else 5) else 5
def mayK (k : SockM) : SockM := if k.buf.w - k.buf.t = 0 then (if flightZ k.ps < k.mdl.cwnd then { k with smp := { k.smp with mark := max 1 (satAdd k.smp.del (flightZ k.ps)) } } else k) else k
theorem sockMay_ct (A : SockA) (k : SockM) (h : sockOk k) : Ct Tryz.prog 142 #[.pointer (some ⟨A.b, 0, none⟩)] [sockG A k] (Gives (.int .i64 (mayZ k)) [sockG A (mayK k)]) := by
  by_cases hu : k.buf.w - k.buf.t = 0
  · rw [show mayZ k = 7 by unfold mayZ; rw [if_pos hu]]
    by_cases ho : flightZ k.ps < k.mdl.cwnd
    · rw [show mayK k = _ by unfold mayK; rw [if_pos hu, if_pos ho]]
      exact sockMay1_ct A k h hu ho
    · rw [show mayK k = k by unfold mayK; rw [if_pos hu, if_neg ho]]
      exact sockMay2_ct A k h hu ho
  · rw [show mayK k = k by unfold mayK; rw [if_neg hu]]
    by_cases ho : flightZ k.ps < k.mdl.cwnd
    · by_cases hq : k.out < tsqL k.mdl.rate (tsoK k) k.most
      · by_cases hN : 4096 ≤ k.ps.length
        · rw [show mayZ k = 5 by unfold mayZ; rw [if_neg hu, if_pos ho, if_pos hq, if_pos hN]]
          exact sockMay5_ct A k h hu ho hq hN
        · rw [show mayZ k = 0 by unfold mayZ; rw [if_neg hu, if_pos ho, if_pos hq, if_neg hN]]
          exact sockMay6_ct A k h hu ho hq hN
      · rw [show mayZ k = 5 by unfold mayZ; rw [if_neg hu, if_pos ho, if_neg hq]]
        exact sockMay4_ct A k h hu ho hq
    · rw [show mayZ k = 5 by unfold mayZ; rw [if_neg hu, if_neg ho]]
      exact sockMay3_ct A k h hu ho
end Go.Proofs.YtcegknecikbbkaaGreat

/- What ledger's functions come to. -/
set_option linter.unusedVariables false
set_option linter.unusedSimpArgs false
set_option maxRecDepth 4000
namespace Go.Proofs.YtcegknecikbbkaaGreat
open Go.RowKit
abbrev cntV (c : List Int) : List Value := c.map fun n : Int => Value.int .i64 n
def flat (B : List (List Int)) : List Value := B.flatMap cntV
def Eights (B : List (List Int)) : Prop := ∀ c ∈ B, c.length = 8
section
variable {B : List (List Int)} {c : List Int} {s j : Nat} {x : Int}
theorem flat_len (h : Eights B) : (flat B).length = B.length * 8 := by
  induction B with
  | nil => rfl
  | cons a B ih =>
    have h1 : a.length = 8 := h a (by simp)
    have h2 := ih (fun c hc => h c (by simp [hc]))
    unfold flat at *
    rw [List.flatMap_cons, List.length_append, h2]
    simp [h1]; omega
theorem flat_split (h : Eights B) (hs : B[s]? = some c) : ∃ P Q : List (List Int), B = P ++ c :: Q ∧ P.length = s ∧ flat B = flat P ++ (cntV c ++ flat Q) ∧ (flat P).length = s * 8 := by
  have hlt := (List.getElem?_eq_some_iff.1 hs).1
  have he : B = B.take s ++ c :: B.drop (s + 1) := by
    have := List.take_append_drop s B
    rw [List.drop_eq_getElem_cons hlt, (List.getElem?_eq_some_iff.1 hs).2] at this
    exact this.symm
  refine ⟨B.take s, B.drop (s + 1), he, by simp; omega, ?_, ?_⟩
  · conv => lhs; rw [he]
    unfold flat; rw [List.flatMap_append, List.flatMap_cons]
  · rw [flat_len (fun d hd => h d (List.mem_of_mem_take hd)), List.length_take]
    congr 1; omega
theorem flat_get (h : Eights B) (hs : B[s]? = some c) (hj : c[j]? = some x) : (flat B)[s * 8 + j]? = some (.int .i64 x) := by
  obtain ⟨P, Q, _, _, e, hl⟩ := flat_split h hs
  have hc : c.length = 8 := h c (List.mem_of_getElem? hs)
  have hj' := (List.getElem?_eq_some_iff.1 hj).1
  rw [e, List.getElem?_append_right (by omega), hl, Nat.add_sub_cancel_left, List.getElem?_append_left (by simp; omega)]
  simp [hj]
theorem flat_set (h : Eights B) (hs : B[s]? = some c) (hj : j < 8) : (flat B).set (s * 8 + j) (.int .i64 x) = flat (B.set s (c.set j x)) := by
  obtain ⟨P, Q, hB, hP, e, hl⟩ := flat_split h hs
  have hc : c.length = 8 := h c (List.mem_of_getElem? hs)
  have e2 : B.set s (c.set j x) = P ++ c.set j x :: Q := by rw [hB, ← hP, List.set_append_right _ _ (Nat.le_refl _)]; simp
  rw [e, e2, List.set_append_right _ _ (by omega), hl, Nat.add_sub_cancel_left, List.set_append_left _ _ (by simp; omega)]
  unfold flat
  rw [List.flatMap_append, List.flatMap_cons]
  simp [cntV, List.map_set]
theorem flat_sub (h : Eights B) (hs : B[s]? = some c) : ((flat B).drop (s * 8)).take 8 = cntV c := by
  obtain ⟨P, Q, _, _, e, hl⟩ := flat_split h hs
  have hc : c.length = 8 := h c (List.mem_of_getElem? hs)
  rw [e, ← hl, List.drop_left, List.take_append_of_le_length (by simp [hc]), List.take_of_length_le (by simp [hc])]
theorem Eights.set (h : Eights B) (hc : c.length = 8) : Eights (B.set s c) := fun d hd => by
  rcases List.mem_or_eq_of_mem_set hd with hd | rfl
  · exact h d hd
  · exact hc
end
abbrev ledR (b : Nat) (B : List (List Int)) : Res := pts b (flat B) 129
def zeroB : List (List Int) := List.replicate 8 [0, 0, 0, 0, 0, 0, 0, 0]
theorem ledgerNew_ct : Ct Tryz.prog 25 #[] [] (fun v L => ∃ b, v = .pointer (some ⟨b, 0, none⟩) ∧ L = [ledR b zeroB]) := by
  intro w0 F L w hS
  simp only [List.cons_append, List.nil_append] at hS
  go_enter Tryz.func25, Tryz.ntmps25
  go_wp2_with (first | go_skip | (refine ck_box hS rfl rfl (by constructor) ?_; clear hS; intro nb w hS; simp only [Act.put, spA, spZ, spS]) )
  go_ret
  exact ⟨_, ⟨_, rfl, rfl⟩, hS⟩
theorem ledgerMayZ_ct (i : Int) : Ct Tryz.prog 92 #[.pointer none, .int .i64 i] [] (Gives (.int .i64 2) []) := by
  intro w0 F L w hS
  simp only [List.cons_append, List.nil_append] at hS
  go_enter Tryz.func92, Tryz.ntmps92
  go_wp2_with (first | go_skip )
  go_ret
  exact ⟨_, ⟨rfl, rfl⟩, hS⟩
theorem ledgerMayNo_ct (b : Nat) (i : Int) (h : i < 0 ∨ 8 ≤ i) : Ct Tryz.prog 92 #[.pointer (some ⟨b, 0, none⟩), .int .i64 i] [] (Gives (.int .i64 8) []) := by
  by_cases h0 : i < 0
  · skip
    intro w0 F L w hS
    simp only [List.cons_append, List.nil_append] at hS
    go_enter Tryz.func92, Tryz.ntmps92
    go_wp2_with (first | go_skip )
    go_ret
    exact ⟨_, ⟨rfl, rfl⟩, hS⟩
  · have h1 : 8 ≤ i := by omega
    intro w0 F L w hS
    simp only [List.cons_append, List.nil_append] at hS
    go_enter Tryz.func92, Tryz.ntmps92
    go_wp2_with (first | go_skip )
    go_ret
    exact ⟨_, ⟨rfl, rfl⟩, hS⟩
theorem ledgerMay_ct (b : Nat) (i : Int) (h0 : 0 ≤ i) (h1 : i < 8) : Ct Tryz.prog 92 #[.pointer (some ⟨b, 0, none⟩), .int .i64 i] [] (Gives (.int .i64 0) []) := by
  have f0 : ¬ i < 0 := by omega
  have f1 : ¬ 8 ≤ i := by omega
  intro w0 F L w hS
  simp only [List.cons_append, List.nil_append] at hS
  go_enter Tryz.func92, Tryz.ntmps92
  go_wp2_with (first | go_skip )
  go_ret
  exact ⟨_, ⟨rfl, rfl⟩, hS⟩
end Go.Proofs.YtcegknecikbbkaaGreat

/- What ledger's Note and Count come to. -/
set_option linter.unusedVariables false
set_option linter.unusedSimpArgs false
set_option maxRecDepth 4000
namespace Go.Proofs.YtcegknecikbbkaaGreat
open Go.RowKit
section
variable (b : Nat) (B : List (List Int)) (h : Eights B)
theorem ledgerNoteNo_ct (i f : Int) (hi : i < 0 ∨ 8 ≤ i) : Ct Tryz.prog 61 #[.pointer (some ⟨b, 0, none⟩), .int .i64 i, .int .i64 f] [] (Gives (.int .i64 8) []) := by
  intro w0 F L w hS
  simp only [List.cons_append, List.nil_append] at hS
  go_enter Tryz.func61, Tryz.ntmps61
  go_wp2_with (first | go_skip | (refine ck_load hS rfl rfl rfl (by (repeat (first | exact mH _ | apply mT)) <;> fail) rfl (by decide +kernel) ?_; simp only [Act.put, spA, spZ, spS]) | (refine ck_store hS rfl rfl rfl (by constructor) (by (repeat (first | exact uH _ _ _ | apply uT)) <;> fail) (by simp <;> omega) rfl (by decide +kernel) ?_; clear hS; intro w hS; simp only [Act.put, spA, spZ, spS] at hS ⊢) | (go_at_call 92; with_reducible refine Ct.call0 (ledgerMayNo_ct b i hi) hS ?_; clear hS; intro w hS) | (refine ck_region (fun _ => 0) (fun _ => []) [] hS (by kernel_rfl) (by decide +kernel) ?_ ?_; exact ⟨fun _ _ _ h => h.2, fun _ _ h => h⟩; clear hS; intro w hS _; (repeat (first | (apply wpT_pure rfl rfl; (intro _; go_simp; (try (go_ints; (try go_simp))); (first | (rw [decide_eq_true]; omega) | (rw [decide_eq_false]; omega) | rfl | rw [if_pos (by omega)])); simp only [Act.put, spA, spZ, spS]) | (refine ckT_load hS rfl rfl rfl (by simp <;> fail) (by (repeat (first | exact mH _ | apply mT)) <;> fail) rfl (by decide +kernel) ?_; simp only [Act.put, spA, spZ, spS]) | (refine ckT_store hS rfl rfl rfl (by constructor) (by (repeat (first | exact uH _ _ _ | apply uT)) <;> fail) (by simp <;> fail) rfl (by decide +kernel) (by simp <;> fail) ?_; clear hS; intro w hS; simp only [Act.put, spA, spZ, spS] at hS ⊢) )); refine wpT_nil ?_))
  go_ret
  exact ⟨_, ⟨rfl, rfl⟩, hS⟩
theorem ledgerNoteZ_ct (i f : Int) : Ct Tryz.prog 61 #[.pointer none, .int .i64 i, .int .i64 f] [] (Gives (.int .i64 2) []) := by
  intro w0 F L w hS
  simp only [List.cons_append, List.nil_append] at hS
  go_enter Tryz.func61, Tryz.ntmps61
  go_wp2_with (first | go_skip | (refine ck_load hS rfl rfl rfl (by (repeat (first | exact mH _ | apply mT)) <;> fail) rfl (by decide +kernel) ?_; simp only [Act.put, spA, spZ, spS]) | (refine ck_store hS rfl rfl rfl (by constructor) (by (repeat (first | exact uH _ _ _ | apply uT)) <;> fail) (by simp <;> omega) rfl (by decide +kernel) ?_; clear hS; intro w hS; simp only [Act.put, spA, spZ, spS] at hS ⊢) | (go_at_call 92; with_reducible refine Ct.call0 (ledgerMayZ_ct i) hS ?_; clear hS; intro w hS) | (refine ck_region (fun _ => 0) (fun _ => []) [] hS (by kernel_rfl) (by decide +kernel) ?_ ?_; exact ⟨fun _ _ _ h => h.2, fun _ _ h => h⟩; clear hS; intro w hS _; (repeat (first | (apply wpT_pure rfl rfl; (intro _; go_simp; (try (go_ints; (try go_simp))); (first | (rw [decide_eq_true]; omega) | (rw [decide_eq_false]; omega) | rfl | rw [if_pos (by omega)])); simp only [Act.put, spA, spZ, spS]) | (refine ckT_load hS rfl rfl rfl (by simp <;> fail) (by (repeat (first | exact mH _ | apply mT)) <;> fail) rfl (by decide +kernel) ?_; simp only [Act.put, spA, spZ, spS]) | (refine ckT_store hS rfl rfl rfl (by constructor) (by (repeat (first | exact uH _ _ _ | apply uT)) <;> fail) (by simp <;> fail) rfl (by decide +kernel) (by simp <;> fail) ?_; clear hS; intro w hS; simp only [Act.put, spA, spZ, spS] at hS ⊢) )); refine wpT_nil ?_))
  go_ret
  exact ⟨_, ⟨rfl, rfl⟩, hS⟩
theorem ledgerNoteArg_ct (s : Nat) (f : Int) (hs : s < 8) (hf : f < 0 ∨ 6 ≤ f) : Ct Tryz.prog 61 #[.pointer (some ⟨b, 0, none⟩), .int .i64 s, .int .i64 f] [ledR b B] (Gives (.int .i64 1) [ledR b B]) := by
  have kM := ledgerMay_ct b s (by omega) (by omega)
  by_cases h0 : f < 0
  · skip
    intro w0 F L w hS
    simp only [List.cons_append, List.nil_append] at hS
    go_enter Tryz.func61, Tryz.ntmps61
    go_wp2_with (first | go_skip | (refine ck_load hS rfl rfl rfl (by (repeat (first | exact mH _ | apply mT)) <;> fail) rfl (by decide +kernel) ?_; simp only [Act.put, spA, spZ, spS]) | (refine ck_store hS rfl rfl rfl (by constructor) (by (repeat (first | exact uH _ _ _ | apply uT)) <;> fail) (by simp <;> omega) rfl (by decide +kernel) ?_; clear hS; intro w hS; simp only [Act.put, spA, spZ, spS] at hS ⊢) | (go_at_call 92; with_reducible refine Ct.call0 (kM) hS ?_; clear hS; intro w hS) | (refine ck_region (fun _ => 0) (fun _ => []) [] hS (by kernel_rfl) (by decide +kernel) ?_ ?_; exact ⟨fun _ _ _ h => h.2, fun _ _ h => h⟩; clear hS; intro w hS _; (repeat (first | (apply wpT_pure rfl rfl; (intro _; go_simp; (try (go_ints; (try go_simp))); (first | (rw [decide_eq_true]; omega) | (rw [decide_eq_false]; omega) | rfl | rw [if_pos (by omega)])); simp only [Act.put, spA, spZ, spS]) | (refine ckT_load hS rfl rfl rfl (by simp <;> fail) (by (repeat (first | exact mH _ | apply mT)) <;> fail) rfl (by decide +kernel) ?_; simp only [Act.put, spA, spZ, spS]) | (refine ckT_store hS rfl rfl rfl (by constructor) (by (repeat (first | exact uH _ _ _ | apply uT)) <;> fail) (by simp <;> fail) rfl (by decide +kernel) (by simp <;> fail) ?_; clear hS; intro w hS; simp only [Act.put, spA, spZ, spS] at hS ⊢) )); refine wpT_nil ?_))
    go_ret
    exact ⟨_, ⟨rfl, rfl⟩, hS⟩
  · have h1 : 6 ≤ f := by omega
    intro w0 F L w hS
    simp only [List.cons_append, List.nil_append] at hS
    go_enter Tryz.func61, Tryz.ntmps61
    go_wp2_with (first | go_skip | (refine ck_load hS rfl rfl rfl (by (repeat (first | exact mH _ | apply mT)) <;> fail) rfl (by decide +kernel) ?_; simp only [Act.put, spA, spZ, spS]) | (refine ck_store hS rfl rfl rfl (by constructor) (by (repeat (first | exact uH _ _ _ | apply uT)) <;> fail) (by simp <;> omega) rfl (by decide +kernel) ?_; clear hS; intro w hS; simp only [Act.put, spA, spZ, spS] at hS ⊢) | (go_at_call 92; with_reducible refine Ct.call0 (kM) hS ?_; clear hS; intro w hS) | (refine ck_region (fun _ => 0) (fun _ => []) [] hS (by kernel_rfl) (by decide +kernel) ?_ ?_; exact ⟨fun _ _ _ h => h.2, fun _ _ h => h⟩; clear hS; intro w hS _; (repeat (first | (apply wpT_pure rfl rfl; (intro _; go_simp; (try (go_ints; (try go_simp))); (first | (rw [decide_eq_true]; omega) | (rw [decide_eq_false]; omega) | rfl | rw [if_pos (by omega)])); simp only [Act.put, spA, spZ, spS]) | (refine ckT_load hS rfl rfl rfl (by simp <;> fail) (by (repeat (first | exact mH _ | apply mT)) <;> fail) rfl (by decide +kernel) ?_; simp only [Act.put, spA, spZ, spS]) | (refine ckT_store hS rfl rfl rfl (by constructor) (by (repeat (first | exact uH _ _ _ | apply uT)) <;> fail) (by simp <;> fail) rfl (by decide +kernel) (by simp <;> fail) ?_; clear hS; intro w hS; simp only [Act.put, spA, spZ, spS] at hS ⊢) )); refine wpT_nil ?_))
    go_ret
    exact ⟨_, ⟨rfl, rfl⟩, hS⟩
theorem ledgerNoteAcc_ct (s : Nat) (hs : s < 8) (h : Eights B) (c : List Int) (hc : B[s]? = some c) (q x : Int) (hq : c[7]? = some q) (hx : c[1]? = some x) (q0 : 0 ≤ q) (q1 : q ≤ 1000000) (x0 : 0 ≤ x) (x1 : x ≤ 1000000) :
    Ct Tryz.prog 61 #[.pointer (some ⟨b, 0, none⟩), .int .i64 s, .int .i64 0] [ledR b B] (Gives (.int .i64 0) [ledR b (B.set s ((c.set 7 (q + 1)).set 1 (x + 1)))]) := by
  have kM := ledgerMay_ct b s (by omega) (by omega)
  have hl : (flat B).length = B.length * 8 := flat_len h
  have hsl := (List.getElem?_eq_some_iff.1 hc).1
  have e7 : (flat B)[s * 8 + 7]? = some (.int .i64 q) := flat_get h hc hq
  have c8 : c.length = 8 := h c (List.mem_of_getElem? hc)
  have g1 : (flat B).set (s * 8 + 7) (.int .i64 (q + 1)) = flat (B.set s (c.set 7 (q + 1))) := flat_set h hc (by omega)
  have h2 : Eights (B.set s (c.set 7 (q + 1))) := h.set (by simp [c8])
  have hc2 : (B.set s (c.set 7 (q + 1)))[s]? = some (c.set 7 (q + 1)) := by simp [hsl]
  have hl2 : (flat (B.set s (c.set 7 (q + 1)))).length = B.length * 8 := by rw [flat_len h2]; simp
  have e1 : (flat (B.set s (c.set 7 (q + 1))))[s * 8 + 1]? = some (.int .i64 x) := flat_get h2 hc2 (by rw [List.getElem?_set_ne (by omega)]; exact hx)
  have g2 : (flat (B.set s (c.set 7 (q + 1)))).set (s * 8 + 1) (.int .i64 (x + 1)) = flat (B.set s ((c.set 7 (q + 1)).set 1 (x + 1))) := by rw [flat_set h2 hc2 (by omega), List.set_set]
  clear hq hx hc2 h2 hc h
  intro w0 F L w hS
  simp only [List.cons_append, List.nil_append] at hS
  go_enter Tryz.func61, Tryz.ntmps61
  go_wp2_with (first | go_skip | (refine ck_load hS rfl rfl rfl (by (repeat (first | exact mH _ | apply mT)) <;> fail) rfl (by decide +kernel) ?_; simp only [Act.put, spA, spZ, spS]) | (refine ck_store hS rfl rfl rfl (by constructor) (by (repeat (first | exact uH _ _ _ | apply uT)) <;> fail) (by simp <;> omega) rfl (by decide +kernel) ?_; clear hS; intro w hS; simp only [Act.put, spA, spZ, spS] at hS ⊢) | (go_at_call 92; with_reducible refine Ct.call0 (kM) hS ?_; clear hS; intro w hS) | (refine ck_load hS rfl rfl rfl (by (repeat (first | exact mH _ | apply mT)) <;> fail) e7 (by decide +kernel) ?_; simp only [Act.put, spA, spZ, spS]) | (refine ck_store hS rfl rfl rfl (by constructor) (by (repeat (first | exact uH _ _ _ | apply uT)) <;> fail) (by rw [hl]; omega) rfl (by decide +kernel) ?_; clear hS; intro w hS; rw [g1] at hS; simp only [Act.put, spA, spZ, spS]) | (refine ck_region (fun _ => 0) (fun _ => []) [] hS (by kernel_rfl) (by decide +kernel) ?_ ?_; exact ⟨fun _ _ _ h => h.2, fun _ _ h => h⟩; clear hS; intro w hS _; (repeat (first | (apply wpT_pure rfl rfl; (intro _; go_simp; (try (go_ints; (try go_simp))); (first | (rw [decide_eq_true]; omega) | (rw [decide_eq_false]; omega) | rfl | rw [if_pos (by omega)])); simp only [Act.put, spA, spZ, spS]) | (refine ckT_load hS rfl rfl rfl (by simp <;> fail) (by (repeat (first | exact mH _ | apply mT)) <;> fail) rfl (by decide +kernel) ?_; simp only [Act.put, spA, spZ, spS]) | (refine ckT_store hS rfl rfl rfl (by constructor) (by (repeat (first | exact uH _ _ _ | apply uT)) <;> fail) (by simp <;> fail) rfl (by decide +kernel) (by simp <;> fail) ?_; clear hS; intro w hS; simp only [Act.put, spA, spZ, spS] at hS ⊢) | (refine ckT_load hS rfl rfl rfl (by simp <;> fail) (by (repeat (first | exact mH _ | apply mT)) <;> fail) e1 (by decide +kernel) ?_; simp only [Act.put, spA, spZ, spS]) | (refine ckT_store hS rfl rfl rfl (by constructor) (by (repeat (first | exact uH _ _ _ | apply uT)) <;> fail) (by rw [hl2]; omega) rfl (by decide +kernel) (by simp <;> fail) ?_; clear hS; intro w hS; rw [g2] at hS; simp only [Act.put, spA, spZ, spS]))); refine wpT_nil ?_))
  go_ret
  exact ⟨_, ⟨rfl, rfl⟩, hS⟩
theorem ledgerNoteNone_ct (s f : Nat) (hs : s < 8) (hf0 : 1 ≤ f) (hf1 : f ≤ 5) (h : Eights B) (c : List Int) (hc : B[s]? = some c) (hq : c[7]? = some 0) :
    Ct Tryz.prog 61 #[.pointer (some ⟨b, 0, none⟩), .int .i64 s, .int .i64 f] [ledR b B] (Gives (.int .i64 7) [ledR b B]) := by
  have kM := ledgerMay_ct b s (by omega) (by omega)
  have e7 : (flat B)[s * 8 + 7]? = some (.int .i64 0) := flat_get h hc hq
  have f0 : ((f : Int) == 0) = false := beq_eq_false_iff_ne.2 (by omega)
  clear hq hc h
  intro w0 F L w hS
  simp only [List.cons_append, List.nil_append] at hS
  go_enter Tryz.func61, Tryz.ntmps61
  go_wp2_with (first | go_skip | (refine ck_load hS rfl rfl rfl (by (repeat (first | exact mH _ | apply mT)) <;> fail) rfl (by decide +kernel) ?_; simp only [Act.put, spA, spZ, spS]) | (refine ck_store hS rfl rfl rfl (by constructor) (by (repeat (first | exact uH _ _ _ | apply uT)) <;> fail) (by simp <;> omega) rfl (by decide +kernel) ?_; clear hS; intro w hS; simp only [Act.put, spA, spZ, spS] at hS ⊢) | (go_at_call 92; with_reducible refine Ct.call0 (kM) hS ?_; clear hS; intro w hS) | (refine ck_load hS rfl rfl rfl (by (repeat (first | exact mH _ | apply mT)) <;> fail) e7 (by decide +kernel) ?_; simp only [Act.put, spA, spZ, spS]) | (refine ck_region (fun _ => 0) (fun _ => []) [] hS (by kernel_rfl) (by decide +kernel) ?_ ?_; exact ⟨fun _ _ _ h => h.2, fun _ _ h => h⟩; clear hS; intro w hS _; (repeat (first | (apply wpT_pure rfl rfl; (intro _; go_simp; (try (go_ints; (try go_simp))); (first | (rw [decide_eq_true]; omega) | (rw [decide_eq_false]; omega) | rfl | rw [if_pos (by omega)])); simp only [Act.put, spA, spZ, spS]) | (refine ckT_load hS rfl rfl rfl (by simp <;> fail) (by (repeat (first | exact mH _ | apply mT)) <;> fail) rfl (by decide +kernel) ?_; simp only [Act.put, spA, spZ, spS]) | (refine ckT_store hS rfl rfl rfl (by constructor) (by (repeat (first | exact uH _ _ _ | apply uT)) <;> fail) (by simp <;> fail) rfl (by decide +kernel) (by simp <;> fail) ?_; clear hS; intro w hS; simp only [Act.put, spA, spZ, spS] at hS ⊢) )); refine wpT_nil ?_))
  go_ret
  exact ⟨_, ⟨rfl, rfl⟩, hS⟩
theorem ledgerNoteOk_ct (s f : Nat) (hs : s < 8) (hf0 : 1 ≤ f) (hf1 : f ≤ 5) (h : Eights B) (c : List Int) (hc : B[s]? = some c) (q x : Int) (hq : c[7]? = some q) (hx : c[1 + f]? = some x) (q0 : 1 ≤ q) (q1 : q ≤ 1000000) (x0 : 0 ≤ x) (x1 : x ≤ 1000000) :
    Ct Tryz.prog 61 #[.pointer (some ⟨b, 0, none⟩), .int .i64 s, .int .i64 f] [ledR b B] (Gives (.int .i64 0) [ledR b (B.set s ((c.set 7 (q - 1)).set (1 + f) (x + 1)))]) := by
  have kM := ledgerMay_ct b s (by omega) (by omega)
  have f0 : ((f : Int) == 0) = false := beq_eq_false_iff_ne.2 (by omega)
  have fq : (q == 0) = false := beq_eq_false_iff_ne.2 (by omega)
  have hl : (flat B).length = B.length * 8 := flat_len h
  have hsl := (List.getElem?_eq_some_iff.1 hc).1
  have e7 : (flat B)[s * 8 + 7]? = some (.int .i64 q) := flat_get h hc hq
  have c8 : c.length = 8 := h c (List.mem_of_getElem? hc)
  have g1 : (flat B).set (s * 8 + 7) (.int .i64 (q - 1)) = flat (B.set s (c.set 7 (q - 1))) := flat_set h hc (by omega)
  have h2 : Eights (B.set s (c.set 7 (q - 1))) := h.set (by simp [c8])
  have hl2 : (flat (B.set s (c.set 7 (q - 1)))).length = B.length * 8 := by rw [flat_len h2]; simp
  have hc2 : (B.set s (c.set 7 (q - 1)))[s]? = some (c.set 7 (q - 1)) := by simp [hsl]
  have e1 : (flat (B.set s (c.set 7 (q - 1))))[s * 8 + 1 + f]? = some (.int .i64 x) := by rw [Nat.add_assoc]; exact flat_get h2 hc2 (by rw [List.getElem?_set_ne (by omega)]; exact hx)
  have g2 : (flat (B.set s (c.set 7 (q - 1)))).set (s * 8 + 1 + f) (.int .i64 (x + 1)) = flat (B.set s ((c.set 7 (q - 1)).set (1 + f) (x + 1))) := by rw [Nat.add_assoc, flat_set h2 hc2 (by omega), List.set_set]
  clear hq hx hc2 h2 hc h
  intro w0 F L w hS
  simp only [List.cons_append, List.nil_append] at hS
  go_enter Tryz.func61, Tryz.ntmps61
  go_wp2_with (first | go_skip | (refine ck_load hS rfl rfl rfl (by (repeat (first | exact mH _ | apply mT)) <;> fail) rfl (by decide +kernel) ?_; simp only [Act.put, spA, spZ, spS]) | (refine ck_store hS rfl rfl rfl (by constructor) (by (repeat (first | exact uH _ _ _ | apply uT)) <;> fail) (by simp <;> omega) rfl (by decide +kernel) ?_; clear hS; intro w hS; simp only [Act.put, spA, spZ, spS] at hS ⊢) | (go_at_call 92; with_reducible refine Ct.call0 (kM) hS ?_; clear hS; intro w hS) | (refine ck_load hS rfl rfl rfl (by (repeat (first | exact mH _ | apply mT)) <;> fail) e7 (by decide +kernel) ?_; simp only [Act.put, spA, spZ, spS]) | (refine ck_store hS rfl rfl rfl (by constructor) (by (repeat (first | exact uH _ _ _ | apply uT)) <;> fail) (by rw [hl]; omega) rfl (by decide +kernel) ?_; clear hS; intro w hS; rw [g1] at hS; simp only [Act.put, spA, spZ, spS]) | (refine ck_region (fun _ => 0) (fun _ => []) [] hS (by kernel_rfl) (by decide +kernel) ?_ ?_; exact ⟨fun _ _ _ h => h.2, fun _ _ h => h⟩; clear hS; intro w hS _; (repeat (first | (apply wpT_pure rfl rfl; (intro _; go_simp; (try (go_ints; (try go_simp))); (first | (rw [decide_eq_true]; omega) | (rw [decide_eq_false]; omega) | rfl | rw [if_pos (by omega)])); simp only [Act.put, spA, spZ, spS]) | (refine ckT_load hS rfl rfl rfl (by simp <;> fail) (by (repeat (first | exact mH _ | apply mT)) <;> fail) rfl (by decide +kernel) ?_; simp only [Act.put, spA, spZ, spS]) | (refine ckT_store hS rfl rfl rfl (by constructor) (by (repeat (first | exact uH _ _ _ | apply uT)) <;> fail) (by simp <;> fail) rfl (by decide +kernel) (by simp <;> fail) ?_; clear hS; intro w hS; simp only [Act.put, spA, spZ, spS] at hS ⊢) | (refine ckT_load hS rfl rfl rfl (by simp <;> fail) (by (repeat (first | exact mH _ | apply mT)) <;> fail) e1 (by decide +kernel) ?_; simp only [Act.put, spA, spZ, spS]) | (refine ckT_store hS rfl rfl rfl (by constructor) (by (repeat (first | exact uH _ _ _ | apply uT)) <;> fail) (by rw [hl2]; omega) rfl (by decide +kernel) (by simp <;> fail) ?_; clear hS; intro w hS; rw [g2] at hS; simp only [Act.put, spA, spZ, spS]))); refine wpT_nil ?_))
  go_ret
  exact ⟨_, ⟨rfl, rfl⟩, hS⟩
end
end Go.Proofs.YtcegknecikbbkaaGreat

/- A machine: what it holds; New; what it does with a socket. -/
set_option linter.unusedVariables false
set_option linter.unusedSimpArgs false
set_option maxRecDepth 4000
namespace Go.Proofs.YtcegknecikbbkaaGreat
open Go.RowKit
structure SkA where
  (a : SockA) (k : SockM)
def sptr : Option SkA → Value
  | none => .pointer none
  | some s => .pointer (some ⟨s.a.b, 0, none⟩)
def socksR (sl : List (Option SkA)) : Res := grpR (sl.filterMap fun o => o.map fun s => sockG s.a s.k)
section
variable {w0 w : World} {F : List Nat} {L : List Res}
theorem optTake {α : Type} {g : α → Res} {l : List (Option α)} {k : Nat} {f : α} (h : l[k]? = some (some f)) : Sep w0 F (grpR (l.filterMap fun o => o.map g) :: L) w ↔ Sep w0 F (g f :: grpR ((l.set k none).filterMap fun o => o.map g) :: L) w := by
  have hk := (List.getElem?_eq_some_iff.1 h).1
  have e : l = l.take k ++ some f :: l.drop (k + 1) := by
    have := List.take_append_drop k l
    rw [List.drop_eq_getElem_cons hk, (List.getElem?_eq_some_iff.1 h).2] at this
    exact this.symm
  have e2 : l.set k none = l.take k ++ none :: l.drop (k + 1) := by rw [List.set_eq_take_append_cons_drop, if_pos hk]
  have f1 : (l.filterMap fun o => o.map g) = (l.take k).filterMap (fun o => o.map g) ++ g f :: (l.drop (k + 1)).filterMap (fun o => o.map g) := by
    conv => lhs; rw [e]
    rw [List.filterMap_append]; rfl
  have f2 : ((l.set k none).filterMap fun o => o.map g) = (l.take k).filterMap (fun o => o.map g) ++ (l.drop (k + 1)).filterMap (fun o => o.map g) := by
    rw [e2, List.filterMap_append]; rfl
  have pm : ((l.filterMap fun o => o.map g) ++ L).Perm (((l.set k none).filterMap fun o => o.map g) ++ (g f :: L)) := by
    rw [f1, f2, List.append_assoc, List.append_assoc, List.cons_append]
    exact List.Perm.append_left _ List.perm_middle.symm
  constructor
  · intro hS
    exact (Sep.grp.1 ((Sep.grp.2 hS).perm pm)).perm (.swap _ _ _)
  · intro hS
    exact Sep.grp.1 ((Sep.grp.2 (hS.perm (.swap _ _ _))).perm pm.symm)
theorem socksTake {sl : List (Option SkA)} {i : Nat} {s : SkA} (h : sl[i]? = some (some s)) : Sep w0 F (socksR sl :: L) w ↔ Sep w0 F (sockG s.a s.k :: socksR (sl.set i none) :: L) w := optTake (g := fun s : SkA => sockG s.a s.k) h
theorem socksPut {sl : List (Option SkA)} {i : Nat} {s : SkA} (hi : i < sl.length) (h : Sep w0 F (sockG s.a s.k :: socksR (sl.set i none) :: L) w) : Sep w0 F (socksR (sl.set i (some s)) :: L) w :=
  (socksTake (sl := sl.set i (some s)) (i := i) (s := s) (by rw [List.getElem?_set_self hi])).2 (by rw [List.set_set]; exact h)
end
def mC (c : CfgM) (cb : Nat) (sl : List (Option SkA)) (qb lg : Nat) : List Value := cfgV c ++ (.pointer (some ⟨cb, 0, none⟩) :: (sl.map sptr ++ [.pointer (some ⟨qb, 0, none⟩), .pointer (some ⟨lg, 0, none⟩)]))
abbrev mP (b : Nat) (c : CfgM) (cb : Nat) (sl : List (Option SkA)) (qb lg : Nat) : Res := pts b (mC c cb sl qb lg) 77
structure MachA where
  (c : CfgM) (cb : Nat) (now : Int) (sl : List (Option SkA)) (qb : Nat) (q : QA) (t : TrA) (lg : Nat) (B : List (List Int))
def machG (b : Nat) (m : MachA) : Res := grpR [mP b m.c m.cb m.sl m.qb m.lg, clkR m.cb m.now, socksR m.sl, queueG m.qb m.q, treeG m.q.tb m.t, ledR m.lg m.B]
theorem machOpen {b : Nat} {c : CfgM} {cb : Nat} {now : Int} {sl : List (Option SkA)} {qb : Nat} {q : QA} {t : TrA} {lg : Nat} {B : List (List Int)} {w0 w : World} {F : List Nat} {L : List Res} :
    Sep w0 F (machG b ⟨c, cb, now, sl, qb, q, t, lg, B⟩ :: L) w ↔ Sep w0 F (mP b c cb sl qb lg :: clkR cb now :: socksR sl :: queueG qb q :: treeG q.tb t :: ledR lg B :: L) w := (Sep.grp (l := [mP b c cb sl qb lg, clkR cb now, socksR sl, queueG qb q, treeG q.tb t, ledR lg B])).symm
section
variable {c : CfgM} {cb : Nat} {sl : List (Option SkA)} {qb lg i : Nat} {x : Option SkA}
theorem mC_len (h8 : sl.length = 8) : (mC c cb sl qb lg).length = 20 := by simp [mC, h8]
theorem mC_q (h8 : sl.length = 8) : (mC c cb sl qb lg)[18]? = some (.pointer (some ⟨qb, 0, none⟩)) := by
  show (sl.map sptr ++ [.pointer (some ⟨qb, 0, none⟩), .pointer (some ⟨lg, 0, none⟩)])[8]? = _
  rw [List.getElem?_append_right (by simp [h8])]; simp [h8]
theorem mC_l (h8 : sl.length = 8) : (mC c cb sl qb lg)[19]? = some (.pointer (some ⟨lg, 0, none⟩)) := by
  show (sl.map sptr ++ [.pointer (some ⟨qb, 0, none⟩), .pointer (some ⟨lg, 0, none⟩)])[9]? = _
  rw [List.getElem?_append_right (by simp [h8])]; simp [h8]
theorem mC_s (h : sl[i]? = some x) : (mC c cb sl qb lg)[10 + i]? = some (sptr x) := by
  have hk := (List.getElem?_eq_some_iff.1 h).1
  rw [show 10 + i = i + 10 by omega]
  show (sl.map sptr ++ [.pointer (some ⟨qb, 0, none⟩), .pointer (some ⟨lg, 0, none⟩)])[i]? = _
  rw [List.getElem?_append_left (by simpa using hk)]; simp [h]
theorem mC_setS (h8 : sl.length = 8) (hi : i < 8) : (mC c cb sl qb lg).set (10 + i) (sptr x) = mC c cb (sl.set i x) qb lg := by
  unfold mC
  rw [List.set_append_right _ _ (by simp; omega), show 10 + i - (cfgV c).length = i + 1 by simp only [List.length_cons, List.length_nil]; omega, List.set_cons_succ, List.set_append_left _ _ (by simp; omega), List.map_set]
theorem mC_same {y : Option SkA} (h : sl[i]? = some y) (hy : sptr x = sptr y) : mC c cb (sl.set i x) qb lg = mC c cb sl qb lg := by
  have hk := (List.getElem?_eq_some_iff.1 h).1
  unfold mC
  rw [List.map_set, hy, set_same (by rw [List.getElem?_map, h]; rfl)]
end
def startM (c : CfgM) (cb qb lb tb lg ab : Nat) (la : LA) (aa : AA) : MachA := ⟨c, cb, 0, List.replicate 8 none, qb, ⟨c, List.replicate 8 none, lb, tb, [], [], la, 0⟩, ⟨ab, aa, none, 0, [], 0, 0, [], []⟩, lg, zeroB⟩
set_option maxHeartbeats 4000000 in
theorem egNew_ct (c : CfgM) (h : mayOk c) : Ct Tryz.prog 7 #[cfgA c] [] (fun v L => ∃ b cb qb lb tb lg ab la aa, v = .tuple #[.pointer (some ⟨b, 0, none⟩), .int .i64 0] ∧ L = [machG b (startM c cb qb lb tb lg ab la aa)]) := by
  have kQ := qnew_ct c h
  obtain ⟨qn, fs, lim, flim, hz, mr, dh, cap, mss⟩ := c
  clear h
  intro w0 F L w hS
  simp only [List.cons_append, List.nil_append] at hS
  go_enter Tryz.func7, Tryz.ntmps7
  go_wp2_with (first | go_skip | (refine ck_loadAll hS rfl rfl rfl (by (repeat (first | exact mH _ | apply mT)) <;> fail) rfl (by (try simp only [List.length_cons, List.length_nil, Nat.zero_add, Nat.reduceAdd]); decide +kernel) ?_; simp only [Act.put, spA, spZ, spS]) | (refine ck_load hS rfl rfl rfl (by (repeat (first | exact mH _ | apply mT)) <;> fail) rfl (by decide +kernel) ?_; simp only [Act.put, spA, spZ, spS]) | (refine ck_box hS rfl rfl (by constructor) ?_; clear hS; intro nb w hS; simp only [Act.put, spA, spZ, spS]) | (go_at_call 19; with_reducible refine Ct.callN (kQ) hS ?_; clear hS; rintro _ _ w ⟨qb, lb, tb, la, ab, aa, rfl, rfl⟩ hS; simp only [List.cons_append, List.nil_append] at hS) | (refine ck_region (fun _ => 0) (fun _ => []) [] hS (by kernel_rfl) (by decide +kernel) ?_ ?_; exact ⟨fun _ _ _ h => h.2, fun _ _ h => h⟩; clear hS; intro w hS _; (repeat (first | (apply wpT_pure rfl rfl; (intro _; go_simp; (try (go_ints; (try go_simp))); (first | (rw [decide_eq_true]; omega) | (rw [decide_eq_false]; omega) | rfl | rw [if_pos (by omega)])); simp only [Act.put, spA, spZ, spS]) | (refine ckT_load hS rfl rfl rfl (by simp <;> fail) (by (repeat (first | exact mH _ | apply mT)) <;> fail) rfl (by decide +kernel) ?_; simp only [Act.put, spA, spZ, spS]) )); refine wpT_nil ?_) | (refine ck_region (fun _ => nb) (fun i => if i = 1 then [0] else if i = 3 then [0] else []) ([0]) hS (by kernel_rfl) (by decide +kernel) ?_ ?_; exact ⟨fun _ _ _ h => h.2, fun _ _ h => h⟩; clear hS; intro w hS _; (repeat (first | (apply wpT_pure rfl rfl; (intro _; go_simp; (try (go_ints; (try go_simp))); (first | (rw [decide_eq_true]; omega) | (rw [decide_eq_false]; omega) | rfl | rw [if_pos (by omega)])); simp only [Act.put, spA, spZ, spS]) | (refine ckT_load hS rfl rfl rfl (by simp <;> fail) (by (repeat (first | exact mH _ | apply mT)) <;> fail) rfl (by decide +kernel) ?_; simp only [Act.put, spA, spZ, spS]) | (refine ckT_loadAll hS rfl rfl rfl (by simp <;> fail) (by (repeat (first | exact mH _ | apply mT)) <;> fail) rfl (by (try simp only [List.length_cons, List.length_nil, Nat.zero_add, Nat.reduceAdd]); decide +kernel) ?_; simp only [Act.put, spA, spZ, spS]) | (refine ckT_callN hS rfl (clkNew0_ct) rfl (by kernel_rfl) rfl (by intro j hj; simp at hj; subst hj; exact ⟨_, 24, (by (repeat (first | exact mH _ | apply mT)) <;> fail)⟩) ?_; clear hS; rintro _ _ w ⟨kb, rfl, rfl⟩ hS; simp only [List.cons_append, List.nil_append] at hS; simp only [Act.put, spA, spZ, spS]) | (refine ckT_callN hS rfl (ledgerNew_ct) rfl (by kernel_rfl) rfl (by intro j hj; simp at hj; subst hj; exact ⟨_, 24, (by (repeat (first | exact mH _ | apply mT)) <;> fail)⟩) ?_; clear hS; rintro _ _ w ⟨lg, rfl, rfl⟩ hS; simp only [List.cons_append, List.nil_append] at hS; simp only [Act.put, spA, spZ, spS]) | (refine ckT_box hS rfl rfl (by constructor) (by simp <;> fail) ?_; clear hS; intro mb w hS; simp only [Act.put, spA, spZ, spS]))); refine wpT_nil ?_))
  go_ret2
  refine ⟨_, ⟨mb, kb, qb, lb, tb, lg, ab, la, aa, rfl, rfl⟩, ?_⟩
  have j0 : Sep w0 F (socksR (List.replicate 8 none) :: _) w := (Sep.grp (l := [])).1 hS
  refine (machOpen (b := mb) (c := ⟨qn, fs, lim, flim, hz, mr, dh, cap, mss⟩) (cb := kb) (now := 0) (sl := List.replicate 8 none) (qb := qb) (lg := lg) (B := zeroB)).2 ?_
  exact j0.pick (by (repeat (first | exact Pick.refl _ | (apply Pick.take; ((repeat (first | exact rH _ _ | apply rT)) <;> fail)) | (apply Pick.drop))))
theorem egNow_ct (b : Nat) (c : CfgM) (cb : Nat) (now : Int) (sl : List (Option SkA)) (qb lg : Nat) : Ct Tryz.prog 10 #[.pointer (some ⟨b, 0, none⟩)] [mP b c cb sl qb lg, clkR cb now] (Gives (.int .u64 now) [mP b c cb sl qb lg, clkR cb now]) := by
  have kN := clkNow_ct cb now
  intro w0 F L w hS
  simp only [List.cons_append, List.nil_append] at hS
  go_enter Tryz.func10, Tryz.ntmps10
  go_wp2_with (first | go_skip | (refine ck_load hS rfl rfl rfl (by (repeat (first | exact mH _ | apply mT)) <;> fail) rfl (by decide +kernel) ?_; simp only [Act.put, spA, spZ, spS]) | (go_at_call 30; (with_reducible refine Ct.callU (kN) (by (repeat (first | exact uH _ _ _ | apply uT)) <;> fail) hS ?_) <;> (first | (clear hS; intro w hS) | omega)))
  go_ret
  exact ⟨_, ⟨rfl, rfl⟩, hS⟩
structure DeedM where
  (kind sock len upto at' : Int) (sa : Option Addr) (sn sc : Nat) (cfg : CfgM)
abbrev deedV (d : DeedM) : List Value := [.int .i64 d.kind, .int .i64 d.sock, .int .i64 d.len, .int .u64 d.upto, .int .u64 d.at', .slice d.sa d.sn d.sc, .int .i64 d.cfg.quantum, .int .i64 d.cfg.first, .int .i64 d.cfg.limit, .int .i64 d.cfg.flowLimit, .int .u64 d.cfg.horizon, .int .u64 d.cfg.maxRate, .bool d.cfg.dropH, .int .i64 d.cfg.cap, .int .i64 d.cfg.mss]
abbrev deedA (d : DeedM) : Value := .agg (deedV d).toArray
theorem sockDone_ct (A : SockA) (k : SockM) (n : Int) (h0 : 1 ≤ n) (h1 : n ≤ k.out) (h2 : k.out ≤ 4611686018427387904) : Ct Tryz.prog 103 #[.pointer (some ⟨A.b, 0, none⟩), .int .i64 n] [sockG A k] (Gives (.int .i64 0) [sockG A { k with out := k.out - n }]) := by
  intro w0 F L w hS
  have hS := sockOpen.1 hS
  have hfin : ∀ {w : World}, Sep w0 F (sockP A { k with out := k.out - n } :: bufR' A.f k.buf :: brdG A.o k.ps k.en A.oa :: smpR A.s k.smp :: mdlG A.m k.mdl :: L) w → Sep w0 F ([sockG A { k with out := k.out - n }] ++ L) w := fun h => (sockOpen (k := { k with out := k.out - n })).2 h
  have h3 : ¬ n < 1 := by omega
  have h4 : ¬ k.out < n := by omega
  go_enter Tryz.func103, Tryz.ntmps103
  go_wp2_with (first | go_skip | (refine ck_load hS rfl rfl rfl (by (repeat (first | exact mH _ | apply mT)) <;> fail) rfl (by decide +kernel) ?_; simp only [Act.put, spA, spZ, spS]) | (refine ck_store hS rfl rfl rfl (by constructor) (by (repeat (first | exact uH _ _ _ | apply uT)) <;> fail) (by simp <;> omega) rfl (by decide +kernel) ?_; clear hS; intro w hS; simp only [Act.put, spA, spZ, spS] at hS ⊢) )
  go_ret
  exact ⟨_, ⟨rfl, rfl⟩, hfin hS⟩
section
variable (A : SockA) (d : DeedM) (now : Int) (pre : List Res) (post : Value → List Res → Prop)
theorem toldSend_ct (hk : d.kind = 2) (hC : Ct Tryz.prog 100 #[.pointer (some ⟨A.b, 0, none⟩), .int .i64 d.len] pre post) : Ct Tryz.prog 67 #[.pointer (some ⟨A.b, 0, none⟩), deedA d, .int .u64 now] pre post := by
  obtain ⟨kind, sock, len, upto, at', sa, sn, sc, qn, fs, lim, flim, hz, mr, dh, cap, mss⟩ := d
  dsimp only at hk hC
  subst hk
  intro w0 F L w hS
  go_enter Tryz.func67, Tryz.ntmps67
  go_wp2_with (first | go_skip  | (refine ck_load hS rfl rfl rfl (by (repeat (first | exact mH _ | apply mT)) <;> fail) rfl (by decide +kernel) ?_; simp only [Act.put, spA, spZ, spS]) | (refine ck_box hS rfl rfl (by constructor) ?_; clear hS; intro nb w hS; simp only [Act.put, spA, spZ, spS])  | (go_at_call 100; refine Ct.call hC (hS.perm List.perm_middle.symm) ?_; clear hS hC; intro v L' w hp hS))
  go_ret
  exact ⟨_, hp, (hS.perm List.perm_middle).drop⟩
theorem toldDone_ct (hk : d.kind = 7) (hC : Ct Tryz.prog 103 #[.pointer (some ⟨A.b, 0, none⟩), .int .i64 d.len] pre post) : Ct Tryz.prog 67 #[.pointer (some ⟨A.b, 0, none⟩), deedA d, .int .u64 now] pre post := by
  obtain ⟨kind, sock, len, upto, at', sa, sn, sc, qn, fs, lim, flim, hz, mr, dh, cap, mss⟩ := d
  dsimp only at hk hC
  subst hk
  intro w0 F L w hS
  go_enter Tryz.func67, Tryz.ntmps67
  go_wp2_with (first | go_skip  | (refine ck_load hS rfl rfl rfl (by (repeat (first | exact mH _ | apply mT)) <;> fail) rfl (by decide +kernel) ?_; simp only [Act.put, spA, spZ, spS]) | (refine ck_box hS rfl rfl (by constructor) ?_; clear hS; intro nb w hS; simp only [Act.put, spA, spZ, spS])  | (go_at_call 103; refine Ct.call hC (hS.perm List.perm_middle.symm) ?_; clear hS hC; intro v L' w hp hS))
  go_ret
  exact ⟨_, hp, (hS.perm List.perm_middle).drop⟩
end
end Go.Proofs.YtcegknecikbbkaaGreat

/- A socket: Emit. -/
set_option linter.unusedVariables false
set_option linter.unusedSimpArgs false
set_option maxRecDepth 4000
namespace Go.Proofs.YtcegknecikbbkaaGreat
open Go.RowKit
section
variable {P : Program} {w w0 : World} {F : List Nat} {L L0 : List Res} {ops : Array Oper} {Q : Exit → Act → World → Prop} {rest : List Oper} {o : Oper} {a : Act} {v : Value} {blk : Nat → Nat} {conf : Nat → List Nat} {flg : List Nat} {i : Nat}
theorem ckT_callUS {f : FuncId} {as' : Array Operand} {ats : Array TypeId} {args : Array Value} {r r' : Res} {L' : List Res} (hS : Sep w0 F L w) (ho : o.op = .call { callee := .value (.func f), args := as', argTypes := ats }) (hC : Ct P f args [r] (Gives v [r'])) (hu : Upd L r r' L') (hw : Region.wanted o (yielded ops a.tmps) = true) (hen : ckEnter P f = true)
    (ha : as'.toList.map a.eval = args.toList) (hcf : conf i = []) (h : ∀ w', Sep w0 F L' w' → wpT P ops blk conf flg Q (i + 1) rest (a.put o.dst v) w') : wpT P ops blk conf flg Q i (o :: rest) a w :=
  ckT_enter ho hw hen ha (hC.callU hu hS fun w' hS' => ⟨by rw [hcf]; simp, h w' hS'⟩)
end
theorem mayK_self {k : SockM} (h : mayZ k = 0) : mayK k = k := by
  unfold mayZ at h
  unfold mayK
  split
  · rename_i h1; rw [if_pos h1] at h; cases h
  · rfl
theorem tsoK_one {k : SockM} (h : sockOk k) : 1 ≤ tsoK k := by
  obtain ⟨m0, m1⟩ := tsoM_bd k.mss
  unfold tsoK tsoS tsoN
  have h2 : 2 ≤ max 2 (min (k.mdl.rate / 1024 / tsoM k.mss) (65536 / tsoM k.mss)) := by omega
  have h3 := Int.mul_le_mul_of_nonneg_right h2 (show 0 ≤ tsoM k.mss by omega)
  omega
abbrev emitN (k : SockM) : Int := min (tsoK k) (k.buf.w - k.buf.t)
def emitS (k : SockM) (now : Int) : SegM := ⟨k.id, k.buf.t, emitN k, max now k.at', false⟩
def emitP (k : SockM) (now : Int) : PieceM := ⟨k.buf.t, k.buf.t + emitN k, smpSentV (smpSentM k.smp now (flightZ k.ps)) now, false, false⟩
def emitK (k : SockM) (now : Int) : SockM := { k with smp := smpSentM k.smp now (flightZ k.ps), buf := { k.buf with t := k.buf.t + emitN k }, ps := k.ps ++ [emitP k now], en := k.buf.t + emitN k, out := k.out + emitN k, at' := satAdd (max now k.at') (delayOf (emitN k) k.mdl.rate) }
theorem mayZ0 {k : SockM} (hm : mayZ k = 0) : ¬ k.buf.w - k.buf.t = 0 ∧ ¬ 4096 ≤ k.ps.length := by
  unfold mayZ at hm
  split at hm
  · cases hm
  · rename_i h1
    split at hm
    · split at hm
      · split at hm
        · cases hm
        · rename_i h2; exact ⟨h1, h2⟩
      · cases hm
    · cases hm
section
variable (A : SockA) (k : SockM) (now : Int)
theorem sockEmitNo_ct (h : sockOk k) (hm : mayZ k ≠ 0) : Ct Tryz.prog 104 #[.pointer (some ⟨A.b, 0, none⟩), .int .u64 now] [sockG A k] (Gives (.tuple #[segA idSeg, .int .i64 (mayZ k)]) [sockG A (mayK k)]) := by
  have kM := sockMay_ct A k h
  have hm' : (mayZ k == 0) = false := by simpa using hm
  generalize mayZ k = mz at *
  generalize mayK k = mk at *
  clear h hm
  intro w0 F L w hS
  simp only [List.cons_append, List.nil_append] at hS
  go_enter Tryz.func104, Tryz.ntmps104
  go_wp2_with (first | go_skip | (refine ck_storeAll hS rfl rfl rfl rfl (by (repeat (first | exact uH _ _ _ | apply uT)) <;> fail) (by rfl) rfl (by (try simp only [List.length_cons, List.length_nil, Nat.zero_add, Nat.reduceAdd]); decide +kernel) ?_; clear hS; intro w hS; simp only [Act.put, spA, spZ, spS]) | (refine ck_load hS rfl rfl rfl (by (repeat (first | exact mH _ | apply mT)) <;> fail) rfl (by decide +kernel) ?_; simp only [Act.put, spA, spZ, spS]) | (refine ck_store hS rfl rfl rfl (by constructor) (by (repeat (first | exact uH _ _ _ | apply uT)) <;> fail) (by simp <;> omega) rfl (by decide +kernel) ?_; clear hS; intro w hS; simp only [Act.put, spA, spZ, spS] at hS ⊢) | (refine ck_alloc (t := 44) (v := segA ⟨0, 0, 0, 0, false⟩) (cs := segV ⟨0, 0, 0, 0, false⟩) hS rfl rfl (by kernel_rfl) rfl ?_; clear hS; intro r4 w hS; simp only [Act.put, spA, spZ, spS]) | (go_at_call 142; (with_reducible refine Ct.callU (kM) (by (repeat (first | exact uH _ _ _ | apply uT)) <;> fail) hS ?_) <;> (first | (clear hS; intro w hS) | omega)) | (refine ck_region (fun _ => 0) (fun _ => []) [] hS (by kernel_rfl) (by decide +kernel) ?_ ?_; exact ⟨fun _ _ _ h => h.2, fun _ _ h => h⟩; clear hS; intro w hS _; (repeat (first | (refine ckT_max rfl rfl rfl rfl ?_; simp only [Act.put, spA, spZ, spS]) | (refine ckT_min rfl rfl rfl rfl ?_; simp only [Act.put, spA, spZ, spS]) | (apply wpT_pure rfl rfl; (intro _; go_simp; (try (go_ints; (try go_simp))); (first | (rw [decide_eq_true]; omega) | (rw [decide_eq_false]; omega) | rfl | rw [if_pos (by omega)])); simp only [Act.put, spA, spZ, spS]) | (refine ckT_load hS rfl rfl rfl (by simp <;> fail) (by (repeat (first | exact mH _ | apply mT)) <;> fail) rfl (by decide +kernel) ?_; simp only [Act.put, spA, spZ, spS]) | (refine ckT_store hS rfl rfl rfl (by constructor) (by (repeat (first | exact uH _ _ _ | apply uT)) <;> fail) (by simp <;> fail) rfl (by decide +kernel) (by simp <;> fail) ?_; clear hS; intro w hS; simp only [Act.put, spA, spZ, spS] at hS ⊢) )); refine wpT_nil ?_))
  refine bodyPost_ret (ckRes_cell_tmp hS (cs := segV ⟨0, 0, 0, 0, false⟩) (b := r4) (T := 44) (by (repeat (first | exact mH _ | apply mT)) <;> fail) rfl rfl rfl (by (try simp only [List.length_cons, List.length_nil, Nat.zero_add, Nat.reduceAdd]); decide +kernel)) rfl ?_
  exact ⟨_, ⟨rfl, rfl⟩, hS.drop⟩
set_option maxRecDepth 20000 in
set_option maxHeartbeats 16000000 in
theorem sockEmitOk_ct (h : sockOk k) (hm : mayZ k = 0) (n0 : 0 ≤ now) (n1 : now ≤ 18446744073709551615) : Ct Tryz.prog 104 #[.pointer (some ⟨A.b, 0, none⟩), .int .u64 now] [sockG A k] (fun v L => v = .tuple #[segA (emitS k now), .int .i64 0] ∧ ∃ oa, L = [sockG { A with oa := oa } (emitK k now)]) := by
  have kM := sockMay_ct A k h
  rw [hm, mayK_self hm] at kM
  have kF := sockFlight_ct A k h.len h.ok h.fl
  have kSm := smpSent_ct A.s k.smp now (flightZ k.ps)
  have kAg := fun s => brdAgainNone_ct A.o k.ps k.en A.oa h.len h.no s
  obtain ⟨hu, hN⟩ := mayZ0 hm
  obtain ⟨b0, b1, b2⟩ := h.buf
  have ht1 := tsoK_one h
  obtain ⟨_, ht2⟩ := tsoK_bd h
  obtain ⟨sm, hsm⟩ : ∃ s, smpSentM k.smp now (flightZ k.ps) = s := ⟨_, rfl⟩
  have hdl : sm.del = k.smp.del := by rw [← hsm]; unfold smpSentM; split <;> rfl
  have h1 : sockOk { k with smp := sm } := ⟨h.len, h.ok, h.fl, h.no, h.buf, h.rate, h.mss, h.most, (by show 0 ≤ sm.del ∧ sm.del ≤ 18446744073709551615; rw [hdl]; exact h.del), h.out, h.at', h.en⟩
  have kT : Ct Tryz.prog 147 #[.pointer (some ⟨A.b, 0, none⟩)] [sockG A { k with smp := sm }] (Gives (.int .i64 (tsoK k)) [sockG A { k with smp := sm }]) := sockTso_ct A { k with smp := sm } h1
  have kTk := bufTakeOk_ct A.f k.buf.w k.buf.t k.buf.s k.buf.r (tsoK k) b0 (by omega) b2 ht1 (by omega)
  have hNb : 1 ≤ emitN k ∧ emitN k ≤ 100000 := by unfold emitN; omega
  have kBs : Ct Tryz.prog 148 #[.pointer (some ⟨A.o, 0, none⟩), .int .u64 k.buf.t, .int .u64 (k.buf.t + emitN k), .agg (sntV (smpSentV sm now)).toArray] [brdG A.o k.ps k.en A.oa] (fun v L => v = .int .i64 0 ∧ ∃ A', L = [brdG A.o (k.ps ++ [⟨k.buf.t, k.buf.t + emitN k, smpSentV sm now, false, false⟩]) (k.buf.t + emitN k) A']) := by
    have := brdSent_ct A.o k.ps k.en (k.buf.t + emitN k) A.oa (smpSentV sm now) (by omega) (by have := h.en; omega)
    rw [h.en] at this ⊢
    exact this
  have kS := mdlState_ct A.m k.mdl
  obtain ⟨r0, r1⟩ := h.rate
  have kD := delayOf_ct (emitN k) k.mdl.rate (by omega) (by omega) r0 r1
  have hfin : ∀ {w0 w : World} {F : List Nat} {L : List Res} {oa : BrdA}, Sep w0 F (sockP A (emitK k now) :: bufR A.f k.buf.w (k.buf.t + emitN k) k.buf.s k.buf.r :: brdG A.o (k.ps ++ [⟨k.buf.t, k.buf.t + emitN k, smpSentV sm now, false, false⟩]) (k.buf.t + emitN k) oa :: smpR A.s sm :: mdlG A.m k.mdl :: L) w → Sep w0 F ([sockG { A with oa := oa } (emitK k now)] ++ L) w := fun {w0 w F L oa} h => by
    refine (sockOpen (A := { A with oa := oa }) (k := emitK k now)).2 ?_
    unfold emitK emitP
    rw [hsm]
    exact h
  rw [hsm] at kSm
  unfold emitS
  unfold emitK at hfin ⊢
  unfold emitN at *
  generalize hz : flightZ k.ps = fz at *
  rw [hsm] at hfin ⊢
  have eN : k.buf.t + min (tsoK k) (k.buf.w - k.buf.t) - k.buf.t = min (tsoK k) (k.buf.w - k.buf.t) := by omega
  obtain ⟨d0, d1⟩ := delayOf_bd (min (tsoK k) (k.buf.w - k.buf.t)) k.mdl.rate r0
  have hat := h.at'
  have hou := h.out
  have kA := satAdd_ct (max now k.at') (delayOf (min (tsoK k) (k.buf.w - k.buf.t)) k.mdl.rate) (by omega) (by omega) d0 (by omega)
  generalize emitP k now = ep at *
  generalize min (tsoK k) (k.buf.w - k.buf.t) = N at *
  generalize delayOf N k.mdl.rate = dl at *
  generalize satAdd (max now k.at') dl = nx at *
  intro w0 F L w hS
  simp only [List.cons_append, List.nil_append] at hS
  have hS := sockOpen.1 hS
  go_enter Tryz.func104, Tryz.ntmps104
  go_wp2_with (first | go_skip | (refine ck_storeAll hS rfl rfl rfl rfl (by (repeat (first | exact uH _ _ _ | apply uT)) <;> fail) (by rfl) rfl (by (try simp only [List.length_cons, List.length_nil, Nat.zero_add, Nat.reduceAdd]); decide +kernel) ?_; clear hS; intro w hS; simp only [Act.put, spA, spZ, spS]) | (refine ck_load hS rfl rfl rfl (by (repeat (first | exact mH _ | apply mT)) <;> fail) rfl (by decide +kernel) ?_; simp only [Act.put, spA, spZ, spS]) | (refine ck_store hS rfl rfl rfl (by constructor) (by (repeat (first | exact uH _ _ _ | apply uT)) <;> fail) (by simp <;> omega) rfl (by decide +kernel) ?_; clear hS; intro w hS; simp only [Act.put, spA, spZ, spS] at hS ⊢) | (refine ck_alloc (t := 44) (v := segA ⟨0, 0, 0, 0, false⟩) (cs := segV ⟨0, 0, 0, 0, false⟩) hS rfl rfl (by kernel_rfl) rfl ?_; clear hS; intro r4 w hS0; have hS := hS0.rot5; clear hS0; simp only [Act.put, spA, spZ, spS]) | (have hS0 := sockOpen.2 hS; go_at_call 142; (refine Ct.callG (kM) hS0 ?_); clear hS hS0; intro w hS0; have hS := sockOpen.1 hS0; clear hS0) | (refine ck_region (fun _ => 0) (fun _ => []) [] hS (by kernel_rfl) (by decide +kernel) ?_ ?_; exact ⟨fun _ _ _ h => h.2, fun _ _ h => h⟩; clear hS; intro w hS _; (repeat (first | (refine ckT_max rfl rfl rfl rfl ?_; simp only [Act.put, spA, spZ, spS]) | (refine ckT_min rfl rfl rfl rfl ?_; simp only [Act.put, spA, spZ, spS]) | (apply wpT_pure rfl rfl; (intro _; go_simp; (try (go_ints; (try go_simp))); (first | (rw [decide_eq_true]; omega) | (rw [decide_eq_false]; omega) | rfl | rw [if_pos (by omega)])); simp only [Act.put, spA, spZ, spS]) | (refine ckT_load hS rfl rfl rfl (by simp <;> fail) (by (repeat (first | exact mH _ | apply mT)) <;> fail) rfl (by decide +kernel) ?_; simp only [Act.put, spA, spZ, spS]) | (refine ckT_store hS rfl rfl rfl (by constructor) (by (repeat (first | exact uH _ _ _ | apply uT)) <;> fail) (by simp <;> fail) rfl (by decide +kernel) (by simp <;> fail) ?_; clear hS; intro w hS; simp only [Act.put, spA, spZ, spS] at hS ⊢) )); refine wpT_nil ?_) )
  apply ck_treeM _ (fun r7 w => Sep w0 F (sockP A k :: bufR' A.f k.buf :: brdG A.o k.ps k.en A.oa :: smpR A.s sm :: mdlG A.m k.mdl :: pts r7 (sntV (smpSentV sm now)) 261 :: pts r4 (segV ⟨0, 0, 0, 0, false⟩) 44 :: L) w) (.seg [0, 1, 2, 3, 4, 5] (.br 6 (.br 7 (.seg [8, 9] .done) 8 (.seg [7, 9] .done)) 8 (.seg [6, 7, 9] .done))) (fun _ => A.b) (fun i => if i = 6 then [3] else if i = 8 then [3] else []) ([3]) hS (by kernel_rfl) (by decide +kernel)
  case h => intro w hS _; (repeat' (first | (refine wpG_opL rfl ?_) | (refine wpG_nil ?_) | (refine wpG_brL rfl rfl ?_ ?_) | (refine wpG_done ?_) | (refine ckT_max rfl rfl rfl rfl ?_; simp only [Act.put, spA, spZ, spS]) | (refine ckT_min rfl rfl rfl rfl ?_; simp only [Act.put, spA, spZ, spS]) | (apply wpT_pure rfl rfl; (intro _; go_simp; (try (go_ints; (try go_simp))); (first | (rw [decide_eq_true]; omega) | (rw [decide_eq_false]; omega) | rfl | rw [if_pos (by omega)])); simp only [Act.put, spA, spZ, spS]) | (refine ckT_load hS rfl rfl rfl (by simp <;> fail) (by (repeat (first | exact mH _ | apply mT)) <;> fail) rfl (by decide +kernel) ?_; simp only [Act.put, spA, spZ, spS]) | (refine ckT_store hS rfl rfl rfl (by constructor) (by (repeat (first | exact uH _ _ _ | apply uT)) <;> fail) (by simp <;> fail) rfl (by decide +kernel) (by simp <;> fail) ?_; clear hS; intro w hS; simp only [Act.put, spA, spZ, spS] at hS ⊢) | (refine ckT_callG' (sockOpen.2 hS) rfl kF rfl (by kernel_rfl) rfl (by intro j hj w2 h2; have h3 := sockOpen.1 h2; clear h2; simp at hj; subst hj; exact (h3.holds (sockP A k) (by (repeat (first | exact mH _ | apply mT)) <;> fail)).trans (hS.holds (sockP A k) (by (repeat (first | exact mH _ | apply mT)) <;> fail)).symm) ?_; clear hS; intro w hS0; have hS := sockOpen.1 hS0; clear hS0; simp only [Act.put, spA, spZ, spS]) | (refine ckT_callUS hS rfl kSm (by (repeat (first | exact uH _ _ _ | apply uT)) <;> fail) rfl (by kernel_rfl) rfl rfl ?_; clear hS; intro w hS; simp only [Act.put, spA, spZ, spS]) | (refine ckT_alloc (t := 261) (v := .agg (sntV ⟨0, 0, 0, 0, false⟩).toArray) (cs := sntV ⟨0, 0, 0, 0, false⟩) hS rfl rfl (by kernel_rfl) rfl (fun _ _ => ⟨_, _, ((by (repeat (first | exact mH _ | apply mT)) <;> fail) : sockP A k ∈ _)⟩) ?_; clear hS; intro r7 w hS0; have hS := hS0.rot5; clear hS0; simp only [Act.put, spA, spZ, spS]) | (refine ckT_storeAll hS rfl rfl rfl rfl (by (repeat (first | exact uH _ _ _ | apply uT)) <;> fail) (by rfl) rfl (by (try simp only [List.length_cons, List.length_nil, Nat.zero_add, Nat.reduceAdd]); decide +kernel) (by simp <;> fail) ?_; clear hS; intro w hS; simp only [Act.put, spA, spZ, spS]))) <;> exact ⟨rfl, _, rfl, hS⟩
  clear hS
  intro r7 w hS
  go_wp2_with (first | go_skip  | (refine ck_load hS rfl rfl rfl (by (repeat (first | exact mH _ | apply mT)) <;> fail) rfl (by decide +kernel) ?_; simp only [Act.put, spA, spZ, spS]) | (refine ck_store hS rfl rfl rfl (by constructor) (by (repeat (first | exact uH _ _ _ | apply uT)) <;> fail) (by simp <;> omega) rfl (by decide +kernel) ?_; clear hS; intro w hS; simp only [Act.put, spA, spZ, spS] at hS ⊢)  | (refine ck_region (fun _ => 0) (fun _ => []) [] hS (by kernel_rfl) (by decide +kernel) ?_ ?_; exact ⟨fun _ _ _ h => h.2, fun _ _ h => h⟩; clear hS; intro w hS _; (repeat (first | (refine ckT_max rfl rfl rfl rfl ?_; simp only [Act.put, spA, spZ, spS]) | (refine ckT_min rfl rfl rfl rfl ?_; simp only [Act.put, spA, spZ, spS]) | (apply wpT_pure rfl rfl; (intro _; go_simp; (try (go_ints; (try go_simp))); (first | (rw [decide_eq_true]; omega) | (rw [decide_eq_false]; omega) | rfl | rw [if_pos (by omega)])); simp only [Act.put, spA, spZ, spS]) | (refine ckT_load hS rfl rfl rfl (by simp <;> fail) (by (repeat (first | exact mH _ | apply mT)) <;> fail) rfl (by decide +kernel) ?_; simp only [Act.put, spA, spZ, spS]) | (refine ckT_store hS rfl rfl rfl (by constructor) (by (repeat (first | exact uH _ _ _ | apply uT)) <;> fail) (by simp <;> fail) rfl (by decide +kernel) (by simp <;> fail) ?_; clear hS; intro w hS; simp only [Act.put, spA, spZ, spS] at hS ⊢) )); refine wpT_nil ?_) )
  apply ck_treeM _ (fun r8 w => Sep w0 F (sockP A k :: bufR' A.f k.buf :: brdG A.o k.ps k.en A.oa :: smpR A.s sm :: mdlG A.m k.mdl :: pts r8 [.int .u64 0, .int .u64 0] 269 :: pts r7 (sntV (smpSentV sm now)) 261 :: pts r4 (segV ⟨0, 0, 0, 0, false⟩) 44 :: L) w) (.seg [0, 1, 2, 3, 4] (.br 5 (.seg [6, 7, 8, 9, 10, 11] .done) 9 (.seg [5, 6, 7, 8, 10, 11] .done))) (fun i => if i = 4 then r7 else A.b) (fun i => if i = 9 then [3, 4] else []) ([3, 4]) hS (by kernel_rfl) (by decide +kernel)
  case h => intro w hS _; (repeat' (first | (refine wpG_opL rfl ?_) | (refine wpG_nil ?_) | (refine wpG_brL rfl rfl ?_ ?_) | (refine wpG_done ?_) | (refine ckT_max rfl rfl rfl rfl ?_; simp only [Act.put, spA, spZ, spS]) | (refine ckT_min rfl rfl rfl rfl ?_; simp only [Act.put, spA, spZ, spS]) | (apply wpT_pure rfl rfl; (intro _; go_simp; (try (go_ints; (try go_simp))); (first | (rw [decide_eq_true]; omega) | (rw [decide_eq_false]; omega) | rfl | rw [if_pos (by omega)])); simp only [Act.put, spA, spZ, spS]) | (refine ckT_load hS rfl rfl rfl (by simp <;> fail) (by (repeat (first | exact mH _ | apply mT)) <;> fail) rfl (by decide +kernel) ?_; simp only [Act.put, spA, spZ, spS]) | (refine ckT_store hS rfl rfl rfl (by constructor) (by (repeat (first | exact uH _ _ _ | apply uT)) <;> fail) (by simp <;> fail) rfl (by decide +kernel) (by simp <;> fail) ?_; clear hS; intro w hS; simp only [Act.put, spA, spZ, spS] at hS ⊢) | (refine ckT_loadAll hS rfl rfl rfl (by simp <;> fail) (by (repeat (first | exact mH _ | apply mT)) <;> fail) rfl (by (try simp only [List.length_cons, List.length_nil, Nat.zero_add, Nat.reduceAdd]); decide +kernel) ?_; simp only [Act.put, spA, spZ, spS]) | (refine ckT_callUS hS rfl (kAg _) (by (repeat (first | exact uH _ _ _ | apply uT)) <;> fail) rfl (by kernel_rfl) rfl rfl ?_; clear hS; intro w hS; simp only [Act.put, spA, spZ, spS]) | (refine ckT_alloc (t := 269) (v := .agg #[.int .u64 0, .int .u64 0]) (cs := [.int .u64 0, .int .u64 0]) hS rfl rfl (by kernel_rfl) rfl (by intro j hj; simp at hj; rcases hj with rfl | rfl; exact ⟨_, _, ((by (repeat (first | exact mH _ | apply mT)) <;> fail) : sockP A k ∈ _)⟩; exact ⟨_, 261, (by (repeat (first | exact mH _ | apply mT)) <;> fail)⟩) ?_; clear hS; intro r8 w hS0; have hS := hS0.rot5; clear hS0; simp only [Act.put, spA, spZ, spS]) | (refine ckT_storeAll hS rfl rfl rfl rfl (by (repeat (first | exact uH _ _ _ | apply uT)) <;> fail) (by rfl) rfl (by (try simp only [List.length_cons, List.length_nil, Nat.zero_add, Nat.reduceAdd]); decide +kernel) (by simp <;> fail) ?_; clear hS; intro w hS; simp only [Act.put, spA, spZ, spS]))) <;> exact ⟨rfl, _, rfl, hS⟩
  clear hS
  intro r8 w hS
  go_wp2_with (first | go_skip  | (refine ck_load hS rfl rfl rfl (by (repeat (first | exact mH _ | apply mT)) <;> fail) rfl (by decide +kernel) ?_; simp only [Act.put, spA, spZ, spS]) | (refine ck_store hS rfl rfl rfl (by constructor) (by (repeat (first | exact uH _ _ _ | apply uT)) <;> fail) (by simp <;> omega) rfl (by decide +kernel) ?_; clear hS; intro w hS; simp only [Act.put, spA, spZ, spS] at hS ⊢)  | (refine ck_region (fun _ => 0) (fun _ => []) [] hS (by kernel_rfl) (by decide +kernel) ?_ ?_; exact ⟨fun _ _ _ h => h.2, fun _ _ h => h⟩; clear hS; intro w hS _; (repeat (first | (refine ckT_max rfl rfl rfl rfl ?_; simp only [Act.put, spA, spZ, spS]) | (refine ckT_min rfl rfl rfl rfl ?_; simp only [Act.put, spA, spZ, spS]) | (apply wpT_pure rfl rfl; (intro _; go_simp; (try (go_ints; (try go_simp))); (first | (rw [decide_eq_true]; omega) | (rw [decide_eq_false]; omega) | rfl | rw [if_pos (by omega)])); simp only [Act.put, spA, spZ, spS]) | (refine ckT_load hS rfl rfl rfl (by simp <;> fail) (by (repeat (first | exact mH _ | apply mT)) <;> fail) rfl (by decide +kernel) ?_; simp only [Act.put, spA, spZ, spS]) | (refine ckT_store hS rfl rfl rfl (by constructor) (by (repeat (first | exact uH _ _ _ | apply uT)) <;> fail) (by simp <;> fail) rfl (by decide +kernel) (by simp <;> fail) ?_; clear hS; intro w hS; simp only [Act.put, spA, spZ, spS] at hS ⊢) )); refine wpT_nil ?_) | (refine ck_region (fun _ => A.b) (fun i => if i = 5 then [3] else []) ([3]) hS (by kernel_rfl) (by decide +kernel) ?_ ?_; exact ⟨fun _ _ _ h => h.2, fun _ _ h => h⟩; clear hS; intro w hS _; (repeat (first | (refine ckT_max rfl rfl rfl rfl ?_; simp only [Act.put, spA, spZ, spS]) | (refine ckT_min rfl rfl rfl rfl ?_; simp only [Act.put, spA, spZ, spS]) | (apply wpT_pure rfl rfl; (intro _; go_simp; (try (go_ints; (try go_simp))); (first | (rw [decide_eq_true]; omega) | (rw [decide_eq_false]; omega) | rfl | rw [if_pos (by omega)])); simp only [Act.put, spA, spZ, spS]) | (refine ckT_load hS rfl rfl rfl (by simp <;> fail) (by (repeat (first | exact mH _ | apply mT)) <;> fail) rfl (by decide +kernel) ?_; simp only [Act.put, spA, spZ, spS]) | (refine ckT_store hS rfl rfl rfl (by constructor) (by (repeat (first | exact uH _ _ _ | apply uT)) <;> fail) (by simp <;> fail) rfl (by decide +kernel) (by simp <;> fail) ?_; clear hS; intro w hS; simp only [Act.put, spA, spZ, spS] at hS ⊢) | (refine ckT_callG' ((sockOpen (A := A) (k := { k with smp := sm })).2 hS) rfl kT rfl (by kernel_rfl) rfl (by intro j hj w2 h2; have h3 := (sockOpen (A := A) (k := { k with smp := sm })).1 h2; clear h2; simp at hj; subst hj; exact (h3.holds (sockP A k) (by (repeat (first | exact mH _ | apply mT)) <;> fail)).trans (hS.holds (sockP A k) (by (repeat (first | exact mH _ | apply mT)) <;> fail)).symm) ?_; clear hS; intro w hS0; have hS := (sockOpen (A := A) (k := { k with smp := sm })).1 hS0; clear hS0; simp only [Act.put, spA, spZ, spS]) | (refine ckT_callUS hS rfl kTk (by (repeat (first | exact uH _ _ _ | apply uT)) <;> fail) rfl (by kernel_rfl) rfl rfl ?_; clear hS; intro w hS; simp only [Act.put, spA, spZ, spS]) | (refine ckT_storeAll hS rfl rfl rfl rfl (by (repeat (first | exact uH _ _ _ | apply uT)) <;> fail) (by rfl) rfl (by (try simp only [List.length_cons, List.length_nil, Nat.zero_add, Nat.reduceAdd]); decide +kernel) (by simp <;> fail) ?_; clear hS; intro w hS; simp only [Act.put, spA, spZ, spS]))); refine wpT_nil ?_))
  (refine ck_region (fun _ => 0) (fun _ => []) ([]) hS (by kernel_rfl) (by decide +kernel) ?_ ?_; exact ⟨fun _ _ _ h => h.2, fun _ _ h => h⟩; clear hS; intro w hS _; (repeat (first | (refine ckT_max rfl rfl rfl rfl ?_; simp only [Act.put, spA, spZ, spS]) | (refine ckT_min rfl rfl rfl rfl ?_; simp only [Act.put, spA, spZ, spS]) | (apply wpT_pure rfl rfl; (intro _; go_simp; (try (go_ints; (try go_simp))); (first | (rw [decide_eq_true]; omega) | (rw [decide_eq_false]; omega) | rfl | rw [if_pos (by omega)])); simp only [Act.put, spA, spZ, spS]) | (refine ckT_load hS rfl rfl rfl (by simp <;> fail) (by (repeat (first | exact mH _ | apply mT)) <;> fail) rfl (by decide +kernel) ?_; simp only [Act.put, spA, spZ, spS]) | (refine ckT_store hS rfl rfl rfl (by constructor) (by (repeat (first | exact uH _ _ _ | apply uT)) <;> fail) (by simp <;> fail) rfl (by decide +kernel) (by simp <;> fail) ?_; clear hS; intro w hS; simp only [Act.put, spA, spZ, spS] at hS ⊢) | (refine ckT_loadAll hS rfl rfl rfl (by simp <;> fail) (by (repeat (first | exact mH _ | apply mT)) <;> fail) rfl (by (try simp only [List.length_cons, List.length_nil, Nat.zero_add, Nat.reduceAdd]); decide +kernel) ?_; simp only [Act.put, spA, spZ, spS]) | (refine ckT_call1N hS rfl kBs (by (repeat (first | exact rH _ _ | apply rT)) <;> fail) rfl (by kernel_rfl) rfl (by intro j hj; simp at hj) ?_; clear hS; rintro _ _ w ⟨rfl, oa, rfl⟩ hS; simp only [List.cons_append, List.nil_append] at hS; simp only [Act.put, spA, spZ, spS]))); refine wpT_nil ?_)
  go_wp2_with (first | go_skip  | (refine ck_load hS rfl rfl rfl (by (repeat (first | exact mH _ | apply mT)) <;> fail) rfl (by decide +kernel) ?_; simp only [Act.put, spA, spZ, spS]) | (refine ck_store hS rfl rfl rfl (by constructor) (by (repeat (first | exact uH _ _ _ | apply uT)) <;> fail) (by simp <;> omega) rfl (by decide +kernel) ?_; clear hS; intro w hS; simp only [Act.put, spA, spZ, spS] at hS ⊢)  | (refine ck_region (fun _ => 0) (fun _ => []) [] hS (by kernel_rfl) (by decide +kernel) ?_ ?_; exact ⟨fun _ _ _ h => h.2, fun _ _ h => h⟩; clear hS; intro w hS _; (repeat (first | (refine ckT_max rfl rfl rfl rfl ?_; simp only [Act.put, spA, spZ, spS]) | (refine ckT_min rfl rfl rfl rfl ?_; simp only [Act.put, spA, spZ, spS]) | (apply wpT_pure rfl rfl; (intro _; go_simp; (try (go_ints; (try go_simp))); (first | (rw [decide_eq_true]; omega) | (rw [decide_eq_false]; omega) | rfl | rw [if_pos (by omega)])); simp only [Act.put, spA, spZ, spS]) | (refine ckT_load hS rfl rfl rfl (by simp <;> fail) (by (repeat (first | exact mH _ | apply mT)) <;> fail) rfl (by decide +kernel) ?_; simp only [Act.put, spA, spZ, spS]) | (refine ckT_store hS rfl rfl rfl (by constructor) (by (repeat (first | exact uH _ _ _ | apply uT)) <;> fail) (by simp <;> fail) rfl (by decide +kernel) (by simp <;> fail) ?_; clear hS; intro w hS; simp only [Act.put, spA, spZ, spS] at hS ⊢) )); refine wpT_nil ?_) | (refine ck_region (fun i => if i = 3 then A.b else if i = 16 then A.b else r8) (fun i => if i = 20 then [3, 5, 7, 9, 16] else []) ([3, 5, 7, 9, 16]) hS (by kernel_rfl) (by decide +kernel) ?_ ?_; exact ⟨fun _ _ _ h => h.2, fun _ _ h => h⟩; clear hS; intro w hS _; (repeat (first | (refine ckT_max rfl rfl rfl rfl ?_; simp only [Act.put, spA, spZ, spS]) | (refine ckT_min rfl rfl rfl rfl ?_; simp only [Act.put, spA, spZ, spS]) | (apply wpT_pure rfl rfl; (intro _; go_simp; (try (go_ints; (try go_simp))); (first | (rw [decide_eq_true]; omega) | (rw [decide_eq_false]; omega) | rfl | rw [if_pos (by omega)])); simp only [Act.put, spA, spZ, spS]) | (refine ckT_load hS rfl rfl rfl (by simp <;> fail) (by (repeat (first | exact mH _ | apply mT)) <;> fail) rfl (by decide +kernel) ?_; simp only [Act.put, spA, spZ, spS]) | (refine ckT_store hS rfl rfl rfl (by constructor) (by (repeat (first | exact uH _ _ _ | apply uT)) <;> fail) (by simp <;> fail) rfl (by decide +kernel) (by simp <;> fail) ?_; clear hS; intro w hS; simp only [Act.put, spA, spZ, spS] at hS ⊢) | (refine ckT_alloc (t := 44) (v := segA ⟨0, 0, 0, 0, false⟩) (cs := segV ⟨0, 0, 0, 0, false⟩) hS rfl rfl (by kernel_rfl) rfl (by intro j hj; simp at hj; rcases hj with rfl | rfl | rfl | rfl | rfl <;> first | exact ⟨_, _, ((by (repeat (first | exact mH _ | apply mT)) <;> fail) : sockP A { k with smp := sm } ∈ _)⟩ | exact ⟨_, 269, (by (repeat (first | exact mH _ | apply mT)) <;> fail)⟩) ?_; clear hS; intro t10 w hS; simp only [Act.put, spA, spZ, spS]) | (refine ckT_storeAll hS rfl rfl rfl rfl (by (repeat (first | exact uH _ _ _ | apply uT)) <;> fail) (by rfl) rfl (by (try simp only [List.length_cons, List.length_nil, Nat.zero_add, Nat.reduceAdd]); decide +kernel) (by simp <;> fail) ?_; clear hS; intro w hS; simp only [Act.put, spA, spZ, spS]))); refine wpT_nil ?_))
  go_wp2_with (first | go_skip | (refine ck_loadAll hS rfl rfl rfl (by (repeat (first | exact mH _ | apply mT)) <;> fail) rfl (by (try simp only [List.length_cons, List.length_nil, Nat.zero_add, Nat.reduceAdd]); decide +kernel) ?_; simp only [Act.put, spA, spZ, spS]) | (refine ck_storeAll hS rfl rfl rfl rfl (by (repeat (first | exact uH _ _ _ | apply uT)) <;> fail) (by rfl) rfl (by (try simp only [List.length_cons, List.length_nil, Nat.zero_add, Nat.reduceAdd]); decide +kernel) ?_; clear hS; intro w hS; simp only [Act.put, spA, spZ, spS]) | (refine ck_load hS rfl rfl rfl (by (repeat (first | exact mH _ | apply mT)) <;> fail) rfl (by decide +kernel) ?_; simp only [Act.put, spA, spZ, spS]) | (refine ck_store hS rfl rfl rfl (by constructor) (by (repeat (first | exact uH _ _ _ | apply uT)) <;> fail) (by simp <;> omega) rfl (by decide +kernel) ?_; clear hS; intro w hS; simp only [Act.put, spA, spZ, spS] at hS ⊢)  | (refine ck_region (fun _ => 0) (fun _ => []) [] hS (by kernel_rfl) (by decide +kernel) ?_ ?_; exact ⟨fun _ _ _ h => h.2, fun _ _ h => h⟩; clear hS; intro w hS _; (repeat (first | (refine ckT_max rfl rfl rfl rfl ?_; simp only [Act.put, spA, spZ, spS]) | (refine ckT_min rfl rfl rfl rfl ?_; simp only [Act.put, spA, spZ, spS]) | (apply wpT_pure rfl rfl; (intro _; go_simp; (try (go_ints; (try go_simp))); (first | (rw [decide_eq_true]; omega) | (rw [decide_eq_false]; omega) | rfl | rw [if_pos (by omega)])); simp only [Act.put, spA, spZ, spS]) | (refine ckT_load hS rfl rfl rfl (by simp <;> fail) (by (repeat (first | exact mH _ | apply mT)) <;> fail) rfl (by decide +kernel) ?_; simp only [Act.put, spA, spZ, spS]) | (refine ckT_store hS rfl rfl rfl (by constructor) (by (repeat (first | exact uH _ _ _ | apply uT)) <;> fail) (by simp <;> fail) rfl (by decide +kernel) (by simp <;> fail) ?_; clear hS; intro w hS; simp only [Act.put, spA, spZ, spS] at hS ⊢) )); refine wpT_nil ?_) | (refine ck_region (fun _ => t10) (fun i => if i = 9 then [2, 4] else if i = 11 then [2] else []) ([2, 4]) hS (by kernel_rfl) (by decide +kernel) ?_ ?_; exact ⟨fun _ _ _ h => h.2, fun _ _ h => h⟩; clear hS; intro w hS _; (repeat (first | (refine ckT_max rfl rfl rfl rfl ?_; simp only [Act.put, spA, spZ, spS]) | (refine ckT_min rfl rfl rfl rfl ?_; simp only [Act.put, spA, spZ, spS]) | (apply wpT_pure rfl rfl; (intro _; go_simp; (try (go_ints; (try go_simp))); (first | (rw [decide_eq_true]; omega) | (rw [decide_eq_false]; omega) | rfl | rw [if_pos (by omega)])); simp only [Act.put, spA, spZ, spS]) | (refine ckT_load hS rfl rfl rfl (by simp <;> fail) (by (repeat (first | exact mH _ | apply mT)) <;> fail) rfl (by decide +kernel) ?_; simp only [Act.put, spA, spZ, spS]) | (refine ckT_store hS rfl rfl rfl (by constructor) (by (repeat (first | exact uH _ _ _ | apply uT)) <;> fail) (by simp <;> fail) rfl (by decide +kernel) (by simp <;> fail) ?_; clear hS; intro w hS; simp only [Act.put, spA, spZ, spS] at hS ⊢) | (refine ckT_callS hS rfl kS (by (repeat (first | exact uH _ _ _ | apply uT)) <;> fail) rfl (by kernel_rfl) rfl (fun j _ => ⟨_, 44, (by (repeat (first | exact mH _ | apply mT)) <;> fail)⟩) ?_; clear hS; intro w hS; simp only [Act.put, spA, spZ, spS]) | (refine ckT_call0 hS rfl kD rfl (by kernel_rfl) rfl (by intro j hj; simp at hj; subst hj; exact .inr ⟨_, 44, (by (repeat (first | exact mH _ | apply mT)) <;> fail), (by (repeat (first | exact mH _ | apply mT)) <;> fail)⟩) ?_; clear hS; intro w hS; simp only [Act.put, spA, spZ, spS]) | (refine ckT_call0 hS rfl (kA) rfl (by kernel_rfl) rfl (by simp <;> fail) ?_; clear hS; intro w hS; simp only [Act.put, spA, spZ, spS]))); refine wpT_nil ?_))
  have c1 := (hS.bring (r := pts t10 [.int .i64 k.id, .int .u64 k.buf.t, .int .i64 N, .int .u64 (max now k.at'), .bool false] 44) (by (repeat (first | exact rH _ _ | apply rT)) <;> fail)).drop
  have c2 := (c1.bring (r := pts r8 [.int .u64 k.buf.t, .int .u64 (k.buf.t + N)] 269) (by (repeat (first | exact rH _ _ | apply rT)) <;> fail)).drop
  have c3 := (c2.bring (r := pts r7 (sntV (smpSentV sm now)) 261) (by (repeat (first | exact rH _ _ | apply rT)) <;> fail)).drop
  refine bodyPost_ret (ckRes_cell_tmp hS (cs := [.int .i64 k.id, .int .u64 k.buf.t, .int .i64 N, .int .u64 (max now k.at'), .bool false]) (b := r4) (T := 44) (by (repeat (first | exact mH _ | apply mT)) <;> fail) rfl rfl rfl (by (try simp only [List.length_cons, List.length_nil, Nat.zero_add, Nat.reduceAdd]); decide +kernel)) rfl ?_
  have c4 := (c3.bring (r := pts r4 [.int .i64 k.id, .int .u64 k.buf.t, .int .i64 N, .int .u64 (max now k.at'), .bool false] 44) (by (repeat (first | exact rH _ _ | apply rT)) <;> fail)).drop
  have c5 := c4.bring (r := bufR A.f k.buf.w (k.buf.t + N) k.buf.s k.buf.r) (by (repeat (first | exact rH _ _ | apply rT)) <;> fail)
  exact ⟨_, ⟨rfl, oa, rfl⟩, hfin (c5.pick (by (repeat (first | exact Pick.refl _ | (apply Pick.take; ((repeat (first | exact rH _ _ | apply rT)) <;> fail)) | (apply Pick.drop)))))⟩
end
end Go.Proofs.YtcegknecikbbkaaGreat

/- A machine: a socket's segments go into the queue. -/
set_option linter.unusedVariables false
set_option linter.unusedSimpArgs false
set_option maxRecDepth 4000
namespace Go.Proofs.YtcegknecikbbkaaGreat
open Go.RowKit
/-- What Emit does. -/
def emitM (k : SockM) (now : Int) : SockM × Int × SegM := if mayZ k = 0 then (emitK k now, 0, emitS k now) else (mayK k, mayZ k, idSeg)
theorem sockEmit_ct (A : SockA) (k : SockM) (now : Int) (h : sockOk k) (n0 : 0 ≤ now) (n1 : now ≤ 18446744073709551615) : Ct Tryz.prog 104 #[.pointer (some ⟨A.b, 0, none⟩), .int .u64 now] [sockG A k] (fun v L => v = .tuple #[segA (emitM k now).2.2, .int .i64 (emitM k now).2.1] ∧ ∃ oa, L = [sockG { A with oa := oa } (emitM k now).1]) := by
  unfold emitM
  by_cases hm : mayZ k = 0
  · rw [if_pos hm]
    exact sockEmitOk_ct A k now h hm n0 n1
  · rw [if_neg hm]
    exact (sockEmitNo_ct A k now h hm).mono fun v L ⟨h1, h2⟩ => ⟨h1, A.oa, h2⟩
def noteA (B : List (List Int)) (s : Nat) : List (List Int) := match B[s]? with
  | none => B
  | some c => B.set s ((c.set 7 ((c[7]?).getD 0 + 1)).set 1 ((c[1]?).getD 0 + 1))
def noteF (B : List (List Int)) (s f : Nat) : List (List Int) := match B[s]? with
  | none => B
  | some c => B.set s ((c.set 7 ((c[7]?).getD 0 - 1)).set (1 + f) ((c[1 + f]?).getD 0 + 1))
/-- Counts that are neither too great nor below nothing. -/
structure bookOk (B : List (List Int)) : Prop where
  ei : Eights B
  len : B.length = 8
  bd : ∀ c ∈ B, ∀ x ∈ c, 0 ≤ x ∧ x ≤ 1000000
theorem noteA_ct (b : Nat) (B : List (List Int)) (h : bookOk B) (s : Nat) (hs : s < 8) : Ct Tryz.prog 61 #[.pointer (some ⟨b, 0, none⟩), .int .i64 s, .int .i64 0] [ledR b B] (Gives (.int .i64 0) [ledR b (noteA B s)]) := by
  obtain ⟨c, hc⟩ : ∃ c, B[s]? = some c := ⟨_, List.getElem?_eq_getElem (by rw [h.len]; exact hs)⟩
  have c8 : c.length = 8 := h.ei c (List.mem_of_getElem? hc)
  obtain ⟨q, hq⟩ : ∃ q, c[7]? = some q := ⟨_, List.getElem?_eq_getElem (by omega)⟩
  obtain ⟨x, hx⟩ : ∃ x, c[1]? = some x := ⟨_, List.getElem?_eq_getElem (by omega)⟩
  have e : noteA B s = B.set s ((c.set 7 (q + 1)).set 1 (x + 1)) := by unfold noteA; rw [hc]; simp only [hq, hx, Option.getD_some]
  rw [e]
  have hm := List.mem_of_getElem? hc
  have q1 := h.bd c hm q (List.mem_of_getElem? hq)
  have x1 := h.bd c hm x (List.mem_of_getElem? hx)
  exact ledgerNoteAcc_ct b B s hs h.ei c hc q x hq hx q1.1 q1.2 x1.1 x1.2
theorem noteF_ct (b : Nat) (B : List (List Int)) (h : bookOk B) (s f : Nat) (hs : s < 8) (f1 : 1 ≤ f) (f5 : f ≤ 5) (hn : ∀ c, B[s]? = some c → c[7]? ≠ some 0) : Ct Tryz.prog 61 #[.pointer (some ⟨b, 0, none⟩), .int .i64 s, .int .i64 f] [ledR b B] (Gives (.int .i64 0) [ledR b (noteF B s f)]) := by
  obtain ⟨c, hc⟩ : ∃ c, B[s]? = some c := ⟨_, List.getElem?_eq_getElem (by rw [h.len]; exact hs)⟩
  have c8 : c.length = 8 := h.ei c (List.mem_of_getElem? hc)
  obtain ⟨q, hq⟩ : ∃ q, c[7]? = some q := ⟨_, List.getElem?_eq_getElem (by omega)⟩
  obtain ⟨x, hx⟩ : ∃ x, c[1 + f]? = some x := ⟨_, List.getElem?_eq_getElem (by omega)⟩
  have e : noteF B s f = B.set s ((c.set 7 (q - 1)).set (1 + f) (x + 1)) := by unfold noteF; rw [hc]; simp only [hq, hx, Option.getD_some]
  rw [e]
  have hm := List.mem_of_getElem? hc
  have q1 := h.bd c hm q (List.mem_of_getElem? hq)
  have x1 := h.bd c hm x (List.mem_of_getElem? hx)
  have q0 : q ≠ 0 := fun h0 => hn c hc (by rw [hq, h0])
  exact ledgerNoteOk_ct b B s f hs f1 f5 h.ei c hc q x hq hx (by omega) q1.2 x1.1 x1.2
/-- What must be so for a round of pump to be safe. -/
structure pumpOk (c : CfgM) (now : Int) (i : Nat) (k : SockM) (ds : DS) (B : List (List Int)) : Prop where
  so : sockOk k
  dk : dOk ds
  di : dIn ds
  dn : 0 ≤ ds.n
  bk : bookOk B
  id : k.id = (i : Int)
  sg : mayZ k = 0 → segOk (emitS k now)
open Classical in
/-- What pump does, as long as nothing is dropped. -/
noncomputable def pumpM (c : CfgM) (now : Int) (i : Nat) : Nat → SockM → DS → List (List Int) → Option (SockM × DS × List (List Int))
  | 0, _, _, _ => none
  | f + 1, k, ds, B => if pumpOk c now i k ds B then
      if (emitM k now).2.1 = 0 then
        (if (enqM c ds (emitM k now).2.2 now).1 = 0 then pumpM c now i f (emitM k now).1 (enqM c ds (emitM k now).2.2 now).2 (noteA B i) else none)
      else some ((emitM k now).1, ds, B)
    else none
set_option maxHeartbeats 4000000 in
theorem pump_ct (b : Nat) (c : CfgM) (cb : Nat) (now : Int) (n0 : 0 ≤ now) (n1 : now ≤ 18446744073709551615) (z0 : 0 ≤ c.horizon) (z1 : c.horizon ≤ 18446744073709551615) (sl : List (Option SkA)) (h8 : sl.length = 8) (qb lg : Nat) (i : Nat) (i8 : i < 8) (A : SockA) (k0 : SockM) (hi : sl[i]? = some (some ⟨A, k0⟩)) (ob : Nat) (k k' : SockM) (ds' : DS) (B B' : List (List Int)) (fuel : Nat) (q : QA) (hqc : q.c = c) (hp : pumpM c now i fuel k (absQ q) B = some (k', ds', B')) :
    Ct Tryz.prog 68 #[.pointer (some ⟨b, 0, none⟩), .int .i64 i, .pointer (some ⟨ob, 0, none⟩)] [mP b c cb sl qb lg, clkR cb now, sockG A k, queueG qb q, ledR lg B]
      (fun v L => v = .tuple #[] ∧ ∃ (A' : SockA) (q' : QA), A'.b = A.b ∧ absQ q' = ds' ∧ q'.c = c ∧ q'.lb = q.lb ∧ q'.tb = q.tb ∧ L = [mP b c cb sl qb lg, clkR cb now, sockG A' k', queueG qb q', ledR lg B']) := by
  have hms : (mC c cb sl qb lg)[10 + i]? = some (.pointer (some ⟨A.b, 0, none⟩)) := mC_s (c := c) (cb := cb) (qb := qb) (lg := lg) hi
  have hmq := mC_q (c := c) (cb := cb) (qb := qb) (lg := lg) h8
  have hml := mC_l (c := c) (cb := cb) (qb := qb) (lg := lg) h8
  have hlen := mC_len (c := c) (cb := cb) (qb := qb) (lg := lg) h8
  have kN := egNow_ct b c cb now sl qb lg
  clear hi h8
  intro w0 F L w hS
  simp only [List.cons_append, List.nil_append] at hS
  go_enter Tryz.func68, Tryz.ntmps68
  go_wp2_with (first | go_skip | (refine ck_load hS rfl rfl rfl (by (repeat (first | exact mH _ | apply mT)) <;> fail) rfl (by decide +kernel) ?_; simp only [Act.put, spA, spZ, spS]) | (refine ck_store hS rfl rfl rfl (by constructor) (by (repeat (first | exact uH _ _ _ | apply uT)) <;> fail) (by simp <;> omega) rfl (by decide +kernel) ?_; clear hS; intro w hS; simp only [Act.put, spA, spZ, spS] at hS ⊢)  | (refine ck_region (fun _ => 0) (fun _ => []) [] hS (by kernel_rfl) (by decide +kernel) ?_ ?_; exact ⟨fun _ _ _ h => h.2, fun _ _ h => h⟩; clear hS; intro w hS _; (repeat (first | (apply wpT_pure rfl rfl; (intro _; go_simp; (try (go_ints; (try go_simp))); (first | (rw [decide_eq_true]; omega) | (rw [decide_eq_false]; omega) | rfl | rw [if_pos (by omega)])); simp only [Act.put, spA, spZ, spS]) | (refine ckT_load hS rfl rfl rfl (by simp <;> fail) (by (repeat (first | exact mH _ | apply mT)) <;> fail) rfl (by decide +kernel) ?_; simp only [Act.put, spA, spZ, spS]) )); refine wpT_nil ?_))
  go_step3
  go_wp2_with (first | go_skip | (refine ck_load hS rfl rfl rfl (by (repeat (first | exact mH _ | apply mT)) <;> fail) rfl (by decide +kernel) ?_; simp only [Act.put, spA, spZ, spS]) | (refine ck_store hS rfl rfl rfl (by constructor) (by (repeat (first | exact uH _ _ _ | apply uT)) <;> fail) (by simp <;> omega) rfl (by decide +kernel) ?_; clear hS; intro w hS; simp only [Act.put, spA, spZ, spS] at hS ⊢) | (refine ck_load hS rfl rfl rfl (by (repeat (first | exact mH _ | apply mT)) <;> fail) hms (by decide +kernel) ?_; simp only [Act.put, spA, spZ, spS]) | (refine ck_region (fun _ => 0) (fun _ => []) [] hS (by kernel_rfl) (by decide +kernel) ?_ ?_; exact ⟨fun _ _ _ h => h.2, fun _ _ h => h⟩; clear hS; intro w hS _; (repeat (first | (apply wpT_pure rfl rfl; (intro _; go_simp; (try (go_ints; (try go_simp))); (first | (rw [decide_eq_true]; omega) | (rw [decide_eq_false]; omega) | rfl | rw [if_pos (by omega)])); simp only [Act.put, spA, spZ, spS]) | (refine ckT_load hS rfl rfl rfl (by simp <;> fail) (by (repeat (first | exact mH _ | apply mT)) <;> fail) rfl (by decide +kernel) ?_; simp only [Act.put, spA, spZ, spS]) )); refine wpT_nil ?_))
  go_step3
  go_wp2_with (first | go_skip | (refine ck_load hS rfl rfl rfl (by (repeat (first | exact mH _ | apply mT)) <;> fail) rfl (by decide +kernel) ?_; simp only [Act.put, spA, spZ, spS]) | (refine ck_store hS rfl rfl rfl (by constructor) (by (repeat (first | exact uH _ _ _ | apply uT)) <;> fail) (by simp <;> omega) rfl (by decide +kernel) ?_; clear hS; intro w hS; simp only [Act.put, spA, spZ, spS] at hS ⊢)  | (refine ck_region (fun _ => 0) (fun _ => []) [] hS (by kernel_rfl) (by decide +kernel) ?_ ?_; exact ⟨fun _ _ _ h => h.2, fun _ _ h => h⟩; clear hS; intro w hS _; (repeat (first | (apply wpT_pure rfl rfl; (intro _; go_simp; (try (go_ints; (try go_simp))); (first | (rw [decide_eq_true]; omega) | (rw [decide_eq_false]; omega) | rfl | rw [if_pos (by omega)])); simp only [Act.put, spA, spZ, spS]) | (refine ckT_load hS rfl rfl rfl (by simp <;> fail) (by (repeat (first | exact mH _ | apply mT)) <;> fail) rfl (by decide +kernel) ?_; simp only [Act.put, spA, spZ, spS]) )); refine wpT_nil ?_))
  go_loopg [] fuel (fun g wx => ∃ (A1 : SockA) (k1 : SockM) (q1 : QA) (B1 : List (List Int)), A1.b = A.b ∧ q1.c = c ∧ q1.lb = q.lb ∧ q1.tb = q.tb ∧ pumpM c now i g k1 (absQ q1) B1 = some (k', ds', B') ∧ Sep w0 F (mP b c cb sl qb lg :: clkR cb now :: sockG A1 k1 :: queueG qb q1 :: ledR lg B1 :: L) wx)
  case atStart => exact ⟨A, k, q, B, rfl, hqc, rfl, rfl, hp, hS⟩
  case round =>
    clear hS hqc hp
    obtain ⟨⟨b1, f1, o1, s1, oa1, m1⟩, k1, q1, B1, hb1, rfl, hlb, htb, hp, hS⟩ := hrel
    obtain rfl : b1 = A.b := hb1
    generalize wr = w at hS ⊢
    cases gk with
    | zero => cases hp
    | succ gk =>
      unfold pumpM at hp
      split at hp
      · rename_i hok
        obtain ⟨so, dk, di, dn, bk, kid, sg⟩ := hok
        have kE := sockEmit_ct ⟨A.b, f1, o1, s1, oa1, m1⟩ k1 now so n0 n1
        split at hp
        · rename_i he
          rw [he] at kE
          split at hp
          · rename_i hf
            have hme : mayZ k1 = 0 := by
              unfold emitM at he
              by_cases h : mayZ k1 = 0
              · exact h
              · rw [if_neg h] at he; exact absurd he h
            have hse : (emitM k1 now).2.2 = emitS k1 now := by unfold emitM; rw [if_pos hme]
            have kQ := qenq_ct qb q1 (emitM k1 now).2.2 now dk di (by rw [hse]; exact sg hme) n0 n1 z0 z1 dn
            have kL := noteA_ct lg B1 bk i i8
            rw [hf] at kQ
            generalize emitM k1 now = em at *
            obtain ⟨k2, e2, x2⟩ := em
            dsimp only at *
            clear hse hme sg so dk di dn bk kid he
            go_wp2_with (first | go_skip | (refine ck_load hS rfl rfl rfl (by (repeat (first | exact mH _ | apply mT)) <;> fail) hms (by decide +kernel) ?_; simp only [Act.put, spA, spZ, spS]) | (refine ck_load hS rfl rfl rfl (by (repeat (first | exact mH _ | apply mT)) <;> fail) hmq (by decide +kernel) ?_; simp only [Act.put, spA, spZ, spS]) | (refine ck_load hS rfl rfl rfl (by (repeat (first | exact mH _ | apply mT)) <;> fail) hml (by decide +kernel) ?_; simp only [Act.put, spA, spZ, spS]) | (refine ck_storeAll hS rfl rfl rfl rfl (by (repeat (first | exact uH _ _ _ | apply uT)) <;> fail) (by rfl) rfl (by (try simp only [List.length_cons, List.length_nil, Nat.zero_add, Nat.reduceAdd]); decide +kernel) ?_; clear hS; intro w hS; simp only [Act.put, spA, spZ, spS]) | (refine ck_load hS rfl rfl rfl (by (repeat (first | exact mH _ | apply mT)) <;> fail) rfl (by decide +kernel) ?_; simp only [Act.put, spA, spZ, spS]) | (refine ck_store hS rfl rfl rfl (by constructor) (by (repeat (first | exact uH _ _ _ | apply uT)) <;> fail) (by simp <;> omega) rfl (by decide +kernel) ?_; clear hS; intro w hS; simp only [Act.put, spA, spZ, spS] at hS ⊢) | (refine ck_alloc (t := 44) (v := segA ⟨0, 0, 0, 0, false⟩) (cs := segV ⟨0, 0, 0, 0, false⟩) hS rfl rfl (by kernel_rfl) rfl ?_; clear hS; intro x7 w hS; simp only [Act.put, spA, spZ, spS]) | (go_at_call 10; refine Ct.callP (kN) (by (repeat (first | exact Takes.nil _ | (apply Takes.cons; ((repeat (first | exact rH _ _ | apply rT)) <;> fail))))) hS ?_; clear hS; rintro _ _ w ⟨rfl, rfl⟩ hS; simp only [List.cons_append, List.nil_append] at hS) | (go_at_call 104; refine Ct.callP (kE) (by (repeat (first | exact Takes.nil _ | (apply Takes.cons; ((repeat (first | exact rH _ _ | apply rT)) <;> fail))))) hS ?_; clear hS; rintro _ _ w ⟨rfl, oa2, rfl⟩ hS; simp only [List.cons_append, List.nil_append] at hS) | (go_at_call 61; refine Ct.callP (kL) (by (repeat (first | exact Takes.nil _ | (apply Takes.cons; ((repeat (first | exact rH _ _ | apply rT)) <;> fail))))) hS ?_; clear hS; rintro _ _ w ⟨rfl, rfl⟩ hS; simp only [List.cons_append, List.nil_append] at hS) | (refine ck_region (fun _ => 0) (fun _ => []) [] hS (by kernel_rfl) (by decide +kernel) ?_ ?_; exact ⟨fun _ _ _ h => h.2, fun _ _ h => h⟩; clear hS; intro w hS _; (repeat (first | (apply wpT_pure rfl rfl; (intro _; go_simp; (try (go_ints; (try go_simp))); (first | (rw [decide_eq_true]; omega) | (rw [decide_eq_false]; omega) | rfl | rw [if_pos (by omega)])); simp only [Act.put, spA, spZ, spS]) | (refine ckT_load hS rfl rfl rfl (by simp <;> fail) (by (repeat (first | exact mH _ | apply mT)) <;> fail) rfl (by decide +kernel) ?_; simp only [Act.put, spA, spZ, spS]) )); refine wpT_nil ?_) | (refine ck_region (fun i => if i = 3 then b else x7) (fun i => if i = 6 then [3, 4] else []) ([3, 4]) hS (by kernel_rfl) (by decide +kernel) ?_ ?_; exact ⟨fun _ _ _ h => h.2, fun _ _ h => h⟩; clear hS; intro w hS _; (repeat (first | (apply wpT_pure rfl rfl; (intro _; go_simp; (try (go_ints; (try go_simp))); (first | (rw [decide_eq_true]; omega) | (rw [decide_eq_false]; omega) | rfl | rw [if_pos (by omega)])); simp only [Act.put, spA, spZ, spS]) | (refine ckT_load hS rfl rfl rfl (by simp <;> fail) (by (repeat (first | exact mH _ | apply mT)) <;> fail) rfl (by decide +kernel) ?_; simp only [Act.put, spA, spZ, spS]) | (refine ckT_load hS rfl rfl rfl (by simp <;> fail) (by (repeat (first | exact mH _ | apply mT)) <;> fail) hmq (by decide +kernel) ?_; simp only [Act.put, spA, spZ, spS]) | (refine ckT_loadAll hS rfl rfl rfl (by simp <;> fail) (by (repeat (first | exact mH _ | apply mT)) <;> fail) rfl (by (try simp only [List.length_cons, List.length_nil, Nat.zero_add, Nat.reduceAdd]); decide +kernel) ?_; simp only [Act.put, spA, spZ, spS]) | (refine ckT_callP hS rfl (kN) (by (repeat (first | exact Takes.nil _ | (apply Takes.cons; ((repeat (first | exact rH _ _ | apply rT)) <;> fail))))) rfl (by kernel_rfl) rfl ((by intro j hj; simp at hj; (first | subst hj | (rcases hj with rfl | rfl) | (rcases hj with rfl | rfl | rfl) | (rcases hj with rfl | rfl | rfl | rfl) | (rcases hj with rfl | rfl | rfl | rfl | rfl)) <;> exact .inr ⟨_, _, (by (repeat (first | exact mH _ | apply mT)) <;> fail), (by rintro _ _ ⟨rfl, rfl⟩; exact (by (repeat (first | exact mH _ | apply mT)) <;> fail))⟩)) ?_; clear hS; rintro _ _ w ⟨rfl, rfl⟩ hS; simp only [List.cons_append, List.nil_append] at hS; simp only [Act.put, spA, spZ, spS]) | (refine ckT_callP hS rfl (kQ) (by (repeat (first | exact Takes.nil _ | (apply Takes.cons; ((repeat (first | exact rH _ _ | apply rT)) <;> fail))))) rfl (by kernel_rfl) rfl ((by intro j hj; simp at hj)) ?_; clear hS; rintro _ _ w ⟨rfl, q2, hq2, hc2, hlb2, htb2, rfl⟩ hS; simp only [List.cons_append, List.nil_append] at hS; simp only [Act.put, spA, spZ, spS]))); refine wpT_nil ?_))
            go_roundg gk
            case rel => exact ⟨⟨A.b, f1, o1, s1, oa2, m1⟩, k2, q2, _, rfl, hc2, hlb2.trans hlb, htb2.trans htb, by rw [hq2]; exact hp, hS.pick (by (repeat (first | exact Pick.refl _ | (apply Pick.take; ((repeat (first | exact rH _ _ | apply rT)) <;> fail)) | (apply Pick.drop))))⟩
            case measure => omega
          · cases hp
        · rename_i he
          generalize emitM k1 now = em at *
          obtain ⟨k2, e2, x2⟩ := em
          dsimp only at *
          injection hp with hp
          injection hp with e1 hp
          injection hp with e4 e3
          subst e1 e4 e3
          have he' : (e2 == 0) = false := by simpa using he
          clear he sg so dk di dn bk kid
          go_wp2_with (first | go_skip | (refine ck_load hS rfl rfl rfl (by (repeat (first | exact mH _ | apply mT)) <;> fail) hms (by decide +kernel) ?_; simp only [Act.put, spA, spZ, spS]) | (refine ck_load hS rfl rfl rfl (by (repeat (first | exact mH _ | apply mT)) <;> fail) hmq (by decide +kernel) ?_; simp only [Act.put, spA, spZ, spS]) | (refine ck_load hS rfl rfl rfl (by (repeat (first | exact mH _ | apply mT)) <;> fail) hml (by decide +kernel) ?_; simp only [Act.put, spA, spZ, spS]) | (refine ck_storeAll hS rfl rfl rfl rfl (by (repeat (first | exact uH _ _ _ | apply uT)) <;> fail) (by rfl) rfl (by (try simp only [List.length_cons, List.length_nil, Nat.zero_add, Nat.reduceAdd]); decide +kernel) ?_; clear hS; intro w hS; simp only [Act.put, spA, spZ, spS]) | (refine ck_load hS rfl rfl rfl (by (repeat (first | exact mH _ | apply mT)) <;> fail) rfl (by decide +kernel) ?_; simp only [Act.put, spA, spZ, spS]) | (refine ck_store hS rfl rfl rfl (by constructor) (by (repeat (first | exact uH _ _ _ | apply uT)) <;> fail) (by simp <;> omega) rfl (by decide +kernel) ?_; clear hS; intro w hS; simp only [Act.put, spA, spZ, spS] at hS ⊢) | (refine ck_alloc (t := 44) (v := segA ⟨0, 0, 0, 0, false⟩) (cs := segV ⟨0, 0, 0, 0, false⟩) hS rfl rfl (by kernel_rfl) rfl ?_; clear hS; intro x7 w hS; simp only [Act.put, spA, spZ, spS]) | (go_at_call 10; refine Ct.callP (kN) (by (repeat (first | exact Takes.nil _ | (apply Takes.cons; ((repeat (first | exact rH _ _ | apply rT)) <;> fail))))) hS ?_; clear hS; rintro _ _ w ⟨rfl, rfl⟩ hS; simp only [List.cons_append, List.nil_append] at hS) | (go_at_call 104; refine Ct.callP (kE) (by (repeat (first | exact Takes.nil _ | (apply Takes.cons; ((repeat (first | exact rH _ _ | apply rT)) <;> fail))))) hS ?_; clear hS; rintro _ _ w ⟨rfl, oa2, rfl⟩ hS; simp only [List.cons_append, List.nil_append] at hS) | (refine ck_region (fun _ => 0) (fun _ => []) [] hS (by kernel_rfl) (by decide +kernel) ?_ ?_; exact ⟨fun _ _ _ h => h.2, fun _ _ h => h⟩; clear hS; intro w hS _; (repeat (first | (apply wpT_pure rfl rfl; (intro _; go_simp; (try (go_ints; (try go_simp))); (first | (rw [decide_eq_true]; omega) | (rw [decide_eq_false]; omega) | rfl | rw [if_pos (by omega)])); simp only [Act.put, spA, spZ, spS]) | (refine ckT_load hS rfl rfl rfl (by simp <;> fail) (by (repeat (first | exact mH _ | apply mT)) <;> fail) rfl (by decide +kernel) ?_; simp only [Act.put, spA, spZ, spS]) )); refine wpT_nil ?_) )
          refine bodyPost_end (results_none rfl _ _ _) rfl ?_
          exact ⟨_, ⟨rfl, ⟨A.b, f1, o1, s1, oa2, m1⟩, q1, rfl, rfl, rfl, hlb, htb, rfl⟩, (by simp only [List.cons_append, List.nil_append]; exact hS.pick (by (repeat (first | exact Pick.refl _ | (apply Pick.take; ((repeat (first | exact rH _ _ | apply rT)) <;> fail)) | (apply Pick.drop)))))⟩
      · cases hp
end Go.Proofs.YtcegknecikbbkaaGreat

/- The least key of a tree; the watchdog. -/
set_option linter.unusedVariables false
set_option linter.unusedSimpArgs false
set_option maxRecDepth 4000
namespace Go.Proofs.YtcegknecikbbkaaGreat
open Go.RowKit
def mnA (p : List (Int × Int)) : Int := match p with | [] => 0 | x :: _ => x.1
def mnB (p : List (Int × Int)) : Int := match p with | [] => 0 | x :: _ => x.2
def mnI (p : List (Int × Int)) : Bool := match p with | [] => false | _ :: _ => true
section
variable {P : Program} {w w0 : World} {F : List Nat} {L : List Res} {a : Act} {fn : Func} {b c n : Nat} {cs : List Value} {v : Value} {T U : TypeId} {x y : Nat} {t r : TypeId}
theorem ckRes_cN1 (hS : Sep w0 F L w) (hm : pts b cs T ∈ L) (hm2 : pts c [v] U ∈ L) (hr : fn.results = #[.cell x t, .cell y r]) (hx : a.tmps.getD x undef = .pointer (some ⟨b, 0, none⟩)) (hy : a.tmps.getD y undef = .pointer (some ⟨c, 0, none⟩))
    (hn : cs.length = n) (ht : ckAgg P t n = true) (ht2 : ckScalar P r = true) : (results fn a.tmps).run P w = .ok (.tuple #[.agg cs.toArray, v]) w := by
  rw [Array.getD_eq_getD_getElem?] at hx hy
  simp [results, hr, hx, hy, asAddr, Sem.run_bind, run_loadN (cs := cs) (off := 0) (vs := cs) ht (hS.holds _ hm) hn (fun j _ => by rw [Nat.zero_add]), run_load1 (cs := [v]) (off := 0) (v := v) ht2 (hS.holds _ hm2) rfl]
end
set_option maxHeartbeats 4000000 in
theorem treeMin_ct (tb : Nat) (t : TrA) (ps : List (Int × Int)) (hI : ∀ bx, IterCt Tryz.prog 116 #[.pointer (some ⟨bx, 0, none⟩)] encK ps [pts bx [.pointer (some ⟨tb, 0, none⟩)] 98, treeG tb t]) :
    Ct Tryz.prog 93 #[.pointer (some ⟨tb, 0, none⟩)] [treeG tb t] (Gives (.tuple #[.agg #[.int .u64 (mnA ps), .int .u64 (mnB ps)], .bool (mnI ps)]) [treeG tb t]) := by
  intro w0 F L w hS
  simp only [List.cons_append, List.nil_append] at hS
  refine calls_of_wpM Tryz.func93 rfl ?_
  simp only [Tryz.ntmps93, List.size_toArray, List.length_cons, List.length_nil, Nat.reduceAdd, Nat.reduceSub, Array.replicate_succ, Array.replicate_zero, List.push_toArray, List.append_toArray, List.nil_append, List.cons_append]
  go_wp2_with (first | go_skip  | (refine ck_load hS rfl rfl rfl (by (repeat (first | exact mH _ | apply mT)) <;> fail) rfl (by decide +kernel) ?_; simp only [Act.put, spA, spZ, spS]) | (refine ck_store hS rfl rfl rfl (by constructor) (by (repeat (first | exact uH _ _ _ | apply uT)) <;> fail) (by simp <;> omega) rfl (by decide +kernel) ?_; clear hS; intro w hS; simp only [Act.put, spA, spZ, spS] at hS ⊢) | (refine ck_alloc (t := 4) (v := .bool false) (cs := [.bool false]) hS rfl rfl (by kernel_rfl) rfl ?_; clear hS; intro x3 w hS; simp only [Act.put, spA, spZ, spS]) | (refine ck_alloc (t := 118) (v := .agg #[.int .u64 0, .int .u64 0]) (cs := [.int .u64 0, .int .u64 0]) hS rfl rfl (by kernel_rfl) rfl ?_; clear hS; intro x2 w hS; simp only [Act.put, spA, spZ, spS]) | (go_at_call 81; with_reducible refine Ct.callN (treeAll_ct _) hS ?_; clear hS; rintro _ _ w ⟨bx, rfl, rfl⟩ hS; simp only [List.cons_append, List.nil_append] at hS))
  have hS1 : Sep w0 F (grpR [pts x2 [.int .u64 (mnA []), .int .u64 (mnB [])] 118, pts x3 [.bool (mnI [])] 4] :: ([pts bx [.pointer (some ⟨tb, 0, none⟩)] 98, treeG tb t] ++ L)) w :=
    (hS.pick (M := pts x2 [.int .u64 0, .int .u64 0] 118 :: pts x3 [.bool false] 4 :: pts bx [.pointer (some ⟨tb, 0, none⟩)] 98 :: treeG tb t :: L) (by (repeat (first | exact Pick.refl _ | (apply Pick.take; ((repeat (first | exact rH _ _ | apply rT)) <;> fail)) | (apply Pick.drop))))).grp2
  clear hS
  refine ck_rangeFunc (B := fun (_ : Unit) (p : List (Int × Int)) => grpR [pts x2 [.int .u64 (mnA p), .int .u64 (mnB p)] 118, pts x3 [.bool (mnI p)] 4]) (go := fun _ => false) (A0 := ()) hS1 (hI bx) rfl (fun _ => run_enter (P := Tryz.prog) (f := 116) (by kernel_rfl)) (fun _ => rfl) ?round ?fin
  case round =>
    intro l pre x suf hx hok _ w0 F L w hS
    have hpre : pre = [] := by
      cases pre with
      | nil => rfl
      | cons y r => simp [okP] at hok
    subst hpre
    obtain ⟨x, f⟩ := x
    simp
    gi_wp2_with (first | (refine ckI_skip rfl ?_; simp only [Act.put, spA, spZ, spS]) | (refine ckI_alloc (t := 118) (v := .agg (List.toArray [.int .u64 0, .int .u64 0])) (cs := [.int .u64 0, .int .u64 0]) hS rfl rfl (by kernel_rfl) rfl ?_; clear hS; intro x4 w hS; simp only [Act.put, spA, spZ, spS]) | (refine ckI_storeAll hS rfl rfl rfl rfl (by (repeat (first | exact uH _ _ _ | apply uT)) <;> fail) (by rfl) rfl (by (try simp only [List.length_cons, List.length_nil, Nat.zero_add, Nat.reduceAdd]); decide +kernel) ?_; clear hS; intro w hS; simp only [Act.put, spA, spZ, spS]) | (refine ckI_load hS rfl rfl rfl (by (repeat (first | exact mH _ | apply mT)) <;> fail) rfl (by decide +kernel) ?_; simp only [Act.put, spA, spZ, spS]) | (refine ckI_store hS rfl rfl rfl (by constructor) (by (repeat (first | exact uH _ _ _ | apply uT)) <;> fail) (by simp <;> omega) rfl (by decide +kernel) ?_; clear hS; intro w hS; simp only [Act.put, spA, spZ, spS]) | (apply ckI_pure rfl rfl; (intro _; go_simp; (try (go_ints; (try go_simp))); (first | (rw [decide_eq_true]; omega) | (rw [decide_eq_false]; omega) | rfl | rw [if_pos (by omega)])); simp only [Act.put, spA, spZ, spS]))
    refine ⟨[pts x4 [.int .u64 x, .int .u64 f] 118], hS, ?_⟩
    clear hS
    intro L w hS1
    have hS := Sep.grp.2 (hS1.bring (r := grpR [pts x2 [.int .u64 (mnA []), .int .u64 (mnB [])] 118, pts x3 [.bool (mnI [])] 4]) (by (repeat (first | exact rH _ _ | apply rT)) <;> fail))
    clear hS1 hx hok
    simp only [List.cons_append, List.nil_append] at hS
    (repeat (first | (refine ckI_loadAll hS rfl rfl rfl (by (repeat (first | exact mH _ | apply mT)) <;> fail) rfl (by (try simp only [List.length_cons, List.length_nil, Nat.zero_add, Nat.reduceAdd]); decide +kernel) ?_; simp only [Act.put, spA, spZ, spS]) | (refine ckI_load hS rfl rfl rfl (by (repeat (first | exact mH _ | apply mT)) <;> fail) rfl (by decide +kernel) ?_; simp only [Act.put, spA, spZ, spS]) | (refine ckI_storeAll hS rfl rfl rfl rfl (by (repeat (first | exact uH _ _ _ | apply uT)) <;> fail) (by rfl) rfl (by (try simp only [List.length_cons, List.length_nil, Nat.zero_add, Nat.reduceAdd]); decide +kernel) ?_; clear hS; intro w hS; simp only [Act.put, spA, spZ, spS]) | (refine ckI_store hS rfl rfl rfl (by constructor) (by (repeat (first | exact uH _ _ _ | apply uT)) <;> fail) (by simp <;> omega) rfl (by decide +kernel) ?_; clear hS; intro w hS; simp only [Act.put, spA, spZ, spS]) | (refine ckI_skip rfl ?_; simp only [Act.put, spA, spZ, spS]) | (apply ckI_pure rfl rfl; (intro _; go_simp; (try (go_ints; (try go_simp))); (first | (rw [decide_eq_true]; omega) | (rw [decide_eq_false]; omega) | rfl | rw [if_pos (by omega)])); simp only [Act.put, spA, spZ, spS]) | go_values | gi_guarded | gi_step | gi_upon))
    exact ⟨rfl, (hS.pick (M := pts x2 [.int .u64 x, .int .u64 f] 118 :: pts x3 [.bool true] 4 :: L) (by (repeat (first | exact Pick.refl _ | (apply Pick.take; ((repeat (first | exact rH _ _ | apply rT)) <;> fail)) | (apply Pick.drop))))).grp2⟩
  case fin =>
    intro D _ w hS
    cases ps with
    | nil =>
      simp only [runP, okP, List.isEmpty_nil, Bool.true_or, if_true, List.cons_append, List.nil_append] at hS ⊢
      have k1 := Sep.grp.2 (hS.bring (r := grpR [pts x2 [.int .u64 (mnA []), .int .u64 (mnB [])] 118, pts x3 [.bool (mnI [])] 4]) (by (repeat (first | exact rH _ _ | apply rT)) <;> fail))
      clear hS
      have hS := k1
      clear k1
      simp only [List.cons_append, List.nil_append] at hS
      go_wp2_with (first | go_skip | (refine ck_load hS rfl rfl rfl (by (repeat (first | exact mH _ | apply mT)) <;> fail) rfl (by decide +kernel) ?_; simp only [Act.put, spA, spZ, spS]) | (refine ck_store hS rfl rfl rfl (by constructor) (by (repeat (first | exact uH _ _ _ | apply uT)) <;> fail) (by simp <;> omega) rfl (by decide +kernel) ?_; clear hS; intro w hS; simp only [Act.put, spA, spZ, spS] at hS ⊢) | (refine ck_storeAll hS rfl rfl rfl rfl (by (repeat (first | exact uH _ _ _ | apply uT)) <;> fail) (by rfl) rfl (by (try simp only [List.length_cons, List.length_nil, Nat.zero_add, Nat.reduceAdd]); decide +kernel) ?_; clear hS; intro w hS; simp only [Act.put, spA, spZ, spS]))
      exact ckM_end (.inr rfl) (hS.bring (r := objR D (.deferred (some []))) (by (repeat (first | exact rH _ _ | apply rT)) <;> fail)) rfl (fun w hS => ⟨ckRes_cN1 (b := x2) (cs := [.int .u64 0, .int .u64 0]) (c := x3) (v := .bool false) (T := 118) (U := 4) hS (by (repeat (first | exact mH _ | apply mT)) <;> fail) (by (repeat (first | exact mH _ | apply mT)) <;> fail) rfl rfl rfl rfl (by decide +kernel) (by decide +kernel), _, ⟨rfl, rfl⟩, hS.pick (M := treeG tb t :: L) (by (repeat (first | exact Pick.refl _ | (apply Pick.take; ((repeat (first | exact rH _ _ | apply rT)) <;> fail)) | (apply Pick.drop))))⟩)
    | cons x r =>
      obtain ⟨x, f⟩ := x
      have e : runP (fun _ : List (Int × Int) => false) [] ((x, f) :: r) = [(x, f)] := by simp [runP]
      rw [e] at hS ⊢
      have e2 : okP (fun _ : List (Int × Int) => false) [(x, f)] = false := rfl
      rw [e2]
      simp only [Bool.false_eq_true, if_false, List.cons_append, List.nil_append] at hS ⊢
      have k1 := Sep.grp.2 (hS.bring (r := grpR [pts x2 [.int .u64 (mnA [(x, f)]), .int .u64 (mnB [(x, f)])] 118, pts x3 [.bool (mnI [(x, f)])] 4]) (by (repeat (first | exact rH _ _ | apply rT)) <;> fail))
      clear hS
      have hS := k1
      clear k1
      simp only [List.cons_append, List.nil_append] at hS
      go_wp2_with (first | go_skip | (refine ck_load hS rfl rfl rfl (by (repeat (first | exact mH _ | apply mT)) <;> fail) rfl (by decide +kernel) ?_; simp only [Act.put, spA, spZ, spS]) | (refine ck_store hS rfl rfl rfl (by constructor) (by (repeat (first | exact uH _ _ _ | apply uT)) <;> fail) (by simp <;> omega) rfl (by decide +kernel) ?_; clear hS; intro w hS; simp only [Act.put, spA, spZ, spS] at hS ⊢) )
      exact ckM_end (.inr rfl) (hS.bring (r := objR D (.deferred (some []))) (by (repeat (first | exact rH _ _ | apply rT)) <;> fail)) rfl (fun w hS => ⟨ckRes_cN1 (n := 2) (b := x2) (cs := [.int .u64 x, .int .u64 f]) (c := x3) (v := .bool true) (T := 118) (U := 4) hS (by (repeat (first | exact mH _ | apply mT)) <;> fail) (by (repeat (first | exact mH _ | apply mT)) <;> fail) rfl rfl rfl rfl (by decide +kernel) (by decide +kernel), _, ⟨rfl, rfl⟩, hS.pick (M := treeG tb t :: L) (by (repeat (first | exact Pick.refl _ | (apply Pick.take; ((repeat (first | exact rH _ _ | apply rT)) <;> fail)) | (apply Pick.drop))))⟩)
theorem qdog_ct (b : Nat) (q : QA) (t : TrA) (h8 : q.fl.length = 8) (ps : List (Int × Int)) (hI : ∀ bx, IterCt Tryz.prog 116 #[.pointer (some ⟨bx, 0, none⟩)] encK ps [pts bx [.pointer (some ⟨q.tb, 0, none⟩)] 98, treeG q.tb t]) :
    Ct Tryz.prog 62 #[.pointer (some ⟨b, 0, none⟩)] [queueG b q, treeG q.tb t] (Gives (.tuple #[.int .u64 (mnA ps), .bool (mnI ps)]) [queueG b q, treeG q.tb t]) := by
  have kM := treeMin_ct q.tb t ps hI
  obtain ⟨c, fl, lb, tb, fr, ol, la, n⟩ := q
  dsimp only at *
  have htb := qC_tb (c := c) (lb := lb) (tb := tb) (n := n) h8
  clear hI
  intro w0 F L w hS
  simp only [List.cons_append, List.nil_append] at hS
  have hS := queueOpen.1 hS
  go_enter Tryz.func62, Tryz.ntmps62
  go_wp2_with (first | go_skip | (refine ck_load hS rfl rfl rfl (by (repeat (first | exact mH _ | apply mT)) <;> fail) rfl (by decide +kernel) ?_; simp only [Act.put, spA, spZ, spS]) | (refine ck_store hS rfl rfl rfl (by constructor) (by (repeat (first | exact uH _ _ _ | apply uT)) <;> fail) (by simp <;> omega) rfl (by decide +kernel) ?_; clear hS; intro w hS; simp only [Act.put, spA, spZ, spS] at hS ⊢) | (refine ck_load hS rfl rfl rfl (by (repeat (first | exact mH _ | apply mT)) <;> fail) htb (by decide +kernel) ?_; simp only [Act.put, spA, spZ, spS]) | (refine ck_storeAll hS rfl rfl rfl rfl (by (repeat (first | exact uH _ _ _ | apply uT)) <;> fail) (by rfl) rfl (by (try simp only [List.length_cons, List.length_nil, Nat.zero_add, Nat.reduceAdd]); decide +kernel) ?_; clear hS; intro w hS; simp only [Act.put, spA, spZ, spS]) | (go_at_call 93; (with_reducible refine Ct.callU (kM) (by (repeat (first | exact uH _ _ _ | apply uT)) <;> fail) hS ?_) <;> (first | (clear hS; intro w hS) | omega)) | (refine ck_alloc (t := 118) (v := .agg #[.int .u64 0, .int .u64 0]) (cs := [.int .u64 0, .int .u64 0]) hS rfl rfl (by kernel_rfl) rfl ?_; clear hS; intro x4 w hS; simp only [Act.put, spA, spZ, spS]))
  go_ret2
  exact ⟨_, ⟨rfl, rfl⟩, queueOpen.2 (hS.pick (M := qP b c fl lb tb n :: flowsR fl :: lstG lb fr ol la :: treeG tb t :: L) (by (repeat (first | exact Pick.refl _ | (apply Pick.take; ((repeat (first | exact rH _ _ | apply rT)) <;> fail)) | (apply Pick.drop)))))⟩
end Go.Proofs.YtcegknecikbbkaaGreat
