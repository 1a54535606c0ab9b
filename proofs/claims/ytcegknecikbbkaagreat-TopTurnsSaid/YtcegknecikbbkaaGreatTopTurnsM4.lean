/- TopTurns: what functions of the program come to: part 4 of 5. -/
import Derived.Test.YtcegknecikbbkaaGreatProg
import Derived.WalkKit
import Derived.WalkSpells
import Derived.WalkLawsBesides
import Derived.WalkMore
import Derived.Deep.LoopGhost
import Derived.Test.YtcegknecikbbkaaGreatTopTurnsM1
import Derived.Test.YtcegknecikbbkaaGreatTopTurnsM2
import Derived.Test.YtcegknecikbbkaaGreatTopTurnsM3
/- What rounds and its reference come to. -/
set_option linter.unusedVariables false
set_option linter.unusedSimpArgs false
set_option maxRecDepth 4000
namespace Go.Proofs.YtcegknecikbbkaaGreat
open Go.RowKit
abbrev smpV (a0 a1 a2 a3 a4 a5 a6 a7 : Int) (a8 : Bool) : Value := .agg #[.int .u64 a0, .int .u64 a1, .int .u64 a2, .int .u64 a3, .int .u64 a4, .int .u64 a5, .int .u64 a6, .int .u64 a7, .bool a8]
abbrev rndR (b : Nat) (n nx : Int) : Res := pts b [.int .u64 n, .int .u64 nx] 298
abbrev refRndR (b : Nat) (n nx : Int) : Res := pts b [.int .u64 n, .int .u64 nx] 213
theorem rndNew_ct : Ct Tryz.prog 130 #[] [] (fun v L => ∃ b, v = .pointer (some ⟨b, 0, none⟩) ∧ L = [rndR b 0 0]) := by
  intro w0 F L w hS
  simp only [List.cons_append, List.nil_append] at hS
  go_enter Tryz.func130, Tryz.ntmps130
  go_wp2_with (first | go_skip | (refine ck_box hS rfl rfl (by constructor) ?_; clear hS; intro nb w hS; simp only [Act.put, spA, spZ, spS]) )
  go_ret
  exact ⟨_, ⟨_, rfl, rfl⟩, hS⟩
section
variable (b : Nat) (n nx a0 a1 a2 a3 a4 a5 a6 a7 : Int) (a8 : Bool)
theorem rndCount_ct : Ct Tryz.prog 183 #[.pointer (some ⟨b, 0, none⟩)] [rndR b n nx] (Gives (.int .u64 n) [rndR b n nx]) := by
  intro w0 F L w hS
  simp only [List.cons_append, List.nil_append] at hS
  go_enter Tryz.func183, Tryz.ntmps183
  go_wp2_with (first | go_skip | (refine ck_load hS rfl rfl rfl (by (repeat (first | exact mH _ | apply mT)) <;> fail) rfl (by decide +kernel) ?_; simp only [Act.put, spA, spZ, spS]) )
  go_ret
  exact ⟨_, ⟨rfl, rfl⟩, hS⟩
theorem rndCountZ_ct : Ct Tryz.prog 183 #[.pointer none] [] (Gives (.int .u64 0) []) := by
  intro w0 F L w hS
  simp only [List.cons_append, List.nil_append] at hS
  go_enter Tryz.func183, Tryz.ntmps183
  go_wp2_with (first | go_skip | (refine ck_load hS rfl rfl rfl (by (repeat (first | exact mH _ | apply mT)) <;> fail) rfl (by decide +kernel) ?_; simp only [Act.put, spA, spZ, spS]) )
  go_ret
  exact ⟨_, ⟨rfl, rfl⟩, hS⟩
theorem rndUpdZ_ct : Ct Tryz.prog 239 #[.pointer none, smpV a0 a1 a2 a3 a4 a5 a6 a7 a8] [] (Gives (.bool false) []) := by
  intro w0 F L w hS
  simp only [List.cons_append, List.nil_append] at hS
  go_enter Tryz.func239, Tryz.ntmps239
  go_wp2_with (first | go_skip | (refine ck_load hS rfl rfl rfl (by (repeat (first | exact mH _ | apply mT)) <;> fail) rfl (by decide +kernel) ?_; simp only [Act.put, spA, spZ, spS]) | (refine ck_store hS rfl rfl rfl (by constructor) (by (repeat (first | exact uH _ _ _ | apply uT)) <;> fail) (by simp <;> omega) rfl (by decide +kernel) ?_; clear hS; intro w hS; simp only [Act.put, spA, spZ, spS] at hS ⊢) | (refine ck_box hS rfl rfl (by constructor) ?_; clear hS; intro nb w hS; simp only [Act.put, spA, spZ, spS])  | (refine ck_region (fun _ => 0) (fun _ => []) [] hS (by kernel_rfl) (by decide +kernel) ?_ ?_; exact ⟨fun _ _ _ h => h.2, fun _ _ h => h⟩; clear hS; intro w hS _; (repeat (first | (apply wpT_pure rfl rfl; (intro _; go_simp; (try (go_ints; (try go_simp))); (first | (rw [decide_eq_true]; omega) | (rw [decide_eq_false]; omega) | rfl | rw [if_pos (by omega)])); simp only [Act.put, spA, spZ, spS]) | (refine ckT_load hS rfl rfl rfl (by simp <;> fail) (by (repeat (first | exact mH _ | apply mT)) <;> fail) rfl (by decide +kernel) ?_; simp only [Act.put, spA, spZ, spS]) )); refine wpT_nil ?_))
  go_step3
  go_wp2_with (first | go_skip | (refine ck_load hS rfl rfl rfl (by (repeat (first | exact mH _ | apply mT)) <;> fail) rfl (by decide +kernel) ?_; simp only [Act.put, spA, spZ, spS]) | (refine ck_store hS rfl rfl rfl (by constructor) (by (repeat (first | exact uH _ _ _ | apply uT)) <;> fail) (by simp <;> omega) rfl (by decide +kernel) ?_; clear hS; intro w hS; simp only [Act.put, spA, spZ, spS] at hS ⊢) | (refine ck_box hS rfl rfl (by constructor) ?_; clear hS; intro nb w hS; simp only [Act.put, spA, spZ, spS])  | (refine ck_region (fun _ => 0) (fun _ => []) [] hS (by kernel_rfl) (by decide +kernel) ?_ ?_; exact ⟨fun _ _ _ h => h.2, fun _ _ h => h⟩; clear hS; intro w hS _; (repeat (first | (apply wpT_pure rfl rfl; (intro _; go_simp; (try (go_ints; (try go_simp))); (first | (rw [decide_eq_true]; omega) | (rw [decide_eq_false]; omega) | rfl | rw [if_pos (by omega)])); simp only [Act.put, spA, spZ, spS]) | (refine ckT_load hS rfl rfl rfl (by simp <;> fail) (by (repeat (first | exact mH _ | apply mT)) <;> fail) rfl (by decide +kernel) ?_; simp only [Act.put, spA, spZ, spS]) )); refine wpT_nil ?_))
  go_step3
  go_wp2_with (first | go_skip | (refine ck_load hS rfl rfl rfl (by (repeat (first | exact mH _ | apply mT)) <;> fail) rfl (by decide +kernel) ?_; simp only [Act.put, spA, spZ, spS]) | (refine ck_store hS rfl rfl rfl (by constructor) (by (repeat (first | exact uH _ _ _ | apply uT)) <;> fail) (by simp <;> omega) rfl (by decide +kernel) ?_; clear hS; intro w hS; simp only [Act.put, spA, spZ, spS] at hS ⊢) | (refine ck_box hS rfl rfl (by constructor) ?_; clear hS; intro nb w hS; simp only [Act.put, spA, spZ, spS])  | (refine ck_region (fun _ => 0) (fun _ => []) [] hS (by kernel_rfl) (by decide +kernel) ?_ ?_; exact ⟨fun _ _ _ h => h.2, fun _ _ h => h⟩; clear hS; intro w hS _; (repeat (first | (apply wpT_pure rfl rfl; (intro _; go_simp; (try (go_ints; (try go_simp))); (first | (rw [decide_eq_true]; omega) | (rw [decide_eq_false]; omega) | rfl | rw [if_pos (by omega)])); simp only [Act.put, spA, spZ, spS]) | (refine ckT_load hS rfl rfl rfl (by simp <;> fail) (by (repeat (first | exact mH _ | apply mT)) <;> fail) rfl (by decide +kernel) ?_; simp only [Act.put, spA, spZ, spS]) )); refine wpT_nil ?_))
  refine wp_loop_once ?_
  go_wp2_with (first | go_skip | (refine ck_load hS rfl rfl rfl (by (repeat (first | exact mH _ | apply mT)) <;> fail) rfl (by decide +kernel) ?_; simp only [Act.put, spA, spZ, spS]) | (refine ck_store hS rfl rfl rfl (by constructor) (by (repeat (first | exact uH _ _ _ | apply uT)) <;> fail) (by simp <;> omega) rfl (by decide +kernel) ?_; clear hS; intro w hS; simp only [Act.put, spA, spZ, spS] at hS ⊢) | (refine ck_box hS rfl rfl (by constructor) ?_; clear hS; intro nb w hS; simp only [Act.put, spA, spZ, spS])  | (refine ck_region (fun _ => 0) (fun _ => []) [] hS (by kernel_rfl) (by decide +kernel) ?_ ?_; exact ⟨fun _ _ _ h => h.2, fun _ _ h => h⟩; clear hS; intro w hS _; (repeat (first | (apply wpT_pure rfl rfl; (intro _; go_simp; (try (go_ints; (try go_simp))); (first | (rw [decide_eq_true]; omega) | (rw [decide_eq_false]; omega) | rfl | rw [if_pos (by omega)])); simp only [Act.put, spA, spZ, spS]) | (refine ckT_load hS rfl rfl rfl (by simp <;> fail) (by (repeat (first | exact mH _ | apply mT)) <;> fail) rfl (by decide +kernel) ?_; simp only [Act.put, spA, spZ, spS]) )); refine wpT_nil ?_))
  rw [Exit.noGoto_ret]
  go_ret
  exact ⟨_, ⟨rfl, rfl⟩, hS.drop⟩
theorem rndHit_ct (h5 : 0 < a5) (h2 : nx ≤ a2) (hn0 : 0 ≤ n) (hn1 : n < 1000000000000) : Ct Tryz.prog 239 #[.pointer (some ⟨b, 0, none⟩), smpV a0 a1 a2 a3 a4 a5 a6 a7 a8] [rndR b n nx] (Gives (.bool true) [rndR b (n + 1) a1]) := by
  intro w0 F L w hS
  simp only [List.cons_append, List.nil_append] at hS
  go_enter Tryz.func239, Tryz.ntmps239
  go_wp2_with (first | go_skip | (refine ck_load hS rfl rfl rfl (by (repeat (first | exact mH _ | apply mT)) <;> fail) rfl (by decide +kernel) ?_; simp only [Act.put, spA, spZ, spS]) | (refine ck_store hS rfl rfl rfl (by constructor) (by (repeat (first | exact uH _ _ _ | apply uT)) <;> fail) (by simp <;> omega) rfl (by decide +kernel) ?_; clear hS; intro w hS; simp only [Act.put, spA, spZ, spS] at hS ⊢) | (refine ck_box hS rfl rfl (by constructor) ?_; clear hS; intro nb w hS; simp only [Act.put, spA, spZ, spS])  | (refine ck_region (fun _ => 0) (fun _ => []) [] hS (by kernel_rfl) (by decide +kernel) ?_ ?_; exact ⟨fun _ _ _ h => h.2, fun _ _ h => h⟩; clear hS; intro w hS _; (repeat (first | (apply wpT_pure rfl rfl; (intro _; go_simp; (try (go_ints; (try go_simp))); (first | (rw [decide_eq_true]; omega) | (rw [decide_eq_false]; omega) | rfl | rw [if_pos (by omega)])); simp only [Act.put, spA, spZ, spS]) | (refine ckT_load hS rfl rfl rfl (by simp <;> fail) (by (repeat (first | exact mH _ | apply mT)) <;> fail) rfl (by decide +kernel) ?_; simp only [Act.put, spA, spZ, spS]) )); refine wpT_nil ?_))
  go_step3
  go_wp2_with (first | go_skip | (refine ck_load hS rfl rfl rfl (by (repeat (first | exact mH _ | apply mT)) <;> fail) rfl (by decide +kernel) ?_; simp only [Act.put, spA, spZ, spS]) | (refine ck_store hS rfl rfl rfl (by constructor) (by (repeat (first | exact uH _ _ _ | apply uT)) <;> fail) (by simp <;> omega) rfl (by decide +kernel) ?_; clear hS; intro w hS; simp only [Act.put, spA, spZ, spS] at hS ⊢) | (refine ck_box hS rfl rfl (by constructor) ?_; clear hS; intro nb w hS; simp only [Act.put, spA, spZ, spS])  | (refine ck_region (fun _ => 0) (fun _ => []) [] hS (by kernel_rfl) (by decide +kernel) ?_ ?_; exact ⟨fun _ _ _ h => h.2, fun _ _ h => h⟩; clear hS; intro w hS _; (repeat (first | (apply wpT_pure rfl rfl; (intro _; go_simp; (try (go_ints; (try go_simp))); (first | (rw [decide_eq_true]; omega) | (rw [decide_eq_false]; omega) | rfl | rw [if_pos (by omega)])); simp only [Act.put, spA, spZ, spS]) | (refine ckT_load hS rfl rfl rfl (by simp <;> fail) (by (repeat (first | exact mH _ | apply mT)) <;> fail) rfl (by decide +kernel) ?_; simp only [Act.put, spA, spZ, spS]) )); refine wpT_nil ?_))
  go_step3
  go_wp2_with (first | go_skip | (refine ck_load hS rfl rfl rfl (by (repeat (first | exact mH _ | apply mT)) <;> fail) rfl (by decide +kernel) ?_; simp only [Act.put, spA, spZ, spS]) | (refine ck_store hS rfl rfl rfl (by constructor) (by (repeat (first | exact uH _ _ _ | apply uT)) <;> fail) (by simp <;> omega) rfl (by decide +kernel) ?_; clear hS; intro w hS; simp only [Act.put, spA, spZ, spS] at hS ⊢) | (refine ck_box hS rfl rfl (by constructor) ?_; clear hS; intro nb w hS; simp only [Act.put, spA, spZ, spS])  | (refine ck_region (fun _ => 0) (fun _ => []) [] hS (by kernel_rfl) (by decide +kernel) ?_ ?_; exact ⟨fun _ _ _ h => h.2, fun _ _ h => h⟩; clear hS; intro w hS _; (repeat (first | (apply wpT_pure rfl rfl; (intro _; go_simp; (try (go_ints; (try go_simp))); (first | (rw [decide_eq_true]; omega) | (rw [decide_eq_false]; omega) | rfl | rw [if_pos (by omega)])); simp only [Act.put, spA, spZ, spS]) | (refine ckT_load hS rfl rfl rfl (by simp <;> fail) (by (repeat (first | exact mH _ | apply mT)) <;> fail) rfl (by decide +kernel) ?_; simp only [Act.put, spA, spZ, spS]) )); refine wpT_nil ?_))
  refine wp_loop_once ?_
  go_wp2_with (first | go_skip | (refine ck_load hS rfl rfl rfl (by (repeat (first | exact mH _ | apply mT)) <;> fail) rfl (by decide +kernel) ?_; simp only [Act.put, spA, spZ, spS]) | (refine ck_store hS rfl rfl rfl (by constructor) (by (repeat (first | exact uH _ _ _ | apply uT)) <;> fail) (by simp <;> omega) rfl (by decide +kernel) ?_; clear hS; intro w hS; simp only [Act.put, spA, spZ, spS] at hS ⊢) | (refine ck_box hS rfl rfl (by constructor) ?_; clear hS; intro nb w hS; simp only [Act.put, spA, spZ, spS])  | (refine ck_region (fun _ => 0) (fun _ => []) [] hS (by kernel_rfl) (by decide +kernel) ?_ ?_; exact ⟨fun _ _ _ h => h.2, fun _ _ h => h⟩; clear hS; intro w hS _; (repeat (first | (apply wpT_pure rfl rfl; (intro _; go_simp; (try (go_ints; (try go_simp))); (first | (rw [decide_eq_true]; omega) | (rw [decide_eq_false]; omega) | rfl | rw [if_pos (by omega)])); simp only [Act.put, spA, spZ, spS]) | (refine ckT_load hS rfl rfl rfl (by simp <;> fail) (by (repeat (first | exact mH _ | apply mT)) <;> fail) rfl (by decide +kernel) ?_; simp only [Act.put, spA, spZ, spS]) )); refine wpT_nil ?_))
  rw [Exit.noGoto_ret]
  go_ret
  exact ⟨_, ⟨rfl, rfl⟩, hS.drop⟩
theorem rndMiss1_ct (h5 : a5 ≤ 0) : Ct Tryz.prog 239 #[.pointer (some ⟨b, 0, none⟩), smpV a0 a1 a2 a3 a4 a5 a6 a7 a8] [rndR b n nx] (Gives (.bool false) [rndR b n nx]) := by
  intro w0 F L w hS
  simp only [List.cons_append, List.nil_append] at hS
  go_enter Tryz.func239, Tryz.ntmps239
  go_wp2_with (first | go_skip | (refine ck_load hS rfl rfl rfl (by (repeat (first | exact mH _ | apply mT)) <;> fail) rfl (by decide +kernel) ?_; simp only [Act.put, spA, spZ, spS]) | (refine ck_store hS rfl rfl rfl (by constructor) (by (repeat (first | exact uH _ _ _ | apply uT)) <;> fail) (by simp <;> omega) rfl (by decide +kernel) ?_; clear hS; intro w hS; simp only [Act.put, spA, spZ, spS] at hS ⊢) | (refine ck_box hS rfl rfl (by constructor) ?_; clear hS; intro nb w hS; simp only [Act.put, spA, spZ, spS])  | (refine ck_region (fun _ => 0) (fun _ => []) [] hS (by kernel_rfl) (by decide +kernel) ?_ ?_; exact ⟨fun _ _ _ h => h.2, fun _ _ h => h⟩; clear hS; intro w hS _; (repeat (first | (apply wpT_pure rfl rfl; (intro _; go_simp; (try (go_ints; (try go_simp))); (first | (rw [decide_eq_true]; omega) | (rw [decide_eq_false]; omega) | rfl | rw [if_pos (by omega)])); simp only [Act.put, spA, spZ, spS]) | (refine ckT_load hS rfl rfl rfl (by simp <;> fail) (by (repeat (first | exact mH _ | apply mT)) <;> fail) rfl (by decide +kernel) ?_; simp only [Act.put, spA, spZ, spS]) )); refine wpT_nil ?_))
  go_step3
  go_wp2_with (first | go_skip | (refine ck_load hS rfl rfl rfl (by (repeat (first | exact mH _ | apply mT)) <;> fail) rfl (by decide +kernel) ?_; simp only [Act.put, spA, spZ, spS]) | (refine ck_store hS rfl rfl rfl (by constructor) (by (repeat (first | exact uH _ _ _ | apply uT)) <;> fail) (by simp <;> omega) rfl (by decide +kernel) ?_; clear hS; intro w hS; simp only [Act.put, spA, spZ, spS] at hS ⊢) | (refine ck_box hS rfl rfl (by constructor) ?_; clear hS; intro nb w hS; simp only [Act.put, spA, spZ, spS])  | (refine ck_region (fun _ => 0) (fun _ => []) [] hS (by kernel_rfl) (by decide +kernel) ?_ ?_; exact ⟨fun _ _ _ h => h.2, fun _ _ h => h⟩; clear hS; intro w hS _; (repeat (first | (apply wpT_pure rfl rfl; (intro _; go_simp; (try (go_ints; (try go_simp))); (first | (rw [decide_eq_true]; omega) | (rw [decide_eq_false]; omega) | rfl | rw [if_pos (by omega)])); simp only [Act.put, spA, spZ, spS]) | (refine ckT_load hS rfl rfl rfl (by simp <;> fail) (by (repeat (first | exact mH _ | apply mT)) <;> fail) rfl (by decide +kernel) ?_; simp only [Act.put, spA, spZ, spS]) )); refine wpT_nil ?_))
  go_step3
  go_wp2_with (first | go_skip | (refine ck_load hS rfl rfl rfl (by (repeat (first | exact mH _ | apply mT)) <;> fail) rfl (by decide +kernel) ?_; simp only [Act.put, spA, spZ, spS]) | (refine ck_store hS rfl rfl rfl (by constructor) (by (repeat (first | exact uH _ _ _ | apply uT)) <;> fail) (by simp <;> omega) rfl (by decide +kernel) ?_; clear hS; intro w hS; simp only [Act.put, spA, spZ, spS] at hS ⊢) | (refine ck_box hS rfl rfl (by constructor) ?_; clear hS; intro nb w hS; simp only [Act.put, spA, spZ, spS])  | (refine ck_region (fun _ => 0) (fun _ => []) [] hS (by kernel_rfl) (by decide +kernel) ?_ ?_; exact ⟨fun _ _ _ h => h.2, fun _ _ h => h⟩; clear hS; intro w hS _; (repeat (first | (apply wpT_pure rfl rfl; (intro _; go_simp; (try (go_ints; (try go_simp))); (first | (rw [decide_eq_true]; omega) | (rw [decide_eq_false]; omega) | rfl | rw [if_pos (by omega)])); simp only [Act.put, spA, spZ, spS]) | (refine ckT_load hS rfl rfl rfl (by simp <;> fail) (by (repeat (first | exact mH _ | apply mT)) <;> fail) rfl (by decide +kernel) ?_; simp only [Act.put, spA, spZ, spS]) )); refine wpT_nil ?_))
  refine wp_loop_once ?_
  go_wp2_with (first | go_skip | (refine ck_load hS rfl rfl rfl (by (repeat (first | exact mH _ | apply mT)) <;> fail) rfl (by decide +kernel) ?_; simp only [Act.put, spA, spZ, spS]) | (refine ck_store hS rfl rfl rfl (by constructor) (by (repeat (first | exact uH _ _ _ | apply uT)) <;> fail) (by simp <;> omega) rfl (by decide +kernel) ?_; clear hS; intro w hS; simp only [Act.put, spA, spZ, spS] at hS ⊢) | (refine ck_box hS rfl rfl (by constructor) ?_; clear hS; intro nb w hS; simp only [Act.put, spA, spZ, spS])  | (refine ck_region (fun _ => 0) (fun _ => []) [] hS (by kernel_rfl) (by decide +kernel) ?_ ?_; exact ⟨fun _ _ _ h => h.2, fun _ _ h => h⟩; clear hS; intro w hS _; (repeat (first | (apply wpT_pure rfl rfl; (intro _; go_simp; (try (go_ints; (try go_simp))); (first | (rw [decide_eq_true]; omega) | (rw [decide_eq_false]; omega) | rfl | rw [if_pos (by omega)])); simp only [Act.put, spA, spZ, spS]) | (refine ckT_load hS rfl rfl rfl (by simp <;> fail) (by (repeat (first | exact mH _ | apply mT)) <;> fail) rfl (by decide +kernel) ?_; simp only [Act.put, spA, spZ, spS]) )); refine wpT_nil ?_))
  rw [Exit.noGoto_ret]
  go_ret
  exact ⟨_, ⟨rfl, rfl⟩, hS.drop⟩
theorem rndMiss2_ct (h5 : 0 < a5) (h2 : a2 < nx) : Ct Tryz.prog 239 #[.pointer (some ⟨b, 0, none⟩), smpV a0 a1 a2 a3 a4 a5 a6 a7 a8] [rndR b n nx] (Gives (.bool false) [rndR b n nx]) := by
  intro w0 F L w hS
  simp only [List.cons_append, List.nil_append] at hS
  go_enter Tryz.func239, Tryz.ntmps239
  go_wp2_with (first | go_skip | (refine ck_load hS rfl rfl rfl (by (repeat (first | exact mH _ | apply mT)) <;> fail) rfl (by decide +kernel) ?_; simp only [Act.put, spA, spZ, spS]) | (refine ck_store hS rfl rfl rfl (by constructor) (by (repeat (first | exact uH _ _ _ | apply uT)) <;> fail) (by simp <;> omega) rfl (by decide +kernel) ?_; clear hS; intro w hS; simp only [Act.put, spA, spZ, spS] at hS ⊢) | (refine ck_box hS rfl rfl (by constructor) ?_; clear hS; intro nb w hS; simp only [Act.put, spA, spZ, spS])  | (refine ck_region (fun _ => 0) (fun _ => []) [] hS (by kernel_rfl) (by decide +kernel) ?_ ?_; exact ⟨fun _ _ _ h => h.2, fun _ _ h => h⟩; clear hS; intro w hS _; (repeat (first | (apply wpT_pure rfl rfl; (intro _; go_simp; (try (go_ints; (try go_simp))); (first | (rw [decide_eq_true]; omega) | (rw [decide_eq_false]; omega) | rfl | rw [if_pos (by omega)])); simp only [Act.put, spA, spZ, spS]) | (refine ckT_load hS rfl rfl rfl (by simp <;> fail) (by (repeat (first | exact mH _ | apply mT)) <;> fail) rfl (by decide +kernel) ?_; simp only [Act.put, spA, spZ, spS]) )); refine wpT_nil ?_))
  go_step3
  go_wp2_with (first | go_skip | (refine ck_load hS rfl rfl rfl (by (repeat (first | exact mH _ | apply mT)) <;> fail) rfl (by decide +kernel) ?_; simp only [Act.put, spA, spZ, spS]) | (refine ck_store hS rfl rfl rfl (by constructor) (by (repeat (first | exact uH _ _ _ | apply uT)) <;> fail) (by simp <;> omega) rfl (by decide +kernel) ?_; clear hS; intro w hS; simp only [Act.put, spA, spZ, spS] at hS ⊢) | (refine ck_box hS rfl rfl (by constructor) ?_; clear hS; intro nb w hS; simp only [Act.put, spA, spZ, spS])  | (refine ck_region (fun _ => 0) (fun _ => []) [] hS (by kernel_rfl) (by decide +kernel) ?_ ?_; exact ⟨fun _ _ _ h => h.2, fun _ _ h => h⟩; clear hS; intro w hS _; (repeat (first | (apply wpT_pure rfl rfl; (intro _; go_simp; (try (go_ints; (try go_simp))); (first | (rw [decide_eq_true]; omega) | (rw [decide_eq_false]; omega) | rfl | rw [if_pos (by omega)])); simp only [Act.put, spA, spZ, spS]) | (refine ckT_load hS rfl rfl rfl (by simp <;> fail) (by (repeat (first | exact mH _ | apply mT)) <;> fail) rfl (by decide +kernel) ?_; simp only [Act.put, spA, spZ, spS]) )); refine wpT_nil ?_))
  go_step3
  go_wp2_with (first | go_skip | (refine ck_load hS rfl rfl rfl (by (repeat (first | exact mH _ | apply mT)) <;> fail) rfl (by decide +kernel) ?_; simp only [Act.put, spA, spZ, spS]) | (refine ck_store hS rfl rfl rfl (by constructor) (by (repeat (first | exact uH _ _ _ | apply uT)) <;> fail) (by simp <;> omega) rfl (by decide +kernel) ?_; clear hS; intro w hS; simp only [Act.put, spA, spZ, spS] at hS ⊢) | (refine ck_box hS rfl rfl (by constructor) ?_; clear hS; intro nb w hS; simp only [Act.put, spA, spZ, spS])  | (refine ck_region (fun _ => 0) (fun _ => []) [] hS (by kernel_rfl) (by decide +kernel) ?_ ?_; exact ⟨fun _ _ _ h => h.2, fun _ _ h => h⟩; clear hS; intro w hS _; (repeat (first | (apply wpT_pure rfl rfl; (intro _; go_simp; (try (go_ints; (try go_simp))); (first | (rw [decide_eq_true]; omega) | (rw [decide_eq_false]; omega) | rfl | rw [if_pos (by omega)])); simp only [Act.put, spA, spZ, spS]) | (refine ckT_load hS rfl rfl rfl (by simp <;> fail) (by (repeat (first | exact mH _ | apply mT)) <;> fail) rfl (by decide +kernel) ?_; simp only [Act.put, spA, spZ, spS]) )); refine wpT_nil ?_))
  refine wp_loop_once ?_
  go_wp2_with (first | go_skip | (refine ck_load hS rfl rfl rfl (by (repeat (first | exact mH _ | apply mT)) <;> fail) rfl (by decide +kernel) ?_; simp only [Act.put, spA, spZ, spS]) | (refine ck_store hS rfl rfl rfl (by constructor) (by (repeat (first | exact uH _ _ _ | apply uT)) <;> fail) (by simp <;> omega) rfl (by decide +kernel) ?_; clear hS; intro w hS; simp only [Act.put, spA, spZ, spS] at hS ⊢) | (refine ck_box hS rfl rfl (by constructor) ?_; clear hS; intro nb w hS; simp only [Act.put, spA, spZ, spS])  | (refine ck_region (fun _ => 0) (fun _ => []) [] hS (by kernel_rfl) (by decide +kernel) ?_ ?_; exact ⟨fun _ _ _ h => h.2, fun _ _ h => h⟩; clear hS; intro w hS _; (repeat (first | (apply wpT_pure rfl rfl; (intro _; go_simp; (try (go_ints; (try go_simp))); (first | (rw [decide_eq_true]; omega) | (rw [decide_eq_false]; omega) | rfl | rw [if_pos (by omega)])); simp only [Act.put, spA, spZ, spS]) | (refine ckT_load hS rfl rfl rfl (by simp <;> fail) (by (repeat (first | exact mH _ | apply mT)) <;> fail) rfl (by decide +kernel) ?_; simp only [Act.put, spA, spZ, spS]) )); refine wpT_nil ?_))
  rw [Exit.noGoto_ret]
  go_ret
  exact ⟨_, ⟨rfl, rfl⟩, hS.drop⟩
/-- Whether a round begins. -/
def rndB (a2 a5 nx : Int) : Bool := decide (0 < a5 ∧ nx ≤ a2)
def rndN (a2 a5 n nx : Int) : Int := bif rndB a2 a5 nx then n + 1 else n
def rndX (a1 a2 a5 nx : Int) : Int := bif rndB a2 a5 nx then a1 else nx
theorem rndUpd_ct (hn0 : 0 ≤ n) (hn1 : n < 1000000000000) : Ct Tryz.prog 239 #[.pointer (some ⟨b, 0, none⟩), smpV a0 a1 a2 a3 a4 a5 a6 a7 a8] [rndR b n nx] (Gives (.bool (rndB a2 a5 nx)) [rndR b (rndN a2 a5 n nx) (rndX a1 a2 a5 nx)]) := by
  unfold rndN rndX
  by_cases h5 : 0 < a5
  · by_cases h2 : nx ≤ a2
    · rw [show rndB a2 a5 nx = true by simp [rndB, h5, h2]]; exact rndHit_ct _ _ _ _ _ _ _ _ _ _ _ _ h5 h2 hn0 hn1
    · rw [show rndB a2 a5 nx = false by simp [rndB, h5, h2]]; exact rndMiss2_ct _ _ _ _ _ _ _ _ _ _ _ _ h5 (by omega)
  · rw [show rndB a2 a5 nx = false by simp [rndB, h5]]; exact rndMiss1_ct _ _ _ _ _ _ _ _ _ _ _ _ (by omega)
theorem refRndHit_ct (h5 : 0 < a5) (h2 : nx ≤ a2) (hn0 : 0 ≤ n) (hn1 : n < 1000000000000) : Ct Tryz.prog 210 #[.pointer (some ⟨b, 0, none⟩), smpV a0 a1 a2 a3 a4 a5 a6 a7 a8] [refRndR b n nx] (Gives (.bool true) [refRndR b (n + 1) a1]) := by
  have h5' : (a5 == 0) = false := by simp; omega
  intro w0 F L w hS
  simp only [List.cons_append, List.nil_append] at hS
  go_enter Tryz.func210, Tryz.ntmps210
  go_wp2_with (first | go_skip | (refine ck_load hS rfl rfl rfl (by (repeat (first | exact mH _ | apply mT)) <;> fail) rfl (by decide +kernel) ?_; simp only [Act.put, spA, spZ, spS]) | (refine ck_store hS rfl rfl rfl (by constructor) (by (repeat (first | exact uH _ _ _ | apply uT)) <;> fail) (by simp <;> omega) rfl (by decide +kernel) ?_; clear hS; intro w hS; simp only [Act.put, spA, spZ, spS] at hS ⊢) | (refine ck_box hS rfl rfl (by constructor) ?_; clear hS; intro nb w hS; simp only [Act.put, spA, spZ, spS])  | (refine ck_region (fun _ => 0) (fun _ => []) [] hS (by kernel_rfl) (by decide +kernel) ?_ ?_; exact ⟨fun _ _ _ h => h.2, fun _ _ h => h⟩; clear hS; intro w hS _; (repeat (first | (apply wpT_pure rfl rfl; (intro _; go_simp; (try (go_ints; (try go_simp))); (first | (rw [decide_eq_true]; omega) | (rw [decide_eq_false]; omega) | rfl | rw [if_pos (by omega)])); simp only [Act.put, spA, spZ, spS]) | (refine ckT_load hS rfl rfl rfl (by simp <;> fail) (by (repeat (first | exact mH _ | apply mT)) <;> fail) rfl (by decide +kernel) ?_; simp only [Act.put, spA, spZ, spS]) | (refine wpT_skip rfl ?_; simp only [Act.put, spA, spZ, spS]) )); refine wpT_nil ?_))
  go_ret
  exact ⟨_, ⟨rfl, rfl⟩, hS.drop⟩
theorem refRndMiss1_ct (h5 : a5 = 0) : Ct Tryz.prog 210 #[.pointer (some ⟨b, 0, none⟩), smpV a0 a1 a2 a3 a4 a5 a6 a7 a8] [refRndR b n nx] (Gives (.bool false) [refRndR b n nx]) := by
  subst h5
  intro w0 F L w hS
  simp only [List.cons_append, List.nil_append] at hS
  go_enter Tryz.func210, Tryz.ntmps210
  go_wp2_with (first | go_skip | (refine ck_load hS rfl rfl rfl (by (repeat (first | exact mH _ | apply mT)) <;> fail) rfl (by decide +kernel) ?_; simp only [Act.put, spA, spZ, spS]) | (refine ck_store hS rfl rfl rfl (by constructor) (by (repeat (first | exact uH _ _ _ | apply uT)) <;> fail) (by simp <;> omega) rfl (by decide +kernel) ?_; clear hS; intro w hS; simp only [Act.put, spA, spZ, spS] at hS ⊢) | (refine ck_box hS rfl rfl (by constructor) ?_; clear hS; intro nb w hS; simp only [Act.put, spA, spZ, spS])  | (refine ck_region (fun _ => 0) (fun _ => []) [] hS (by kernel_rfl) (by decide +kernel) ?_ ?_; exact ⟨fun _ _ _ h => h.2, fun _ _ h => h⟩; clear hS; intro w hS _; (repeat (first | (apply wpT_pure rfl rfl; (intro _; go_simp; (try (go_ints; (try go_simp))); (first | (rw [decide_eq_true]; omega) | (rw [decide_eq_false]; omega) | rfl | rw [if_pos (by omega)])); simp only [Act.put, spA, spZ, spS]) | (refine ckT_load hS rfl rfl rfl (by simp <;> fail) (by (repeat (first | exact mH _ | apply mT)) <;> fail) rfl (by decide +kernel) ?_; simp only [Act.put, spA, spZ, spS]) | (refine wpT_skip rfl ?_; simp only [Act.put, spA, spZ, spS]) )); refine wpT_nil ?_))
  go_ret
  exact ⟨_, ⟨rfl, rfl⟩, hS.drop⟩
theorem refRndMiss2_ct (h5 : 0 < a5) (h2 : a2 < nx) : Ct Tryz.prog 210 #[.pointer (some ⟨b, 0, none⟩), smpV a0 a1 a2 a3 a4 a5 a6 a7 a8] [refRndR b n nx] (Gives (.bool false) [refRndR b n nx]) := by
  have h5' : (a5 == 0) = false := by simp; omega
  intro w0 F L w hS
  simp only [List.cons_append, List.nil_append] at hS
  go_enter Tryz.func210, Tryz.ntmps210
  go_wp2_with (first | go_skip | (refine ck_load hS rfl rfl rfl (by (repeat (first | exact mH _ | apply mT)) <;> fail) rfl (by decide +kernel) ?_; simp only [Act.put, spA, spZ, spS]) | (refine ck_store hS rfl rfl rfl (by constructor) (by (repeat (first | exact uH _ _ _ | apply uT)) <;> fail) (by simp <;> omega) rfl (by decide +kernel) ?_; clear hS; intro w hS; simp only [Act.put, spA, spZ, spS] at hS ⊢) | (refine ck_box hS rfl rfl (by constructor) ?_; clear hS; intro nb w hS; simp only [Act.put, spA, spZ, spS])  | (refine ck_region (fun _ => 0) (fun _ => []) [] hS (by kernel_rfl) (by decide +kernel) ?_ ?_; exact ⟨fun _ _ _ h => h.2, fun _ _ h => h⟩; clear hS; intro w hS _; (repeat (first | (apply wpT_pure rfl rfl; (intro _; go_simp; (try (go_ints; (try go_simp))); (first | (rw [decide_eq_true]; omega) | (rw [decide_eq_false]; omega) | rfl | rw [if_pos (by omega)])); simp only [Act.put, spA, spZ, spS]) | (refine ckT_load hS rfl rfl rfl (by simp <;> fail) (by (repeat (first | exact mH _ | apply mT)) <;> fail) rfl (by decide +kernel) ?_; simp only [Act.put, spA, spZ, spS]) | (refine wpT_skip rfl ?_; simp only [Act.put, spA, spZ, spS]) )); refine wpT_nil ?_))
  go_ret
  exact ⟨_, ⟨rfl, rfl⟩, hS.drop⟩
theorem refRndUpd_ct (h5 : 0 ≤ a5) (hn0 : 0 ≤ n) (hn1 : n < 1000000000000) : Ct Tryz.prog 210 #[.pointer (some ⟨b, 0, none⟩), smpV a0 a1 a2 a3 a4 a5 a6 a7 a8] [refRndR b n nx] (Gives (.bool (rndB a2 a5 nx)) [refRndR b (rndN a2 a5 n nx) (rndX a1 a2 a5 nx)]) := by
  unfold rndN rndX
  by_cases h5 : 0 < a5
  · by_cases h2 : nx ≤ a2
    · rw [show rndB a2 a5 nx = true by simp [rndB, h5, h2]]; exact refRndHit_ct _ _ _ _ _ _ _ _ _ _ _ _ h5 h2 hn0 hn1
    · rw [show rndB a2 a5 nx = false by simp [rndB, h5, h2]]; exact refRndMiss2_ct _ _ _ _ _ _ _ _ _ _ _ _ h5 (by omega)
  · rw [show rndB a2 a5 nx = false by simp [rndB, h5]]; exact refRndMiss1_ct _ _ _ _ _ _ _ _ _ _ _ _ (by omega)
end
end Go.Proofs.YtcegknecikbbkaaGreat

/- A model: what it is, what it tells. -/
set_option linter.unusedVariables false
set_option linter.unusedSimpArgs false
set_option maxRecDepth 4000
namespace Go.Proofs.YtcegknecikbbkaaGreat
open Go.RowKit
section
variable {P : Program} {w w0 : World} {F : List Nat} {L L0 : List Res} {ops : Array Oper} {Q : Exit → Act → World → Prop} {rest : List Oper} {o : Oper} {a : Act} {v : Value} {blk : Nat → Nat} {conf : Nat → List Nat} {flg : List Nat} {i : Nat}
/-- A call that leaves what it owns as it was. -/
theorem ckT_callS {f : FuncId} {as' : Array Operand} {ats : Array TypeId} {args : Array Value} {r : Res} (hS : Sep w0 F L w) (ho : o.op = .call { callee := .value (.func f), args := as', argTypes := ats }) (hC : Ct P f args [r] (Gives v [r])) (hu : Upd L r r L) (hw : Region.wanted o (yielded ops a.tmps) = true) (hen : ckEnter P f = true)
    (ha : as'.toList.map a.eval = args.toList) (hcf : ∀ j ∈ conf i, ∃ cs T, pts (blk j) cs T ∈ L) (h : ∀ w', Sep w0 F L w' → wpT P ops blk conf flg Q (i + 1) rest (a.put o.dst v) w') : wpT P ops blk conf flg Q i (o :: rest) a w :=
  ckT_enter ho hw hen ha (hC.callU hu hS fun w' hS' => ⟨fun j hj => by
    obtain ⟨cs, T, hm⟩ := hcf j hj
    exact Eq.trans (hS'.holds _ hm) (Eq.symm (hS.holds _ hm)), h w' hS'⟩)
theorem ckT_callG' {f : FuncId} {as' : Array Operand} {ats : Array TypeId} {args : Array Value} {pre post : List Res} (hS : Sep w0 F (pre ++ L) w) (ho : o.op = .call { callee := .value (.func f), args := as', argTypes := ats }) (hC : Ct P f args pre (Gives v post)) (hw : Region.wanted o (yielded ops a.tmps) = true) (hen : ckEnter P f = true)
    (ha : as'.toList.map a.eval = args.toList) (hcf : ∀ j ∈ conf i, ∀ w2, Sep w0 F (post ++ L) w2 → w2.heap[blk j]? = w.heap[blk j]?) (h : ∀ w', Sep w0 F (post ++ L) w' → wpT P ops blk conf flg Q (i + 1) rest (a.put o.dst v) w') : wpT P ops blk conf flg Q i (o :: rest) a w :=
  ckT_enter ho hw hen ha (hC.callG (L := L) hS fun w' hS' => ⟨fun j hj => hcf j hj w' hS', h w' hS'⟩)
end
structure WinS where
  (t0 v0 t1 v1 t2 v2 last : Int)
structure RndS where
  (n nx : Int)
structure PipeS where
  (best n : Int) (full : Bool)
structure CycS where
  (phase since : Int)
structure PrbS where
  (best stamp : Int) (inn : Bool) (till : Int) (round : Bool)
structure PolS where
  (use samples : Bool) (bw rounds lost now del los : Int)
structure MdlM where
  (mss mode rate cwnd was : Int) (rcv cns : Bool) (upto : Int) (win : WinS) (rnd : RndS) (pipe : PipeS) (cyc : CycS) (prb : PrbS) (pol : PolS)
structure MdlA where
  (b w r p c q o : Nat)
abbrev winR (b : Nat) (s : WinS) : Res := maxR b 10 s.t0 s.v0 s.t1 s.v1 s.t2 s.v2 s.last
abbrev pipeR (b : Nat) (s : PipeS) : Res := pts b [.int .u64 s.best, .int .i64 s.n, .bool s.full] 300
abbrev cycR (b : Nat) (s : CycS) : Res := pts b [.int .i64 s.phase, .int .u64 s.since] 302
abbrev prbR (b : Nat) (s : PrbS) : Res := pts b [.int .u64 s.best, .int .u64 s.stamp, .bool s.inn, .int .u64 s.till, .bool s.round] 304
abbrev polR (b : Nat) (s : PolS) : Res := pts b [.bool s.use, .bool s.samples, .int .u64 s.bw, .int .i64 s.rounds, .int .u64 s.lost, .int .u64 s.now, .int .u64 s.del, .int .u64 s.los] 308
abbrev mdlP (A : MdlA) (m : MdlM) : Res := pts A.b [.pointer (some ⟨A.w, 0, none⟩), .pointer (some ⟨A.r, 0, none⟩), .pointer (some ⟨A.p, 0, none⟩), .pointer (some ⟨A.c, 0, none⟩), .pointer (some ⟨A.q, 0, none⟩), .pointer (some ⟨A.o, 0, none⟩), .int .u64 m.mss, .int .i64 m.mode, .int .u64 m.rate, .int .u64 m.cwnd, .int .u64 m.was, .bool m.rcv, .bool m.cns, .int .u64 m.upto] 257
def mdlG (A : MdlA) (m : MdlM) : Res := grpR [mdlP A m, winR A.w m.win, rndR A.r m.rnd.n m.rnd.nx, pipeR A.p m.pipe, cycR A.c m.cyc, prbR A.q m.prb, polR A.o m.pol]
theorem mdlOpen {A : MdlA} {m : MdlM} {w0 w : World} {F : List Nat} {L : List Res} : Sep w0 F (mdlG A m :: L) w ↔ Sep w0 F (mdlP A m :: winR A.w m.win :: rndR A.r m.rnd.n m.rnd.nx :: pipeR A.p m.pipe :: cycR A.c m.cyc :: prbR A.q m.prb :: polR A.o m.pol :: L) w := (Sep.grp (l := [mdlP A m, winR A.w m.win, rndR A.r m.rnd.n m.rnd.nx, pipeR A.p m.pipe, cycR A.c m.cyc, prbR A.q m.prb, polR A.o m.pol])).symm
/-! ### Its parts -/
theorem pipeNew_ct : Ct Tryz.prog 131 #[] [] (fun v L => ∃ b, v = .pointer (some ⟨b, 0, none⟩) ∧ L = [pipeR b ⟨0, 0, false⟩]) := by
  intro w0 F L w hS
  simp only [List.cons_append, List.nil_append] at hS
  go_enter Tryz.func131, Tryz.ntmps131
  go_wp2_with (first | go_skip | (refine ck_box hS rfl rfl (by constructor) ?_; clear hS; intro nb w hS; simp only [Act.put, spA, spZ, spS]) )
  go_ret
  exact ⟨_, ⟨_, rfl, rfl⟩, hS⟩
theorem cycNew_ct : Ct Tryz.prog 132 #[] [] (fun v L => ∃ b, v = .pointer (some ⟨b, 0, none⟩) ∧ L = [cycR b ⟨0, 0⟩]) := by
  intro w0 F L w hS
  simp only [List.cons_append, List.nil_append] at hS
  go_enter Tryz.func132, Tryz.ntmps132
  go_wp2_with (first | go_skip | (refine ck_box hS rfl rfl (by constructor) ?_; clear hS; intro nb w hS; simp only [Act.put, spA, spZ, spS]) )
  go_ret
  exact ⟨_, ⟨_, rfl, rfl⟩, hS⟩
theorem prbNew_ct : Ct Tryz.prog 133 #[] [] (fun v L => ∃ b, v = .pointer (some ⟨b, 0, none⟩) ∧ L = [prbR b ⟨0, 0, false, 0, false⟩]) := by
  intro w0 F L w hS
  simp only [List.cons_append, List.nil_append] at hS
  go_enter Tryz.func133, Tryz.ntmps133
  go_wp2_with (first | go_skip | (refine ck_box hS rfl rfl (by constructor) ?_; clear hS; intro nb w hS; simp only [Act.put, spA, spZ, spS]) )
  go_ret
  exact ⟨_, ⟨_, rfl, rfl⟩, hS⟩
theorem polNew_ct : Ct Tryz.prog 134 #[] [] (fun v L => ∃ b, v = .pointer (some ⟨b, 0, none⟩) ∧ L = [polR b ⟨false, false, 0, 0, 0, 0, 0, 0⟩]) := by
  intro w0 F L w hS
  simp only [List.cons_append, List.nil_append] at hS
  go_enter Tryz.func134, Tryz.ntmps134
  go_wp2_with (first | go_skip | (refine ck_box hS rfl rfl (by constructor) ?_; clear hS; intro nb w hS; simp only [Act.put, spA, spZ, spS]) )
  go_ret
  exact ⟨_, ⟨_, rfl, rfl⟩, hS⟩
theorem polUse_ct (b : Nat) (s : PolS) : Ct Tryz.prog 233 #[.pointer (some ⟨b, 0, none⟩)] [polR b s] (Gives (.tuple #[.int .u64 (if s.use then s.bw else 0), .bool s.use]) [polR b s]) := by
  obtain ⟨use, samples, bw, rounds, lost, now, del, los⟩ := s
  cases use
  all_goals
    show Ct _ _ _ _ (Gives (.tuple #[.int .u64 _, .bool _]) _)
    intro w0 F L w hS
    simp only [List.cons_append, List.nil_append] at hS
    go_enter Tryz.func233, Tryz.ntmps233
    go_wp2_with (first | go_skip | (refine ck_load hS rfl rfl rfl (by (repeat (first | exact mH _ | apply mT)) <;> fail) rfl (by decide +kernel) ?_; simp only [Act.put, spA, spZ, spS]) )
    go_ret2
    exact ⟨_, ⟨rfl, rfl⟩, hS⟩
theorem prbBest_ct (b : Nat) (s : PrbS) : Ct Tryz.prog 181 #[.pointer (some ⟨b, 0, none⟩)] [prbR b s] (Gives (.int .u64 s.best) [prbR b s]) := by
  intro w0 F L w hS
  simp only [List.cons_append, List.nil_append] at hS
  go_enter Tryz.func181, Tryz.ntmps181
  go_wp2_with (first | go_skip | (refine ck_load hS rfl rfl rfl (by (repeat (first | exact mH _ | apply mT)) <;> fail) rfl (by decide +kernel) ?_; simp only [Act.put, spA, spZ, spS]) )
  go_ret
  exact ⟨_, ⟨rfl, rfl⟩, hS⟩
theorem cycPhase_ct (b : Nat) (s : CycS) : Ct Tryz.prog 184 #[.pointer (some ⟨b, 0, none⟩)] [cycR b s] (Gives (.int .i64 s.phase) [cycR b s]) := by
  intro w0 F L w hS
  simp only [List.cons_append, List.nil_append] at hS
  go_enter Tryz.func184, Tryz.ntmps184
  go_wp2_with (first | go_skip | (refine ck_load hS rfl rfl rfl (by (repeat (first | exact mH _ | apply mT)) <;> fail) rfl (by decide +kernel) ?_; simp only [Act.put, spA, spZ, spS]) )
  go_ret
  exact ⟨_, ⟨rfl, rfl⟩, hS⟩
theorem pipeFull_ct (b : Nat) (s : PipeS) : Ct Tryz.prog 185 #[.pointer (some ⟨b, 0, none⟩)] [pipeR b s] (Gives (.bool s.full) [pipeR b s]) := by
  intro w0 F L w hS
  simp only [List.cons_append, List.nil_append] at hS
  go_enter Tryz.func185, Tryz.ntmps185
  go_wp2_with (first | go_skip | (refine ck_load hS rfl rfl rfl (by (repeat (first | exact mH _ | apply mT)) <;> fail) rfl (by decide +kernel) ?_; simp only [Act.put, spA, spZ, spS]) )
  go_ret
  exact ⟨_, ⟨rfl, rfl⟩, hS⟩
def cgOf (p : Int) : Int := if p = 0 then 320 else if p = 1 then 192 else 256
theorem cycGain_ct (b : Nat) (s : CycS) : Ct Tryz.prog 235 #[.pointer (some ⟨b, 0, none⟩)] [cycR b s] (Gives (.int .u64 (cgOf s.phase)) [cycR b s]) := by
  obtain ⟨ph, si⟩ := s
  unfold cgOf
  dsimp only
  by_cases h0 : ph = 0
  · subst h0
    intro w0 F L w hS
    simp only [List.cons_append, List.nil_append] at hS
    go_enter Tryz.func235, Tryz.ntmps235
    go_wp2_with (first | go_skip | (refine ck_load hS rfl rfl rfl (by (repeat (first | exact mH _ | apply mT)) <;> fail) rfl (by decide +kernel) ?_; simp only [Act.put, spA, spZ, spS]) )
    go_ret
    exact ⟨_, ⟨rfl, rfl⟩, hS⟩
  · rw [if_neg h0]
    have h0' : (ph == 0) = false := by simpa using h0
    by_cases h1 : ph = 1
    · subst h1
      clear h0
      intro w0 F L w hS
      simp only [List.cons_append, List.nil_append] at hS
      go_enter Tryz.func235, Tryz.ntmps235
      go_wp2_with (first | go_skip | (refine ck_load hS rfl rfl rfl (by (repeat (first | exact mH _ | apply mT)) <;> fail) rfl (by decide +kernel) ?_; simp only [Act.put, spA, spZ, spS]) )
      go_ret
      exact ⟨_, ⟨rfl, rfl⟩, hS⟩
    · rw [if_neg h1]
      have h1' : (ph == 1) = false := by simpa using h1
      clear h0 h1
      intro w0 F L w hS
      simp only [List.cons_append, List.nil_append] at hS
      go_enter Tryz.func235, Tryz.ntmps235
      go_wp2_with (first | go_skip | (refine ck_load hS rfl rfl rfl (by (repeat (first | exact mH _ | apply mT)) <;> fail) rfl (by decide +kernel) ?_; simp only [Act.put, spA, spZ, spS]) )
      go_ret
      exact ⟨_, ⟨rfl, rfl⟩, hS⟩
/-! ### What it tells -/
def bwOf (m : MdlM) : Int := if m.pol.use then m.pol.bw else m.win.v0
def gainOf (m : MdlM) : Int := if m.mode = 0 then 739 else if m.mode = 1 then 88 else if m.mode = 2 ∧ m.pol.use = false then cgOf m.cyc.phase else 256
abbrev stV (m : MdlM) : List Value := [.int .i64 m.mode, .int .i64 m.cyc.phase, .int .u64 m.rate, .int .u64 m.cwnd, .int .u64 (bwOf m), .int .u64 m.prb.best, .int .u64 (gainOf m), .int .u64 m.rnd.n, .bool m.pipe.full, .bool m.pol.use]
theorem mdlBw_ct (A : MdlA) (m : MdlM) : Ct Tryz.prog 180 #[.pointer (some ⟨A.b, 0, none⟩)] [mdlG A m] (Gives (.int .u64 (bwOf m)) [mdlG A m]) := by
  have kU := polUse_ct A.o m.pol
  have kB := maxBest_ct A.w 10 m.win.t0 m.win.v0 m.win.t1 m.win.v1 m.win.t2 m.win.v2 m.win.last
  unfold bwOf
  cases hu : m.pol.use
  all_goals
    rw [hu] at kU
    intro w0 F L w hS
    have hS := mdlOpen.1 hS
    have hfin : ∀ {w : World}, Sep w0 F _ w → Sep w0 F ([mdlG A m] ++ L) w := fun h => mdlOpen.2 h
    clear hu
    go_enter Tryz.func180, Tryz.ntmps180
    go_wp2_with (first | go_skip | (refine ck_load hS rfl rfl rfl (by (repeat (first | exact mH _ | apply mT)) <;> fail) rfl (by decide +kernel) ?_; simp only [Act.put, spA, spZ, spS]) | (go_at_call 233; (with_reducible refine Ct.callU (kU) (by (repeat (first | exact uH _ _ _ | apply uT)) <;> fail) hS ?_) <;> (first | (clear hS; intro w hS) | omega)) | (go_at_call 234; (with_reducible refine Ct.callU (kB) (by (repeat (first | exact uH _ _ _ | apply uT)) <;> fail) hS ?_) <;> (first | (clear hS; intro w hS) | omega)))
    go_ret
    exact ⟨_, ⟨rfl, rfl⟩, hfin hS⟩
theorem mdlPoliced_ct (A : MdlA) (m : MdlM) : Ct Tryz.prog 186 #[.pointer (some ⟨A.b, 0, none⟩)] [mdlG A m] (Gives (.bool m.pol.use) [mdlG A m]) := by
  have kU := polUse_ct A.o m.pol
  obtain ⟨u, hu⟩ : ∃ u, (if m.pol.use then m.pol.bw else 0) = u := ⟨_, rfl⟩
  rw [hu] at kU
  clear hu
  intro w0 F L w hS
  have hS := mdlOpen.1 hS
  have hfin : ∀ {w : World}, Sep w0 F _ w → Sep w0 F ([mdlG A m] ++ L) w := fun h => mdlOpen.2 h
  go_enter Tryz.func186, Tryz.ntmps186
  go_wp2_with (first | go_skip | (refine ck_load hS rfl rfl rfl (by (repeat (first | exact mH _ | apply mT)) <;> fail) rfl (by decide +kernel) ?_; simp only [Act.put, spA, spZ, spS]) | (go_at_call 233; (with_reducible refine Ct.callU (kU) (by (repeat (first | exact uH _ _ _ | apply uT)) <;> fail) hS ?_) <;> (first | (clear hS; intro w hS) | omega)))
  go_ret
  exact ⟨_, ⟨rfl, rfl⟩, hfin hS⟩
set_option maxHeartbeats 1000000 in
theorem mdlGain_ct (A : MdlA) (m : MdlM) : Ct Tryz.prog 182 #[.pointer (some ⟨A.b, 0, none⟩)] [mdlG A m] (Gives (.int .u64 (gainOf m)) [mdlG A m]) := by
  have kP := mdlPoliced_ct A m
  have kG := cycGain_ct A.c m.cyc
  obtain ⟨md, hmd⟩ : ∃ x, m.mode = x := ⟨_, rfl⟩
  obtain ⟨us, hus⟩ : ∃ x, m.pol.use = x := ⟨_, rfl⟩
  unfold gainOf
  rw [hus] at kP
  rw [hus, hmd]
  generalize cgOf m.cyc.phase = cg at *
  intro w0 F L w hS
  have oM := fun {w : World} (h : Sep w0 F (mdlG A m :: L) w) => mdlOpen.1 h
  have hfin : ∀ {w : World}, Sep w0 F _ w → Sep w0 F ([mdlG A m] ++ L) w := fun h => mdlOpen.2 h
  have hS := mdlOpen.1 hS
  unfold mdlP at hS oM hfin
  rw [hmd] at hS oM hfin
  clear hus hmd
  by_cases h0 : md = 0
  · subst h0
    go_enter Tryz.func182, Tryz.ntmps182
    go_wp2_with (first | go_skip | (refine ck_load hS rfl rfl rfl (by (repeat (first | exact mH _ | apply mT)) <;> fail) rfl (by decide +kernel) ?_; simp only [Act.put, spA, spZ, spS]) )
    go_ret
    exact ⟨_, ⟨rfl, rfl⟩, hfin hS⟩
  · rw [if_neg h0]
    have h0' : (md == 0) = false := by simpa using h0
    by_cases h1 : md = 1
    · subst h1
      clear h0
      go_enter Tryz.func182, Tryz.ntmps182
      go_wp2_with (first | go_skip | (refine ck_load hS rfl rfl rfl (by (repeat (first | exact mH _ | apply mT)) <;> fail) rfl (by decide +kernel) ?_; simp only [Act.put, spA, spZ, spS]) )
      go_ret
      exact ⟨_, ⟨rfl, rfl⟩, hfin hS⟩
    · rw [if_neg h1]
      have h1' : (md == 1) = false := by simpa using h1
      by_cases h2 : md = 2
      · subst h2
        clear h0 h1
        cases us
        all_goals
          go_enter Tryz.func182, Tryz.ntmps182
          go_wp2_with (first | go_skip | (refine ck_load hS rfl rfl rfl (by (repeat (first | exact mH _ | apply mT)) <;> fail) rfl (by decide +kernel) ?_; simp only [Act.put, spA, spZ, spS]) | (go_at_call 235; (with_reducible refine Ct.callU (kG) (by (repeat (first | exact uH _ _ _ | apply uT)) <;> fail) hS ?_) <;> (first | (clear hS; intro w hS) | omega)) | (have hS0 := hfin hS; go_at_call 186; (refine Ct.callG (kP) hS0 ?_); clear hS hS0; intro w hS0; have hS := oM hS0; clear hS0))
          go_ret
          exact ⟨_, ⟨rfl, rfl⟩, hfin hS⟩
      · have h2' : (md == 2) = false := by simpa using h2
        rw [if_neg (fun h => h2 h.1)]
        clear h0 h1 h2
        go_enter Tryz.func182, Tryz.ntmps182
        go_wp2_with (first | go_skip | (refine ck_load hS rfl rfl rfl (by (repeat (first | exact mH _ | apply mT)) <;> fail) rfl (by decide +kernel) ?_; simp only [Act.put, spA, spZ, spS]) )
        go_ret
        exact ⟨_, ⟨rfl, rfl⟩, hfin hS⟩
set_option maxHeartbeats 8000000 in
theorem mdlState_ct (A : MdlA) (m : MdlM) : Ct Tryz.prog 128 #[.pointer (some ⟨A.b, 0, none⟩)] [mdlG A m] (Gives (.agg (stV m).toArray) [mdlG A m]) := by
  have kB := mdlBw_ct A m
  have kG := mdlGain_ct A m
  have kP := mdlPoliced_ct A m
  have kQ := prbBest_ct A.q m.prb
  have kR := rndCount_ct A.r m.rnd.n m.rnd.nx
  have kC := cycPhase_ct A.c m.cyc
  have kF := pipeFull_ct A.p m.pipe
  unfold stV
  generalize bwOf m = bw at *
  generalize gainOf m = ga at *
  obtain ⟨us, hus⟩ : ∃ x, m.pol.use = x := ⟨_, rfl⟩
  rw [hus] at kP ⊢
  clear hus
  intro w0 F L w hS
  have oM := fun {L : List Res} {w : World} => mdlOpen (A := A) (m := m) (w0 := w0) (F := F) (L := L) (w := w)
  have hS := oM.1 hS
  go_enter Tryz.func128, Tryz.ntmps128
  go_wp2_with (first | go_skip | (refine ck_store hS rfl rfl rfl (by constructor) (by (repeat (first | exact uH _ _ _ | apply uT)) <;> fail) (by simp <;> omega) rfl (by decide +kernel) ?_; clear hS; intro w hS; simp only [Act.put, spA, spZ, spS] at hS ⊢) | (refine ck_alloc (t := 177) (v := .agg (List.toArray [.int .i64 0, .int .i64 0, .int .u64 0, .int .u64 0, .int .u64 0, .int .u64 0, .int .u64 0, .int .u64 0, .bool false, .bool false])) (cs := [.int .i64 0, .int .i64 0, .int .u64 0, .int .u64 0, .int .u64 0, .int .u64 0, .int .u64 0, .int .u64 0, .bool false, .bool false]) hS rfl rfl (by kernel_rfl) rfl ?_; clear hS; intro nb w hS; simp only [Act.put, spA, spZ, spS]) | (refine ck_region (fun _ => 0) (fun _ => []) [] hS (by kernel_rfl) (by decide +kernel) ?_ ?_; exact ⟨fun _ _ _ h => h.2, fun _ _ h => h⟩; clear hS; intro w hS _; (repeat (first | (apply wpT_pure rfl rfl; (intro _; go_simp; (try (go_ints; (try go_simp))); (first | (rw [decide_eq_true]; omega) | (rw [decide_eq_false]; omega) | rfl | rw [if_pos (by omega)])); simp only [Act.put, spA, spZ, spS]) | (refine ckT_load hS rfl rfl rfl (by simp <;> fail) (by (repeat (first | exact mH _ | apply mT)) <;> fail) rfl (by decide +kernel) ?_; simp only [Act.put, spA, spZ, spS]) | (refine ckT_store hS rfl rfl rfl (by constructor) (by (repeat (first | exact uH _ _ _ | apply uT)) <;> fail) (by simp <;> fail) rfl (by decide +kernel) (by simp <;> fail) ?_; clear hS; intro w hS; simp only [Act.put, spA, spZ, spS] at hS ⊢) )); refine wpT_nil ?_))
  have j1 := hS.bring (r := polR A.o m.pol) (by (repeat (first | exact rH _ _ | apply rT)) <;> fail)
  have j2 := j1.bring (r := prbR A.q m.prb) (by (repeat (first | exact rH _ _ | apply rT)) <;> fail)
  have j3 := j2.bring (r := cycR A.c m.cyc) (by (repeat (first | exact rH _ _ | apply rT)) <;> fail)
  have j4 := j3.bring (r := pipeR A.p m.pipe) (by (repeat (first | exact rH _ _ | apply rT)) <;> fail)
  have j5 := j4.bring (r := rndR A.r m.rnd.n m.rnd.nx) (by (repeat (first | exact rH _ _ | apply rT)) <;> fail)
  have j6 := j5.bring (r := winR A.w m.win) (by (repeat (first | exact rH _ _ | apply rT)) <;> fail)
  have j7 := j6.bring (r := mdlP A m) (by (repeat (first | exact rH _ _ | apply rT)) <;> fail)
  clear hS j1 j2 j3 j4 j5 j6
  have hS := j7
  clear j7
  (refine ck_region (fun _ => A.b) (fun i => if i = 13 then [3, 7, 11, 17, 24, 29, 34] else if i = 18 then [3, 7, 11, 24, 29, 34] else if i = 20 then [3, 7, 11, 24, 29, 34] else if i = 25 then [3, 7, 11, 29, 34] else if i = 30 then [3, 7, 11, 34] else if i = 35 then [3, 7, 11] else if i = 37 then [3, 7, 11] else []) ([3, 7, 11, 17, 24, 29, 34]) hS (by kernel_rfl) (by decide +kernel) ?_ ?_; exact ⟨fun _ _ _ h => h.2, fun _ _ h => h⟩; clear hS; intro w hS _; (repeat (first | (apply wpT_pure rfl rfl; (intro _; go_simp; (try (go_ints; (try go_simp))); (first | (rw [decide_eq_true]; omega) | (rw [decide_eq_false]; omega) | rfl | rw [if_pos (by omega)])); simp only [Act.put, spA, spZ, spS]) | (refine ckT_load hS rfl rfl rfl (by simp <;> fail) (by (repeat (first | exact mH _ | apply mT)) <;> fail) rfl (by decide +kernel) ?_; simp only [Act.put, spA, spZ, spS]) | (refine ckT_store hS rfl rfl rfl (by constructor) (by (repeat (first | exact uH _ _ _ | apply uT)) <;> fail) (by simp <;> fail) rfl (by decide +kernel) (by simp <;> fail) ?_; clear hS; intro w hS; simp only [Act.put, spA, spZ, spS] at hS ⊢) | (refine ckT_callG' (oM.2 hS) rfl kB rfl (by kernel_rfl) rfl (fun j _ w2 h2 => ((oM.1 h2).holds (mdlP A m) (by (repeat (first | exact mH _ | apply mT)) <;> fail)).trans (hS.holds (mdlP A m) (by (repeat (first | exact mH _ | apply mT)) <;> fail)).symm) ?_; clear hS; intro w hS0; have hS := oM.1 hS0; clear hS0; simp only [Act.put, spA, spZ, spS]) | (refine ckT_callG' (oM.2 hS) rfl kG rfl (by kernel_rfl) rfl (fun j _ w2 h2 => ((oM.1 h2).holds (mdlP A m) (by (repeat (first | exact mH _ | apply mT)) <;> fail)).trans (hS.holds (mdlP A m) (by (repeat (first | exact mH _ | apply mT)) <;> fail)).symm) ?_; clear hS; intro w hS0; have hS := oM.1 hS0; clear hS0; simp only [Act.put, spA, spZ, spS]) | (refine ckT_callG' (oM.2 hS) rfl kP rfl (by kernel_rfl) rfl (fun j _ w2 h2 => ((oM.1 h2).holds (mdlP A m) (by (repeat (first | exact mH _ | apply mT)) <;> fail)).trans (hS.holds (mdlP A m) (by (repeat (first | exact mH _ | apply mT)) <;> fail)).symm) ?_; clear hS; intro w hS0; have hS := oM.1 hS0; clear hS0; simp only [Act.put, spA, spZ, spS]) | (refine ckT_callS hS rfl kQ (by (repeat (first | exact uH _ _ _ | apply uT)) <;> fail) rfl (by kernel_rfl) rfl (fun j _ => ⟨_, _, ((by (repeat (first | exact mH _ | apply mT)) <;> fail) : mdlP A m ∈ _)⟩) ?_; clear hS; intro w hS; simp only [Act.put, spA, spZ, spS]) | (refine ckT_callS hS rfl kR (by (repeat (first | exact uH _ _ _ | apply uT)) <;> fail) rfl (by kernel_rfl) rfl (fun j _ => ⟨_, _, ((by (repeat (first | exact mH _ | apply mT)) <;> fail) : mdlP A m ∈ _)⟩) ?_; clear hS; intro w hS; simp only [Act.put, spA, spZ, spS]) | (refine ckT_callS hS rfl kC (by (repeat (first | exact uH _ _ _ | apply uT)) <;> fail) rfl (by kernel_rfl) rfl (fun j _ => ⟨_, _, ((by (repeat (first | exact mH _ | apply mT)) <;> fail) : mdlP A m ∈ _)⟩) ?_; clear hS; intro w hS; simp only [Act.put, spA, spZ, spS]) | (refine ckT_callS hS rfl kF (by (repeat (first | exact uH _ _ _ | apply uT)) <;> fail) rfl (by kernel_rfl) rfl (fun j _ => ⟨_, _, ((by (repeat (first | exact mH _ | apply mT)) <;> fail) : mdlP A m ∈ _)⟩) ?_; clear hS; intro w hS; simp only [Act.put, spA, spZ, spS]) | (refine ckT_storeAll hS rfl rfl rfl rfl (by (repeat (first | exact uH _ _ _ | apply uT)) <;> fail) (by rfl) rfl (by (try simp only [List.length_cons, List.length_nil, Nat.zero_add, Nat.reduceAdd]); decide +kernel) (by simp <;> fail) ?_; clear hS; intro w hS; simp only [Act.put, spA, spZ, spS]))); refine wpT_nil ?_)
  go_wp2_with (first | go_skip | (refine ck_store hS rfl rfl rfl (by constructor) (by (repeat (first | exact uH _ _ _ | apply uT)) <;> fail) (by simp <;> omega) rfl (by decide +kernel) ?_; clear hS; intro w hS; simp only [Act.put, spA, spZ, spS] at hS ⊢)  | (refine ck_region (fun _ => 0) (fun _ => []) [] hS (by kernel_rfl) (by decide +kernel) ?_ ?_; exact ⟨fun _ _ _ h => h.2, fun _ _ h => h⟩; clear hS; intro w hS _; (repeat (first | (apply wpT_pure rfl rfl; (intro _; go_simp; (try (go_ints; (try go_simp))); (first | (rw [decide_eq_true]; omega) | (rw [decide_eq_false]; omega) | rfl | rw [if_pos (by omega)])); simp only [Act.put, spA, spZ, spS]) | (refine ckT_load hS rfl rfl rfl (by simp <;> fail) (by (repeat (first | exact mH _ | apply mT)) <;> fail) rfl (by decide +kernel) ?_; simp only [Act.put, spA, spZ, spS]) | (refine ckT_store hS rfl rfl rfl (by constructor) (by (repeat (first | exact uH _ _ _ | apply uT)) <;> fail) (by simp <;> fail) rfl (by decide +kernel) (by simp <;> fail) ?_; clear hS; intro w hS; simp only [Act.put, spA, spZ, spS] at hS ⊢) )); refine wpT_nil ?_))
  refine bodyPost_ret (ckRes_cell hS (cs := [.int .i64 m.mode, .int .i64 m.cyc.phase, .int .u64 m.rate, .int .u64 m.cwnd, .int .u64 bw, .int .u64 m.prb.best, .int .u64 ga, .int .u64 m.rnd.n, .bool m.pipe.full, .bool us]) (b := nb) (T := 177) (by (repeat (first | exact mH _ | apply mT)) <;> fail) rfl rfl rfl (by (try simp only [List.length_cons, List.length_nil, Nat.zero_add, Nat.reduceAdd]); decide +kernel)) rfl ?_
  exact ⟨_, ⟨rfl, rfl⟩, (oM.2 ((hS.bring (r := pts nb [.int .i64 m.mode, .int .i64 m.cyc.phase, .int .u64 m.rate, .int .u64 m.cwnd, .int .u64 bw, .int .u64 m.prb.best, .int .u64 ga, .int .u64 m.rnd.n, .bool m.pipe.full, .bool us] 177) (by (repeat (first | exact rH _ _ | apply rT)) <;> fail)).drop))⟩
def mdlZ (mss rate : Int) : MdlM := ⟨mss, 0, rate, 10 * mss, 0, false, false, 0, ⟨0, 0, 0, 0, 0, 0, 0⟩, ⟨0, 0⟩, ⟨0, 0, false⟩, ⟨0, 0⟩, ⟨0, 0, false, 0, false⟩, ⟨false, false, 0, 0, 0, 0, 0, 0⟩⟩
set_option maxHeartbeats 1000000 in
theorem scaled_ct (q : Nat) (v g r : Int) (hr : r = if v = 0 then 0 else mulDiv v g 256) (v0 : 0 ≤ v) (v1 : v ≤ 18446744073709551615) (g0 : 0 ≤ g) (g1 : g ≤ 18446744073709551615) : Ct Tryz.prog 187 #[.int .u64 v, .slice (some ⟨q, 0, none⟩) 1 1] [pts q [.int .u64 g, .int .u64 256] 235] (Gives (.int .u64 r) [pts q [.int .u64 g, .int .u64 256] 235]) := by
  have kM := mulDiv_ct v g 256 v0 v1 g0 g1 (by omega) (by omega)
  generalize mulDiv v g 256 = k at *
  by_cases hv : v = 0
  · rw [if_pos hv] at hr
    subst hv hr
    intro w0 F L w hS
    simp only [List.cons_append, List.nil_append] at hS
    go_enter Tryz.func187, Tryz.ntmps187
    go_wp2_with (first | go_skip | (refine ck_load hS rfl rfl rfl (by (repeat (first | exact mH _ | apply mT)) <;> fail) rfl (by decide +kernel) ?_; simp only [Act.put, spA, spZ, spS]) | (refine ck_store hS rfl rfl rfl (by constructor) (by (repeat (first | exact uH _ _ _ | apply uT)) <;> fail) (by simp <;> omega) rfl (by decide +kernel) ?_; clear hS; intro w hS; simp only [Act.put, spA, spZ, spS] at hS ⊢) )
    go_step3
    go_wp2_with (first | go_skip | (refine ck_load hS rfl rfl rfl (by (repeat (first | exact mH _ | apply mT)) <;> fail) rfl (by decide +kernel) ?_; simp only [Act.put, spA, spZ, spS]) | (refine ck_store hS rfl rfl rfl (by constructor) (by (repeat (first | exact uH _ _ _ | apply uT)) <;> fail) (by simp <;> omega) rfl (by decide +kernel) ?_; clear hS; intro w hS; simp only [Act.put, spA, spZ, spS] at hS ⊢) )
    go_step3
    go_wp2_with (first | go_skip | (refine ck_load hS rfl rfl rfl (by (repeat (first | exact mH _ | apply mT)) <;> fail) rfl (by decide +kernel) ?_; simp only [Act.put, spA, spZ, spS]) | (refine ck_store hS rfl rfl rfl (by constructor) (by (repeat (first | exact uH _ _ _ | apply uT)) <;> fail) (by simp <;> omega) rfl (by decide +kernel) ?_; clear hS; intro w hS; simp only [Act.put, spA, spZ, spS] at hS ⊢) )
    refine wp_loop_rounds 2 ?_; rw [rounds_succ]
    go_wp2_with (first | go_skip | (refine ck_load hS rfl rfl rfl (by (repeat (first | exact mH _ | apply mT)) <;> fail) rfl (by decide +kernel) ?_; simp only [Act.put, spA, spZ, spS]) | (refine ck_store hS rfl rfl rfl (by constructor) (by (repeat (first | exact uH _ _ _ | apply uT)) <;> fail) (by simp <;> omega) rfl (by decide +kernel) ?_; clear hS; intro w hS; simp only [Act.put, spA, spZ, spS] at hS ⊢) | (refine ck_alloc (t := 235) (v := .agg (List.toArray [.int .u64 0, .int .u64 0])) (cs := [.int .u64 0, .int .u64 0]) hS rfl rfl (by kernel_rfl) rfl ?_; clear hS; intro nb w hS; simp only [Act.put, spA, spZ, spS]) | (refine ck_loadAll hS rfl rfl rfl (by (repeat (first | exact mH _ | apply mT)) <;> fail) rfl (by (try simp only [List.length_cons, List.length_nil, Nat.zero_add, Nat.reduceAdd]); decide +kernel) ?_; simp only [Act.put, spA, spZ, spS]) | (refine ck_storeAll hS rfl rfl rfl rfl (by (repeat (first | exact uH _ _ _ | apply uT)) <;> fail) (by rfl) rfl (by (try simp only [List.length_cons, List.length_nil, Nat.zero_add, Nat.reduceAdd]); decide +kernel) ?_; clear hS; intro w hS; simp only [Act.put, spA, spZ, spS]) | (with_reducible rw [rounds_succ]))
    rw [Exit.noGoto_ret]
    go_ret
    exact ⟨_, ⟨rfl, rfl⟩, hS.drop⟩
  · rw [if_neg hv] at hr
    subst hr
    have hv' : (v == 0) = false := by simpa using hv
    clear hv
    intro w0 F L w hS
    simp only [List.cons_append, List.nil_append] at hS
    go_enter Tryz.func187, Tryz.ntmps187
    go_wp2_with (first | go_skip | (refine ck_load hS rfl rfl rfl (by (repeat (first | exact mH _ | apply mT)) <;> fail) rfl (by decide +kernel) ?_; simp only [Act.put, spA, spZ, spS]) | (refine ck_store hS rfl rfl rfl (by constructor) (by (repeat (first | exact uH _ _ _ | apply uT)) <;> fail) (by simp <;> omega) rfl (by decide +kernel) ?_; clear hS; intro w hS; simp only [Act.put, spA, spZ, spS] at hS ⊢) )
    go_step3
    go_wp2_with (first | go_skip | (refine ck_load hS rfl rfl rfl (by (repeat (first | exact mH _ | apply mT)) <;> fail) rfl (by decide +kernel) ?_; simp only [Act.put, spA, spZ, spS]) | (refine ck_store hS rfl rfl rfl (by constructor) (by (repeat (first | exact uH _ _ _ | apply uT)) <;> fail) (by simp <;> omega) rfl (by decide +kernel) ?_; clear hS; intro w hS; simp only [Act.put, spA, spZ, spS] at hS ⊢) )
    go_step3
    go_wp2_with (first | go_skip | (refine ck_load hS rfl rfl rfl (by (repeat (first | exact mH _ | apply mT)) <;> fail) rfl (by decide +kernel) ?_; simp only [Act.put, spA, spZ, spS]) | (refine ck_store hS rfl rfl rfl (by constructor) (by (repeat (first | exact uH _ _ _ | apply uT)) <;> fail) (by simp <;> omega) rfl (by decide +kernel) ?_; clear hS; intro w hS; simp only [Act.put, spA, spZ, spS] at hS ⊢) )
    refine wp_loop_rounds 2 ?_; rw [rounds_succ]
    go_wp2_with (first | go_skip | (refine ck_load hS rfl rfl rfl (by (repeat (first | exact mH _ | apply mT)) <;> fail) rfl (by decide +kernel) ?_; simp only [Act.put, spA, spZ, spS]) | (refine ck_store hS rfl rfl rfl (by constructor) (by (repeat (first | exact uH _ _ _ | apply uT)) <;> fail) (by simp <;> omega) rfl (by decide +kernel) ?_; clear hS; intro w hS; simp only [Act.put, spA, spZ, spS] at hS ⊢) | (refine ck_alloc (t := 235) (v := .agg (List.toArray [.int .u64 0, .int .u64 0])) (cs := [.int .u64 0, .int .u64 0]) hS rfl rfl (by kernel_rfl) rfl ?_; clear hS; intro nb w hS; simp only [Act.put, spA, spZ, spS]) | (refine ck_loadAll hS rfl rfl rfl (by (repeat (first | exact mH _ | apply mT)) <;> fail) rfl (by (try simp only [List.length_cons, List.length_nil, Nat.zero_add, Nat.reduceAdd]); decide +kernel) ?_; simp only [Act.put, spA, spZ, spS]) | (refine ck_storeAll hS rfl rfl rfl rfl (by (repeat (first | exact uH _ _ _ | apply uT)) <;> fail) (by rfl) rfl (by (try simp only [List.length_cons, List.length_nil, Nat.zero_add, Nat.reduceAdd]); decide +kernel) ?_; clear hS; intro w hS; simp only [Act.put, spA, spZ, spS]) | (with_reducible rw [rounds_succ]) | (go_at_call 127; with_reducible refine Ct.call0 (kM) hS ?_; clear hS; intro w hS))
    rw [Exit.noGoto_ret]
    go_ret
    exact ⟨_, ⟨rfl, rfl⟩, hS.drop⟩
theorem tgRate_ct (v g r : Int) (hr : r = if v = 0 then 0 else mulDiv v g 256) (v0 : 0 ≤ v) (v1 : v ≤ 18446744073709551615) (g0 : 0 ≤ g) (g1 : g ≤ 18446744073709551615) : Ct Tryz.prog 135 #[.int .u64 v, .int .u64 g] [] (Gives (.int .u64 r) []) := by
  have kS := fun q => scaled_ct q v g r hr v0 v1 g0 g1
  clear hr
  intro w0 F L w hS
  simp only [List.cons_append, List.nil_append] at hS
  go_enter Tryz.func135, Tryz.ntmps135
  go_wp2_with (first | go_skip | (refine ck_buildE (e := 235) (sz := 2) (news := [.int .u64 g, .int .u64 256]) hS rfl rfl rfl rfl (by omega) (by omega) (by decide +kernel) ?_; clear hS; intro q w hS; simp only [Act.put, spA, spZ, spS]) | (go_at_call 187; (with_reducible refine Ct.callU (kS _) (by (repeat (first | exact uH _ _ _ | apply uT)) <;> fail) hS ?_) <;> (first | (clear hS; intro w hS) | omega)))
  go_ret
  exact ⟨_, ⟨rfl, rfl⟩, hS.drop⟩
set_option maxHeartbeats 2000000 in
theorem mdlNew_ct (mss r : Int) (h0 : 100 ≤ mss) (h1 : mss ≤ 9000) (hr : r = mulDiv (10 * mss * 1000) 739 256) : Ct Tryz.prog 97 #[.int .u64 mss] [] (fun v L => ∃ A : MdlA, v = .pointer (some ⟨A.b, 0, none⟩) ∧ L = [mdlG A (mdlZ mss r)]) := by
  have e : min (max mss 100) 9000 = mss := by omega
  have kR := tgRate_ct (10 * min (max mss 100) 9000 * 1000) 739 r (by rw [e, if_neg (by omega)]; exact hr) (by omega) (by omega) (by omega) (by omega)
  have hfin : ∀ {w0 w : World} {F : List Nat} {L : List Res} {A : MdlA}, Sep w0 F (mdlP A (mdlZ (min (max mss 100) 9000) r) :: polR A.o ⟨false, false, 0, 0, 0, 0, 0, 0⟩ :: prbR A.q ⟨0, 0, false, 0, false⟩ :: cycR A.c ⟨0, 0⟩ :: pipeR A.p ⟨0, 0, false⟩ :: rndR A.r 0 0 :: maxR A.w 10 0 0 0 0 0 0 0 :: L) w → Sep w0 F ([mdlG A (mdlZ mss r)] ++ L) w := fun {w0 w F L A} hS => by
    rw [e] at hS
    have j2 := hS.bring (r := prbR A.q ⟨0, 0, false, 0, false⟩) (by (repeat (first | exact rH _ _ | apply rT)) <;> fail)
    have j3 := j2.bring (r := cycR A.c ⟨0, 0⟩) (by (repeat (first | exact rH _ _ | apply rT)) <;> fail)
    have j4 := j3.bring (r := pipeR A.p ⟨0, 0, false⟩) (by (repeat (first | exact rH _ _ | apply rT)) <;> fail)
    have j5 := j4.bring (r := rndR A.r 0 0) (by (repeat (first | exact rH _ _ | apply rT)) <;> fail)
    have j6 := j5.bring (r := maxR A.w 10 0 0 0 0 0 0 0) (by (repeat (first | exact rH _ _ | apply rT)) <;> fail)
    have j7 := j6.bring (r := mdlP A (mdlZ mss r)) (by (repeat (first | exact rH _ _ | apply rT)) <;> fail)
    exact mdlOpen.2 j7
  clear hr e
  intro w0 F L w hS
  simp only [List.cons_append, List.nil_append] at hS
  go_enter Tryz.func97, Tryz.ntmps97
  go_wp2_with (first | go_skip | (refine ck_load hS rfl rfl rfl (by (repeat (first | exact mH _ | apply mT)) <;> fail) rfl (by decide +kernel) ?_; simp only [Act.put, spA, spZ, spS]) | (refine ck_store hS rfl rfl rfl (by constructor) (by (repeat (first | exact uH _ _ _ | apply uT)) <;> fail) (by simp <;> omega) rfl (by decide +kernel) ?_; clear hS; intro w hS; simp only [Act.put, spA, spZ, spS] at hS ⊢) | (refine ck_box hS rfl rfl (by constructor) ?_; clear hS; intro nb w hS; simp only [Act.put, spA, spZ, spS]) | (refine ck_max rfl rfl rfl rfl ?_; simp only [Act.put, spA, spZ, spS]) | (refine ck_min rfl rfl rfl rfl ?_; simp only [Act.put, spA, spZ, spS]) | (go_at_call 129; with_reducible refine Ct.callN (maxNew_ct _) hS ?_; clear hS; rintro _ _ w ⟨bw, rfl, rfl⟩ hS; simp only [List.cons_append, List.nil_append] at hS) | (go_at_call 130; with_reducible refine Ct.callN (rndNew_ct) hS ?_; clear hS; rintro _ _ w ⟨br, rfl, rfl⟩ hS; simp only [List.cons_append, List.nil_append] at hS) | (go_at_call 131; with_reducible refine Ct.callN (pipeNew_ct) hS ?_; clear hS; rintro _ _ w ⟨bp, rfl, rfl⟩ hS; simp only [List.cons_append, List.nil_append] at hS) | (go_at_call 132; with_reducible refine Ct.callN (cycNew_ct) hS ?_; clear hS; rintro _ _ w ⟨bc, rfl, rfl⟩ hS; simp only [List.cons_append, List.nil_append] at hS) | (go_at_call 133; with_reducible refine Ct.callN (prbNew_ct) hS ?_; clear hS; rintro _ _ w ⟨bq, rfl, rfl⟩ hS; simp only [List.cons_append, List.nil_append] at hS) | (go_at_call 134; with_reducible refine Ct.callN (polNew_ct) hS ?_; clear hS; rintro _ _ w ⟨bo, rfl, rfl⟩ hS; simp only [List.cons_append, List.nil_append] at hS) | (go_at_call 135; with_reducible refine Ct.call0 (kR) hS ?_; clear hS; intro w hS))
  go_ret
  exact ⟨_, ⟨⟨nb, bw, br, bp, bc, bq, bo⟩, rfl, rfl⟩, hfin (A := ⟨nb, bw, br, bp, bc, bq, bo⟩) hS⟩
end Go.Proofs.YtcegknecikbbkaaGreat

/- What buffer's functions come to. -/
set_option linter.unusedVariables false
set_option linter.unusedSimpArgs false
set_option maxRecDepth 4000
namespace Go.Proofs.YtcegknecikbbkaaGreat
open Go.RowKit
abbrev bufR (b : Nat) (w t s r : Int) : Res := pts b [.int .u64 w, .int .u64 t, .int .u64 s, .int .u64 r] 237
theorem bufNew_ct (n : Int) : Ct Tryz.prog 94 #[.int .i64 n] [] (fun v L => ∃ b, v = .pointer (some ⟨b, 0, none⟩) ∧ L = [bufR b 0 0 0 (min (max n 0) 1073741824)]) := by
  intro w0 F L w hS
  simp only [List.cons_append, List.nil_append] at hS
  go_enter Tryz.func94, Tryz.ntmps94
  go_wp2_with (first | go_skip | (refine ck_box hS rfl rfl (by constructor) ?_; clear hS; intro nb w hS; simp only [Act.put, spA, spZ, spS]) | (refine ck_max rfl rfl rfl rfl ?_; simp only [Act.put, spA, spZ, spS]) | (refine ck_min rfl rfl rfl rfl ?_; simp only [Act.put, spA, spZ, spS]) )
  go_ret
  exact ⟨_, ⟨_, rfl, rfl⟩, hS⟩
section
variable (b : Nat) (wr tk bs room n : Int)
theorem bufUnsent_ct (h0 : 0 ≤ tk) (h1 : tk ≤ wr) (h2 : wr < 4611686018427387904) : Ct Tryz.prog 197 #[.pointer (some ⟨b, 0, none⟩)] [bufR b wr tk bs room] (Gives (.int .u64 (wr - tk)) [bufR b wr tk bs room]) := by
  intro w0 F L w hS
  simp only [List.cons_append, List.nil_append] at hS
  go_enter Tryz.func197, Tryz.ntmps197
  go_wp2_with (first | go_skip  | (refine ck_region (fun _ => 0) (fun _ => []) [] hS (by kernel_rfl) (by decide +kernel) ?_ ?_; exact ⟨fun _ _ _ h => h.2, fun _ _ h => h⟩; clear hS; intro w hS _; (repeat (first | (apply wpT_pure rfl rfl; (intro _; go_simp; (try (go_ints; (try go_simp))); (first | (rw [decide_eq_true]; omega) | (rw [decide_eq_false]; omega) | rfl | rw [if_pos (by omega)])); simp only [Act.put, spA, spZ, spS]) | (refine ckT_load hS rfl rfl rfl (by simp <;> fail) (by (repeat (first | exact mH _ | apply mT)) <;> fail) rfl (by decide +kernel) ?_; simp only [Act.put, spA, spZ, spS]) )); refine wpT_nil ?_))
  go_ret
  exact ⟨_, ⟨rfl, rfl⟩, hS⟩
theorem bufUnsentZ_ct : Ct Tryz.prog 197 #[.pointer none] [] (Gives (.int .u64 0) []) := by
  intro w0 F L w hS
  simp only [List.cons_append, List.nil_append] at hS
  go_enter Tryz.func197, Tryz.ntmps197
  go_wp2_with (first | go_skip  | (refine ck_region (fun _ => 0) (fun _ => []) [] hS (by kernel_rfl) (by decide +kernel) ?_ ?_; exact ⟨fun _ _ _ h => h.2, fun _ _ h => h⟩; clear hS; intro w hS _; (repeat (first | (apply wpT_pure rfl rfl; (intro _; go_simp; (try (go_ints; (try go_simp))); (first | (rw [decide_eq_true]; omega) | (rw [decide_eq_false]; omega) | rfl | rw [if_pos (by omega)])); simp only [Act.put, spA, spZ, spS]) | (refine ckT_load hS rfl rfl rfl (by simp <;> fail) (by (repeat (first | exact mH _ | apply mT)) <;> fail) rfl (by decide +kernel) ?_; simp only [Act.put, spA, spZ, spS]) )); refine wpT_nil ?_))
  go_ret
  exact ⟨_, ⟨rfl, rfl⟩, hS⟩
theorem bufHeld_ct (h0 : 0 ≤ bs) (h1 : bs ≤ wr) (h2 : wr < 4611686018427387904) : Ct Tryz.prog 188 #[.pointer (some ⟨b, 0, none⟩)] [bufR b wr tk bs room] (Gives (.int .u64 (wr - bs)) [bufR b wr tk bs room]) := by
  intro w0 F L w hS
  simp only [List.cons_append, List.nil_append] at hS
  go_enter Tryz.func188, Tryz.ntmps188
  go_wp2_with (first | go_skip  | (refine ck_region (fun _ => 0) (fun _ => []) [] hS (by kernel_rfl) (by decide +kernel) ?_ ?_; exact ⟨fun _ _ _ h => h.2, fun _ _ h => h⟩; clear hS; intro w hS _; (repeat (first | (apply wpT_pure rfl rfl; (intro _; go_simp; (try (go_ints; (try go_simp))); (first | (rw [decide_eq_true]; omega) | (rw [decide_eq_false]; omega) | rfl | rw [if_pos (by omega)])); simp only [Act.put, spA, spZ, spS]) | (refine ckT_load hS rfl rfl rfl (by simp <;> fail) (by (repeat (first | exact mH _ | apply mT)) <;> fail) rfl (by decide +kernel) ?_; simp only [Act.put, spA, spZ, spS]) )); refine wpT_nil ?_))
  go_ret
  exact ⟨_, ⟨rfl, rfl⟩, hS⟩
theorem bufHeldZ_ct : Ct Tryz.prog 188 #[.pointer none] [] (Gives (.int .u64 0) []) := by
  intro w0 F L w hS
  simp only [List.cons_append, List.nil_append] at hS
  go_enter Tryz.func188, Tryz.ntmps188
  go_wp2_with (first | go_skip  | (refine ck_region (fun _ => 0) (fun _ => []) [] hS (by kernel_rfl) (by decide +kernel) ?_ ?_; exact ⟨fun _ _ _ h => h.2, fun _ _ h => h⟩; clear hS; intro w hS _; (repeat (first | (apply wpT_pure rfl rfl; (intro _; go_simp; (try (go_ints; (try go_simp))); (first | (rw [decide_eq_true]; omega) | (rw [decide_eq_false]; omega) | rfl | rw [if_pos (by omega)])); simp only [Act.put, spA, spZ, spS]) | (refine ckT_load hS rfl rfl rfl (by simp <;> fail) (by (repeat (first | exact mH _ | apply mT)) <;> fail) rfl (by decide +kernel) ?_; simp only [Act.put, spA, spZ, spS]) )); refine wpT_nil ?_))
  go_ret
  exact ⟨_, ⟨rfl, rfl⟩, hS⟩
theorem bufWriteZ_ct : Ct Tryz.prog 136 #[.pointer none, .int .i64 n] [] (Gives (.int .i64 2) []) := by
  intro w0 F L w hS
  simp only [List.cons_append, List.nil_append] at hS
  go_enter Tryz.func136, Tryz.ntmps136
  go_wp2_with (first | go_skip | (refine ck_load hS rfl rfl rfl (by (repeat (first | exact mH _ | apply mT)) <;> fail) rfl (by decide +kernel) ?_; simp only [Act.put, spA, spZ, spS]) | (refine ck_store hS rfl rfl rfl (by constructor) (by (repeat (first | exact uH _ _ _ | apply uT)) <;> fail) (by simp <;> omega) rfl (by decide +kernel) ?_; clear hS; intro w hS; simp only [Act.put, spA, spZ, spS] at hS ⊢)  | (refine ck_region (fun _ => 0) (fun _ => []) [] hS (by kernel_rfl) (by decide +kernel) ?_ ?_; exact ⟨fun _ _ _ h => h.2, fun _ _ h => h⟩; clear hS; intro w hS _; (repeat (first | (apply wpT_pure rfl rfl; (intro _; go_simp; (try (go_ints; (try go_simp))); (first | (rw [decide_eq_true]; omega) | (rw [decide_eq_false]; omega) | rfl | rw [if_pos (by omega)])); simp only [Act.put, spA, spZ, spS]) | (refine ckT_load hS rfl rfl rfl (by simp <;> fail) (by (repeat (first | exact mH _ | apply mT)) <;> fail) rfl (by decide +kernel) ?_; simp only [Act.put, spA, spZ, spS]) )); refine wpT_nil ?_))
  go_ret
  exact ⟨_, ⟨rfl, rfl⟩, hS⟩
theorem bufWriteArg_ct (h : n < 1) : Ct Tryz.prog 136 #[.pointer (some ⟨b, 0, none⟩), .int .i64 n] [bufR b wr tk bs room] (Gives (.int .i64 1) [bufR b wr tk bs room]) := by
  intro w0 F L w hS
  simp only [List.cons_append, List.nil_append] at hS
  go_enter Tryz.func136, Tryz.ntmps136
  go_wp2_with (first | go_skip | (refine ck_load hS rfl rfl rfl (by (repeat (first | exact mH _ | apply mT)) <;> fail) rfl (by decide +kernel) ?_; simp only [Act.put, spA, spZ, spS]) | (refine ck_store hS rfl rfl rfl (by constructor) (by (repeat (first | exact uH _ _ _ | apply uT)) <;> fail) (by simp <;> omega) rfl (by decide +kernel) ?_; clear hS; intro w hS; simp only [Act.put, spA, spZ, spS] at hS ⊢)  | (refine ck_region (fun _ => 0) (fun _ => []) [] hS (by kernel_rfl) (by decide +kernel) ?_ ?_; exact ⟨fun _ _ _ h => h.2, fun _ _ h => h⟩; clear hS; intro w hS _; (repeat (first | (apply wpT_pure rfl rfl; (intro _; go_simp; (try (go_ints; (try go_simp))); (first | (rw [decide_eq_true]; omega) | (rw [decide_eq_false]; omega) | rfl | rw [if_pos (by omega)])); simp only [Act.put, spA, spZ, spS]) | (refine ckT_load hS rfl rfl rfl (by simp <;> fail) (by (repeat (first | exact mH _ | apply mT)) <;> fail) rfl (by decide +kernel) ?_; simp only [Act.put, spA, spZ, spS]) )); refine wpT_nil ?_))
  go_ret
  exact ⟨_, ⟨rfl, rfl⟩, hS⟩
theorem bufWriteFull_ct (h : 1 ≤ n) (h3 : n ≤ 9223372036854775807) (h0 : 0 ≤ bs) (h1 : bs ≤ wr) (h2 : wr < 4611686018427387904) (h4 : wr - bs ≤ room) (h5 : room ≤ 1073741824) (hn : room - (wr - bs) < n) :
    Ct Tryz.prog 136 #[.pointer (some ⟨b, 0, none⟩), .int .i64 n] [bufR b wr tk bs room] (Gives (.int .i64 5) [bufR b wr tk bs room]) := by
  intro w0 F L w hS
  simp only [List.cons_append, List.nil_append] at hS
  go_enter Tryz.func136, Tryz.ntmps136
  go_wp2_with (first | go_skip | (refine ck_load hS rfl rfl rfl (by (repeat (first | exact mH _ | apply mT)) <;> fail) rfl (by decide +kernel) ?_; simp only [Act.put, spA, spZ, spS]) | (refine ck_store hS rfl rfl rfl (by constructor) (by (repeat (first | exact uH _ _ _ | apply uT)) <;> fail) (by simp <;> omega) rfl (by decide +kernel) ?_; clear hS; intro w hS; simp only [Act.put, spA, spZ, spS] at hS ⊢) | (refine ck_region (fun _ => b) (fun i => if i = 7 then [5] else []) ([5]) hS (by kernel_rfl) (by decide +kernel) ?_ ?_; exact ⟨fun _ _ _ h => h.2, fun _ _ h => h⟩; clear hS; intro w hS _; (repeat (first | (apply wpT_pure rfl rfl; (intro _; go_simp; (try (go_ints; (try go_simp))); (first | (rw [decide_eq_true]; omega) | (rw [decide_eq_false]; omega) | rfl | rw [if_pos (by omega)])); simp only [Act.put, spA, spZ, spS]) | (refine ckT_load hS rfl rfl rfl (by simp <;> fail) (by (repeat (first | exact mH _ | apply mT)) <;> fail) rfl (by decide +kernel) ?_; simp only [Act.put, spA, spZ, spS]) | ((refine ckT_callU hS rfl (bufHeld_ct b wr tk bs room h0 h1 h2) (by (repeat (first | exact uH _ _ _ | apply uT)) <;> fail) rfl (by kernel_rfl) rfl (by intro j hj; simp at hj <;> (first | (subst hj; exact Or.inr ⟨_, _, (by (repeat (first | exact mH _ | apply mT)) <;> fail), (by (repeat (first | exact mH _ | apply mT)) <;> fail)⟩) | (rcases hj with rfl | rfl <;> exact Or.inr ⟨_, _, (by (repeat (first | exact mH _ | apply mT)) <;> fail), (by (repeat (first | exact mH _ | apply mT)) <;> fail)⟩) | (rcases hj with rfl | rfl | rfl <;> exact Or.inr ⟨_, _, (by (repeat (first | exact mH _ | apply mT)) <;> fail), (by (repeat (first | exact mH _ | apply mT)) <;> fail)⟩) | (rcases hj with rfl | rfl | rfl | rfl <;> exact Or.inr ⟨_, _, (by (repeat (first | exact mH _ | apply mT)) <;> fail), (by (repeat (first | exact mH _ | apply mT)) <;> fail)⟩))) ?_) <;> (first | (clear hS; intro w hS) | omega); simp only [Act.put, spA, spZ, spS]))); refine wpT_nil ?_) | (refine ck_region (fun _ => 0) (fun _ => []) [] hS (by kernel_rfl) (by decide +kernel) ?_ ?_; exact ⟨fun _ _ _ h => h.2, fun _ _ h => h⟩; clear hS; intro w hS _; (repeat (first | (apply wpT_pure rfl rfl; (intro _; go_simp; (try (go_ints; (try go_simp))); (first | (rw [decide_eq_true]; omega) | (rw [decide_eq_false]; omega) | rfl | rw [if_pos (by omega)])); simp only [Act.put, spA, spZ, spS]) | (refine ckT_load hS rfl rfl rfl (by simp <;> fail) (by (repeat (first | exact mH _ | apply mT)) <;> fail) rfl (by decide +kernel) ?_; simp only [Act.put, spA, spZ, spS]) )); refine wpT_nil ?_))
  go_ret
  exact ⟨_, ⟨rfl, rfl⟩, hS⟩
theorem bufWriteOk_ct (h : 1 ≤ n) (h3 : n ≤ 9223372036854775807) (h0 : 0 ≤ bs) (h1 : bs ≤ wr) (h2 : wr < 4611686018427387904) (h4 : wr - bs ≤ room) (h5 : room ≤ 1073741824) (hn : n ≤ room - (wr - bs)) :
    Ct Tryz.prog 136 #[.pointer (some ⟨b, 0, none⟩), .int .i64 n] [bufR b wr tk bs room] (Gives (.int .i64 0) [bufR b (wr + n) tk bs room]) := by
  intro w0 F L w hS
  simp only [List.cons_append, List.nil_append] at hS
  go_enter Tryz.func136, Tryz.ntmps136
  go_wp2_with (first | go_skip | (refine ck_load hS rfl rfl rfl (by (repeat (first | exact mH _ | apply mT)) <;> fail) rfl (by decide +kernel) ?_; simp only [Act.put, spA, spZ, spS]) | (refine ck_store hS rfl rfl rfl (by constructor) (by (repeat (first | exact uH _ _ _ | apply uT)) <;> fail) (by simp <;> omega) rfl (by decide +kernel) ?_; clear hS; intro w hS; simp only [Act.put, spA, spZ, spS] at hS ⊢) | (refine ck_region (fun _ => b) (fun i => if i = 7 then [5] else []) ([5]) hS (by kernel_rfl) (by decide +kernel) ?_ ?_; exact ⟨fun _ _ _ h => h.2, fun _ _ h => h⟩; clear hS; intro w hS _; (repeat (first | (apply wpT_pure rfl rfl; (intro _; go_simp; (try (go_ints; (try go_simp))); (first | (rw [decide_eq_true]; omega) | (rw [decide_eq_false]; omega) | rfl | rw [if_pos (by omega)])); simp only [Act.put, spA, spZ, spS]) | (refine ckT_load hS rfl rfl rfl (by simp <;> fail) (by (repeat (first | exact mH _ | apply mT)) <;> fail) rfl (by decide +kernel) ?_; simp only [Act.put, spA, spZ, spS]) | ((refine ckT_callU hS rfl (bufHeld_ct b wr tk bs room h0 h1 h2) (by (repeat (first | exact uH _ _ _ | apply uT)) <;> fail) rfl (by kernel_rfl) rfl (by intro j hj; simp at hj <;> (first | (subst hj; exact Or.inr ⟨_, _, (by (repeat (first | exact mH _ | apply mT)) <;> fail), (by (repeat (first | exact mH _ | apply mT)) <;> fail)⟩) | (rcases hj with rfl | rfl <;> exact Or.inr ⟨_, _, (by (repeat (first | exact mH _ | apply mT)) <;> fail), (by (repeat (first | exact mH _ | apply mT)) <;> fail)⟩) | (rcases hj with rfl | rfl | rfl <;> exact Or.inr ⟨_, _, (by (repeat (first | exact mH _ | apply mT)) <;> fail), (by (repeat (first | exact mH _ | apply mT)) <;> fail)⟩) | (rcases hj with rfl | rfl | rfl | rfl <;> exact Or.inr ⟨_, _, (by (repeat (first | exact mH _ | apply mT)) <;> fail), (by (repeat (first | exact mH _ | apply mT)) <;> fail)⟩))) ?_) <;> (first | (clear hS; intro w hS) | omega); simp only [Act.put, spA, spZ, spS]))); refine wpT_nil ?_) | (refine ck_region (fun _ => 0) (fun _ => []) [] hS (by kernel_rfl) (by decide +kernel) ?_ ?_; exact ⟨fun _ _ _ h => h.2, fun _ _ h => h⟩; clear hS; intro w hS _; (repeat (first | (apply wpT_pure rfl rfl; (intro _; go_simp; (try (go_ints; (try go_simp))); (first | (rw [decide_eq_true]; omega) | (rw [decide_eq_false]; omega) | rfl | rw [if_pos (by omega)])); simp only [Act.put, spA, spZ, spS]) | (refine ckT_load hS rfl rfl rfl (by simp <;> fail) (by (repeat (first | exact mH _ | apply mT)) <;> fail) rfl (by decide +kernel) ?_; simp only [Act.put, spA, spZ, spS]) )); refine wpT_nil ?_))
  go_ret
  exact ⟨_, ⟨rfl, rfl⟩, hS⟩
theorem bufAckedZ_ct : Ct Tryz.prog 138 #[.pointer none, .int .u64 n] [] (Gives (.int .i64 2) []) := by
  intro w0 F L w hS
  simp only [List.cons_append, List.nil_append] at hS
  go_enter Tryz.func138, Tryz.ntmps138
  go_wp2_with (first | go_skip | (refine ck_load hS rfl rfl rfl (by (repeat (first | exact mH _ | apply mT)) <;> fail) rfl (by decide +kernel) ?_; simp only [Act.put, spA, spZ, spS]) | (refine ck_store hS rfl rfl rfl (by constructor) (by (repeat (first | exact uH _ _ _ | apply uT)) <;> fail) (by simp <;> omega) rfl (by decide +kernel) ?_; clear hS; intro w hS; simp only [Act.put, spA, spZ, spS] at hS ⊢) | (refine ck_max rfl rfl rfl rfl ?_; simp only [Act.put, spA, spZ, spS]) | (refine ck_min rfl rfl rfl rfl ?_; simp only [Act.put, spA, spZ, spS]) )
  go_ret
  exact ⟨_, ⟨rfl, rfl⟩, hS⟩
theorem bufAckedNo_ct (h : tk < n) : Ct Tryz.prog 138 #[.pointer (some ⟨b, 0, none⟩), .int .u64 n] [bufR b wr tk bs room] (Gives (.int .i64 11) [bufR b wr tk bs room]) := by
  intro w0 F L w hS
  simp only [List.cons_append, List.nil_append] at hS
  go_enter Tryz.func138, Tryz.ntmps138
  go_wp2_with (first | go_skip | (refine ck_load hS rfl rfl rfl (by (repeat (first | exact mH _ | apply mT)) <;> fail) rfl (by decide +kernel) ?_; simp only [Act.put, spA, spZ, spS]) | (refine ck_store hS rfl rfl rfl (by constructor) (by (repeat (first | exact uH _ _ _ | apply uT)) <;> fail) (by simp <;> omega) rfl (by decide +kernel) ?_; clear hS; intro w hS; simp only [Act.put, spA, spZ, spS] at hS ⊢) | (refine ck_max rfl rfl rfl rfl ?_; simp only [Act.put, spA, spZ, spS]) | (refine ck_min rfl rfl rfl rfl ?_; simp only [Act.put, spA, spZ, spS]) )
  go_ret
  exact ⟨_, ⟨rfl, rfl⟩, hS⟩
theorem bufAckedOk_ct (h : n ≤ tk) : Ct Tryz.prog 138 #[.pointer (some ⟨b, 0, none⟩), .int .u64 n] [bufR b wr tk bs room] (Gives (.int .i64 0) [bufR b wr tk (max bs n) room]) := by
  intro w0 F L w hS
  simp only [List.cons_append, List.nil_append] at hS
  go_enter Tryz.func138, Tryz.ntmps138
  go_wp2_with (first | go_skip | (refine ck_load hS rfl rfl rfl (by (repeat (first | exact mH _ | apply mT)) <;> fail) rfl (by decide +kernel) ?_; simp only [Act.put, spA, spZ, spS]) | (refine ck_store hS rfl rfl rfl (by constructor) (by (repeat (first | exact uH _ _ _ | apply uT)) <;> fail) (by simp <;> omega) rfl (by decide +kernel) ?_; clear hS; intro w hS; simp only [Act.put, spA, spZ, spS] at hS ⊢) | (refine ck_max rfl rfl rfl rfl ?_; simp only [Act.put, spA, spZ, spS]) | (refine ck_min rfl rfl rfl rfl ?_; simp only [Act.put, spA, spZ, spS]) )
  go_ret
  exact ⟨_, ⟨rfl, rfl⟩, hS⟩
end
end Go.Proofs.YtcegknecikbbkaaGreat

/- Take, of buffer and of its reference. -/
set_option linter.unusedVariables false
set_option linter.unusedSimpArgs false
set_option maxRecDepth 4000
namespace Go.Proofs.YtcegknecikbbkaaGreat
open Go.RowKit
abbrev rngV (x y : Int) : Value := .agg #[.int .u64 x, .int .u64 y]
section
variable (b : Nat) (wr tk bs room n : Int)
set_option maxHeartbeats 400000 in
theorem bufTakeOk_ct (h0 : 0 ≤ tk) (h1 : tk < wr) (h2 : wr < 4611686018427387904) (h3 : 1 ≤ n) (h4 : n ≤ 9223372036854775807) :
    Ct Tryz.prog 146 #[.pointer (some ⟨b, 0, none⟩), .int .i64 n] [bufR b wr tk bs room] (Gives (.tuple #[rngV tk (tk + min n (wr - tk)), .bool true]) [bufR b wr (tk + min n (wr - tk)) bs room]) := by
  have h5 : (min n (wr - tk) == 0) = false := by simp; omega
  intro w0 F L w hS
  simp only [List.cons_append, List.nil_append] at hS
  go_enter Tryz.func146, Tryz.ntmps146
  go_wp2_with (first | go_skip | (refine ck_load hS rfl rfl rfl (by (repeat (first | exact mH _ | apply mT)) <;> fail) rfl (by decide +kernel) ?_; simp only [Act.put, spA, spZ, spS]) | (refine ck_store hS rfl rfl rfl (by constructor) (by (repeat (first | exact uH _ _ _ | apply uT)) <;> fail) (by simp <;> omega) rfl (by decide +kernel) ?_; clear hS; intro w hS; simp only [Act.put, spA, spZ, spS] at hS ⊢) | (refine ck_max rfl rfl rfl rfl ?_; simp only [Act.put, spA, spZ, spS]) | (refine ck_min rfl rfl rfl rfl ?_; simp only [Act.put, spA, spZ, spS]) | (refine ck_alloc (t := 269) (v := .agg (List.toArray [.int .u64 0, .int .u64 0])) (cs := [.int .u64 0, .int .u64 0]) hS rfl rfl (by kernel_rfl) rfl ?_; clear hS; intro nb w hS; simp only [Act.put, spA, spZ, spS]) | (refine ck_storeAll hS rfl rfl rfl rfl (by (repeat (first | exact uH _ _ _ | apply uT)) <;> fail) (by rfl) rfl (by (try simp only [List.length_cons, List.length_nil, Nat.zero_add, Nat.reduceAdd]); decide +kernel) ?_; clear hS; intro w hS; simp only [Act.put, spA, spZ, spS]) | (refine ck_loadAll hS rfl rfl rfl (by (repeat (first | exact mH _ | apply mT)) <;> fail) rfl (by (try simp only [List.length_cons, List.length_nil, Nat.zero_add, Nat.reduceAdd]); decide +kernel) ?_; simp only [Act.put, spA, spZ, spS]) | (refine ck_region (fun _ => 0) (fun _ => []) [] hS (by kernel_rfl) (by decide +kernel) ?_ ?_; exact ⟨fun _ _ _ h => h.2, fun _ _ h => h⟩; clear hS; intro w hS _; (repeat (first | (apply wpT_pure rfl rfl; (intro _; go_simp; (try (go_ints; (try go_simp))); (first | (rw [decide_eq_true]; omega) | (rw [decide_eq_false]; omega) | rfl | rw [if_pos (by omega)])); simp only [Act.put, spA, spZ, spS]) | (refine ckT_load hS rfl rfl rfl (by simp <;> fail) (by (repeat (first | exact mH _ | apply mT)) <;> fail) rfl (by decide +kernel) ?_; simp only [Act.put, spA, spZ, spS]) | (refine ckT_store hS rfl rfl rfl (by constructor) (by (repeat (first | exact uH _ _ _ | apply uT)) <;> fail) (by simp <;> fail) rfl (by decide +kernel) (by simp <;> fail) ?_; clear hS; intro w hS; simp only [Act.put, spA, spZ, spS] at hS ⊢) )); refine wpT_nil ?_))
  go_step3
  go_wp2_with (first | go_skip | (refine ck_load hS rfl rfl rfl (by (repeat (first | exact mH _ | apply mT)) <;> fail) rfl (by decide +kernel) ?_; simp only [Act.put, spA, spZ, spS]) | (refine ck_store hS rfl rfl rfl (by constructor) (by (repeat (first | exact uH _ _ _ | apply uT)) <;> fail) (by simp <;> omega) rfl (by decide +kernel) ?_; clear hS; intro w hS; simp only [Act.put, spA, spZ, spS] at hS ⊢) | (refine ck_max rfl rfl rfl rfl ?_; simp only [Act.put, spA, spZ, spS]) | (refine ck_min rfl rfl rfl rfl ?_; simp only [Act.put, spA, spZ, spS]) | (refine ck_alloc (t := 269) (v := .agg (List.toArray [.int .u64 0, .int .u64 0])) (cs := [.int .u64 0, .int .u64 0]) hS rfl rfl (by kernel_rfl) rfl ?_; clear hS; intro nb w hS; simp only [Act.put, spA, spZ, spS]) | (refine ck_storeAll hS rfl rfl rfl rfl (by (repeat (first | exact uH _ _ _ | apply uT)) <;> fail) (by rfl) rfl (by (try simp only [List.length_cons, List.length_nil, Nat.zero_add, Nat.reduceAdd]); decide +kernel) ?_; clear hS; intro w hS; simp only [Act.put, spA, spZ, spS]) | (refine ck_loadAll hS rfl rfl rfl (by (repeat (first | exact mH _ | apply mT)) <;> fail) rfl (by (try simp only [List.length_cons, List.length_nil, Nat.zero_add, Nat.reduceAdd]); decide +kernel) ?_; simp only [Act.put, spA, spZ, spS]) | (refine ck_region (fun _ => 0) (fun _ => []) [] hS (by kernel_rfl) (by decide +kernel) ?_ ?_; exact ⟨fun _ _ _ h => h.2, fun _ _ h => h⟩; clear hS; intro w hS _; (repeat (first | (apply wpT_pure rfl rfl; (intro _; go_simp; (try (go_ints; (try go_simp))); (first | (rw [decide_eq_true]; omega) | (rw [decide_eq_false]; omega) | rfl | rw [if_pos (by omega)])); simp only [Act.put, spA, spZ, spS]) | (refine ckT_load hS rfl rfl rfl (by simp <;> fail) (by (repeat (first | exact mH _ | apply mT)) <;> fail) rfl (by decide +kernel) ?_; simp only [Act.put, spA, spZ, spS]) | (refine ckT_store hS rfl rfl rfl (by constructor) (by (repeat (first | exact uH _ _ _ | apply uT)) <;> fail) (by simp <;> fail) rfl (by decide +kernel) (by simp <;> fail) ?_; clear hS; intro w hS; simp only [Act.put, spA, spZ, spS] at hS ⊢) )); refine wpT_nil ?_))
  go_step3
  go_wp2_with (first | go_skip | (refine ck_load hS rfl rfl rfl (by (repeat (first | exact mH _ | apply mT)) <;> fail) rfl (by decide +kernel) ?_; simp only [Act.put, spA, spZ, spS]) | (refine ck_store hS rfl rfl rfl (by constructor) (by (repeat (first | exact uH _ _ _ | apply uT)) <;> fail) (by simp <;> omega) rfl (by decide +kernel) ?_; clear hS; intro w hS; simp only [Act.put, spA, spZ, spS] at hS ⊢) | (refine ck_max rfl rfl rfl rfl ?_; simp only [Act.put, spA, spZ, spS]) | (refine ck_min rfl rfl rfl rfl ?_; simp only [Act.put, spA, spZ, spS]) | (refine ck_alloc (t := 269) (v := .agg (List.toArray [.int .u64 0, .int .u64 0])) (cs := [.int .u64 0, .int .u64 0]) hS rfl rfl (by kernel_rfl) rfl ?_; clear hS; intro nb w hS; simp only [Act.put, spA, spZ, spS]) | (refine ck_storeAll hS rfl rfl rfl rfl (by (repeat (first | exact uH _ _ _ | apply uT)) <;> fail) (by rfl) rfl (by (try simp only [List.length_cons, List.length_nil, Nat.zero_add, Nat.reduceAdd]); decide +kernel) ?_; clear hS; intro w hS; simp only [Act.put, spA, spZ, spS]) | (refine ck_loadAll hS rfl rfl rfl (by (repeat (first | exact mH _ | apply mT)) <;> fail) rfl (by (try simp only [List.length_cons, List.length_nil, Nat.zero_add, Nat.reduceAdd]); decide +kernel) ?_; simp only [Act.put, spA, spZ, spS]) | (refine ck_region (fun _ => 0) (fun _ => []) [] hS (by kernel_rfl) (by decide +kernel) ?_ ?_; exact ⟨fun _ _ _ h => h.2, fun _ _ h => h⟩; clear hS; intro w hS _; (repeat (first | (apply wpT_pure rfl rfl; (intro _; go_simp; (try (go_ints; (try go_simp))); (first | (rw [decide_eq_true]; omega) | (rw [decide_eq_false]; omega) | rfl | rw [if_pos (by omega)])); simp only [Act.put, spA, spZ, spS]) | (refine ckT_load hS rfl rfl rfl (by simp <;> fail) (by (repeat (first | exact mH _ | apply mT)) <;> fail) rfl (by decide +kernel) ?_; simp only [Act.put, spA, spZ, spS]) | (refine ckT_store hS rfl rfl rfl (by constructor) (by (repeat (first | exact uH _ _ _ | apply uT)) <;> fail) (by simp <;> fail) rfl (by decide +kernel) (by simp <;> fail) ?_; clear hS; intro w hS; simp only [Act.put, spA, spZ, spS] at hS ⊢) )); refine wpT_nil ?_))
  refine wp_loop_once ?_
  go_wp2_with (first | go_skip | (refine ck_load hS rfl rfl rfl (by (repeat (first | exact mH _ | apply mT)) <;> fail) rfl (by decide +kernel) ?_; simp only [Act.put, spA, spZ, spS]) | (refine ck_store hS rfl rfl rfl (by constructor) (by (repeat (first | exact uH _ _ _ | apply uT)) <;> fail) (by simp <;> omega) rfl (by decide +kernel) ?_; clear hS; intro w hS; simp only [Act.put, spA, spZ, spS] at hS ⊢) | (refine ck_max rfl rfl rfl rfl ?_; simp only [Act.put, spA, spZ, spS]) | (refine ck_min rfl rfl rfl rfl ?_; simp only [Act.put, spA, spZ, spS]) | (refine ck_alloc (t := 269) (v := .agg (List.toArray [.int .u64 0, .int .u64 0])) (cs := [.int .u64 0, .int .u64 0]) hS rfl rfl (by kernel_rfl) rfl ?_; clear hS; intro nb w hS; simp only [Act.put, spA, spZ, spS]) | (refine ck_storeAll hS rfl rfl rfl rfl (by (repeat (first | exact uH _ _ _ | apply uT)) <;> fail) (by rfl) rfl (by (try simp only [List.length_cons, List.length_nil, Nat.zero_add, Nat.reduceAdd]); decide +kernel) ?_; clear hS; intro w hS; simp only [Act.put, spA, spZ, spS]) | (refine ck_loadAll hS rfl rfl rfl (by (repeat (first | exact mH _ | apply mT)) <;> fail) rfl (by (try simp only [List.length_cons, List.length_nil, Nat.zero_add, Nat.reduceAdd]); decide +kernel) ?_; simp only [Act.put, spA, spZ, spS]) | (go_at_call 197; (with_reducible refine Ct.callU (bufUnsent_ct b wr tk bs room h0 (by omega) h2) (by (repeat (first | exact uH _ _ _ | apply uT)) <;> fail) hS ?_) <;> (first | (clear hS; intro w hS) | omega)) | (refine ck_region (fun _ => 0) (fun _ => []) [] hS (by kernel_rfl) (by decide +kernel) ?_ ?_; exact ⟨fun _ _ _ h => h.2, fun _ _ h => h⟩; clear hS; intro w hS _; (repeat (first | (apply wpT_pure rfl rfl; (intro _; go_simp; (try (go_ints; (try go_simp))); (first | (rw [decide_eq_true]; omega) | (rw [decide_eq_false]; omega) | rfl | rw [if_pos (by omega)])); simp only [Act.put, spA, spZ, spS]) | (refine ckT_load hS rfl rfl rfl (by simp <;> fail) (by (repeat (first | exact mH _ | apply mT)) <;> fail) rfl (by decide +kernel) ?_; simp only [Act.put, spA, spZ, spS]) | (refine ckT_store hS rfl rfl rfl (by constructor) (by (repeat (first | exact uH _ _ _ | apply uT)) <;> fail) (by simp <;> fail) rfl (by decide +kernel) (by simp <;> fail) ?_; clear hS; intro w hS; simp only [Act.put, spA, spZ, spS] at hS ⊢) | (refine ckT_storeAll hS rfl rfl rfl rfl (by (repeat (first | exact uH _ _ _ | apply uT)) <;> fail) (by rfl) rfl (by (try simp only [List.length_cons, List.length_nil, Nat.zero_add, Nat.reduceAdd]); decide +kernel) (by simp <;> fail) ?_; clear hS; intro w hS; simp only [Act.put, spA, spZ, spS]))); refine wpT_nil ?_) | (refine ck_region (fun _ => 0) (fun _ => []) [] hS (by kernel_rfl) (by decide +kernel) ?_ ?_; exact ⟨fun _ _ _ h => h.2, fun _ _ h => h⟩; clear hS; intro w hS _; (repeat (first | (apply wpT_pure rfl rfl; (intro _; go_simp; (try (go_ints; (try go_simp))); (first | (rw [decide_eq_true]; omega) | (rw [decide_eq_false]; omega) | rfl | rw [if_pos (by omega)])); simp only [Act.put, spA, spZ, spS]) | (refine ckT_load hS rfl rfl rfl (by simp <;> fail) (by (repeat (first | exact mH _ | apply mT)) <;> fail) rfl (by decide +kernel) ?_; simp only [Act.put, spA, spZ, spS]) | (refine ckT_store hS rfl rfl rfl (by constructor) (by (repeat (first | exact uH _ _ _ | apply uT)) <;> fail) (by simp <;> fail) rfl (by decide +kernel) (by simp <;> fail) ?_; clear hS; intro w hS; simp only [Act.put, spA, spZ, spS] at hS ⊢) )); refine wpT_nil ?_))
  rw [Exit.noGoto_ret]
  refine bodyPost_ret (ckRes_cell_tmp hS (cs := _) (by (repeat (first | exact mH _ | apply mT)) <;> fail) rfl rfl rfl (by (try simp only [List.length_cons, List.length_nil, Nat.zero_add, Nat.reduceAdd]); decide +kernel)) rfl ?_
  exact ⟨_, ⟨rfl, rfl⟩, hS.drop.drop⟩
theorem bufTakeArg_ct (h3 : n < 1) :
    Ct Tryz.prog 146 #[.pointer (some ⟨b, 0, none⟩), .int .i64 n] [bufR b wr tk bs room] (Gives (.tuple #[rngV 0 0, .bool false]) [bufR b wr tk bs room]) := by
  intro w0 F L w hS
  simp only [List.cons_append, List.nil_append] at hS
  go_enter Tryz.func146, Tryz.ntmps146
  go_wp2_with (first | go_skip | (refine ck_load hS rfl rfl rfl (by (repeat (first | exact mH _ | apply mT)) <;> fail) rfl (by decide +kernel) ?_; simp only [Act.put, spA, spZ, spS]) | (refine ck_store hS rfl rfl rfl (by constructor) (by (repeat (first | exact uH _ _ _ | apply uT)) <;> fail) (by simp <;> omega) rfl (by decide +kernel) ?_; clear hS; intro w hS; simp only [Act.put, spA, spZ, spS] at hS ⊢) | (refine ck_max rfl rfl rfl rfl ?_; simp only [Act.put, spA, spZ, spS]) | (refine ck_min rfl rfl rfl rfl ?_; simp only [Act.put, spA, spZ, spS]) | (refine ck_alloc (t := 269) (v := .agg (List.toArray [.int .u64 0, .int .u64 0])) (cs := [.int .u64 0, .int .u64 0]) hS rfl rfl (by kernel_rfl) rfl ?_; clear hS; intro nb w hS; simp only [Act.put, spA, spZ, spS]) | (refine ck_storeAll hS rfl rfl rfl rfl (by (repeat (first | exact uH _ _ _ | apply uT)) <;> fail) (by rfl) rfl (by (try simp only [List.length_cons, List.length_nil, Nat.zero_add, Nat.reduceAdd]); decide +kernel) ?_; clear hS; intro w hS; simp only [Act.put, spA, spZ, spS]) | (refine ck_loadAll hS rfl rfl rfl (by (repeat (first | exact mH _ | apply mT)) <;> fail) rfl (by (try simp only [List.length_cons, List.length_nil, Nat.zero_add, Nat.reduceAdd]); decide +kernel) ?_; simp only [Act.put, spA, spZ, spS]) | (refine ck_region (fun _ => 0) (fun _ => []) [] hS (by kernel_rfl) (by decide +kernel) ?_ ?_; exact ⟨fun _ _ _ h => h.2, fun _ _ h => h⟩; clear hS; intro w hS _; (repeat (first | (apply wpT_pure rfl rfl; (intro _; go_simp; (try (go_ints; (try go_simp))); (first | (rw [decide_eq_true]; omega) | (rw [decide_eq_false]; omega) | rfl | rw [if_pos (by omega)])); simp only [Act.put, spA, spZ, spS]) | (refine ckT_load hS rfl rfl rfl (by simp <;> fail) (by (repeat (first | exact mH _ | apply mT)) <;> fail) rfl (by decide +kernel) ?_; simp only [Act.put, spA, spZ, spS]) | (refine ckT_store hS rfl rfl rfl (by constructor) (by (repeat (first | exact uH _ _ _ | apply uT)) <;> fail) (by simp <;> fail) rfl (by decide +kernel) (by simp <;> fail) ?_; clear hS; intro w hS; simp only [Act.put, spA, spZ, spS] at hS ⊢) )); refine wpT_nil ?_))
  go_step3
  go_wp2_with (first | go_skip | (refine ck_load hS rfl rfl rfl (by (repeat (first | exact mH _ | apply mT)) <;> fail) rfl (by decide +kernel) ?_; simp only [Act.put, spA, spZ, spS]) | (refine ck_store hS rfl rfl rfl (by constructor) (by (repeat (first | exact uH _ _ _ | apply uT)) <;> fail) (by simp <;> omega) rfl (by decide +kernel) ?_; clear hS; intro w hS; simp only [Act.put, spA, spZ, spS] at hS ⊢) | (refine ck_max rfl rfl rfl rfl ?_; simp only [Act.put, spA, spZ, spS]) | (refine ck_min rfl rfl rfl rfl ?_; simp only [Act.put, spA, spZ, spS]) | (refine ck_alloc (t := 269) (v := .agg (List.toArray [.int .u64 0, .int .u64 0])) (cs := [.int .u64 0, .int .u64 0]) hS rfl rfl (by kernel_rfl) rfl ?_; clear hS; intro nb w hS; simp only [Act.put, spA, spZ, spS]) | (refine ck_storeAll hS rfl rfl rfl rfl (by (repeat (first | exact uH _ _ _ | apply uT)) <;> fail) (by rfl) rfl (by (try simp only [List.length_cons, List.length_nil, Nat.zero_add, Nat.reduceAdd]); decide +kernel) ?_; clear hS; intro w hS; simp only [Act.put, spA, spZ, spS]) | (refine ck_loadAll hS rfl rfl rfl (by (repeat (first | exact mH _ | apply mT)) <;> fail) rfl (by (try simp only [List.length_cons, List.length_nil, Nat.zero_add, Nat.reduceAdd]); decide +kernel) ?_; simp only [Act.put, spA, spZ, spS]) | (refine ck_region (fun _ => 0) (fun _ => []) [] hS (by kernel_rfl) (by decide +kernel) ?_ ?_; exact ⟨fun _ _ _ h => h.2, fun _ _ h => h⟩; clear hS; intro w hS _; (repeat (first | (apply wpT_pure rfl rfl; (intro _; go_simp; (try (go_ints; (try go_simp))); (first | (rw [decide_eq_true]; omega) | (rw [decide_eq_false]; omega) | rfl | rw [if_pos (by omega)])); simp only [Act.put, spA, spZ, spS]) | (refine ckT_load hS rfl rfl rfl (by simp <;> fail) (by (repeat (first | exact mH _ | apply mT)) <;> fail) rfl (by decide +kernel) ?_; simp only [Act.put, spA, spZ, spS]) | (refine ckT_store hS rfl rfl rfl (by constructor) (by (repeat (first | exact uH _ _ _ | apply uT)) <;> fail) (by simp <;> fail) rfl (by decide +kernel) (by simp <;> fail) ?_; clear hS; intro w hS; simp only [Act.put, spA, spZ, spS] at hS ⊢) )); refine wpT_nil ?_))
  go_step3
  go_wp2_with (first | go_skip | (refine ck_load hS rfl rfl rfl (by (repeat (first | exact mH _ | apply mT)) <;> fail) rfl (by decide +kernel) ?_; simp only [Act.put, spA, spZ, spS]) | (refine ck_store hS rfl rfl rfl (by constructor) (by (repeat (first | exact uH _ _ _ | apply uT)) <;> fail) (by simp <;> omega) rfl (by decide +kernel) ?_; clear hS; intro w hS; simp only [Act.put, spA, spZ, spS] at hS ⊢) | (refine ck_max rfl rfl rfl rfl ?_; simp only [Act.put, spA, spZ, spS]) | (refine ck_min rfl rfl rfl rfl ?_; simp only [Act.put, spA, spZ, spS]) | (refine ck_alloc (t := 269) (v := .agg (List.toArray [.int .u64 0, .int .u64 0])) (cs := [.int .u64 0, .int .u64 0]) hS rfl rfl (by kernel_rfl) rfl ?_; clear hS; intro nb w hS; simp only [Act.put, spA, spZ, spS]) | (refine ck_storeAll hS rfl rfl rfl rfl (by (repeat (first | exact uH _ _ _ | apply uT)) <;> fail) (by rfl) rfl (by (try simp only [List.length_cons, List.length_nil, Nat.zero_add, Nat.reduceAdd]); decide +kernel) ?_; clear hS; intro w hS; simp only [Act.put, spA, spZ, spS]) | (refine ck_loadAll hS rfl rfl rfl (by (repeat (first | exact mH _ | apply mT)) <;> fail) rfl (by (try simp only [List.length_cons, List.length_nil, Nat.zero_add, Nat.reduceAdd]); decide +kernel) ?_; simp only [Act.put, spA, spZ, spS]) | (refine ck_region (fun _ => 0) (fun _ => []) [] hS (by kernel_rfl) (by decide +kernel) ?_ ?_; exact ⟨fun _ _ _ h => h.2, fun _ _ h => h⟩; clear hS; intro w hS _; (repeat (first | (apply wpT_pure rfl rfl; (intro _; go_simp; (try (go_ints; (try go_simp))); (first | (rw [decide_eq_true]; omega) | (rw [decide_eq_false]; omega) | rfl | rw [if_pos (by omega)])); simp only [Act.put, spA, spZ, spS]) | (refine ckT_load hS rfl rfl rfl (by simp <;> fail) (by (repeat (first | exact mH _ | apply mT)) <;> fail) rfl (by decide +kernel) ?_; simp only [Act.put, spA, spZ, spS]) | (refine ckT_store hS rfl rfl rfl (by constructor) (by (repeat (first | exact uH _ _ _ | apply uT)) <;> fail) (by simp <;> fail) rfl (by decide +kernel) (by simp <;> fail) ?_; clear hS; intro w hS; simp only [Act.put, spA, spZ, spS] at hS ⊢) )); refine wpT_nil ?_))
  refine wp_loop_once ?_
  go_wp2_with (first | go_skip | (refine ck_load hS rfl rfl rfl (by (repeat (first | exact mH _ | apply mT)) <;> fail) rfl (by decide +kernel) ?_; simp only [Act.put, spA, spZ, spS]) | (refine ck_store hS rfl rfl rfl (by constructor) (by (repeat (first | exact uH _ _ _ | apply uT)) <;> fail) (by simp <;> omega) rfl (by decide +kernel) ?_; clear hS; intro w hS; simp only [Act.put, spA, spZ, spS] at hS ⊢) | (refine ck_max rfl rfl rfl rfl ?_; simp only [Act.put, spA, spZ, spS]) | (refine ck_min rfl rfl rfl rfl ?_; simp only [Act.put, spA, spZ, spS]) | (refine ck_alloc (t := 269) (v := .agg (List.toArray [.int .u64 0, .int .u64 0])) (cs := [.int .u64 0, .int .u64 0]) hS rfl rfl (by kernel_rfl) rfl ?_; clear hS; intro nb w hS; simp only [Act.put, spA, spZ, spS]) | (refine ck_storeAll hS rfl rfl rfl rfl (by (repeat (first | exact uH _ _ _ | apply uT)) <;> fail) (by rfl) rfl (by (try simp only [List.length_cons, List.length_nil, Nat.zero_add, Nat.reduceAdd]); decide +kernel) ?_; clear hS; intro w hS; simp only [Act.put, spA, spZ, spS]) | (refine ck_loadAll hS rfl rfl rfl (by (repeat (first | exact mH _ | apply mT)) <;> fail) rfl (by (try simp only [List.length_cons, List.length_nil, Nat.zero_add, Nat.reduceAdd]); decide +kernel) ?_; simp only [Act.put, spA, spZ, spS]) | (refine ck_region (fun _ => 0) (fun _ => []) [] hS (by kernel_rfl) (by decide +kernel) ?_ ?_; exact ⟨fun _ _ _ h => h.2, fun _ _ h => h⟩; clear hS; intro w hS _; (repeat (first | (apply wpT_pure rfl rfl; (intro _; go_simp; (try (go_ints; (try go_simp))); (first | (rw [decide_eq_true]; omega) | (rw [decide_eq_false]; omega) | rfl | rw [if_pos (by omega)])); simp only [Act.put, spA, spZ, spS]) | (refine ckT_load hS rfl rfl rfl (by simp <;> fail) (by (repeat (first | exact mH _ | apply mT)) <;> fail) rfl (by decide +kernel) ?_; simp only [Act.put, spA, spZ, spS]) | (refine ckT_store hS rfl rfl rfl (by constructor) (by (repeat (first | exact uH _ _ _ | apply uT)) <;> fail) (by simp <;> fail) rfl (by decide +kernel) (by simp <;> fail) ?_; clear hS; intro w hS; simp only [Act.put, spA, spZ, spS] at hS ⊢) )); refine wpT_nil ?_))
  rw [Exit.noGoto_ret]
  refine bodyPost_ret (ckRes_cell_tmp hS (cs := _) (by (repeat (first | exact mH _ | apply mT)) <;> fail) rfl rfl rfl (by (try simp only [List.length_cons, List.length_nil, Nat.zero_add, Nat.reduceAdd]); decide +kernel)) rfl ?_
  exact ⟨_, ⟨rfl, rfl⟩, hS.drop.drop⟩
theorem bufTakeNone_ct (h0 : 0 ≤ wr) (h2 : wr < 4611686018427387904) (h3 : 1 ≤ n) (h4 : n ≤ 9223372036854775807) :
    Ct Tryz.prog 146 #[.pointer (some ⟨b, 0, none⟩), .int .i64 n] [bufR b wr wr bs room] (Gives (.tuple #[rngV 0 0, .bool false]) [bufR b wr wr bs room]) := by
  have k := bufUnsent_ct b wr wr bs room h0 (by omega) h2
  rw [show wr - wr = 0 by omega] at k
  have e : min n 0 = 0 := by omega
  intro w0 F L w hS
  simp only [List.cons_append, List.nil_append] at hS
  go_enter Tryz.func146, Tryz.ntmps146
  go_wp2_with (first | go_skip | (refine ck_load hS rfl rfl rfl (by (repeat (first | exact mH _ | apply mT)) <;> fail) rfl (by decide +kernel) ?_; simp only [Act.put, spA, spZ, spS]) | (refine ck_store hS rfl rfl rfl (by constructor) (by (repeat (first | exact uH _ _ _ | apply uT)) <;> fail) (by simp <;> omega) rfl (by decide +kernel) ?_; clear hS; intro w hS; simp only [Act.put, spA, spZ, spS] at hS ⊢) | (refine ck_max rfl rfl rfl rfl ?_; simp only [Act.put, spA, spZ, spS]) | (refine ck_min rfl rfl rfl rfl ?_; simp only [Act.put, spA, spZ, spS]) | (refine ck_alloc (t := 269) (v := .agg (List.toArray [.int .u64 0, .int .u64 0])) (cs := [.int .u64 0, .int .u64 0]) hS rfl rfl (by kernel_rfl) rfl ?_; clear hS; intro nb w hS; simp only [Act.put, spA, spZ, spS]) | (refine ck_storeAll hS rfl rfl rfl rfl (by (repeat (first | exact uH _ _ _ | apply uT)) <;> fail) (by rfl) rfl (by (try simp only [List.length_cons, List.length_nil, Nat.zero_add, Nat.reduceAdd]); decide +kernel) ?_; clear hS; intro w hS; simp only [Act.put, spA, spZ, spS]) | (refine ck_loadAll hS rfl rfl rfl (by (repeat (first | exact mH _ | apply mT)) <;> fail) rfl (by (try simp only [List.length_cons, List.length_nil, Nat.zero_add, Nat.reduceAdd]); decide +kernel) ?_; simp only [Act.put, spA, spZ, spS]) | (refine ck_region (fun _ => 0) (fun _ => []) [] hS (by kernel_rfl) (by decide +kernel) ?_ ?_; exact ⟨fun _ _ _ h => h.2, fun _ _ h => h⟩; clear hS; intro w hS _; (repeat (first | (apply wpT_pure rfl rfl; (intro _; go_simp; (try (go_ints; (try go_simp))); (first | (rw [decide_eq_true]; omega) | (rw [decide_eq_false]; omega) | rfl | rw [if_pos (by omega)])); simp only [Act.put, spA, spZ, spS]) | (refine ckT_load hS rfl rfl rfl (by simp <;> fail) (by (repeat (first | exact mH _ | apply mT)) <;> fail) rfl (by decide +kernel) ?_; simp only [Act.put, spA, spZ, spS]) | (refine ckT_store hS rfl rfl rfl (by constructor) (by (repeat (first | exact uH _ _ _ | apply uT)) <;> fail) (by simp <;> fail) rfl (by decide +kernel) (by simp <;> fail) ?_; clear hS; intro w hS; simp only [Act.put, spA, spZ, spS] at hS ⊢) )); refine wpT_nil ?_))
  go_step3
  go_wp2_with (first | go_skip | (refine ck_load hS rfl rfl rfl (by (repeat (first | exact mH _ | apply mT)) <;> fail) rfl (by decide +kernel) ?_; simp only [Act.put, spA, spZ, spS]) | (refine ck_store hS rfl rfl rfl (by constructor) (by (repeat (first | exact uH _ _ _ | apply uT)) <;> fail) (by simp <;> omega) rfl (by decide +kernel) ?_; clear hS; intro w hS; simp only [Act.put, spA, spZ, spS] at hS ⊢) | (refine ck_max rfl rfl rfl rfl ?_; simp only [Act.put, spA, spZ, spS]) | (refine ck_min rfl rfl rfl rfl ?_; simp only [Act.put, spA, spZ, spS]) | (refine ck_alloc (t := 269) (v := .agg (List.toArray [.int .u64 0, .int .u64 0])) (cs := [.int .u64 0, .int .u64 0]) hS rfl rfl (by kernel_rfl) rfl ?_; clear hS; intro nb w hS; simp only [Act.put, spA, spZ, spS]) | (refine ck_storeAll hS rfl rfl rfl rfl (by (repeat (first | exact uH _ _ _ | apply uT)) <;> fail) (by rfl) rfl (by (try simp only [List.length_cons, List.length_nil, Nat.zero_add, Nat.reduceAdd]); decide +kernel) ?_; clear hS; intro w hS; simp only [Act.put, spA, spZ, spS]) | (refine ck_loadAll hS rfl rfl rfl (by (repeat (first | exact mH _ | apply mT)) <;> fail) rfl (by (try simp only [List.length_cons, List.length_nil, Nat.zero_add, Nat.reduceAdd]); decide +kernel) ?_; simp only [Act.put, spA, spZ, spS]) | (refine ck_region (fun _ => 0) (fun _ => []) [] hS (by kernel_rfl) (by decide +kernel) ?_ ?_; exact ⟨fun _ _ _ h => h.2, fun _ _ h => h⟩; clear hS; intro w hS _; (repeat (first | (apply wpT_pure rfl rfl; (intro _; go_simp; (try (go_ints; (try go_simp))); (first | (rw [decide_eq_true]; omega) | (rw [decide_eq_false]; omega) | rfl | rw [if_pos (by omega)])); simp only [Act.put, spA, spZ, spS]) | (refine ckT_load hS rfl rfl rfl (by simp <;> fail) (by (repeat (first | exact mH _ | apply mT)) <;> fail) rfl (by decide +kernel) ?_; simp only [Act.put, spA, spZ, spS]) | (refine ckT_store hS rfl rfl rfl (by constructor) (by (repeat (first | exact uH _ _ _ | apply uT)) <;> fail) (by simp <;> fail) rfl (by decide +kernel) (by simp <;> fail) ?_; clear hS; intro w hS; simp only [Act.put, spA, spZ, spS] at hS ⊢) )); refine wpT_nil ?_))
  go_step3
  go_wp2_with (first | go_skip | (refine ck_load hS rfl rfl rfl (by (repeat (first | exact mH _ | apply mT)) <;> fail) rfl (by decide +kernel) ?_; simp only [Act.put, spA, spZ, spS]) | (refine ck_store hS rfl rfl rfl (by constructor) (by (repeat (first | exact uH _ _ _ | apply uT)) <;> fail) (by simp <;> omega) rfl (by decide +kernel) ?_; clear hS; intro w hS; simp only [Act.put, spA, spZ, spS] at hS ⊢) | (refine ck_max rfl rfl rfl rfl ?_; simp only [Act.put, spA, spZ, spS]) | (refine ck_min rfl rfl rfl rfl ?_; simp only [Act.put, spA, spZ, spS]) | (refine ck_alloc (t := 269) (v := .agg (List.toArray [.int .u64 0, .int .u64 0])) (cs := [.int .u64 0, .int .u64 0]) hS rfl rfl (by kernel_rfl) rfl ?_; clear hS; intro nb w hS; simp only [Act.put, spA, spZ, spS]) | (refine ck_storeAll hS rfl rfl rfl rfl (by (repeat (first | exact uH _ _ _ | apply uT)) <;> fail) (by rfl) rfl (by (try simp only [List.length_cons, List.length_nil, Nat.zero_add, Nat.reduceAdd]); decide +kernel) ?_; clear hS; intro w hS; simp only [Act.put, spA, spZ, spS]) | (refine ck_loadAll hS rfl rfl rfl (by (repeat (first | exact mH _ | apply mT)) <;> fail) rfl (by (try simp only [List.length_cons, List.length_nil, Nat.zero_add, Nat.reduceAdd]); decide +kernel) ?_; simp only [Act.put, spA, spZ, spS]) | (refine ck_region (fun _ => 0) (fun _ => []) [] hS (by kernel_rfl) (by decide +kernel) ?_ ?_; exact ⟨fun _ _ _ h => h.2, fun _ _ h => h⟩; clear hS; intro w hS _; (repeat (first | (apply wpT_pure rfl rfl; (intro _; go_simp; (try (go_ints; (try go_simp))); (first | (rw [decide_eq_true]; omega) | (rw [decide_eq_false]; omega) | rfl | rw [if_pos (by omega)])); simp only [Act.put, spA, spZ, spS]) | (refine ckT_load hS rfl rfl rfl (by simp <;> fail) (by (repeat (first | exact mH _ | apply mT)) <;> fail) rfl (by decide +kernel) ?_; simp only [Act.put, spA, spZ, spS]) | (refine ckT_store hS rfl rfl rfl (by constructor) (by (repeat (first | exact uH _ _ _ | apply uT)) <;> fail) (by simp <;> fail) rfl (by decide +kernel) (by simp <;> fail) ?_; clear hS; intro w hS; simp only [Act.put, spA, spZ, spS] at hS ⊢) )); refine wpT_nil ?_))
  refine wp_loop_once ?_
  go_wp2_with (first | go_skip | (refine ck_load hS rfl rfl rfl (by (repeat (first | exact mH _ | apply mT)) <;> fail) rfl (by decide +kernel) ?_; simp only [Act.put, spA, spZ, spS]) | (refine ck_store hS rfl rfl rfl (by constructor) (by (repeat (first | exact uH _ _ _ | apply uT)) <;> fail) (by simp <;> omega) rfl (by decide +kernel) ?_; clear hS; intro w hS; simp only [Act.put, spA, spZ, spS] at hS ⊢) | (refine ck_max rfl rfl rfl rfl ?_; simp only [Act.put, spA, spZ, spS]) | (refine ck_min rfl rfl rfl rfl ?_; simp only [Act.put, spA, spZ, spS]) | (refine ck_alloc (t := 269) (v := .agg (List.toArray [.int .u64 0, .int .u64 0])) (cs := [.int .u64 0, .int .u64 0]) hS rfl rfl (by kernel_rfl) rfl ?_; clear hS; intro nb w hS; simp only [Act.put, spA, spZ, spS]) | (refine ck_storeAll hS rfl rfl rfl rfl (by (repeat (first | exact uH _ _ _ | apply uT)) <;> fail) (by rfl) rfl (by (try simp only [List.length_cons, List.length_nil, Nat.zero_add, Nat.reduceAdd]); decide +kernel) ?_; clear hS; intro w hS; simp only [Act.put, spA, spZ, spS]) | (refine ck_loadAll hS rfl rfl rfl (by (repeat (first | exact mH _ | apply mT)) <;> fail) rfl (by (try simp only [List.length_cons, List.length_nil, Nat.zero_add, Nat.reduceAdd]); decide +kernel) ?_; simp only [Act.put, spA, spZ, spS]) | (go_at_call 197; (with_reducible refine Ct.callU (k) (by (repeat (first | exact uH _ _ _ | apply uT)) <;> fail) hS ?_) <;> (first | (clear hS; intro w hS) | omega)) | (refine ck_region (fun _ => 0) (fun _ => []) [] hS (by kernel_rfl) (by decide +kernel) ?_ ?_; exact ⟨fun _ _ _ h => h.2, fun _ _ h => h⟩; clear hS; intro w hS _; (repeat (first | (apply wpT_pure rfl rfl; (intro _; go_simp; (try (go_ints; (try go_simp))); (first | (rw [decide_eq_true]; omega) | (rw [decide_eq_false]; omega) | rfl | rw [if_pos (by omega)])); simp only [Act.put, spA, spZ, spS]) | (refine ckT_load hS rfl rfl rfl (by simp <;> fail) (by (repeat (first | exact mH _ | apply mT)) <;> fail) rfl (by decide +kernel) ?_; simp only [Act.put, spA, spZ, spS]) | (refine ckT_store hS rfl rfl rfl (by constructor) (by (repeat (first | exact uH _ _ _ | apply uT)) <;> fail) (by simp <;> fail) rfl (by decide +kernel) (by simp <;> fail) ?_; clear hS; intro w hS; simp only [Act.put, spA, spZ, spS] at hS ⊢) )); refine wpT_nil ?_))
  rw [Exit.noGoto_ret]
  refine bodyPost_ret (ckRes_cell_tmp hS (cs := _) (by (repeat (first | exact mH _ | apply mT)) <;> fail) rfl rfl rfl (by (try simp only [List.length_cons, List.length_nil, Nat.zero_add, Nat.reduceAdd]); decide +kernel)) rfl ?_
  exact ⟨_, ⟨rfl, rfl⟩, hS.drop.drop⟩
theorem bufTakeZ_ct (h3 : 1 ≤ n) (h4 : n ≤ 9223372036854775807) :
    Ct Tryz.prog 146 #[.pointer none, .int .i64 n] [] (Gives (.tuple #[rngV 0 0, .bool false]) []) := by
  have e : min n 0 = 0 := by omega
  intro w0 F L w hS
  simp only [List.cons_append, List.nil_append] at hS
  go_enter Tryz.func146, Tryz.ntmps146
  go_wp2_with (first | go_skip | (refine ck_load hS rfl rfl rfl (by (repeat (first | exact mH _ | apply mT)) <;> fail) rfl (by decide +kernel) ?_; simp only [Act.put, spA, spZ, spS]) | (refine ck_store hS rfl rfl rfl (by constructor) (by (repeat (first | exact uH _ _ _ | apply uT)) <;> fail) (by simp <;> omega) rfl (by decide +kernel) ?_; clear hS; intro w hS; simp only [Act.put, spA, spZ, spS] at hS ⊢) | (refine ck_max rfl rfl rfl rfl ?_; simp only [Act.put, spA, spZ, spS]) | (refine ck_min rfl rfl rfl rfl ?_; simp only [Act.put, spA, spZ, spS]) | (refine ck_alloc (t := 269) (v := .agg (List.toArray [.int .u64 0, .int .u64 0])) (cs := [.int .u64 0, .int .u64 0]) hS rfl rfl (by kernel_rfl) rfl ?_; clear hS; intro nb w hS; simp only [Act.put, spA, spZ, spS]) | (refine ck_storeAll hS rfl rfl rfl rfl (by (repeat (first | exact uH _ _ _ | apply uT)) <;> fail) (by rfl) rfl (by (try simp only [List.length_cons, List.length_nil, Nat.zero_add, Nat.reduceAdd]); decide +kernel) ?_; clear hS; intro w hS; simp only [Act.put, spA, spZ, spS]) | (refine ck_loadAll hS rfl rfl rfl (by (repeat (first | exact mH _ | apply mT)) <;> fail) rfl (by (try simp only [List.length_cons, List.length_nil, Nat.zero_add, Nat.reduceAdd]); decide +kernel) ?_; simp only [Act.put, spA, spZ, spS]) | (refine ck_region (fun _ => 0) (fun _ => []) [] hS (by kernel_rfl) (by decide +kernel) ?_ ?_; exact ⟨fun _ _ _ h => h.2, fun _ _ h => h⟩; clear hS; intro w hS _; (repeat (first | (apply wpT_pure rfl rfl; (intro _; go_simp; (try (go_ints; (try go_simp))); (first | (rw [decide_eq_true]; omega) | (rw [decide_eq_false]; omega) | rfl | rw [if_pos (by omega)])); simp only [Act.put, spA, spZ, spS]) | (refine ckT_load hS rfl rfl rfl (by simp <;> fail) (by (repeat (first | exact mH _ | apply mT)) <;> fail) rfl (by decide +kernel) ?_; simp only [Act.put, spA, spZ, spS]) | (refine ckT_store hS rfl rfl rfl (by constructor) (by (repeat (first | exact uH _ _ _ | apply uT)) <;> fail) (by simp <;> fail) rfl (by decide +kernel) (by simp <;> fail) ?_; clear hS; intro w hS; simp only [Act.put, spA, spZ, spS] at hS ⊢) )); refine wpT_nil ?_))
  go_step3
  go_wp2_with (first | go_skip | (refine ck_load hS rfl rfl rfl (by (repeat (first | exact mH _ | apply mT)) <;> fail) rfl (by decide +kernel) ?_; simp only [Act.put, spA, spZ, spS]) | (refine ck_store hS rfl rfl rfl (by constructor) (by (repeat (first | exact uH _ _ _ | apply uT)) <;> fail) (by simp <;> omega) rfl (by decide +kernel) ?_; clear hS; intro w hS; simp only [Act.put, spA, spZ, spS] at hS ⊢) | (refine ck_max rfl rfl rfl rfl ?_; simp only [Act.put, spA, spZ, spS]) | (refine ck_min rfl rfl rfl rfl ?_; simp only [Act.put, spA, spZ, spS]) | (refine ck_alloc (t := 269) (v := .agg (List.toArray [.int .u64 0, .int .u64 0])) (cs := [.int .u64 0, .int .u64 0]) hS rfl rfl (by kernel_rfl) rfl ?_; clear hS; intro nb w hS; simp only [Act.put, spA, spZ, spS]) | (refine ck_storeAll hS rfl rfl rfl rfl (by (repeat (first | exact uH _ _ _ | apply uT)) <;> fail) (by rfl) rfl (by (try simp only [List.length_cons, List.length_nil, Nat.zero_add, Nat.reduceAdd]); decide +kernel) ?_; clear hS; intro w hS; simp only [Act.put, spA, spZ, spS]) | (refine ck_loadAll hS rfl rfl rfl (by (repeat (first | exact mH _ | apply mT)) <;> fail) rfl (by (try simp only [List.length_cons, List.length_nil, Nat.zero_add, Nat.reduceAdd]); decide +kernel) ?_; simp only [Act.put, spA, spZ, spS]) | (refine ck_region (fun _ => 0) (fun _ => []) [] hS (by kernel_rfl) (by decide +kernel) ?_ ?_; exact ⟨fun _ _ _ h => h.2, fun _ _ h => h⟩; clear hS; intro w hS _; (repeat (first | (apply wpT_pure rfl rfl; (intro _; go_simp; (try (go_ints; (try go_simp))); (first | (rw [decide_eq_true]; omega) | (rw [decide_eq_false]; omega) | rfl | rw [if_pos (by omega)])); simp only [Act.put, spA, spZ, spS]) | (refine ckT_load hS rfl rfl rfl (by simp <;> fail) (by (repeat (first | exact mH _ | apply mT)) <;> fail) rfl (by decide +kernel) ?_; simp only [Act.put, spA, spZ, spS]) | (refine ckT_store hS rfl rfl rfl (by constructor) (by (repeat (first | exact uH _ _ _ | apply uT)) <;> fail) (by simp <;> fail) rfl (by decide +kernel) (by simp <;> fail) ?_; clear hS; intro w hS; simp only [Act.put, spA, spZ, spS] at hS ⊢) )); refine wpT_nil ?_))
  go_step3
  go_wp2_with (first | go_skip | (refine ck_load hS rfl rfl rfl (by (repeat (first | exact mH _ | apply mT)) <;> fail) rfl (by decide +kernel) ?_; simp only [Act.put, spA, spZ, spS]) | (refine ck_store hS rfl rfl rfl (by constructor) (by (repeat (first | exact uH _ _ _ | apply uT)) <;> fail) (by simp <;> omega) rfl (by decide +kernel) ?_; clear hS; intro w hS; simp only [Act.put, spA, spZ, spS] at hS ⊢) | (refine ck_max rfl rfl rfl rfl ?_; simp only [Act.put, spA, spZ, spS]) | (refine ck_min rfl rfl rfl rfl ?_; simp only [Act.put, spA, spZ, spS]) | (refine ck_alloc (t := 269) (v := .agg (List.toArray [.int .u64 0, .int .u64 0])) (cs := [.int .u64 0, .int .u64 0]) hS rfl rfl (by kernel_rfl) rfl ?_; clear hS; intro nb w hS; simp only [Act.put, spA, spZ, spS]) | (refine ck_storeAll hS rfl rfl rfl rfl (by (repeat (first | exact uH _ _ _ | apply uT)) <;> fail) (by rfl) rfl (by (try simp only [List.length_cons, List.length_nil, Nat.zero_add, Nat.reduceAdd]); decide +kernel) ?_; clear hS; intro w hS; simp only [Act.put, spA, spZ, spS]) | (refine ck_loadAll hS rfl rfl rfl (by (repeat (first | exact mH _ | apply mT)) <;> fail) rfl (by (try simp only [List.length_cons, List.length_nil, Nat.zero_add, Nat.reduceAdd]); decide +kernel) ?_; simp only [Act.put, spA, spZ, spS]) | (refine ck_region (fun _ => 0) (fun _ => []) [] hS (by kernel_rfl) (by decide +kernel) ?_ ?_; exact ⟨fun _ _ _ h => h.2, fun _ _ h => h⟩; clear hS; intro w hS _; (repeat (first | (apply wpT_pure rfl rfl; (intro _; go_simp; (try (go_ints; (try go_simp))); (first | (rw [decide_eq_true]; omega) | (rw [decide_eq_false]; omega) | rfl | rw [if_pos (by omega)])); simp only [Act.put, spA, spZ, spS]) | (refine ckT_load hS rfl rfl rfl (by simp <;> fail) (by (repeat (first | exact mH _ | apply mT)) <;> fail) rfl (by decide +kernel) ?_; simp only [Act.put, spA, spZ, spS]) | (refine ckT_store hS rfl rfl rfl (by constructor) (by (repeat (first | exact uH _ _ _ | apply uT)) <;> fail) (by simp <;> fail) rfl (by decide +kernel) (by simp <;> fail) ?_; clear hS; intro w hS; simp only [Act.put, spA, spZ, spS] at hS ⊢) )); refine wpT_nil ?_))
  refine wp_loop_once ?_
  go_wp2_with (first | go_skip | (refine ck_load hS rfl rfl rfl (by (repeat (first | exact mH _ | apply mT)) <;> fail) rfl (by decide +kernel) ?_; simp only [Act.put, spA, spZ, spS]) | (refine ck_store hS rfl rfl rfl (by constructor) (by (repeat (first | exact uH _ _ _ | apply uT)) <;> fail) (by simp <;> omega) rfl (by decide +kernel) ?_; clear hS; intro w hS; simp only [Act.put, spA, spZ, spS] at hS ⊢) | (refine ck_max rfl rfl rfl rfl ?_; simp only [Act.put, spA, spZ, spS]) | (refine ck_min rfl rfl rfl rfl ?_; simp only [Act.put, spA, spZ, spS]) | (refine ck_alloc (t := 269) (v := .agg (List.toArray [.int .u64 0, .int .u64 0])) (cs := [.int .u64 0, .int .u64 0]) hS rfl rfl (by kernel_rfl) rfl ?_; clear hS; intro nb w hS; simp only [Act.put, spA, spZ, spS]) | (refine ck_storeAll hS rfl rfl rfl rfl (by (repeat (first | exact uH _ _ _ | apply uT)) <;> fail) (by rfl) rfl (by (try simp only [List.length_cons, List.length_nil, Nat.zero_add, Nat.reduceAdd]); decide +kernel) ?_; clear hS; intro w hS; simp only [Act.put, spA, spZ, spS]) | (refine ck_loadAll hS rfl rfl rfl (by (repeat (first | exact mH _ | apply mT)) <;> fail) rfl (by (try simp only [List.length_cons, List.length_nil, Nat.zero_add, Nat.reduceAdd]); decide +kernel) ?_; simp only [Act.put, spA, spZ, spS]) | (go_at_call 197; with_reducible refine Ct.call0 (bufUnsentZ_ct) hS ?_; clear hS; intro w hS) | (refine ck_region (fun _ => 0) (fun _ => []) [] hS (by kernel_rfl) (by decide +kernel) ?_ ?_; exact ⟨fun _ _ _ h => h.2, fun _ _ h => h⟩; clear hS; intro w hS _; (repeat (first | (apply wpT_pure rfl rfl; (intro _; go_simp; (try (go_ints; (try go_simp))); (first | (rw [decide_eq_true]; omega) | (rw [decide_eq_false]; omega) | rfl | rw [if_pos (by omega)])); simp only [Act.put, spA, spZ, spS]) | (refine ckT_load hS rfl rfl rfl (by simp <;> fail) (by (repeat (first | exact mH _ | apply mT)) <;> fail) rfl (by decide +kernel) ?_; simp only [Act.put, spA, spZ, spS]) | (refine ckT_store hS rfl rfl rfl (by constructor) (by (repeat (first | exact uH _ _ _ | apply uT)) <;> fail) (by simp <;> fail) rfl (by decide +kernel) (by simp <;> fail) ?_; clear hS; intro w hS; simp only [Act.put, spA, spZ, spS] at hS ⊢) )); refine wpT_nil ?_))
  rw [Exit.noGoto_ret]
  refine bodyPost_ret (ckRes_cell_tmp hS (cs := _) (by (repeat (first | exact mH _ | apply mT)) <;> fail) rfl rfl rfl (by (try simp only [List.length_cons, List.length_nil, Nat.zero_add, Nat.reduceAdd]); decide +kernel)) rfl ?_
  exact ⟨_, ⟨rfl, rfl⟩, hS.drop.drop⟩
theorem bufTakeNone'_ct (he : tk = wr) (h0 : 0 ≤ wr) (h2 : wr < 4611686018427387904) (h3 : 1 ≤ n) (h4 : n ≤ 9223372036854775807) :
    Ct Tryz.prog 146 #[.pointer (some ⟨b, 0, none⟩), .int .i64 n] [bufR b wr tk bs room] (Gives (.tuple #[rngV 0 0, .bool false]) [bufR b wr tk bs room]) := by
  subst he; exact bufTakeNone_ct _ _ _ _ _ h0 h2 h3 h4
end
end Go.Proofs.YtcegknecikbbkaaGreat

/- What tso's and its reference's sizes come to. -/
set_option linter.unusedVariables false
set_option linter.unusedSimpArgs false
set_option maxRecDepth 4000
namespace Go.Proofs.YtcegknecikbbkaaGreat
open Go.RowKit
def tsoM (mss : Int) : Int := max 100 (min mss 9000)
def tsoN (rate m : Int) : Int := max 2 (min (rate / 1024 / m) (65536 / m))
def tsoS (rate mss : Int) : Int := tsoN rate (tsoM mss) * tsoM mss

theorem tsoM_bd (mss : Int) : 100 ≤ tsoM mss ∧ tsoM mss ≤ 9000 := by unfold tsoM; omega
theorem tso_d (m : Int) (h0 : 100 ≤ m) (h1 : m ≤ 9000) : 7 ≤ 65536 / m ∧ 65536 / m ≤ 655 ∧ 65536 / m * m ≤ 65536 ∧ 65536 < 65536 / m * m + m := by
  refine ⟨Int.le_ediv_of_mul_le (by omega) (by omega), ?_, Int.ediv_mul_le _ (by omega), ?_⟩
  · by_cases h : 65536 / m ≤ 655
    · exact h
    · have h3 : (655 + 1) * m ≤ 65536 / m * m := Int.mul_le_mul_of_nonneg_right (by omega) (by omega)
      have := Int.ediv_mul_le 65536 (show m ≠ 0 by omega)
      omega
  · have := Int.lt_ediv_add_one_mul_self 65536 (show 0 < m by omega)
    rw [Int.add_mul] at this; omega
theorem tso_r (x m : Int) (h : 0 ≤ x) (h0 : 0 < m) : 0 ≤ x / m ∧ x / m ≤ x := ⟨Int.ediv_nonneg h (by omega), Int.ediv_le_self _ h⟩

set_option maxHeartbeats 800000 in
theorem size_ct (rate mss : Int) (h0 : 0 ≤ rate) (h1 : rate ≤ 18446744073709551615) (h2 : -9223372036854775808 ≤ mss) (h3 : mss ≤ 9223372036854775807) :
    Ct Tryz.prog 204 #[.int .u64 rate, .int .i64 mss] [] (Gives (.int .i64 (tsoS rate mss)) []) := by
  obtain ⟨m, hm⟩ : ∃ m, min (max mss 100) 9000 = m := ⟨_, rfl⟩
  have hM : tsoM mss = m := by unfold tsoM; omega
  have m0 : 100 ≤ m := by omega
  have m1 : m ≤ 9000 := by omega
  obtain ⟨d0, d1, d2, _⟩ := tso_d m m0 m1
  obtain ⟨r0, r1⟩ := tso_r (rate / 1024) m (by omega) (by omega)
  obtain ⟨d, hd⟩ : ∃ d, 65536 / m = d := ⟨_, rfl⟩
  obtain ⟨r, hr⟩ : ∃ r, rate / 1024 / m = r := ⟨_, rfl⟩
  have hN : tsoN rate m = max 2 (min r d) := by unfold tsoN; rw [hr, hd]
  rw [hd] at d0 d1 d2
  rw [hr] at r0 r1
  have dm : 0 ≤ d * m := Int.mul_nonneg (by omega) (by omega)
  have rm : 0 ≤ r * m := Int.mul_nonneg (by omega) (by omega)
  have hS1 : tsoS rate mss = max 2 (min r d) * m := by unfold tsoS; rw [hM, hN]
  rw [hS1]
  clear hS1 hN hM
  by_cases c1 : r < 2
  · rw [show max 2 (min r d) = 2 by omega]
    intro w0 F L w hS
    simp only [List.cons_append, List.nil_append] at hS
    go_enter Tryz.func204, Tryz.ntmps204
    go_wp2_with (first | go_skip | (refine ck_max rfl rfl rfl rfl ?_; simp only [Act.put, spA, spZ, spS]) | (refine ck_min rfl rfl rfl rfl ?_; simp only [Act.put, spA, spZ, spS]) )
    go_step3
    go_wp2_with (first | go_skip | (refine ck_max rfl rfl rfl rfl ?_; simp only [Act.put, spA, spZ, spS]) | (refine ck_min rfl rfl rfl rfl ?_; simp only [Act.put, spA, spZ, spS]) )
    go_step3
    go_wp2_with (first | go_skip | (refine ck_max rfl rfl rfl rfl ?_; simp only [Act.put, spA, spZ, spS]) | (refine ck_min rfl rfl rfl rfl ?_; simp only [Act.put, spA, spZ, spS]) )
    refine wp_loop_rounds 3 ?_; rw [rounds_succ]
    go_wp2_with (first | go_skip | (refine ck_max rfl rfl rfl rfl ?_; simp only [Act.put, spA, spZ, spS]) | (refine ck_min rfl rfl rfl rfl ?_; simp only [Act.put, spA, spZ, spS]) | (with_reducible rw [rounds_succ]))
    rw [Exit.noGoto_ret]
    go_ret
    exact ⟨_, ⟨rfl, rfl⟩, hS⟩
  · by_cases c2 : d < r
    · rw [show max 2 (min r d) = d by omega]
      intro w0 F L w hS
      simp only [List.cons_append, List.nil_append] at hS
      go_enter Tryz.func204, Tryz.ntmps204
      go_wp2_with (first | go_skip | (refine ck_max rfl rfl rfl rfl ?_; simp only [Act.put, spA, spZ, spS]) | (refine ck_min rfl rfl rfl rfl ?_; simp only [Act.put, spA, spZ, spS]) )
      go_step3
      go_wp2_with (first | go_skip | (refine ck_max rfl rfl rfl rfl ?_; simp only [Act.put, spA, spZ, spS]) | (refine ck_min rfl rfl rfl rfl ?_; simp only [Act.put, spA, spZ, spS]) )
      go_step3
      go_wp2_with (first | go_skip | (refine ck_max rfl rfl rfl rfl ?_; simp only [Act.put, spA, spZ, spS]) | (refine ck_min rfl rfl rfl rfl ?_; simp only [Act.put, spA, spZ, spS]) )
      refine wp_loop_rounds 3 ?_; rw [rounds_succ]
      go_wp2_with (first | go_skip | (refine ck_max rfl rfl rfl rfl ?_; simp only [Act.put, spA, spZ, spS]) | (refine ck_min rfl rfl rfl rfl ?_; simp only [Act.put, spA, spZ, spS]) | (with_reducible rw [rounds_succ]))
      rw [Exit.noGoto_ret]
      go_ret
      exact ⟨_, ⟨rfl, rfl⟩, hS⟩
    · have r2 : r * m ≤ d * m := Int.mul_le_mul_of_nonneg_right (by omega) (by omega)
      have r3 : r * m ≤ 65536 := by omega
      rw [show max 2 (min r d) = r by omega]
      intro w0 F L w hS
      simp only [List.cons_append, List.nil_append] at hS
      go_enter Tryz.func204, Tryz.ntmps204
      go_wp2_with (first | go_skip | (refine ck_max rfl rfl rfl rfl ?_; simp only [Act.put, spA, spZ, spS]) | (refine ck_min rfl rfl rfl rfl ?_; simp only [Act.put, spA, spZ, spS]) )
      go_step3
      go_wp2_with (first | go_skip | (refine ck_max rfl rfl rfl rfl ?_; simp only [Act.put, spA, spZ, spS]) | (refine ck_min rfl rfl rfl rfl ?_; simp only [Act.put, spA, spZ, spS]) )
      go_step3
      go_wp2_with (first | go_skip | (refine ck_max rfl rfl rfl rfl ?_; simp only [Act.put, spA, spZ, spS]) | (refine ck_min rfl rfl rfl rfl ?_; simp only [Act.put, spA, spZ, spS]) )
      refine wp_loop_rounds 3 ?_; rw [rounds_succ]
      go_wp2_with (first | go_skip | (refine ck_max rfl rfl rfl rfl ?_; simp only [Act.put, spA, spZ, spS]) | (refine ck_min rfl rfl rfl rfl ?_; simp only [Act.put, spA, spZ, spS]) | (with_reducible rw [rounds_succ]))
      rw [Exit.noGoto_ret]
      go_ret
      exact ⟨_, ⟨rfl, rfl⟩, hS⟩
set_option maxHeartbeats 400000 in
theorem refSize_ct (rate mss : Int) (h0 : 0 ≤ rate) (h1 : rate ≤ 18446744073709551615) (h2 : -9223372036854775808 ≤ mss) (h3 : mss ≤ 9223372036854775807) :
    Ct Tryz.prog 219 #[.int .u64 rate, .int .i64 mss] [] (Gives (.int .i64 (tsoS rate mss)) []) := by
  obtain ⟨m, hm⟩ : ∃ m, max 100 (min mss 9000) = m := ⟨_, rfl⟩
  have hM : tsoM mss = m := by unfold tsoM; omega
  have m0 : 100 ≤ m := by omega
  have m1 : m ≤ 9000 := by omega
  obtain ⟨d0, d1, d2, _⟩ := tso_d m m0 m1
  obtain ⟨r0, r1⟩ := tso_r (rate / 1024) m (by omega) (by omega)
  obtain ⟨d, hd⟩ : ∃ d, 65536 / m = d := ⟨_, rfl⟩
  obtain ⟨r, hr⟩ : ∃ r, rate / 1024 / m = r := ⟨_, rfl⟩
  have hN : tsoN rate m = max 2 (min r d) := by unfold tsoN; rw [hr, hd]
  rw [hd] at d0 d1 d2
  rw [hr] at r0 r1
  obtain ⟨n, hn⟩ : ∃ n, max 2 (min r d) = n := ⟨_, rfl⟩
  have n0 : 2 ≤ n := by omega
  have n1 : n ≤ 655 := by omega
  have nm : 0 ≤ n * m := Int.mul_nonneg (by omega) (by omega)
  have nd : n * m ≤ d * m := Int.mul_le_mul_of_nonneg_right (by omega) (by omega)
  have hS1 : tsoS rate mss = n * m := by unfold tsoS; rw [hM, hN, hn]
  rw [hS1]
  clear hS1 hN hM
  intro w0 F L w hS
  simp only [List.cons_append, List.nil_append] at hS
  go_enter Tryz.func219, Tryz.ntmps219
  go_wp2_with (first | go_skip | (refine ck_max rfl rfl rfl rfl ?_; simp only [Act.put, spA, spZ, spS]) | (refine ck_min rfl rfl rfl rfl ?_; simp only [Act.put, spA, spZ, spS]) )
  go_ret
  exact ⟨_, ⟨rfl, rfl⟩, hS⟩
end Go.Proofs.YtcegknecikbbkaaGreat

/- What the functions of tsq, and of its reference, come to. -/
set_option linter.unusedVariables false
set_option linter.unusedSimpArgs false
set_option maxRecDepth 4000
namespace Go.Proofs.YtcegknecikbbkaaGreat
open Go.RowKit
def tsqL (rate tso most : Int) : Int := max (2 * max tso 0) (min (rate / 1024) (max most 0))
set_option maxHeartbeats 400000 in
theorem limit_ct (rate tso most : Int) (h0 : 0 ≤ rate) (h1 : rate ≤ 18446744073709551615) (h2 : -9223372036854775808 ≤ tso) (h3 : tso ≤ 9223372036854775807) (h4 : -9223372036854775808 ≤ most) (h5 : most ≤ 9223372036854775807) :
    Ct Tryz.prog 200 #[.int .u64 rate, .int .i64 tso, .int .i64 most] [] (Gives (.int .u64 (tsqL rate tso most)) []) := by
  intro w0 F L w hS
  simp only [List.cons_append, List.nil_append] at hS
  go_enter Tryz.func200, Tryz.ntmps200
  go_wp2_with (first | go_skip | (refine ck_max rfl rfl rfl rfl ?_; simp only [Act.put, spA, spZ, spS]) | (refine ck_min rfl rfl rfl rfl ?_; simp only [Act.put, spA, spZ, spS]) )
  go_step3
  go_wp2_with (first | go_skip | (refine ck_max rfl rfl rfl rfl ?_; simp only [Act.put, spA, spZ, spS]) | (refine ck_min rfl rfl rfl rfl ?_; simp only [Act.put, spA, spZ, spS]) )
  go_step3
  go_wp2_with (first | go_skip | (refine ck_max rfl rfl rfl rfl ?_; simp only [Act.put, spA, spZ, spS]) | (refine ck_min rfl rfl rfl rfl ?_; simp only [Act.put, spA, spZ, spS]) )
  refine wp_loop_rounds 3 ?_; rw [rounds_succ]
  go_wp2_with (first | go_skip | (refine ck_max rfl rfl rfl rfl ?_; simp only [Act.put, spA, spZ, spS]) | (refine ck_min rfl rfl rfl rfl ?_; simp only [Act.put, spA, spZ, spS]) | (refine ck_index Tryz.underlying235 rfl rfl rfl rfl (by decide) (by decide) rfl (by kernel_rfl) (by kernel_rfl) ?_; simp only [Act.put, spA, spZ, spS]) | (with_reducible rw [rounds_succ]))
  all_goals
    rw [Exit.noGoto_ret]
    go_ret
    exact ⟨_, ⟨congrArg (Value.int _) (by unfold tsqL; omega), rfl⟩, hS⟩
set_option maxHeartbeats 400000 in
theorem may_ct (x y : Int) : Ct Tryz.prog 199 #[.int .u64 x, .int .u64 y] [] (Gives (.bool (decide (x < y))) []) := by
  intro w0 F L w hS
  simp only [List.cons_append, List.nil_append] at hS
  go_enter Tryz.func199, Tryz.ntmps199
  go_wp2_with (first | go_skip )
  go_ret
  exact ⟨_, ⟨rfl, rfl⟩, hS⟩
end Go.Proofs.YtcegknecikbbkaaGreat

/- A socket. -/
set_option linter.unusedVariables false
set_option linter.unusedSimpArgs false
set_option maxRecDepth 4000
namespace Go.Proofs.YtcegknecikbbkaaGreat
open Go.RowKit
structure SmpM where
  (del delAt firstAt mark : Int) (is : Bool) (size prior priorAt : Int) (lim : Bool) (sending rt : Int)
abbrev smpR (b : Nat) (s : SmpM) : Res := pts b [.int .u64 s.del, .int .u64 s.delAt, .int .u64 s.firstAt, .int .u64 s.mark, .bool s.is, .int .u64 s.size, .int .u64 s.prior, .int .u64 s.priorAt, .bool s.lim, .int .u64 s.sending, .int .u64 s.rt] 243
def smpZ : SmpM := ⟨0, 0, 0, 0, false, 0, 0, 0, false, 0, 0⟩
structure BufM where
  (w t s r : Int)
structure SockM where
  (id mss most out at' : Int) (buf : BufM) (ps : List PieceM) (en : Int) (smp : SmpM) (mdl : MdlM)
structure SockA where
  (b f o s : Nat) (oa : BrdA) (m : MdlA)
abbrev sockP (A : SockA) (k : SockM) : Res := pts A.b [.int .i64 k.id, .int .i64 k.mss, .int .i64 k.most, .pointer (some ⟨A.f, 0, none⟩), .pointer (some ⟨A.o, 0, none⟩), .pointer (some ⟨A.s, 0, none⟩), .pointer (some ⟨A.m.b, 0, none⟩), .int .u64 k.out, .int .u64 k.at'] 192
abbrev bufR' (b : Nat) (m : BufM) : Res := bufR b m.w m.t m.s m.r
def sockG (A : SockA) (k : SockM) : Res := grpR [sockP A k, bufR' A.f k.buf, brdG A.o k.ps k.en A.oa, smpR A.s k.smp, mdlG A.m k.mdl]
theorem sockOpen {A : SockA} {k : SockM} {w0 w : World} {F : List Nat} {L : List Res} : Sep w0 F (sockG A k :: L) w ↔ Sep w0 F (sockP A k :: bufR' A.f k.buf :: brdG A.o k.ps k.en A.oa :: smpR A.s k.smp :: mdlG A.m k.mdl :: L) w := (Sep.grp (l := [sockP A k, bufR' A.f k.buf, brdG A.o k.ps k.en A.oa, smpR A.s k.smp, mdlG A.m k.mdl])).symm
theorem smpNew_ct : Ct Tryz.prog 96 #[] [] (fun v L => ∃ b, v = .pointer (some ⟨b, 0, none⟩) ∧ L = [smpR b smpZ]) := by
  intro w0 F L w hS
  simp only [List.cons_append, List.nil_append] at hS
  go_enter Tryz.func96, Tryz.ntmps96
  go_wp2_with (first | go_skip | (refine ck_box hS rfl rfl (by constructor) ?_; clear hS; intro nb w hS; simp only [Act.put, spA, spZ, spS]) )
  go_ret
  exact ⟨_, ⟨_, rfl, rfl⟩, hS⟩
theorem smpLimit_ct (b : Nat) (s : SmpM) (fl : Int) (h0 : 0 ≤ s.del) (h1 : s.del ≤ 18446744073709551615) (h2 : 0 ≤ fl) (h3 : fl ≤ 18446744073709551615) : Ct Tryz.prog 198 #[.pointer (some ⟨b, 0, none⟩), .int .u64 fl] [smpR b s] (Gives (.tuple #[]) [smpR b { s with mark := max 1 (satAdd s.del fl) }]) := by
  have kA := satAdd_ct s.del fl h0 h1 h2 h3
  generalize satAdd s.del fl = sa at *
  intro w0 F L w hS
  simp only [List.cons_append, List.nil_append] at hS
  go_enter Tryz.func198, Tryz.ntmps198
  go_wp2_with (first | go_skip | (refine ck_load hS rfl rfl rfl (by (repeat (first | exact mH _ | apply mT)) <;> fail) rfl (by decide +kernel) ?_; simp only [Act.put, spA, spZ, spS]) | (refine ck_store hS rfl rfl rfl (by constructor) (by (repeat (first | exact uH _ _ _ | apply uT)) <;> fail) (by simp <;> omega) rfl (by decide +kernel) ?_; clear hS; intro w hS; simp only [Act.put, spA, spZ, spS] at hS ⊢) | (refine ck_max rfl rfl rfl rfl ?_; simp only [Act.put, spA, spZ, spS]) | (refine ck_min rfl rfl rfl rfl ?_; simp only [Act.put, spA, spZ, spS]) | (go_at_call 79; with_reducible refine Ct.call0 (kA) hS ?_; clear hS; intro w hS))
  refine bodyPost_end (results_none rfl _ _ _) rfl ?_
  exact ⟨_, ⟨rfl, rfl⟩, hS⟩
def smpSentM (s : SmpM) (now fl : Int) : SmpM := if fl = 0 then { s with firstAt := now, delAt := now } else s
def smpSentV (s : SmpM) (now : Int) : SentM := ⟨now, s.del, s.delAt, s.firstAt, !(s.mark == 0)⟩
theorem smpSent_ct (b : Nat) (s : SmpM) (now fl : Int) : Ct Tryz.prog 143 #[.pointer (some ⟨b, 0, none⟩), .int .u64 now, .int .u64 fl] [smpR b s] (Gives (.agg (sntV (smpSentV (smpSentM s now fl) now)).toArray) [smpR b (smpSentM s now fl)]) := by
  obtain ⟨d, da, fa, mk, is, sz, pr, pa, lm, sd, rt⟩ := s
  unfold smpSentM smpSentV
  by_cases h : fl = 0
  · subst h
    rw [if_pos rfl]
    dsimp only
    intro w0 F L w hS
    simp only [List.cons_append, List.nil_append] at hS
    go_enter Tryz.func143, Tryz.ntmps143
    go_wp2_with (first | go_skip | (refine ck_store hS rfl rfl rfl (by constructor) (by (repeat (first | exact uH _ _ _ | apply uT)) <;> fail) (by simp <;> omega) rfl (by decide +kernel) ?_; clear hS; intro w hS; simp only [Act.put, spA, spZ, spS] at hS ⊢) | (refine ck_alloc (t := 261) (v := .agg #[.int .u64 0, .int .u64 0, .int .u64 0, .int .u64 0, .bool false]) (cs := [.int .u64 0, .int .u64 0, .int .u64 0, .int .u64 0, .bool false]) hS rfl rfl (by kernel_rfl) rfl ?_; clear hS; intro r6 w hS; simp only [Act.put, spA, spZ, spS]) | (refine ck_storeAll hS rfl rfl rfl rfl (by (repeat (first | exact uH _ _ _ | apply uT)) <;> fail) (by rfl) rfl (by (try simp only [List.length_cons, List.length_nil, Nat.zero_add, Nat.reduceAdd]); decide +kernel) ?_; clear hS; intro w hS; simp only [Act.put, spA, spZ, spS]) | (refine ck_region (fun _ => 0) (fun _ => []) [] hS (by kernel_rfl) (by decide +kernel) ?_ ?_; exact ⟨fun _ _ _ h => h.2, fun _ _ h => h⟩; clear hS; intro w hS _; (repeat (first | (apply wpT_pure rfl rfl; (intro _; go_simp; (try (go_ints; (try go_simp))); (first | (rw [decide_eq_true]; omega) | (rw [decide_eq_false]; omega) | rfl | rw [if_pos (by omega)])); simp only [Act.put, spA, spZ, spS]) | (refine ckT_load hS rfl rfl rfl (by simp <;> fail) (by (repeat (first | exact mH _ | apply mT)) <;> fail) rfl (by decide +kernel) ?_; simp only [Act.put, spA, spZ, spS]) | (refine ckT_store hS rfl rfl rfl (by constructor) (by (repeat (first | exact uH _ _ _ | apply uT)) <;> fail) (by simp <;> fail) rfl (by decide +kernel) (by simp <;> fail) ?_; clear hS; intro w hS; simp only [Act.put, spA, spZ, spS] at hS ⊢) | (refine ckT_storeAll hS rfl rfl rfl rfl (by (repeat (first | exact uH _ _ _ | apply uT)) <;> fail) (by rfl) rfl (by (try simp only [List.length_cons, List.length_nil, Nat.zero_add, Nat.reduceAdd]); decide +kernel) (by simp <;> fail) ?_; clear hS; intro w hS; simp only [Act.put, spA, spZ, spS]))); refine wpT_nil ?_))
    refine bodyPost_ret (ckRes_cell hS (cs := [.int .u64 now, .int .u64 d, .int .u64 now, .int .u64 now, .bool (!(mk == 0))]) (b := r6) (T := 261) (by (repeat (first | exact mH _ | apply mT)) <;> fail) rfl rfl rfl (by (try simp only [List.length_cons, List.length_nil, Nat.zero_add, Nat.reduceAdd]); decide +kernel)) rfl ?_
    exact ⟨_, ⟨rfl, rfl⟩, hS.drop⟩
  · rw [if_neg h]
    dsimp only
    have h' : (fl == 0) = false := by simpa using h
    clear h
    intro w0 F L w hS
    simp only [List.cons_append, List.nil_append] at hS
    go_enter Tryz.func143, Tryz.ntmps143
    go_wp2_with (first | go_skip | (refine ck_store hS rfl rfl rfl (by constructor) (by (repeat (first | exact uH _ _ _ | apply uT)) <;> fail) (by simp <;> omega) rfl (by decide +kernel) ?_; clear hS; intro w hS; simp only [Act.put, spA, spZ, spS] at hS ⊢) | (refine ck_alloc (t := 261) (v := .agg #[.int .u64 0, .int .u64 0, .int .u64 0, .int .u64 0, .bool false]) (cs := [.int .u64 0, .int .u64 0, .int .u64 0, .int .u64 0, .bool false]) hS rfl rfl (by kernel_rfl) rfl ?_; clear hS; intro r6 w hS; simp only [Act.put, spA, spZ, spS]) | (refine ck_storeAll hS rfl rfl rfl rfl (by (repeat (first | exact uH _ _ _ | apply uT)) <;> fail) (by rfl) rfl (by (try simp only [List.length_cons, List.length_nil, Nat.zero_add, Nat.reduceAdd]); decide +kernel) ?_; clear hS; intro w hS; simp only [Act.put, spA, spZ, spS]) | (refine ck_region (fun _ => 0) (fun _ => []) [] hS (by kernel_rfl) (by decide +kernel) ?_ ?_; exact ⟨fun _ _ _ h => h.2, fun _ _ h => h⟩; clear hS; intro w hS _; (repeat (first | (apply wpT_pure rfl rfl; (intro _; go_simp; (try (go_ints; (try go_simp))); (first | (rw [decide_eq_true]; omega) | (rw [decide_eq_false]; omega) | rfl | rw [if_pos (by omega)])); simp only [Act.put, spA, spZ, spS]) | (refine ckT_load hS rfl rfl rfl (by simp <;> fail) (by (repeat (first | exact mH _ | apply mT)) <;> fail) rfl (by decide +kernel) ?_; simp only [Act.put, spA, spZ, spS]) | (refine ckT_store hS rfl rfl rfl (by constructor) (by (repeat (first | exact uH _ _ _ | apply uT)) <;> fail) (by simp <;> fail) rfl (by decide +kernel) (by simp <;> fail) ?_; clear hS; intro w hS; simp only [Act.put, spA, spZ, spS] at hS ⊢) | (refine ckT_storeAll hS rfl rfl rfl rfl (by (repeat (first | exact uH _ _ _ | apply uT)) <;> fail) (by rfl) rfl (by (try simp only [List.length_cons, List.length_nil, Nat.zero_add, Nat.reduceAdd]); decide +kernel) (by simp <;> fail) ?_; clear hS; intro w hS; simp only [Act.put, spA, spZ, spS]))); refine wpT_nil ?_))
    refine bodyPost_ret (ckRes_cell hS (cs := [.int .u64 now, .int .u64 d, .int .u64 da, .int .u64 fa, .bool (!(mk == 0))]) (b := r6) (T := 261) (by (repeat (first | exact mH _ | apply mT)) <;> fail) rfl rfl rfl (by (try simp only [List.length_cons, List.length_nil, Nat.zero_add, Nat.reduceAdd]); decide +kernel)) rfl ?_
    exact ⟨_, ⟨rfl, rfl⟩, hS.drop⟩
def sockZ (id : Int) (c : CfgM) : SockM := ⟨id, min (max c.mss 100) 9000, c.cap, 0, 0, ⟨0, 0, 0, 1073741824⟩, [], 0, smpZ, mdlZ (min (max c.mss 100) 9000) (mulDiv (10 * (min (max c.mss 100) 9000) * 1000) 739 256)⟩
set_option maxHeartbeats 4000000 in
theorem sockNew_ct (id : Int) (c : CfgM) : Ct Tryz.prog 65 #[.int .i64 id, cfgA c] [] (fun v L => ∃ A : SockA, v = .pointer (some ⟨A.b, 0, none⟩) ∧ L = [sockG A (sockZ id c)]) := by
  obtain ⟨qn, fs, lim, flim, hz, mr, dh, cap, mss⟩ := c
  have kM := mdlNew_ct (min (max mss 100) 9000) _ (by omega) (by omega) rfl
  unfold sockZ
  dsimp only
  generalize mulDiv (10 * min (max mss 100) 9000 * 1000) 739 256 = r at *
  have hms : 100 ≤ min (max mss 100) 9000 ∧ min (max mss 100) 9000 ≤ 9000 := by omega
  intro w0 F L w hS
  simp only [List.cons_append, List.nil_append] at hS
  go_enter Tryz.func65, Tryz.ntmps65
  go_wp2_with (first | go_skip  | (refine ck_load hS rfl rfl rfl (by (repeat (first | exact mH _ | apply mT)) <;> fail) rfl (by decide +kernel) ?_; simp only [Act.put, spA, spZ, spS]) | (refine ck_box hS rfl rfl (by constructor) ?_; clear hS; intro nb w hS; simp only [Act.put, spA, spZ, spS]) | (refine ck_max rfl rfl rfl rfl ?_; simp only [Act.put, spA, spZ, spS]) | (refine ck_min rfl rfl rfl rfl ?_; simp only [Act.put, spA, spZ, spS])  | (refine ck_region (fun _ => 0) (fun _ => []) [] hS (by kernel_rfl) (by decide +kernel) ?_ ?_; exact ⟨fun _ _ _ h => h.2, fun _ _ h => h⟩; clear hS; intro w hS _; (repeat (first | (apply wpT_pure rfl rfl; (intro _; go_simp; (try (go_ints; (try go_simp))); (first | (rw [decide_eq_true]; omega) | (rw [decide_eq_false]; omega) | rfl | rw [if_pos (by omega)])); simp only [Act.put, spA, spZ, spS]) | (refine ckT_load hS rfl rfl rfl (by simp <;> fail) (by (repeat (first | exact mH _ | apply mT)) <;> fail) rfl (by decide +kernel) ?_; simp only [Act.put, spA, spZ, spS]) )); refine wpT_nil ?_) | (refine ck_region (fun _ => nb) (fun i => if i = 4 then [3] else if i = 5 then [3] else if i = 6 then [3] else if i = 9 then [3] else []) ([3]) hS (by kernel_rfl) (by decide +kernel) ?_ ?_; exact ⟨fun _ _ _ h => h.2, fun _ _ h => h⟩; clear hS; intro w hS _; (repeat (first | (apply wpT_pure rfl rfl; (intro _; go_simp; (try (go_ints; (try go_simp))); (first | (rw [decide_eq_true]; omega) | (rw [decide_eq_false]; omega) | rfl | rw [if_pos (by omega)])); simp only [Act.put, spA, spZ, spS]) | (refine ckT_load hS rfl rfl rfl (by simp <;> fail) (by (repeat (first | exact mH _ | apply mT)) <;> fail) rfl (by decide +kernel) ?_; simp only [Act.put, spA, spZ, spS]) | (refine ckT_callN hS rfl (bufNew_ct _) rfl (by kernel_rfl) rfl (by intro j hj; exact ⟨_, 24, (by (repeat (first | exact mH _ | apply mT)) <;> fail)⟩) ?_; clear hS; rintro _ _ w ⟨bf, rfl, rfl⟩ hS; simp only [List.cons_append, List.nil_append] at hS; simp only [Act.put, spA, spZ, spS]) | (refine ckT_callN hS rfl (brdNew_ct) rfl (by kernel_rfl) rfl (by intro j hj; exact ⟨_, 24, (by (repeat (first | exact mH _ | apply mT)) <;> fail)⟩) ?_; clear hS; rintro _ _ w ⟨bo, oa, rfl, rfl⟩ hS; simp only [List.cons_append, List.nil_append] at hS; simp only [Act.put, spA, spZ, spS]) | (refine ckT_callN hS rfl (smpNew_ct) rfl (by kernel_rfl) rfl (by intro j hj; exact ⟨_, 24, (by (repeat (first | exact mH _ | apply mT)) <;> fail)⟩) ?_; clear hS; rintro _ _ w ⟨bs, rfl, rfl⟩ hS; simp only [List.cons_append, List.nil_append] at hS; simp only [Act.put, spA, spZ, spS]) | (refine ckT_callN hS rfl (kM) rfl (by kernel_rfl) rfl (by intro j hj; exact ⟨_, 24, (by (repeat (first | exact mH _ | apply mT)) <;> fail)⟩) ?_; clear hS; rintro _ _ w ⟨ma, rfl, rfl⟩ hS; simp only [List.cons_append, List.nil_append] at hS; simp only [Act.put, spA, spZ, spS]) | (refine ckT_box hS rfl rfl (by constructor) (by simp <;> fail) ?_; clear hS; intro kb w hS; simp only [Act.put, spA, spZ, spS]))); refine wpT_nil ?_))
  rw [show min (max (1073741824 : Int) 0) 1073741824 = 1073741824 from rfl] at hS
  go_ret
  have j1 := (hS.bring (r := pts nb (cfgV ⟨qn, fs, lim, flim, hz, mr, dh, cap, mss⟩) 24) (by (repeat (first | exact rH _ _ | apply rT)) <;> fail)).drop
  have j2 := j1.bring (r := smpR bs smpZ) (by (repeat (first | exact rH _ _ | apply rT)) <;> fail)
  have j3 := j2.bring (r := brdG bo [] 0 oa) (by (repeat (first | exact rH _ _ | apply rT)) <;> fail)
  have j4 := j3.bring (r := bufR bf 0 0 0 1073741824) (by (repeat (first | exact rH _ _ | apply rT)) <;> fail)
  have j5 := j4.bring (r := pts kb [.int .i64 id, .int .i64 (min (max mss 100) 9000), .int .i64 cap, .pointer (some ⟨bf, 0, none⟩), .pointer (some ⟨bo, 0, none⟩), .pointer (some ⟨bs, 0, none⟩), .pointer (some ⟨ma.b, 0, none⟩), .int .u64 0, .int .u64 0] 192) (by (repeat (first | exact rH _ _ | apply rT)) <;> fail)
  exact ⟨_, ⟨⟨kb, bf, bo, bs, oa, ma⟩, rfl, rfl⟩, sockOpen.2 j5⟩
section
variable (A : SockA) (k : SockM)
theorem sockModel_ct : Ct Tryz.prog 91 #[.pointer (some ⟨A.b, 0, none⟩)] [sockG A k] (Gives (.agg (stV k.mdl).toArray) [sockG A k]) := by
  have kS := mdlState_ct A.m k.mdl
  intro w0 F L w hS
  have hS := sockOpen.1 hS
  go_enter Tryz.func91, Tryz.ntmps91
  go_wp2_with (first | go_skip | (refine ck_load hS rfl rfl rfl (by (repeat (first | exact mH _ | apply mT)) <;> fail) rfl (by decide +kernel) ?_; simp only [Act.put, spA, spZ, spS]) | (refine ck_store hS rfl rfl rfl (by constructor) (by (repeat (first | exact uH _ _ _ | apply uT)) <;> fail) (by simp <;> omega) rfl (by decide +kernel) ?_; clear hS; intro w hS; simp only [Act.put, spA, spZ, spS] at hS ⊢) | (refine ck_alloc (t := 177) (v := .agg (List.toArray [.int .i64 0, .int .i64 0, .int .u64 0, .int .u64 0, .int .u64 0, .int .u64 0, .int .u64 0, .int .u64 0, .bool false, .bool false])) (cs := [.int .i64 0, .int .i64 0, .int .u64 0, .int .u64 0, .int .u64 0, .int .u64 0, .int .u64 0, .int .u64 0, .bool false, .bool false]) hS rfl rfl (by kernel_rfl) rfl ?_; clear hS; intro nb w hS; simp only [Act.put, spA, spZ, spS]) | (go_at_call 128; (with_reducible refine Ct.callU (kS) (by (repeat (first | exact uH _ _ _ | apply uT)) <;> fail) hS ?_) <;> (first | (clear hS; intro w hS) | omega)) | (refine ck_storeAll hS rfl rfl rfl rfl (by (repeat (first | exact uH _ _ _ | apply uT)) <;> fail) (by rfl) rfl (by (try simp only [List.length_cons, List.length_nil, Nat.zero_add, Nat.reduceAdd]); decide +kernel) ?_; clear hS; intro w hS; simp only [Act.put, spA, spZ, spS]))
  refine bodyPost_ret (ckRes_cell hS (cs := stV k.mdl) (b := nb) (T := 177) (by (repeat (first | exact mH _ | apply mT)) <;> fail) rfl rfl rfl (by (try simp only [List.length_cons, List.length_nil, Nat.zero_add, Nat.reduceAdd]); decide +kernel)) rfl ?_
  exact ⟨_, ⟨rfl, rfl⟩, sockOpen.2 hS.drop⟩
theorem sockFlight_ct (hsm : k.ps.length ≤ 4096) (hok : ∀ p ∈ k.ps, pieceOk p) (hfl : flightZ k.ps ≤ 4611686018427387904) : Ct Tryz.prog 144 #[.pointer (some ⟨A.b, 0, none⟩)] [sockG A k] (Gives (.int .u64 (flightZ k.ps)) [sockG A k]) := by
  have kF := brdFlight_ct A.o k.ps k.en A.oa hsm hok hfl
  clear hsm hok hfl
  generalize flightZ k.ps = fz at *
  intro w0 F L w hS
  have hS := sockOpen.1 hS
  go_enter Tryz.func144, Tryz.ntmps144
  go_wp2_with (first | go_skip | (refine ck_load hS rfl rfl rfl (by (repeat (first | exact mH _ | apply mT)) <;> fail) rfl (by decide +kernel) ?_; simp only [Act.put, spA, spZ, spS]) | (go_at_call 202; (with_reducible refine Ct.callU (kF) (by (repeat (first | exact uH _ _ _ | apply uT)) <;> fail) hS ?_) <;> (first | (clear hS; intro w hS) | omega)))
  go_ret
  exact ⟨_, ⟨rfl, rfl⟩, sockOpen.2 hS⟩
end
end Go.Proofs.YtcegknecikbbkaaGreat

/- A socket: Write, Tso, may. -/
set_option linter.unusedVariables false
set_option linter.unusedSimpArgs false
set_option maxRecDepth 4000
namespace Go.Proofs.YtcegknecikbbkaaGreat
open Go.RowKit
structure sockOk (k : SockM) : Prop where
  len : k.ps.length ≤ 4096
  ok : ∀ p ∈ k.ps, pieceOk p
  fl : flightZ k.ps ≤ 4611686018427387904
  no : ∀ p ∈ k.ps, p.lost = false
  buf : 0 ≤ k.buf.t ∧ k.buf.t ≤ k.buf.w ∧ k.buf.w < 4611686018427387904
  rate : 0 ≤ k.mdl.rate ∧ k.mdl.rate ≤ 18446744073709551615
  mss : 100 ≤ k.mss ∧ k.mss ≤ 9000
  most : -9223372036854775808 ≤ k.most ∧ k.most ≤ 9223372036854775807
  del : 0 ≤ k.smp.del ∧ k.smp.del ≤ 18446744073709551615
  out : 0 ≤ k.out ∧ k.out ≤ 4611686018427387904
  at' : 0 ≤ k.at' ∧ k.at' ≤ 18446744073709551615
  en : k.en = k.buf.t
theorem Sep.rot5 {w0 w : World} {F : List Nat} {L : List Res} {x a b c d e : Res} (h : Sep w0 F (x :: a :: b :: c :: d :: e :: L) w) : Sep w0 F (a :: b :: c :: d :: e :: x :: L) w := h.perm (List.perm_middle (l₁ := [a, b, c, d, e])).symm
section
variable (A : SockA) (k : SockM)
theorem sockWrite_ct (n : Int) (h : 1 ≤ n) (h3 : n ≤ 9223372036854775807) (h0 : 0 ≤ k.buf.s) (h1 : k.buf.s ≤ k.buf.w) (h2 : k.buf.w < 4611686018427387904) (h4 : k.buf.w - k.buf.s ≤ k.buf.r) (h5 : k.buf.r ≤ 1073741824) (hn : n ≤ k.buf.r - (k.buf.w - k.buf.s)) :
    Ct Tryz.prog 100 #[.pointer (some ⟨A.b, 0, none⟩), .int .i64 n] [sockG A k] (Gives (.int .i64 0) [sockG A { k with buf := { k.buf with w := k.buf.w + n } }]) := by
  have kW := bufWriteOk_ct A.f k.buf.w k.buf.t k.buf.s k.buf.r n h h3 h0 h1 h2 h4 h5 hn
  clear h h3 h0 h1 h2 h4 h5 hn
  intro w0 F L w hS
  have hS := sockOpen.1 hS
  have hfin : ∀ {w : World}, Sep w0 F (sockP A k :: bufR A.f (k.buf.w + n) k.buf.t k.buf.s k.buf.r :: brdG A.o k.ps k.en A.oa :: smpR A.s k.smp :: mdlG A.m k.mdl :: L) w → Sep w0 F ([sockG A { k with buf := { k.buf with w := k.buf.w + n } }] ++ L) w := fun h => sockOpen.2 h
  go_enter Tryz.func100, Tryz.ntmps100
  go_wp2_with (first | go_skip | (refine ck_load hS rfl rfl rfl (by (repeat (first | exact mH _ | apply mT)) <;> fail) rfl (by decide +kernel) ?_; simp only [Act.put, spA, spZ, spS]) | (go_at_call 136; (with_reducible refine Ct.callU (kW) (by (repeat (first | exact uH _ _ _ | apply uT)) <;> fail) hS ?_) <;> (first | (clear hS; intro w hS) | omega)))
  go_ret
  exact ⟨_, ⟨rfl, rfl⟩, hfin hS⟩
abbrev tsoK (k : SockM) : Int := tsoS k.mdl.rate k.mss
theorem sockTso_ct (h : sockOk k) : Ct Tryz.prog 147 #[.pointer (some ⟨A.b, 0, none⟩)] [sockG A k] (Gives (.int .i64 (tsoK k)) [sockG A k]) := by
  have kS := mdlState_ct A.m k.mdl
  obtain ⟨r0, r1⟩ := h.rate
  obtain ⟨m0, m1⟩ := h.mss
  have kZ := size_ct k.mdl.rate k.mss r0 r1 (by omega) (by omega)
  unfold tsoK
  generalize tsoS k.mdl.rate k.mss = tz at *
  intro w0 F L w hS
  have hS := sockOpen.1 hS
  clear h
  go_enter Tryz.func147, Tryz.ntmps147
  go_wp2_with (first | go_skip   | (refine ck_region (fun _ => 0) (fun _ => []) [] hS (by kernel_rfl) (by decide +kernel) ?_ ?_; exact ⟨fun _ _ _ h => h.2, fun _ _ h => h⟩; clear hS; intro w hS _; (repeat (first | (apply wpT_pure rfl rfl; (intro _; go_simp; (try (go_ints; (try go_simp))); (first | (rw [decide_eq_true]; omega) | (rw [decide_eq_false]; omega) | rfl | rw [if_pos (by omega)])); simp only [Act.put, spA, spZ, spS]) | (refine ckT_load hS rfl rfl rfl (by simp <;> fail) (by (repeat (first | exact mH _ | apply mT)) <;> fail) rfl (by decide +kernel) ?_; simp only [Act.put, spA, spZ, spS]) )); refine wpT_nil ?_) | (refine ck_region (fun _ => A.b) (fun i => if i = 4 then [9] else []) ([9]) hS (by kernel_rfl) (by decide +kernel) ?_ ?_; exact ⟨fun _ _ _ h => h.2, fun _ _ h => h⟩; clear hS; intro w hS _; (repeat (first | (apply wpT_pure rfl rfl; (intro _; go_simp; (try (go_ints; (try go_simp))); (first | (rw [decide_eq_true]; omega) | (rw [decide_eq_false]; omega) | rfl | rw [if_pos (by omega)])); simp only [Act.put, spA, spZ, spS]) | (refine ckT_load hS rfl rfl rfl (by simp <;> fail) (by (repeat (first | exact mH _ | apply mT)) <;> fail) rfl (by decide +kernel) ?_; simp only [Act.put, spA, spZ, spS]) | (refine ckT_callS hS rfl kS (by (repeat (first | exact uH _ _ _ | apply uT)) <;> fail) rfl (by kernel_rfl) rfl (fun j _ => ⟨_, _, ((by (repeat (first | exact mH _ | apply mT)) <;> fail) : sockP A k ∈ _)⟩) ?_; clear hS; intro w hS; simp only [Act.put, spA, spZ, spS]) | (refine ckT_call0 hS rfl (kZ) rfl (by kernel_rfl) rfl (by simp <;> fail) ?_; clear hS; intro w hS; simp only [Act.put, spA, spZ, spS]))); refine wpT_nil ?_))
  go_ret
  exact ⟨_, ⟨rfl, rfl⟩, sockOpen.2 hS⟩
theorem tsoK_bd {k : SockM} (h : sockOk k) : 0 ≤ tsoK k ∧ tsoK k ≤ 100000 := by
  obtain ⟨r0, r1⟩ := h.rate
  obtain ⟨m0, m1⟩ := tsoM_bd k.mss
  obtain ⟨d0, d1, d2, _⟩ := tso_d (tsoM k.mss) m0 m1
  unfold tsoK tsoS tsoN
  have h1 : 0 ≤ max 2 (min (k.mdl.rate / 1024 / tsoM k.mss) (65536 / tsoM k.mss)) := by omega
  have h2 : max 2 (min (k.mdl.rate / 1024 / tsoM k.mss) (65536 / tsoM k.mss)) ≤ 65536 / tsoM k.mss := by omega
  have h3 := Int.mul_le_mul_of_nonneg_right h2 (show 0 ≤ tsoM k.mss by omega)
  have h4 := Int.mul_nonneg h1 (show 0 ≤ tsoM k.mss by omega)
  omega
set_option maxRecDepth 20000 in
set_option maxHeartbeats 8000000 in
theorem sockMay1_ct (h : sockOk k) (hu : k.buf.w - k.buf.t = 0) (ho : flightZ k.ps < k.mdl.cwnd) : Ct Tryz.prog 142 #[.pointer (some ⟨A.b, 0, none⟩)] [sockG A k] (Gives (.int .i64 7) [sockG A { k with smp := { k.smp with mark := max 1 (satAdd k.smp.del (flightZ k.ps)) } }]) := by
  have kS := mdlState_ct A.m k.mdl
  have kL := brdLostNone_ct A.o k.ps k.en A.oa h.len h.no
  have kN := brdLen_ct A.o k.ps k.en A.oa
  have kF := sockFlight_ct A k h.len h.ok h.fl
  have kT := sockTso_ct A k h
  obtain ⟨b0, b1, b2⟩ := h.buf
  have kU := bufUnsent_ct A.f k.buf.w k.buf.t k.buf.s k.buf.r b0 b1 b2
  obtain ⟨r0, r1⟩ := h.rate
  obtain ⟨c0, c1⟩ := h.most
  have hfz := flightZ_nn h.ok
  have hfz1 := h.fl
  have kI := smpLimit_ct A.s k.smp (flightZ k.ps) h.del.1 h.del.2 hfz (by omega)
  have htz := tsoK_bd h
  have kQ := limit_ct k.mdl.rate (tsoK k) k.most r0 r1 (by omega) (by omega) c0 c1
  have kY := may_ct k.out (tsqL k.mdl.rate (tsoK k) k.most)
  have hlen := h.len
  obtain ⟨n, hn⟩ : ∃ n, k.ps.length = n := ⟨_, rfl⟩
  have hfin : ∀ {w : World} {w0 : World} {F : List Nat} {L : List Res}, Sep w0 F (sockP A k :: bufR' A.f k.buf :: brdG A.o k.ps k.en A.oa :: smpR A.s { k.smp with mark := max 1 (satAdd k.smp.del (flightZ k.ps)) } :: mdlG A.m k.mdl :: L) w → Sep w0 F (sockG A { k with smp := { k.smp with mark := max 1 (satAdd k.smp.del (flightZ k.ps)) } } :: L) w := fun h => sockOpen.2 h
  try rw [hn] at hN
  rw [hn] at kN hlen
  generalize flightZ k.ps = fz at *
  generalize tsqL k.mdl.rate (tsoK k) k.most = lz at *
  generalize tsoK k = tz at *
  generalize satAdd k.smp.del fz = sa at *
  have hu' : (k.buf.w - k.buf.t == 0) = true := by simpa using hu
  have ho' : decide (fz < k.mdl.cwnd) = true := decide_eq_true ho
  intro w0 F L w hS
  have hS := sockOpen.1 hS
  clear h hn
  go_enter Tryz.func142, Tryz.ntmps142
  go_wp2_with (first | go_skip | (refine ck_storeAll hS rfl rfl rfl rfl (by (repeat (first | exact uH _ _ _ | apply uT)) <;> fail) (by rfl) rfl (by (try simp only [List.length_cons, List.length_nil, Nat.zero_add, Nat.reduceAdd]); decide +kernel) ?_; clear hS; intro w hS; simp only [Act.put, spA, spZ, spS]) | (refine ck_load hS rfl rfl rfl (by (repeat (first | exact mH _ | apply mT)) <;> fail) rfl (by decide +kernel) ?_; simp only [Act.put, spA, spZ, spS]) | (refine ck_store hS rfl rfl rfl (by constructor) (by (repeat (first | exact uH _ _ _ | apply uT)) <;> fail) (by simp <;> omega) rfl (by decide +kernel) ?_; clear hS; intro w hS; simp only [Act.put, spA, spZ, spS] at hS ⊢) | (refine ck_alloc (t := 269) (v := .agg (List.toArray [.int .u64 0, .int .u64 0])) (cs := [.int .u64 0, .int .u64 0]) hS rfl rfl (by kernel_rfl) rfl ?_; clear hS; intro r3 w hS0; have hS := hS0.rot5; clear hS0; simp only [Act.put, spA, spZ, spS]) | (refine ck_alloc (t := 177) (v := .agg (List.toArray [.int .i64 0, .int .i64 0, .int .u64 0, .int .u64 0, .int .u64 0, .int .u64 0, .int .u64 0, .int .u64 0, .bool false, .bool false])) (cs := [.int .i64 0, .int .i64 0, .int .u64 0, .int .u64 0, .int .u64 0, .int .u64 0, .int .u64 0, .int .u64 0, .bool false, .bool false]) hS rfl rfl (by kernel_rfl) rfl ?_; clear hS; intro r5 w hS0; have hS := hS0.rot5; clear hS0; simp only [Act.put, spA, spZ, spS]) | (go_at_call 196; (with_reducible refine Ct.callU (kL) (by (repeat (first | exact uH _ _ _ | apply uT)) <;> fail) hS ?_) <;> (first | (clear hS; intro w hS) | omega)) | (go_at_call 128; (with_reducible refine Ct.callU (kS) (by (repeat (first | exact uH _ _ _ | apply uT)) <;> fail) hS ?_) <;> (first | (clear hS; intro w hS) | omega)) | (go_at_call 197; (with_reducible refine Ct.callU (kU) (by (repeat (first | exact uH _ _ _ | apply uT)) <;> fail) hS ?_) <;> (first | (clear hS; intro w hS) | omega)) | (go_at_call 201; (with_reducible refine Ct.callU (kN) (by (repeat (first | exact uH _ _ _ | apply uT)) <;> fail) hS ?_) <;> (first | (clear hS; intro w hS) | omega)) | (refine ck_region (fun _ => 0) (fun _ => []) [] hS (by kernel_rfl) (by decide +kernel) ?_ ?_; exact ⟨fun _ _ _ h => h.2, fun _ _ h => h⟩; clear hS; intro w hS _; (repeat (first | (apply wpT_pure rfl rfl; (intro _; go_simp; (try (go_ints; (try go_simp))); (first | (rw [decide_eq_true]; omega) | (rw [decide_eq_false]; omega) | rfl | rw [if_pos (by omega)])); simp only [Act.put, spA, spZ, spS]) | (refine ckT_load hS rfl rfl rfl (by simp <;> fail) (by (repeat (first | exact mH _ | apply mT)) <;> fail) rfl (by decide +kernel) ?_; simp only [Act.put, spA, spZ, spS]) | (refine wpT_skip rfl ?_; simp only [Act.put, spA, spZ, spS]) )); refine wpT_nil ?_) | (refine ck_region (fun _ => r5) (fun i => if i = 1 then [3] else []) ([3]) hS (by kernel_rfl) (by decide +kernel) ?_ ?_; exact ⟨fun _ _ _ h => h.2, fun _ _ h => h⟩; clear hS; intro w hS _; (repeat (first | (apply wpT_pure rfl rfl; (intro _; go_simp; (try (go_ints; (try go_simp))); (first | (rw [decide_eq_true]; omega) | (rw [decide_eq_false]; omega) | rfl | rw [if_pos (by omega)])); simp only [Act.put, spA, spZ, spS]) | (refine ckT_load hS rfl rfl rfl (by simp <;> fail) (by (repeat (first | exact mH _ | apply mT)) <;> fail) rfl (by decide +kernel) ?_; simp only [Act.put, spA, spZ, spS]) | (refine wpT_skip rfl ?_; simp only [Act.put, spA, spZ, spS]) | (refine ckT_callG' (sockOpen.2 hS) rfl kF rfl (by kernel_rfl) rfl (by intro j hj w2 h2; have h3 := sockOpen.1 h2; clear h2; simp at hj; subst hj; exact (h3.holds (pts r5 (stV k.mdl) 177) (by (repeat (first | exact mH _ | apply mT)) <;> fail)).trans (hS.holds (pts r5 (stV k.mdl) 177) (by (repeat (first | exact mH _ | apply mT)) <;> fail)).symm) ?_; clear hS; intro w hS0; have hS := sockOpen.1 hS0; clear hS0; simp only [Act.put, spA, spZ, spS]))); refine wpT_nil ?_) | (refine ck_region (fun _ => A.b) (fun i => if i = 5 then [3] else []) ([3]) hS (by kernel_rfl) (by decide +kernel) ?_ ?_; exact ⟨fun _ _ _ h => h.2, fun _ _ h => h⟩; clear hS; intro w hS _; (repeat (first | (apply wpT_pure rfl rfl; (intro _; go_simp; (try (go_ints; (try go_simp))); (first | (rw [decide_eq_true]; omega) | (rw [decide_eq_false]; omega) | rfl | rw [if_pos (by omega)])); simp only [Act.put, spA, spZ, spS]) | (refine ckT_load hS rfl rfl rfl (by simp <;> fail) (by (repeat (first | exact mH _ | apply mT)) <;> fail) rfl (by decide +kernel) ?_; simp only [Act.put, spA, spZ, spS]) | (refine wpT_skip rfl ?_; simp only [Act.put, spA, spZ, spS]) | (refine ckT_callG' (sockOpen.2 hS) rfl kF rfl (by kernel_rfl) rfl (by intro j hj w2 h2; have h3 := sockOpen.1 h2; clear h2; simp at hj; subst hj; exact (h3.holds (sockP A k) (by (repeat (first | exact mH _ | apply mT)) <;> fail)).trans (hS.holds (sockP A k) (by (repeat (first | exact mH _ | apply mT)) <;> fail)).symm) ?_; clear hS; intro w hS0; have hS := sockOpen.1 hS0; clear hS0; simp only [Act.put, spA, spZ, spS]) | ((refine ckT_callU hS rfl (kI) (by (repeat (first | exact uH _ _ _ | apply uT)) <;> fail) rfl (by kernel_rfl) rfl (by simp <;> fail) ?_) <;> (first | (clear hS; intro w hS) | omega); simp only [Act.put, spA, spZ, spS]))); refine wpT_nil ?_) | (refine ck_region (fun i => if i = 8 then r5 else A.b) (fun i => if i = 10 then [6, 8, 14] else if i = 15 then [6] else []) ([6, 8, 14]) hS (by kernel_rfl) (by decide +kernel) ?_ ?_; exact ⟨fun _ _ _ h => h.2, fun _ _ h => h⟩; clear hS; intro w hS _; (repeat (first | (apply wpT_pure rfl rfl; (intro _; go_simp; (try (go_ints; (try go_simp))); (first | (rw [decide_eq_true]; omega) | (rw [decide_eq_false]; omega) | rfl | rw [if_pos (by omega)])); simp only [Act.put, spA, spZ, spS]) | (refine ckT_load hS rfl rfl rfl (by simp <;> fail) (by (repeat (first | exact mH _ | apply mT)) <;> fail) rfl (by decide +kernel) ?_; simp only [Act.put, spA, spZ, spS]) | (refine wpT_skip rfl ?_; simp only [Act.put, spA, spZ, spS]) | (refine ckT_callG' (sockOpen.2 hS) rfl kT rfl (by kernel_rfl) rfl (by intro j hj w2 h2; have h3 := sockOpen.1 h2; clear h2; simp at hj; rcases hj with rfl | rfl | rfl <;> first | (exact (h3.holds (sockP A k) (by (repeat (first | exact mH _ | apply mT)) <;> fail)).trans (hS.holds (sockP A k) (by (repeat (first | exact mH _ | apply mT)) <;> fail)).symm) | (exact (h3.holds (pts r5 (stV k.mdl) 177) (by (repeat (first | exact mH _ | apply mT)) <;> fail)).trans (hS.holds (pts r5 (stV k.mdl) 177) (by (repeat (first | exact mH _ | apply mT)) <;> fail)).symm)) ?_; clear hS; intro w hS0; have hS := sockOpen.1 hS0; clear hS0; simp only [Act.put, spA, spZ, spS]) | (refine ckT_call0 hS rfl kQ rfl (by kernel_rfl) rfl (by intro j hj; simp at hj; subst hj; exact .inr ⟨_, _, ((by (repeat (first | exact mH _ | apply mT)) <;> fail) : sockP A k ∈ _), (by (repeat (first | exact mH _ | apply mT)) <;> fail)⟩) ?_; clear hS; intro w hS; simp only [Act.put, spA, spZ, spS]) | (refine ckT_call0 hS rfl (kY) rfl (by kernel_rfl) rfl (by simp <;> fail) ?_; clear hS; intro w hS; simp only [Act.put, spA, spZ, spS]))); refine wpT_nil ?_))
  go_ret
  refine ⟨_, ⟨rfl, rfl⟩, ?_⟩
  have j1 := (hS.bring (r := pts r5 (stV k.mdl) 177) (by (repeat (first | exact rH _ _ | apply rT)) <;> fail)).drop
  have j2 := (j1.bring (r := pts r3 [.int .u64 0, .int .u64 0] 269) (by (repeat (first | exact rH _ _ | apply rT)) <;> fail)).drop
  exact hfin j2
set_option maxRecDepth 20000 in
set_option maxHeartbeats 8000000 in
theorem sockMay2_ct (h : sockOk k) (hu : k.buf.w - k.buf.t = 0) (ho : ¬ flightZ k.ps < k.mdl.cwnd) : Ct Tryz.prog 142 #[.pointer (some ⟨A.b, 0, none⟩)] [sockG A k] (Gives (.int .i64 7) [sockG A k]) := by
  have kS := mdlState_ct A.m k.mdl
  have kL := brdLostNone_ct A.o k.ps k.en A.oa h.len h.no
  have kN := brdLen_ct A.o k.ps k.en A.oa
  have kF := sockFlight_ct A k h.len h.ok h.fl
  have kT := sockTso_ct A k h
  obtain ⟨b0, b1, b2⟩ := h.buf
  have kU := bufUnsent_ct A.f k.buf.w k.buf.t k.buf.s k.buf.r b0 b1 b2
  obtain ⟨r0, r1⟩ := h.rate
  obtain ⟨c0, c1⟩ := h.most
  have hfz := flightZ_nn h.ok
  have hfz1 := h.fl
  have kI := smpLimit_ct A.s k.smp (flightZ k.ps) h.del.1 h.del.2 hfz (by omega)
  have htz := tsoK_bd h
  have kQ := limit_ct k.mdl.rate (tsoK k) k.most r0 r1 (by omega) (by omega) c0 c1
  have kY := may_ct k.out (tsqL k.mdl.rate (tsoK k) k.most)
  have hlen := h.len
  obtain ⟨n, hn⟩ : ∃ n, k.ps.length = n := ⟨_, rfl⟩
  have hfin : ∀ {w : World} {w0 : World} {F : List Nat} {L : List Res}, Sep w0 F (sockP A k :: bufR' A.f k.buf :: brdG A.o k.ps k.en A.oa :: smpR A.s k.smp :: mdlG A.m k.mdl :: L) w → Sep w0 F (sockG A k :: L) w := fun h => sockOpen.2 h
  try rw [hn] at hN
  rw [hn] at kN hlen
  generalize flightZ k.ps = fz at *
  generalize tsqL k.mdl.rate (tsoK k) k.most = lz at *
  generalize tsoK k = tz at *
  have hu' : (k.buf.w - k.buf.t == 0) = true := by simpa using hu
  have ho' : decide (fz < k.mdl.cwnd) = false := decide_eq_false ho
  intro w0 F L w hS
  have hS := sockOpen.1 hS
  clear h hn
  go_enter Tryz.func142, Tryz.ntmps142
  go_wp2_with (first | go_skip | (refine ck_storeAll hS rfl rfl rfl rfl (by (repeat (first | exact uH _ _ _ | apply uT)) <;> fail) (by rfl) rfl (by (try simp only [List.length_cons, List.length_nil, Nat.zero_add, Nat.reduceAdd]); decide +kernel) ?_; clear hS; intro w hS; simp only [Act.put, spA, spZ, spS]) | (refine ck_load hS rfl rfl rfl (by (repeat (first | exact mH _ | apply mT)) <;> fail) rfl (by decide +kernel) ?_; simp only [Act.put, spA, spZ, spS]) | (refine ck_store hS rfl rfl rfl (by constructor) (by (repeat (first | exact uH _ _ _ | apply uT)) <;> fail) (by simp <;> omega) rfl (by decide +kernel) ?_; clear hS; intro w hS; simp only [Act.put, spA, spZ, spS] at hS ⊢) | (refine ck_alloc (t := 269) (v := .agg (List.toArray [.int .u64 0, .int .u64 0])) (cs := [.int .u64 0, .int .u64 0]) hS rfl rfl (by kernel_rfl) rfl ?_; clear hS; intro r3 w hS0; have hS := hS0.rot5; clear hS0; simp only [Act.put, spA, spZ, spS]) | (refine ck_alloc (t := 177) (v := .agg (List.toArray [.int .i64 0, .int .i64 0, .int .u64 0, .int .u64 0, .int .u64 0, .int .u64 0, .int .u64 0, .int .u64 0, .bool false, .bool false])) (cs := [.int .i64 0, .int .i64 0, .int .u64 0, .int .u64 0, .int .u64 0, .int .u64 0, .int .u64 0, .int .u64 0, .bool false, .bool false]) hS rfl rfl (by kernel_rfl) rfl ?_; clear hS; intro r5 w hS0; have hS := hS0.rot5; clear hS0; simp only [Act.put, spA, spZ, spS]) | (go_at_call 196; (with_reducible refine Ct.callU (kL) (by (repeat (first | exact uH _ _ _ | apply uT)) <;> fail) hS ?_) <;> (first | (clear hS; intro w hS) | omega)) | (go_at_call 128; (with_reducible refine Ct.callU (kS) (by (repeat (first | exact uH _ _ _ | apply uT)) <;> fail) hS ?_) <;> (first | (clear hS; intro w hS) | omega)) | (go_at_call 197; (with_reducible refine Ct.callU (kU) (by (repeat (first | exact uH _ _ _ | apply uT)) <;> fail) hS ?_) <;> (first | (clear hS; intro w hS) | omega)) | (go_at_call 201; (with_reducible refine Ct.callU (kN) (by (repeat (first | exact uH _ _ _ | apply uT)) <;> fail) hS ?_) <;> (first | (clear hS; intro w hS) | omega)) | (refine ck_region (fun _ => 0) (fun _ => []) [] hS (by kernel_rfl) (by decide +kernel) ?_ ?_; exact ⟨fun _ _ _ h => h.2, fun _ _ h => h⟩; clear hS; intro w hS _; (repeat (first | (apply wpT_pure rfl rfl; (intro _; go_simp; (try (go_ints; (try go_simp))); (first | (rw [decide_eq_true]; omega) | (rw [decide_eq_false]; omega) | rfl | rw [if_pos (by omega)])); simp only [Act.put, spA, spZ, spS]) | (refine ckT_load hS rfl rfl rfl (by simp <;> fail) (by (repeat (first | exact mH _ | apply mT)) <;> fail) rfl (by decide +kernel) ?_; simp only [Act.put, spA, spZ, spS]) | (refine wpT_skip rfl ?_; simp only [Act.put, spA, spZ, spS]) )); refine wpT_nil ?_) | (refine ck_region (fun _ => r5) (fun i => if i = 1 then [3] else []) ([3]) hS (by kernel_rfl) (by decide +kernel) ?_ ?_; exact ⟨fun _ _ _ h => h.2, fun _ _ h => h⟩; clear hS; intro w hS _; (repeat (first | (apply wpT_pure rfl rfl; (intro _; go_simp; (try (go_ints; (try go_simp))); (first | (rw [decide_eq_true]; omega) | (rw [decide_eq_false]; omega) | rfl | rw [if_pos (by omega)])); simp only [Act.put, spA, spZ, spS]) | (refine ckT_load hS rfl rfl rfl (by simp <;> fail) (by (repeat (first | exact mH _ | apply mT)) <;> fail) rfl (by decide +kernel) ?_; simp only [Act.put, spA, spZ, spS]) | (refine wpT_skip rfl ?_; simp only [Act.put, spA, spZ, spS]) | (refine ckT_callG' (sockOpen.2 hS) rfl kF rfl (by kernel_rfl) rfl (by intro j hj w2 h2; have h3 := sockOpen.1 h2; clear h2; simp at hj; subst hj; exact (h3.holds (pts r5 (stV k.mdl) 177) (by (repeat (first | exact mH _ | apply mT)) <;> fail)).trans (hS.holds (pts r5 (stV k.mdl) 177) (by (repeat (first | exact mH _ | apply mT)) <;> fail)).symm) ?_; clear hS; intro w hS0; have hS := sockOpen.1 hS0; clear hS0; simp only [Act.put, spA, spZ, spS]))); refine wpT_nil ?_) | (refine ck_region (fun _ => A.b) (fun i => if i = 5 then [3] else []) ([3]) hS (by kernel_rfl) (by decide +kernel) ?_ ?_; exact ⟨fun _ _ _ h => h.2, fun _ _ h => h⟩; clear hS; intro w hS _; (repeat (first | (apply wpT_pure rfl rfl; (intro _; go_simp; (try (go_ints; (try go_simp))); (first | (rw [decide_eq_true]; omega) | (rw [decide_eq_false]; omega) | rfl | rw [if_pos (by omega)])); simp only [Act.put, spA, spZ, spS]) | (refine ckT_load hS rfl rfl rfl (by simp <;> fail) (by (repeat (first | exact mH _ | apply mT)) <;> fail) rfl (by decide +kernel) ?_; simp only [Act.put, spA, spZ, spS]) | (refine wpT_skip rfl ?_; simp only [Act.put, spA, spZ, spS]) | (refine ckT_callG' (sockOpen.2 hS) rfl kF rfl (by kernel_rfl) rfl (by intro j hj w2 h2; have h3 := sockOpen.1 h2; clear h2; simp at hj; subst hj; exact (h3.holds (sockP A k) (by (repeat (first | exact mH _ | apply mT)) <;> fail)).trans (hS.holds (sockP A k) (by (repeat (first | exact mH _ | apply mT)) <;> fail)).symm) ?_; clear hS; intro w hS0; have hS := sockOpen.1 hS0; clear hS0; simp only [Act.put, spA, spZ, spS]) | ((refine ckT_callU hS rfl (kI) (by (repeat (first | exact uH _ _ _ | apply uT)) <;> fail) rfl (by kernel_rfl) rfl (by simp <;> fail) ?_) <;> (first | (clear hS; intro w hS) | omega); simp only [Act.put, spA, spZ, spS]))); refine wpT_nil ?_) | (refine ck_region (fun i => if i = 8 then r5 else A.b) (fun i => if i = 10 then [6, 8, 14] else if i = 15 then [6] else []) ([6, 8, 14]) hS (by kernel_rfl) (by decide +kernel) ?_ ?_; exact ⟨fun _ _ _ h => h.2, fun _ _ h => h⟩; clear hS; intro w hS _; (repeat (first | (apply wpT_pure rfl rfl; (intro _; go_simp; (try (go_ints; (try go_simp))); (first | (rw [decide_eq_true]; omega) | (rw [decide_eq_false]; omega) | rfl | rw [if_pos (by omega)])); simp only [Act.put, spA, spZ, spS]) | (refine ckT_load hS rfl rfl rfl (by simp <;> fail) (by (repeat (first | exact mH _ | apply mT)) <;> fail) rfl (by decide +kernel) ?_; simp only [Act.put, spA, spZ, spS]) | (refine wpT_skip rfl ?_; simp only [Act.put, spA, spZ, spS]) | (refine ckT_callG' (sockOpen.2 hS) rfl kT rfl (by kernel_rfl) rfl (by intro j hj w2 h2; have h3 := sockOpen.1 h2; clear h2; simp at hj; rcases hj with rfl | rfl | rfl <;> first | (exact (h3.holds (sockP A k) (by (repeat (first | exact mH _ | apply mT)) <;> fail)).trans (hS.holds (sockP A k) (by (repeat (first | exact mH _ | apply mT)) <;> fail)).symm) | (exact (h3.holds (pts r5 (stV k.mdl) 177) (by (repeat (first | exact mH _ | apply mT)) <;> fail)).trans (hS.holds (pts r5 (stV k.mdl) 177) (by (repeat (first | exact mH _ | apply mT)) <;> fail)).symm)) ?_; clear hS; intro w hS0; have hS := sockOpen.1 hS0; clear hS0; simp only [Act.put, spA, spZ, spS]) | (refine ckT_call0 hS rfl kQ rfl (by kernel_rfl) rfl (by intro j hj; simp at hj; subst hj; exact .inr ⟨_, _, ((by (repeat (first | exact mH _ | apply mT)) <;> fail) : sockP A k ∈ _), (by (repeat (first | exact mH _ | apply mT)) <;> fail)⟩) ?_; clear hS; intro w hS; simp only [Act.put, spA, spZ, spS]) | (refine ckT_call0 hS rfl (kY) rfl (by kernel_rfl) rfl (by simp <;> fail) ?_; clear hS; intro w hS; simp only [Act.put, spA, spZ, spS]))); refine wpT_nil ?_))
  go_ret
  refine ⟨_, ⟨rfl, rfl⟩, ?_⟩
  have j1 := (hS.bring (r := pts r5 (stV k.mdl) 177) (by (repeat (first | exact rH _ _ | apply rT)) <;> fail)).drop
  have j2 := (j1.bring (r := pts r3 [.int .u64 0, .int .u64 0] 269) (by (repeat (first | exact rH _ _ | apply rT)) <;> fail)).drop
  exact hfin j2
set_option maxRecDepth 20000 in
set_option maxHeartbeats 8000000 in
theorem sockMay3_ct (h : sockOk k) (hu : ¬ k.buf.w - k.buf.t = 0) (ho : ¬ flightZ k.ps < k.mdl.cwnd) : Ct Tryz.prog 142 #[.pointer (some ⟨A.b, 0, none⟩)] [sockG A k] (Gives (.int .i64 5) [sockG A k]) := by
  have kS := mdlState_ct A.m k.mdl
  have kL := brdLostNone_ct A.o k.ps k.en A.oa h.len h.no
  have kN := brdLen_ct A.o k.ps k.en A.oa
  have kF := sockFlight_ct A k h.len h.ok h.fl
  have kT := sockTso_ct A k h
  obtain ⟨b0, b1, b2⟩ := h.buf
  have kU := bufUnsent_ct A.f k.buf.w k.buf.t k.buf.s k.buf.r b0 b1 b2
  obtain ⟨r0, r1⟩ := h.rate
  obtain ⟨c0, c1⟩ := h.most
  have hfz := flightZ_nn h.ok
  have hfz1 := h.fl
  have kI := smpLimit_ct A.s k.smp (flightZ k.ps) h.del.1 h.del.2 hfz (by omega)
  have htz := tsoK_bd h
  have kQ := limit_ct k.mdl.rate (tsoK k) k.most r0 r1 (by omega) (by omega) c0 c1
  have kY := may_ct k.out (tsqL k.mdl.rate (tsoK k) k.most)
  have hlen := h.len
  obtain ⟨n, hn⟩ : ∃ n, k.ps.length = n := ⟨_, rfl⟩
  have hfin : ∀ {w : World} {w0 : World} {F : List Nat} {L : List Res}, Sep w0 F (sockP A k :: bufR' A.f k.buf :: brdG A.o k.ps k.en A.oa :: smpR A.s k.smp :: mdlG A.m k.mdl :: L) w → Sep w0 F (sockG A k :: L) w := fun h => sockOpen.2 h
  try rw [hn] at hN
  rw [hn] at kN hlen
  generalize flightZ k.ps = fz at *
  generalize tsqL k.mdl.rate (tsoK k) k.most = lz at *
  generalize tsoK k = tz at *
  have hu' : (k.buf.w - k.buf.t == 0) = false := by simpa using hu
  have ho' : decide (fz < k.mdl.cwnd) = false := decide_eq_false ho
  intro w0 F L w hS
  have hS := sockOpen.1 hS
  clear h hn
  go_enter Tryz.func142, Tryz.ntmps142
  go_wp2_with (first | go_skip | (refine ck_storeAll hS rfl rfl rfl rfl (by (repeat (first | exact uH _ _ _ | apply uT)) <;> fail) (by rfl) rfl (by (try simp only [List.length_cons, List.length_nil, Nat.zero_add, Nat.reduceAdd]); decide +kernel) ?_; clear hS; intro w hS; simp only [Act.put, spA, spZ, spS]) | (refine ck_load hS rfl rfl rfl (by (repeat (first | exact mH _ | apply mT)) <;> fail) rfl (by decide +kernel) ?_; simp only [Act.put, spA, spZ, spS]) | (refine ck_store hS rfl rfl rfl (by constructor) (by (repeat (first | exact uH _ _ _ | apply uT)) <;> fail) (by simp <;> omega) rfl (by decide +kernel) ?_; clear hS; intro w hS; simp only [Act.put, spA, spZ, spS] at hS ⊢) | (refine ck_alloc (t := 269) (v := .agg (List.toArray [.int .u64 0, .int .u64 0])) (cs := [.int .u64 0, .int .u64 0]) hS rfl rfl (by kernel_rfl) rfl ?_; clear hS; intro r3 w hS0; have hS := hS0.rot5; clear hS0; simp only [Act.put, spA, spZ, spS]) | (refine ck_alloc (t := 177) (v := .agg (List.toArray [.int .i64 0, .int .i64 0, .int .u64 0, .int .u64 0, .int .u64 0, .int .u64 0, .int .u64 0, .int .u64 0, .bool false, .bool false])) (cs := [.int .i64 0, .int .i64 0, .int .u64 0, .int .u64 0, .int .u64 0, .int .u64 0, .int .u64 0, .int .u64 0, .bool false, .bool false]) hS rfl rfl (by kernel_rfl) rfl ?_; clear hS; intro r5 w hS0; have hS := hS0.rot5; clear hS0; simp only [Act.put, spA, spZ, spS]) | (go_at_call 196; (with_reducible refine Ct.callU (kL) (by (repeat (first | exact uH _ _ _ | apply uT)) <;> fail) hS ?_) <;> (first | (clear hS; intro w hS) | omega)) | (go_at_call 128; (with_reducible refine Ct.callU (kS) (by (repeat (first | exact uH _ _ _ | apply uT)) <;> fail) hS ?_) <;> (first | (clear hS; intro w hS) | omega)) | (go_at_call 197; (with_reducible refine Ct.callU (kU) (by (repeat (first | exact uH _ _ _ | apply uT)) <;> fail) hS ?_) <;> (first | (clear hS; intro w hS) | omega)) | (go_at_call 201; (with_reducible refine Ct.callU (kN) (by (repeat (first | exact uH _ _ _ | apply uT)) <;> fail) hS ?_) <;> (first | (clear hS; intro w hS) | omega)) | (refine ck_region (fun _ => 0) (fun _ => []) [] hS (by kernel_rfl) (by decide +kernel) ?_ ?_; exact ⟨fun _ _ _ h => h.2, fun _ _ h => h⟩; clear hS; intro w hS _; (repeat (first | (apply wpT_pure rfl rfl; (intro _; go_simp; (try (go_ints; (try go_simp))); (first | (rw [decide_eq_true]; omega) | (rw [decide_eq_false]; omega) | rfl | rw [if_pos (by omega)])); simp only [Act.put, spA, spZ, spS]) | (refine ckT_load hS rfl rfl rfl (by simp <;> fail) (by (repeat (first | exact mH _ | apply mT)) <;> fail) rfl (by decide +kernel) ?_; simp only [Act.put, spA, spZ, spS]) | (refine wpT_skip rfl ?_; simp only [Act.put, spA, spZ, spS]) )); refine wpT_nil ?_) | (refine ck_region (fun _ => r5) (fun i => if i = 1 then [3] else []) ([3]) hS (by kernel_rfl) (by decide +kernel) ?_ ?_; exact ⟨fun _ _ _ h => h.2, fun _ _ h => h⟩; clear hS; intro w hS _; (repeat (first | (apply wpT_pure rfl rfl; (intro _; go_simp; (try (go_ints; (try go_simp))); (first | (rw [decide_eq_true]; omega) | (rw [decide_eq_false]; omega) | rfl | rw [if_pos (by omega)])); simp only [Act.put, spA, spZ, spS]) | (refine ckT_load hS rfl rfl rfl (by simp <;> fail) (by (repeat (first | exact mH _ | apply mT)) <;> fail) rfl (by decide +kernel) ?_; simp only [Act.put, spA, spZ, spS]) | (refine wpT_skip rfl ?_; simp only [Act.put, spA, spZ, spS]) | (refine ckT_callG' (sockOpen.2 hS) rfl kF rfl (by kernel_rfl) rfl (by intro j hj w2 h2; have h3 := sockOpen.1 h2; clear h2; simp at hj; subst hj; exact (h3.holds (pts r5 (stV k.mdl) 177) (by (repeat (first | exact mH _ | apply mT)) <;> fail)).trans (hS.holds (pts r5 (stV k.mdl) 177) (by (repeat (first | exact mH _ | apply mT)) <;> fail)).symm) ?_; clear hS; intro w hS0; have hS := sockOpen.1 hS0; clear hS0; simp only [Act.put, spA, spZ, spS]))); refine wpT_nil ?_) | (refine ck_region (fun _ => A.b) (fun i => if i = 5 then [3] else []) ([3]) hS (by kernel_rfl) (by decide +kernel) ?_ ?_; exact ⟨fun _ _ _ h => h.2, fun _ _ h => h⟩; clear hS; intro w hS _; (repeat (first | (apply wpT_pure rfl rfl; (intro _; go_simp; (try (go_ints; (try go_simp))); (first | (rw [decide_eq_true]; omega) | (rw [decide_eq_false]; omega) | rfl | rw [if_pos (by omega)])); simp only [Act.put, spA, spZ, spS]) | (refine ckT_load hS rfl rfl rfl (by simp <;> fail) (by (repeat (first | exact mH _ | apply mT)) <;> fail) rfl (by decide +kernel) ?_; simp only [Act.put, spA, spZ, spS]) | (refine wpT_skip rfl ?_; simp only [Act.put, spA, spZ, spS]) | (refine ckT_callG' (sockOpen.2 hS) rfl kF rfl (by kernel_rfl) rfl (by intro j hj w2 h2; have h3 := sockOpen.1 h2; clear h2; simp at hj; subst hj; exact (h3.holds (sockP A k) (by (repeat (first | exact mH _ | apply mT)) <;> fail)).trans (hS.holds (sockP A k) (by (repeat (first | exact mH _ | apply mT)) <;> fail)).symm) ?_; clear hS; intro w hS0; have hS := sockOpen.1 hS0; clear hS0; simp only [Act.put, spA, spZ, spS]) | ((refine ckT_callU hS rfl (kI) (by (repeat (first | exact uH _ _ _ | apply uT)) <;> fail) rfl (by kernel_rfl) rfl (by simp <;> fail) ?_) <;> (first | (clear hS; intro w hS) | omega); simp only [Act.put, spA, spZ, spS]))); refine wpT_nil ?_) | (refine ck_region (fun i => if i = 8 then r5 else A.b) (fun i => if i = 10 then [6, 8, 14] else if i = 15 then [6] else []) ([6, 8, 14]) hS (by kernel_rfl) (by decide +kernel) ?_ ?_; exact ⟨fun _ _ _ h => h.2, fun _ _ h => h⟩; clear hS; intro w hS _; (repeat (first | (apply wpT_pure rfl rfl; (intro _; go_simp; (try (go_ints; (try go_simp))); (first | (rw [decide_eq_true]; omega) | (rw [decide_eq_false]; omega) | rfl | rw [if_pos (by omega)])); simp only [Act.put, spA, spZ, spS]) | (refine ckT_load hS rfl rfl rfl (by simp <;> fail) (by (repeat (first | exact mH _ | apply mT)) <;> fail) rfl (by decide +kernel) ?_; simp only [Act.put, spA, spZ, spS]) | (refine wpT_skip rfl ?_; simp only [Act.put, spA, spZ, spS]) | (refine ckT_callG' (sockOpen.2 hS) rfl kT rfl (by kernel_rfl) rfl (by intro j hj w2 h2; have h3 := sockOpen.1 h2; clear h2; simp at hj; rcases hj with rfl | rfl | rfl <;> first | (exact (h3.holds (sockP A k) (by (repeat (first | exact mH _ | apply mT)) <;> fail)).trans (hS.holds (sockP A k) (by (repeat (first | exact mH _ | apply mT)) <;> fail)).symm) | (exact (h3.holds (pts r5 (stV k.mdl) 177) (by (repeat (first | exact mH _ | apply mT)) <;> fail)).trans (hS.holds (pts r5 (stV k.mdl) 177) (by (repeat (first | exact mH _ | apply mT)) <;> fail)).symm)) ?_; clear hS; intro w hS0; have hS := sockOpen.1 hS0; clear hS0; simp only [Act.put, spA, spZ, spS]) | (refine ckT_call0 hS rfl kQ rfl (by kernel_rfl) rfl (by intro j hj; simp at hj; subst hj; exact .inr ⟨_, _, ((by (repeat (first | exact mH _ | apply mT)) <;> fail) : sockP A k ∈ _), (by (repeat (first | exact mH _ | apply mT)) <;> fail)⟩) ?_; clear hS; intro w hS; simp only [Act.put, spA, spZ, spS]) | (refine ckT_call0 hS rfl (kY) rfl (by kernel_rfl) rfl (by simp <;> fail) ?_; clear hS; intro w hS; simp only [Act.put, spA, spZ, spS]))); refine wpT_nil ?_))
  go_ret
  refine ⟨_, ⟨rfl, rfl⟩, ?_⟩
  have j1 := (hS.bring (r := pts r5 (stV k.mdl) 177) (by (repeat (first | exact rH _ _ | apply rT)) <;> fail)).drop
  have j2 := (j1.bring (r := pts r3 [.int .u64 0, .int .u64 0] 269) (by (repeat (first | exact rH _ _ | apply rT)) <;> fail)).drop
  exact hfin j2
set_option maxRecDepth 20000 in
set_option maxHeartbeats 8000000 in
theorem sockMay4_ct (h : sockOk k) (hu : ¬ k.buf.w - k.buf.t = 0) (ho : flightZ k.ps < k.mdl.cwnd) (hq : ¬ k.out < tsqL k.mdl.rate (tsoK k) k.most) : Ct Tryz.prog 142 #[.pointer (some ⟨A.b, 0, none⟩)] [sockG A k] (Gives (.int .i64 5) [sockG A k]) := by
  have kS := mdlState_ct A.m k.mdl
  have kL := brdLostNone_ct A.o k.ps k.en A.oa h.len h.no
  have kN := brdLen_ct A.o k.ps k.en A.oa
  have kF := sockFlight_ct A k h.len h.ok h.fl
  have kT := sockTso_ct A k h
  obtain ⟨b0, b1, b2⟩ := h.buf
  have kU := bufUnsent_ct A.f k.buf.w k.buf.t k.buf.s k.buf.r b0 b1 b2
  obtain ⟨r0, r1⟩ := h.rate
  obtain ⟨c0, c1⟩ := h.most
  have hfz := flightZ_nn h.ok
  have hfz1 := h.fl
  have kI := smpLimit_ct A.s k.smp (flightZ k.ps) h.del.1 h.del.2 hfz (by omega)
  have htz := tsoK_bd h
  have kQ := limit_ct k.mdl.rate (tsoK k) k.most r0 r1 (by omega) (by omega) c0 c1
  have kY := may_ct k.out (tsqL k.mdl.rate (tsoK k) k.most)
  have hlen := h.len
  obtain ⟨n, hn⟩ : ∃ n, k.ps.length = n := ⟨_, rfl⟩
  have hfin : ∀ {w : World} {w0 : World} {F : List Nat} {L : List Res}, Sep w0 F (sockP A k :: bufR' A.f k.buf :: brdG A.o k.ps k.en A.oa :: smpR A.s k.smp :: mdlG A.m k.mdl :: L) w → Sep w0 F (sockG A k :: L) w := fun h => sockOpen.2 h
  try rw [hn] at hN
  rw [hn] at kN hlen
  generalize flightZ k.ps = fz at *
  generalize tsqL k.mdl.rate (tsoK k) k.most = lz at *
  generalize tsoK k = tz at *
  have hu' : (k.buf.w - k.buf.t == 0) = false := by simpa using hu
  have ho' : decide (fz < k.mdl.cwnd) = true := decide_eq_true ho
  rw [decide_eq_false hq] at kY
  intro w0 F L w hS
  have hS := sockOpen.1 hS
  clear h hn
  go_enter Tryz.func142, Tryz.ntmps142
  go_wp2_with (first | go_skip | (refine ck_storeAll hS rfl rfl rfl rfl (by (repeat (first | exact uH _ _ _ | apply uT)) <;> fail) (by rfl) rfl (by (try simp only [List.length_cons, List.length_nil, Nat.zero_add, Nat.reduceAdd]); decide +kernel) ?_; clear hS; intro w hS; simp only [Act.put, spA, spZ, spS]) | (refine ck_load hS rfl rfl rfl (by (repeat (first | exact mH _ | apply mT)) <;> fail) rfl (by decide +kernel) ?_; simp only [Act.put, spA, spZ, spS]) | (refine ck_store hS rfl rfl rfl (by constructor) (by (repeat (first | exact uH _ _ _ | apply uT)) <;> fail) (by simp <;> omega) rfl (by decide +kernel) ?_; clear hS; intro w hS; simp only [Act.put, spA, spZ, spS] at hS ⊢) | (refine ck_alloc (t := 269) (v := .agg (List.toArray [.int .u64 0, .int .u64 0])) (cs := [.int .u64 0, .int .u64 0]) hS rfl rfl (by kernel_rfl) rfl ?_; clear hS; intro r3 w hS0; have hS := hS0.rot5; clear hS0; simp only [Act.put, spA, spZ, spS]) | (refine ck_alloc (t := 177) (v := .agg (List.toArray [.int .i64 0, .int .i64 0, .int .u64 0, .int .u64 0, .int .u64 0, .int .u64 0, .int .u64 0, .int .u64 0, .bool false, .bool false])) (cs := [.int .i64 0, .int .i64 0, .int .u64 0, .int .u64 0, .int .u64 0, .int .u64 0, .int .u64 0, .int .u64 0, .bool false, .bool false]) hS rfl rfl (by kernel_rfl) rfl ?_; clear hS; intro r5 w hS0; have hS := hS0.rot5; clear hS0; simp only [Act.put, spA, spZ, spS]) | (go_at_call 196; (with_reducible refine Ct.callU (kL) (by (repeat (first | exact uH _ _ _ | apply uT)) <;> fail) hS ?_) <;> (first | (clear hS; intro w hS) | omega)) | (go_at_call 128; (with_reducible refine Ct.callU (kS) (by (repeat (first | exact uH _ _ _ | apply uT)) <;> fail) hS ?_) <;> (first | (clear hS; intro w hS) | omega)) | (go_at_call 197; (with_reducible refine Ct.callU (kU) (by (repeat (first | exact uH _ _ _ | apply uT)) <;> fail) hS ?_) <;> (first | (clear hS; intro w hS) | omega)) | (go_at_call 201; (with_reducible refine Ct.callU (kN) (by (repeat (first | exact uH _ _ _ | apply uT)) <;> fail) hS ?_) <;> (first | (clear hS; intro w hS) | omega)) | (refine ck_region (fun _ => 0) (fun _ => []) [] hS (by kernel_rfl) (by decide +kernel) ?_ ?_; exact ⟨fun _ _ _ h => h.2, fun _ _ h => h⟩; clear hS; intro w hS _; (repeat (first | (apply wpT_pure rfl rfl; (intro _; go_simp; (try (go_ints; (try go_simp))); (first | (rw [decide_eq_true]; omega) | (rw [decide_eq_false]; omega) | rfl | rw [if_pos (by omega)])); simp only [Act.put, spA, spZ, spS]) | (refine ckT_load hS rfl rfl rfl (by simp <;> fail) (by (repeat (first | exact mH _ | apply mT)) <;> fail) rfl (by decide +kernel) ?_; simp only [Act.put, spA, spZ, spS]) | (refine wpT_skip rfl ?_; simp only [Act.put, spA, spZ, spS]) )); refine wpT_nil ?_) | (refine ck_region (fun _ => r5) (fun i => if i = 1 then [3] else []) ([3]) hS (by kernel_rfl) (by decide +kernel) ?_ ?_; exact ⟨fun _ _ _ h => h.2, fun _ _ h => h⟩; clear hS; intro w hS _; (repeat (first | (apply wpT_pure rfl rfl; (intro _; go_simp; (try (go_ints; (try go_simp))); (first | (rw [decide_eq_true]; omega) | (rw [decide_eq_false]; omega) | rfl | rw [if_pos (by omega)])); simp only [Act.put, spA, spZ, spS]) | (refine ckT_load hS rfl rfl rfl (by simp <;> fail) (by (repeat (first | exact mH _ | apply mT)) <;> fail) rfl (by decide +kernel) ?_; simp only [Act.put, spA, spZ, spS]) | (refine wpT_skip rfl ?_; simp only [Act.put, spA, spZ, spS]) | (refine ckT_callG' (sockOpen.2 hS) rfl kF rfl (by kernel_rfl) rfl (by intro j hj w2 h2; have h3 := sockOpen.1 h2; clear h2; simp at hj; subst hj; exact (h3.holds (pts r5 (stV k.mdl) 177) (by (repeat (first | exact mH _ | apply mT)) <;> fail)).trans (hS.holds (pts r5 (stV k.mdl) 177) (by (repeat (first | exact mH _ | apply mT)) <;> fail)).symm) ?_; clear hS; intro w hS0; have hS := sockOpen.1 hS0; clear hS0; simp only [Act.put, spA, spZ, spS]))); refine wpT_nil ?_) | (refine ck_region (fun _ => A.b) (fun i => if i = 5 then [3] else []) ([3]) hS (by kernel_rfl) (by decide +kernel) ?_ ?_; exact ⟨fun _ _ _ h => h.2, fun _ _ h => h⟩; clear hS; intro w hS _; (repeat (first | (apply wpT_pure rfl rfl; (intro _; go_simp; (try (go_ints; (try go_simp))); (first | (rw [decide_eq_true]; omega) | (rw [decide_eq_false]; omega) | rfl | rw [if_pos (by omega)])); simp only [Act.put, spA, spZ, spS]) | (refine ckT_load hS rfl rfl rfl (by simp <;> fail) (by (repeat (first | exact mH _ | apply mT)) <;> fail) rfl (by decide +kernel) ?_; simp only [Act.put, spA, spZ, spS]) | (refine wpT_skip rfl ?_; simp only [Act.put, spA, spZ, spS]) | (refine ckT_callG' (sockOpen.2 hS) rfl kF rfl (by kernel_rfl) rfl (by intro j hj w2 h2; have h3 := sockOpen.1 h2; clear h2; simp at hj; subst hj; exact (h3.holds (sockP A k) (by (repeat (first | exact mH _ | apply mT)) <;> fail)).trans (hS.holds (sockP A k) (by (repeat (first | exact mH _ | apply mT)) <;> fail)).symm) ?_; clear hS; intro w hS0; have hS := sockOpen.1 hS0; clear hS0; simp only [Act.put, spA, spZ, spS]) | ((refine ckT_callU hS rfl (kI) (by (repeat (first | exact uH _ _ _ | apply uT)) <;> fail) rfl (by kernel_rfl) rfl (by simp <;> fail) ?_) <;> (first | (clear hS; intro w hS) | omega); simp only [Act.put, spA, spZ, spS]))); refine wpT_nil ?_) | (refine ck_region (fun i => if i = 8 then r5 else A.b) (fun i => if i = 10 then [6, 8, 14] else if i = 15 then [6] else []) ([6, 8, 14]) hS (by kernel_rfl) (by decide +kernel) ?_ ?_; exact ⟨fun _ _ _ h => h.2, fun _ _ h => h⟩; clear hS; intro w hS _; (repeat (first | (apply wpT_pure rfl rfl; (intro _; go_simp; (try (go_ints; (try go_simp))); (first | (rw [decide_eq_true]; omega) | (rw [decide_eq_false]; omega) | rfl | rw [if_pos (by omega)])); simp only [Act.put, spA, spZ, spS]) | (refine ckT_load hS rfl rfl rfl (by simp <;> fail) (by (repeat (first | exact mH _ | apply mT)) <;> fail) rfl (by decide +kernel) ?_; simp only [Act.put, spA, spZ, spS]) | (refine wpT_skip rfl ?_; simp only [Act.put, spA, spZ, spS]) | (refine ckT_callG' (sockOpen.2 hS) rfl kT rfl (by kernel_rfl) rfl (by intro j hj w2 h2; have h3 := sockOpen.1 h2; clear h2; simp at hj; rcases hj with rfl | rfl | rfl <;> first | (exact (h3.holds (sockP A k) (by (repeat (first | exact mH _ | apply mT)) <;> fail)).trans (hS.holds (sockP A k) (by (repeat (first | exact mH _ | apply mT)) <;> fail)).symm) | (exact (h3.holds (pts r5 (stV k.mdl) 177) (by (repeat (first | exact mH _ | apply mT)) <;> fail)).trans (hS.holds (pts r5 (stV k.mdl) 177) (by (repeat (first | exact mH _ | apply mT)) <;> fail)).symm)) ?_; clear hS; intro w hS0; have hS := sockOpen.1 hS0; clear hS0; simp only [Act.put, spA, spZ, spS]) | (refine ckT_call0 hS rfl kQ rfl (by kernel_rfl) rfl (by intro j hj; simp at hj; subst hj; exact .inr ⟨_, _, ((by (repeat (first | exact mH _ | apply mT)) <;> fail) : sockP A k ∈ _), (by (repeat (first | exact mH _ | apply mT)) <;> fail)⟩) ?_; clear hS; intro w hS; simp only [Act.put, spA, spZ, spS]) | (refine ckT_call0 hS rfl (kY) rfl (by kernel_rfl) rfl (by simp <;> fail) ?_; clear hS; intro w hS; simp only [Act.put, spA, spZ, spS]))); refine wpT_nil ?_))
  go_ret
  refine ⟨_, ⟨rfl, rfl⟩, ?_⟩
  have j1 := (hS.bring (r := pts r5 (stV k.mdl) 177) (by (repeat (first | exact rH _ _ | apply rT)) <;> fail)).drop
  have j2 := (j1.bring (r := pts r3 [.int .u64 0, .int .u64 0] 269) (by (repeat (first | exact rH _ _ | apply rT)) <;> fail)).drop
  exact hfin j2
set_option maxRecDepth 20000 in
set_option maxHeartbeats 8000000 in
theorem sockMay5_ct (h : sockOk k) (hu : ¬ k.buf.w - k.buf.t = 0) (ho : flightZ k.ps < k.mdl.cwnd) (hq : k.out < tsqL k.mdl.rate (tsoK k) k.most) (hN : 4096 ≤ k.ps.length) : Ct Tryz.prog 142 #[.pointer (some ⟨A.b, 0, none⟩)] [sockG A k] (Gives (.int .i64 5) [sockG A k]) := by
  have kS := mdlState_ct A.m k.mdl
  have kL := brdLostNone_ct A.o k.ps k.en A.oa h.len h.no
  have kN := brdLen_ct A.o k.ps k.en A.oa
  have kF := sockFlight_ct A k h.len h.ok h.fl
  have kT := sockTso_ct A k h
  obtain ⟨b0, b1, b2⟩ := h.buf
  have kU := bufUnsent_ct A.f k.buf.w k.buf.t k.buf.s k.buf.r b0 b1 b2
  obtain ⟨r0, r1⟩ := h.rate
  obtain ⟨c0, c1⟩ := h.most
  have hfz := flightZ_nn h.ok
  have hfz1 := h.fl
  have kI := smpLimit_ct A.s k.smp (flightZ k.ps) h.del.1 h.del.2 hfz (by omega)
  have htz := tsoK_bd h
  have kQ := limit_ct k.mdl.rate (tsoK k) k.most r0 r1 (by omega) (by omega) c0 c1
  have kY := may_ct k.out (tsqL k.mdl.rate (tsoK k) k.most)
  have hlen := h.len
  obtain ⟨n, hn⟩ : ∃ n, k.ps.length = n := ⟨_, rfl⟩
  have hfin : ∀ {w : World} {w0 : World} {F : List Nat} {L : List Res}, Sep w0 F (sockP A k :: bufR' A.f k.buf :: brdG A.o k.ps k.en A.oa :: smpR A.s k.smp :: mdlG A.m k.mdl :: L) w → Sep w0 F (sockG A k :: L) w := fun h => sockOpen.2 h
  try rw [hn] at hN
  rw [hn] at kN hlen
  generalize flightZ k.ps = fz at *
  generalize tsqL k.mdl.rate (tsoK k) k.most = lz at *
  generalize tsoK k = tz at *
  have hu' : (k.buf.w - k.buf.t == 0) = false := by simpa using hu
  have ho' : decide (fz < k.mdl.cwnd) = true := decide_eq_true ho
  rw [decide_eq_true hq] at kY
  intro w0 F L w hS
  have hS := sockOpen.1 hS
  clear h hn
  go_enter Tryz.func142, Tryz.ntmps142
  go_wp2_with (first | go_skip | (refine ck_storeAll hS rfl rfl rfl rfl (by (repeat (first | exact uH _ _ _ | apply uT)) <;> fail) (by rfl) rfl (by (try simp only [List.length_cons, List.length_nil, Nat.zero_add, Nat.reduceAdd]); decide +kernel) ?_; clear hS; intro w hS; simp only [Act.put, spA, spZ, spS]) | (refine ck_load hS rfl rfl rfl (by (repeat (first | exact mH _ | apply mT)) <;> fail) rfl (by decide +kernel) ?_; simp only [Act.put, spA, spZ, spS]) | (refine ck_store hS rfl rfl rfl (by constructor) (by (repeat (first | exact uH _ _ _ | apply uT)) <;> fail) (by simp <;> omega) rfl (by decide +kernel) ?_; clear hS; intro w hS; simp only [Act.put, spA, spZ, spS] at hS ⊢) | (refine ck_alloc (t := 269) (v := .agg (List.toArray [.int .u64 0, .int .u64 0])) (cs := [.int .u64 0, .int .u64 0]) hS rfl rfl (by kernel_rfl) rfl ?_; clear hS; intro r3 w hS0; have hS := hS0.rot5; clear hS0; simp only [Act.put, spA, spZ, spS]) | (refine ck_alloc (t := 177) (v := .agg (List.toArray [.int .i64 0, .int .i64 0, .int .u64 0, .int .u64 0, .int .u64 0, .int .u64 0, .int .u64 0, .int .u64 0, .bool false, .bool false])) (cs := [.int .i64 0, .int .i64 0, .int .u64 0, .int .u64 0, .int .u64 0, .int .u64 0, .int .u64 0, .int .u64 0, .bool false, .bool false]) hS rfl rfl (by kernel_rfl) rfl ?_; clear hS; intro r5 w hS0; have hS := hS0.rot5; clear hS0; simp only [Act.put, spA, spZ, spS]) | (go_at_call 196; (with_reducible refine Ct.callU (kL) (by (repeat (first | exact uH _ _ _ | apply uT)) <;> fail) hS ?_) <;> (first | (clear hS; intro w hS) | omega)) | (go_at_call 128; (with_reducible refine Ct.callU (kS) (by (repeat (first | exact uH _ _ _ | apply uT)) <;> fail) hS ?_) <;> (first | (clear hS; intro w hS) | omega)) | (go_at_call 197; (with_reducible refine Ct.callU (kU) (by (repeat (first | exact uH _ _ _ | apply uT)) <;> fail) hS ?_) <;> (first | (clear hS; intro w hS) | omega)) | (go_at_call 201; (with_reducible refine Ct.callU (kN) (by (repeat (first | exact uH _ _ _ | apply uT)) <;> fail) hS ?_) <;> (first | (clear hS; intro w hS) | omega)) | (refine ck_region (fun _ => 0) (fun _ => []) [] hS (by kernel_rfl) (by decide +kernel) ?_ ?_; exact ⟨fun _ _ _ h => h.2, fun _ _ h => h⟩; clear hS; intro w hS _; (repeat (first | (apply wpT_pure rfl rfl; (intro _; go_simp; (try (go_ints; (try go_simp))); (first | (rw [decide_eq_true]; omega) | (rw [decide_eq_false]; omega) | rfl | rw [if_pos (by omega)])); simp only [Act.put, spA, spZ, spS]) | (refine ckT_load hS rfl rfl rfl (by simp <;> fail) (by (repeat (first | exact mH _ | apply mT)) <;> fail) rfl (by decide +kernel) ?_; simp only [Act.put, spA, spZ, spS]) | (refine wpT_skip rfl ?_; simp only [Act.put, spA, spZ, spS]) )); refine wpT_nil ?_) | (refine ck_region (fun _ => r5) (fun i => if i = 1 then [3] else []) ([3]) hS (by kernel_rfl) (by decide +kernel) ?_ ?_; exact ⟨fun _ _ _ h => h.2, fun _ _ h => h⟩; clear hS; intro w hS _; (repeat (first | (apply wpT_pure rfl rfl; (intro _; go_simp; (try (go_ints; (try go_simp))); (first | (rw [decide_eq_true]; omega) | (rw [decide_eq_false]; omega) | rfl | rw [if_pos (by omega)])); simp only [Act.put, spA, spZ, spS]) | (refine ckT_load hS rfl rfl rfl (by simp <;> fail) (by (repeat (first | exact mH _ | apply mT)) <;> fail) rfl (by decide +kernel) ?_; simp only [Act.put, spA, spZ, spS]) | (refine wpT_skip rfl ?_; simp only [Act.put, spA, spZ, spS]) | (refine ckT_callG' (sockOpen.2 hS) rfl kF rfl (by kernel_rfl) rfl (by intro j hj w2 h2; have h3 := sockOpen.1 h2; clear h2; simp at hj; subst hj; exact (h3.holds (pts r5 (stV k.mdl) 177) (by (repeat (first | exact mH _ | apply mT)) <;> fail)).trans (hS.holds (pts r5 (stV k.mdl) 177) (by (repeat (first | exact mH _ | apply mT)) <;> fail)).symm) ?_; clear hS; intro w hS0; have hS := sockOpen.1 hS0; clear hS0; simp only [Act.put, spA, spZ, spS]))); refine wpT_nil ?_) | (refine ck_region (fun _ => A.b) (fun i => if i = 5 then [3] else []) ([3]) hS (by kernel_rfl) (by decide +kernel) ?_ ?_; exact ⟨fun _ _ _ h => h.2, fun _ _ h => h⟩; clear hS; intro w hS _; (repeat (first | (apply wpT_pure rfl rfl; (intro _; go_simp; (try (go_ints; (try go_simp))); (first | (rw [decide_eq_true]; omega) | (rw [decide_eq_false]; omega) | rfl | rw [if_pos (by omega)])); simp only [Act.put, spA, spZ, spS]) | (refine ckT_load hS rfl rfl rfl (by simp <;> fail) (by (repeat (first | exact mH _ | apply mT)) <;> fail) rfl (by decide +kernel) ?_; simp only [Act.put, spA, spZ, spS]) | (refine wpT_skip rfl ?_; simp only [Act.put, spA, spZ, spS]) | (refine ckT_callG' (sockOpen.2 hS) rfl kF rfl (by kernel_rfl) rfl (by intro j hj w2 h2; have h3 := sockOpen.1 h2; clear h2; simp at hj; subst hj; exact (h3.holds (sockP A k) (by (repeat (first | exact mH _ | apply mT)) <;> fail)).trans (hS.holds (sockP A k) (by (repeat (first | exact mH _ | apply mT)) <;> fail)).symm) ?_; clear hS; intro w hS0; have hS := sockOpen.1 hS0; clear hS0; simp only [Act.put, spA, spZ, spS]) | ((refine ckT_callU hS rfl (kI) (by (repeat (first | exact uH _ _ _ | apply uT)) <;> fail) rfl (by kernel_rfl) rfl (by simp <;> fail) ?_) <;> (first | (clear hS; intro w hS) | omega); simp only [Act.put, spA, spZ, spS]))); refine wpT_nil ?_) | (refine ck_region (fun i => if i = 8 then r5 else A.b) (fun i => if i = 10 then [6, 8, 14] else if i = 15 then [6] else []) ([6, 8, 14]) hS (by kernel_rfl) (by decide +kernel) ?_ ?_; exact ⟨fun _ _ _ h => h.2, fun _ _ h => h⟩; clear hS; intro w hS _; (repeat (first | (apply wpT_pure rfl rfl; (intro _; go_simp; (try (go_ints; (try go_simp))); (first | (rw [decide_eq_true]; omega) | (rw [decide_eq_false]; omega) | rfl | rw [if_pos (by omega)])); simp only [Act.put, spA, spZ, spS]) | (refine ckT_load hS rfl rfl rfl (by simp <;> fail) (by (repeat (first | exact mH _ | apply mT)) <;> fail) rfl (by decide +kernel) ?_; simp only [Act.put, spA, spZ, spS]) | (refine wpT_skip rfl ?_; simp only [Act.put, spA, spZ, spS]) | (refine ckT_callG' (sockOpen.2 hS) rfl kT rfl (by kernel_rfl) rfl (by intro j hj w2 h2; have h3 := sockOpen.1 h2; clear h2; simp at hj; rcases hj with rfl | rfl | rfl <;> first | (exact (h3.holds (sockP A k) (by (repeat (first | exact mH _ | apply mT)) <;> fail)).trans (hS.holds (sockP A k) (by (repeat (first | exact mH _ | apply mT)) <;> fail)).symm) | (exact (h3.holds (pts r5 (stV k.mdl) 177) (by (repeat (first | exact mH _ | apply mT)) <;> fail)).trans (hS.holds (pts r5 (stV k.mdl) 177) (by (repeat (first | exact mH _ | apply mT)) <;> fail)).symm)) ?_; clear hS; intro w hS0; have hS := sockOpen.1 hS0; clear hS0; simp only [Act.put, spA, spZ, spS]) | (refine ckT_call0 hS rfl kQ rfl (by kernel_rfl) rfl (by intro j hj; simp at hj; subst hj; exact .inr ⟨_, _, ((by (repeat (first | exact mH _ | apply mT)) <;> fail) : sockP A k ∈ _), (by (repeat (first | exact mH _ | apply mT)) <;> fail)⟩) ?_; clear hS; intro w hS; simp only [Act.put, spA, spZ, spS]) | (refine ckT_call0 hS rfl (kY) rfl (by kernel_rfl) rfl (by simp <;> fail) ?_; clear hS; intro w hS; simp only [Act.put, spA, spZ, spS]))); refine wpT_nil ?_))
  go_ret
  refine ⟨_, ⟨rfl, rfl⟩, ?_⟩
  have j1 := (hS.bring (r := pts r5 (stV k.mdl) 177) (by (repeat (first | exact rH _ _ | apply rT)) <;> fail)).drop
  have j2 := (j1.bring (r := pts r3 [.int .u64 0, .int .u64 0] 269) (by (repeat (first | exact rH _ _ | apply rT)) <;> fail)).drop
  exact hfin j2
set_option maxRecDepth 20000 in
set_option maxHeartbeats 8000000 in
theorem sockMay6_ct (h : sockOk k) (hu : ¬ k.buf.w - k.buf.t = 0) (ho : flightZ k.ps < k.mdl.cwnd) (hq : k.out < tsqL k.mdl.rate (tsoK k) k.most) (hN : ¬ 4096 ≤ k.ps.length) : Ct Tryz.prog 142 #[.pointer (some ⟨A.b, 0, none⟩)] [sockG A k] (Gives (.int .i64 0) [sockG A k]) := by
  have kS := mdlState_ct A.m k.mdl
  have kL := brdLostNone_ct A.o k.ps k.en A.oa h.len h.no
  have kN := brdLen_ct A.o k.ps k.en A.oa
  have kF := sockFlight_ct A k h.len h.ok h.fl
  have kT := sockTso_ct A k h
  obtain ⟨b0, b1, b2⟩ := h.buf
  have kU := bufUnsent_ct A.f k.buf.w k.buf.t k.buf.s k.buf.r b0 b1 b2
  obtain ⟨r0, r1⟩ := h.rate
  obtain ⟨c0, c1⟩ := h.most
  have hfz := flightZ_nn h.ok
  have hfz1 := h.fl
  have kI := smpLimit_ct A.s k.smp (flightZ k.ps) h.del.1 h.del.2 hfz (by omega)
  have htz := tsoK_bd h
  have kQ := limit_ct k.mdl.rate (tsoK k) k.most r0 r1 (by omega) (by omega) c0 c1
  have kY := may_ct k.out (tsqL k.mdl.rate (tsoK k) k.most)
  have hlen := h.len
  obtain ⟨n, hn⟩ : ∃ n, k.ps.length = n := ⟨_, rfl⟩
  have hfin : ∀ {w : World} {w0 : World} {F : List Nat} {L : List Res}, Sep w0 F (sockP A k :: bufR' A.f k.buf :: brdG A.o k.ps k.en A.oa :: smpR A.s k.smp :: mdlG A.m k.mdl :: L) w → Sep w0 F (sockG A k :: L) w := fun h => sockOpen.2 h
  try rw [hn] at hN
  rw [hn] at kN hlen
  generalize flightZ k.ps = fz at *
  generalize tsqL k.mdl.rate (tsoK k) k.most = lz at *
  generalize tsoK k = tz at *
  have hu' : (k.buf.w - k.buf.t == 0) = false := by simpa using hu
  have ho' : decide (fz < k.mdl.cwnd) = true := decide_eq_true ho
  rw [decide_eq_true hq] at kY
  intro w0 F L w hS
  have hS := sockOpen.1 hS
  clear h hn
  go_enter Tryz.func142, Tryz.ntmps142
  go_wp2_with (first | go_skip | (refine ck_storeAll hS rfl rfl rfl rfl (by (repeat (first | exact uH _ _ _ | apply uT)) <;> fail) (by rfl) rfl (by (try simp only [List.length_cons, List.length_nil, Nat.zero_add, Nat.reduceAdd]); decide +kernel) ?_; clear hS; intro w hS; simp only [Act.put, spA, spZ, spS]) | (refine ck_load hS rfl rfl rfl (by (repeat (first | exact mH _ | apply mT)) <;> fail) rfl (by decide +kernel) ?_; simp only [Act.put, spA, spZ, spS]) | (refine ck_store hS rfl rfl rfl (by constructor) (by (repeat (first | exact uH _ _ _ | apply uT)) <;> fail) (by simp <;> omega) rfl (by decide +kernel) ?_; clear hS; intro w hS; simp only [Act.put, spA, spZ, spS] at hS ⊢) | (refine ck_alloc (t := 269) (v := .agg (List.toArray [.int .u64 0, .int .u64 0])) (cs := [.int .u64 0, .int .u64 0]) hS rfl rfl (by kernel_rfl) rfl ?_; clear hS; intro r3 w hS0; have hS := hS0.rot5; clear hS0; simp only [Act.put, spA, spZ, spS]) | (refine ck_alloc (t := 177) (v := .agg (List.toArray [.int .i64 0, .int .i64 0, .int .u64 0, .int .u64 0, .int .u64 0, .int .u64 0, .int .u64 0, .int .u64 0, .bool false, .bool false])) (cs := [.int .i64 0, .int .i64 0, .int .u64 0, .int .u64 0, .int .u64 0, .int .u64 0, .int .u64 0, .int .u64 0, .bool false, .bool false]) hS rfl rfl (by kernel_rfl) rfl ?_; clear hS; intro r5 w hS0; have hS := hS0.rot5; clear hS0; simp only [Act.put, spA, spZ, spS]) | (go_at_call 196; (with_reducible refine Ct.callU (kL) (by (repeat (first | exact uH _ _ _ | apply uT)) <;> fail) hS ?_) <;> (first | (clear hS; intro w hS) | omega)) | (go_at_call 128; (with_reducible refine Ct.callU (kS) (by (repeat (first | exact uH _ _ _ | apply uT)) <;> fail) hS ?_) <;> (first | (clear hS; intro w hS) | omega)) | (go_at_call 197; (with_reducible refine Ct.callU (kU) (by (repeat (first | exact uH _ _ _ | apply uT)) <;> fail) hS ?_) <;> (first | (clear hS; intro w hS) | omega)) | (go_at_call 201; (with_reducible refine Ct.callU (kN) (by (repeat (first | exact uH _ _ _ | apply uT)) <;> fail) hS ?_) <;> (first | (clear hS; intro w hS) | omega)) | (refine ck_region (fun _ => 0) (fun _ => []) [] hS (by kernel_rfl) (by decide +kernel) ?_ ?_; exact ⟨fun _ _ _ h => h.2, fun _ _ h => h⟩; clear hS; intro w hS _; (repeat (first | (apply wpT_pure rfl rfl; (intro _; go_simp; (try (go_ints; (try go_simp))); (first | (rw [decide_eq_true]; omega) | (rw [decide_eq_false]; omega) | rfl | rw [if_pos (by omega)])); simp only [Act.put, spA, spZ, spS]) | (refine ckT_load hS rfl rfl rfl (by simp <;> fail) (by (repeat (first | exact mH _ | apply mT)) <;> fail) rfl (by decide +kernel) ?_; simp only [Act.put, spA, spZ, spS]) | (refine wpT_skip rfl ?_; simp only [Act.put, spA, spZ, spS]) )); refine wpT_nil ?_) | (refine ck_region (fun _ => r5) (fun i => if i = 1 then [3] else []) ([3]) hS (by kernel_rfl) (by decide +kernel) ?_ ?_; exact ⟨fun _ _ _ h => h.2, fun _ _ h => h⟩; clear hS; intro w hS _; (repeat (first | (apply wpT_pure rfl rfl; (intro _; go_simp; (try (go_ints; (try go_simp))); (first | (rw [decide_eq_true]; omega) | (rw [decide_eq_false]; omega) | rfl | rw [if_pos (by omega)])); simp only [Act.put, spA, spZ, spS]) | (refine ckT_load hS rfl rfl rfl (by simp <;> fail) (by (repeat (first | exact mH _ | apply mT)) <;> fail) rfl (by decide +kernel) ?_; simp only [Act.put, spA, spZ, spS]) | (refine wpT_skip rfl ?_; simp only [Act.put, spA, spZ, spS]) | (refine ckT_callG' (sockOpen.2 hS) rfl kF rfl (by kernel_rfl) rfl (by intro j hj w2 h2; have h3 := sockOpen.1 h2; clear h2; simp at hj; subst hj; exact (h3.holds (pts r5 (stV k.mdl) 177) (by (repeat (first | exact mH _ | apply mT)) <;> fail)).trans (hS.holds (pts r5 (stV k.mdl) 177) (by (repeat (first | exact mH _ | apply mT)) <;> fail)).symm) ?_; clear hS; intro w hS0; have hS := sockOpen.1 hS0; clear hS0; simp only [Act.put, spA, spZ, spS]))); refine wpT_nil ?_) | (refine ck_region (fun _ => A.b) (fun i => if i = 5 then [3] else []) ([3]) hS (by kernel_rfl) (by decide +kernel) ?_ ?_; exact ⟨fun _ _ _ h => h.2, fun _ _ h => h⟩; clear hS; intro w hS _; (repeat (first | (apply wpT_pure rfl rfl; (intro _; go_simp; (try (go_ints; (try go_simp))); (first | (rw [decide_eq_true]; omega) | (rw [decide_eq_false]; omega) | rfl | rw [if_pos (by omega)])); simp only [Act.put, spA, spZ, spS]) | (refine ckT_load hS rfl rfl rfl (by simp <;> fail) (by (repeat (first | exact mH _ | apply mT)) <;> fail) rfl (by decide +kernel) ?_; simp only [Act.put, spA, spZ, spS]) | (refine wpT_skip rfl ?_; simp only [Act.put, spA, spZ, spS]) | (refine ckT_callG' (sockOpen.2 hS) rfl kF rfl (by kernel_rfl) rfl (by intro j hj w2 h2; have h3 := sockOpen.1 h2; clear h2; simp at hj; subst hj; exact (h3.holds (sockP A k) (by (repeat (first | exact mH _ | apply mT)) <;> fail)).trans (hS.holds (sockP A k) (by (repeat (first | exact mH _ | apply mT)) <;> fail)).symm) ?_; clear hS; intro w hS0; have hS := sockOpen.1 hS0; clear hS0; simp only [Act.put, spA, spZ, spS]) | ((refine ckT_callU hS rfl (kI) (by (repeat (first | exact uH _ _ _ | apply uT)) <;> fail) rfl (by kernel_rfl) rfl (by simp <;> fail) ?_) <;> (first | (clear hS; intro w hS) | omega); simp only [Act.put, spA, spZ, spS]))); refine wpT_nil ?_) | (refine ck_region (fun i => if i = 8 then r5 else A.b) (fun i => if i = 10 then [6, 8, 14] else if i = 15 then [6] else []) ([6, 8, 14]) hS (by kernel_rfl) (by decide +kernel) ?_ ?_; exact ⟨fun _ _ _ h => h.2, fun _ _ h => h⟩; clear hS; intro w hS _; (repeat (first | (apply wpT_pure rfl rfl; (intro _; go_simp; (try (go_ints; (try go_simp))); (first | (rw [decide_eq_true]; omega) | (rw [decide_eq_false]; omega) | rfl | rw [if_pos (by omega)])); simp only [Act.put, spA, spZ, spS]) | (refine ckT_load hS rfl rfl rfl (by simp <;> fail) (by (repeat (first | exact mH _ | apply mT)) <;> fail) rfl (by decide +kernel) ?_; simp only [Act.put, spA, spZ, spS]) | (refine wpT_skip rfl ?_; simp only [Act.put, spA, spZ, spS]) | (refine ckT_callG' (sockOpen.2 hS) rfl kT rfl (by kernel_rfl) rfl (by intro j hj w2 h2; have h3 := sockOpen.1 h2; clear h2; simp at hj; rcases hj with rfl | rfl | rfl <;> first | (exact (h3.holds (sockP A k) (by (repeat (first | exact mH _ | apply mT)) <;> fail)).trans (hS.holds (sockP A k) (by (repeat (first | exact mH _ | apply mT)) <;> fail)).symm) | (exact (h3.holds (pts r5 (stV k.mdl) 177) (by (repeat (first | exact mH _ | apply mT)) <;> fail)).trans (hS.holds (pts r5 (stV k.mdl) 177) (by (repeat (first | exact mH _ | apply mT)) <;> fail)).symm)) ?_; clear hS; intro w hS0; have hS := sockOpen.1 hS0; clear hS0; simp only [Act.put, spA, spZ, spS]) | (refine ckT_call0 hS rfl kQ rfl (by kernel_rfl) rfl (by intro j hj; simp at hj; subst hj; exact .inr ⟨_, _, ((by (repeat (first | exact mH _ | apply mT)) <;> fail) : sockP A k ∈ _), (by (repeat (first | exact mH _ | apply mT)) <;> fail)⟩) ?_; clear hS; intro w hS; simp only [Act.put, spA, spZ, spS]) | (refine ckT_call0 hS rfl (kY) rfl (by kernel_rfl) rfl (by simp <;> fail) ?_; clear hS; intro w hS; simp only [Act.put, spA, spZ, spS]))); refine wpT_nil ?_))
  go_ret
  refine ⟨_, ⟨rfl, rfl⟩, ?_⟩
  have j1 := (hS.bring (r := pts r5 (stV k.mdl) 177) (by (repeat (first | exact rH _ _ | apply rT)) <;> fail)).drop
  have j2 := (j1.bring (r := pts r3 [.int .u64 0, .int .u64 0] 269) (by (repeat (first | exact rH _ _ | apply rT)) <;> fail)).drop
  exact hfin j2

end
def mayZ (k : SockM) : Int := if k.buf.w - k.buf.t = 0 then 7 else if flightZ k.ps < k.mdl.cwnd then (if k.out < tsqL k.mdl.rate (tsoK k) k.most then (if 4096 ≤ k.ps.length then 5 else 0) else 5) else 5
def mayK (k : SockM) : SockM := if k.buf.w - k.buf.t = 0 then (if flightZ k.ps < k.mdl.cwnd then { k with smp := { k.smp with mark := max 1 (satAdd k.smp.del (flightZ k.ps)) } } else k) else k
theorem sockMay_ct (A : SockA) (k : SockM) (h : sockOk k) : Ct Tryz.prog 142 #[.pointer (some ⟨A.b, 0, none⟩)] [sockG A k] (Gives (.int .i64 (mayZ k)) [sockG A (mayK k)]) := by
  by_cases hu : k.buf.w - k.buf.t = 0
  · rw [show mayZ k = 7 by unfold mayZ; rw [if_pos hu]]
    by_cases ho : flightZ k.ps < k.mdl.cwnd
    · rw [show mayK k = _ by unfold mayK; rw [if_pos hu, if_pos ho]]
      exact sockMay1_ct A k h hu ho
    · rw [show mayK k = k by unfold mayK; rw [if_pos hu, if_neg ho]]
      exact sockMay2_ct A k h hu ho
  · rw [show mayK k = k by unfold mayK; rw [if_neg hu]]
    by_cases ho : flightZ k.ps < k.mdl.cwnd
    · by_cases hq : k.out < tsqL k.mdl.rate (tsoK k) k.most
      · by_cases hN : 4096 ≤ k.ps.length
        · rw [show mayZ k = 5 by unfold mayZ; rw [if_neg hu, if_pos ho, if_pos hq, if_pos hN]]
          exact sockMay5_ct A k h hu ho hq hN
        · rw [show mayZ k = 0 by unfold mayZ; rw [if_neg hu, if_pos ho, if_pos hq, if_neg hN]]
          exact sockMay6_ct A k h hu ho hq hN
      · rw [show mayZ k = 5 by unfold mayZ; rw [if_neg hu, if_pos ho, if_neg hq]]
        exact sockMay4_ct A k h hu ho hq
    · rw [show mayZ k = 5 by unfold mayZ; rw [if_neg hu, if_neg ho]]
      exact sockMay3_ct A k h hu ho
end Go.Proofs.YtcegknecikbbkaaGreat

/- What ledger's functions come to. -/
set_option linter.unusedVariables false
set_option linter.unusedSimpArgs false
set_option maxRecDepth 4000
namespace Go.Proofs.YtcegknecikbbkaaGreat
open Go.RowKit
abbrev cntV (c : List Int) : List Value := c.map fun n : Int => Value.int .i64 n
def flat (B : List (List Int)) : List Value := B.flatMap cntV
def Eights (B : List (List Int)) : Prop := ∀ c ∈ B, c.length = 8
section
variable {B : List (List Int)} {c : List Int} {s j : Nat} {x : Int}
theorem flat_len (h : Eights B) : (flat B).length = B.length * 8 := by
  induction B with
  | nil => rfl
  | cons a B ih =>
    have h1 : a.length = 8 := h a (by simp)
    have h2 := ih (fun c hc => h c (by simp [hc]))
    unfold flat at *
    rw [List.flatMap_cons, List.length_append, h2]
    simp [h1]; omega
theorem flat_split (h : Eights B) (hs : B[s]? = some c) : ∃ P Q : List (List Int), B = P ++ c :: Q ∧ P.length = s ∧ flat B = flat P ++ (cntV c ++ flat Q) ∧ (flat P).length = s * 8 := by
  have hlt := (List.getElem?_eq_some_iff.1 hs).1
  have he : B = B.take s ++ c :: B.drop (s + 1) := by
    have := List.take_append_drop s B
    rw [List.drop_eq_getElem_cons hlt, (List.getElem?_eq_some_iff.1 hs).2] at this
    exact this.symm
  refine ⟨B.take s, B.drop (s + 1), he, by simp; omega, ?_, ?_⟩
  · conv => lhs; rw [he]
    unfold flat; rw [List.flatMap_append, List.flatMap_cons]
  · rw [flat_len (fun d hd => h d (List.mem_of_mem_take hd)), List.length_take]
    congr 1; omega
theorem flat_get (h : Eights B) (hs : B[s]? = some c) (hj : c[j]? = some x) : (flat B)[s * 8 + j]? = some (.int .i64 x) := by
  obtain ⟨P, Q, _, _, e, hl⟩ := flat_split h hs
  have hc : c.length = 8 := h c (List.mem_of_getElem? hs)
  have hj' := (List.getElem?_eq_some_iff.1 hj).1
  rw [e, List.getElem?_append_right (by omega), hl, Nat.add_sub_cancel_left, List.getElem?_append_left (by simp; omega)]
  simp [hj]
theorem flat_set (h : Eights B) (hs : B[s]? = some c) (hj : j < 8) : (flat B).set (s * 8 + j) (.int .i64 x) = flat (B.set s (c.set j x)) := by
  obtain ⟨P, Q, hB, hP, e, hl⟩ := flat_split h hs
  have hc : c.length = 8 := h c (List.mem_of_getElem? hs)
  have e2 : B.set s (c.set j x) = P ++ c.set j x :: Q := by rw [hB, ← hP, List.set_append_right _ _ (Nat.le_refl _)]; simp
  rw [e, e2, List.set_append_right _ _ (by omega), hl, Nat.add_sub_cancel_left, List.set_append_left _ _ (by simp; omega)]
  unfold flat
  rw [List.flatMap_append, List.flatMap_cons]
  simp [cntV, List.map_set]
theorem flat_sub (h : Eights B) (hs : B[s]? = some c) : ((flat B).drop (s * 8)).take 8 = cntV c := by
  obtain ⟨P, Q, _, _, e, hl⟩ := flat_split h hs
  have hc : c.length = 8 := h c (List.mem_of_getElem? hs)
  rw [e, ← hl, List.drop_left, List.take_append_of_le_length (by simp [hc]), List.take_of_length_le (by simp [hc])]
theorem Eights.set (h : Eights B) (hc : c.length = 8) : Eights (B.set s c) := fun d hd => by
  rcases List.mem_or_eq_of_mem_set hd with hd | rfl
  · exact h d hd
  · exact hc
end
abbrev ledR (b : Nat) (B : List (List Int)) : Res := pts b (flat B) 129
def zeroB : List (List Int) := List.replicate 8 [0, 0, 0, 0, 0, 0, 0, 0]
theorem ledgerNew_ct : Ct Tryz.prog 25 #[] [] (fun v L => ∃ b, v = .pointer (some ⟨b, 0, none⟩) ∧ L = [ledR b zeroB]) := by
  intro w0 F L w hS
  simp only [List.cons_append, List.nil_append] at hS
  go_enter Tryz.func25, Tryz.ntmps25
  go_wp2_with (first | go_skip | (refine ck_box hS rfl rfl (by constructor) ?_; clear hS; intro nb w hS; simp only [Act.put, spA, spZ, spS]) )
  go_ret
  exact ⟨_, ⟨_, rfl, rfl⟩, hS⟩
theorem ledgerMayZ_ct (i : Int) : Ct Tryz.prog 92 #[.pointer none, .int .i64 i] [] (Gives (.int .i64 2) []) := by
  intro w0 F L w hS
  simp only [List.cons_append, List.nil_append] at hS
  go_enter Tryz.func92, Tryz.ntmps92
  go_wp2_with (first | go_skip )
  go_ret
  exact ⟨_, ⟨rfl, rfl⟩, hS⟩
theorem ledgerMayNo_ct (b : Nat) (i : Int) (h : i < 0 ∨ 8 ≤ i) : Ct Tryz.prog 92 #[.pointer (some ⟨b, 0, none⟩), .int .i64 i] [] (Gives (.int .i64 8) []) := by
  by_cases h0 : i < 0
  · skip
    intro w0 F L w hS
    simp only [List.cons_append, List.nil_append] at hS
    go_enter Tryz.func92, Tryz.ntmps92
    go_wp2_with (first | go_skip )
    go_ret
    exact ⟨_, ⟨rfl, rfl⟩, hS⟩
  · have h1 : 8 ≤ i := by omega
    intro w0 F L w hS
    simp only [List.cons_append, List.nil_append] at hS
    go_enter Tryz.func92, Tryz.ntmps92
    go_wp2_with (first | go_skip )
    go_ret
    exact ⟨_, ⟨rfl, rfl⟩, hS⟩
theorem ledgerMay_ct (b : Nat) (i : Int) (h0 : 0 ≤ i) (h1 : i < 8) : Ct Tryz.prog 92 #[.pointer (some ⟨b, 0, none⟩), .int .i64 i] [] (Gives (.int .i64 0) []) := by
  have f0 : ¬ i < 0 := by omega
  have f1 : ¬ 8 ≤ i := by omega
  intro w0 F L w hS
  simp only [List.cons_append, List.nil_append] at hS
  go_enter Tryz.func92, Tryz.ntmps92
  go_wp2_with (first | go_skip )
  go_ret
  exact ⟨_, ⟨rfl, rfl⟩, hS⟩
end Go.Proofs.YtcegknecikbbkaaGreat

/- What ledger's Note and Count come to. -/
set_option linter.unusedVariables false
set_option linter.unusedSimpArgs false
set_option maxRecDepth 4000
namespace Go.Proofs.YtcegknecikbbkaaGreat
open Go.RowKit
section
variable (b : Nat) (B : List (List Int)) (h : Eights B)
theorem ledgerNoteNo_ct (i f : Int) (hi : i < 0 ∨ 8 ≤ i) : Ct Tryz.prog 61 #[.pointer (some ⟨b, 0, none⟩), .int .i64 i, .int .i64 f] [] (Gives (.int .i64 8) []) := by
  intro w0 F L w hS
  simp only [List.cons_append, List.nil_append] at hS
  go_enter Tryz.func61, Tryz.ntmps61
  go_wp2_with (first | go_skip | (refine ck_load hS rfl rfl rfl (by (repeat (first | exact mH _ | apply mT)) <;> fail) rfl (by decide +kernel) ?_; simp only [Act.put, spA, spZ, spS]) | (refine ck_store hS rfl rfl rfl (by constructor) (by (repeat (first | exact uH _ _ _ | apply uT)) <;> fail) (by simp <;> omega) rfl (by decide +kernel) ?_; clear hS; intro w hS; simp only [Act.put, spA, spZ, spS] at hS ⊢) | (go_at_call 92; with_reducible refine Ct.call0 (ledgerMayNo_ct b i hi) hS ?_; clear hS; intro w hS) | (refine ck_region (fun _ => 0) (fun _ => []) [] hS (by kernel_rfl) (by decide +kernel) ?_ ?_; exact ⟨fun _ _ _ h => h.2, fun _ _ h => h⟩; clear hS; intro w hS _; (repeat (first | (apply wpT_pure rfl rfl; (intro _; go_simp; (try (go_ints; (try go_simp))); (first | (rw [decide_eq_true]; omega) | (rw [decide_eq_false]; omega) | rfl | rw [if_pos (by omega)])); simp only [Act.put, spA, spZ, spS]) | (refine ckT_load hS rfl rfl rfl (by simp <;> fail) (by (repeat (first | exact mH _ | apply mT)) <;> fail) rfl (by decide +kernel) ?_; simp only [Act.put, spA, spZ, spS]) | (refine ckT_store hS rfl rfl rfl (by constructor) (by (repeat (first | exact uH _ _ _ | apply uT)) <;> fail) (by simp <;> fail) rfl (by decide +kernel) (by simp <;> fail) ?_; clear hS; intro w hS; simp only [Act.put, spA, spZ, spS] at hS ⊢) )); refine wpT_nil ?_))
  go_ret
  exact ⟨_, ⟨rfl, rfl⟩, hS⟩
theorem ledgerNoteZ_ct (i f : Int) : Ct Tryz.prog 61 #[.pointer none, .int .i64 i, .int .i64 f] [] (Gives (.int .i64 2) []) := by
  intro w0 F L w hS
  simp only [List.cons_append, List.nil_append] at hS
  go_enter Tryz.func61, Tryz.ntmps61
  go_wp2_with (first | go_skip | (refine ck_load hS rfl rfl rfl (by (repeat (first | exact mH _ | apply mT)) <;> fail) rfl (by decide +kernel) ?_; simp only [Act.put, spA, spZ, spS]) | (refine ck_store hS rfl rfl rfl (by constructor) (by (repeat (first | exact uH _ _ _ | apply uT)) <;> fail) (by simp <;> omega) rfl (by decide +kernel) ?_; clear hS; intro w hS; simp only [Act.put, spA, spZ, spS] at hS ⊢) | (go_at_call 92; with_reducible refine Ct.call0 (ledgerMayZ_ct i) hS ?_; clear hS; intro w hS) | (refine ck_region (fun _ => 0) (fun _ => []) [] hS (by kernel_rfl) (by decide +kernel) ?_ ?_; exact ⟨fun _ _ _ h => h.2, fun _ _ h => h⟩; clear hS; intro w hS _; (repeat (first | (apply wpT_pure rfl rfl; (intro _; go_simp; (try (go_ints; (try go_simp))); (first | (rw [decide_eq_true]; omega) | (rw [decide_eq_false]; omega) | rfl | rw [if_pos (by omega)])); simp only [Act.put, spA, spZ, spS]) | (refine ckT_load hS rfl rfl rfl (by simp <;> fail) (by (repeat (first | exact mH _ | apply mT)) <;> fail) rfl (by decide +kernel) ?_; simp only [Act.put, spA, spZ, spS]) | (refine ckT_store hS rfl rfl rfl (by constructor) (by (repeat (first | exact uH _ _ _ | apply uT)) <;> fail) (by simp <;> fail) rfl (by decide +kernel) (by simp <;> fail) ?_; clear hS; intro w hS; simp only [Act.put, spA, spZ, spS] at hS ⊢) )); refine wpT_nil ?_))
  go_ret
  exact ⟨_, ⟨rfl, rfl⟩, hS⟩
theorem ledgerNoteArg_ct (s : Nat) (f : Int) (hs : s < 8) (hf : f < 0 ∨ 6 ≤ f) : Ct Tryz.prog 61 #[.pointer (some ⟨b, 0, none⟩), .int .i64 s, .int .i64 f] [ledR b B] (Gives (.int .i64 1) [ledR b B]) := by
  have kM := ledgerMay_ct b s (by omega) (by omega)
  by_cases h0 : f < 0
  · skip
    intro w0 F L w hS
    simp only [List.cons_append, List.nil_append] at hS
    go_enter Tryz.func61, Tryz.ntmps61
    go_wp2_with (first | go_skip | (refine ck_load hS rfl rfl rfl (by (repeat (first | exact mH _ | apply mT)) <;> fail) rfl (by decide +kernel) ?_; simp only [Act.put, spA, spZ, spS]) | (refine ck_store hS rfl rfl rfl (by constructor) (by (repeat (first | exact uH _ _ _ | apply uT)) <;> fail) (by simp <;> omega) rfl (by decide +kernel) ?_; clear hS; intro w hS; simp only [Act.put, spA, spZ, spS] at hS ⊢) | (go_at_call 92; with_reducible refine Ct.call0 (kM) hS ?_; clear hS; intro w hS) | (refine ck_region (fun _ => 0) (fun _ => []) [] hS (by kernel_rfl) (by decide +kernel) ?_ ?_; exact ⟨fun _ _ _ h => h.2, fun _ _ h => h⟩; clear hS; intro w hS _; (repeat (first | (apply wpT_pure rfl rfl; (intro _; go_simp; (try (go_ints; (try go_simp))); (first | (rw [decide_eq_true]; omega) | (rw [decide_eq_false]; omega) | rfl | rw [if_pos (by omega)])); simp only [Act.put, spA, spZ, spS]) | (refine ckT_load hS rfl rfl rfl (by simp <;> fail) (by (repeat (first | exact mH _ | apply mT)) <;> fail) rfl (by decide +kernel) ?_; simp only [Act.put, spA, spZ, spS]) | (refine ckT_store hS rfl rfl rfl (by constructor) (by (repeat (first | exact uH _ _ _ | apply uT)) <;> fail) (by simp <;> fail) rfl (by decide +kernel) (by simp <;> fail) ?_; clear hS; intro w hS; simp only [Act.put, spA, spZ, spS] at hS ⊢) )); refine wpT_nil ?_))
    go_ret
    exact ⟨_, ⟨rfl, rfl⟩, hS⟩
  · have h1 : 6 ≤ f := by omega
    intro w0 F L w hS
    simp only [List.cons_append, List.nil_append] at hS
    go_enter Tryz.func61, Tryz.ntmps61
    go_wp2_with (first | go_skip | (refine ck_load hS rfl rfl rfl (by (repeat (first | exact mH _ | apply mT)) <;> fail) rfl (by decide +kernel) ?_; simp only [Act.put, spA, spZ, spS]) | (refine ck_store hS rfl rfl rfl (by constructor) (by (repeat (first | exact uH _ _ _ | apply uT)) <;> fail) (by simp <;> omega) rfl (by decide +kernel) ?_; clear hS; intro w hS; simp only [Act.put, spA, spZ, spS] at hS ⊢) | (go_at_call 92; with_reducible refine Ct.call0 (kM) hS ?_; clear hS; intro w hS) | (refine ck_region (fun _ => 0) (fun _ => []) [] hS (by kernel_rfl) (by decide +kernel) ?_ ?_; exact ⟨fun _ _ _ h => h.2, fun _ _ h => h⟩; clear hS; intro w hS _; (repeat (first | (apply wpT_pure rfl rfl; (intro _; go_simp; (try (go_ints; (try go_simp))); (first | (rw [decide_eq_true]; omega) | (rw [decide_eq_false]; omega) | rfl | rw [if_pos (by omega)])); simp only [Act.put, spA, spZ, spS]) | (refine ckT_load hS rfl rfl rfl (by simp <;> fail) (by (repeat (first | exact mH _ | apply mT)) <;> fail) rfl (by decide +kernel) ?_; simp only [Act.put, spA, spZ, spS]) | (refine ckT_store hS rfl rfl rfl (by constructor) (by (repeat (first | exact uH _ _ _ | apply uT)) <;> fail) (by simp <;> fail) rfl (by decide +kernel) (by simp <;> fail) ?_; clear hS; intro w hS; simp only [Act.put, spA, spZ, spS] at hS ⊢) )); refine wpT_nil ?_))
    go_ret
    exact ⟨_, ⟨rfl, rfl⟩, hS⟩
theorem ledgerNoteAcc_ct (s : Nat) (hs : s < 8) (h : Eights B) (c : List Int) (hc : B[s]? = some c) (q x : Int) (hq : c[7]? = some q) (hx : c[1]? = some x) (q0 : 0 ≤ q) (q1 : q ≤ 1000000) (x0 : 0 ≤ x) (x1 : x ≤ 1000000) :
    Ct Tryz.prog 61 #[.pointer (some ⟨b, 0, none⟩), .int .i64 s, .int .i64 0] [ledR b B] (Gives (.int .i64 0) [ledR b (B.set s ((c.set 7 (q + 1)).set 1 (x + 1)))]) := by
  have kM := ledgerMay_ct b s (by omega) (by omega)
  have hl : (flat B).length = B.length * 8 := flat_len h
  have hsl := (List.getElem?_eq_some_iff.1 hc).1
  have e7 : (flat B)[s * 8 + 7]? = some (.int .i64 q) := flat_get h hc hq
  have c8 : c.length = 8 := h c (List.mem_of_getElem? hc)
  have g1 : (flat B).set (s * 8 + 7) (.int .i64 (q + 1)) = flat (B.set s (c.set 7 (q + 1))) := flat_set h hc (by omega)
  have h2 : Eights (B.set s (c.set 7 (q + 1))) := h.set (by simp [c8])
  have hc2 : (B.set s (c.set 7 (q + 1)))[s]? = some (c.set 7 (q + 1)) := by simp [hsl]
  have hl2 : (flat (B.set s (c.set 7 (q + 1)))).length = B.length * 8 := by rw [flat_len h2]; simp
  have e1 : (flat (B.set s (c.set 7 (q + 1))))[s * 8 + 1]? = some (.int .i64 x) := flat_get h2 hc2 (by rw [List.getElem?_set_ne (by omega)]; exact hx)
  have g2 : (flat (B.set s (c.set 7 (q + 1)))).set (s * 8 + 1) (.int .i64 (x + 1)) = flat (B.set s ((c.set 7 (q + 1)).set 1 (x + 1))) := by rw [flat_set h2 hc2 (by omega), List.set_set]
  clear hq hx hc2 h2 hc h
  intro w0 F L w hS
  simp only [List.cons_append, List.nil_append] at hS
  go_enter Tryz.func61, Tryz.ntmps61
  go_wp2_with (first | go_skip | (refine ck_load hS rfl rfl rfl (by (repeat (first | exact mH _ | apply mT)) <;> fail) rfl (by decide +kernel) ?_; simp only [Act.put, spA, spZ, spS]) | (refine ck_store hS rfl rfl rfl (by constructor) (by (repeat (first | exact uH _ _ _ | apply uT)) <;> fail) (by simp <;> omega) rfl (by decide +kernel) ?_; clear hS; intro w hS; simp only [Act.put, spA, spZ, spS] at hS ⊢) | (go_at_call 92; with_reducible refine Ct.call0 (kM) hS ?_; clear hS; intro w hS) | (refine ck_load hS rfl rfl rfl (by (repeat (first | exact mH _ | apply mT)) <;> fail) e7 (by decide +kernel) ?_; simp only [Act.put, spA, spZ, spS]) | (refine ck_store hS rfl rfl rfl (by constructor) (by (repeat (first | exact uH _ _ _ | apply uT)) <;> fail) (by rw [hl]; omega) rfl (by decide +kernel) ?_; clear hS; intro w hS; rw [g1] at hS; simp only [Act.put, spA, spZ, spS]) | (refine ck_region (fun _ => 0) (fun _ => []) [] hS (by kernel_rfl) (by decide +kernel) ?_ ?_; exact ⟨fun _ _ _ h => h.2, fun _ _ h => h⟩; clear hS; intro w hS _; (repeat (first | (apply wpT_pure rfl rfl; (intro _; go_simp; (try (go_ints; (try go_simp))); (first | (rw [decide_eq_true]; omega) | (rw [decide_eq_false]; omega) | rfl | rw [if_pos (by omega)])); simp only [Act.put, spA, spZ, spS]) | (refine ckT_load hS rfl rfl rfl (by simp <;> fail) (by (repeat (first | exact mH _ | apply mT)) <;> fail) rfl (by decide +kernel) ?_; simp only [Act.put, spA, spZ, spS]) | (refine ckT_store hS rfl rfl rfl (by constructor) (by (repeat (first | exact uH _ _ _ | apply uT)) <;> fail) (by simp <;> fail) rfl (by decide +kernel) (by simp <;> fail) ?_; clear hS; intro w hS; simp only [Act.put, spA, spZ, spS] at hS ⊢) | (refine ckT_load hS rfl rfl rfl (by simp <;> fail) (by (repeat (first | exact mH _ | apply mT)) <;> fail) e1 (by decide +kernel) ?_; simp only [Act.put, spA, spZ, spS]) | (refine ckT_store hS rfl rfl rfl (by constructor) (by (repeat (first | exact uH _ _ _ | apply uT)) <;> fail) (by rw [hl2]; omega) rfl (by decide +kernel) (by simp <;> fail) ?_; clear hS; intro w hS; rw [g2] at hS; simp only [Act.put, spA, spZ, spS]))); refine wpT_nil ?_))
  go_ret
  exact ⟨_, ⟨rfl, rfl⟩, hS⟩
theorem ledgerNoteNone_ct (s f : Nat) (hs : s < 8) (hf0 : 1 ≤ f) (hf1 : f ≤ 5) (h : Eights B) (c : List Int) (hc : B[s]? = some c) (hq : c[7]? = some 0) :
    Ct Tryz.prog 61 #[.pointer (some ⟨b, 0, none⟩), .int .i64 s, .int .i64 f] [ledR b B] (Gives (.int .i64 7) [ledR b B]) := by
  have kM := ledgerMay_ct b s (by omega) (by omega)
  have e7 : (flat B)[s * 8 + 7]? = some (.int .i64 0) := flat_get h hc hq
  have f0 : ((f : Int) == 0) = false := beq_eq_false_iff_ne.2 (by omega)
  clear hq hc h
  intro w0 F L w hS
  simp only [List.cons_append, List.nil_append] at hS
  go_enter Tryz.func61, Tryz.ntmps61
  go_wp2_with (first | go_skip | (refine ck_load hS rfl rfl rfl (by (repeat (first | exact mH _ | apply mT)) <;> fail) rfl (by decide +kernel) ?_; simp only [Act.put, spA, spZ, spS]) | (refine ck_store hS rfl rfl rfl (by constructor) (by (repeat (first | exact uH _ _ _ | apply uT)) <;> fail) (by simp <;> omega) rfl (by decide +kernel) ?_; clear hS; intro w hS; simp only [Act.put, spA, spZ, spS] at hS ⊢) | (go_at_call 92; with_reducible refine Ct.call0 (kM) hS ?_; clear hS; intro w hS) | (refine ck_load hS rfl rfl rfl (by (repeat (first | exact mH _ | apply mT)) <;> fail) e7 (by decide +kernel) ?_; simp only [Act.put, spA, spZ, spS]) | (refine ck_region (fun _ => 0) (fun _ => []) [] hS (by kernel_rfl) (by decide +kernel) ?_ ?_; exact ⟨fun _ _ _ h => h.2, fun _ _ h => h⟩; clear hS; intro w hS _; (repeat (first | (apply wpT_pure rfl rfl; (intro _; go_simp; (try (go_ints; (try go_simp))); (first | (rw [decide_eq_true]; omega) | (rw [decide_eq_false]; omega) | rfl | rw [if_pos (by omega)])); simp only [Act.put, spA, spZ, spS]) | (refine ckT_load hS rfl rfl rfl (by simp <;> fail) (by (repeat (first | exact mH _ | apply mT)) <;> fail) rfl (by decide +kernel) ?_; simp only [Act.put, spA, spZ, spS]) | (refine ckT_store hS rfl rfl rfl (by constructor) (by (repeat (first | exact uH _ _ _ | apply uT)) <;> fail) (by simp <;> fail) rfl (by decide +kernel) (by simp <;> fail) ?_; clear hS; intro w hS; simp only [Act.put, spA, spZ, spS] at hS ⊢) )); refine wpT_nil ?_))
  go_ret
  exact ⟨_, ⟨rfl, rfl⟩, hS⟩
theorem ledgerNoteOk_ct (s f : Nat) (hs : s < 8) (hf0 : 1 ≤ f) (hf1 : f ≤ 5) (h : Eights B) (c : List Int) (hc : B[s]? = some c) (q x : Int) (hq : c[7]? = some q) (hx : c[1 + f]? = some x) (q0 : 1 ≤ q) (q1 : q ≤ 1000000) (x0 : 0 ≤ x) (x1 : x ≤ 1000000) :
    Ct Tryz.prog 61 #[.pointer (some ⟨b, 0, none⟩), .int .i64 s, .int .i64 f] [ledR b B] (Gives (.int .i64 0) [ledR b (B.set s ((c.set 7 (q - 1)).set (1 + f) (x + 1)))]) := by
  have kM := ledgerMay_ct b s (by omega) (by omega)
  have f0 : ((f : Int) == 0) = false := beq_eq_false_iff_ne.2 (by omega)
  have fq : (q == 0) = false := beq_eq_false_iff_ne.2 (by omega)
  have hl : (flat B).length = B.length * 8 := flat_len h
  have hsl := (List.getElem?_eq_some_iff.1 hc).1
  have e7 : (flat B)[s * 8 + 7]? = some (.int .i64 q) := flat_get h hc hq
  have c8 : c.length = 8 := h c (List.mem_of_getElem? hc)
  have g1 : (flat B).set (s * 8 + 7) (.int .i64 (q - 1)) = flat (B.set s (c.set 7 (q - 1))) := flat_set h hc (by omega)
  have h2 : Eights (B.set s (c.set 7 (q - 1))) := h.set (by simp [c8])
  have hl2 : (flat (B.set s (c.set 7 (q - 1)))).length = B.length * 8 := by rw [flat_len h2]; simp
  have hc2 : (B.set s (c.set 7 (q - 1)))[s]? = some (c.set 7 (q - 1)) := by simp [hsl]
  have e1 : (flat (B.set s (c.set 7 (q - 1))))[s * 8 + 1 + f]? = some (.int .i64 x) := by rw [Nat.add_assoc]; exact flat_get h2 hc2 (by rw [List.getElem?_set_ne (by omega)]; exact hx)
  have g2 : (flat (B.set s (c.set 7 (q - 1)))).set (s * 8 + 1 + f) (.int .i64 (x + 1)) = flat (B.set s ((c.set 7 (q - 1)).set (1 + f) (x + 1))) := by rw [Nat.add_assoc, flat_set h2 hc2 (by omega), List.set_set]
  clear hq hx hc2 h2 hc h
  intro w0 F L w hS
  simp only [List.cons_append, List.nil_append] at hS
  go_enter Tryz.func61, Tryz.ntmps61
  go_wp2_with (first | go_skip | (refine ck_load hS rfl rfl rfl (by (repeat (first | exact mH _ | apply mT)) <;> fail) rfl (by decide +kernel) ?_; simp only [Act.put, spA, spZ, spS]) | (refine ck_store hS rfl rfl rfl (by constructor) (by (repeat (first | exact uH _ _ _ | apply uT)) <;> fail) (by simp <;> omega) rfl (by decide +kernel) ?_; clear hS; intro w hS; simp only [Act.put, spA, spZ, spS] at hS ⊢) | (go_at_call 92; with_reducible refine Ct.call0 (kM) hS ?_; clear hS; intro w hS) | (refine ck_load hS rfl rfl rfl (by (repeat (first | exact mH _ | apply mT)) <;> fail) e7 (by decide +kernel) ?_; simp only [Act.put, spA, spZ, spS]) | (refine ck_store hS rfl rfl rfl (by constructor) (by (repeat (first | exact uH _ _ _ | apply uT)) <;> fail) (by rw [hl]; omega) rfl (by decide +kernel) ?_; clear hS; intro w hS; rw [g1] at hS; simp only [Act.put, spA, spZ, spS]) | (refine ck_region (fun _ => 0) (fun _ => []) [] hS (by kernel_rfl) (by decide +kernel) ?_ ?_; exact ⟨fun _ _ _ h => h.2, fun _ _ h => h⟩; clear hS; intro w hS _; (repeat (first | (apply wpT_pure rfl rfl; (intro _; go_simp; (try (go_ints; (try go_simp))); (first | (rw [decide_eq_true]; omega) | (rw [decide_eq_false]; omega) | rfl | rw [if_pos (by omega)])); simp only [Act.put, spA, spZ, spS]) | (refine ckT_load hS rfl rfl rfl (by simp <;> fail) (by (repeat (first | exact mH _ | apply mT)) <;> fail) rfl (by decide +kernel) ?_; simp only [Act.put, spA, spZ, spS]) | (refine ckT_store hS rfl rfl rfl (by constructor) (by (repeat (first | exact uH _ _ _ | apply uT)) <;> fail) (by simp <;> fail) rfl (by decide +kernel) (by simp <;> fail) ?_; clear hS; intro w hS; simp only [Act.put, spA, spZ, spS] at hS ⊢) | (refine ckT_load hS rfl rfl rfl (by simp <;> fail) (by (repeat (first | exact mH _ | apply mT)) <;> fail) e1 (by decide +kernel) ?_; simp only [Act.put, spA, spZ, spS]) | (refine ckT_store hS rfl rfl rfl (by constructor) (by (repeat (first | exact uH _ _ _ | apply uT)) <;> fail) (by rw [hl2]; omega) rfl (by decide +kernel) (by simp <;> fail) ?_; clear hS; intro w hS; rw [g2] at hS; simp only [Act.put, spA, spZ, spS]))); refine wpT_nil ?_))
  go_ret
  exact ⟨_, ⟨rfl, rfl⟩, hS⟩
end
end Go.Proofs.YtcegknecikbbkaaGreat

/- A machine: what it holds; New; what it does with a socket. -/
set_option linter.unusedVariables false
set_option linter.unusedSimpArgs false
set_option maxRecDepth 4000
namespace Go.Proofs.YtcegknecikbbkaaGreat
open Go.RowKit
structure SkA where
  (a : SockA) (k : SockM)
def sptr : Option SkA → Value
  | none => .pointer none
  | some s => .pointer (some ⟨s.a.b, 0, none⟩)
def socksR (sl : List (Option SkA)) : Res := grpR (sl.filterMap fun o => o.map fun s => sockG s.a s.k)
section
variable {w0 w : World} {F : List Nat} {L : List Res}
theorem optTake {α : Type} {g : α → Res} {l : List (Option α)} {k : Nat} {f : α} (h : l[k]? = some (some f)) : Sep w0 F (grpR (l.filterMap fun o => o.map g) :: L) w ↔ Sep w0 F (g f :: grpR ((l.set k none).filterMap fun o => o.map g) :: L) w := by
  have hk := (List.getElem?_eq_some_iff.1 h).1
  have e : l = l.take k ++ some f :: l.drop (k + 1) := by
    have := List.take_append_drop k l
    rw [List.drop_eq_getElem_cons hk, (List.getElem?_eq_some_iff.1 h).2] at this
    exact this.symm
  have e2 : l.set k none = l.take k ++ none :: l.drop (k + 1) := by rw [List.set_eq_take_append_cons_drop, if_pos hk]
  have f1 : (l.filterMap fun o => o.map g) = (l.take k).filterMap (fun o => o.map g) ++ g f :: (l.drop (k + 1)).filterMap (fun o => o.map g) := by
    conv => lhs; rw [e]
    rw [List.filterMap_append]; rfl
  have f2 : ((l.set k none).filterMap fun o => o.map g) = (l.take k).filterMap (fun o => o.map g) ++ (l.drop (k + 1)).filterMap (fun o => o.map g) := by
    rw [e2, List.filterMap_append]; rfl
  have pm : ((l.filterMap fun o => o.map g) ++ L).Perm (((l.set k none).filterMap fun o => o.map g) ++ (g f :: L)) := by
    rw [f1, f2, List.append_assoc, List.append_assoc, List.cons_append]
    exact List.Perm.append_left _ List.perm_middle.symm
  constructor
  · intro hS
    exact (Sep.grp.1 ((Sep.grp.2 hS).perm pm)).perm (.swap _ _ _)
  · intro hS
    exact Sep.grp.1 ((Sep.grp.2 (hS.perm (.swap _ _ _))).perm pm.symm)
theorem socksTake {sl : List (Option SkA)} {i : Nat} {s : SkA} (h : sl[i]? = some (some s)) : Sep w0 F (socksR sl :: L) w ↔ Sep w0 F (sockG s.a s.k :: socksR (sl.set i none) :: L) w := optTake (g := fun s : SkA => sockG s.a s.k) h
theorem socksPut {sl : List (Option SkA)} {i : Nat} {s : SkA} (hi : i < sl.length) (h : Sep w0 F (sockG s.a s.k :: socksR (sl.set i none) :: L) w) : Sep w0 F (socksR (sl.set i (some s)) :: L) w :=
  (socksTake (sl := sl.set i (some s)) (i := i) (s := s) (by rw [List.getElem?_set_self hi])).2 (by rw [List.set_set]; exact h)
end
def mC (c : CfgM) (cb : Nat) (sl : List (Option SkA)) (qb lg : Nat) : List Value := cfgV c ++ (.pointer (some ⟨cb, 0, none⟩) :: (sl.map sptr ++ [.pointer (some ⟨qb, 0, none⟩), .pointer (some ⟨lg, 0, none⟩)]))
abbrev mP (b : Nat) (c : CfgM) (cb : Nat) (sl : List (Option SkA)) (qb lg : Nat) : Res := pts b (mC c cb sl qb lg) 77
structure MachA where
  (c : CfgM) (cb : Nat) (now : Int) (sl : List (Option SkA)) (qb : Nat) (q : QA) (t : TrA) (lg : Nat) (B : List (List Int))
def machG (b : Nat) (m : MachA) : Res := grpR [mP b m.c m.cb m.sl m.qb m.lg, clkR m.cb m.now, socksR m.sl, queueG m.qb m.q, treeG m.q.tb m.t, ledR m.lg m.B]
theorem machOpen {b : Nat} {c : CfgM} {cb : Nat} {now : Int} {sl : List (Option SkA)} {qb : Nat} {q : QA} {t : TrA} {lg : Nat} {B : List (List Int)} {w0 w : World} {F : List Nat} {L : List Res} :
    Sep w0 F (machG b ⟨c, cb, now, sl, qb, q, t, lg, B⟩ :: L) w ↔ Sep w0 F (mP b c cb sl qb lg :: clkR cb now :: socksR sl :: queueG qb q :: treeG q.tb t :: ledR lg B :: L) w := (Sep.grp (l := [mP b c cb sl qb lg, clkR cb now, socksR sl, queueG qb q, treeG q.tb t, ledR lg B])).symm
section
variable {c : CfgM} {cb : Nat} {sl : List (Option SkA)} {qb lg i : Nat} {x : Option SkA}
theorem mC_len (h8 : sl.length = 8) : (mC c cb sl qb lg).length = 20 := by simp [mC, h8]
theorem mC_q (h8 : sl.length = 8) : (mC c cb sl qb lg)[18]? = some (.pointer (some ⟨qb, 0, none⟩)) := by
  show (sl.map sptr ++ [.pointer (some ⟨qb, 0, none⟩), .pointer (some ⟨lg, 0, none⟩)])[8]? = _
  rw [List.getElem?_append_right (by simp [h8])]; simp [h8]
theorem mC_l (h8 : sl.length = 8) : (mC c cb sl qb lg)[19]? = some (.pointer (some ⟨lg, 0, none⟩)) := by
  show (sl.map sptr ++ [.pointer (some ⟨qb, 0, none⟩), .pointer (some ⟨lg, 0, none⟩)])[9]? = _
  rw [List.getElem?_append_right (by simp [h8])]; simp [h8]
theorem mC_s (h : sl[i]? = some x) : (mC c cb sl qb lg)[10 + i]? = some (sptr x) := by
  have hk := (List.getElem?_eq_some_iff.1 h).1
  rw [show 10 + i = i + 10 by omega]
  show (sl.map sptr ++ [.pointer (some ⟨qb, 0, none⟩), .pointer (some ⟨lg, 0, none⟩)])[i]? = _
  rw [List.getElem?_append_left (by simpa using hk)]; simp [h]
theorem mC_setS (h8 : sl.length = 8) (hi : i < 8) : (mC c cb sl qb lg).set (10 + i) (sptr x) = mC c cb (sl.set i x) qb lg := by
  unfold mC
  rw [List.set_append_right _ _ (by simp; omega), show 10 + i - (cfgV c).length = i + 1 by simp only [List.length_cons, List.length_nil]; omega, List.set_cons_succ, List.set_append_left _ _ (by simp; omega), List.map_set]
theorem mC_same {y : Option SkA} (h : sl[i]? = some y) (hy : sptr x = sptr y) : mC c cb (sl.set i x) qb lg = mC c cb sl qb lg := by
  have hk := (List.getElem?_eq_some_iff.1 h).1
  unfold mC
  rw [List.map_set, hy, set_same (by rw [List.getElem?_map, h]; rfl)]
end
def startM (c : CfgM) (cb qb lb tb lg ab : Nat) (la : LA) (aa : AA) : MachA := ⟨c, cb, 0, List.replicate 8 none, qb, ⟨c, List.replicate 8 none, lb, tb, [], [], la, 0⟩, ⟨ab, aa, none, 0, [], 0, 0, [], []⟩, lg, zeroB⟩
set_option maxHeartbeats 4000000 in
theorem egNew_ct (c : CfgM) (h : mayOk c) : Ct Tryz.prog 7 #[cfgA c] [] (fun v L => ∃ b cb qb lb tb lg ab la aa, v = .tuple #[.pointer (some ⟨b, 0, none⟩), .int .i64 0] ∧ L = [machG b (startM c cb qb lb tb lg ab la aa)]) := by
  have kQ := qnew_ct c h
  obtain ⟨qn, fs, lim, flim, hz, mr, dh, cap, mss⟩ := c
  clear h
  intro w0 F L w hS
  simp only [List.cons_append, List.nil_append] at hS
  go_enter Tryz.func7, Tryz.ntmps7
  go_wp2_with (first | go_skip | (refine ck_loadAll hS rfl rfl rfl (by (repeat (first | exact mH _ | apply mT)) <;> fail) rfl (by (try simp only [List.length_cons, List.length_nil, Nat.zero_add, Nat.reduceAdd]); decide +kernel) ?_; simp only [Act.put, spA, spZ, spS]) | (refine ck_load hS rfl rfl rfl (by (repeat (first | exact mH _ | apply mT)) <;> fail) rfl (by decide +kernel) ?_; simp only [Act.put, spA, spZ, spS]) | (refine ck_box hS rfl rfl (by constructor) ?_; clear hS; intro nb w hS; simp only [Act.put, spA, spZ, spS]) | (go_at_call 19; with_reducible refine Ct.callN (kQ) hS ?_; clear hS; rintro _ _ w ⟨qb, lb, tb, la, ab, aa, rfl, rfl⟩ hS; simp only [List.cons_append, List.nil_append] at hS) | (refine ck_region (fun _ => 0) (fun _ => []) [] hS (by kernel_rfl) (by decide +kernel) ?_ ?_; exact ⟨fun _ _ _ h => h.2, fun _ _ h => h⟩; clear hS; intro w hS _; (repeat (first | (apply wpT_pure rfl rfl; (intro _; go_simp; (try (go_ints; (try go_simp))); (first | (rw [decide_eq_true]; omega) | (rw [decide_eq_false]; omega) | rfl | rw [if_pos (by omega)])); simp only [Act.put, spA, spZ, spS]) | (refine ckT_load hS rfl rfl rfl (by simp <;> fail) (by (repeat (first | exact mH _ | apply mT)) <;> fail) rfl (by decide +kernel) ?_; simp only [Act.put, spA, spZ, spS]) )); refine wpT_nil ?_) | (refine ck_region (fun _ => nb) (fun i => if i = 1 then [0] else if i = 3 then [0] else []) ([0]) hS (by kernel_rfl) (by decide +kernel) ?_ ?_; exact ⟨fun _ _ _ h => h.2, fun _ _ h => h⟩; clear hS; intro w hS _; (repeat (first | (apply wpT_pure rfl rfl; (intro _; go_simp; (try (go_ints; (try go_simp))); (first | (rw [decide_eq_true]; omega) | (rw [decide_eq_false]; omega) | rfl | rw [if_pos (by omega)])); simp only [Act.put, spA, spZ, spS]) | (refine ckT_load hS rfl rfl rfl (by simp <;> fail) (by (repeat (first | exact mH _ | apply mT)) <;> fail) rfl (by decide +kernel) ?_; simp only [Act.put, spA, spZ, spS]) | (refine ckT_loadAll hS rfl rfl rfl (by simp <;> fail) (by (repeat (first | exact mH _ | apply mT)) <;> fail) rfl (by (try simp only [List.length_cons, List.length_nil, Nat.zero_add, Nat.reduceAdd]); decide +kernel) ?_; simp only [Act.put, spA, spZ, spS]) | (refine ckT_callN hS rfl (clkNew0_ct) rfl (by kernel_rfl) rfl (by intro j hj; simp at hj; subst hj; exact ⟨_, 24, (by (repeat (first | exact mH _ | apply mT)) <;> fail)⟩) ?_; clear hS; rintro _ _ w ⟨kb, rfl, rfl⟩ hS; simp only [List.cons_append, List.nil_append] at hS; simp only [Act.put, spA, spZ, spS]) | (refine ckT_callN hS rfl (ledgerNew_ct) rfl (by kernel_rfl) rfl (by intro j hj; simp at hj; subst hj; exact ⟨_, 24, (by (repeat (first | exact mH _ | apply mT)) <;> fail)⟩) ?_; clear hS; rintro _ _ w ⟨lg, rfl, rfl⟩ hS; simp only [List.cons_append, List.nil_append] at hS; simp only [Act.put, spA, spZ, spS]) | (refine ckT_box hS rfl rfl (by constructor) (by simp <;> fail) ?_; clear hS; intro mb w hS; simp only [Act.put, spA, spZ, spS]))); refine wpT_nil ?_))
  go_ret2
  refine ⟨_, ⟨mb, kb, qb, lb, tb, lg, ab, la, aa, rfl, rfl⟩, ?_⟩
  have j0 : Sep w0 F (socksR (List.replicate 8 none) :: _) w := (Sep.grp (l := [])).1 hS
  refine (machOpen (b := mb) (c := ⟨qn, fs, lim, flim, hz, mr, dh, cap, mss⟩) (cb := kb) (now := 0) (sl := List.replicate 8 none) (qb := qb) (lg := lg) (B := zeroB)).2 ?_
  exact j0.pick (by (repeat (first | exact Pick.refl _ | (apply Pick.take; ((repeat (first | exact rH _ _ | apply rT)) <;> fail)) | (apply Pick.drop))))
theorem egNow_ct (b : Nat) (c : CfgM) (cb : Nat) (now : Int) (sl : List (Option SkA)) (qb lg : Nat) : Ct Tryz.prog 10 #[.pointer (some ⟨b, 0, none⟩)] [mP b c cb sl qb lg, clkR cb now] (Gives (.int .u64 now) [mP b c cb sl qb lg, clkR cb now]) := by
  have kN := clkNow_ct cb now
  intro w0 F L w hS
  simp only [List.cons_append, List.nil_append] at hS
  go_enter Tryz.func10, Tryz.ntmps10
  go_wp2_with (first | go_skip | (refine ck_load hS rfl rfl rfl (by (repeat (first | exact mH _ | apply mT)) <;> fail) rfl (by decide +kernel) ?_; simp only [Act.put, spA, spZ, spS]) | (go_at_call 30; (with_reducible refine Ct.callU (kN) (by (repeat (first | exact uH _ _ _ | apply uT)) <;> fail) hS ?_) <;> (first | (clear hS; intro w hS) | omega)))
  go_ret
  exact ⟨_, ⟨rfl, rfl⟩, hS⟩
structure DeedM where
  (kind sock len upto at' : Int) (sa : Option Addr) (sn sc : Nat) (cfg : CfgM)
abbrev deedV (d : DeedM) : List Value := [.int .i64 d.kind, .int .i64 d.sock, .int .i64 d.len, .int .u64 d.upto, .int .u64 d.at', .slice d.sa d.sn d.sc, .int .i64 d.cfg.quantum, .int .i64 d.cfg.first, .int .i64 d.cfg.limit, .int .i64 d.cfg.flowLimit, .int .u64 d.cfg.horizon, .int .u64 d.cfg.maxRate, .bool d.cfg.dropH, .int .i64 d.cfg.cap, .int .i64 d.cfg.mss]
abbrev deedA (d : DeedM) : Value := .agg (deedV d).toArray
theorem sockDone_ct (A : SockA) (k : SockM) (n : Int) (h0 : 1 ≤ n) (h1 : n ≤ k.out) (h2 : k.out ≤ 4611686018427387904) : Ct Tryz.prog 103 #[.pointer (some ⟨A.b, 0, none⟩), .int .i64 n] [sockG A k] (Gives (.int .i64 0) [sockG A { k with out := k.out - n }]) := by
  intro w0 F L w hS
  have hS := sockOpen.1 hS
  have hfin : ∀ {w : World}, Sep w0 F (sockP A { k with out := k.out - n } :: bufR' A.f k.buf :: brdG A.o k.ps k.en A.oa :: smpR A.s k.smp :: mdlG A.m k.mdl :: L) w → Sep w0 F ([sockG A { k with out := k.out - n }] ++ L) w := fun h => (sockOpen (k := { k with out := k.out - n })).2 h
  have h3 : ¬ n < 1 := by omega
  have h4 : ¬ k.out < n := by omega
  go_enter Tryz.func103, Tryz.ntmps103
  go_wp2_with (first | go_skip | (refine ck_load hS rfl rfl rfl (by (repeat (first | exact mH _ | apply mT)) <;> fail) rfl (by decide +kernel) ?_; simp only [Act.put, spA, spZ, spS]) | (refine ck_store hS rfl rfl rfl (by constructor) (by (repeat (first | exact uH _ _ _ | apply uT)) <;> fail) (by simp <;> omega) rfl (by decide +kernel) ?_; clear hS; intro w hS; simp only [Act.put, spA, spZ, spS] at hS ⊢) )
  go_ret
  exact ⟨_, ⟨rfl, rfl⟩, hfin hS⟩
section
variable (A : SockA) (d : DeedM) (now : Int) (pre : List Res) (post : Value → List Res → Prop)
theorem toldSend_ct (hk : d.kind = 2) (hC : Ct Tryz.prog 100 #[.pointer (some ⟨A.b, 0, none⟩), .int .i64 d.len] pre post) : Ct Tryz.prog 67 #[.pointer (some ⟨A.b, 0, none⟩), deedA d, .int .u64 now] pre post := by
  obtain ⟨kind, sock, len, upto, at', sa, sn, sc, qn, fs, lim, flim, hz, mr, dh, cap, mss⟩ := d
  dsimp only at hk hC
  subst hk
  intro w0 F L w hS
  go_enter Tryz.func67, Tryz.ntmps67
  go_wp2_with (first | go_skip  | (refine ck_load hS rfl rfl rfl (by (repeat (first | exact mH _ | apply mT)) <;> fail) rfl (by decide +kernel) ?_; simp only [Act.put, spA, spZ, spS]) | (refine ck_box hS rfl rfl (by constructor) ?_; clear hS; intro nb w hS; simp only [Act.put, spA, spZ, spS])  | (go_at_call 100; refine Ct.call hC (hS.perm List.perm_middle.symm) ?_; clear hS hC; intro v L' w hp hS))
  go_ret
  exact ⟨_, hp, (hS.perm List.perm_middle).drop⟩
theorem toldDone_ct (hk : d.kind = 7) (hC : Ct Tryz.prog 103 #[.pointer (some ⟨A.b, 0, none⟩), .int .i64 d.len] pre post) : Ct Tryz.prog 67 #[.pointer (some ⟨A.b, 0, none⟩), deedA d, .int .u64 now] pre post := by
  obtain ⟨kind, sock, len, upto, at', sa, sn, sc, qn, fs, lim, flim, hz, mr, dh, cap, mss⟩ := d
  dsimp only at hk hC
  subst hk
  intro w0 F L w hS
  go_enter Tryz.func67, Tryz.ntmps67
  go_wp2_with (first | go_skip  | (refine ck_load hS rfl rfl rfl (by (repeat (first | exact mH _ | apply mT)) <;> fail) rfl (by decide +kernel) ?_; simp only [Act.put, spA, spZ, spS]) | (refine ck_box hS rfl rfl (by constructor) ?_; clear hS; intro nb w hS; simp only [Act.put, spA, spZ, spS])  | (go_at_call 103; refine Ct.call hC (hS.perm List.perm_middle.symm) ?_; clear hS hC; intro v L' w hp hS))
  go_ret
  exact ⟨_, hp, (hS.perm List.perm_middle).drop⟩
end
end Go.Proofs.YtcegknecikbbkaaGreat
