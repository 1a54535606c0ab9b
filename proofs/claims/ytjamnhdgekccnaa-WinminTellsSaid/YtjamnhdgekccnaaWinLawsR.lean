/- What the law WinminTells wants of the reference. -/
import Derived.Test.YtjamnhdgekccnaaWinLawsL
import Derived.Test.YtjamnhdgekccnaaWinRefUpdLAll
import Derived.WalkKit
import Derived.WalkSpells
import Derived.WalkLawsBesides
import Derived.WalkMore
import Derived.Deep.LoopGhost
set_option linter.unusedVariables false
set_option linter.unusedSimpArgs false
namespace Go.Proofs.Ytjamnhdgekccnaa
open Go.RowKit
theorem winNewL_ct (n : Int) : Ct Try.prog 11 #[.int .u64 n, .bool true] [] (fun v L => ∃ b, v = .pointer (some ⟨b, 0, none⟩) ∧ L = [winR b n 0 18446744073709551615 0 18446744073709551615 0 18446744073709551615 0 true]) := by
  intro w0 F L w hS
  simp only [List.cons_append, List.nil_append] at hS
  go_enter Try.func11, Try.ntmps11
  go_wp2_with (first | go_skip | (refine ck_load hS rfl rfl rfl (by repeat (first | exact List.Mem.head _ | apply List.Mem.tail)) rfl (by decide +kernel) ?_; simp only [Act.put, List.setIfInBounds_toArray, List.set_cons_zero, List.set_cons_succ]) | (refine ck_store hS rfl rfl rfl (by constructor) (by repeat (first | exact Upd.here _ _ _ | apply Upd.there)) (by simp <;> omega) rfl (by decide +kernel) ?_; clear hS; intro w hS; simp only [Act.put, List.setIfInBounds_toArray, List.set_cons_zero, List.set_cons_succ] at hS ⊢) | (refine ck_box hS rfl rfl (by constructor) ?_; clear hS; intro nb w hS; simp only [Act.put, List.setIfInBounds_toArray, List.set_cons_zero, List.set_cons_succ]) | (refine ck_max rfl rfl rfl rfl ?_; simp only [Act.put, List.setIfInBounds_toArray, List.set_cons_zero, List.set_cons_succ]) | (refine ck_min rfl rfl rfl rfl ?_; simp only [Act.put, List.setIfInBounds_toArray, List.set_cons_zero, List.set_cons_succ]) | (refine ck_storeN hS rfl rfl rfl rfl (by repeat (first | exact Upd.here _ _ _ | apply Upd.there)) (by simp) rfl (by (try simp only [List.length_cons, List.length_nil, Nat.zero_add, Nat.reduceAdd]); decide +kernel) ?_; clear hS; intro w hS; simp only [ckPut, List.take_succ_cons, List.take_zero, List.drop_succ_cons, List.drop_zero, List.length_cons, List.length_nil, Nat.reduceAdd, List.cons_append, List.nil_append, List.append_nil] at hS; simp only [Act.put, List.setIfInBounds_toArray, List.set_cons_zero, List.set_cons_succ]) | (refine ck_region (fun _ => 0) (fun _ => []) [] hS (by kernel_rfl) (by decide +kernel) ?_ ?_; exact ⟨fun _ _ _ h => h.2, fun _ _ h => h⟩; clear hS; intro w hS _; (repeat (first | (refine ckT_max rfl rfl rfl rfl ?_; simp only [Act.put, List.setIfInBounds_toArray, List.set_cons_zero, List.set_cons_succ]) | (refine ckT_min rfl rfl rfl rfl ?_; simp only [Act.put, List.setIfInBounds_toArray, List.set_cons_zero, List.set_cons_succ]) | (apply wpT_pure rfl rfl; (intro _; go_simp; (try (go_ints; (try go_simp))); (first | (rw [decide_eq_true]; omega) | (rw [decide_eq_false]; omega) | rfl)); simp only [Act.put, List.setIfInBounds_toArray, List.set_cons_zero, List.set_cons_succ]) | (refine ckT_load hS rfl rfl rfl (by simp) (by repeat (first | exact List.Mem.head _ | apply List.Mem.tail)) rfl (by decide +kernel) ?_; simp only [Act.put, List.setIfInBounds_toArray, List.set_cons_zero, List.set_cons_succ]) | (refine ckT_store hS rfl rfl rfl (by constructor) (by repeat (first | exact Upd.here _ _ _ | apply Upd.there)) (by simp) rfl (by decide +kernel) (by simp) ?_; clear hS; intro w hS; simp only [Act.put, List.setIfInBounds_toArray, List.set_cons_zero, List.set_cons_succ] at hS ⊢) | (refine wpT_skip rfl ?_; simp only [Act.put, List.setIfInBounds_toArray, List.set_cons_zero, List.set_cons_succ]) )); refine wpT_nil ?_))
  go_ret
  exact ⟨_, ⟨_, rfl, rfl⟩, hS⟩
theorem winUpdLTo_ct (b : Nat) (win t0 v0 t1 v1 t2 v2 last t v : Int) (S : WS) (M : Int) (e : wsUn win ⟨t0, v0, t1, v1, t2, v2⟩ M v = S) (hM : M = max last t) (hw0 : 0 ≤ win) (hw1 : win ≤ 18446744073709551615) (hl0 : 0 ≤ last) (hl1 : last ≤ 18446744073709551615) (ht0 : 0 ≤ t) (ht1 : t ≤ 18446744073709551615) (h0 : 0 ≤ t0) (h1 : 0 ≤ t1) (h2 : 0 ≤ t2) (k0 : t0 ≤ last) (k1 : t1 ≤ last) (k2 : t2 ≤ last) :
    Ct Try.prog 16 #[.pointer (some ⟨b, 0, none⟩), .int .u64 t, .int .u64 v] [winR b win t0 v0 t1 v1 t2 v2 last true] (Gives (.int .u64 S.v0) [winR b win S.t0 S.v0 S.t1 S.v1 S.t2 S.v2 M true]) := by
  subst hM; subst e
  rw [Int.max_comm last t]
  exact winLUpd_ct b win t0 v0 t1 v1 t2 v2 last t v hw0 hw1 hl0 hl1 ht0 ht1 h0 h1 h2 k0 k1 k2
end Go.Proofs.Ytjamnhdgekccnaa
