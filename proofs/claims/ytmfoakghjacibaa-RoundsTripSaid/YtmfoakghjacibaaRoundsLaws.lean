/- What the laws of rounds share. -/
import Derived.Test.YtmfoakghjacibaaRows
import Derived.Test.YtmfoakghjacibaaRounds
import Derived.Test.YtmfoakghjacibaaCkRow
import Derived.WalkKit
import Derived.WalkSpells
import Derived.WalkLawsBesides
import Derived.WalkMore
import Derived.Deep.LoopGhost
set_option linter.unusedVariables false
set_option linter.unusedSimpArgs false
namespace Go.Proofs.Ytmfoakghjacibaa
open Go.RowKit
theorem ArgSl.smp {w : World} {a : Option Addr} {len : Nat} {z : List (List Value)} (s : ArgSl w [.int .u64, .int .u64, .int .u64, .int .u64, .int .u64, .int .u64, .int .u64, .int .u64, .bool] a len z) {i : Nat} (hi : i < len) :
    ∃ (b off : Nat) (cs : Array Value) (T : TypeId) (fz : Nat × Nat) (a0 a1 a2 a3 a4 a5 a6 a7 : Int) (a8 : Bool), a = some ⟨b, off, none⟩ ∧ b < w.heap.size ∧ w.heap[b]? = some (.cells cs T fz) ∧
      (∀ j, j < 9 → cs[off + i * 9 + j]? = [Value.int .u64 a0, .int .u64 a1, .int .u64 a2, .int .u64 a3, .int .u64 a4, .int .u64 a5, .int .u64 a6, .int .u64 a7, .bool a8][j]?) ∧
      (0 ≤ a1 ∧ a1 ≤ 18446744073709551615) ∧ (0 ≤ a2 ∧ a2 ≤ 18446744073709551615) ∧ (0 ≤ a5 ∧ a5 ≤ 18446744073709551615) := by
  obtain ⟨b, off, cs, T, fz, e, ha, hb, hh, _, hk, hat⟩ := s.row hi
  obtain ⟨v0, e, rfl, h0, hk⟩ := fksOk_cons hk
  obtain ⟨v1, e, rfl, h1, hk⟩ := fksOk_cons hk
  obtain ⟨v2, e, rfl, h2, hk⟩ := fksOk_cons hk
  obtain ⟨v3, e, rfl, h3, hk⟩ := fksOk_cons hk
  obtain ⟨v4, e, rfl, h4, hk⟩ := fksOk_cons hk
  obtain ⟨v5, e, rfl, h5, hk⟩ := fksOk_cons hk
  obtain ⟨v6, e, rfl, h6, hk⟩ := fksOk_cons hk
  obtain ⟨v7, e, rfl, h7, hk⟩ := fksOk_cons hk
  obtain ⟨v8, e, rfl, h8, hk⟩ := fksOk_cons hk
  obtain rfl := fksOk_nil hk
  obtain ⟨a0, rfl, _⟩ := fk_u64 h0
  obtain ⟨a1, rfl, r1⟩ := fk_u64 h1
  obtain ⟨a2, rfl, r2⟩ := fk_u64 h2
  obtain ⟨a3, rfl, _⟩ := fk_u64 h3
  obtain ⟨a4, rfl, _⟩ := fk_u64 h4
  obtain ⟨a5, rfl, r5⟩ := fk_u64 h5
  obtain ⟨a6, rfl, _⟩ := fk_u64 h6
  obtain ⟨a7, rfl, _⟩ := fk_u64 h7
  obtain ⟨a8, rfl⟩ := fk_bool h8
  exact ⟨b, off, cs, T, fz, a0, a1, a2, a3, a4, a5, a6, a7, a8, ha, hb, hh, at_row rfl hat, r1, r2, r5⟩
set_option maxHeartbeats 400000 in
theorem awake11_ct : Ct Try.prog 22 #[] [] (Gives (.bool true) []) := by
  intro w0 F L w hS
  simp only [List.cons_append, List.nil_append] at hS
  go_enter Try.func22, Try.ntmps22
  go_wp2_with (first | (refine ck_load hS rfl rfl rfl (by repeat (first | exact List.Mem.head _ | apply List.Mem.tail)) rfl (by kernel_rfl) ?_; simp only [Act.put, List.setIfInBounds_toArray, List.set_cons_zero, List.set_cons_succ]) | (refine ck_store hS rfl rfl rfl (by constructor) (by repeat (first | exact Upd.here _ _ _ | apply Upd.there)) (by simp) rfl (by kernel_rfl) ?_; clear hS; intro w hS; simp only [Act.put, List.setIfInBounds_toArray, List.set_cons_zero, List.set_cons_succ] at hS ⊢) | (refine ck_box hS rfl rfl (by constructor) ?_; clear hS; intro nb w hS; simp only [Act.put, List.setIfInBounds_toArray, List.set_cons_zero, List.set_cons_succ]) | (refine ck_max rfl rfl rfl rfl ?_; simp only [Act.put, List.setIfInBounds_toArray, List.set_cons_zero, List.set_cons_succ]) | (refine ck_min rfl rfl rfl rfl ?_; simp only [Act.put, List.setIfInBounds_toArray, List.set_cons_zero, List.set_cons_succ]) | (go_at_call 21; with_reducible refine Ct.callN (rndNew_ct) hS ?_; clear hS; rintro _ _ w ⟨b, rfl, rfl⟩ hS; simp only [List.cons_append, List.nil_append] at hS) | (go_at_call 23; (with_reducible refine Ct.callU (rndHit_ct _ _ _ _ _ _ _ _ _ _ _ _ ?_ ?_ ?_ ?_) (by repeat (first | exact Upd.here _ _ _ | apply Upd.there)) hS ?_) <;> (first | (clear hS; intro w hS) | omega)) | (go_at_call 23; (with_reducible refine Ct.callU (rndMiss2_ct _ _ _ _ _ _ _ _ _ _ _ _ ?_ ?_) (by repeat (first | exact Upd.here _ _ _ | apply Upd.there)) hS ?_) <;> (first | (clear hS; intro w hS) | omega)) | (go_at_call 25; (with_reducible refine Ct.callU (rndCount_ct _ _ _) (by repeat (first | exact Upd.here _ _ _ | apply Upd.there)) hS ?_) <;> (first | (clear hS; intro w hS) | omega)) | (refine ck_region (fun _ => 0) (fun _ => []) [] hS (by kernel_rfl) (by kernel_rfl) ⟨fun _ _ _ h => h.2, fun _ _ h => h⟩ ?_; clear hS; intro w hS _; (repeat (first | (refine ckT_max rfl rfl rfl rfl ?_; simp only [Act.put, List.setIfInBounds_toArray, List.set_cons_zero, List.set_cons_succ]) | (refine ckT_min rfl rfl rfl rfl ?_; simp only [Act.put, List.setIfInBounds_toArray, List.set_cons_zero, List.set_cons_succ]) | (apply wpT_pure rfl rfl; (intro _; go_simp; (try (go_ints; (try go_simp))); rfl); simp only [Act.put, List.setIfInBounds_toArray, List.set_cons_zero, List.set_cons_succ]) | (refine ckT_load hS rfl rfl rfl (by simp) (by repeat (first | exact List.Mem.head _ | apply List.Mem.tail)) rfl (by kernel_rfl) ?_; simp only [Act.put, List.setIfInBounds_toArray, List.set_cons_zero, List.set_cons_succ]) | (refine ckT_store hS rfl rfl rfl (by constructor) (by repeat (first | exact Upd.here _ _ _ | apply Upd.there)) (by simp) rfl (by kernel_rfl) (by simp) ?_; clear hS; intro w hS; simp only [Act.put, List.setIfInBounds_toArray, List.set_cons_zero, List.set_cons_succ] at hS ⊢) | (refine wpT_skip rfl ?_; simp only [Act.put, List.setIfInBounds_toArray, List.set_cons_zero, List.set_cons_succ]) )); refine wpT_nil ?_))
  go_ret
  exact ⟨_, ⟨rfl, rfl⟩, hS.drop⟩
end Go.Proofs.Ytmfoakghjacibaa
