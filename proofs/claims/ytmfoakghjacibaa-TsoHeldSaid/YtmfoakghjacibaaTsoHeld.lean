/- TsoHeld: for every rate and every mss the law answers true; no condition. -/
import Derived.Test.YtmfoakghjacibaaTsoLaws
import Derived.WalkKit
import Derived.WalkSpells
import Derived.WalkLawsBesides
import Derived.WalkMore
import Derived.Deep.LoopGhost
set_option linter.unusedVariables false
set_option linter.unusedSimpArgs false
namespace Go.Proofs.Ytmfoakghjacibaa
open Go.RowKit
theorem tsoS_bd (rate mss : Int) (h : 0 ≤ rate) : 2 * tsoM mss ≤ tsoS rate mss ∧ tsoS rate mss ≤ 65536 := by
  obtain ⟨m0, m1⟩ := tsoM_bd mss
  obtain ⟨d0, d1, d2, _⟩ := tso_d _ m0 m1
  have n0 : 2 ≤ tsoN rate (tsoM mss) := by unfold tsoN; omega
  have n1 : tsoN rate (tsoM mss) ≤ 65536 / tsoM mss := by unfold tsoN; omega
  have h1 : 2 * tsoM mss ≤ tsoN rate (tsoM mss) * tsoM mss := Int.mul_le_mul_of_nonneg_right n0 (by omega)
  have h2 : tsoN rate (tsoM mss) * tsoM mss ≤ 65536 / tsoM mss * tsoM mss := Int.mul_le_mul_of_nonneg_right n1 (by omega)
  unfold tsoS
  omega
theorem tsoM_M (mss : Int) : tsoM (tsoM mss) = tsoM mss := by unfold tsoM; omega
theorem tsoS_M (rate mss : Int) : tsoS rate (tsoM mss) = tsoS rate mss := by unfold tsoS; rw [tsoM_M]
theorem tsoS_top (mss : Int) : tsoS 18446744073709551615 (tsoM mss) = 65536 / tsoM mss * tsoM mss := by
  obtain ⟨m0, m1⟩ := tsoM_bd mss
  obtain ⟨d0, d1, d2, _⟩ := tso_d _ m0 m1
  have h : 655 ≤ 18446744073709551615 / 1024 / tsoM mss := Int.le_ediv_of_mul_le (by omega) (by omega)
  unfold tsoS
  rw [tsoM_M]
  congr 1
  unfold tsoN
  omega
set_option maxHeartbeats 400000 in
set_option maxRecDepth 8000 in
theorem tsoHeld_walk (w0 : World) (a0 : Int) (l0 : 0 ≤ a0) (u0 : a0 ≤ 18446744073709551615) (a1 : Int) (l1 : -9223372036854775808 ≤ a1) (u1 : a1 ≤ 9223372036854775807) :
    Calls Try.prog 8 #[.int .u64 a0, .int .i64 a1] w0 (LawR w0) := by
  obtain ⟨b0, b1⟩ := tsoS_bd a0 a1 l0
  have e1 := tsoS_M a0 a1
  have e2 := tsoS_top a1
  obtain ⟨m0, m1⟩ := tsoM_bd a1
  obtain ⟨d0, d1, d2, _⟩ := tso_d _ m0 m1
  have dm : 0 ≤ 65536 / tsoM a1 * tsoM a1 := Int.mul_nonneg (by omega) (by omega)
  have hm : max 100 (min a1 9000) = tsoM a1 := rfl
  have hz : tsoM a1 ≠ 0 := by omega
  have hS := Sep.start w0 []
  unfold LawR
  go_enter Try.func8, Try.ntmps8
  go_wp2_with (first | (refine ck_load hS rfl rfl rfl (by repeat (first | exact List.Mem.head _ | apply List.Mem.tail)) rfl (by kernel_rfl) ?_; simp only [Act.put, List.setIfInBounds_toArray, List.set_cons_zero, List.set_cons_succ]) | (refine ck_store hS rfl rfl rfl (by constructor) (by repeat (first | exact Upd.here _ _ _ | apply Upd.there)) (by simp) rfl (by kernel_rfl) ?_; clear hS; intro w hS; simp only [Act.put, List.setIfInBounds_toArray, List.set_cons_zero, List.set_cons_succ] at hS ⊢) | (refine ck_box hS rfl rfl (by constructor) ?_; clear hS; intro nb w hS; simp only [Act.put, List.setIfInBounds_toArray, List.set_cons_zero, List.set_cons_succ]) | (refine ck_max rfl rfl rfl rfl ?_; simp only [Act.put, List.setIfInBounds_toArray, List.set_cons_zero, List.set_cons_succ]) | (refine ck_min rfl rfl rfl rfl ?_; simp only [Act.put, List.setIfInBounds_toArray, List.set_cons_zero, List.set_cons_succ]) | (go_at_call 19; refine Ct.call0 (size_ct _ _ (by omega) (by omega) (by omega) (by omega)) hS ?_; clear hS; intro w hS) | (refine ck_region (fun _ => 0) (fun _ => []) [] hS (by kernel_rfl) (by kernel_rfl) ⟨fun _ _ _ h => h.2, fun _ _ h => h⟩ ?_; clear hS; intro w hS _; (repeat (first | (refine ckT_max rfl rfl rfl rfl ?_; simp only [Act.put, List.setIfInBounds_toArray, List.set_cons_zero, List.set_cons_succ]) | (refine ckT_min rfl rfl rfl rfl ?_; simp only [Act.put, List.setIfInBounds_toArray, List.set_cons_zero, List.set_cons_succ]) | (apply wpT_pure rfl rfl; (intro _; go_simp; (try (go_ints; (try go_simp))); rfl); simp only [Act.put, List.setIfInBounds_toArray, List.set_cons_zero, List.set_cons_succ]) | (refine ckT_load hS rfl rfl rfl (by simp) (by repeat (first | exact List.Mem.head _ | apply List.Mem.tail)) rfl (by kernel_rfl) ?_; simp only [Act.put, List.setIfInBounds_toArray, List.set_cons_zero, List.set_cons_succ]) | (refine ckT_store hS rfl rfl rfl (by constructor) (by repeat (first | exact Upd.here _ _ _ | apply Upd.there)) (by simp) rfl (by kernel_rfl) (by simp) ?_; clear hS; intro w hS; simp only [Act.put, List.setIfInBounds_toArray, List.set_cons_zero, List.set_cons_succ] at hS ⊢) | (refine wpT_skip rfl ?_; simp only [Act.put, List.setIfInBounds_toArray, List.set_cons_zero, List.set_cons_succ]) | (refine ckT_call0 hS rfl (awake22_ct) rfl (by kernel_rfl) rfl (by simp) ?_; clear hS; intro w hS; simp only [Act.put, List.setIfInBounds_toArray, List.set_cons_zero, List.set_cons_succ]) | (refine ckT_call0 hS rfl (size_ct _ _ (by omega) (by omega) (by omega) (by omega)) rfl (by kernel_rfl) rfl (by simp) ?_; clear hS; intro w hS; simp only [Act.put, List.setIfInBounds_toArray, List.set_cons_zero, List.set_cons_succ]))); refine wpT_nil ?_))
  go_ret
  exact ⟨[], rfl, hS.dropN 100⟩
namespace tsoHeld
open Go.ChangeShapes Go.WideShapes Go.ChangeAt Go.RowKit
open Go.ChangeMaps (open_string shut_string)
theorem own : ownKnob Try.prog.godebug = none := by kernel_rfl
theorem laidOut : laidOutB Try.prog = true := by kernel_rfl
set_option maxRecDepth 100000 in
theorem lifted (os : Os) (started : os.Started) (H : Type) (enc : TypeId × Value → H) :
    ReturnsInHanded {} Try.checked os 8 .any (Rows.tsoHeldSpec.pre6 enc Try.prog Try.f8 Rows.tsoHeldRow.domain false) (Rows.tsoHeldSpec.post enc Try.prog Try.f8 false true false false) := by
  refine returnsInHanded_of_change (C := Try.checked) own started (by kernel_rfl) Try.func8
    (ChangeSpec.witness6 (enc := enc) (C := Try.checked) false ⟨#[], #[.int .u64 0, .int .i64 0], []⟩ 8 (by kernel_rfl) (by kernel_rfl) (by kernel_rfl) (by kernel_rfl)) ?_
  intro W base args ds gs before hval0 hW hcnd _
  have hval : ∀ (j : Nat) t v, Try.f8.params[j]? = some t → args[j]? = some v → Value.okWide Try.prog W .any base t v := hval0
  have hW' := hW
  obtain ⟨p, q, hA0, hV, rfl, hfz, hnd⟩ := hW
  have hA : DataW.TrodAll enc Try.prog W 0 (fun _ => true) true Try.f8.params.toList args.toList ds p := hA0
  rw [Try.params8] at hA hval
  obtain ⟨v0, vs0, d0, ds0, p0, q0, hargs, rfl, rfl, h0, r0⟩ := trodAll_cons hA
  obtain ⟨v1, vs1, d1, ds1, p1, q1, rfl, rfl, rfl, h1, r1⟩ := trodAll_cons r0
  obtain ⟨rfl, rfl, rfl⟩ := trodAll_nil r1
  obtain rfl : args = #[v0, v1] := by cases args; simp_all
  obtain ⟨rfl, rfl⟩ := trodVars_none hV
  obtain ⟨a0, rfl, rfl, rfl, w0⟩ := open_int Try.underlying22 (hval 0 22 v0 rfl rfl) h0
  obtain ⟨a1, rfl, rfl, rfl, w1⟩ := open_int Try.underlying3 (hval 1 3 v1 rfl rfl) h1
  clear hA0 hval0
  refine (tsoHeld_walk W a0 (wf_u64 w0).1 (wf_u64 w0).2 a1 (wf_i64 w1).1 (wf_i64 w1).2).mono fun e W' hR => ?_
  obtain ⟨he, bel⟩ := LawR.out hR
  subst he
  exact ⟨_, rfl, _, _, _, [], _, [], hW', trodAll_mk1 (shut_bool Try.underlying4 _), (trodAll_cons_mk (shut_int Try.underlying22 w0) (trodAll_cons_mk (shut_int Try.underlying3 w1) trodAll_mk0)), rfl, bel.frame _, fun h => by cases h⟩
theorem over : Rows.tsoHeldRow.holds Try.pinned (OpenSpec.ofChange Rows.tsoHeldSpec) :=
  OpenClaim.holds_of_wide 8 Try.f8 rfl rfl rfl rfl rfl rfl rfl ⟨rfl, rfl, rfl, rfl, rfl⟩ rfl rfl rfl rfl rfl (by kernel_rfl) Try.func8 (by kernel_rfl)
    (of_decide_eq_true (by kernel_rfl)) (by unfold Func.isWrapper; first | (rw [if_pos (by decide +kernel)]; kernel_rfl) | (rw [if_neg (by decide +kernel)]; exact ⟨rfl, rfl⟩))
    (fun os started H enc _ => lifted os started H enc)
theorem proved : Rows.TsoHeldSaid := over
#print axioms proved
end tsoHeld
end Go.Proofs.Ytmfoakghjacibaa
