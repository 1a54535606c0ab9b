/- TsoSteps: for every number, every mss and every rest the law answers true; no condition. -/
import Derived.Test.YtmfoakghjacibaaTsoLaws
import Derived.WalkKit
import Derived.WalkSpells
import Derived.WalkLawsBesides
import Derived.WalkMore
import Derived.Deep.LoopGhost
set_option linter.unusedVariables false
set_option linter.unusedSimpArgs false
namespace Go.Proofs.Ytmfoakghjacibaa
open Go.RowKit
theorem tso_div1 (p o : Int) (h0 : 0 ≤ o) (h1 : o < 1024) : (p * 1024 + o) / 1024 = p := by omega
theorem tso_div2 (p : Int) : (p * 1024 - 1) / 1024 = p - 1 := by omega
theorem tso_div3 (n m : Int) (h : 0 < m) : (n * m - 1) / m = n - 1 := by
  have : n * m - 1 = (m - 1) + (n - 1) * m := by rw [Int.sub_mul]; omega
  rw [this, Int.add_mul_ediv_right _ _ (by omega), Int.ediv_eq_zero_of_lt (by omega) (by omega)]
  omega
theorem tso_steps (n m o : Int) (m0 : 100 ≤ m) (m1 : m ≤ 9000) (o0 : 0 ≤ o) (o1 : o < 1024) :
    tsoS (n * m * 1024 + o) m = max 2 (min n (65536 / m)) * m ∧ tsoS (n * m * 1024 - 1) m = max 2 (min (n - 1) (65536 / m)) * m := by
  have hM : tsoM m = m := by unfold tsoM; omega
  unfold tsoS tsoN
  rw [hM, tso_div1 _ _ o0 o1, tso_div2, tso_div3 _ _ (by omega), Int.mul_ediv_cancel _ (by omega)]
  exact ⟨rfl, rfl⟩
set_option maxHeartbeats 1000000 in
theorem tsoSteps_walk (w0 : World) (a0 : Int) (l0 : -9223372036854775808 ≤ a0) (u0 : a0 ≤ 9223372036854775807) (a1 : Int) (l1 : -9223372036854775808 ≤ a1) (u1 : a1 ≤ 9223372036854775807) (a2 : Int) (l2 : 0 ≤ a2) (u2 : a2 ≤ 18446744073709551615) :
    Calls Try.prog 9 #[.int .i64 a0, .int .i64 a1, .int .u64 a2] w0 (LawR w0) := by
  obtain ⟨u, hu, hu0, hu1⟩ := u64_any a1
  obtain ⟨s, hs, hs0, hs1⟩ := mod_any u 8900 (by omega)
  obtain ⟨m, hm⟩ : ∃ m, 100 + s = m := ⟨_, rfl⟩
  obtain ⟨v, hv, hv0, hv1⟩ := u64_any a0
  obtain ⟨n, hn, n0, n1⟩ := mod_any v 100 (by omega)
  obtain ⟨o, ho, o0, o1⟩ := mod_any a2 1024 (by omega)
  have m0 : 100 ≤ m := by omega
  have m1 : m ≤ 9000 := by omega
  have hz : m ≠ 0 := by omega
  obtain ⟨d0, d1, d2, _⟩ := tso_d m m0 m1
  obtain ⟨e1, e2⟩ := tso_steps n m o m0 m1 o0 o1
  have p0 : 0 ≤ n * m := Int.mul_nonneg n0 (by omega)
  have p1 : n * m ≤ 100 * m := Int.mul_le_mul_of_nonneg_right (by omega) (by omega)
  have k1 := size_ct (n * m * 1024 + o) m (by omega) (by omega) (by omega) (by omega)
  rw [e1] at k1
  have x0 : 0 ≤ max 2 (min n (65536 / m)) * m := Int.mul_nonneg (by omega) (by omega)
  have x1 : max 2 (min n (65536 / m)) * m ≤ 1000 * m := Int.mul_le_mul_of_nonneg_right (by omega) (by omega)
  have y0 : 0 ≤ max 2 (min (n - 1) (65536 / m)) * m := Int.mul_nonneg (by omega) (by omega)
  have y1 : max 2 (min (n - 1) (65536 / m)) * m ≤ 1000 * m := Int.mul_le_mul_of_nonneg_right (by omega) (by omega)
  by_cases c : n = 0
  · clear e1 e2 y0 y1 x0 x1
    subst c
    have e3 : min 0 (65536 / m) = 0 := by omega
    rw [e3, show (0 : Int) * m * 1024 + o = o by omega] at k1
    have e4 : max (2 : Int) 0 = 2 := rfl
    rw [e4] at k1
    have hS := Sep.start w0 []
    unfold LawR
    go_enter Try.func9, Try.ntmps9
    go_wp2_with (first | (refine ck_load hS rfl rfl rfl (by repeat (first | exact List.Mem.head _ | apply List.Mem.tail)) rfl (by kernel_rfl) ?_; simp only [Act.put, List.setIfInBounds_toArray, List.set_cons_zero, List.set_cons_succ]) | (refine ck_store hS rfl rfl rfl (by constructor) (by repeat (first | exact Upd.here _ _ _ | apply Upd.there)) (by simp) rfl (by kernel_rfl) ?_; clear hS; intro w hS; simp only [Act.put, List.setIfInBounds_toArray, List.set_cons_zero, List.set_cons_succ] at hS ⊢) | (refine ck_box hS rfl rfl (by constructor) ?_; clear hS; intro nb w hS; simp only [Act.put, List.setIfInBounds_toArray, List.set_cons_zero, List.set_cons_succ]) | (refine ck_max rfl rfl rfl rfl ?_; simp only [Act.put, List.setIfInBounds_toArray, List.set_cons_zero, List.set_cons_succ]) | (refine ck_min rfl rfl rfl rfl ?_; simp only [Act.put, List.setIfInBounds_toArray, List.set_cons_zero, List.set_cons_succ])  | (refine ck_region (fun _ => 0) (fun _ => []) [] hS (by kernel_rfl) (by kernel_rfl) ⟨fun _ _ _ h => h.2, fun _ _ h => h⟩ ?_; clear hS; intro w hS _; (repeat (first | (refine ckT_max rfl rfl rfl rfl ?_; simp only [Act.put, List.setIfInBounds_toArray, List.set_cons_zero, List.set_cons_succ]) | (refine ckT_min rfl rfl rfl rfl ?_; simp only [Act.put, List.setIfInBounds_toArray, List.set_cons_zero, List.set_cons_succ]) | (apply wpT_pure rfl rfl; (intro _; go_simp; (try (go_ints; (try go_simp))); rfl); simp only [Act.put, List.setIfInBounds_toArray, List.set_cons_zero, List.set_cons_succ]) | (refine ckT_load hS rfl rfl rfl (by simp) (by repeat (first | exact List.Mem.head _ | apply List.Mem.tail)) rfl (by kernel_rfl) ?_; simp only [Act.put, List.setIfInBounds_toArray, List.set_cons_zero, List.set_cons_succ]) | (refine ckT_store hS rfl rfl rfl (by constructor) (by repeat (first | exact Upd.here _ _ _ | apply Upd.there)) (by simp) rfl (by kernel_rfl) (by simp) ?_; clear hS; intro w hS; simp only [Act.put, List.setIfInBounds_toArray, List.set_cons_zero, List.set_cons_succ] at hS ⊢) | (refine wpT_skip rfl ?_; simp only [Act.put, List.setIfInBounds_toArray, List.set_cons_zero, List.set_cons_succ]) | (refine ckT_call0 hS rfl (awake22_ct) rfl (by kernel_rfl) rfl (by simp) ?_; clear hS; intro w hS; simp only [Act.put, List.setIfInBounds_toArray, List.set_cons_zero, List.set_cons_succ]) | (refine ckT_call0 hS rfl (k1) rfl (by kernel_rfl) rfl (by simp) ?_; clear hS; intro w hS; simp only [Act.put, List.setIfInBounds_toArray, List.set_cons_zero, List.set_cons_succ]))); refine wpT_nil ?_))
    go_ret
    exact ⟨[], rfl, hS.dropN 100⟩
  · have p2 : m ≤ n * m := by have := Int.mul_le_mul_of_nonneg_right (show (1:Int) ≤ n by omega) (show 0 ≤ m by omega); omega
    have k2 := size_ct (n * m * 1024 - 1) m (by omega) (by omega) (by omega) (by omega)
    rw [e2] at k2
    clear e1 e2
    have c' : (n == 0) = false := by simp [c]
    have hS := Sep.start w0 []
    unfold LawR
    go_enter Try.func9, Try.ntmps9
    go_wp2_with (first | (refine ck_load hS rfl rfl rfl (by repeat (first | exact List.Mem.head _ | apply List.Mem.tail)) rfl (by kernel_rfl) ?_; simp only [Act.put, List.setIfInBounds_toArray, List.set_cons_zero, List.set_cons_succ]) | (refine ck_store hS rfl rfl rfl (by constructor) (by repeat (first | exact Upd.here _ _ _ | apply Upd.there)) (by simp) rfl (by kernel_rfl) ?_; clear hS; intro w hS; simp only [Act.put, List.setIfInBounds_toArray, List.set_cons_zero, List.set_cons_succ] at hS ⊢) | (refine ck_box hS rfl rfl (by constructor) ?_; clear hS; intro nb w hS; simp only [Act.put, List.setIfInBounds_toArray, List.set_cons_zero, List.set_cons_succ]) | (refine ck_max rfl rfl rfl rfl ?_; simp only [Act.put, List.setIfInBounds_toArray, List.set_cons_zero, List.set_cons_succ]) | (refine ck_min rfl rfl rfl rfl ?_; simp only [Act.put, List.setIfInBounds_toArray, List.set_cons_zero, List.set_cons_succ])  | (refine ck_region (fun _ => 0) (fun _ => []) [] hS (by kernel_rfl) (by kernel_rfl) ⟨fun _ _ _ h => h.2, fun _ _ h => h⟩ ?_; clear hS; intro w hS _; (repeat (first | (refine ckT_max rfl rfl rfl rfl ?_; simp only [Act.put, List.setIfInBounds_toArray, List.set_cons_zero, List.set_cons_succ]) | (refine ckT_min rfl rfl rfl rfl ?_; simp only [Act.put, List.setIfInBounds_toArray, List.set_cons_zero, List.set_cons_succ]) | (apply wpT_pure rfl rfl; (intro _; go_simp; (try (go_ints; (try go_simp))); rfl); simp only [Act.put, List.setIfInBounds_toArray, List.set_cons_zero, List.set_cons_succ]) | (refine ckT_load hS rfl rfl rfl (by simp) (by repeat (first | exact List.Mem.head _ | apply List.Mem.tail)) rfl (by kernel_rfl) ?_; simp only [Act.put, List.setIfInBounds_toArray, List.set_cons_zero, List.set_cons_succ]) | (refine ckT_store hS rfl rfl rfl (by constructor) (by repeat (first | exact Upd.here _ _ _ | apply Upd.there)) (by simp) rfl (by kernel_rfl) (by simp) ?_; clear hS; intro w hS; simp only [Act.put, List.setIfInBounds_toArray, List.set_cons_zero, List.set_cons_succ] at hS ⊢) | (refine wpT_skip rfl ?_; simp only [Act.put, List.setIfInBounds_toArray, List.set_cons_zero, List.set_cons_succ]) | (refine ckT_call0 hS rfl (awake22_ct) rfl (by kernel_rfl) rfl (by simp) ?_; clear hS; intro w hS; simp only [Act.put, List.setIfInBounds_toArray, List.set_cons_zero, List.set_cons_succ]) | (refine ckT_call0 hS rfl (k1) rfl (by kernel_rfl) rfl (by simp) ?_; clear hS; intro w hS; simp only [Act.put, List.setIfInBounds_toArray, List.set_cons_zero, List.set_cons_succ]) | (refine ckT_call0 hS rfl (k2) rfl (by kernel_rfl) rfl (by simp) ?_; clear hS; intro w hS; simp only [Act.put, List.setIfInBounds_toArray, List.set_cons_zero, List.set_cons_succ]))); refine wpT_nil ?_))
    go_ret
    exact ⟨[], rfl, hS.dropN 100⟩
namespace tsoSteps
open Go.ChangeShapes Go.WideShapes Go.ChangeAt Go.RowKit
open Go.ChangeMaps (open_string shut_string)
theorem own : ownKnob Try.prog.godebug = none := by kernel_rfl
theorem laidOut : laidOutB Try.prog = true := by kernel_rfl
set_option maxRecDepth 100000 in
theorem lifted (os : Os) (started : os.Started) (H : Type) (enc : TypeId × Value → H) :
    ReturnsInHanded {} Try.checked os 9 .any (Rows.tsoStepsSpec.pre6 enc Try.prog Try.f9 Rows.tsoStepsRow.domain false) (Rows.tsoStepsSpec.post enc Try.prog Try.f9 false true false false) := by
  refine returnsInHanded_of_change (C := Try.checked) own started (by kernel_rfl) Try.func9
    (ChangeSpec.witness6 (enc := enc) (C := Try.checked) false ⟨#[], #[.int .i64 0, .int .i64 0, .int .u64 0], []⟩ 8 (by kernel_rfl) (by kernel_rfl) (by kernel_rfl) (by kernel_rfl)) ?_
  intro W base args ds gs before hval0 hW hcnd _
  have hval : ∀ (j : Nat) t v, Try.f9.params[j]? = some t → args[j]? = some v → Value.okWide Try.prog W .any base t v := hval0
  have hW' := hW
  obtain ⟨p, q, hA0, hV, rfl, hfz, hnd⟩ := hW
  have hA : DataW.TrodAll enc Try.prog W 0 (fun _ => true) true Try.f9.params.toList args.toList ds p := hA0
  rw [Try.params9] at hA hval
  obtain ⟨v0, vs0, d0, ds0, p0, q0, hargs, rfl, rfl, h0, r0⟩ := trodAll_cons hA
  obtain ⟨v1, vs1, d1, ds1, p1, q1, rfl, rfl, rfl, h1, r1⟩ := trodAll_cons r0
  obtain ⟨v2, vs2, d2, ds2, p2, q2, rfl, rfl, rfl, h2, r2⟩ := trodAll_cons r1
  obtain ⟨rfl, rfl, rfl⟩ := trodAll_nil r2
  obtain rfl : args = #[v0, v1, v2] := by cases args; simp_all
  obtain ⟨rfl, rfl⟩ := trodVars_none hV
  obtain ⟨a0, rfl, rfl, rfl, w0⟩ := open_int Try.underlying3 (hval 0 3 v0 rfl rfl) h0
  obtain ⟨a1, rfl, rfl, rfl, w1⟩ := open_int Try.underlying3 (hval 1 3 v1 rfl rfl) h1
  obtain ⟨a2, rfl, rfl, rfl, w2⟩ := open_int Try.underlying22 (hval 2 22 v2 rfl rfl) h2
  clear hA0 hval0
  refine (tsoSteps_walk W a0 (wf_i64 w0).1 (wf_i64 w0).2 a1 (wf_i64 w1).1 (wf_i64 w1).2 a2 (wf_u64 w2).1 (wf_u64 w2).2).mono fun e W' hR => ?_
  obtain ⟨he, bel⟩ := LawR.out hR
  subst he
  exact ⟨_, rfl, _, _, _, [], _, [], hW', trodAll_mk1 (shut_bool Try.underlying4 _), (trodAll_cons_mk (shut_int Try.underlying3 w0) (trodAll_cons_mk (shut_int Try.underlying3 w1) (trodAll_cons_mk (shut_int Try.underlying22 w2) trodAll_mk0))), rfl, bel.frame _, fun h => by cases h⟩
theorem over : Rows.tsoStepsRow.holds Try.pinned (OpenSpec.ofChange Rows.tsoStepsSpec) :=
  OpenClaim.holds_of_wide 9 Try.f9 rfl rfl rfl rfl rfl rfl rfl ⟨rfl, rfl, rfl, rfl, rfl⟩ rfl rfl rfl rfl rfl (by kernel_rfl) Try.func9 (by kernel_rfl)
    (of_decide_eq_true (by kernel_rfl)) (by unfold Func.isWrapper; first | (rw [if_pos (by decide +kernel)]; kernel_rfl) | (rw [if_neg (by decide +kernel)]; exact ⟨rfl, rfl⟩))
    (fun os started H enc _ => lifted os started H enc)
theorem proved : Rows.TsoStepsSaid := over
#print axioms proved
end tsoSteps
end Go.Proofs.Ytmfoakghjacibaa
