/- TsoBounds: for both rates and every mss the law answers true; no condition. -/
import Derived.Test.YtmfoakghjacibaaTsoLaws
import Derived.Test.YtmfoakghjacibaaRef01
import Derived.WalkKit
import Derived.WalkSpells
import Derived.WalkLawsBesides
import Derived.WalkMore
import Derived.Deep.LoopGhost
set_option linter.unusedVariables false
set_option linter.unusedSimpArgs false
namespace Go.Proofs.Ytmfoakghjacibaa
open Go.RowKit
theorem tsoN_mono {a b m : Int} (hm : 0 < m) (h : a ≤ b) : tsoN a m ≤ tsoN b m := by
  have h1 : a / 1024 / m ≤ b / 1024 / m := Int.ediv_le_ediv hm (Int.ediv_le_ediv (by omega) h)
  unfold tsoN; omega
theorem tso_bounds (rate r2 m : Int) (h0 : 0 ≤ rate) (h1 : rate ≤ r2) (m0 : 100 ≤ m) (m1 : m ≤ 9000) :
    tsoS rate m % m = 0 ∧ 2 * m ≤ tsoS rate m ∧ tsoS rate m ≤ 65536 ∧ tsoS rate m ≤ tsoS r2 m ∧ (tsoS rate m = 2 * m ∨ tsoS rate m ≤ rate / 1024) ∧ (65536 - m < tsoS rate m ∨ rate / 1024 < tsoS rate m + m) := by
  have hM : tsoM m = m := by unfold tsoM; omega
  unfold tsoS
  rw [hM]
  obtain ⟨d0, d1, d2, d3⟩ := tso_d m m0 m1
  have hmono := tsoN_mono (m := m) (by omega) h1
  have hq : rate / 1024 / m * m ≤ rate / 1024 := Int.ediv_mul_le _ (by omega)
  have hq2 : rate / 1024 < (rate / 1024 / m + 1) * m := Int.lt_ediv_add_one_mul_self _ (by omega)
  rw [Int.add_mul] at hq2
  have n0 : 2 ≤ tsoN rate m := by unfold tsoN; omega
  have n1 : tsoN rate m ≤ 65536 / m := by unfold tsoN; omega
  have n2 : tsoN rate m = 2 ∨ tsoN rate m ≤ rate / 1024 / m := by unfold tsoN; omega
  have n3 : 65536 / m ≤ tsoN rate m ∨ rate / 1024 / m ≤ tsoN rate m := by unfold tsoN; omega
  generalize tsoN rate m = N at *
  have p0 : 2 * m ≤ N * m := Int.mul_le_mul_of_nonneg_right n0 (by omega)
  have p1 : N * m ≤ 65536 / m * m := Int.mul_le_mul_of_nonneg_right n1 (by omega)
  refine ⟨Int.mul_emod_left _ _, p0, by omega, Int.mul_le_mul_of_nonneg_right hmono (by omega), ?_, ?_⟩
  · rcases n2 with rfl | h
    · exact .inl rfl
    · have := Int.mul_le_mul_of_nonneg_right (c := m) h (by omega); exact .inr (by omega)
  · rcases n3 with h | h
    · have := Int.mul_le_mul_of_nonneg_right (c := m) h (by omega); exact .inl (by omega)
    · have := Int.mul_le_mul_of_nonneg_right (c := m) h (by omega); exact .inr (by omega)
set_option maxHeartbeats 4000000 in
theorem tsoBounds_walk (w0 : World) (a0 : Int) (l0 : 0 ≤ a0) (u0 : a0 ≤ 18446744073709551615) (a1 : Int) (l1 : 0 ≤ a1) (u1 : a1 ≤ 18446744073709551615) (a2 : Int) (l2 : -9223372036854775808 ≤ a2) (u2 : a2 ≤ 9223372036854775807) :
    Calls Try.prog 7 #[.int .u64 a0, .int .u64 a1, .int .i64 a2] w0 (LawR w0) := by
  obtain ⟨u, hu, hu0, hu1⟩ := u64_any a2
  obtain ⟨s, hs, hs0, hs1⟩ := mod_any u 8901 (by omega)
  obtain ⟨m, hm⟩ : ∃ m, 100 + s = m := ⟨_, rfl⟩
  obtain ⟨r2, hr2⟩ : ∃ r2, min (a0 + a1) 18446744073709551615 = r2 := ⟨_, rfl⟩
  obtain ⟨b0, b1, b2, b3, b4, b5⟩ := tso_bounds a0 r2 m l0 (by omega) (by omega) (by omega)
  have k1 := size_ct a0 m l0 u0 (by omega) (by omega)
  have k2 := size_ct r2 m (by omega) (by omega) (by omega) (by omega)
  have k3 := refAdd_ct a0 a1 l0 u0 l1 u1
  rw [hr2] at k3
  generalize tsoS a0 m = n at *
  generalize tsoS r2 m = n2 at *
  have hz : m ≠ 0 := by omega
  have m0 : 100 ≤ m := by omega
  have m1 : m ≤ 9000 := by omega
  clear l1 u1 hr2 l2 u2
  by_cases c1 : n = 2 * m
  all_goals by_cases c2 : 65536 - m < n
  · exfalso; omega
  all_goals
    first | have c3 := b4.resolve_left c1 | skip
    first | have c4 := b5.resolve_left c2 | skip
    first | have c5 : a0 / 1024 < 2 * m + m := by omega | skip
    clear b4 b5
    have hS := Sep.start w0 []
    unfold LawR
    go_enter Try.func7, Try.ntmps7
    go_wp2_with (first | (refine ck_load hS rfl rfl rfl (by repeat (first | exact List.Mem.head _ | apply List.Mem.tail)) rfl (by decide +kernel) ?_; simp only [Act.put, List.setIfInBounds_toArray, List.set_cons_zero, List.set_cons_succ]) | (refine ck_store hS rfl rfl rfl (by constructor) (by repeat (first | exact Upd.here _ _ _ | apply Upd.there)) (by simp) rfl (by decide +kernel) ?_; clear hS; intro w hS; simp only [Act.put, List.setIfInBounds_toArray, List.set_cons_zero, List.set_cons_succ] at hS ⊢) | (refine ck_box hS rfl rfl (by constructor) ?_; clear hS; intro nb w hS; simp only [Act.put, List.setIfInBounds_toArray, List.set_cons_zero, List.set_cons_succ]) | (refine ck_max rfl rfl rfl rfl ?_; simp only [Act.put, List.setIfInBounds_toArray, List.set_cons_zero, List.set_cons_succ]) | (refine ck_min rfl rfl rfl rfl ?_; simp only [Act.put, List.setIfInBounds_toArray, List.set_cons_zero, List.set_cons_succ]) | (go_at_call 18; with_reducible refine Ct.call0 (awake22_ct) hS ?_; clear hS; intro w hS) | (go_at_call 17; with_reducible refine Ct.call0 (k3) hS ?_; clear hS; intro w hS) | (go_at_call 19; with_reducible refine Ct.call0 (k1) hS ?_; clear hS; intro w hS) | (go_at_call 19; with_reducible refine Ct.call0 (k2) hS ?_; clear hS; intro w hS) | (refine ck_region (fun _ => 0) (fun _ => []) [] hS (by kernel_rfl) (by kernel_rfl) ⟨fun _ _ _ h => h.2, fun _ _ h => h⟩ ?_; clear hS; intro w hS _; (repeat (first | (refine ckT_max rfl rfl rfl rfl ?_; simp only [Act.put, List.setIfInBounds_toArray, List.set_cons_zero, List.set_cons_succ]) | (refine ckT_min rfl rfl rfl rfl ?_; simp only [Act.put, List.setIfInBounds_toArray, List.set_cons_zero, List.set_cons_succ]) | (apply wpT_pure rfl rfl; (intro _; go_simp; (try (go_ints; (try go_simp))); rfl); simp only [Act.put, List.setIfInBounds_toArray, List.set_cons_zero, List.set_cons_succ]) | (refine ckT_load hS rfl rfl rfl (by simp) (by repeat (first | exact List.Mem.head _ | apply List.Mem.tail)) rfl (by decide +kernel) ?_; simp only [Act.put, List.setIfInBounds_toArray, List.set_cons_zero, List.set_cons_succ]) | (refine ckT_store hS rfl rfl rfl (by constructor) (by repeat (first | exact Upd.here _ _ _ | apply Upd.there)) (by simp) rfl (by decide +kernel) (by simp) ?_; clear hS; intro w hS; simp only [Act.put, List.setIfInBounds_toArray, List.set_cons_zero, List.set_cons_succ] at hS ⊢) | (refine wpT_skip rfl ?_; simp only [Act.put, List.setIfInBounds_toArray, List.set_cons_zero, List.set_cons_succ]) )); refine wpT_nil ?_))
    go_ret
    exact ⟨[], rfl, hS.dropN 100⟩
namespace tsoBounds
open Go.ChangeShapes Go.WideShapes Go.ChangeAt Go.RowKit
open Go.ChangeMaps (open_string shut_string)
theorem own : ownKnob Try.prog.godebug = none := by kernel_rfl
theorem laidOut : laidOutB Try.prog = true := by kernel_rfl
set_option maxRecDepth 100000 in
theorem lifted (os : Os) (started : os.Started) (H : Type) (enc : TypeId × Value → H) :
    ReturnsInHanded {} Try.checked os 7 .any (Rows.tsoBoundsSpec.pre6 enc Try.prog Try.f7 Rows.tsoBoundsRow.domain false) (Rows.tsoBoundsSpec.post enc Try.prog Try.f7 false true false false) := by
  refine returnsInHanded_of_change (C := Try.checked) own started (by kernel_rfl) Try.func7
    (ChangeSpec.witness6 (enc := enc) (C := Try.checked) false ⟨#[], #[.int .u64 0, .int .u64 0, .int .i64 0], []⟩ 8 (by kernel_rfl) (by kernel_rfl) (by kernel_rfl) (by kernel_rfl)) ?_
  intro W base args ds gs before hval0 hW hcnd _
  have hval : ∀ (j : Nat) t v, Try.f7.params[j]? = some t → args[j]? = some v → Value.okWide Try.prog W .any base t v := hval0
  have hW' := hW
  obtain ⟨p, q, hA0, hV, rfl, hfz, hnd⟩ := hW
  have hA : DataW.TrodAll enc Try.prog W 0 (fun _ => true) true Try.f7.params.toList args.toList ds p := hA0
  rw [Try.params7] at hA hval
  obtain ⟨v0, vs0, d0, ds0, p0, q0, hargs, rfl, rfl, h0, r0⟩ := trodAll_cons hA
  obtain ⟨v1, vs1, d1, ds1, p1, q1, rfl, rfl, rfl, h1, r1⟩ := trodAll_cons r0
  obtain ⟨v2, vs2, d2, ds2, p2, q2, rfl, rfl, rfl, h2, r2⟩ := trodAll_cons r1
  obtain ⟨rfl, rfl, rfl⟩ := trodAll_nil r2
  obtain rfl : args = #[v0, v1, v2] := by cases args; simp_all
  obtain ⟨rfl, rfl⟩ := trodVars_none hV
  obtain ⟨a0, rfl, rfl, rfl, w0⟩ := open_int Try.underlying22 (hval 0 22 v0 rfl rfl) h0
  obtain ⟨a1, rfl, rfl, rfl, w1⟩ := open_int Try.underlying22 (hval 1 22 v1 rfl rfl) h1
  obtain ⟨a2, rfl, rfl, rfl, w2⟩ := open_int Try.underlying3 (hval 2 3 v2 rfl rfl) h2
  clear hA0 hval0
  refine (tsoBounds_walk W a0 (wf_u64 w0).1 (wf_u64 w0).2 a1 (wf_u64 w1).1 (wf_u64 w1).2 a2 (wf_i64 w2).1 (wf_i64 w2).2).mono fun e W' hR => ?_
  obtain ⟨he, bel⟩ := LawR.out hR
  subst he
  exact ⟨_, rfl, _, _, _, [], _, [], hW', trodAll_mk1 (shut_bool Try.underlying4 _), (trodAll_cons_mk (shut_int Try.underlying22 w0) (trodAll_cons_mk (shut_int Try.underlying22 w1) (trodAll_cons_mk (shut_int Try.underlying3 w2) trodAll_mk0))), rfl, bel.frame _, fun h => by cases h⟩
theorem over : Rows.tsoBoundsRow.holds Try.pinned (OpenSpec.ofChange Rows.tsoBoundsSpec) :=
  OpenClaim.holds_of_wide 7 Try.f7 rfl rfl rfl rfl rfl rfl rfl ⟨rfl, rfl, rfl, rfl, rfl⟩ rfl rfl rfl rfl rfl (by kernel_rfl) Try.func7 (by kernel_rfl)
    (of_decide_eq_true (by kernel_rfl)) (by unfold Func.isWrapper; first | (rw [if_pos (by decide +kernel)]; kernel_rfl) | (rw [if_neg (by decide +kernel)]; exact ⟨rfl, rfl⟩))
    (fun os started H enc _ => lifted os started H enc)
theorem proved : Rows.TsoBoundsSaid := over
#print axioms proved
end tsoBounds
end Go.Proofs.Ytmfoakghjacibaa
