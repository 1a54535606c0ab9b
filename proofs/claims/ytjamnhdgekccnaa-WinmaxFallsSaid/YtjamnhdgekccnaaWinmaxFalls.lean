/- WinmaxFalls: for all numbers the law answers true; no condition. -/
import Derived.Test.YtjamnhdgekccnaaWinLaws
import Derived.WalkKit
import Derived.WalkSpells
import Derived.WalkLawsBesides
import Derived.WalkMore
import Derived.Deep.LoopGhost
set_option linter.unusedVariables false
set_option linter.unusedSimpArgs false
namespace Go.Proofs.Ytjamnhdgekccnaa
open Go.RowKit
theorem wsU_keep {W : Int} {S : WS} {M v : Int} (h0 : v < S.v0) (ht : S.t0 = 0) (h2 : 0 ≤ S.t2) (hM0 : 0 ≤ M) (hM : M ≤ W) : (wsU W S M v).v0 = S.v0 ∧ (wsU W S M v).t0 = 0 := by
  obtain ⟨t0, v0, t1, v1, t2, v2⟩ := S
  dsimp only at *
  unfold wsU wsC wsB
  dsimp only
  repeat' split
  all_goals (dsimp only at *; omega)
set_option maxHeartbeats 4000000 in
theorem winmaxFalls_walk (w0 : World) (a0 : Int) (l0 : 0 ≤ a0) (u0 : a0 ≤ 18446744073709551615) (a1 : Int) (l1 : 0 ≤ a1) (u1 : a1 ≤ 18446744073709551615) (a2 : Int) (l2 : -9223372036854775808 ≤ a2) (u2 : a2 ≤ 9223372036854775807) :
    Calls Try.prog 5 #[.int .u64 a0, .int .u64 a1, .int .i64 a2] w0 (LawR w0) := by
  obtain ⟨p, hp, hp0, hp1⟩ := mod_any a0 1000 (by omega)
  obtain ⟨W, hW⟩ : ∃ W, 1 + p = W := ⟨_, rfl⟩
  obtain ⟨u, hu, hu0, hu1⟩ := u64_any a2
  obtain ⟨q, hq, hq0, hq1⟩ := mod_any u 20 (by omega)
  obtain ⟨n, rfl⟩ : ∃ n : Nat, q = n := ⟨q.toNat, by omega⟩
  obtain ⟨H, hH⟩ : ∃ H, a1 / 2 + 1 = H := ⟨_, rfl⟩
  have hH0 : 1 ≤ H := by omega
  have hH1 : H ≤ 9223372036854775808 := by omega
  have hW0 : 1 ≤ W := by omega
  have hW1 : W ≤ 1000 := by omega
  have k0 := fun b => maxUpdTo_ct b W 0 0 0 0 0 0 0 0 H ⟨0, H, 0, H, 0, H⟩ 0 (wsU_hit (by dsimp only; omega)) (by rfl) (by omega) (by omega) (by omega) (by omega) (by omega) (by omega) (by omega) (by omega) (by omega)
  dsimp only at k0
  have hS := Sep.start w0 []
  unfold LawR
  go_enter Try.func5, Try.ntmps5
  go_wp2_with (first | go_skip | (refine ck_load hS rfl rfl rfl (by repeat (first | exact List.Mem.head _ | apply List.Mem.tail)) rfl (by decide +kernel) ?_; simp only [Act.put, List.setIfInBounds_toArray, List.set_cons_zero, List.set_cons_succ]) | (refine ck_store hS rfl rfl rfl (by constructor) (by repeat (first | exact Upd.here _ _ _ | apply Upd.there)) (by simp <;> omega) rfl (by decide +kernel) ?_; clear hS; intro w hS; simp only [Act.put, List.setIfInBounds_toArray, List.set_cons_zero, List.set_cons_succ] at hS ⊢) | (refine ck_box hS rfl rfl (by constructor) ?_; clear hS; intro nb w hS; simp only [Act.put, List.setIfInBounds_toArray, List.set_cons_zero, List.set_cons_succ]) | (refine ck_max rfl rfl rfl rfl ?_; simp only [Act.put, List.setIfInBounds_toArray, List.set_cons_zero, List.set_cons_succ]) | (refine ck_min rfl rfl rfl rfl ?_; simp only [Act.put, List.setIfInBounds_toArray, List.set_cons_zero, List.set_cons_succ]) | (go_at_call 10; with_reducible refine Ct.callN (maxNew_ct _) hS ?_; clear hS; rintro _ _ w ⟨b, rfl, rfl⟩ hS; simp only [List.cons_append, List.nil_append] at hS) | (go_at_call 15; (with_reducible refine Ct.callU (k0 _) (by repeat (first | exact Upd.here _ _ _ | apply Upd.there)) hS ?_) <;> (first | (clear hS; intro w hS) | omega)) | (refine ck_region (fun _ => 0) (fun _ => []) [] hS (by kernel_rfl) (by decide +kernel) ?_ ?_; exact ⟨fun _ _ _ h => h.2, fun _ _ h => h⟩; clear hS; intro w hS _; (repeat (first | (refine ckT_max rfl rfl rfl rfl ?_; simp only [Act.put, List.setIfInBounds_toArray, List.set_cons_zero, List.set_cons_succ]) | (refine ckT_min rfl rfl rfl rfl ?_; simp only [Act.put, List.setIfInBounds_toArray, List.set_cons_zero, List.set_cons_succ]) | (apply wpT_pure rfl rfl; (intro _; go_simp; (try (go_ints; (try go_simp))); (first | (rw [decide_eq_true]; omega) | (rw [decide_eq_false]; omega) | rfl)); simp only [Act.put, List.setIfInBounds_toArray, List.set_cons_zero, List.set_cons_succ]) | (refine ckT_load hS rfl rfl rfl (by simp) (by repeat (first | exact List.Mem.head _ | apply List.Mem.tail)) rfl (by decide +kernel) ?_; simp only [Act.put, List.setIfInBounds_toArray, List.set_cons_zero, List.set_cons_succ]) | (refine ckT_store hS rfl rfl rfl (by constructor) (by repeat (first | exact Upd.here _ _ _ | apply Upd.there)) (by simp) rfl (by decide +kernel) (by simp) ?_; clear hS; intro w hS; simp only [Act.put, List.setIfInBounds_toArray, List.set_cons_zero, List.set_cons_succ] at hS ⊢) | (refine wpT_skip rfl ?_; simp only [Act.put, List.setIfInBounds_toArray, List.set_cons_zero, List.set_cons_succ]) )); refine wpT_nil ?_))
  clear k0
  go_loopg [8] (n + 1) (fun g s wx => ∃ (k : Nat) (S : WS) (last : Int), k + g = n + 1 ∧ k ≤ n ∧ s = .int .i64 k ∧ wsOk S last ∧ last ≤ W ∧ S.t0 = 0 ∧ S.v0 = H ∧ Sep w0 [] [maxR b W S.t0 S.v0 S.t1 S.v1 S.t2 S.v2 last] wx)
  case atStart => exact ⟨0, ⟨0, H, 0, H, 0, H⟩, 0, by omega, by omega, rfl, by unfold wsOk; dsimp only; omega, by omega, rfl, rfl, hS⟩
  case round =>
    obtain ⟨k, S, last, hkg, hkl, rfl, hok, hlW, ht, hv, hS⟩ := hrel
    generalize wr = w at hS ⊢
    have hok0 := hok
    obtain ⟨l0, l1, l2, l3, l4, l5, l6, l7⟩ := hok
    by_cases hk : k < n
    · have p0 : 0 ≤ W * (k : Int) := Int.mul_nonneg (by omega) (by omega)
      have p1 : W * (k : Int) ≤ W * 20 := Int.mul_le_mul_of_nonneg_left (by omega) (by omega)
      have p2 : W * (k : Int) / 20 ≤ W := by omega
      have p3 : 0 ≤ W * (k : Int) / 20 := by omega
      obtain ⟨S', hS'⟩ : ∃ S', wsU W S (max last (W * (k : Int) / 20)) (H - 1) = S' := ⟨_, rfl⟩
      have hok' : wsOk S' (max last (W * (k : Int) / 20)) := hS' ▸ wsU_ok hok0 (by omega) (by omega)
      obtain ⟨hv', ht'⟩ := wsU_keep (W := W) (S := S) (M := max last (W * (k : Int) / 20)) (v := H - 1) (by omega) ht (by omega) (by omega) (by omega)
      rw [hS'] at hv' ht'
      have kU := maxUpdTo_ct b W S.t0 S.v0 S.t1 S.v1 S.t2 S.v2 last (W * (k : Int) / 20) (H - 1) S' (max last (W * (k : Int) / 20)) hS' rfl (by omega) (by omega) l0 l1 (by omega) (by omega) l2 l4 l6
      rw [hv', hv, ht, ht'] at kU
      rw [hv, ht] at hS
      clear hS' hok0 l1 l3 l4 l5 l6 l7
      go_wp2_with (first | go_skip | (refine ck_load hS rfl rfl rfl (by repeat (first | exact List.Mem.head _ | apply List.Mem.tail)) rfl (by decide +kernel) ?_; simp only [Act.put, List.setIfInBounds_toArray, List.set_cons_zero, List.set_cons_succ]) | (refine ck_store hS rfl rfl rfl (by constructor) (by repeat (first | exact Upd.here _ _ _ | apply Upd.there)) (by simp <;> omega) rfl (by decide +kernel) ?_; clear hS; intro w hS; simp only [Act.put, List.setIfInBounds_toArray, List.set_cons_zero, List.set_cons_succ] at hS ⊢) | (refine ck_box hS rfl rfl (by constructor) ?_; clear hS; intro nb w hS; simp only [Act.put, List.setIfInBounds_toArray, List.set_cons_zero, List.set_cons_succ]) | (refine ck_max rfl rfl rfl rfl ?_; simp only [Act.put, List.setIfInBounds_toArray, List.set_cons_zero, List.set_cons_succ]) | (refine ck_min rfl rfl rfl rfl ?_; simp only [Act.put, List.setIfInBounds_toArray, List.set_cons_zero, List.set_cons_succ]) | (go_at_call 15; (with_reducible refine Ct.callU (kU) (by repeat (first | exact Upd.here _ _ _ | apply Upd.there)) hS ?_) <;> (first | (clear hS; intro w hS) | omega)) | (refine ck_region (fun _ => 0) (fun _ => []) [] hS (by kernel_rfl) (by decide +kernel) ?_ ?_; exact ⟨fun _ _ _ h => h.2, fun _ _ h => h⟩; clear hS; intro w hS _; (repeat (first | (refine ckT_max rfl rfl rfl rfl ?_; simp only [Act.put, List.setIfInBounds_toArray, List.set_cons_zero, List.set_cons_succ]) | (refine ckT_min rfl rfl rfl rfl ?_; simp only [Act.put, List.setIfInBounds_toArray, List.set_cons_zero, List.set_cons_succ]) | (apply wpT_pure rfl rfl; (intro _; go_simp; (try (go_ints; (try go_simp))); (first | (rw [decide_eq_true]; omega) | (rw [decide_eq_false]; omega) | rfl)); simp only [Act.put, List.setIfInBounds_toArray, List.set_cons_zero, List.set_cons_succ]) | (refine ckT_load hS rfl rfl rfl (by simp) (by repeat (first | exact List.Mem.head _ | apply List.Mem.tail)) rfl (by decide +kernel) ?_; simp only [Act.put, List.setIfInBounds_toArray, List.set_cons_zero, List.set_cons_succ]) | (refine ckT_store hS rfl rfl rfl (by constructor) (by repeat (first | exact Upd.here _ _ _ | apply Upd.there)) (by simp) rfl (by decide +kernel) (by simp) ?_; clear hS; intro w hS; simp only [Act.put, List.setIfInBounds_toArray, List.set_cons_zero, List.set_cons_succ] at hS ⊢) | (refine wpT_skip rfl ?_; simp only [Act.put, List.setIfInBounds_toArray, List.set_cons_zero, List.set_cons_succ]) )); refine wpT_nil ?_))
      go_roundg (n - k)
      case rel => exact ⟨k + 1, S', _, by omega, by omega, by go_num, hok', by omega, ht', by rw [hv', hv], by rw [hv', ht', hv]; exact hS⟩
      case measure => omega
    · have kU := maxUpdTo_ct b W S.t0 S.v0 S.t1 S.v1 S.t2 S.v2 last (3 * W + 3) (H - 1) ⟨3 * W + 3, H - 1, 3 * W + 3, H - 1, 3 * W + 3, H - 1⟩ (3 * W + 3) (wsU_old (by dsimp only; omega)) (by omega) (by omega) (by omega) l0 l1 (by omega) (by omega) l2 l4 l6
      have kV := maxUpdTo_ct b W (3 * W + 3) (H - 1) (3 * W + 3) (H - 1) (3 * W + 3) (H - 1) (3 * W + 3) (3 * W + 4) H ⟨3 * W + 4, H, 3 * W + 4, H, 3 * W + 4, H⟩ (3 * W + 4) (wsU_hit (by dsimp only; omega)) (by omega) (by omega) (by omega) (by omega) (by omega) (by omega) (by omega) (by omega) (by omega) (by omega)
      dsimp only at kU kV
      clear hok0 ht hv hp hW hu hq hH
      go_wp2_with (first | go_skip | (refine ck_load hS rfl rfl rfl (by repeat (first | exact List.Mem.head _ | apply List.Mem.tail)) rfl (by decide +kernel) ?_; simp only [Act.put, List.setIfInBounds_toArray, List.set_cons_zero, List.set_cons_succ]) | (refine ck_store hS rfl rfl rfl (by constructor) (by repeat (first | exact Upd.here _ _ _ | apply Upd.there)) (by simp <;> omega) rfl (by decide +kernel) ?_; clear hS; intro w hS; simp only [Act.put, List.setIfInBounds_toArray, List.set_cons_zero, List.set_cons_succ] at hS ⊢) | (refine ck_box hS rfl rfl (by constructor) ?_; clear hS; intro nb w hS; simp only [Act.put, List.setIfInBounds_toArray, List.set_cons_zero, List.set_cons_succ]) | (refine ck_max rfl rfl rfl rfl ?_; simp only [Act.put, List.setIfInBounds_toArray, List.set_cons_zero, List.set_cons_succ]) | (refine ck_min rfl rfl rfl rfl ?_; simp only [Act.put, List.setIfInBounds_toArray, List.set_cons_zero, List.set_cons_succ]) | (go_at_call 15; (with_reducible refine Ct.callU (kU) (by repeat (first | exact Upd.here _ _ _ | apply Upd.there)) hS ?_) <;> (first | (clear hS; intro w hS) | omega)) | (go_at_call 15; (with_reducible refine Ct.callU (kV) (by repeat (first | exact Upd.here _ _ _ | apply Upd.there)) hS ?_) <;> (first | (clear hS; intro w hS) | omega)) | (go_at_call 12; with_reducible refine Ct.call0 (awake08_ct) hS ?_; clear hS; intro w hS) | (go_at_call 15; with_reducible refine Ct.call0 (maxUpdZ_ct _ _) hS ?_; clear hS; intro w hS) | (go_at_call 17; with_reducible refine Ct.call0 (maxBestZ_ct) hS ?_; clear hS; intro w hS) | (refine ck_region (fun _ => 0) (fun _ => []) [] hS (by kernel_rfl) (by decide +kernel) ?_ ?_; exact ⟨fun _ _ _ h => h.2, fun _ _ h => h⟩; clear hS; intro w hS _; (repeat (first | (refine ckT_max rfl rfl rfl rfl ?_; simp only [Act.put, List.setIfInBounds_toArray, List.set_cons_zero, List.set_cons_succ]) | (refine ckT_min rfl rfl rfl rfl ?_; simp only [Act.put, List.setIfInBounds_toArray, List.set_cons_zero, List.set_cons_succ]) | (apply wpT_pure rfl rfl; (intro _; go_simp; (try (go_ints; (try go_simp))); (first | (rw [decide_eq_true]; omega) | (rw [decide_eq_false]; omega) | rfl)); simp only [Act.put, List.setIfInBounds_toArray, List.set_cons_zero, List.set_cons_succ]) | (refine ckT_load hS rfl rfl rfl (by simp) (by repeat (first | exact List.Mem.head _ | apply List.Mem.tail)) rfl (by decide +kernel) ?_; simp only [Act.put, List.setIfInBounds_toArray, List.set_cons_zero, List.set_cons_succ]) | (refine ckT_store hS rfl rfl rfl (by constructor) (by repeat (first | exact Upd.here _ _ _ | apply Upd.there)) (by simp) rfl (by decide +kernel) (by simp) ?_; clear hS; intro w hS; simp only [Act.put, List.setIfInBounds_toArray, List.set_cons_zero, List.set_cons_succ] at hS ⊢) | (refine wpT_skip rfl ?_; simp only [Act.put, List.setIfInBounds_toArray, List.set_cons_zero, List.set_cons_succ]) )); refine wpT_nil ?_))
      go_ret
      exact ⟨[], rfl, hS.dropN 100⟩
namespace winmaxFalls
open Go.ChangeShapes Go.WideShapes Go.ChangeAt Go.RowKit
open Go.ChangeMaps (open_string shut_string)
theorem own : ownKnob Try.prog.godebug = none := by kernel_rfl
theorem laidOut : laidOutB Try.prog = true := by kernel_rfl
set_option maxRecDepth 100000 in
theorem lifted (os : Os) (started : os.Started) (H : Type) (enc : TypeId × Value → H) :
    ReturnsInHanded {} Try.checked os 5 .any (Rows.winmaxFallsSpec.pre6 enc Try.prog Try.f5 Rows.winmaxFallsRow.domain false) (Rows.winmaxFallsSpec.post enc Try.prog Try.f5 false true false false) := by
  refine returnsInHanded_of_change (C := Try.checked) own started (by kernel_rfl) Try.func5
    (ChangeSpec.witness6 (enc := enc) (C := Try.checked) false ⟨#[], #[.int .u64 0, .int .u64 0, .int .i64 0], []⟩ 8 (by kernel_rfl) (by kernel_rfl) (by kernel_rfl) (by kernel_rfl)) ?_
  intro W base args ds gs before hval0 hW hcnd _
  have hval : ∀ (j : Nat) t v, Try.f5.params[j]? = some t → args[j]? = some v → Value.okWide Try.prog W .any base t v := hval0
  have hW' := hW
  obtain ⟨p, q, hA0, hV, rfl, hfz, hnd⟩ := hW
  have hA : DataW.TrodAll enc Try.prog W 0 (fun _ => true) true Try.f5.params.toList args.toList ds p := hA0
  rw [Try.params5] at hA hval
  obtain ⟨v0, vs0, d0, ds0, p0, q0, hargs, rfl, rfl, h0, r0⟩ := trodAll_cons hA
  obtain ⟨v1, vs1, d1, ds1, p1, q1, rfl, rfl, rfl, h1, r1⟩ := trodAll_cons r0
  obtain ⟨v2, vs2, d2, ds2, p2, q2, rfl, rfl, rfl, h2, r2⟩ := trodAll_cons r1
  obtain ⟨rfl, rfl, rfl⟩ := trodAll_nil r2
  obtain rfl : args = #[v0, v1, v2] := by cases args; simp_all
  obtain ⟨rfl, rfl⟩ := trodVars_none hV
  obtain ⟨a0, rfl, rfl, rfl, w0⟩ := open_int Try.underlying22 (hval 0 22 v0 rfl rfl) h0
  obtain ⟨a1, rfl, rfl, rfl, w1⟩ := open_int Try.underlying22 (hval 1 22 v1 rfl rfl) h1
  obtain ⟨a2, rfl, rfl, rfl, w2⟩ := open_int Try.underlying3 (hval 2 3 v2 rfl rfl) h2
  clear hA0 hval0
  refine (winmaxFalls_walk W a0 (wf_u64 w0).1 (wf_u64 w0).2 a1 (wf_u64 w1).1 (wf_u64 w1).2 a2 (wf_i64 w2).1 (wf_i64 w2).2).mono fun e W' hR => ?_
  obtain ⟨he, bel⟩ := LawR.out hR
  subst he
  exact ⟨_, rfl, _, _, _, [], _, [], hW', trodAll_mk1 (shut_bool Try.underlying4 _), (trodAll_cons_mk (shut_int Try.underlying22 w0) (trodAll_cons_mk (shut_int Try.underlying22 w1) (trodAll_cons_mk (shut_int Try.underlying3 w2) trodAll_mk0))), rfl, bel.frame _, fun h => by cases h⟩
theorem over : Rows.winmaxFallsRow.holds Try.pinned (OpenSpec.ofChange Rows.winmaxFallsSpec) :=
  OpenClaim.holds_of_wide 5 Try.f5 rfl rfl rfl rfl rfl rfl rfl ⟨rfl, rfl, rfl, rfl, rfl⟩ rfl rfl rfl rfl rfl (by kernel_rfl) Try.func5 (by kernel_rfl)
    (of_decide_eq_true (by kernel_rfl)) (by unfold Func.isWrapper; first | (rw [if_pos (by decide +kernel)]; kernel_rfl) | (rw [if_neg (by decide +kernel)]; exact ⟨rfl, rfl⟩))
    (fun os started H enc _ => lifted os started H enc)
theorem proved : Rows.WinmaxFallsSaid := over
#print axioms proved
end winmaxFalls
end Go.Proofs.Ytjamnhdgekccnaa
