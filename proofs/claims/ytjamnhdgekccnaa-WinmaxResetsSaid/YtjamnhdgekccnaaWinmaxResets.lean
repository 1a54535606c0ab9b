/- WinmaxResets: for all numbers and every list of deeds the law answers true; no condition. -/
import Derived.Test.YtjamnhdgekccnaaWinLaws
import Derived.WalkKit
import Derived.WalkSpells
import Derived.WalkLawsBesides
import Derived.WalkMore
import Derived.Deep.LoopGhost
set_option linter.unusedVariables false
set_option linter.unusedSimpArgs false
namespace Go.Proofs.Ytjamnhdgekccnaa
open Go.RowKit
theorem wsU_same {win t v x : Int} (hw : 0 ≤ win) (h : ¬ v ≤ x) : wsU win ⟨t, v, t, v, t, v⟩ t x = ⟨t, v, t, v, t, v⟩ := by
  unfold wsU wsC wsB
  dsimp only
  repeat' split
  all_goals ((try dsimp only at *) <;> first | rfl | (exfalso; omega) | (simp only [WS.mk.injEq] <;> omega))
set_option maxHeartbeats 4000000 in
theorem winmaxResets_walk (w0 : World) (win : Int) (hw0 : 0 ≤ win) (hw1 : win ≤ 18446744073709551615) (a0 : Option Addr) (len0 cap0 : Nat) (z0 : List (List Value)) (s0 : ArgSl w0 [.int .u64, .int .u64, .bool] a0 len0 z0) (t : Int) (lt : 0 ≤ t) (ut : t ≤ 18446744073709551615) (v : Int) (lv : 0 ≤ v) (uv : v ≤ 18446744073709551615) (x : Int) (lx : 0 ≤ x) (ux : x ≤ 18446744073709551615) (back : Int) (lb : 0 ≤ back) (ub : back ≤ 18446744073709551615) :
    Calls Try.prog 6 #[.int .u64 win, .slice a0 len0 cap0, .int .u64 t, .int .u64 v, .int .u64 x, .int .u64 back] w0 (LawR w0) := by
  have hlen := s0.small
  have kx := fun b => maxUpdTo_ct b win 0 0 0 0 0 0 0 t v ⟨t, v, t, v, t, v⟩ t (wsU_hit (by dsimp only; omega)) (by omega) hw0 hw1 (by omega) (by omega) lt ut (by omega) (by omega) (by omega)
  have hp : ∃ S : WS, wsU win ⟨t, v, t, v, t, v⟩ t x = S ∧ S.v0 = max v x := by
    by_cases h : v ≤ x
    · exact ⟨_, wsU_hit (by exact h), by dsimp only; omega⟩
    · exact ⟨_, wsU_same hw0 h, by dsimp only; omega⟩
  obtain ⟨S2, hS2, hv2⟩ := hp
  have ky := fun b (u : Int) (h0 : 0 ≤ u) (h1 : u ≤ t) => maxUpdTo_ct b win t v t v t v t u x S2 t hS2 (by omega) hw0 hw1 lt ut h0 (by omega) lt lt lt
  rw [hv2] at ky
  have kz := fun b => ky b (min t back) (by omega) (by omega)
  have kw := fun b => ky b t (by omega) (by omega)
  dsimp only at kx
  clear hS2 hv2 ky
  have hS := Sep.start w0 []
  unfold LawR
  go_enter Try.func6, Try.ntmps6
  go_wp2_with (first | go_skip | (refine ck_load hS rfl rfl rfl (by repeat (first | exact List.Mem.head _ | apply List.Mem.tail)) rfl (by decide +kernel) ?_; simp only [Act.put, List.setIfInBounds_toArray, List.set_cons_zero, List.set_cons_succ]) | (refine ck_store hS rfl rfl rfl (by constructor) (by repeat (first | exact Upd.here _ _ _ | apply Upd.there)) (by simp <;> omega) rfl (by decide +kernel) ?_; clear hS; intro w hS; simp only [Act.put, List.setIfInBounds_toArray, List.set_cons_zero, List.set_cons_succ] at hS ⊢) | (refine ck_box hS rfl rfl (by constructor) ?_; clear hS; intro nb w hS; simp only [Act.put, List.setIfInBounds_toArray, List.set_cons_zero, List.set_cons_succ]) | (refine ck_max rfl rfl rfl rfl ?_; simp only [Act.put, List.setIfInBounds_toArray, List.set_cons_zero, List.set_cons_succ]) | (refine ck_min rfl rfl rfl rfl ?_; simp only [Act.put, List.setIfInBounds_toArray, List.set_cons_zero, List.set_cons_succ]) | (go_at_call 10; with_reducible refine Ct.callN (maxNew_ct _) hS ?_; clear hS; rintro _ _ w ⟨b, rfl, rfl⟩ hS; simp only [List.cons_append, List.nil_append] at hS) | (go_at_call 12; with_reducible refine Ct.call0 (awake08_ct) hS ?_; clear hS; intro w hS) | (refine ck_region (fun _ => 0) (fun _ => []) [] hS (by kernel_rfl) (by decide +kernel) ?_ ?_; exact ⟨fun _ _ _ h => h.2, fun _ _ h => h⟩; clear hS; intro w hS _; (repeat (first | (refine ckT_max rfl rfl rfl rfl ?_; simp only [Act.put, List.setIfInBounds_toArray, List.set_cons_zero, List.set_cons_succ]) | (refine ckT_min rfl rfl rfl rfl ?_; simp only [Act.put, List.setIfInBounds_toArray, List.set_cons_zero, List.set_cons_succ]) | (apply wpT_pure rfl rfl; (intro _; go_simp; (try (go_ints; (try go_simp))); (first | (rw [decide_eq_true]; omega) | (rw [decide_eq_false]; omega) | rfl)); simp only [Act.put, List.setIfInBounds_toArray, List.set_cons_zero, List.set_cons_succ]) | (refine ckT_load hS rfl rfl rfl (by simp) (by repeat (first | exact List.Mem.head _ | apply List.Mem.tail)) rfl (by decide +kernel) ?_; simp only [Act.put, List.setIfInBounds_toArray, List.set_cons_zero, List.set_cons_succ]) | (refine ckT_store hS rfl rfl rfl (by constructor) (by repeat (first | exact Upd.here _ _ _ | apply Upd.there)) (by simp) rfl (by decide +kernel) (by simp) ?_; clear hS; intro w hS; simp only [Act.put, List.setIfInBounds_toArray, List.set_cons_zero, List.set_cons_succ] at hS ⊢) | (refine wpT_skip rfl ?_; simp only [Act.put, List.setIfInBounds_toArray, List.set_cons_zero, List.set_cons_succ]) )); refine wpT_nil ?_))
  go_loopg [14] 41 (fun g s wx => ∃ (k : Nat) (S : WS) (last : Int), k + g = 41 ∧ k ≤ len0 ∧ s = .int .i64 k ∧ wsOk S last ∧ Sep w0 [] [maxR b win S.t0 S.v0 S.t1 S.v1 S.t2 S.v2 last] wx)
  case atStart => exact ⟨0, ⟨0, 0, 0, 0, 0, 0⟩, 0, by omega, by omega, rfl, by unfold wsOk; dsimp only; omega, hS⟩
  case round =>
    obtain ⟨k, S, last, hkg, hkl, rfl, hok, hS⟩ := hrel
    generalize wr = w at hS ⊢
    have hok0 := hok
    obtain ⟨l0, l1, l2, l3, l4, l5, l6, l7⟩ := hok
    by_cases hk : k < len0 ∧ k < 40
    · obtain ⟨hk1, hk2⟩ := hk
      obtain ⟨sb, off, cs, T, fz, ot, ov, rs, rfl, hb, hh, hc, r1, r2⟩ := s0.op3 hk1
      have c0 : cs[off + k * 3]? = some (.int .u64 ot) := by have := hc 0 (by omega); simpa using this
      have c1 : cs[off + k * 3 + 1]? = some (.int .u64 ov) := by have := hc 1 (by omega); simpa using this
      clear s0 hc
      obtain ⟨S', hS'⟩ : ∃ S', wsU win S (max last ot) ov = S' := ⟨_, rfl⟩
      have hok' : wsOk S' (max last ot) := hS' ▸ wsU_ok hok0 (by omega) (by omega)
      have kU := maxUpdTo_ct b win S.t0 S.v0 S.t1 S.v1 S.t2 S.v2 last ot ov S' (max last ot) hS' rfl hw0 hw1 l0 l1 r1.1 r1.2 l2 l4 l6
      clear hS' kx kz kw
      go_wp2_with (first | go_skip | (refine ck_load hS rfl rfl rfl (by repeat (first | exact List.Mem.head _ | apply List.Mem.tail)) rfl (by decide +kernel) ?_; simp only [Act.put, List.setIfInBounds_toArray, List.set_cons_zero, List.set_cons_succ]) | (refine ck_store hS rfl rfl rfl (by constructor) (by repeat (first | exact Upd.here _ _ _ | apply Upd.there)) (by simp <;> omega) rfl (by decide +kernel) ?_; clear hS; intro w hS; simp only [Act.put, List.setIfInBounds_toArray, List.set_cons_zero, List.set_cons_succ] at hS ⊢) | (refine ck_box hS rfl rfl (by constructor) ?_; clear hS; intro nb w hS; simp only [Act.put, List.setIfInBounds_toArray, List.set_cons_zero, List.set_cons_succ]) | (refine ck_max rfl rfl rfl rfl ?_; simp only [Act.put, List.setIfInBounds_toArray, List.set_cons_zero, List.set_cons_succ]) | (refine ck_min rfl rfl rfl rfl ?_; simp only [Act.put, List.setIfInBounds_toArray, List.set_cons_zero, List.set_cons_succ])  | (refine ck_region (fun _ => 0) (fun _ => []) [] hS (by kernel_rfl) (by decide +kernel) ?_ ?_; exact ⟨fun _ _ _ h => h.2, fun _ _ h => h⟩; clear hS; intro w hS _; (repeat (first | (refine ckT_max rfl rfl rfl rfl ?_; simp only [Act.put, List.setIfInBounds_toArray, List.set_cons_zero, List.set_cons_succ]) | (refine ckT_min rfl rfl rfl rfl ?_; simp only [Act.put, List.setIfInBounds_toArray, List.set_cons_zero, List.set_cons_succ]) | (apply wpT_pure rfl rfl; (intro _; go_simp; (try (go_ints; (try go_simp))); (first | (rw [decide_eq_true]; omega) | (rw [decide_eq_false]; omega) | rfl)); simp only [Act.put, List.setIfInBounds_toArray, List.set_cons_zero, List.set_cons_succ]) | (refine ckT_load hS rfl rfl rfl (by simp) (by repeat (first | exact List.Mem.head _ | apply List.Mem.tail)) rfl (by decide +kernel) ?_; simp only [Act.put, List.setIfInBounds_toArray, List.set_cons_zero, List.set_cons_succ]) | (refine ckT_store hS rfl rfl rfl (by constructor) (by repeat (first | exact Upd.here _ _ _ | apply Upd.there)) (by simp) rfl (by decide +kernel) (by simp) ?_; clear hS; intro w hS; simp only [Act.put, List.setIfInBounds_toArray, List.set_cons_zero, List.set_cons_succ] at hS ⊢) | (refine wpT_skip rfl ?_; simp only [Act.put, List.setIfInBounds_toArray, List.set_cons_zero, List.set_cons_succ]) | (refine ckT_loadOld hS rfl rfl rfl (by simp) hb hh c0 (by decide +kernel) ?_; simp only [Act.put, List.setIfInBounds_toArray, List.set_cons_zero, List.set_cons_succ]) | (refine ckT_loadOld hS rfl rfl rfl (by simp) hb hh c1 (by decide +kernel) ?_; simp only [Act.put, List.setIfInBounds_toArray, List.set_cons_zero, List.set_cons_succ]) | ((refine ckT_callU hS rfl (kU) (by repeat (first | exact Upd.here _ _ _ | apply Upd.there)) rfl (by kernel_rfl) rfl (by simp) ?_) <;> (first | (clear hS; intro w hS) | omega); simp only [Act.put, List.setIfInBounds_toArray, List.set_cons_zero, List.set_cons_succ]))); refine wpT_nil ?_))
      go_roundg (40 - k)
      case rel => exact ⟨k + 1, S', _, by omega, by omega, by go_num, hok', hS⟩
      case measure => omega
    · clear s0 hok0
      by_cases hk1 : k < len0
      all_goals
        go_wp2_with (first | go_skip | (go_at_call 10; with_reducible refine Ct.callN (maxNew_ct _) hS ?_; clear hS; rintro _ _ w ⟨c, rfl, rfl⟩ hS; simp only [List.cons_append, List.nil_append] at hS) | (refine ck_load hS rfl rfl rfl (by repeat (first | exact List.Mem.head _ | apply List.Mem.tail)) rfl (by decide +kernel) ?_; simp only [Act.put, List.setIfInBounds_toArray, List.set_cons_zero, List.set_cons_succ]) | (refine ck_store hS rfl rfl rfl (by constructor) (by repeat (first | exact Upd.here _ _ _ | apply Upd.there)) (by simp <;> omega) rfl (by decide +kernel) ?_; clear hS; intro w hS; simp only [Act.put, List.setIfInBounds_toArray, List.set_cons_zero, List.set_cons_succ] at hS ⊢) | (refine ck_box hS rfl rfl (by constructor) ?_; clear hS; intro nb w hS; simp only [Act.put, List.setIfInBounds_toArray, List.set_cons_zero, List.set_cons_succ]) | (refine ck_max rfl rfl rfl rfl ?_; simp only [Act.put, List.setIfInBounds_toArray, List.set_cons_zero, List.set_cons_succ]) | (refine ck_min rfl rfl rfl rfl ?_; simp only [Act.put, List.setIfInBounds_toArray, List.set_cons_zero, List.set_cons_succ]) | (refine ck_region (fun _ => 0) (fun _ => []) [] hS (by kernel_rfl) (by decide +kernel) ?_ ?_; exact ⟨fun _ _ _ h => h.2, fun _ _ h => h⟩; clear hS; intro w hS _; (repeat (first | (refine ckT_max rfl rfl rfl rfl ?_; simp only [Act.put, List.setIfInBounds_toArray, List.set_cons_zero, List.set_cons_succ]) | (refine ckT_min rfl rfl rfl rfl ?_; simp only [Act.put, List.setIfInBounds_toArray, List.set_cons_zero, List.set_cons_succ]) | (apply wpT_pure rfl rfl; (intro _; go_simp; (try (go_ints; (try go_simp))); (first | (rw [decide_eq_true]; omega) | (rw [decide_eq_false]; omega) | rfl)); simp only [Act.put, List.setIfInBounds_toArray, List.set_cons_zero, List.set_cons_succ]) | (refine ckT_load hS rfl rfl rfl (by simp) (by repeat (first | exact List.Mem.head _ | apply List.Mem.tail)) rfl (by decide +kernel) ?_; simp only [Act.put, List.setIfInBounds_toArray, List.set_cons_zero, List.set_cons_succ]) | (refine ckT_store hS rfl rfl rfl (by constructor) (by repeat (first | exact Upd.here _ _ _ | apply Upd.there)) (by simp) rfl (by decide +kernel) (by simp) ?_; clear hS; intro w hS; simp only [Act.put, List.setIfInBounds_toArray, List.set_cons_zero, List.set_cons_succ] at hS ⊢) | (refine wpT_skip rfl ?_; simp only [Act.put, List.setIfInBounds_toArray, List.set_cons_zero, List.set_cons_succ]) )); refine wpT_nil ?_) | (go_at_call 13; (with_reducible refine Ct.callU (maxReset_ct _ _ _ _ _ _ _ _ _ _ _ ?_ ?_) (by repeat (first | exact Upd.here _ _ _ | apply Upd.there)) hS ?_) <;> (first | (clear hS; intro w hS) | omega)) | (go_at_call 17; (with_reducible refine Ct.callU (maxBest_ct _ _ _ _ _ _ _ _ _) (by repeat (first | exact Upd.here _ _ _ | apply Upd.there)) hS ?_) <;> (first | (clear hS; intro w hS) | omega)) | (go_at_call 15; (with_reducible refine Ct.callU (kx _) (by repeat (first | exact Upd.here _ _ _ | apply Upd.there)) hS ?_) <;> (first | (clear hS; intro w hS) | omega)) | (go_at_call 15; (with_reducible refine Ct.callU (kw _) (by repeat (first | exact Upd.here _ _ _ | apply Upd.there)) hS ?_) <;> (first | (clear hS; intro w hS) | omega)) | (go_at_call 15; (with_reducible refine Ct.callU (kz _) (by repeat (first | exact Upd.here _ _ _ | apply Upd.there)) hS ?_) <;> (first | (clear hS; intro w hS) | omega)))
        go_ret
        exact ⟨[], rfl, hS.dropN 100⟩
namespace winmaxResets
open Go.ChangeShapes Go.WideShapes Go.ChangeAt Go.RowKit
open Go.ChangeMaps (open_string shut_string)
theorem own : ownKnob Try.prog.godebug = none := by kernel_rfl
theorem laidOut : laidOutB Try.prog = true := by kernel_rfl
set_option maxRecDepth 100000 in
theorem lifted (os : Os) (started : os.Started) (H : Type) (enc : TypeId × Value → H) :
    ReturnsInHanded {} Try.checked os 6 .any (Rows.winmaxResetsSpec.pre6 enc Try.prog Try.f6 Rows.winmaxResetsRow.domain false) (Rows.winmaxResetsSpec.post enc Try.prog Try.f6 false true false false) := by
  refine returnsInHanded_of_change (C := Try.checked) own started (by kernel_rfl) Try.func6
    (ChangeSpec.witness6 (enc := enc) (C := Try.checked) false ⟨#[], #[.int .u64 0, .slice none 0 0, .int .u64 0, .int .u64 0, .int .u64 0, .int .u64 0], []⟩ 8 (by kernel_rfl) (by kernel_rfl) (by kernel_rfl) (by kernel_rfl)) ?_
  intro W base args ds gs before hval0 hW hcnd _
  have hval : ∀ (j : Nat) t v, Try.f6.params[j]? = some t → args[j]? = some v → Value.okWide Try.prog W .any base t v := hval0
  have hW' := hW
  obtain ⟨p, q, hA0, hV, rfl, hfz, hnd⟩ := hW
  have hA : DataW.TrodAll enc Try.prog W 0 (fun _ => true) true Try.f6.params.toList args.toList ds p := hA0
  rw [Try.params6] at hA hval
  obtain ⟨v0, vs0, d0, ds0, p0, q0, hargs, rfl, rfl, h0, r0⟩ := trodAll_cons hA
  obtain ⟨v1, vs1, d1, ds1, p1, q1, rfl, rfl, rfl, h1, r1⟩ := trodAll_cons r0
  obtain ⟨v2, vs2, d2, ds2, p2, q2, rfl, rfl, rfl, h2, r2⟩ := trodAll_cons r1
  obtain ⟨v3, vs3, d3, ds3, p3, q3, rfl, rfl, rfl, h3, r3⟩ := trodAll_cons r2
  obtain ⟨v4, vs4, d4, ds4, p4, q4, rfl, rfl, rfl, h4, r4⟩ := trodAll_cons r3
  obtain ⟨v5, vs5, d5, ds5, p5, q5, rfl, rfl, rfl, h5, r5⟩ := trodAll_cons r4
  obtain ⟨rfl, rfl, rfl⟩ := trodAll_nil r5
  obtain rfl : args = #[v0, v1, v2, v3, v4, v5] := by cases args; simp_all
  obtain ⟨rfl, rfl⟩ := trodVars_none hV
  obtain ⟨a0, rfl, rfl, rfl, w0⟩ := open_int Try.underlying22 (hval 0 22 v0 rfl rfl) h0
  obtain ⟨a1, len1, cap1, rfl⟩ := okWide_slice Try.underlying23 (hval 1 23 v1 rfl rfl)
  have k1 := h1
  have lt1 : ∀ x ∈ p1, x.block < W.heap.size := by obtain ⟨m, hm⟩ := k1; exact DataW.trod_lt m _ _ _ hm
  obtain ⟨z1, s1⟩ : ∃ zs, ArgSl W [(.int .u64), (.int .u64), .bool] a1 len1 zs := by
    obtain ⟨fuel, hf⟩ := h1
    exact open_argsl Try.underlying23 Try.underlying30 (by kernel_rfl) (by kernel_rfl) (by kernel_rfl) (by simp) hf
  obtain ⟨a2, rfl, rfl, rfl, w2⟩ := open_int Try.underlying22 (hval 2 22 v2 rfl rfl) h2
  obtain ⟨a3, rfl, rfl, rfl, w3⟩ := open_int Try.underlying22 (hval 3 22 v3 rfl rfl) h3
  obtain ⟨a4, rfl, rfl, rfl, w4⟩ := open_int Try.underlying22 (hval 4 22 v4 rfl rfl) h4
  obtain ⟨a5, rfl, rfl, rfl, w5⟩ := open_int Try.underlying22 (hval 5 22 v5 rfl rfl) h5
  clear hA0 hval0
  refine (winmaxResets_walk W a0 (wf_u64 w0).1 (wf_u64 w0).2 a1 len1 cap1 z1 s1 a2 (wf_u64 w2).1 (wf_u64 w2).2 a3 (wf_u64 w3).1 (wf_u64 w3).2 a4 (wf_u64 w4).1 (wf_u64 w4).2 a5 (wf_u64 w5).1 (wf_u64 w5).2).mono fun e W' hR => ?_
  obtain ⟨he, bel⟩ := LawR.out hR
  subst he
  exact ⟨_, rfl, _, _, _, [], _, [], hW', trodAll_mk1 (shut_bool Try.underlying4 _), (trodAll_cons_mk (shut_int Try.underlying22 w0) (trodAll_cons_mk (Below.trod laidOut (by kernel_rfl) (of_decide_eq_true (by kernel_rfl)) k1 bel lt1) (trodAll_cons_mk (shut_int Try.underlying22 w2) (trodAll_cons_mk (shut_int Try.underlying22 w3) (trodAll_cons_mk (shut_int Try.underlying22 w4) (trodAll_cons_mk (shut_int Try.underlying22 w5) trodAll_mk0)))))), rfl, bel.frame _, fun h => by cases h⟩
theorem over : Rows.winmaxResetsRow.holds Try.pinned (OpenSpec.ofChange Rows.winmaxResetsSpec) :=
  OpenClaim.holds_of_wide 6 Try.f6 rfl rfl rfl rfl rfl rfl rfl ⟨rfl, rfl, rfl, rfl, rfl⟩ rfl rfl rfl rfl rfl (by kernel_rfl) Try.func6 (by kernel_rfl)
    (of_decide_eq_true (by kernel_rfl)) (by unfold Func.isWrapper; first | (rw [if_pos (by decide +kernel)]; kernel_rfl) | (rw [if_neg (by decide +kernel)]; exact ⟨rfl, rfl⟩))
    (fun os started H enc _ => lifted os started H enc)
theorem proved : Rows.WinmaxResetsSaid := over
#print axioms proved
end winmaxResets
end Go.Proofs.Ytjamnhdgekccnaa
