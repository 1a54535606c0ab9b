/- WinminTurned: for every window and every list of deeds the law answers true; no condition. -/
import Derived.Test.YtjamnhdgekccnaaWinLawsL
import Derived.WalkKit
import Derived.WalkSpells
import Derived.WalkLawsBesides
import Derived.WalkMore
import Derived.Deep.LoopGhost
set_option linter.unusedVariables false
set_option linter.unusedSimpArgs false
namespace Go.Proofs.Ytjamnhdgekccnaa
open Go.RowKit
def turn (S : WS) : WS := ⟨S.t0, 18446744073709551615 - S.v0, S.t1, 18446744073709551615 - S.v1, S.t2, 18446744073709551615 - S.v2⟩
theorem turn_B {S : WS} {M v : Int} : wsB (turn S) M (18446744073709551615 - v) = turn (wsBn S M v) := by
  obtain ⟨t0, v0, t1, v1, t2, v2⟩ := S
  unfold turn wsB wsBn
  dsimp only
  repeat' split
  all_goals ((try dsimp only at *) <;> first | rfl | (exfalso; omega) | (simp only [WS.mk.injEq] <;> omega))
theorem turn_C {win : Int} {S : WS} {M v : Int} : wsC win (turn S) M (18446744073709551615 - v) = turn (wsC win S M v) := by
  obtain ⟨t0, v0, t1, v1, t2, v2⟩ := S
  unfold turn wsC
  dsimp only
  by_cases c1 : win < M - min M t0
  · rw [if_pos c1, if_pos c1]
    by_cases c2 : win < M - min M t1
    · rw [if_pos c2, if_pos c2]
    · rw [if_neg c2, if_neg c2]
  · rw [if_neg c1, if_neg c1]
    by_cases c2 : t1 = t0 ∧ win / 4 < M - min M t0
    · rw [if_pos c2, if_pos c2]
    · rw [if_neg c2, if_neg c2]
      by_cases c3 : t2 = t1 ∧ win / 2 < M - min M t0
      · rw [if_pos c3, if_pos c3]
      · rw [if_neg c3, if_neg c3]
theorem turn_U {win : Int} {S : WS} {M v : Int} : wsU win (turn S) M (18446744073709551615 - v) = turn (wsUn win S M v) := by
  unfold wsU wsUn
  have e : ((turn S).v0 ≤ 18446744073709551615 - v ∨ win < M - min M (turn S).t2) ↔ (v ≤ S.v0 ∨ win < M - min M S.t2) := by unfold turn; dsimp only; omega
  by_cases c : v ≤ S.v0 ∨ win < M - min M S.t2
  · rw [if_pos c, if_pos (e.2 c)]; rfl
  · rw [if_neg c, if_neg (fun h => c (e.1 h)), turn_B, turn_C]
def wsV (S : WS) : Prop := (0 ≤ S.v0 ∧ S.v0 ≤ 18446744073709551615) ∧ (0 ≤ S.v1 ∧ S.v1 ≤ 18446744073709551615) ∧ (0 ≤ S.v2 ∧ S.v2 ≤ 18446744073709551615)
theorem wsUn_v {win : Int} {S : WS} {M v : Int} (h : wsV S) (h0 : 0 ≤ v) (h1 : v ≤ 18446744073709551615) : wsV (wsUn win S M v) := by
  obtain ⟨t0, v0, t1, v1, t2, v2⟩ := S
  obtain ⟨a, b, c⟩ := h
  dsimp only at *
  unfold wsUn wsC wsBn wsV
  dsimp only
  repeat' split
  all_goals (dsimp only; omega)
set_option maxHeartbeats 4000000 in
theorem winminTurned_walk (w0 : World) (win : Int) (hw0 : 0 ≤ win) (hw1 : win ≤ 18446744073709551615) (a0 : Option Addr) (len0 cap0 : Nat) (z0 : List (List Value)) (s0 : ArgSl w0 [.int .u64, .int .u64, .bool] a0 len0 z0) :
    Calls Try.prog 9 #[.int .u64 win, .slice a0 len0 cap0] w0 (LawR w0) := by
  have hlen := s0.small
  have hS := Sep.start w0 []
  unfold LawR
  go_enter Try.func9, Try.ntmps9
  go_wp2_with (first | go_skip | (refine ck_load hS rfl rfl rfl (by repeat (first | exact List.Mem.head _ | apply List.Mem.tail)) rfl (by decide +kernel) ?_; simp only [Act.put, List.setIfInBounds_toArray, List.set_cons_zero, List.set_cons_succ]) | (refine ck_store hS rfl rfl rfl (by constructor) (by repeat (first | exact Upd.here _ _ _ | apply Upd.there)) (by simp <;> omega) rfl (by decide +kernel) ?_; clear hS; intro w hS; simp only [Act.put, List.setIfInBounds_toArray, List.set_cons_zero, List.set_cons_succ] at hS ⊢) | (refine ck_box hS rfl rfl (by constructor) ?_; clear hS; intro nb w hS; simp only [Act.put, List.setIfInBounds_toArray, List.set_cons_zero, List.set_cons_succ]) | (refine ck_max rfl rfl rfl rfl ?_; simp only [Act.put, List.setIfInBounds_toArray, List.set_cons_zero, List.set_cons_succ]) | (refine ck_min rfl rfl rfl rfl ?_; simp only [Act.put, List.setIfInBounds_toArray, List.set_cons_zero, List.set_cons_succ]) | (go_at_call 18; with_reducible refine Ct.callN (minNew_ct _) hS ?_; clear hS; rintro _ _ w ⟨b, rfl, rfl⟩ hS; simp only [List.cons_append, List.nil_append] at hS) | (go_at_call 10; with_reducible refine Ct.callN (maxNew_ct _) hS ?_; clear hS; rintro _ _ w ⟨c, rfl, rfl⟩ hS; simp only [List.cons_append, List.nil_append] at hS) | (go_at_call 19; with_reducible refine Ct.call0 (awake09_ct) hS ?_; clear hS; intro w hS) | (refine ck_region (fun _ => 0) (fun _ => []) [] hS (by kernel_rfl) (by decide +kernel) ?_ ?_; exact ⟨fun _ _ _ h => h.2, fun _ _ h => h⟩; clear hS; intro w hS _; (repeat (first | (refine ckT_max rfl rfl rfl rfl ?_; simp only [Act.put, List.setIfInBounds_toArray, List.set_cons_zero, List.set_cons_succ]) | (refine ckT_min rfl rfl rfl rfl ?_; simp only [Act.put, List.setIfInBounds_toArray, List.set_cons_zero, List.set_cons_succ]) | (apply wpT_pure rfl rfl; (intro _; go_simp; (try (go_ints; (try go_simp))); (first | (rw [decide_eq_true]; omega) | (rw [decide_eq_false]; omega) | rfl)); simp only [Act.put, List.setIfInBounds_toArray, List.set_cons_zero, List.set_cons_succ]) | (refine ckT_load hS rfl rfl rfl (by simp) (by repeat (first | exact List.Mem.head _ | apply List.Mem.tail)) rfl (by decide +kernel) ?_; simp only [Act.put, List.setIfInBounds_toArray, List.set_cons_zero, List.set_cons_succ]) | (refine ckT_store hS rfl rfl rfl (by constructor) (by repeat (first | exact Upd.here _ _ _ | apply Upd.there)) (by simp) rfl (by decide +kernel) (by simp) ?_; clear hS; intro w hS; simp only [Act.put, List.setIfInBounds_toArray, List.set_cons_zero, List.set_cons_succ] at hS ⊢) | (refine wpT_skip rfl ?_; simp only [Act.put, List.setIfInBounds_toArray, List.set_cons_zero, List.set_cons_succ]) )); refine wpT_nil ?_))
  go_loopg [7] 101 (fun g s wx => ∃ (k : Nat) (S : WS) (last : Int), k + g = 101 ∧ k ≤ len0 ∧ s = .int .i64 k ∧ wsOk S last ∧ wsV S ∧ Sep w0 [] [maxR c win (turn S).t0 (turn S).v0 (turn S).t1 (turn S).v1 (turn S).t2 (turn S).v2 last, minR b win S.t0 S.v0 S.t1 S.v1 S.t2 S.v2 last] wx)
  case atStart => exact ⟨0, ⟨0, 18446744073709551615, 0, 18446744073709551615, 0, 18446744073709551615⟩, 0, by omega, by omega, rfl, by unfold wsOk; dsimp only; omega, by unfold wsV; dsimp only; omega, hS⟩
  case round =>
    obtain ⟨k, S, last, hkg, hkl, rfl, hok, hv, hS⟩ := hrel
    generalize wr = w at hS ⊢
    have hok0 := hok
    obtain ⟨l0, l1, l2, l3, l4, l5, l6, l7⟩ := hok
    by_cases hk : k < len0 ∧ k < 100
    · obtain ⟨hk1, hk2⟩ := hk
      obtain ⟨sb, off, cs, T, fz, ot, ov, rs, rfl, hb, hh, hc, r1, r2⟩ := s0.op3 hk1
      have c0 : cs[off + k * 3]? = some (.int .u64 ot) := by have := hc 0 (by omega); simpa using this
      have c1 : cs[off + k * 3 + 1]? = some (.int .u64 ov) := by have := hc 1 (by omega); simpa using this
      clear s0 hc
      obtain ⟨S', hS'⟩ : ∃ S', wsUn win S (max last ot) ov = S' := ⟨_, rfl⟩
      have hok' : wsOk S' (max last ot) := hS' ▸ wsUn_ok hok0 (by omega) (by omega)
      have hv' : wsV S' := hS' ▸ wsUn_v hv r2.1 r2.2
      have kU := minUpdTo_ct b win S.t0 S.v0 S.t1 S.v1 S.t2 S.v2 last ot ov S' (max last ot) hS' rfl hw0 hw1 l0 l1 r1.1 r1.2 l2 l4 l6
      have hT : wsU win (turn S) (max last ot) (18446744073709551615 - ov) = turn S' := by rw [turn_U, hS']
      have kV := maxUpdTo_ct c win (turn S).t0 (turn S).v0 (turn S).t1 (turn S).v1 (turn S).t2 (turn S).v2 last ot (18446744073709551615 - ov) (turn S') (max last ot) hT rfl hw0 hw1 l0 l1 r1.1 r1.2 l2 l4 l6
      have e1 : 18446744073709551615 - (turn S').v0 = S'.v0 := by unfold turn; dsimp only; omega
      have e2 : 0 ≤ (turn S').v0 ∧ (turn S').v0 ≤ 18446744073709551615 := by unfold turn; dsimp only; obtain ⟨h, _⟩ := hv'; omega
      obtain ⟨e20, e21⟩ := e2
      clear hS' hT hok0 hv
      go_wp2_with (first | go_skip | (refine ck_load hS rfl rfl rfl (by repeat (first | exact List.Mem.head _ | apply List.Mem.tail)) rfl (by decide +kernel) ?_; simp only [Act.put, List.setIfInBounds_toArray, List.set_cons_zero, List.set_cons_succ]) | (refine ck_store hS rfl rfl rfl (by constructor) (by repeat (first | exact Upd.here _ _ _ | apply Upd.there)) (by simp <;> omega) rfl (by decide +kernel) ?_; clear hS; intro w hS; simp only [Act.put, List.setIfInBounds_toArray, List.set_cons_zero, List.set_cons_succ] at hS ⊢) | (refine ck_box hS rfl rfl (by constructor) ?_; clear hS; intro nb w hS; simp only [Act.put, List.setIfInBounds_toArray, List.set_cons_zero, List.set_cons_succ]) | (refine ck_max rfl rfl rfl rfl ?_; simp only [Act.put, List.setIfInBounds_toArray, List.set_cons_zero, List.set_cons_succ]) | (refine ck_min rfl rfl rfl rfl ?_; simp only [Act.put, List.setIfInBounds_toArray, List.set_cons_zero, List.set_cons_succ]) | (refine ck_region (fun _ => sb) (fun i => if i = 11 then [17, 22] else []) ([17, 22]) hS (by kernel_rfl) (by decide +kernel) ?_ ?_; exact ⟨fun _ _ _ h => h.2, fun _ _ h => h⟩; clear hS; intro w hS _; (repeat (first | (refine ckT_max rfl rfl rfl rfl ?_; simp only [Act.put, List.setIfInBounds_toArray, List.set_cons_zero, List.set_cons_succ]) | (refine ckT_min rfl rfl rfl rfl ?_; simp only [Act.put, List.setIfInBounds_toArray, List.set_cons_zero, List.set_cons_succ]) | (apply wpT_pure rfl rfl; (intro _; go_simp; (try (go_ints; (try go_simp))); (first | (rw [decide_eq_true]; omega) | (rw [decide_eq_false]; omega) | rfl)); simp only [Act.put, List.setIfInBounds_toArray, List.set_cons_zero, List.set_cons_succ]) | (refine ckT_load hS rfl rfl rfl (by simp) (by repeat (first | exact List.Mem.head _ | apply List.Mem.tail)) rfl (by decide +kernel) ?_; simp only [Act.put, List.setIfInBounds_toArray, List.set_cons_zero, List.set_cons_succ]) | (refine ckT_store hS rfl rfl rfl (by constructor) (by repeat (first | exact Upd.here _ _ _ | apply Upd.there)) (by simp) rfl (by decide +kernel) (by simp) ?_; clear hS; intro w hS; simp only [Act.put, List.setIfInBounds_toArray, List.set_cons_zero, List.set_cons_succ] at hS ⊢) | (refine wpT_skip rfl ?_; simp only [Act.put, List.setIfInBounds_toArray, List.set_cons_zero, List.set_cons_succ]) | (refine ckT_loadOld hS rfl rfl rfl (by simp) hb hh c0 (by decide +kernel) ?_; simp only [Act.put, List.setIfInBounds_toArray, List.set_cons_zero, List.set_cons_succ]) | (refine ckT_loadOld hS rfl rfl rfl (by simp) hb hh c1 (by decide +kernel) ?_; simp only [Act.put, List.setIfInBounds_toArray, List.set_cons_zero, List.set_cons_succ]) | ((refine ckT_callU hS rfl (kU) (by repeat (first | exact Upd.here _ _ _ | apply Upd.there)) rfl (by kernel_rfl) rfl (by intro j hj; simp at hj <;> (first | (subst hj; exact Or.inl ⟨hb, by simp⟩) | (rcases hj with rfl | rfl <;> exact Or.inl ⟨hb, by simp⟩) | (rcases hj with rfl | rfl | rfl <;> exact Or.inl ⟨hb, by simp⟩) | (rcases hj with rfl | rfl | rfl | rfl <;> exact Or.inl ⟨hb, by simp⟩))) ?_) <;> (first | (clear hS; intro w hS) | omega); simp only [Act.put, List.setIfInBounds_toArray, List.set_cons_zero, List.set_cons_succ]) | ((refine ckT_callU hS rfl (kV) (by repeat (first | exact Upd.here _ _ _ | apply Upd.there)) rfl (by kernel_rfl) rfl (by simp) ?_) <;> (first | (clear hS; intro w hS) | omega); simp only [Act.put, List.setIfInBounds_toArray, List.set_cons_zero, List.set_cons_succ]))); refine wpT_nil ?_) | (refine ck_region (fun _ => 0) (fun _ => []) [] hS (by kernel_rfl) (by decide +kernel) ?_ ?_; exact ⟨fun _ _ _ h => h.2, fun _ _ h => h⟩; clear hS; intro w hS _; (repeat (first | (refine ckT_max rfl rfl rfl rfl ?_; simp only [Act.put, List.setIfInBounds_toArray, List.set_cons_zero, List.set_cons_succ]) | (refine ckT_min rfl rfl rfl rfl ?_; simp only [Act.put, List.setIfInBounds_toArray, List.set_cons_zero, List.set_cons_succ]) | (apply wpT_pure rfl rfl; (intro _; go_simp; (try (go_ints; (try go_simp))); (first | (rw [decide_eq_true]; omega) | (rw [decide_eq_false]; omega) | rfl)); simp only [Act.put, List.setIfInBounds_toArray, List.set_cons_zero, List.set_cons_succ]) | (refine ckT_load hS rfl rfl rfl (by simp) (by repeat (first | exact List.Mem.head _ | apply List.Mem.tail)) rfl (by decide +kernel) ?_; simp only [Act.put, List.setIfInBounds_toArray, List.set_cons_zero, List.set_cons_succ]) | (refine ckT_store hS rfl rfl rfl (by constructor) (by repeat (first | exact Upd.here _ _ _ | apply Upd.there)) (by simp) rfl (by decide +kernel) (by simp) ?_; clear hS; intro w hS; simp only [Act.put, List.setIfInBounds_toArray, List.set_cons_zero, List.set_cons_succ] at hS ⊢) | (refine wpT_skip rfl ?_; simp only [Act.put, List.setIfInBounds_toArray, List.set_cons_zero, List.set_cons_succ]) )); refine wpT_nil ?_))
      go_roundg (100 - k)
      case rel => exact ⟨k + 1, S', _, by omega, by omega, by go_num, hok', hv', hS⟩
      case measure => omega
    · clear s0
      by_cases hk1 : k < len0
      all_goals
        go_wp2_with (first | go_skip | (refine ck_load hS rfl rfl rfl (by repeat (first | exact List.Mem.head _ | apply List.Mem.tail)) rfl (by decide +kernel) ?_; simp only [Act.put, List.setIfInBounds_toArray, List.set_cons_zero, List.set_cons_succ]) | (refine ck_store hS rfl rfl rfl (by constructor) (by repeat (first | exact Upd.here _ _ _ | apply Upd.there)) (by simp <;> omega) rfl (by decide +kernel) ?_; clear hS; intro w hS; simp only [Act.put, List.setIfInBounds_toArray, List.set_cons_zero, List.set_cons_succ] at hS ⊢) | (refine ck_box hS rfl rfl (by constructor) ?_; clear hS; intro nb w hS; simp only [Act.put, List.setIfInBounds_toArray, List.set_cons_zero, List.set_cons_succ]) | (refine ck_max rfl rfl rfl rfl ?_; simp only [Act.put, List.setIfInBounds_toArray, List.set_cons_zero, List.set_cons_succ]) | (refine ck_min rfl rfl rfl rfl ?_; simp only [Act.put, List.setIfInBounds_toArray, List.set_cons_zero, List.set_cons_succ]) | (go_at_call 21; with_reducible refine Ct.call0 (minUpdZ_ct _ _) hS ?_; clear hS; intro w hS) | (go_at_call 22; with_reducible refine Ct.call0 (minBestZ_ct) hS ?_; clear hS; intro w hS) | (refine ck_region (fun _ => 0) (fun _ => []) [] hS (by kernel_rfl) (by decide +kernel) ?_ ?_; exact ⟨fun _ _ _ h => h.2, fun _ _ h => h⟩; clear hS; intro w hS _; (repeat (first | (refine ckT_max rfl rfl rfl rfl ?_; simp only [Act.put, List.setIfInBounds_toArray, List.set_cons_zero, List.set_cons_succ]) | (refine ckT_min rfl rfl rfl rfl ?_; simp only [Act.put, List.setIfInBounds_toArray, List.set_cons_zero, List.set_cons_succ]) | (apply wpT_pure rfl rfl; (intro _; go_simp; (try (go_ints; (try go_simp))); (first | (rw [decide_eq_true]; omega) | (rw [decide_eq_false]; omega) | rfl)); simp only [Act.put, List.setIfInBounds_toArray, List.set_cons_zero, List.set_cons_succ]) | (refine ckT_load hS rfl rfl rfl (by simp) (by repeat (first | exact List.Mem.head _ | apply List.Mem.tail)) rfl (by decide +kernel) ?_; simp only [Act.put, List.setIfInBounds_toArray, List.set_cons_zero, List.set_cons_succ]) | (refine ckT_store hS rfl rfl rfl (by constructor) (by repeat (first | exact Upd.here _ _ _ | apply Upd.there)) (by simp) rfl (by decide +kernel) (by simp) ?_; clear hS; intro w hS; simp only [Act.put, List.setIfInBounds_toArray, List.set_cons_zero, List.set_cons_succ] at hS ⊢) | (refine wpT_skip rfl ?_; simp only [Act.put, List.setIfInBounds_toArray, List.set_cons_zero, List.set_cons_succ]) )); refine wpT_nil ?_))
        go_ret
        exact ⟨[], rfl, hS.dropN 100⟩
namespace winminTurned
open Go.ChangeShapes Go.WideShapes Go.ChangeAt Go.RowKit
open Go.ChangeMaps (open_string shut_string)
theorem own : ownKnob Try.prog.godebug = none := by kernel_rfl
theorem laidOut : laidOutB Try.prog = true := by kernel_rfl
set_option maxRecDepth 100000 in
theorem lifted (os : Os) (started : os.Started) (H : Type) (enc : TypeId × Value → H) :
    ReturnsInHanded {} Try.checked os 9 .any (Rows.winminTurnedSpec.pre6 enc Try.prog Try.f9 Rows.winminTurnedRow.domain false) (Rows.winminTurnedSpec.post enc Try.prog Try.f9 false true false false) := by
  refine returnsInHanded_of_change (C := Try.checked) own started (by kernel_rfl) Try.func9
    (ChangeSpec.witness6 (enc := enc) (C := Try.checked) false ⟨#[], #[.int .u64 0, .slice none 0 0], []⟩ 8 (by kernel_rfl) (by kernel_rfl) (by kernel_rfl) (by kernel_rfl)) ?_
  intro W base args ds gs before hval0 hW hcnd _
  have hval : ∀ (j : Nat) t v, Try.f9.params[j]? = some t → args[j]? = some v → Value.okWide Try.prog W .any base t v := hval0
  have hW' := hW
  obtain ⟨p, q, hA0, hV, rfl, hfz, hnd⟩ := hW
  have hA : DataW.TrodAll enc Try.prog W 0 (fun _ => true) true Try.f9.params.toList args.toList ds p := hA0
  rw [Try.params9] at hA hval
  obtain ⟨v0, vs0, d0, ds0, p0, q0, hargs, rfl, rfl, h0, r0⟩ := trodAll_cons hA
  obtain ⟨v1, vs1, d1, ds1, p1, q1, rfl, rfl, rfl, h1, r1⟩ := trodAll_cons r0
  obtain ⟨rfl, rfl, rfl⟩ := trodAll_nil r1
  obtain rfl : args = #[v0, v1] := by cases args; simp_all
  obtain ⟨rfl, rfl⟩ := trodVars_none hV
  obtain ⟨a0, rfl, rfl, rfl, w0⟩ := open_int Try.underlying22 (hval 0 22 v0 rfl rfl) h0
  obtain ⟨a1, len1, cap1, rfl⟩ := okWide_slice Try.underlying43 (hval 1 43 v1 rfl rfl)
  have k1 := h1
  have lt1 : ∀ x ∈ p1, x.block < W.heap.size := by obtain ⟨m, hm⟩ := k1; exact DataW.trod_lt m _ _ _ hm
  obtain ⟨z1, s1⟩ : ∃ zs, ArgSl W [(.int .u64), (.int .u64), .bool] a1 len1 zs := by
    obtain ⟨fuel, hf⟩ := h1
    exact open_argsl Try.underlying43 Try.underlying46 (by kernel_rfl) (by kernel_rfl) (by kernel_rfl) (by simp) hf
  clear hA0 hval0
  refine (winminTurned_walk W a0 (wf_u64 w0).1 (wf_u64 w0).2 a1 len1 cap1 z1 s1).mono fun e W' hR => ?_
  obtain ⟨he, bel⟩ := LawR.out hR
  subst he
  exact ⟨_, rfl, _, _, _, [], _, [], hW', trodAll_mk1 (shut_bool Try.underlying4 _), (trodAll_cons_mk (shut_int Try.underlying22 w0) (trodAll_cons_mk (Below.trod laidOut (by kernel_rfl) (of_decide_eq_true (by kernel_rfl)) k1 bel lt1) trodAll_mk0)), rfl, bel.frame _, fun h => by cases h⟩
theorem over : Rows.winminTurnedRow.holds Try.pinned (OpenSpec.ofChange Rows.winminTurnedSpec) :=
  OpenClaim.holds_of_wide 9 Try.f9 rfl rfl rfl rfl rfl rfl rfl ⟨rfl, rfl, rfl, rfl, rfl⟩ rfl rfl rfl rfl rfl (by kernel_rfl) Try.func9 (by kernel_rfl)
    (of_decide_eq_true (by kernel_rfl)) (by unfold Func.isWrapper; first | (rw [if_pos (by decide +kernel)]; kernel_rfl) | (rw [if_neg (by decide +kernel)]; exact ⟨rfl, rfl⟩))
    (fun os started H enc _ => lifted os started H enc)
theorem proved : Rows.WinminTurnedSaid := over
#print axioms proved
end winminTurned
end Go.Proofs.Ytjamnhdgekccnaa
