/- LedgerSums: for all numbers and every list of fates the law answers true; no condition. -/
import Derived.Test.YtiellldikfobbaaLedgerLaws
import Derived.WalkKit
import Derived.WalkSpells
import Derived.WalkLawsBesides
import Derived.WalkMore
import Derived.Deep.LoopGhost
set_option linter.unusedVariables false
set_option linter.unusedSimpArgs false
namespace Go.Proofs.Ytiellldikfobbaa
open Go.RowKit
theorem zeroB_get {s : Nat} (hs : s < 8) (c : List Int) : (zeroB.set s c)[s]? = some c := by simp [zeroB, hs]
theorem zeroB_eights {s : Nat} {c : List Int} (hc : c.length = 8) : Eights (zeroB.set s c) := eights_zero.set hc
theorem zeroB_zero' : ∀ s, s < 8 → zeroB.set s [0, 0, 0, 0, 0, 0, 0, 0] = zeroB := by unfold zeroB; decide
theorem zeroB_zero {s : Nat} (hs : s < 8) : zeroB.set s [0, 0, 0, 0, 0, 0, 0, 0] = zeroB := zeroB_zero' s hs
theorem ledgerOkTo_ct (b : Nat) (B B' : List (List Int)) (s f : Nat) (hs : s < 8) (hf0 : 1 ≤ f) (hf1 : f ≤ 5) (h : Eights B) (c : List Int) (hc : B[s]? = some c) (q x : Int) (hq : c[7]? = some q) (hx : c[1 + f]? = some x) (q0 : 1 ≤ q) (q1 : q ≤ 1000000) (x0 : 0 ≤ x) (x1 : x ≤ 1000000) (e : B.set s ((c.set 7 (q - 1)).set (1 + f) (x + 1)) = B') :
    Ct Try.prog 8 #[.pointer (some ⟨b, 0, none⟩), .int .i64 s, .int .i64 f] [ledR b B] (Gives (.int .i64 0) [ledR b B']) := by
  subst e; exact ledgerNoteOk_ct b B s f hs hf0 hf1 h c hc q x hq hx q0 q1 x0 x1
set_option maxRecDepth 8000 in
set_option maxHeartbeats 8000000 in
theorem ledgerSums_walk (w0 : World) (a0 : Int) (l0 : -9223372036854775808 ≤ a0) (u0 : a0 ≤ 9223372036854775807) (a1 : Int) (l1 : -9223372036854775808 ≤ a1) (u1 : a1 ≤ 9223372036854775807) (fa : Option Addr) (flen fcap : Nat) (fz0 : List (List Value)) (fs : ArgSl w0 [.int .i64] fa flen fz0) :
    Calls Try.prog 5 #[.int .i64 a0, .int .i64 a1, .slice fa flen fcap] w0 (LawR w0) := by
  have hlen := fs.small
  obtain ⟨u, hu, hu0, hu1⟩ := u64_any a0
  obtain ⟨p, hp, hp0, hp1⟩ := mod_any u 8 (by omega)
  obtain ⟨s, rfl⟩ : ∃ s : Nat, p = s := ⟨p.toNat, by omega⟩
  obtain ⟨v, hv, hv0, hv1⟩ := u64_any a1
  obtain ⟨q, hq, hq0, hq1⟩ := mod_any v 40 (by omega)
  obtain ⟨n, rfl⟩ : ∃ n : Nat, q = n := ⟨q.toNat, by omega⟩
  have hs : s < 8 := by omega
  have hn : n < 40 := by omega
  clear l0 u0 l1 u1
  have hS := Sep.start w0 []
  unfold LawR
  go_enter Try.func5, Try.ntmps5
  go_wp2_with (first | go_skip | (refine ck_load hS rfl rfl rfl (by repeat (first | exact List.Mem.head _ | apply List.Mem.tail)) rfl (by decide +kernel) ?_; simp only [Act.put, List.setIfInBounds_toArray, List.set_cons_zero, List.set_cons_succ]) | (refine ck_store hS rfl rfl rfl (by constructor) (by repeat (first | exact Upd.here _ _ _ | apply Upd.there)) (by simp <;> omega) rfl (by decide +kernel) ?_; clear hS; intro w hS; simp only [Act.put, List.setIfInBounds_toArray, List.set_cons_zero, List.set_cons_succ] at hS ⊢) | (refine ck_box hS rfl rfl (by constructor) ?_; clear hS; intro nb w hS; simp only [Act.put, List.setIfInBounds_toArray, List.set_cons_zero, List.set_cons_succ]) | (refine ck_max rfl rfl rfl rfl ?_; simp only [Act.put, List.setIfInBounds_toArray, List.set_cons_zero, List.set_cons_succ]) | (refine ck_min rfl rfl rfl rfl ?_; simp only [Act.put, List.setIfInBounds_toArray, List.set_cons_zero, List.set_cons_succ]) | (go_at_call 6; with_reducible refine Ct.callN (ledgerNew_ct) hS ?_; clear hS; rintro _ _ w ⟨b, rfl, rfl⟩ hS; simp only [List.cons_append, List.nil_append] at hS) | (go_at_call 7; with_reducible refine Ct.call0 (awake07_ct) hS ?_; clear hS; intro w hS) | (refine ck_region (fun _ => 0) (fun _ => []) [] hS (by kernel_rfl) (by decide +kernel) ?_ ?_; exact ⟨fun _ _ _ h => h.2, fun _ _ h => h⟩; clear hS; intro w hS _; (repeat (first | (refine ckT_max rfl rfl rfl rfl ?_; simp only [Act.put, List.setIfInBounds_toArray, List.set_cons_zero, List.set_cons_succ]) | (refine ckT_min rfl rfl rfl rfl ?_; simp only [Act.put, List.setIfInBounds_toArray, List.set_cons_zero, List.set_cons_succ]) | (apply wpT_pure rfl rfl; (intro _; go_simp; (try (go_ints; (try go_simp))); (first | (rw [decide_eq_true]; omega) | (rw [decide_eq_false]; omega) | rfl)); simp only [Act.put, List.setIfInBounds_toArray, List.set_cons_zero, List.set_cons_succ]) | (refine ckT_load hS rfl rfl rfl (by simp) (by repeat (first | exact List.Mem.head _ | apply List.Mem.tail)) rfl (by decide +kernel) ?_; simp only [Act.put, List.setIfInBounds_toArray, List.set_cons_zero, List.set_cons_succ]) | (refine ckT_store hS rfl rfl rfl (by constructor) (by repeat (first | exact Upd.here _ _ _ | apply Upd.there)) (by simp) rfl (by decide +kernel) (by simp) ?_; clear hS; intro w hS; simp only [Act.put, List.setIfInBounds_toArray, List.set_cons_zero, List.set_cons_succ] at hS ⊢) | (refine wpT_skip rfl ?_; simp only [Act.put, List.setIfInBounds_toArray, List.set_cons_zero, List.set_cons_succ]) )); refine wpT_nil ?_))
  clear hu hp hv hq
  go_loopg [8] 41 (fun g s8 wx => ∃ k : Nat, k + g = 41 ∧ k ≤ n ∧ s8 = .int .i64 k ∧ Sep w0 [] [ledR b (zeroB.set s [0, k, 0, 0, 0, 0, 0, k])] wx)
  case atStart => exact ⟨0, by omega, by omega, rfl, by have e0 : ((0 : Nat) : Int) = 0 := rfl; rw [e0, zeroB_zero hs]; exact hS⟩
  case round =>
    obtain ⟨k, hkg, hkn, rfl, hS⟩ := hrel
    generalize wr = w at hS ⊢
    by_cases hk : k < n
    · have kN := ledgerAccTo_ct b (zeroB.set s [0, k, 0, 0, 0, 0, 0, k]) (zeroB.set s [0, (k : Int) + 1, 0, 0, 0, 0, 0, (k : Int) + 1]) s hs (zeroB_eights rfl) [0, k, 0, 0, 0, 0, 0, k] (zeroB_get hs _) k k rfl rfl (by omega) (by omega) (by omega) (by omega) (by rw [List.set_set]; rfl)
      go_wp2_with (first | go_skip | (refine ck_load hS rfl rfl rfl (by repeat (first | exact List.Mem.head _ | apply List.Mem.tail)) rfl (by decide +kernel) ?_; simp only [Act.put, List.setIfInBounds_toArray, List.set_cons_zero, List.set_cons_succ]) | (refine ck_store hS rfl rfl rfl (by constructor) (by repeat (first | exact Upd.here _ _ _ | apply Upd.there)) (by simp <;> omega) rfl (by decide +kernel) ?_; clear hS; intro w hS; simp only [Act.put, List.setIfInBounds_toArray, List.set_cons_zero, List.set_cons_succ] at hS ⊢) | (refine ck_box hS rfl rfl (by constructor) ?_; clear hS; intro nb w hS; simp only [Act.put, List.setIfInBounds_toArray, List.set_cons_zero, List.set_cons_succ]) | (refine ck_max rfl rfl rfl rfl ?_; simp only [Act.put, List.setIfInBounds_toArray, List.set_cons_zero, List.set_cons_succ]) | (refine ck_min rfl rfl rfl rfl ?_; simp only [Act.put, List.setIfInBounds_toArray, List.set_cons_zero, List.set_cons_succ]) | (go_at_call 8; (with_reducible refine Ct.callU (kN) (by repeat (first | exact Upd.here _ _ _ | apply Upd.there)) hS ?_) <;> (first | (clear hS; intro w hS) | omega)) | (refine ck_region (fun _ => 0) (fun _ => []) [] hS (by kernel_rfl) (by decide +kernel) ?_ ?_; exact ⟨fun _ _ _ h => h.2, fun _ _ h => h⟩; clear hS; intro w hS _; (repeat (first | (refine ckT_max rfl rfl rfl rfl ?_; simp only [Act.put, List.setIfInBounds_toArray, List.set_cons_zero, List.set_cons_succ]) | (refine ckT_min rfl rfl rfl rfl ?_; simp only [Act.put, List.setIfInBounds_toArray, List.set_cons_zero, List.set_cons_succ]) | (apply wpT_pure rfl rfl; (intro _; go_simp; (try (go_ints; (try go_simp))); (first | (rw [decide_eq_true]; omega) | (rw [decide_eq_false]; omega) | rfl)); simp only [Act.put, List.setIfInBounds_toArray, List.set_cons_zero, List.set_cons_succ]) | (refine ckT_load hS rfl rfl rfl (by simp) (by repeat (first | exact List.Mem.head _ | apply List.Mem.tail)) rfl (by decide +kernel) ?_; simp only [Act.put, List.setIfInBounds_toArray, List.set_cons_zero, List.set_cons_succ]) | (refine ckT_store hS rfl rfl rfl (by constructor) (by repeat (first | exact Upd.here _ _ _ | apply Upd.there)) (by simp) rfl (by decide +kernel) (by simp) ?_; clear hS; intro w hS; simp only [Act.put, List.setIfInBounds_toArray, List.set_cons_zero, List.set_cons_succ] at hS ⊢) | (refine wpT_skip rfl ?_; simp only [Act.put, List.setIfInBounds_toArray, List.set_cons_zero, List.set_cons_succ]) )); refine wpT_nil ?_))
      go_roundg (40 - k)
      case rel => exact ⟨k + 1, by omega, by omega, by go_num, by have e : ((k + 1 : Nat) : Int) = (k : Int) + 1 := by omega
                                                                  rw [e]; exact hS⟩
      case measure => omega
    · have hk' : k = n := by omega
      subst hk'
      go_wp2_with (first | go_skip | (refine ck_load hS rfl rfl rfl (by repeat (first | exact List.Mem.head _ | apply List.Mem.tail)) rfl (by decide +kernel) ?_; simp only [Act.put, List.setIfInBounds_toArray, List.set_cons_zero, List.set_cons_succ]) | (refine ck_store hS rfl rfl rfl (by constructor) (by repeat (first | exact Upd.here _ _ _ | apply Upd.there)) (by simp <;> omega) rfl (by decide +kernel) ?_; clear hS; intro w hS; simp only [Act.put, List.setIfInBounds_toArray, List.set_cons_zero, List.set_cons_succ] at hS ⊢) | (refine ck_box hS rfl rfl (by constructor) ?_; clear hS; intro nb w hS; simp only [Act.put, List.setIfInBounds_toArray, List.set_cons_zero, List.set_cons_succ]) | (refine ck_max rfl rfl rfl rfl ?_; simp only [Act.put, List.setIfInBounds_toArray, List.set_cons_zero, List.set_cons_succ]) | (refine ck_min rfl rfl rfl rfl ?_; simp only [Act.put, List.setIfInBounds_toArray, List.set_cons_zero, List.set_cons_succ])  | (refine ck_region (fun _ => 0) (fun _ => []) [] hS (by kernel_rfl) (by decide +kernel) ?_ ?_; exact ⟨fun _ _ _ h => h.2, fun _ _ h => h⟩; clear hS; intro w hS _; (repeat (first | (refine ckT_max rfl rfl rfl rfl ?_; simp only [Act.put, List.setIfInBounds_toArray, List.set_cons_zero, List.set_cons_succ]) | (refine ckT_min rfl rfl rfl rfl ?_; simp only [Act.put, List.setIfInBounds_toArray, List.set_cons_zero, List.set_cons_succ]) | (apply wpT_pure rfl rfl; (intro _; go_simp; (try (go_ints; (try go_simp))); (first | (rw [decide_eq_true]; omega) | (rw [decide_eq_false]; omega) | rfl)); simp only [Act.put, List.setIfInBounds_toArray, List.set_cons_zero, List.set_cons_succ]) | (refine ckT_load hS rfl rfl rfl (by simp) (by repeat (first | exact List.Mem.head _ | apply List.Mem.tail)) rfl (by decide +kernel) ?_; simp only [Act.put, List.setIfInBounds_toArray, List.set_cons_zero, List.set_cons_succ]) | (refine ckT_store hS rfl rfl rfl (by constructor) (by repeat (first | exact Upd.here _ _ _ | apply Upd.there)) (by simp) rfl (by decide +kernel) (by simp) ?_; clear hS; intro w hS; simp only [Act.put, List.setIfInBounds_toArray, List.set_cons_zero, List.set_cons_succ] at hS ⊢) | (refine wpT_skip rfl ?_; simp only [Act.put, List.setIfInBounds_toArray, List.set_cons_zero, List.set_cons_succ]) )); refine wpT_nil ?_))
      go_loopg [9, 10] 61 (fun g s9 s10 wx => ∃ (j : Nat) (lf x1 x2 x3 x4 x5 : Int), j + g = 61 ∧ j ≤ flen ∧ s10 = .int .i64 j ∧ s9 = .int .i64 lf ∧ 0 ≤ lf ∧ (0 ≤ x1 ∧ 0 ≤ x2 ∧ 0 ≤ x3 ∧ 0 ≤ x4 ∧ 0 ≤ x5) ∧ ((k : Int) ≤ lf + x1 + x2 + x3 + x4 + x5 ∧ lf + x1 + x2 + x3 + x4 + x5 ≤ k) ∧ Sep w0 [] [ledR b (zeroB.set s [0, k, x1, x2, x3, x4, x5, lf])] wx)
      case atStart => exact ⟨0, k, 0, 0, 0, 0, 0, by omega, by omega, rfl, rfl, by omega, by omega, by omega, hS⟩
      case round =>
        obtain ⟨j, lf, x1, x2, x3, x4, x5, hjg, hjl, rfl, rfl, hlf, ⟨y1, y2, y3, y4, y5⟩, ⟨hsa, hsb⟩, hS⟩ := hrel
        generalize wr = w at hS ⊢
        by_cases hj : j < flen ∧ j < 60
        · obtain ⟨hj1, hj2⟩ := hj
          obtain ⟨sb, off, cs, T, fz, x, rfl, hb, hh, hc0, -, -⟩ := fs.int1 hj1
          clear fs
          obtain ⟨v, hv, hv0, hv1⟩ := u64_any x
          obtain ⟨q, hq, hq0, hq1⟩ := mod_any v 5 (by omega)
          obtain ⟨f, hf⟩ : ∃ f : Nat, 1 + q = f := ⟨(1 + q).toNat, by omega⟩
          have hf0 : 1 ≤ f := by omega
          have hf1 : f ≤ 5 := by omega
          by_cases hz : lf = 0
          · subst hz
            have kN := ledgerNoteNone_ct b (zeroB.set s [0, k, x1, x2, x3, x4, x5, 0]) s f hs hf0 hf1 (zeroB_eights rfl) [0, k, x1, x2, x3, x4, x5, 0] (zeroB_get hs _) rfl
            have hmx : max (0 : Int) (-1) = 0 := rfl
            go_wp2_with (first | go_skip | (refine ck_load hS rfl rfl rfl (by repeat (first | exact List.Mem.head _ | apply List.Mem.tail)) rfl (by decide +kernel) ?_; simp only [Act.put, List.setIfInBounds_toArray, List.set_cons_zero, List.set_cons_succ]) | (refine ck_store hS rfl rfl rfl (by constructor) (by repeat (first | exact Upd.here _ _ _ | apply Upd.there)) (by simp <;> omega) rfl (by decide +kernel) ?_; clear hS; intro w hS; simp only [Act.put, List.setIfInBounds_toArray, List.set_cons_zero, List.set_cons_succ] at hS ⊢) | (refine ck_box hS rfl rfl (by constructor) ?_; clear hS; intro nb w hS; simp only [Act.put, List.setIfInBounds_toArray, List.set_cons_zero, List.set_cons_succ]) | (refine ck_max rfl rfl rfl rfl ?_; simp only [Act.put, List.setIfInBounds_toArray, List.set_cons_zero, List.set_cons_succ]) | (refine ck_min rfl rfl rfl rfl ?_; simp only [Act.put, List.setIfInBounds_toArray, List.set_cons_zero, List.set_cons_succ]) | (refine ck_loadOld hS rfl rfl rfl hb hh hc0 (by decide +kernel) ?_; simp only [Act.put, List.setIfInBounds_toArray, List.set_cons_zero, List.set_cons_succ]) | (go_at_call 8; (with_reducible refine Ct.callU (kN) (by repeat (first | exact Upd.here _ _ _ | apply Upd.there)) hS ?_) <;> (first | (clear hS; intro w hS) | omega)) | (refine ck_region (fun _ => 0) (fun _ => []) [] hS (by kernel_rfl) (by decide +kernel) ?_ ?_; exact ⟨fun _ _ _ h => h.2, fun _ _ h => h⟩; clear hS; intro w hS _; (repeat (first | (refine ckT_max rfl rfl rfl rfl ?_; simp only [Act.put, List.setIfInBounds_toArray, List.set_cons_zero, List.set_cons_succ]) | (refine ckT_min rfl rfl rfl rfl ?_; simp only [Act.put, List.setIfInBounds_toArray, List.set_cons_zero, List.set_cons_succ]) | (apply wpT_pure rfl rfl; (intro _; go_simp; (try (go_ints; (try go_simp))); (first | (rw [decide_eq_true]; omega) | (rw [decide_eq_false]; omega) | rfl)); simp only [Act.put, List.setIfInBounds_toArray, List.set_cons_zero, List.set_cons_succ]) | (refine ckT_load hS rfl rfl rfl (by simp) (by repeat (first | exact List.Mem.head _ | apply List.Mem.tail)) rfl (by decide +kernel) ?_; simp only [Act.put, List.setIfInBounds_toArray, List.set_cons_zero, List.set_cons_succ]) | (refine ckT_store hS rfl rfl rfl (by constructor) (by repeat (first | exact Upd.here _ _ _ | apply Upd.there)) (by simp) rfl (by decide +kernel) (by simp) ?_; clear hS; intro w hS; simp only [Act.put, List.setIfInBounds_toArray, List.set_cons_zero, List.set_cons_succ] at hS ⊢) | (refine wpT_skip rfl ?_; simp only [Act.put, List.setIfInBounds_toArray, List.set_cons_zero, List.set_cons_succ]) )); refine wpT_nil ?_))
            go_roundg (60 - j)
            case rel => exact ⟨j + 1, 0, x1, x2, x3, x4, x5, by omega, by omega, by go_num, rfl, by omega, ⟨y1, y2, y3, y4, y5⟩, ⟨hsa, hsb⟩, hS⟩
            case measure => omega
          · have hl1 : 1 ≤ lf := by omega
            have hmx : max 0 (lf - 1) = lf - 1 := by omega
            have kN : ∃ z1 z2 z3 z4 z5 : Int, (0 ≤ z1 ∧ 0 ≤ z2 ∧ 0 ≤ z3 ∧ 0 ≤ z4 ∧ 0 ≤ z5) ∧ ((k : Int) ≤ (lf - 1) + z1 + z2 + z3 + z4 + z5 ∧ (lf - 1) + z1 + z2 + z3 + z4 + z5 ≤ k) ∧ Ct Try.prog 8 #[.pointer (some ⟨b, 0, none⟩), .int .i64 s, .int .i64 f] [ledR b (zeroB.set s [0, k, x1, x2, x3, x4, x5, lf])] (Gives (.int .i64 0) [ledR b (zeroB.set s [0, k, z1, z2, z3, z4, z5, lf - 1])]) := by
              have hE : Eights (zeroB.set s [0, (k : Int), x1, x2, x3, x4, x5, lf]) := zeroB_eights rfl
              have hG := zeroB_get hs [0, (k : Int), x1, x2, x3, x4, x5, lf]
              match f, hf0, hf1 with
              | 1, _, _ => exact ⟨x1 + 1, x2, x3, x4, x5, by omega, by omega, ledgerOkTo_ct b _ _ s 1 hs (by omega) (by omega) hE _ hG lf x1 rfl rfl hl1 (by omega) y1 (by omega) (by rw [List.set_set]; rfl)⟩
              | 2, _, _ => exact ⟨x1, x2 + 1, x3, x4, x5, by omega, by omega, ledgerOkTo_ct b _ _ s 2 hs (by omega) (by omega) hE _ hG lf x2 rfl rfl hl1 (by omega) y2 (by omega) (by rw [List.set_set]; rfl)⟩
              | 3, _, _ => exact ⟨x1, x2, x3 + 1, x4, x5, by omega, by omega, ledgerOkTo_ct b _ _ s 3 hs (by omega) (by omega) hE _ hG lf x3 rfl rfl hl1 (by omega) y3 (by omega) (by rw [List.set_set]; rfl)⟩
              | 4, _, _ => exact ⟨x1, x2, x3, x4 + 1, x5, by omega, by omega, ledgerOkTo_ct b _ _ s 4 hs (by omega) (by omega) hE _ hG lf x4 rfl rfl hl1 (by omega) y4 (by omega) (by rw [List.set_set]; rfl)⟩
              | 5, _, _ => exact ⟨x1, x2, x3, x4, x5 + 1, by omega, by omega, ledgerOkTo_ct b _ _ s 5 hs (by omega) (by omega) hE _ hG lf x5 rfl rfl hl1 (by omega) y5 (by omega) (by rw [List.set_set]; rfl)⟩
            obtain ⟨z1, z2, z3, z4, z5, hz0, hz1, kN⟩ := kN
            go_wp2_with (first | go_skip | (refine ck_load hS rfl rfl rfl (by repeat (first | exact List.Mem.head _ | apply List.Mem.tail)) rfl (by decide +kernel) ?_; simp only [Act.put, List.setIfInBounds_toArray, List.set_cons_zero, List.set_cons_succ]) | (refine ck_store hS rfl rfl rfl (by constructor) (by repeat (first | exact Upd.here _ _ _ | apply Upd.there)) (by simp <;> omega) rfl (by decide +kernel) ?_; clear hS; intro w hS; simp only [Act.put, List.setIfInBounds_toArray, List.set_cons_zero, List.set_cons_succ] at hS ⊢) | (refine ck_box hS rfl rfl (by constructor) ?_; clear hS; intro nb w hS; simp only [Act.put, List.setIfInBounds_toArray, List.set_cons_zero, List.set_cons_succ]) | (refine ck_max rfl rfl rfl rfl ?_; simp only [Act.put, List.setIfInBounds_toArray, List.set_cons_zero, List.set_cons_succ]) | (refine ck_min rfl rfl rfl rfl ?_; simp only [Act.put, List.setIfInBounds_toArray, List.set_cons_zero, List.set_cons_succ]) | (refine ck_loadOld hS rfl rfl rfl hb hh hc0 (by decide +kernel) ?_; simp only [Act.put, List.setIfInBounds_toArray, List.set_cons_zero, List.set_cons_succ]) | (go_at_call 8; (with_reducible refine Ct.callU (kN) (by repeat (first | exact Upd.here _ _ _ | apply Upd.there)) hS ?_) <;> (first | (clear hS; intro w hS) | omega)) | (refine ck_region (fun _ => 0) (fun _ => []) [] hS (by kernel_rfl) (by decide +kernel) ?_ ?_; exact ⟨fun _ _ _ h => h.2, fun _ _ h => h⟩; clear hS; intro w hS _; (repeat (first | (refine ckT_max rfl rfl rfl rfl ?_; simp only [Act.put, List.setIfInBounds_toArray, List.set_cons_zero, List.set_cons_succ]) | (refine ckT_min rfl rfl rfl rfl ?_; simp only [Act.put, List.setIfInBounds_toArray, List.set_cons_zero, List.set_cons_succ]) | (apply wpT_pure rfl rfl; (intro _; go_simp; (try (go_ints; (try go_simp))); (first | (rw [decide_eq_true]; omega) | (rw [decide_eq_false]; omega) | rfl)); simp only [Act.put, List.setIfInBounds_toArray, List.set_cons_zero, List.set_cons_succ]) | (refine ckT_load hS rfl rfl rfl (by simp) (by repeat (first | exact List.Mem.head _ | apply List.Mem.tail)) rfl (by decide +kernel) ?_; simp only [Act.put, List.setIfInBounds_toArray, List.set_cons_zero, List.set_cons_succ]) | (refine ckT_store hS rfl rfl rfl (by constructor) (by repeat (first | exact Upd.here _ _ _ | apply Upd.there)) (by simp) rfl (by decide +kernel) (by simp) ?_; clear hS; intro w hS; simp only [Act.put, List.setIfInBounds_toArray, List.set_cons_zero, List.set_cons_succ] at hS ⊢) | (refine wpT_skip rfl ?_; simp only [Act.put, List.setIfInBounds_toArray, List.set_cons_zero, List.set_cons_succ]) )); refine wpT_nil ?_))
            go_roundg (60 - j)
            case rel => exact ⟨j + 1, lf - 1, z1, z2, z3, z4, z5, by omega, by omega, by go_num, congrArg (Value.int .i64) (by omega), by omega, hz0, hz1, hS⟩
            case measure => omega
        · clear fs
          have kC := ledgerCount_ct b (zeroB.set s [0, k, x1, x2, x3, x4, x5, lf]) s hs (zeroB_eights rfl) 0 k x1 x2 x3 x4 x5 lf (zeroB_get hs _)
          have kB := balanced_ct s k x1 x2 x3 x4 x5 lf y1 y2 y3 y4 y5 hlf (by omega) (by omega)
          simp only [cntV, List.map_cons, List.map_nil] at kC
          by_cases hj1 : j < flen
          all_goals
            go_wp2_with (first | go_skip | (refine ck_load hS rfl rfl rfl (by repeat (first | exact List.Mem.head _ | apply List.Mem.tail)) rfl (by decide +kernel) ?_; simp only [Act.put, List.setIfInBounds_toArray, List.set_cons_zero, List.set_cons_succ]) | (refine ck_store hS rfl rfl rfl (by constructor) (by repeat (first | exact Upd.here _ _ _ | apply Upd.there)) (by simp <;> omega) rfl (by decide +kernel) ?_; clear hS; intro w hS; simp only [Act.put, List.setIfInBounds_toArray, List.set_cons_zero, List.set_cons_succ] at hS ⊢) | (refine ck_box hS rfl rfl (by constructor) ?_; clear hS; intro nb w hS; simp only [Act.put, List.setIfInBounds_toArray, List.set_cons_zero, List.set_cons_succ]) | (refine ck_max rfl rfl rfl rfl ?_; simp only [Act.put, List.setIfInBounds_toArray, List.set_cons_zero, List.set_cons_succ]) | (refine ck_min rfl rfl rfl rfl ?_; simp only [Act.put, List.setIfInBounds_toArray, List.set_cons_zero, List.set_cons_succ]) | (go_at_call 10; (with_reducible refine Ct.callU (kC) (by repeat (first | exact Upd.here _ _ _ | apply Upd.there)) hS ?_) <;> (first | (clear hS; intro w hS) | omega)) | (go_at_call 12; with_reducible refine Ct.call0 (kB) hS ?_; clear hS; intro w hS) | (refine ck_alloc (t := 28) (v := .agg (List.toArray [.int .i64 0, .int .i64 0, .int .i64 0, .int .i64 0, .int .i64 0, .int .i64 0, .int .i64 0, .int .i64 0])) (cs := [.int .i64 0, .int .i64 0, .int .i64 0, .int .i64 0, .int .i64 0, .int .i64 0, .int .i64 0, .int .i64 0]) hS rfl rfl (by kernel_rfl) rfl ?_; clear hS; intro nb w hS; simp only [Act.put, List.setIfInBounds_toArray, List.set_cons_zero, List.set_cons_succ]) | (refine ck_storeAll hS rfl rfl rfl rfl (by repeat (first | exact Upd.here _ _ _ | apply Upd.there)) (by rfl) rfl (by (try simp only [List.length_cons, List.length_nil, Nat.zero_add, Nat.reduceAdd]); decide +kernel) ?_; clear hS; intro w hS; simp only [Act.put, List.setIfInBounds_toArray, List.set_cons_zero, List.set_cons_succ]) | (refine ck_loadAll hS rfl rfl rfl (by repeat (first | exact List.Mem.head _ | apply List.Mem.tail)) rfl (by (try simp only [List.length_cons, List.length_nil, Nat.zero_add, Nat.reduceAdd]); decide +kernel) ?_; simp only [Act.put, List.setIfInBounds_toArray, List.set_cons_zero, List.set_cons_succ]) | (refine ck_region (fun _ => 0) (fun _ => []) [] hS (by kernel_rfl) (by decide +kernel) ?_ ?_; exact ⟨fun _ _ _ h => h.2, fun _ _ h => h⟩; clear hS; intro w hS _; (repeat (first | (refine ckT_max rfl rfl rfl rfl ?_; simp only [Act.put, List.setIfInBounds_toArray, List.set_cons_zero, List.set_cons_succ]) | (refine ckT_min rfl rfl rfl rfl ?_; simp only [Act.put, List.setIfInBounds_toArray, List.set_cons_zero, List.set_cons_succ]) | (apply wpT_pure rfl rfl; (intro _; go_simp; (try (go_ints; (try go_simp))); (first | (rw [decide_eq_true]; omega) | (rw [decide_eq_false]; omega) | rfl)); simp only [Act.put, List.setIfInBounds_toArray, List.set_cons_zero, List.set_cons_succ]) | (refine ckT_load hS rfl rfl rfl (by simp) (by repeat (first | exact List.Mem.head _ | apply List.Mem.tail)) rfl (by decide +kernel) ?_; simp only [Act.put, List.setIfInBounds_toArray, List.set_cons_zero, List.set_cons_succ]) | (refine ckT_store hS rfl rfl rfl (by constructor) (by repeat (first | exact Upd.here _ _ _ | apply Upd.there)) (by simp) rfl (by decide +kernel) (by simp) ?_; clear hS; intro w hS; simp only [Act.put, List.setIfInBounds_toArray, List.set_cons_zero, List.set_cons_succ] at hS ⊢) | (refine wpT_skip rfl ?_; simp only [Act.put, List.setIfInBounds_toArray, List.set_cons_zero, List.set_cons_succ]) )); refine wpT_nil ?_))
            go_ret
            exact ⟨[], rfl, hS.dropN 100⟩
namespace ledgerSums
open Go.ChangeShapes Go.WideShapes Go.ChangeAt Go.RowKit
open Go.ChangeMaps (open_string shut_string)
theorem own : ownKnob Try.prog.godebug = none := by kernel_rfl
theorem laidOut : laidOutB Try.prog = true := by kernel_rfl
set_option maxRecDepth 100000 in
theorem lifted (os : Os) (started : os.Started) (H : Type) (enc : TypeId × Value → H) :
    ReturnsInHanded {} Try.checked os 5 .any (Rows.ledgerSumsSpec.pre6 enc Try.prog Try.f5 Rows.ledgerSumsRow.domain false) (Rows.ledgerSumsSpec.post enc Try.prog Try.f5 false true false false) := by
  refine returnsInHanded_of_change (C := Try.checked) own started (by kernel_rfl) Try.func5
    (ChangeSpec.witness6 (enc := enc) (C := Try.checked) false ⟨#[], #[.int .i64 0, .int .i64 0, .slice none 0 0], []⟩ 8 (by kernel_rfl) (by kernel_rfl) (by kernel_rfl) (by kernel_rfl)) ?_
  intro W base args ds gs before hval0 hW hcnd _
  have hval : ∀ (j : Nat) t v, Try.f5.params[j]? = some t → args[j]? = some v → Value.okWide Try.prog W .any base t v := hval0
  have hW' := hW
  obtain ⟨p, q, hA0, hV, rfl, hfz, hnd⟩ := hW
  have hA : DataW.TrodAll enc Try.prog W 0 (fun _ => true) true Try.f5.params.toList args.toList ds p := hA0
  rw [Try.params5] at hA hval
  obtain ⟨v0, vs0, d0, ds0, p0, q0, hargs, rfl, rfl, h0, r0⟩ := trodAll_cons hA
  obtain ⟨v1, vs1, d1, ds1, p1, q1, rfl, rfl, rfl, h1, r1⟩ := trodAll_cons r0
  obtain ⟨v2, vs2, d2, ds2, p2, q2, rfl, rfl, rfl, h2, r2⟩ := trodAll_cons r1
  obtain ⟨rfl, rfl, rfl⟩ := trodAll_nil r2
  obtain rfl : args = #[v0, v1, v2] := by cases args; simp_all
  obtain ⟨rfl, rfl⟩ := trodVars_none hV
  obtain ⟨a0, rfl, rfl, rfl, w0⟩ := open_int Try.underlying3 (hval 0 3 v0 rfl rfl) h0
  obtain ⟨a1, rfl, rfl, rfl, w1⟩ := open_int Try.underlying3 (hval 1 3 v1 rfl rfl) h1
  obtain ⟨a2, len2, cap2, rfl⟩ := okWide_slice Try.underlying48 (hval 2 48 v2 rfl rfl)
  have k2 := h2
  have lt2 : ∀ x ∈ p2, x.block < W.heap.size := by obtain ⟨m, hm⟩ := k2; exact DataW.trod_lt m _ _ _ hm
  obtain ⟨z2, s2⟩ : ∃ zs, ArgSl W [(.int .i64)] a2 len2 zs := by
    obtain ⟨fuel, hf⟩ := h2
    exact open_argsl1 Try.underlying48 (e := 3) (by kernel_rfl) (by kernel_rfl) hf
  clear hA0 hval0
  refine (ledgerSums_walk W a0 (wf_i64 w0).1 (wf_i64 w0).2 a1 (wf_i64 w1).1 (wf_i64 w1).2 a2 len2 cap2 z2 s2).mono fun e W' hR => ?_
  obtain ⟨he, bel⟩ := LawR.out hR
  subst he
  exact ⟨_, rfl, _, _, _, [], _, [], hW', trodAll_mk1 (shut_bool Try.underlying4 _), (trodAll_cons_mk (shut_int Try.underlying3 w0) (trodAll_cons_mk (shut_int Try.underlying3 w1) (trodAll_cons_mk (Below.trod laidOut (by kernel_rfl) (of_decide_eq_true (by kernel_rfl)) k2 bel lt2) trodAll_mk0))), rfl, bel.frame _, fun h => by cases h⟩
theorem over : Rows.ledgerSumsRow.holds Try.pinned (OpenSpec.ofChange Rows.ledgerSumsSpec) :=
  OpenClaim.holds_of_wide 5 Try.f5 rfl rfl rfl rfl rfl rfl rfl ⟨rfl, rfl, rfl, rfl, rfl⟩ rfl rfl rfl rfl rfl (by kernel_rfl) Try.func5 (by kernel_rfl)
    (of_decide_eq_true (by kernel_rfl)) (by unfold Func.isWrapper; first | (rw [if_pos (by decide +kernel)]; kernel_rfl) | (rw [if_neg (by decide +kernel)]; exact ⟨rfl, rfl⟩))
    (fun os started H enc _ => lifted os started H enc)
theorem proved : Rows.LedgerSumsSaid := over
#print axioms proved
end ledgerSums
end Go.Proofs.Ytiellldikfobbaa
