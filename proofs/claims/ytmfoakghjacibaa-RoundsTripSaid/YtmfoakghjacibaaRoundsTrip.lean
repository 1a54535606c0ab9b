/- RoundsTrip: for every size, trip and number the law answers true; no condition. -/
import Derived.Test.YtmfoakghjacibaaRoundsLaws
import Derived.WalkKit
import Derived.WalkSpells
import Derived.WalkLawsBesides
import Derived.WalkMore
import Derived.Deep.LoopGhost
set_option linter.unusedVariables false
set_option linter.unusedSimpArgs false
namespace Go.Proofs.Ytmfoakghjacibaa
open Go.RowKit
/-- Ahead of the packet i: c rounds have begun; behind the first: D = c trips. -/
def tripI (s t i c nx : Int) : Prop := (c = 0 ∧ i = 1 ∧ nx = 0) ∨ (1 ≤ c ∧ nx = (1 + (c * t - t)) * s ∧ 1 + (c * t - t) < i ∧ i ≤ 1 + c * t)
theorem trip_le {a b s : Int} (hs : 0 < s) : a * s ≤ b * s ↔ a ≤ b := Int.mul_le_mul_right hs
theorem trip_hit0 {s t i c nx : Int} (h : tripI s t i c nx) (ht : 1 ≤ t) (hn : nx ≤ 0) (hs : 0 < s) : c = 0 ∧ i = 1 := by
  rcases h with ⟨h1, h2, h3⟩ | ⟨h1, h2, h3, h4⟩
  · exact ⟨h1, h2⟩
  · exfalso
    have h5 : 1 * t ≤ c * t := Int.mul_le_mul_of_nonneg_right h1 (by omega)
    have h6 : 1 * s ≤ (1 + (c * t - t)) * s := Int.mul_le_mul_of_nonneg_right (by omega) (by omega)
    omega
theorem trip_hit {s t i c nx : Int} (h : tripI s t i c nx) (ht : 1 ≤ t) (hs : 0 < s) (hi : t < i) : nx ≤ (i - t) * s ↔ i = 1 + c * t := by
  rcases h with ⟨h1, h2, h3⟩ | ⟨h1, h2, h3, h4⟩
  · omega
  · rw [h2, trip_le hs]; omega
/-- A round begins. -/
theorem tripI_hit {s t i c nx : Int} (h : tripI s t i c nx) (ht : 1 ≤ t) (hi : i = 1 + c * t) : tripI s t (i + 1) (c + 1) (i * s) := by
  refine .inr ⟨?_, ?_, ?_, ?_⟩
  · rcases h with ⟨h1, _⟩ | ⟨h1, _⟩ <;> omega
  · rw [hi]; congr 1; rw [Int.add_mul]; omega
  · rw [Int.add_mul]; omega
  · rw [Int.add_mul]; omega
theorem tripI_miss {s t i c nx : Int} (h : tripI s t i c nx) (hc : c ≠ 0) (hi : i ≠ 1 + c * t) : tripI s t (i + 1) c nx := by
  rcases h with ⟨h1, _⟩ | ⟨h1, h2, h3, h4⟩
  · exact (hc h1).elim
  · exact .inr ⟨h1, h2, by omega, by omega⟩
/-- The first trip. -/
theorem tripI_first {s t i c nx : Int} (h : tripI s t i c nx) (ht : 1 ≤ t) (hi : i ≤ t) (hi1 : i ≠ 1) : 1 ≤ c ∧ i ≠ 1 + c * t := by
  rcases h with ⟨h1, h2, _⟩ | ⟨h1, h2, h3, h4⟩
  · exact (hi1 h2).elim
  · refine ⟨h1, ?_⟩
    have h5 : 1 * t ≤ c * t := Int.mul_le_mul_of_nonneg_right h1 (by omega)
    omega
theorem trip_end {s t n i c nx : Int} (h : tripI s t i c nx) (ht : 1 ≤ t) (hn : 1 ≤ n) (hi : i = n * t + 1) : c = n := by
  have h0 : 1 * t ≤ n * t := Int.mul_le_mul_of_nonneg_right hn (by omega)
  rcases h with ⟨h1, h2, _⟩ | ⟨h1, h2, h3, h4⟩
  · omega
  · have h5 : n * t ≤ c * t := by omega
    have h6 : n ≤ c := (trip_le (by omega)).1 h5
    have h7 : (c - 1) * t < n * t := by rw [Int.sub_mul]; omega
    have h8 : c - 1 < n := Int.lt_of_mul_lt_mul_right h7 (by omega)
    omega
set_option maxHeartbeats 1000000 in
theorem roundsTrip_walk (w0 : World) (a0 : Int) (l0 : 0 ≤ a0) (u0 : a0 ≤ 18446744073709551615) (a1 : Int) (l1 : -9223372036854775808 ≤ a1) (u1 : a1 ≤ 9223372036854775807) (a2 : Int) (l2 : -9223372036854775808 ≤ a2) (u2 : a2 ≤ 9223372036854775807) :
    Calls Try.prog 11 #[.int .u64 a0, .int .i64 a1, .int .i64 a2] w0 (LawR w0) := by
  obtain ⟨q, hq, hq0, hq1⟩ := mod_any a0 10000 (by omega)
  obtain ⟨s, hs⟩ : ∃ s, 1 + q = s := ⟨_, rfl⟩
  obtain ⟨u, hu, hu0, hu1⟩ := u64_any a1
  obtain ⟨p, hp, hp0, hp1⟩ := mod_any u 10 (by omega)
  obtain ⟨t, ht⟩ : ∃ t, 1 + p = t := ⟨_, rfl⟩
  obtain ⟨v, hv, hv0, hv1⟩ := u64_any a2
  obtain ⟨r, hr, hr0, hr1⟩ := mod_any v 10 (by omega)
  obtain ⟨n, hn⟩ : ∃ n, 1 + r = n := ⟨_, rfl⟩
  have s0 : 1 ≤ s := by omega
  have s1 : s ≤ 10000 := by omega
  have t0 : 1 ≤ t := by omega
  have t1 : t ≤ 10 := by omega
  have n0 : 1 ≤ n := by omega
  have n1 : n ≤ 10 := by omega
  have nt0 : 1 * t ≤ n * t := Int.mul_le_mul_of_nonneg_right n0 (by omega)
  have nt1 : n * t ≤ 10 * t := Int.mul_le_mul_of_nonneg_right n1 (by omega)
  have hS := Sep.start w0 []
  unfold LawR
  go_enter Try.func11, Try.ntmps11
  go_wp2_with (first | (refine ck_load hS rfl rfl rfl (by repeat (first | exact List.Mem.head _ | apply List.Mem.tail)) rfl (by decide +kernel) ?_; simp only [Act.put, List.setIfInBounds_toArray, List.set_cons_zero, List.set_cons_succ]) | (refine ck_store hS rfl rfl rfl (by constructor) (by repeat (first | exact Upd.here _ _ _ | apply Upd.there)) (by simp) rfl (by decide +kernel) ?_; clear hS; intro w hS; simp only [Act.put, List.setIfInBounds_toArray, List.set_cons_zero, List.set_cons_succ] at hS ⊢) | (refine ck_box hS rfl rfl (by constructor) ?_; clear hS; intro nb w hS; simp only [Act.put, List.setIfInBounds_toArray, List.set_cons_zero, List.set_cons_succ]) | (refine ck_max rfl rfl rfl rfl ?_; simp only [Act.put, List.setIfInBounds_toArray, List.set_cons_zero, List.set_cons_succ]) | (refine ck_min rfl rfl rfl rfl ?_; simp only [Act.put, List.setIfInBounds_toArray, List.set_cons_zero, List.set_cons_succ]) | (go_at_call 21; with_reducible refine Ct.callN (rndNew_ct) hS ?_; clear hS; rintro _ _ w ⟨b, rfl, rfl⟩ hS; simp only [List.cons_append, List.nil_append] at hS) | (go_at_call 22; with_reducible refine Ct.call0 (awake11_ct) hS ?_; clear hS; intro w hS) | (refine ck_region (fun _ => 0) (fun _ => []) [] hS (by kernel_rfl) (by kernel_rfl) ⟨fun _ _ _ h => h.2, fun _ _ h => h⟩ ?_; clear hS; intro w hS _; (repeat (first | (refine ckT_max rfl rfl rfl rfl ?_; simp only [Act.put, List.setIfInBounds_toArray, List.set_cons_zero, List.set_cons_succ]) | (refine ckT_min rfl rfl rfl rfl ?_; simp only [Act.put, List.setIfInBounds_toArray, List.set_cons_zero, List.set_cons_succ]) | (apply wpT_pure rfl rfl; (intro _; go_simp; (try (go_ints; (try go_simp))); rfl); simp only [Act.put, List.setIfInBounds_toArray, List.set_cons_zero, List.set_cons_succ]) | (refine ckT_load hS rfl rfl rfl (by simp) (by repeat (first | exact List.Mem.head _ | apply List.Mem.tail)) rfl (by decide +kernel) ?_; simp only [Act.put, List.setIfInBounds_toArray, List.set_cons_zero, List.set_cons_succ]) | (refine ckT_store hS rfl rfl rfl (by constructor) (by repeat (first | exact Upd.here _ _ _ | apply Upd.there)) (by simp) rfl (by decide +kernel) (by simp) ?_; clear hS; intro w hS; simp only [Act.put, List.setIfInBounds_toArray, List.set_cons_zero, List.set_cons_succ] at hS ⊢) | (refine wpT_skip rfl ?_; simp only [Act.put, List.setIfInBounds_toArray, List.set_cons_zero, List.set_cons_succ]) )); refine wpT_nil ?_))
  go_loopg [8, 9] 101 (fun g s8 s9 wx => ∃ (k : Nat) (c nx : Int), k + g = 102 ∧ 1 ≤ k ∧ k ≤ n * t + 1 ∧ s9 = .int .i64 k ∧ s8 = .int .i64 c ∧ 0 ≤ c ∧ c ≤ k ∧ tripI s t k c nx ∧ Sep w0 [] [rndR b c nx] wx)
  case atStart => exact ⟨1, 0, 0, by omega, by omega, by omega, rfl, rfl, by omega, by omega, .inl ⟨rfl, rfl, rfl⟩, hS⟩
  case round =>
    obtain ⟨k, c, nx, hkg, hk1, hk2, rfl, rfl, hc0, hc1, hI, hS⟩ := hrel
    generalize wr = w at hS ⊢
    clear hq hu hp hv hr l0 u0 l1 u1 l2 u2
    by_cases hk : k ≤ n * t
    · have p0 : 0 ≤ (k : Int) * s := Int.mul_nonneg (by omega) (by omega)
      have p1 : (k : Int) * s ≤ 101 * s := Int.mul_le_mul_of_nonneg_right (by omega) (by omega)
      have eI : ((k + 1 : Nat) : Int) = (k : Int) + 1 := by omega
      by_cases hkt : t < k
      · have p2 : 0 ≤ ((k : Int) - t) * s := Int.mul_nonneg (by omega) (by omega)
        have p3 : ((k : Int) - t) * s ≤ 101 * s := Int.mul_le_mul_of_nonneg_right (by omega) (by omega)
        have hiff := trip_hit hI t0 (by omega) hkt
        by_cases hh : (k : Int) = 1 + c * t
        · have h2 := hiff.2 hh
          have hN := tripI_hit hI t0 hh
          rw [← eI] at hN
          clear hiff hh hI
          go_wp2_with (first | (refine ck_load hS rfl rfl rfl (by repeat (first | exact List.Mem.head _ | apply List.Mem.tail)) rfl (by decide +kernel) ?_; simp only [Act.put, List.setIfInBounds_toArray, List.set_cons_zero, List.set_cons_succ]) | (refine ck_store hS rfl rfl rfl (by constructor) (by repeat (first | exact Upd.here _ _ _ | apply Upd.there)) (by simp) rfl (by decide +kernel) ?_; clear hS; intro w hS; simp only [Act.put, List.setIfInBounds_toArray, List.set_cons_zero, List.set_cons_succ] at hS ⊢) | (refine ck_box hS rfl rfl (by constructor) ?_; clear hS; intro nb w hS; simp only [Act.put, List.setIfInBounds_toArray, List.set_cons_zero, List.set_cons_succ]) | (refine ck_max rfl rfl rfl rfl ?_; simp only [Act.put, List.setIfInBounds_toArray, List.set_cons_zero, List.set_cons_succ]) | (refine ck_min rfl rfl rfl rfl ?_; simp only [Act.put, List.setIfInBounds_toArray, List.set_cons_zero, List.set_cons_succ]) | (go_at_call 23; (with_reducible refine Ct.callU (rndHit_ct b c nx _ _ _ _ _ _ _ _ _ ?_ ?_ ?_ ?_) (by repeat (first | exact Upd.here _ _ _ | apply Upd.there)) hS ?_) <;> (first | (clear hS; intro w hS) | omega)) | (refine ck_region (fun _ => 0) (fun _ => []) [] hS (by kernel_rfl) (by kernel_rfl) ⟨fun _ _ _ h => h.2, fun _ _ h => h⟩ ?_; clear hS; intro w hS _; (repeat (first | (refine ckT_max rfl rfl rfl rfl ?_; simp only [Act.put, List.setIfInBounds_toArray, List.set_cons_zero, List.set_cons_succ]) | (refine ckT_min rfl rfl rfl rfl ?_; simp only [Act.put, List.setIfInBounds_toArray, List.set_cons_zero, List.set_cons_succ]) | (apply wpT_pure rfl rfl; (intro _; go_simp; (try (go_ints; (try go_simp))); rfl); simp only [Act.put, List.setIfInBounds_toArray, List.set_cons_zero, List.set_cons_succ]) | (refine ckT_load hS rfl rfl rfl (by simp) (by repeat (first | exact List.Mem.head _ | apply List.Mem.tail)) rfl (by decide +kernel) ?_; simp only [Act.put, List.setIfInBounds_toArray, List.set_cons_zero, List.set_cons_succ]) | (refine ckT_store hS rfl rfl rfl (by constructor) (by repeat (first | exact Upd.here _ _ _ | apply Upd.there)) (by simp) rfl (by decide +kernel) (by simp) ?_; clear hS; intro w hS; simp only [Act.put, List.setIfInBounds_toArray, List.set_cons_zero, List.set_cons_succ] at hS ⊢) | (refine wpT_skip rfl ?_; simp only [Act.put, List.setIfInBounds_toArray, List.set_cons_zero, List.set_cons_succ]) )); refine wpT_nil ?_))
          go_roundg (101 - k)
          case rel => exact ⟨k + 1, c + 1, _, by omega, by omega, by omega, by go_num, by go_num, by omega, by omega, hN, hS⟩
          case measure => omega
        · have h2 : ((k : Int) - t) * s < nx := by have := mt hiff.1 hh; omega
          have hN := tripI_miss hI (by rintro rfl; rcases hI with ⟨_, h, _⟩ | ⟨h, _⟩ <;> omega) hh
          rw [← eI] at hN
          clear hiff hh hI
          go_wp2_with (first | (refine ck_load hS rfl rfl rfl (by repeat (first | exact List.Mem.head _ | apply List.Mem.tail)) rfl (by decide +kernel) ?_; simp only [Act.put, List.setIfInBounds_toArray, List.set_cons_zero, List.set_cons_succ]) | (refine ck_store hS rfl rfl rfl (by constructor) (by repeat (first | exact Upd.here _ _ _ | apply Upd.there)) (by simp) rfl (by decide +kernel) ?_; clear hS; intro w hS; simp only [Act.put, List.setIfInBounds_toArray, List.set_cons_zero, List.set_cons_succ] at hS ⊢) | (refine ck_box hS rfl rfl (by constructor) ?_; clear hS; intro nb w hS; simp only [Act.put, List.setIfInBounds_toArray, List.set_cons_zero, List.set_cons_succ]) | (refine ck_max rfl rfl rfl rfl ?_; simp only [Act.put, List.setIfInBounds_toArray, List.set_cons_zero, List.set_cons_succ]) | (refine ck_min rfl rfl rfl rfl ?_; simp only [Act.put, List.setIfInBounds_toArray, List.set_cons_zero, List.set_cons_succ]) | (go_at_call 23; (with_reducible refine Ct.callU (rndMiss2_ct b c nx _ _ _ _ _ _ _ _ _ ?_ ?_) (by repeat (first | exact Upd.here _ _ _ | apply Upd.there)) hS ?_) <;> (first | (clear hS; intro w hS) | omega)) | (refine ck_region (fun _ => 0) (fun _ => []) [] hS (by kernel_rfl) (by kernel_rfl) ⟨fun _ _ _ h => h.2, fun _ _ h => h⟩ ?_; clear hS; intro w hS _; (repeat (first | (refine ckT_max rfl rfl rfl rfl ?_; simp only [Act.put, List.setIfInBounds_toArray, List.set_cons_zero, List.set_cons_succ]) | (refine ckT_min rfl rfl rfl rfl ?_; simp only [Act.put, List.setIfInBounds_toArray, List.set_cons_zero, List.set_cons_succ]) | (apply wpT_pure rfl rfl; (intro _; go_simp; (try (go_ints; (try go_simp))); rfl); simp only [Act.put, List.setIfInBounds_toArray, List.set_cons_zero, List.set_cons_succ]) | (refine ckT_load hS rfl rfl rfl (by simp) (by repeat (first | exact List.Mem.head _ | apply List.Mem.tail)) rfl (by decide +kernel) ?_; simp only [Act.put, List.setIfInBounds_toArray, List.set_cons_zero, List.set_cons_succ]) | (refine ckT_store hS rfl rfl rfl (by constructor) (by repeat (first | exact Upd.here _ _ _ | apply Upd.there)) (by simp) rfl (by decide +kernel) (by simp) ?_; clear hS; intro w hS; simp only [Act.put, List.setIfInBounds_toArray, List.set_cons_zero, List.set_cons_succ] at hS ⊢) | (refine wpT_skip rfl ?_; simp only [Act.put, List.setIfInBounds_toArray, List.set_cons_zero, List.set_cons_succ]) )); refine wpT_nil ?_))
          go_roundg (101 - k)
          case rel => exact ⟨k + 1, c, _, by omega, by omega, by omega, by go_num, rfl, by omega, by omega, hN, hS⟩
          case measure => omega
      · by_cases hh : (k : Int) = 1
        · have hz : c = 0 ∧ nx = 0 := by
            rcases hI with ⟨h1, h2, h3⟩ | ⟨h1, h2, h3, h4⟩
            · exact ⟨h1, h3⟩
            · have h5 : 1 * t ≤ c * t := Int.mul_le_mul_of_nonneg_right h1 (by omega)
              omega
          obtain ⟨rfl, rfl⟩ := hz
          have hN : tripI s t ((k : Int) + 1) 1 ((k : Int) * s) := tripI_hit hI t0 (by omega)
          rw [← eI] at hN
          clear hh hI
          go_wp2_with (first | (refine ck_load hS rfl rfl rfl (by repeat (first | exact List.Mem.head _ | apply List.Mem.tail)) rfl (by decide +kernel) ?_; simp only [Act.put, List.setIfInBounds_toArray, List.set_cons_zero, List.set_cons_succ]) | (refine ck_store hS rfl rfl rfl (by constructor) (by repeat (first | exact Upd.here _ _ _ | apply Upd.there)) (by simp) rfl (by decide +kernel) ?_; clear hS; intro w hS; simp only [Act.put, List.setIfInBounds_toArray, List.set_cons_zero, List.set_cons_succ] at hS ⊢) | (refine ck_box hS rfl rfl (by constructor) ?_; clear hS; intro nb w hS; simp only [Act.put, List.setIfInBounds_toArray, List.set_cons_zero, List.set_cons_succ]) | (refine ck_max rfl rfl rfl rfl ?_; simp only [Act.put, List.setIfInBounds_toArray, List.set_cons_zero, List.set_cons_succ]) | (refine ck_min rfl rfl rfl rfl ?_; simp only [Act.put, List.setIfInBounds_toArray, List.set_cons_zero, List.set_cons_succ]) | (go_at_call 23; (with_reducible refine Ct.callU (rndHit_ct b 0 0 _ _ _ _ _ _ _ _ _ ?_ ?_ ?_ ?_) (by repeat (first | exact Upd.here _ _ _ | apply Upd.there)) hS ?_) <;> (first | (clear hS; intro w hS) | omega)) | (refine ck_region (fun _ => 0) (fun _ => []) [] hS (by kernel_rfl) (by kernel_rfl) ⟨fun _ _ _ h => h.2, fun _ _ h => h⟩ ?_; clear hS; intro w hS _; (repeat (first | (refine ckT_max rfl rfl rfl rfl ?_; simp only [Act.put, List.setIfInBounds_toArray, List.set_cons_zero, List.set_cons_succ]) | (refine ckT_min rfl rfl rfl rfl ?_; simp only [Act.put, List.setIfInBounds_toArray, List.set_cons_zero, List.set_cons_succ]) | (apply wpT_pure rfl rfl; (intro _; go_simp; (try (go_ints; (try go_simp))); rfl); simp only [Act.put, List.setIfInBounds_toArray, List.set_cons_zero, List.set_cons_succ]) | (refine ckT_load hS rfl rfl rfl (by simp) (by repeat (first | exact List.Mem.head _ | apply List.Mem.tail)) rfl (by decide +kernel) ?_; simp only [Act.put, List.setIfInBounds_toArray, List.set_cons_zero, List.set_cons_succ]) | (refine ckT_store hS rfl rfl rfl (by constructor) (by repeat (first | exact Upd.here _ _ _ | apply Upd.there)) (by simp) rfl (by decide +kernel) (by simp) ?_; clear hS; intro w hS; simp only [Act.put, List.setIfInBounds_toArray, List.set_cons_zero, List.set_cons_succ] at hS ⊢) | (refine wpT_skip rfl ?_; simp only [Act.put, List.setIfInBounds_toArray, List.set_cons_zero, List.set_cons_succ]) )); refine wpT_nil ?_))
          go_roundg (101 - k)
          case rel => exact ⟨k + 1, 1, _, by omega, by omega, by omega, by go_num, by go_num, by omega, by omega, hN, hS⟩
          case measure => omega
        · obtain ⟨c1, c2⟩ := tripI_first hI t0 (by omega) hh
          have h2 : 0 < nx := by
            have := mt (fun h => trip_hit0 hI t0 h (by omega)) (fun h => hh h.2)
            omega
          have hN := tripI_miss hI (by omega) c2
          rw [← eI] at hN
          clear hh hI c2
          go_wp2_with (first | (refine ck_load hS rfl rfl rfl (by repeat (first | exact List.Mem.head _ | apply List.Mem.tail)) rfl (by decide +kernel) ?_; simp only [Act.put, List.setIfInBounds_toArray, List.set_cons_zero, List.set_cons_succ]) | (refine ck_store hS rfl rfl rfl (by constructor) (by repeat (first | exact Upd.here _ _ _ | apply Upd.there)) (by simp) rfl (by decide +kernel) ?_; clear hS; intro w hS; simp only [Act.put, List.setIfInBounds_toArray, List.set_cons_zero, List.set_cons_succ] at hS ⊢) | (refine ck_box hS rfl rfl (by constructor) ?_; clear hS; intro nb w hS; simp only [Act.put, List.setIfInBounds_toArray, List.set_cons_zero, List.set_cons_succ]) | (refine ck_max rfl rfl rfl rfl ?_; simp only [Act.put, List.setIfInBounds_toArray, List.set_cons_zero, List.set_cons_succ]) | (refine ck_min rfl rfl rfl rfl ?_; simp only [Act.put, List.setIfInBounds_toArray, List.set_cons_zero, List.set_cons_succ]) | (go_at_call 23; (with_reducible refine Ct.callU (rndMiss2_ct b c nx _ _ _ _ _ _ _ _ _ ?_ ?_) (by repeat (first | exact Upd.here _ _ _ | apply Upd.there)) hS ?_) <;> (first | (clear hS; intro w hS) | omega)) | (refine ck_region (fun _ => 0) (fun _ => []) [] hS (by kernel_rfl) (by kernel_rfl) ⟨fun _ _ _ h => h.2, fun _ _ h => h⟩ ?_; clear hS; intro w hS _; (repeat (first | (refine ckT_max rfl rfl rfl rfl ?_; simp only [Act.put, List.setIfInBounds_toArray, List.set_cons_zero, List.set_cons_succ]) | (refine ckT_min rfl rfl rfl rfl ?_; simp only [Act.put, List.setIfInBounds_toArray, List.set_cons_zero, List.set_cons_succ]) | (apply wpT_pure rfl rfl; (intro _; go_simp; (try (go_ints; (try go_simp))); rfl); simp only [Act.put, List.setIfInBounds_toArray, List.set_cons_zero, List.set_cons_succ]) | (refine ckT_load hS rfl rfl rfl (by simp) (by repeat (first | exact List.Mem.head _ | apply List.Mem.tail)) rfl (by decide +kernel) ?_; simp only [Act.put, List.setIfInBounds_toArray, List.set_cons_zero, List.set_cons_succ]) | (refine ckT_store hS rfl rfl rfl (by constructor) (by repeat (first | exact Upd.here _ _ _ | apply Upd.there)) (by simp) rfl (by decide +kernel) (by simp) ?_; clear hS; intro w hS; simp only [Act.put, List.setIfInBounds_toArray, List.set_cons_zero, List.set_cons_succ] at hS ⊢) | (refine wpT_skip rfl ?_; simp only [Act.put, List.setIfInBounds_toArray, List.set_cons_zero, List.set_cons_succ]) )); refine wpT_nil ?_))
          go_roundg (101 - k)
          case rel => exact ⟨k + 1, c, _, by omega, by omega, by omega, by go_num, rfl, by omega, by omega, hN, hS⟩
          case measure => omega
    · have hc : c = n := trip_end hI t0 n0 (by omega)
      subst hc
      clear hI
      have hle : c ≤ c + 1 := by omega
      go_wp2_with (first | (refine ck_load hS rfl rfl rfl (by repeat (first | exact List.Mem.head _ | apply List.Mem.tail)) rfl (by decide +kernel) ?_; simp only [Act.put, List.setIfInBounds_toArray, List.set_cons_zero, List.set_cons_succ]) | (refine ck_store hS rfl rfl rfl (by constructor) (by repeat (first | exact Upd.here _ _ _ | apply Upd.there)) (by simp) rfl (by decide +kernel) ?_; clear hS; intro w hS; simp only [Act.put, List.setIfInBounds_toArray, List.set_cons_zero, List.set_cons_succ] at hS ⊢) | (refine ck_box hS rfl rfl (by constructor) ?_; clear hS; intro nb w hS; simp only [Act.put, List.setIfInBounds_toArray, List.set_cons_zero, List.set_cons_succ]) | (refine ck_max rfl rfl rfl rfl ?_; simp only [Act.put, List.setIfInBounds_toArray, List.set_cons_zero, List.set_cons_succ]) | (refine ck_min rfl rfl rfl rfl ?_; simp only [Act.put, List.setIfInBounds_toArray, List.set_cons_zero, List.set_cons_succ]) | (go_at_call 25; (with_reducible refine Ct.callU (rndCount_ct b _ _) (by repeat (first | exact Upd.here _ _ _ | apply Upd.there)) hS ?_) <;> (first | (clear hS; intro w hS) | omega)) | (refine ck_region (fun _ => 0) (fun _ => []) [] hS (by kernel_rfl) (by kernel_rfl) ⟨fun _ _ _ h => h.2, fun _ _ h => h⟩ ?_; clear hS; intro w hS _; (repeat (first | (refine ckT_max rfl rfl rfl rfl ?_; simp only [Act.put, List.setIfInBounds_toArray, List.set_cons_zero, List.set_cons_succ]) | (refine ckT_min rfl rfl rfl rfl ?_; simp only [Act.put, List.setIfInBounds_toArray, List.set_cons_zero, List.set_cons_succ]) | (apply wpT_pure rfl rfl; (intro _; go_simp; (try (go_ints; (try go_simp))); rfl); simp only [Act.put, List.setIfInBounds_toArray, List.set_cons_zero, List.set_cons_succ]) | (refine ckT_load hS rfl rfl rfl (by simp) (by repeat (first | exact List.Mem.head _ | apply List.Mem.tail)) rfl (by decide +kernel) ?_; simp only [Act.put, List.setIfInBounds_toArray, List.set_cons_zero, List.set_cons_succ]) | (refine ckT_store hS rfl rfl rfl (by constructor) (by repeat (first | exact Upd.here _ _ _ | apply Upd.there)) (by simp) rfl (by decide +kernel) (by simp) ?_; clear hS; intro w hS; simp only [Act.put, List.setIfInBounds_toArray, List.set_cons_zero, List.set_cons_succ] at hS ⊢) | (refine wpT_skip rfl ?_; simp only [Act.put, List.setIfInBounds_toArray, List.set_cons_zero, List.set_cons_succ]) )); refine wpT_nil ?_))
      go_ret
      exact ⟨[], rfl, hS.dropN 100⟩
namespace roundsTrip
open Go.ChangeShapes Go.WideShapes Go.ChangeAt Go.RowKit
open Go.ChangeMaps (open_string shut_string)
theorem own : ownKnob Try.prog.godebug = none := by kernel_rfl
theorem laidOut : laidOutB Try.prog = true := by kernel_rfl
set_option maxRecDepth 100000 in
theorem lifted (os : Os) (started : os.Started) (H : Type) (enc : TypeId × Value → H) :
    ReturnsInHanded {} Try.checked os 11 .any (Rows.roundsTripSpec.pre6 enc Try.prog Try.f11 Rows.roundsTripRow.domain false) (Rows.roundsTripSpec.post enc Try.prog Try.f11 false true false false) := by
  refine returnsInHanded_of_change (C := Try.checked) own started (by kernel_rfl) Try.func11
    (ChangeSpec.witness6 (enc := enc) (C := Try.checked) false ⟨#[], #[.int .u64 0, .int .i64 0, .int .i64 0], []⟩ 8 (by kernel_rfl) (by kernel_rfl) (by kernel_rfl) (by kernel_rfl)) ?_
  intro W base args ds gs before hval0 hW hcnd _
  have hval : ∀ (j : Nat) t v, Try.f11.params[j]? = some t → args[j]? = some v → Value.okWide Try.prog W .any base t v := hval0
  have hW' := hW
  obtain ⟨p, q, hA0, hV, rfl, hfz, hnd⟩ := hW
  have hA : DataW.TrodAll enc Try.prog W 0 (fun _ => true) true Try.f11.params.toList args.toList ds p := hA0
  rw [Try.params11] at hA hval
  obtain ⟨v0, vs0, d0, ds0, p0, q0, hargs, rfl, rfl, h0, r0⟩ := trodAll_cons hA
  obtain ⟨v1, vs1, d1, ds1, p1, q1, rfl, rfl, rfl, h1, r1⟩ := trodAll_cons r0
  obtain ⟨v2, vs2, d2, ds2, p2, q2, rfl, rfl, rfl, h2, r2⟩ := trodAll_cons r1
  obtain ⟨rfl, rfl, rfl⟩ := trodAll_nil r2
  obtain rfl : args = #[v0, v1, v2] := by cases args; simp_all
  obtain ⟨rfl, rfl⟩ := trodVars_none hV
  obtain ⟨a0, rfl, rfl, rfl, w0⟩ := open_int Try.underlying22 (hval 0 22 v0 rfl rfl) h0
  obtain ⟨a1, rfl, rfl, rfl, w1⟩ := open_int Try.underlying3 (hval 1 3 v1 rfl rfl) h1
  obtain ⟨a2, rfl, rfl, rfl, w2⟩ := open_int Try.underlying3 (hval 2 3 v2 rfl rfl) h2
  clear hA0 hval0
  refine (roundsTrip_walk W a0 (wf_u64 w0).1 (wf_u64 w0).2 a1 (wf_i64 w1).1 (wf_i64 w1).2 a2 (wf_i64 w2).1 (wf_i64 w2).2).mono fun e W' hR => ?_
  obtain ⟨he, bel⟩ := LawR.out hR
  subst he
  exact ⟨_, rfl, _, _, _, [], _, [], hW', trodAll_mk1 (shut_bool Try.underlying4 _), (trodAll_cons_mk (shut_int Try.underlying22 w0) (trodAll_cons_mk (shut_int Try.underlying3 w1) (trodAll_cons_mk (shut_int Try.underlying3 w2) trodAll_mk0))), rfl, bel.frame _, fun h => by cases h⟩
theorem over : Rows.roundsTripRow.holds Try.pinned (OpenSpec.ofChange Rows.roundsTripSpec) :=
  OpenClaim.holds_of_wide 11 Try.f11 rfl rfl rfl rfl rfl rfl rfl ⟨rfl, rfl, rfl, rfl, rfl⟩ rfl rfl rfl rfl rfl (by kernel_rfl) Try.func11 (by kernel_rfl)
    (of_decide_eq_true (by kernel_rfl)) (by unfold Func.isWrapper; first | (rw [if_pos (by decide +kernel)]; kernel_rfl) | (rw [if_neg (by decide +kernel)]; exact ⟨rfl, rfl⟩))
    (fun os started H enc _ => lifted os started H enc)
theorem proved : Rows.RoundsTripSaid := over
#print axioms proved
end roundsTrip
end Go.Proofs.Ytmfoakghjacibaa
