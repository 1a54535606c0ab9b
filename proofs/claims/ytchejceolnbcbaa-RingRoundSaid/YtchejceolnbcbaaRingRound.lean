/- RingRound: for all numbers the law answers true; no condition. -/
import Derived.Test.YtchejceolnbcbaaRingLaws
import Derived.WalkKit
import Derived.WalkSpells
import Derived.WalkLawsBesides
import Derived.WalkMore
import Derived.Deep.LoopGhost
set_option linter.unusedVariables false
set_option linter.unusedSimpArgs false
namespace Go.Proofs.Ytchejceolnbcbaa
open Go.RowKit
def seqZ (k n : Nat) : List Int := (List.range' k n).map fun i : Nat => (i : Int)
theorem seqZ_len (k n : Nat) : (seqZ k n).length = n := by simp [seqZ]
theorem seqZ_zero (k : Nat) : seqZ k 0 = [] := rfl
theorem seqZ_snoc (k n : Nat) : seqZ k n ++ [((k + n : Nat) : Int)] = seqZ k (n + 1) := by unfold seqZ; rw [List.range'_concat, List.map_append]; simp
theorem seqZ_cons (k n : Nat) : seqZ k (n + 1) = (k : Int) :: seqZ (k + 1) n := by unfold seqZ; rw [List.range'_succ, List.map_cons]
set_option maxRecDepth 20000 in
set_option maxHeartbeats 4000000 in
theorem ringRound_walk (w0 : World) (a0 : Int) (l0 : -9223372036854775808 ≤ a0) (u0 : a0 ≤ 9223372036854775807) (a1 : Int) (l1 : -9223372036854775808 ≤ a1) (u1 : a1 ≤ 9223372036854775807) (a2 : Int) (l2 : -9223372036854775808 ≤ a2) (u2 : a2 ≤ 9223372036854775807) :
    Calls Try.prog 4 #[.int .i64 a0, .int .i64 a1, .int .i64 a2] w0 (LawR w0) := by
  obtain ⟨u, hu, hu0, hu1⟩ := u64_any a0
  obtain ⟨p, hp, hp0, hp1⟩ := mod_any u 20 (by omega)
  obtain ⟨u', hu', hu0', hu1'⟩ := u64_any a1
  obtain ⟨q, hq, hq0, hq1⟩ := mod_any u' 200 (by omega)
  obtain ⟨u'', hu'', hu0'', hu1''⟩ := u64_any a2
  obtain ⟨s, hs, hs0, hs1⟩ := mod_any u'' 20 (by omega)
  obtain ⟨t, rfl⟩ : ∃ t : Nat, q = t := ⟨q.toNat, by omega⟩
  obtain ⟨n, hn⟩ : ∃ n : Nat, (1 + p : Int) = n := ⟨(1 + p).toNat, by omega⟩
  obtain ⟨st, hst⟩ : ∃ st : Nat, (1 + s : Int) = st := ⟨(1 + s).toNat, by omega⟩
  have hn1 : 1 ≤ n := by omega
  have hn2 : n ≤ 20 := by omega
  have kN := ringNew_ct n n (by omega)
  clear l0 u0 l1 u1 l2 u2
  have hS := Sep.start w0 []
  unfold LawR
  go_enter Try.func4, Try.ntmps4
  go_wp2_with (first | go_skip | (refine ck_load hS rfl rfl rfl (by repeat (first | exact List.Mem.head _ | apply List.Mem.tail)) rfl (by decide +kernel) ?_; simp only [Act.put, List.setIfInBounds_toArray, List.set_cons_zero, List.set_cons_succ]) | (refine ck_store hS rfl rfl rfl (by constructor) (by repeat (first | exact Upd.here _ _ _ | apply Upd.there)) (by simp <;> omega) rfl (by decide +kernel) ?_; clear hS; intro w hS; simp only [Act.put, List.setIfInBounds_toArray, List.set_cons_zero, List.set_cons_succ] at hS ⊢) | (refine ck_box hS rfl rfl (by constructor) ?_; clear hS; intro nb w hS; simp only [Act.put, List.setIfInBounds_toArray, List.set_cons_zero, List.set_cons_succ]) | (refine ck_max rfl rfl rfl rfl ?_; simp only [Act.put, List.setIfInBounds_toArray, List.set_cons_zero, List.set_cons_succ]) | (refine ck_min rfl rfl rfl rfl ?_; simp only [Act.put, List.setIfInBounds_toArray, List.set_cons_zero, List.set_cons_succ]) | (go_at_call 7; with_reducible refine Ct.callN (kN) hS ?_; clear hS; rintro _ _ w ⟨b, A, rfl, rfl⟩ hS; simp only [List.cons_append, List.nil_append] at hS) | (go_at_call 8; with_reducible refine Ct.call0 (awake06_ct) hS ?_; clear hS; intro w hS) | (refine ck_region (fun _ => 0) (fun _ => []) [] hS (by kernel_rfl) (by decide +kernel) ?_ ?_; exact ⟨fun _ _ _ h => h.2, fun _ _ h => h⟩; clear hS; intro w hS _; (repeat (first | (refine ckT_max rfl rfl rfl rfl ?_; simp only [Act.put, List.setIfInBounds_toArray, List.set_cons_zero, List.set_cons_succ]) | (refine ckT_min rfl rfl rfl rfl ?_; simp only [Act.put, List.setIfInBounds_toArray, List.set_cons_zero, List.set_cons_succ]) | (apply wpT_pure rfl rfl; (intro _; go_simp; (try (go_ints; (try go_simp))); (first | (rw [decide_eq_true]; omega) | (rw [decide_eq_false]; omega) | rfl)); simp only [Act.put, List.setIfInBounds_toArray, List.set_cons_zero, List.set_cons_succ]) | (refine ckT_load hS rfl rfl rfl (by simp) (by repeat (first | exact List.Mem.head _ | apply List.Mem.tail)) rfl (by decide +kernel) ?_; simp only [Act.put, List.setIfInBounds_toArray, List.set_cons_zero, List.set_cons_succ]) | (refine ckT_store hS rfl rfl rfl (by constructor) (by repeat (first | exact Upd.here _ _ _ | apply Upd.there)) (by simp) rfl (by decide +kernel) (by simp) ?_; clear hS; intro w hS; simp only [Act.put, List.setIfInBounds_toArray, List.set_cons_zero, List.set_cons_succ] at hS ⊢) | (refine wpT_skip rfl ?_; simp only [Act.put, List.setIfInBounds_toArray, List.set_cons_zero, List.set_cons_succ]) )); refine wpT_nil ?_))
  clear kN
  go_loopg [8] (n + 1) (fun g s wx => ∃ (k : Nat) (A : RA), k + g = n + 1 ∧ k ≤ n ∧ s = .int .i64 k ∧ Sep w0 [] [ringG b n (seqZ 0 k) A] wx)
  case atStart => exact ⟨0, A, by omega, by omega, rfl, hS⟩
  case round =>
    obtain ⟨k, A, hkg, hkn, rfl, hS⟩ := hrel
    generalize wr = w at hS ⊢
    by_cases hk : k < n
    · have kP := fun A => rPush b n (seqZ 0 k) A k (seqZ 0 (k + 1)) (by rw [← seqZ_snoc, Nat.zero_add]) (by rw [seqZ_len]; omega)
      clear hu hp hu' hq hu'' hs
      go_wp2_with (first | go_skip | (refine ck_load hS rfl rfl rfl (by repeat (first | exact List.Mem.head _ | apply List.Mem.tail)) rfl (by decide +kernel) ?_; simp only [Act.put, List.setIfInBounds_toArray, List.set_cons_zero, List.set_cons_succ]) | (refine ck_store hS rfl rfl rfl (by constructor) (by repeat (first | exact Upd.here _ _ _ | apply Upd.there)) (by simp <;> omega) rfl (by decide +kernel) ?_; clear hS; intro w hS; simp only [Act.put, List.setIfInBounds_toArray, List.set_cons_zero, List.set_cons_succ] at hS ⊢) | (refine ck_box hS rfl rfl (by constructor) ?_; clear hS; intro nb w hS; simp only [Act.put, List.setIfInBounds_toArray, List.set_cons_zero, List.set_cons_succ]) | (refine ck_max rfl rfl rfl rfl ?_; simp only [Act.put, List.setIfInBounds_toArray, List.set_cons_zero, List.set_cons_succ]) | (refine ck_min rfl rfl rfl rfl ?_; simp only [Act.put, List.setIfInBounds_toArray, List.set_cons_zero, List.set_cons_succ]) | (go_at_call 10; (with_reducible refine Ct.callE (kP _) (by first | exact Rem.here _ _ | (apply Rem.there; first | exact Rem.here _ _ | (apply Rem.there; first | exact Rem.here _ _ | (apply Rem.there; first | exact Rem.here _ _ | (apply Rem.there; first | exact Rem.here _ _ | (apply Rem.there; first | exact Rem.here _ _ | (apply Rem.there; first | exact Rem.here _ _ | (apply Rem.there; first | exact Rem.here _ _ | (apply Rem.there; first | exact Rem.here _ _ | (apply Rem.there; first | exact Rem.here _ _ | (apply Rem.there; first | exact Rem.here _ _ | (apply Rem.there; first | exact Rem.here _ _ | (apply Rem.there; first | exact Rem.here _ _ | (apply Rem.there; first | exact Rem.here _ _ | (apply Rem.there; exact Rem.here _ _))))))))))))))) hS ?_); clear hS; intro A w hS) | (refine ck_region (fun _ => 0) (fun _ => []) [] hS (by kernel_rfl) (by decide +kernel) ?_ ?_; exact ⟨fun _ _ _ h => h.2, fun _ _ h => h⟩; clear hS; intro w hS _; (repeat (first | (refine ckT_max rfl rfl rfl rfl ?_; simp only [Act.put, List.setIfInBounds_toArray, List.set_cons_zero, List.set_cons_succ]) | (refine ckT_min rfl rfl rfl rfl ?_; simp only [Act.put, List.setIfInBounds_toArray, List.set_cons_zero, List.set_cons_succ]) | (apply wpT_pure rfl rfl; (intro _; go_simp; (try (go_ints; (try go_simp))); (first | (rw [decide_eq_true]; omega) | (rw [decide_eq_false]; omega) | rfl)); simp only [Act.put, List.setIfInBounds_toArray, List.set_cons_zero, List.set_cons_succ]) | (refine ckT_load hS rfl rfl rfl (by simp) (by repeat (first | exact List.Mem.head _ | apply List.Mem.tail)) rfl (by decide +kernel) ?_; simp only [Act.put, List.setIfInBounds_toArray, List.set_cons_zero, List.set_cons_succ]) | (refine ckT_store hS rfl rfl rfl (by constructor) (by repeat (first | exact Upd.here _ _ _ | apply Upd.there)) (by simp) rfl (by decide +kernel) (by simp) ?_; clear hS; intro w hS; simp only [Act.put, List.setIfInBounds_toArray, List.set_cons_zero, List.set_cons_succ] at hS ⊢) | (refine wpT_skip rfl ?_; simp only [Act.put, List.setIfInBounds_toArray, List.set_cons_zero, List.set_cons_succ]) )); refine wpT_nil ?_))
      go_roundg (n - k)
      case rel => exact ⟨k + 1, A, by omega, by omega, by go_num, hS⟩
      case measure => omega
    · have hk' : k = n := by omega
      subst hk'
      clear hkg hkn hk hn
      go_wp2_with (first | go_skip | (refine ck_load hS rfl rfl rfl (by repeat (first | exact List.Mem.head _ | apply List.Mem.tail)) rfl (by decide +kernel) ?_; simp only [Act.put, List.setIfInBounds_toArray, List.set_cons_zero, List.set_cons_succ]) | (refine ck_store hS rfl rfl rfl (by constructor) (by repeat (first | exact Upd.here _ _ _ | apply Upd.there)) (by simp <;> omega) rfl (by decide +kernel) ?_; clear hS; intro w hS; simp only [Act.put, List.setIfInBounds_toArray, List.set_cons_zero, List.set_cons_succ] at hS ⊢) | (refine ck_box hS rfl rfl (by constructor) ?_; clear hS; intro nb w hS; simp only [Act.put, List.setIfInBounds_toArray, List.set_cons_zero, List.set_cons_succ]) | (refine ck_max rfl rfl rfl rfl ?_; simp only [Act.put, List.setIfInBounds_toArray, List.set_cons_zero, List.set_cons_succ]) | (refine ck_min rfl rfl rfl rfl ?_; simp only [Act.put, List.setIfInBounds_toArray, List.set_cons_zero, List.set_cons_succ])  | (refine ck_region (fun _ => 0) (fun _ => []) [] hS (by kernel_rfl) (by decide +kernel) ?_ ?_; exact ⟨fun _ _ _ h => h.2, fun _ _ h => h⟩; clear hS; intro w hS _; (repeat (first | (refine ckT_max rfl rfl rfl rfl ?_; simp only [Act.put, List.setIfInBounds_toArray, List.set_cons_zero, List.set_cons_succ]) | (refine ckT_min rfl rfl rfl rfl ?_; simp only [Act.put, List.setIfInBounds_toArray, List.set_cons_zero, List.set_cons_succ]) | (apply wpT_pure rfl rfl; (intro _; go_simp; (try (go_ints; (try go_simp))); (first | (rw [decide_eq_true]; omega) | (rw [decide_eq_false]; omega) | rfl)); simp only [Act.put, List.setIfInBounds_toArray, List.set_cons_zero, List.set_cons_succ]) | (refine ckT_load hS rfl rfl rfl (by simp) (by repeat (first | exact List.Mem.head _ | apply List.Mem.tail)) rfl (by decide +kernel) ?_; simp only [Act.put, List.setIfInBounds_toArray, List.set_cons_zero, List.set_cons_succ]) | (refine ckT_store hS rfl rfl rfl (by constructor) (by repeat (first | exact Upd.here _ _ _ | apply Upd.there)) (by simp) rfl (by decide +kernel) (by simp) ?_; clear hS; intro w hS; simp only [Act.put, List.setIfInBounds_toArray, List.set_cons_zero, List.set_cons_succ] at hS ⊢) | (refine wpT_skip rfl ?_; simp only [Act.put, List.setIfInBounds_toArray, List.set_cons_zero, List.set_cons_succ]) )); refine wpT_nil ?_))
      go_loopg [9] (t + 1) (fun g s wx => ∃ (j : Nat) (A : RA), j + g = t + 1 ∧ j ≤ t ∧ s = .int .i64 j ∧ Sep w0 [] [ringG b k (seqZ j k) A] wx)
      case atStart => exact ⟨0, A, by omega, by omega, rfl, hS⟩
      case round =>
        obtain ⟨j, A, hjg, hjt, rfl, hS⟩ := hrel
        generalize wr = w at hS ⊢
        have ek : k - 1 + 1 = k := by omega
        by_cases hj : j < t
        · have kO := fun A => ringPop b k (seqZ j k) A j (seqZ (j + 1) (k - 1)) (by rw [← seqZ_cons, ek])
          have kP := fun A => rPush b k (seqZ (j + 1) (k - 1)) A (k + j) (seqZ (j + 1) k) (by rw [show ((k : Int) + j) = ((j + 1 + (k - 1) : Nat) : Int) by omega, seqZ_snoc, ek]) (by rw [seqZ_len]; omega)
          clear hu hp hu' hq hu'' hs ek
          go_wp2_with (first | go_skip | (refine ck_load hS rfl rfl rfl (by repeat (first | exact List.Mem.head _ | apply List.Mem.tail)) rfl (by decide +kernel) ?_; simp only [Act.put, List.setIfInBounds_toArray, List.set_cons_zero, List.set_cons_succ]) | (refine ck_store hS rfl rfl rfl (by constructor) (by repeat (first | exact Upd.here _ _ _ | apply Upd.there)) (by simp <;> omega) rfl (by decide +kernel) ?_; clear hS; intro w hS; simp only [Act.put, List.setIfInBounds_toArray, List.set_cons_zero, List.set_cons_succ] at hS ⊢) | (refine ck_box hS rfl rfl (by constructor) ?_; clear hS; intro nb w hS; simp only [Act.put, List.setIfInBounds_toArray, List.set_cons_zero, List.set_cons_succ]) | (refine ck_max rfl rfl rfl rfl ?_; simp only [Act.put, List.setIfInBounds_toArray, List.set_cons_zero, List.set_cons_succ]) | (refine ck_min rfl rfl rfl rfl ?_; simp only [Act.put, List.setIfInBounds_toArray, List.set_cons_zero, List.set_cons_succ]) | (go_at_call 10; (with_reducible refine Ct.callE (kP _) (by first | exact Rem.here _ _ | (apply Rem.there; first | exact Rem.here _ _ | (apply Rem.there; first | exact Rem.here _ _ | (apply Rem.there; first | exact Rem.here _ _ | (apply Rem.there; first | exact Rem.here _ _ | (apply Rem.there; first | exact Rem.here _ _ | (apply Rem.there; first | exact Rem.here _ _ | (apply Rem.there; first | exact Rem.here _ _ | (apply Rem.there; first | exact Rem.here _ _ | (apply Rem.there; first | exact Rem.here _ _ | (apply Rem.there; first | exact Rem.here _ _ | (apply Rem.there; first | exact Rem.here _ _ | (apply Rem.there; first | exact Rem.here _ _ | (apply Rem.there; first | exact Rem.here _ _ | (apply Rem.there; exact Rem.here _ _))))))))))))))) hS ?_); clear hS; intro A w hS) | (go_at_call 9; (with_reducible refine Ct.callE (kO _) (by first | exact Rem.here _ _ | (apply Rem.there; first | exact Rem.here _ _ | (apply Rem.there; first | exact Rem.here _ _ | (apply Rem.there; first | exact Rem.here _ _ | (apply Rem.there; first | exact Rem.here _ _ | (apply Rem.there; first | exact Rem.here _ _ | (apply Rem.there; first | exact Rem.here _ _ | (apply Rem.there; first | exact Rem.here _ _ | (apply Rem.there; first | exact Rem.here _ _ | (apply Rem.there; first | exact Rem.here _ _ | (apply Rem.there; first | exact Rem.here _ _ | (apply Rem.there; first | exact Rem.here _ _ | (apply Rem.there; first | exact Rem.here _ _ | (apply Rem.there; first | exact Rem.here _ _ | (apply Rem.there; exact Rem.here _ _))))))))))))))) hS ?_); clear hS; intro A w hS) | (refine ck_region (fun _ => 0) (fun _ => []) [] hS (by kernel_rfl) (by decide +kernel) ?_ ?_; exact ⟨fun _ _ _ h => h.2, fun _ _ h => h⟩; clear hS; intro w hS _; (repeat (first | (refine ckT_max rfl rfl rfl rfl ?_; simp only [Act.put, List.setIfInBounds_toArray, List.set_cons_zero, List.set_cons_succ]) | (refine ckT_min rfl rfl rfl rfl ?_; simp only [Act.put, List.setIfInBounds_toArray, List.set_cons_zero, List.set_cons_succ]) | (apply wpT_pure rfl rfl; (intro _; go_simp; (try (go_ints; (try go_simp))); (first | (rw [decide_eq_true]; omega) | (rw [decide_eq_false]; omega) | rfl)); simp only [Act.put, List.setIfInBounds_toArray, List.set_cons_zero, List.set_cons_succ]) | (refine ckT_load hS rfl rfl rfl (by simp) (by repeat (first | exact List.Mem.head _ | apply List.Mem.tail)) rfl (by decide +kernel) ?_; simp only [Act.put, List.setIfInBounds_toArray, List.set_cons_zero, List.set_cons_succ]) | (refine ckT_store hS rfl rfl rfl (by constructor) (by repeat (first | exact Upd.here _ _ _ | apply Upd.there)) (by simp) rfl (by decide +kernel) (by simp) ?_; clear hS; intro w hS; simp only [Act.put, List.setIfInBounds_toArray, List.set_cons_zero, List.set_cons_succ] at hS ⊢) | (refine wpT_skip rfl ?_; simp only [Act.put, List.setIfInBounds_toArray, List.set_cons_zero, List.set_cons_succ]) )); refine wpT_nil ?_))
          go_roundg (t - j)
          case rel => exact ⟨j + 1, A, by omega, by omega, by go_num, hS⟩
          case measure => omega
        · have hj' : j = t := by omega
          subst hj'
          obtain ⟨m, hm⟩ : ∃ m, min st k = m := ⟨_, rfl⟩
          have hmm : min (st : Int) k = m := by omega
          obtain ⟨l, hl⟩ : ∃ l, (seqZ j k).take (max 1 (st : Int)).toNat = l := ⟨_, rfl⟩
          have hll : l.length = m := by rw [← hl, List.length_take, seqZ_len]; omega
          have hl0 : l = (j : Int) :: l.tail := by
            have : seqZ j k = (j : Int) :: seqZ (j + 1) (k - 1) := by rw [← seqZ_cons, ek]
            have e2 : (max 1 (st : Int)).toNat = (max 1 (st : Int)).toNat - 1 + 1 := by omega
            rw [← hl, this, e2, List.take_succ_cons]; rfl
          have hv0 : (vZ l)[0]? = some (.int .i64 j) := by rw [hl0]; rfl
          have hi0 : (vZ (iotaZ m))[0]? = some (.int .i64 0) := by
            obtain ⟨m', rfl⟩ : ∃ m', m = m' + 1 := ⟨m - 1, by omega⟩
            simp [iotaZ]
          have kR := rPairs b k (seqZ j k) A st (by rw [seqZ_len]; omega) l hl m hll
          have kF := ringPushFull b k (seqZ j k) A 7 (by rw [seqZ_len]; omega)
          have hm1 : 1 ≤ m := by omega
          clear hu hp hu' hq hu'' hs ek hm hl hll hl0
          go_wp2_with (first | go_skip | (refine ck_load hS rfl rfl rfl (by repeat (first | exact List.Mem.head _ | apply List.Mem.tail)) rfl (by decide +kernel) ?_; simp only [Act.put, List.setIfInBounds_toArray, List.set_cons_zero, List.set_cons_succ]) | (refine ck_store hS rfl rfl rfl (by constructor) (by repeat (first | exact Upd.here _ _ _ | apply Upd.there)) (by simp <;> omega) rfl (by decide +kernel) ?_; clear hS; intro w hS; simp only [Act.put, List.setIfInBounds_toArray, List.set_cons_zero, List.set_cons_succ] at hS ⊢) | (refine ck_box hS rfl rfl (by constructor) ?_; clear hS; intro nb w hS; simp only [Act.put, List.setIfInBounds_toArray, List.set_cons_zero, List.set_cons_succ]) | (refine ck_max rfl rfl rfl rfl ?_; simp only [Act.put, List.setIfInBounds_toArray, List.set_cons_zero, List.set_cons_succ]) | (refine ck_min rfl rfl rfl rfl ?_; simp only [Act.put, List.setIfInBounds_toArray, List.set_cons_zero, List.set_cons_succ]) | (go_at_call 10; (with_reducible refine Ct.callU (kF) (by repeat (first | exact Upd.here _ _ _ | apply Upd.there)) hS ?_) <;> (first | (clear hS; intro w hS) | omega)) | (go_at_call 10; with_reducible refine Ct.call0 (ringPushZ 1) hS ?_; clear hS; intro w hS) | (go_at_call 9; with_reducible refine Ct.call0 (ringPopZ) hS ?_; clear hS; intro w hS) | (go_at_call 12; with_reducible refine Ct.call0 (ringLenZ) hS ?_; clear hS; intro w hS) | (go_at_call 11; (refine Ct.call1 (kR) (by first | exact Rem.here _ _ | (apply Rem.there; first | exact Rem.here _ _ | (apply Rem.there; first | exact Rem.here _ _ | (apply Rem.there; first | exact Rem.here _ _ | (apply Rem.there; first | exact Rem.here _ _ | (apply Rem.there; first | exact Rem.here _ _ | (apply Rem.there; first | exact Rem.here _ _ | (apply Rem.there; first | exact Rem.here _ _ | (apply Rem.there; first | exact Rem.here _ _ | (apply Rem.there; first | exact Rem.here _ _ | (apply Rem.there; first | exact Rem.here _ _ | (apply Rem.there; first | exact Rem.here _ _ | (apply Rem.there; first | exact Rem.here _ _ | (apply Rem.there; first | exact Rem.here _ _ | (apply Rem.there; exact Rem.here _ _))))))))))))))) hS ?_); clear hS; rintro _ _ w ⟨a1, c1, a2, c2, rfl, rfl⟩ hS; simp only [List.cons_append, List.nil_append] at hS; obtain ⟨g1, rfl⟩ := hS.rowSome (a := a1) (n := m) (cap := c1) (e := 3) (sz := 1) (xs := vZ (iotaZ m)) (by repeat (first | exact List.Mem.head _ | apply List.Mem.tail)) (by omega); obtain ⟨g2, rfl⟩ := hS.rowSome (a := a2) (n := m) (cap := c2) (e := 3) (sz := 1) (xs := vZ l) (by repeat (first | exact List.Mem.head _ | apply List.Mem.tail)) (by omega)) | (refine ck_loadRow hS rfl rfl rfl (by repeat (first | exact List.Mem.head _ | apply List.Mem.tail)) hv0 (by decide +kernel) ?_; simp only [Act.put, List.setIfInBounds_toArray, List.set_cons_zero, List.set_cons_succ]) | (refine ck_loadRow hS rfl rfl rfl (by repeat (first | exact List.Mem.head _ | apply List.Mem.tail)) hi0 (by decide +kernel) ?_; simp only [Act.put, List.setIfInBounds_toArray, List.set_cons_zero, List.set_cons_succ]) | (refine ck_region (fun _ => 0) (fun _ => []) [] hS (by kernel_rfl) (by decide +kernel) ?_ ?_; exact ⟨fun _ _ _ h => h.2, fun _ _ h => h⟩; clear hS; intro w hS _; (repeat (first | (refine ckT_max rfl rfl rfl rfl ?_; simp only [Act.put, List.setIfInBounds_toArray, List.set_cons_zero, List.set_cons_succ]) | (refine ckT_min rfl rfl rfl rfl ?_; simp only [Act.put, List.setIfInBounds_toArray, List.set_cons_zero, List.set_cons_succ]) | (apply wpT_pure rfl rfl; (intro _; go_simp; (try (go_ints; (try go_simp))); (first | (rw [decide_eq_true]; omega) | (rw [decide_eq_false]; omega) | rfl)); simp only [Act.put, List.setIfInBounds_toArray, List.set_cons_zero, List.set_cons_succ]) | (refine ckT_load hS rfl rfl rfl (by simp) (by repeat (first | exact List.Mem.head _ | apply List.Mem.tail)) rfl (by decide +kernel) ?_; simp only [Act.put, List.setIfInBounds_toArray, List.set_cons_zero, List.set_cons_succ]) | (refine ckT_store hS rfl rfl rfl (by constructor) (by repeat (first | exact Upd.here _ _ _ | apply Upd.there)) (by simp) rfl (by decide +kernel) (by simp) ?_; clear hS; intro w hS; simp only [Act.put, List.setIfInBounds_toArray, List.set_cons_zero, List.set_cons_succ] at hS ⊢) | (refine wpT_skip rfl ?_; simp only [Act.put, List.setIfInBounds_toArray, List.set_cons_zero, List.set_cons_succ]) )); refine wpT_nil ?_))
          go_ret
          exact ⟨[], rfl, hS.dropN 100⟩
namespace ringRound
open Go.ChangeShapes Go.WideShapes Go.ChangeAt Go.RowKit
open Go.ChangeMaps (open_string shut_string)
theorem own : ownKnob Try.prog.godebug = none := by kernel_rfl
theorem laidOut : laidOutB Try.prog = true := by kernel_rfl
set_option maxRecDepth 100000 in
theorem lifted (os : Os) (started : os.Started) (H : Type) (enc : TypeId × Value → H) :
    ReturnsInHanded {} Try.checked os 4 .any (Rows.ringRoundSpec.pre6 enc Try.prog Try.f4 Rows.ringRoundRow.domain false) (Rows.ringRoundSpec.post enc Try.prog Try.f4 false true false false) := by
  refine returnsInHanded_of_change (C := Try.checked) own started (by kernel_rfl) Try.func4
    (ChangeSpec.witness6 (enc := enc) (C := Try.checked) false ⟨#[], #[.int .i64 0, .int .i64 0, .int .i64 0], []⟩ 8 (by kernel_rfl) (by kernel_rfl) (by kernel_rfl) (by kernel_rfl)) ?_
  intro W base args ds gs before hval0 hW hcnd _
  have hval : ∀ (j : Nat) t v, Try.f4.params[j]? = some t → args[j]? = some v → Value.okWide Try.prog W .any base t v := hval0
  have hW' := hW
  obtain ⟨p, q, hA0, hV, rfl, hfz, hnd⟩ := hW
  have hA : DataW.TrodAll enc Try.prog W 0 (fun _ => true) true Try.f4.params.toList args.toList ds p := hA0
  rw [Try.params4] at hA hval
  obtain ⟨v0, vs0, d0, ds0, p0, q0, hargs, rfl, rfl, h0, r0⟩ := trodAll_cons hA
  obtain ⟨v1, vs1, d1, ds1, p1, q1, rfl, rfl, rfl, h1, r1⟩ := trodAll_cons r0
  obtain ⟨v2, vs2, d2, ds2, p2, q2, rfl, rfl, rfl, h2, r2⟩ := trodAll_cons r1
  obtain ⟨rfl, rfl, rfl⟩ := trodAll_nil r2
  obtain rfl : args = #[v0, v1, v2] := by cases args; simp_all
  obtain ⟨rfl, rfl⟩ := trodVars_none hV
  obtain ⟨a0, rfl, rfl, rfl, w0⟩ := open_int Try.underlying3 (hval 0 3 v0 rfl rfl) h0
  obtain ⟨a1, rfl, rfl, rfl, w1⟩ := open_int Try.underlying3 (hval 1 3 v1 rfl rfl) h1
  obtain ⟨a2, rfl, rfl, rfl, w2⟩ := open_int Try.underlying3 (hval 2 3 v2 rfl rfl) h2
  clear hA0 hval0
  refine (ringRound_walk W a0 (wf_i64 w0).1 (wf_i64 w0).2 a1 (wf_i64 w1).1 (wf_i64 w1).2 a2 (wf_i64 w2).1 (wf_i64 w2).2).mono fun e W' hR => ?_
  obtain ⟨he, bel⟩ := LawR.out hR
  subst he
  exact ⟨_, rfl, _, _, _, [], _, [], hW', trodAll_mk1 (shut_bool Try.underlying4 _), (trodAll_cons_mk (shut_int Try.underlying3 w0) (trodAll_cons_mk (shut_int Try.underlying3 w1) (trodAll_cons_mk (shut_int Try.underlying3 w2) trodAll_mk0))), rfl, bel.frame _, fun h => by cases h⟩
theorem over : Rows.ringRoundRow.holds Try.pinned (OpenSpec.ofChange Rows.ringRoundSpec) :=
  OpenClaim.holds_of_wide 4 Try.f4 rfl rfl rfl rfl rfl rfl rfl ⟨rfl, rfl, rfl, rfl, rfl⟩ rfl rfl rfl rfl rfl (by kernel_rfl) Try.func4 (by kernel_rfl)
    (of_decide_eq_true (by kernel_rfl)) (by unfold Func.isWrapper; first | (rw [if_pos (by decide +kernel)]; kernel_rfl) | (rw [if_neg (by decide +kernel)]; exact ⟨rfl, rfl⟩))
    (fun os started H enc _ => lifted os started H enc)
theorem proved : Rows.RingRoundSaid := over
#print axioms proved
end ringRound
end Go.Proofs.Ytchejceolnbcbaa
