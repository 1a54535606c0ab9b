/- A ring's numbers, ranged over. -/
import Derived.Test.YtchejceolnbcbaaRing
import Derived.WalkKit
import Derived.WalkSpells
import Derived.WalkLawsBesides
import Derived.WalkMore
import Derived.Deep.LoopGhost
set_option linter.unusedVariables false
set_option linter.unusedSimpArgs false
namespace Go.Proofs.Ytchejceolnbcbaa
open Go.RowKit
def enq (q : List Int) (k : Nat) : List (Nat × Int) := (List.range k).map fun i => (i, (q[i]?).getD 0)
def enS (q : List Int) (k n : Nat) : List (Nat × Int) := (List.range' k (n - k)).map fun i => (i, (q[i]?).getD 0)
section
variable {q : List Int} {k n : Nat}
theorem enq_split (h : k ≤ n) : enq q n = enq q k ++ enS q k n := by
  unfold enq enS
  rw [← List.map_append]
  congr 1
  rw [List.range_eq_range', List.range_eq_range', show n = k + (n - k) by omega]
  have := List.range'_append (s := 0) (m := k) (n := n - k) (step := 1)
  simp only [Nat.zero_add, Nat.one_mul] at this
  rw [show k + (n - k) - k = n - k by omega]
  exact this.symm
theorem enS_cons {x : Int} (h : k < n) (hx : q[k]? = some x) : enS q k n = (k, x) :: enS q (k + 1) n := by
  unfold enS
  obtain ⟨m, hm⟩ : ∃ m, n - k = m + 1 := ⟨n - k - 1, by omega⟩
  rw [hm, show n - (k + 1) = m by omega, List.range'_succ, List.map_cons, hx]; rfl
theorem enq_succ {x : Int} (hx : q[k]? = some x) : enq q (k + 1) = enq q k ++ [(k, x)] := by
  unfold enq; rw [List.range_succ, List.map_append, List.map_cons, hx]; rfl
theorem enq_len : (enq q k).length = k := by unfold enq; simp
theorem enq_all (hn : q.length = n) : (enq q n).map (·.2) = q := by
  unfold enq
  rw [List.map_map]
  apply List.ext_getElem?
  intro i
  rw [List.getElem?_map]
  by_cases h : i < n
  · rw [List.getElem?_range h, List.getElem?_eq_getElem (by omega)]; simp [List.getElem?_eq_getElem (show i < q.length by omega)]
  · rw [List.getElem?_eq_none (by simp; omega), List.getElem?_eq_none (by omega)]; rfl
end
abbrev encP (x : Nat × Int) : Array Value := #[.int .i64 (x.1 : Int), .int .i64 x.2]
section
variable (bx b : Nat) (N : Int) (q : List Int) (A : RA)
theorem ringAll_ct (b : Option Addr) : Ct Try.prog 16 #[.pointer b] [] (fun v L => ∃ bx, v = .func (.func 20) #[] #[.pointer (some ⟨bx, 0, none⟩)] ∧ L = [pts bx [.pointer b] 23]) := by
  intro w0 F L w hS
  simp only [List.cons_append, List.nil_append] at hS
  go_enter Try.func16, Try.ntmps16
  go_wp2_with (first | go_skip | (refine ck_load hS rfl rfl rfl (by repeat (first | exact List.Mem.head _ | apply List.Mem.tail)) rfl (by decide +kernel) ?_; simp only [Act.put, List.setIfInBounds_toArray, List.set_cons_zero, List.set_cons_succ]) | (refine ck_store hS rfl rfl rfl (by constructor) (by repeat (first | exact Upd.here _ _ _ | apply Upd.there)) (by simp <;> omega) rfl (by decide +kernel) ?_; clear hS; intro w hS; simp only [Act.put, List.setIfInBounds_toArray, List.set_cons_zero, List.set_cons_succ] at hS ⊢) | (refine ck_box hS rfl rfl (by constructor) ?_; clear hS; intro nb w hS; simp only [Act.put, List.setIfInBounds_toArray, List.set_cons_zero, List.set_cons_succ]) | (refine ck_max rfl rfl rfl rfl ?_; simp only [Act.put, List.setIfInBounds_toArray, List.set_cons_zero, List.set_cons_succ]) | (refine ck_min rfl rfl rfl rfl ?_; simp only [Act.put, List.setIfInBounds_toArray, List.set_cons_zero, List.set_cons_succ])  | (refine ck_region (fun _ => 0) (fun _ => []) [] hS (by kernel_rfl) (by decide +kernel) ?_ ?_; exact ⟨fun _ _ _ h => h.2, fun _ _ h => h⟩; clear hS; intro w hS _; (repeat (first | (refine ckT_max rfl rfl rfl rfl ?_; simp only [Act.put, List.setIfInBounds_toArray, List.set_cons_zero, List.set_cons_succ]) | (refine ckT_min rfl rfl rfl rfl ?_; simp only [Act.put, List.setIfInBounds_toArray, List.set_cons_zero, List.set_cons_succ]) | (apply wpT_pure rfl rfl; (intro _; go_simp; (try (go_ints; (try go_simp))); (first | (rw [decide_eq_true]; omega) | (rw [decide_eq_false]; omega) | rfl)); simp only [Act.put, List.setIfInBounds_toArray, List.set_cons_zero, List.set_cons_succ]) | (refine ckT_load hS rfl rfl rfl (by simp) (by repeat (first | exact List.Mem.head _ | apply List.Mem.tail)) rfl (by decide +kernel) ?_; simp only [Act.put, List.setIfInBounds_toArray, List.set_cons_zero, List.set_cons_succ]) | (refine ckT_store hS rfl rfl rfl (by constructor) (by repeat (first | exact Upd.here _ _ _ | apply Upd.there)) (by simp) rfl (by decide +kernel) (by simp) ?_; clear hS; intro w hS; simp only [Act.put, List.setIfInBounds_toArray, List.set_cons_zero, List.set_cons_succ] at hS ⊢) | (refine wpT_skip rfl ?_; simp only [Act.put, List.setIfInBounds_toArray, List.set_cons_zero, List.set_cons_succ]) )); refine wpT_nil ?_))
  go_ret
  exact ⟨_, ⟨_, rfl, rfl⟩, hS⟩
set_option maxHeartbeats 4000000 in
theorem ringIter (hq : q.length ≤ 4096) : IterCt Try.prog 20 #[.pointer (some ⟨bx, 0, none⟩)] encP (enq q q.length) [pts bx [.pointer (some ⟨b, 0, none⟩)] 23, ringG b N q A] := by
  intro σ y S go _ hY C w0 F L w hS
  simp only [List.cons_append, List.nil_append] at hS
  have kL := ringLen b N q A
  obtain ⟨n, hn⟩ : ∃ n, q.length = n := ⟨_, rfl⟩
  rw [hn] at hY kL hq ⊢
  show Calls _ _ #[y, .pointer (some ⟨bx, 0, none⟩)] _ _
  go_enter Try.func20, Try.ntmps20
  go_wp2_with (first | go_skip | (refine ck_load hS rfl rfl rfl (by repeat (first | exact List.Mem.head _ | apply List.Mem.tail)) rfl (by decide +kernel) ?_; simp only [Act.put, List.setIfInBounds_toArray, List.set_cons_zero, List.set_cons_succ]) | (refine ck_store hS rfl rfl rfl (by constructor) (by repeat (first | exact Upd.here _ _ _ | apply Upd.there)) (by simp <;> omega) rfl (by decide +kernel) ?_; clear hS; intro w hS; simp only [Act.put, List.setIfInBounds_toArray, List.set_cons_zero, List.set_cons_succ] at hS ⊢) | (refine ck_box hS rfl rfl (by constructor) ?_; clear hS; intro nb w hS; simp only [Act.put, List.setIfInBounds_toArray, List.set_cons_zero, List.set_cons_succ]) | (refine ck_max rfl rfl rfl rfl ?_; simp only [Act.put, List.setIfInBounds_toArray, List.set_cons_zero, List.set_cons_succ]) | (refine ck_min rfl rfl rfl rfl ?_; simp only [Act.put, List.setIfInBounds_toArray, List.set_cons_zero, List.set_cons_succ]) | (go_at_call 12; (with_reducible refine Ct.callU (kL) (by repeat (first | exact Upd.here _ _ _ | apply Upd.there)) hS ?_) <;> (first | (clear hS; intro w hS) | omega)) | (refine ck_region (fun _ => 0) (fun _ => []) [] hS (by kernel_rfl) (by decide +kernel) ?_ ?_; exact ⟨fun _ _ _ h => h.2, fun _ _ h => h⟩; clear hS; intro w hS _; (repeat (first | (refine ckT_max rfl rfl rfl rfl ?_; simp only [Act.put, List.setIfInBounds_toArray, List.set_cons_zero, List.set_cons_succ]) | (refine ckT_min rfl rfl rfl rfl ?_; simp only [Act.put, List.setIfInBounds_toArray, List.set_cons_zero, List.set_cons_succ]) | (apply wpT_pure rfl rfl; (intro _; go_simp; (try (go_ints; (try go_simp))); (first | (rw [decide_eq_true]; omega) | (rw [decide_eq_false]; omega) | rfl)); simp only [Act.put, List.setIfInBounds_toArray, List.set_cons_zero, List.set_cons_succ]) | (refine ckT_load hS rfl rfl rfl (by simp) (by repeat (first | exact List.Mem.head _ | apply List.Mem.tail)) rfl (by decide +kernel) ?_; simp only [Act.put, List.setIfInBounds_toArray, List.set_cons_zero, List.set_cons_succ]) | (refine ckT_store hS rfl rfl rfl (by constructor) (by repeat (first | exact Upd.here _ _ _ | apply Upd.there)) (by simp) rfl (by decide +kernel) (by simp) ?_; clear hS; intro w hS; simp only [Act.put, List.setIfInBounds_toArray, List.set_cons_zero, List.set_cons_succ] at hS ⊢) | (refine wpT_skip rfl ?_; simp only [Act.put, List.setIfInBounds_toArray, List.set_cons_zero, List.set_cons_succ]) )); refine wpT_nil ?_))
  go_loopg [8] (n + 1) (fun g s wx => ∃ (k : Nat) (C : σ), k + g = n + 1 ∧ k ≤ n ∧ s = .int .i64 k ∧ okP go (enq q k) = true ∧ runP go [] (enq q n) = runP go (enq q k) (enS q k n) ∧
    Sep w0 F (S C (enq q k) :: pts bx [.pointer (some ⟨b, 0, none⟩)] 23 :: ringG b N q A :: L) wx)
  case atStart => exact ⟨0, C, by omega, by omega, rfl, rfl, by have := enq_split (q := q) (k := 0) (n := n) (by omega); rw [show enq q 0 = [] from rfl, List.nil_append] at this; rw [← this]; rfl, hS⟩
  case round =>
    obtain ⟨k, C, hkg, hkn, rfl, hok, hrun, hS⟩ := hrel
    generalize wr = w at hS ⊢
    by_cases hk : k < n
    · obtain ⟨x, hx⟩ : ∃ x, q[k]? = some x := ⟨q[k], List.getElem?_eq_getElem (by omega)⟩
      have kA := ringAt b N q A k x hx
      have kY := hY (enq q k) (k, x) (enS q (k + 1) n) (by rw [enq_split (show k ≤ n by omega), enS_cons hk hx]) hok C
      rw [← enq_succ hx] at kY
      rw [enS_cons hk hx] at hrun
      cases hg : go (enq q (k + 1))
      · have hrun' : runP go [] (enq q n) = enq q (k + 1) := by rw [hrun, runP, ← enq_succ hx, if_neg (by rw [hg]; simp)]
        rw [hg] at kY
        clear hrun hok hx hY hn hg
        (repeat (first | (refine ckI_region ?_; (repeat (first | (refine ckI_skip rfl ?_; simp only [Act.put, List.setIfInBounds_toArray, List.set_cons_zero, List.set_cons_succ]) | (apply ckI_pure rfl rfl; (intro _; go_simp; (try (go_ints; (try go_simp))); (first | (rw [decide_eq_true]; omega) | (rw [decide_eq_false]; omega) | rfl)); simp only [Act.put, List.setIfInBounds_toArray, List.set_cons_zero, List.set_cons_succ]) | (refine ckI_load hS rfl rfl rfl (by repeat (first | exact List.Mem.head _ | apply List.Mem.tail)) rfl (by decide +kernel) ?_; simp only [Act.put, List.setIfInBounds_toArray, List.set_cons_zero, List.set_cons_succ]) | (refine ckI_yieldS hS rfl (kY) (by first | exact Rem.here _ _ | (apply Rem.there; first | exact Rem.here _ _ | (apply Rem.there; first | exact Rem.here _ _ | (apply Rem.there; first | exact Rem.here _ _ | (apply Rem.there; first | exact Rem.here _ _ | (apply Rem.there; first | exact Rem.here _ _ | (apply Rem.there; first | exact Rem.here _ _ | (apply Rem.there; first | exact Rem.here _ _ | (apply Rem.there; first | exact Rem.here _ _ | (apply Rem.there; first | exact Rem.here _ _ | (apply Rem.there; first | exact Rem.here _ _ | (apply Rem.there; first | exact Rem.here _ _ | (apply Rem.there; first | exact Rem.here _ _ | (apply Rem.there; first | exact Rem.here _ _ | (apply Rem.there; exact Rem.here _ _))))))))))))))) rfl rfl rfl ?_; clear hS; intro A w hS; simp only [Act.put, List.setIfInBounds_toArray, List.set_cons_zero, List.set_cons_succ]))); refine wpListIn_nil ?_) | go_skip | (refine ck_load hS rfl rfl rfl (by repeat (first | exact List.Mem.head _ | apply List.Mem.tail)) rfl (by decide +kernel) ?_; simp only [Act.put, List.setIfInBounds_toArray, List.set_cons_zero, List.set_cons_succ]) | (go_at_call 14; (with_reducible refine Ct.callU (kA) (by repeat (first | exact Upd.here _ _ _ | apply Upd.there)) hS ?_) <;> (first | (clear hS; intro w hS) | omega)) | go_values | go_skip | go_guarded | go_step | go_upon | go_back | (simp only [Int.not_lt, Int.not_le] at *; go_simp)))
        refine bodyPost_ret (results_none rfl _ _ _) rfl ?_
        exact ⟨_, ⟨rfl, A, by rw [hrun']⟩, hS⟩
      · have hrun' : runP go [] (enq q n) = runP go (enq q (k + 1)) (enS q (k + 1) n) := by rw [hrun, runP, ← enq_succ hx, if_pos hg]
        have hok' : okP go (enq q (k + 1)) = true := by unfold okP; rw [hg]; simp
        rw [hg] at kY
        clear hrun hok hx hY hn hg
        (repeat (first | (refine ckI_region ?_; (repeat (first | (refine ckI_skip rfl ?_; simp only [Act.put, List.setIfInBounds_toArray, List.set_cons_zero, List.set_cons_succ]) | (apply ckI_pure rfl rfl; (intro _; go_simp; (try (go_ints; (try go_simp))); (first | (rw [decide_eq_true]; omega) | (rw [decide_eq_false]; omega) | rfl)); simp only [Act.put, List.setIfInBounds_toArray, List.set_cons_zero, List.set_cons_succ]) | (refine ckI_load hS rfl rfl rfl (by repeat (first | exact List.Mem.head _ | apply List.Mem.tail)) rfl (by decide +kernel) ?_; simp only [Act.put, List.setIfInBounds_toArray, List.set_cons_zero, List.set_cons_succ]) | (refine ckI_yieldS hS rfl (kY) (by first | exact Rem.here _ _ | (apply Rem.there; first | exact Rem.here _ _ | (apply Rem.there; first | exact Rem.here _ _ | (apply Rem.there; first | exact Rem.here _ _ | (apply Rem.there; first | exact Rem.here _ _ | (apply Rem.there; first | exact Rem.here _ _ | (apply Rem.there; first | exact Rem.here _ _ | (apply Rem.there; first | exact Rem.here _ _ | (apply Rem.there; first | exact Rem.here _ _ | (apply Rem.there; first | exact Rem.here _ _ | (apply Rem.there; first | exact Rem.here _ _ | (apply Rem.there; first | exact Rem.here _ _ | (apply Rem.there; first | exact Rem.here _ _ | (apply Rem.there; first | exact Rem.here _ _ | (apply Rem.there; exact Rem.here _ _))))))))))))))) rfl rfl rfl ?_; clear hS; intro A w hS; simp only [Act.put, List.setIfInBounds_toArray, List.set_cons_zero, List.set_cons_succ]))); refine wpListIn_nil ?_) | go_skip | (refine ck_load hS rfl rfl rfl (by repeat (first | exact List.Mem.head _ | apply List.Mem.tail)) rfl (by decide +kernel) ?_; simp only [Act.put, List.setIfInBounds_toArray, List.set_cons_zero, List.set_cons_succ]) | (go_at_call 14; (with_reducible refine Ct.callU (kA) (by repeat (first | exact Upd.here _ _ _ | apply Upd.there)) hS ?_) <;> (first | (clear hS; intro w hS) | omega)) | go_values | go_skip | go_guarded | go_step | go_upon | go_back | (simp only [Int.not_lt, Int.not_le] at *; go_simp)))
        go_roundg (n - k)
        case rel => exact ⟨k + 1, A, by omega, by omega, by go_num, hok', hrun', hS⟩
        case measure => omega
    · have hkn' : k = n := by omega
      subst hkn'
      have hrun' : runP go [] (enq q k) = enq q k := by rw [hrun]; simp [enS, runP]
      clear hrun hY hn
      go_wp2_with (first | go_skip | (refine ck_load hS rfl rfl rfl (by repeat (first | exact List.Mem.head _ | apply List.Mem.tail)) rfl (by decide +kernel) ?_; simp only [Act.put, List.setIfInBounds_toArray, List.set_cons_zero, List.set_cons_succ]) | (refine ck_store hS rfl rfl rfl (by constructor) (by repeat (first | exact Upd.here _ _ _ | apply Upd.there)) (by simp <;> omega) rfl (by decide +kernel) ?_; clear hS; intro w hS; simp only [Act.put, List.setIfInBounds_toArray, List.set_cons_zero, List.set_cons_succ] at hS ⊢) | (refine ck_box hS rfl rfl (by constructor) ?_; clear hS; intro nb w hS; simp only [Act.put, List.setIfInBounds_toArray, List.set_cons_zero, List.set_cons_succ]) | (refine ck_max rfl rfl rfl rfl ?_; simp only [Act.put, List.setIfInBounds_toArray, List.set_cons_zero, List.set_cons_succ]) | (refine ck_min rfl rfl rfl rfl ?_; simp only [Act.put, List.setIfInBounds_toArray, List.set_cons_zero, List.set_cons_succ])  | (refine ck_region (fun _ => 0) (fun _ => []) [] hS (by kernel_rfl) (by decide +kernel) ?_ ?_; exact ⟨fun _ _ _ h => h.2, fun _ _ h => h⟩; clear hS; intro w hS _; (repeat (first | (refine ckT_max rfl rfl rfl rfl ?_; simp only [Act.put, List.setIfInBounds_toArray, List.set_cons_zero, List.set_cons_succ]) | (refine ckT_min rfl rfl rfl rfl ?_; simp only [Act.put, List.setIfInBounds_toArray, List.set_cons_zero, List.set_cons_succ]) | (apply wpT_pure rfl rfl; (intro _; go_simp; (try (go_ints; (try go_simp))); (first | (rw [decide_eq_true]; omega) | (rw [decide_eq_false]; omega) | rfl)); simp only [Act.put, List.setIfInBounds_toArray, List.set_cons_zero, List.set_cons_succ]) | (refine ckT_load hS rfl rfl rfl (by simp) (by repeat (first | exact List.Mem.head _ | apply List.Mem.tail)) rfl (by decide +kernel) ?_; simp only [Act.put, List.setIfInBounds_toArray, List.set_cons_zero, List.set_cons_succ]) | (refine ckT_store hS rfl rfl rfl (by constructor) (by repeat (first | exact Upd.here _ _ _ | apply Upd.there)) (by simp) rfl (by decide +kernel) (by simp) ?_; clear hS; intro w hS; simp only [Act.put, List.setIfInBounds_toArray, List.set_cons_zero, List.set_cons_succ] at hS ⊢) | (refine wpT_skip rfl ?_; simp only [Act.put, List.setIfInBounds_toArray, List.set_cons_zero, List.set_cons_succ]) )); refine wpT_nil ?_))
      refine bodyPost_end (results_none rfl _ _ _) rfl ?_
      exact ⟨_, ⟨rfl, C, by rw [hrun']⟩, hS⟩
end
end Go.Proofs.Ytchejceolnbcbaa
