/- What ring's Push comes to. -/
import Derived.Test.YtchejceolnbcbaaRingGrow
import Derived.WalkKit
import Derived.WalkSpells
import Derived.WalkLawsBesides
import Derived.WalkMore
import Derived.Deep.LoopGhost
set_option linter.unusedVariables false
set_option linter.unusedSimpArgs false
namespace Go.Proofs.Ytchejceolnbcbaa
open Go.RowKit
theorem mod_ne {fr i k n : Nat} (h1 : i < k) (h2 : k < n) : (fr + i) % n ≠ (fr + k) % n := by
  intro e
  have h := Nat.sub_mod_eq_zero_of_mod_eq e.symm
  rw [show fr + k - (fr + i) = k - i by omega, Nat.mod_eq_of_lt (by omega)] at h
  omega
theorem RingOk.push {N x : Int} {q buf : List Int} {fr n k m : Nat} (h : RingOk N q buf fr) (hn : buf.length = n) (hk : q.length = k) (hkn : k < n) (hm : (fr + k) % n = m) : RingOk N (q ++ [x]) (buf.set m x) fr := by
  obtain ⟨h1, h2, h3, h4, h5⟩ := h
  refine ⟨by simp; omega, by simpa using h2, h3, by simpa using h4, fun i hi => ?_⟩
  simp at hi
  rw [List.length_set, hn]
  have hmn : m < n := by rw [← hm]; exact Nat.mod_lt _ (by omega)
  by_cases e : i = k
  · subst e
    rw [hm, List.getElem?_set_self (by omega), ← hk, List.getElem?_append_right (Nat.le_refl _)]; simp
  · have := mod_ne (fr := fr) (i := i) (k := k) (n := n) (by omega) hkn
    rw [hm] at this
    rw [List.getElem?_set_ne (Ne.symm this), List.getElem?_append_left (by omega), ← hn]
    exact h5 i (by omega)
section
variable (b : Nat) (N : Int) (q : List Int) (A : RA)
theorem ringGrow (hN : q.length < N) : Ct Try.prog 15 #[.pointer (some ⟨b, 0, none⟩)] [ringG b N q A] (fun v L => v = .tuple #[] ∧ ∃ A', L = [ringH b N q A']) := by
  intro w0 F L w hS
  obtain ⟨h1, h2, h3, h4, h5⟩ := (Sep.grp.2 hS).factOf (p := RingOk N q A.2.2.1 A.2.2.2) (by repeat (first | exact List.Mem.head _ | apply List.Mem.tail))
  by_cases h : q.length < A.2.2.1.length
  · exact ringGrow0 b N q A h w0 F L w hS
  · exact ringGrow1 b N q A (by omega) hN h3 w0 F L w hS
theorem ringPushZ (x : Int) : Ct Try.prog 10 #[.pointer none, .int .i64 x] [] (Gives (.int .i64 2) []) := by
  intro w0 F L w hS
  simp only [List.cons_append, List.nil_append] at hS
  go_enter Try.func10, Try.ntmps10
  go_wp2_with (first | go_skip | (refine ck_load hS rfl rfl rfl (by repeat (first | exact List.Mem.head _ | apply List.Mem.tail)) rfl (by decide +kernel) ?_; simp only [Act.put, List.setIfInBounds_toArray, List.set_cons_zero, List.set_cons_succ]) | (refine ck_store hS rfl rfl rfl (by constructor) (by repeat (first | exact Upd.here _ _ _ | apply Upd.there)) (by simp <;> omega) rfl (by decide +kernel) ?_; clear hS; intro w hS; simp only [Act.put, List.setIfInBounds_toArray, List.set_cons_zero, List.set_cons_succ] at hS ⊢) | (refine ck_box hS rfl rfl (by constructor) ?_; clear hS; intro nb w hS; simp only [Act.put, List.setIfInBounds_toArray, List.set_cons_zero, List.set_cons_succ]) | (refine ck_max rfl rfl rfl rfl ?_; simp only [Act.put, List.setIfInBounds_toArray, List.set_cons_zero, List.set_cons_succ]) | (refine ck_min rfl rfl rfl rfl ?_; simp only [Act.put, List.setIfInBounds_toArray, List.set_cons_zero, List.set_cons_succ])  | (refine ck_region (fun _ => 0) (fun _ => []) [] hS (by kernel_rfl) (by decide +kernel) ?_ ?_; exact ⟨fun _ _ _ h => h.2, fun _ _ h => h⟩; clear hS; intro w hS _; (repeat (first | (refine ckT_max rfl rfl rfl rfl ?_; simp only [Act.put, List.setIfInBounds_toArray, List.set_cons_zero, List.set_cons_succ]) | (refine ckT_min rfl rfl rfl rfl ?_; simp only [Act.put, List.setIfInBounds_toArray, List.set_cons_zero, List.set_cons_succ]) | (apply wpT_pure rfl rfl; (intro _; go_simp; (try (go_ints; (try go_simp))); (first | (rw [decide_eq_true]; omega) | (rw [decide_eq_false]; omega) | rfl)); simp only [Act.put, List.setIfInBounds_toArray, List.set_cons_zero, List.set_cons_succ]) | (refine ckT_load hS rfl rfl rfl (by simp) (by repeat (first | exact List.Mem.head _ | apply List.Mem.tail)) rfl (by decide +kernel) ?_; simp only [Act.put, List.setIfInBounds_toArray, List.set_cons_zero, List.set_cons_succ]) | (refine ckT_store hS rfl rfl rfl (by constructor) (by repeat (first | exact Upd.here _ _ _ | apply Upd.there)) (by simp) rfl (by decide +kernel) (by simp) ?_; clear hS; intro w hS; simp only [Act.put, List.setIfInBounds_toArray, List.set_cons_zero, List.set_cons_succ] at hS ⊢) | (refine wpT_skip rfl ?_; simp only [Act.put, List.setIfInBounds_toArray, List.set_cons_zero, List.set_cons_succ]) )); refine wpT_nil ?_))
  go_ret
  exact ⟨_, ⟨rfl, rfl⟩, hS⟩
theorem ringPushFull0 (x : Int) (hf : N ≤ q.length) : Ct Try.prog 10 #[.pointer (some ⟨b, 0, none⟩), .int .i64 x] [ringP b N q.length A] (Gives (.int .i64 5) [ringP b N q.length A]) := by
  intro w0 F L w hS
  simp only [List.cons_append, List.nil_append] at hS
  go_enter Try.func10, Try.ntmps10
  go_wp2_with (first | go_skip | (refine ck_load hS rfl rfl rfl (by repeat (first | exact List.Mem.head _ | apply List.Mem.tail)) rfl (by decide +kernel) ?_; simp only [Act.put, List.setIfInBounds_toArray, List.set_cons_zero, List.set_cons_succ]) | (refine ck_store hS rfl rfl rfl (by constructor) (by repeat (first | exact Upd.here _ _ _ | apply Upd.there)) (by simp <;> omega) rfl (by decide +kernel) ?_; clear hS; intro w hS; simp only [Act.put, List.setIfInBounds_toArray, List.set_cons_zero, List.set_cons_succ] at hS ⊢) | (refine ck_box hS rfl rfl (by constructor) ?_; clear hS; intro nb w hS; simp only [Act.put, List.setIfInBounds_toArray, List.set_cons_zero, List.set_cons_succ]) | (refine ck_max rfl rfl rfl rfl ?_; simp only [Act.put, List.setIfInBounds_toArray, List.set_cons_zero, List.set_cons_succ]) | (refine ck_min rfl rfl rfl rfl ?_; simp only [Act.put, List.setIfInBounds_toArray, List.set_cons_zero, List.set_cons_succ])  | (refine ck_region (fun _ => 0) (fun _ => []) [] hS (by kernel_rfl) (by decide +kernel) ?_ ?_; exact ⟨fun _ _ _ h => h.2, fun _ _ h => h⟩; clear hS; intro w hS _; (repeat (first | (refine ckT_max rfl rfl rfl rfl ?_; simp only [Act.put, List.setIfInBounds_toArray, List.set_cons_zero, List.set_cons_succ]) | (refine ckT_min rfl rfl rfl rfl ?_; simp only [Act.put, List.setIfInBounds_toArray, List.set_cons_zero, List.set_cons_succ]) | (apply wpT_pure rfl rfl; (intro _; go_simp; (try (go_ints; (try go_simp))); (first | (rw [decide_eq_true]; omega) | (rw [decide_eq_false]; omega) | rfl)); simp only [Act.put, List.setIfInBounds_toArray, List.set_cons_zero, List.set_cons_succ]) | (refine ckT_load hS rfl rfl rfl (by simp) (by repeat (first | exact List.Mem.head _ | apply List.Mem.tail)) rfl (by decide +kernel) ?_; simp only [Act.put, List.setIfInBounds_toArray, List.set_cons_zero, List.set_cons_succ]) | (refine ckT_store hS rfl rfl rfl (by constructor) (by repeat (first | exact Upd.here _ _ _ | apply Upd.there)) (by simp) rfl (by decide +kernel) (by simp) ?_; clear hS; intro w hS; simp only [Act.put, List.setIfInBounds_toArray, List.set_cons_zero, List.set_cons_succ] at hS ⊢) | (refine wpT_skip rfl ?_; simp only [Act.put, List.setIfInBounds_toArray, List.set_cons_zero, List.set_cons_succ]) )); refine wpT_nil ?_))
  go_ret
  exact ⟨_, ⟨rfl, rfl⟩, hS⟩
theorem ringPushFull (x : Int) (hf : N ≤ q.length) : Ct Try.prog 10 #[.pointer (some ⟨b, 0, none⟩), .int .i64 x] [ringG b N q A] (Gives (.int .i64 5) [ringG b N q A]) := ((ringPushFull0 b N q A x hf).frameU [ringB A, ringF N q A]).grpU
set_option maxHeartbeats 1000000 in
theorem ringPush (x : Int) (hN : q.length < N) : Ct Try.prog 10 #[.pointer (some ⟨b, 0, none⟩), .int .i64 x] [ringG b N q A] (fun v L => v = .int .i64 0 ∧ ∃ A', L = [ringG b N (q ++ [x]) A']) := by
  have kG := ringGrow b N q A hN
  obtain ⟨a, cap, buf, fr⟩ := A
  intro w0 F L w hS0
  obtain ⟨n, hn⟩ : ∃ n, buf.length = n := ⟨_, rfl⟩
  obtain ⟨k, hk⟩ : ∃ k, q.length = k := ⟨_, rfl⟩
  have hS := ringOpen hn (Sep.grp.2 hS0)
  clear hS0
  rw [hk] at hS hN
  have hN2 := (hS.factOf (p := RingOk N q buf fr) (by repeat (first | exact List.Mem.head _ | apply List.Mem.tail))).2.2.1
  have fin0 : ∀ {L : List Res} {w : World}, Sep w0 F (pts b [.slice a n cap, .int .i64 fr, .int .i64 k, .int .i64 N] 39 :: rowR a n cap 3 1 (vZ buf) :: pureR (RingOk N q buf fr) :: L) w → Sep w0 F (ringG b N q (a, cap, buf, fr) :: L) w := fun h => Sep.grp.1 (ringShut hn (by rw [hk]; exact h))
  clear hn
  go_enter Try.func10, Try.ntmps10
  go_wp2_with (first | go_skip | (refine ck_load hS rfl rfl rfl (by repeat (first | exact List.Mem.head _ | apply List.Mem.tail)) rfl (by decide +kernel) ?_; simp only [Act.put, List.setIfInBounds_toArray, List.set_cons_zero, List.set_cons_succ]) | (refine ck_store hS rfl rfl rfl (by constructor) (by repeat (first | exact Upd.here _ _ _ | apply Upd.there)) (by simp <;> omega) rfl (by decide +kernel) ?_; clear hS; intro w hS; simp only [Act.put, List.setIfInBounds_toArray, List.set_cons_zero, List.set_cons_succ] at hS ⊢) | (refine ck_box hS rfl rfl (by constructor) ?_; clear hS; intro nb w hS; simp only [Act.put, List.setIfInBounds_toArray, List.set_cons_zero, List.set_cons_succ]) | (refine ck_max rfl rfl rfl rfl ?_; simp only [Act.put, List.setIfInBounds_toArray, List.set_cons_zero, List.set_cons_succ]) | (refine ck_min rfl rfl rfl rfl ?_; simp only [Act.put, List.setIfInBounds_toArray, List.set_cons_zero, List.set_cons_succ])  | (refine ck_region (fun _ => 0) (fun _ => []) [] hS (by kernel_rfl) (by decide +kernel) ?_ ?_; exact ⟨fun _ _ _ h => h.2, fun _ _ h => h⟩; clear hS; intro w hS _; (repeat (first | (refine ckT_max rfl rfl rfl rfl ?_; simp only [Act.put, List.setIfInBounds_toArray, List.set_cons_zero, List.set_cons_succ]) | (refine ckT_min rfl rfl rfl rfl ?_; simp only [Act.put, List.setIfInBounds_toArray, List.set_cons_zero, List.set_cons_succ]) | (apply wpT_pure rfl rfl; (intro _; go_simp; (try (go_ints; (try go_simp))); (first | (rw [decide_eq_true]; omega) | (rw [decide_eq_false]; omega) | rfl)); simp only [Act.put, List.setIfInBounds_toArray, List.set_cons_zero, List.set_cons_succ]) | (refine ckT_load hS rfl rfl rfl (by simp) (by repeat (first | exact List.Mem.head _ | apply List.Mem.tail)) rfl (by decide +kernel) ?_; simp only [Act.put, List.setIfInBounds_toArray, List.set_cons_zero, List.set_cons_succ]) | (refine ckT_store hS rfl rfl rfl (by constructor) (by repeat (first | exact Upd.here _ _ _ | apply Upd.there)) (by simp) rfl (by decide +kernel) (by simp) ?_; clear hS; intro w hS; simp only [Act.put, List.setIfInBounds_toArray, List.set_cons_zero, List.set_cons_succ] at hS ⊢) | (refine wpT_skip rfl ?_; simp only [Act.put, List.setIfInBounds_toArray, List.set_cons_zero, List.set_cons_succ]) )); refine wpT_nil ?_))
  refine Ct.call (L := L) kG (fin0 hS) ?_
  clear hS fin0 kG
  rintro _ _ w ⟨rfl, ⟨a, cap, buf, fr⟩, rfl⟩ hS0
  obtain ⟨n, hn⟩ : ∃ n, buf.length = n := ⟨_, rfl⟩
  have hS := ringOpenH hn hk hS0
  clear hS0
  obtain ⟨hok, hkn⟩ := hS.factOf (p := RingOk N q buf fr ∧ q.length < buf.length) (by repeat (first | exact List.Mem.head _ | apply List.Mem.tail))
  rw [hk, hn] at hkn
  have hcap := (hS.rowFacts (a := a) (n := n) (cap := cap) (e := 3) (sz := 1) (xs := vZ buf) (by repeat (first | exact List.Mem.head _ | apply List.Mem.tail))).1
  have hn2 : n ≤ 4096 := by have := hok.2.1; omega
  obtain ⟨g, rfl⟩ := hS.rowSome (a := a) (n := n) (cap := cap) (e := 3) (sz := 1) (xs := vZ buf) (by repeat (first | exact List.Mem.head _ | apply List.Mem.tail)) (by omega)
  obtain ⟨m, hm, hmn, hmi⟩ := ringIx (fr := fr) (i := k) (n := n) (by omega)
  have hfr : fr < n := by have := hok.2.2.2.1; omega
  have hn0 : ¬ n = 0 := by omega
  have hok2 := hok.push (x := x) hn hk hkn hm
  have hl2 : (buf.set m x).length = n := by simpa using hn
  have hv : (vZ buf).set m (.int .i64 x) = vZ (buf.set m x) := by simp [List.map_set]
  have hvl : m < (vZ buf).length := by omega
  have hk2 : (q ++ [x]).length = k + 1 := by simp [hk]
  have fin : ∀ {w : World}, Sep w0 F (pts b [.slice (some ⟨g, 0, none⟩) n cap, .int .i64 fr, .int .i64 ((k + 1 : Nat) : Int), .int .i64 N] 39 :: rowR (some ⟨g, 0, none⟩) n cap 3 1 (vZ (buf.set m x)) :: pureR (RingOk N q buf fr ∧ q.length < buf.length) :: L) w → Sep w0 F ([ringG b N (q ++ [x]) (some ⟨g, 0, none⟩, cap, buf.set m x, fr)] ++ L) w := fun h => by
    have h1 := ((h.bring (r := pureR (RingOk N q buf fr ∧ q.length < buf.length)) (by first | exact Rem.here _ _ | (apply Rem.there; first | exact Rem.here _ _ | (apply Rem.there; first | exact Rem.here _ _ | (apply Rem.there; first | exact Rem.here _ _ | (apply Rem.there; first | exact Rem.here _ _ | (apply Rem.there; first | exact Rem.here _ _ | (apply Rem.there; first | exact Rem.here _ _ | (apply Rem.there; first | exact Rem.here _ _ | (apply Rem.there; first | exact Rem.here _ _ | (apply Rem.there; first | exact Rem.here _ _ | (apply Rem.there; first | exact Rem.here _ _ | (apply Rem.there; first | exact Rem.here _ _ | (apply Rem.there; first | exact Rem.here _ _ | (apply Rem.there; first | exact Rem.here _ _ | (apply Rem.there; exact Rem.here _ _)))))))))))))))).drop).fact hok2
    have h2 := h1.bring (r := rowR (some ⟨g, 0, none⟩) n cap 3 1 (vZ (buf.set m x))) (by first | exact Rem.here _ _ | (apply Rem.there; first | exact Rem.here _ _ | (apply Rem.there; first | exact Rem.here _ _ | (apply Rem.there; first | exact Rem.here _ _ | (apply Rem.there; first | exact Rem.here _ _ | (apply Rem.there; first | exact Rem.here _ _ | (apply Rem.there; first | exact Rem.here _ _ | (apply Rem.there; first | exact Rem.here _ _ | (apply Rem.there; first | exact Rem.here _ _ | (apply Rem.there; first | exact Rem.here _ _ | (apply Rem.there; first | exact Rem.here _ _ | (apply Rem.there; first | exact Rem.here _ _ | (apply Rem.there; first | exact Rem.here _ _ | (apply Rem.there; first | exact Rem.here _ _ | (apply Rem.there; exact Rem.here _ _)))))))))))))))
    have h3 := h2.bring (r := pts b [.slice (some ⟨g, 0, none⟩) n cap, .int .i64 fr, .int .i64 ((k + 1 : Nat) : Int), .int .i64 N] 39) (by first | exact Rem.here _ _ | (apply Rem.there; first | exact Rem.here _ _ | (apply Rem.there; first | exact Rem.here _ _ | (apply Rem.there; first | exact Rem.here _ _ | (apply Rem.there; first | exact Rem.here _ _ | (apply Rem.there; first | exact Rem.here _ _ | (apply Rem.there; first | exact Rem.here _ _ | (apply Rem.there; first | exact Rem.here _ _ | (apply Rem.there; first | exact Rem.here _ _ | (apply Rem.there; first | exact Rem.here _ _ | (apply Rem.there; first | exact Rem.here _ _ | (apply Rem.there; first | exact Rem.here _ _ | (apply Rem.there; first | exact Rem.here _ _ | (apply Rem.there; first | exact Rem.here _ _ | (apply Rem.there; exact Rem.here _ _)))))))))))))))
    exact Sep.grp.1 (ringShut hl2 (by rw [hk2]; exact h3))
  have hki : ((k + 1 : Nat) : Int) = (k : Int) + 1 := by omega
  rw [hki] at fin
  rw [← hv] at fin
  clear hok hok2 hn hk hm hv hl2 hk2 hki hcap
  simp only [List.cons_append, List.nil_append]
  go_wp2_with (first | go_skip | (refine ck_load hS rfl rfl rfl (by repeat (first | exact List.Mem.head _ | apply List.Mem.tail)) rfl (by decide +kernel) ?_; simp only [Act.put, List.setIfInBounds_toArray, List.set_cons_zero, List.set_cons_succ]) | (refine ck_store hS rfl rfl rfl (by constructor) (by repeat (first | exact Upd.here _ _ _ | apply Upd.there)) (by simp <;> omega) rfl (by decide +kernel) ?_; clear hS; intro w hS; simp only [Act.put, List.setIfInBounds_toArray, List.set_cons_zero, List.set_cons_succ] at hS ⊢) | (refine ck_box hS rfl rfl (by constructor) ?_; clear hS; intro nb w hS; simp only [Act.put, List.setIfInBounds_toArray, List.set_cons_zero, List.set_cons_succ]) | (refine ck_max rfl rfl rfl rfl ?_; simp only [Act.put, List.setIfInBounds_toArray, List.set_cons_zero, List.set_cons_succ]) | (refine ck_min rfl rfl rfl rfl ?_; simp only [Act.put, List.setIfInBounds_toArray, List.set_cons_zero, List.set_cons_succ])  | (refine ck_region (fun _ => 0) (fun _ => []) [] hS (by kernel_rfl) (by decide +kernel) ?_ ?_; exact ⟨fun _ _ _ h => h.2, fun _ _ h => h⟩; clear hS; intro w hS _; (repeat (first | (refine ckT_max rfl rfl rfl rfl ?_; simp only [Act.put, List.setIfInBounds_toArray, List.set_cons_zero, List.set_cons_succ]) | (refine ckT_min rfl rfl rfl rfl ?_; simp only [Act.put, List.setIfInBounds_toArray, List.set_cons_zero, List.set_cons_succ]) | (apply wpT_pure rfl rfl; (intro _; go_simp; (try (go_ints; (try go_simp))); (first | (rw [decide_eq_true]; omega) | (rw [decide_eq_false]; omega) | rfl)); simp only [Act.put, List.setIfInBounds_toArray, List.set_cons_zero, List.set_cons_succ]) | (refine ckT_load hS rfl rfl rfl (by simp) (by repeat (first | exact List.Mem.head _ | apply List.Mem.tail)) rfl (by decide +kernel) ?_; simp only [Act.put, List.setIfInBounds_toArray, List.set_cons_zero, List.set_cons_succ]) | (refine ckT_store hS rfl rfl rfl (by constructor) (by repeat (first | exact Upd.here _ _ _ | apply Upd.there)) (by simp) rfl (by decide +kernel) (by simp) ?_; clear hS; intro w hS; simp only [Act.put, List.setIfInBounds_toArray, List.set_cons_zero, List.set_cons_succ] at hS ⊢) | (refine wpT_skip rfl ?_; simp only [Act.put, List.setIfInBounds_toArray, List.set_cons_zero, List.set_cons_succ]) | (refine ckT_storeRow hS rfl rfl rfl (by constructor) (by repeat (first | exact Upd.here _ _ _ | apply Upd.there)) hvl rfl (by decide +kernel) rfl ?_; clear hS; intro w hS; simp only [Act.put, List.setIfInBounds_toArray, List.set_cons_zero, List.set_cons_succ]))); refine wpT_nil ?_))
  trace_state
  go_ret
  exact ⟨_, ⟨rfl, (some ⟨g, 0, none⟩, cap, buf.set m x, fr), rfl⟩, fin hS⟩
end
end Go.Proofs.Ytchejceolnbcbaa
