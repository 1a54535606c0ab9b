/- Ledger's counts, ranged over. -/
import Derived.Test.YtiellldikfobbaaLedgerBal
import Derived.TacticsInMore
import Derived.WalkKit
import Derived.WalkSpells
import Derived.WalkLawsBesides
import Derived.WalkMore
import Derived.Deep.LoopGhost
set_option linter.unusedVariables false
set_option linter.unusedSimpArgs false
namespace Go.Proofs.Ytiellldikfobbaa
open Go.RowKit
/-- A count, with its socket. -/
def withS (B : List (List Int)) (s : Nat) : List Int := (B[s]?.getD []).set 0 s
def eachP (B : List (List Int)) (k : Nat) : List (List Int) := (List.range k).map (withS B)
def eachS (B : List (List Int)) (k n : Nat) : List (List Int) := (List.range' k (n - k)).map (withS B)
section
variable {B : List (List Int)} {k n : Nat}
theorem eachP_split (h : k ≤ n) : eachP B n = eachP B k ++ eachS B k n := by
  unfold eachP eachS
  rw [← List.map_append]
  congr 1
  rw [List.range_eq_range', List.range_eq_range', show n = k + (n - k) by omega]
  have := List.range'_append (s := 0) (m := k) (n := n - k) (step := 1)
  simp only [Nat.zero_add, Nat.one_mul] at this
  rw [show k + (n - k) - k = n - k by omega]
  exact this.symm
theorem eachS_cons (h : k < n) : eachS B k n = withS B k :: eachS B (k + 1) n := by
  unfold eachS
  obtain ⟨m, hm⟩ : ∃ m, n - k = m + 1 := ⟨n - k - 1, by omega⟩
  rw [hm, show n - (k + 1) = m by omega, List.range'_succ, List.map_cons]
theorem eachP_succ : eachP B (k + 1) = eachP B k ++ [withS B k] := by
  unfold eachP; rw [List.range_succ, List.map_append]; rfl
theorem eight {c : List Int} (h : c.length = 8) : ∃ k a0 a1 a2 a3 a4 a5 q, c = [k, a0, a1, a2, a3, a4, a5, q] := by
  match c, h with
  | [k, a0, a1, a2, a3, a4, a5, q], _ => exact ⟨k, a0, a1, a2, a3, a4, a5, q, rfl⟩
end
abbrev cntA (c : List Int) : Value := .agg (cntV c).toArray
set_option maxHeartbeats 2000000 in
theorem eachIter (bx b : Nat) (B : List (List Int)) (h : Eights B) (h8 : B.length = 8) :
    IterCt Try.prog 23 #[.pointer (some ⟨bx, 0, none⟩)] (fun c : List Int => #[cntA c]) (eachP B 8) [pts bx [.pointer (some ⟨b, 0, none⟩)] 23, ledR b B] := by
  intro σ y S go _ hY A w0 F L w hS
  simp only [List.cons_append, List.nil_append] at hS
  show Calls _ _ #[y, .pointer (some ⟨bx, 0, none⟩)] _ _
  go_enter Try.func23, Try.ntmps23
  go_wp2_with (first | go_skip | (refine ck_load hS rfl rfl rfl (by repeat (first | exact List.Mem.head _ | apply List.Mem.tail)) rfl (by decide +kernel) ?_; simp only [Act.put, List.setIfInBounds_toArray, List.set_cons_zero, List.set_cons_succ]) | (refine ck_store hS rfl rfl rfl (by constructor) (by repeat (first | exact Upd.here _ _ _ | apply Upd.there)) (by simp <;> omega) rfl (by decide +kernel) ?_; clear hS; intro w hS; simp only [Act.put, List.setIfInBounds_toArray, List.set_cons_zero, List.set_cons_succ] at hS ⊢) | (refine ck_box hS rfl rfl (by constructor) ?_; clear hS; intro nb w hS; simp only [Act.put, List.setIfInBounds_toArray, List.set_cons_zero, List.set_cons_succ]) | (refine ck_max rfl rfl rfl rfl ?_; simp only [Act.put, List.setIfInBounds_toArray, List.set_cons_zero, List.set_cons_succ]) | (refine ck_min rfl rfl rfl rfl ?_; simp only [Act.put, List.setIfInBounds_toArray, List.set_cons_zero, List.set_cons_succ])  | (refine ck_region (fun _ => 0) (fun _ => []) [] hS (by kernel_rfl) (by decide +kernel) ?_ ?_; exact ⟨fun _ _ _ h => h.2, fun _ _ h => h⟩; clear hS; intro w hS _; (repeat (first | (refine ckT_max rfl rfl rfl rfl ?_; simp only [Act.put, List.setIfInBounds_toArray, List.set_cons_zero, List.set_cons_succ]) | (refine ckT_min rfl rfl rfl rfl ?_; simp only [Act.put, List.setIfInBounds_toArray, List.set_cons_zero, List.set_cons_succ]) | (apply wpT_pure rfl rfl; (intro _; go_simp; (try (go_ints; (try go_simp))); (first | (rw [decide_eq_true]; omega) | (rw [decide_eq_false]; omega) | rfl)); simp only [Act.put, List.setIfInBounds_toArray, List.set_cons_zero, List.set_cons_succ]) | (refine ckT_load hS rfl rfl rfl (by simp) (by repeat (first | exact List.Mem.head _ | apply List.Mem.tail)) rfl (by decide +kernel) ?_; simp only [Act.put, List.setIfInBounds_toArray, List.set_cons_zero, List.set_cons_succ]) | (refine ckT_store hS rfl rfl rfl (by constructor) (by repeat (first | exact Upd.here _ _ _ | apply Upd.there)) (by simp) rfl (by decide +kernel) (by simp) ?_; clear hS; intro w hS; simp only [Act.put, List.setIfInBounds_toArray, List.set_cons_zero, List.set_cons_succ] at hS ⊢) | (refine wpT_skip rfl ?_; simp only [Act.put, List.setIfInBounds_toArray, List.set_cons_zero, List.set_cons_succ]) )); refine wpT_nil ?_))
  go_loopg [6] 9 (fun g s wx => ∃ (k : Nat) (A : σ), k + g = 9 ∧ k ≤ 8 ∧ s = .int .i64 k ∧ okP go (eachP B k) = true ∧ runP go [] (eachP B 8) = runP go (eachP B k) (eachS B k 8) ∧
    Sep w0 F (S A (eachP B k) :: pts bx [.pointer (some ⟨b, 0, none⟩)] 23 :: ledR b B :: L) wx)
  case atStart => exact ⟨0, A, by omega, by omega, rfl, rfl, by have := eachP_split (B := B) (k := 0) (n := 8) (by omega); rw [show eachP B 0 = [] from rfl, List.nil_append] at this; rw [← this]; rfl, hS⟩
  case round =>
    obtain ⟨k, A, hkg, hkn, rfl, hok, hrun, hS⟩ := hrel
    generalize wr = w at hS ⊢
    by_cases hk : k < 8
    · obtain ⟨c, hc⟩ : ∃ c, B[k]? = some c := ⟨B[k], List.getElem?_eq_getElem (by omega)⟩
      obtain ⟨x, a0, a1, a2, a3, a4, a5, q, rfl⟩ := eight (h c (List.mem_of_getElem? hc))
      have hw : withS B k = [(k : Int), a0, a1, a2, a3, a4, a5, q] := by unfold withS; rw [hc]; rfl
      have kC := ledgerCount_ct b B k (by omega) h x a0 a1 a2 a3 a4 a5 q hc
      have kY := hY (eachP B k) (withS B k) (eachS B (k + 1) 8) (by rw [eachP_split (show k ≤ 8 by omega), eachS_cons hk]) hok A
      rw [← eachP_succ, hw] at kY
      rw [eachS_cons hk] at hrun
      cases hg : go (eachP B (k + 1))
      · have hrun' : runP go [] (eachP B 8) = eachP B (k + 1) := by rw [hrun, runP, ← eachP_succ, if_neg (by rw [hg]; simp)]
        rw [hg] at kY
        clear hrun hok hc hY hw hg
        (repeat (first | (refine ckI_region ?_; (repeat (first | (refine ckI_skip rfl ?_; simp only [Act.put, List.setIfInBounds_toArray, List.set_cons_zero, List.set_cons_succ]) | (apply ckI_pure rfl rfl; (intro _; go_simp; (try (go_ints; (try go_simp))); (first | (rw [decide_eq_true]; omega) | (rw [decide_eq_false]; omega) | rfl)); simp only [Act.put, List.setIfInBounds_toArray, List.set_cons_zero, List.set_cons_succ]) | (refine ckI_load hS rfl rfl rfl (by repeat (first | exact List.Mem.head _ | apply List.Mem.tail)) rfl (by decide +kernel) ?_; simp only [Act.put, List.setIfInBounds_toArray, List.set_cons_zero, List.set_cons_succ]) | (refine ckI_load hS rfl rfl rfl (by repeat (first | exact List.Mem.head _ | apply List.Mem.tail)) rfl (by decide +kernel) ?_; simp only [Act.put, List.setIfInBounds_toArray, List.set_cons_zero, List.set_cons_succ]) | (refine ckI_loadAll hS rfl rfl rfl (by repeat (first | exact List.Mem.head _ | apply List.Mem.tail)) rfl (by (try simp only [List.length_cons, List.length_nil, Nat.zero_add, Nat.reduceAdd]); decide +kernel) ?_; simp only [Act.put, List.setIfInBounds_toArray, List.set_cons_zero, List.set_cons_succ]) | (refine ckI_yieldS hS rfl (kY) (by first | exact Rem.here _ _ | (apply Rem.there; first | exact Rem.here _ _ | (apply Rem.there; first | exact Rem.here _ _ | (apply Rem.there; first | exact Rem.here _ _ | (apply Rem.there; first | exact Rem.here _ _ | (apply Rem.there; first | exact Rem.here _ _ | (apply Rem.there; first | exact Rem.here _ _ | (apply Rem.there; first | exact Rem.here _ _ | (apply Rem.there; first | exact Rem.here _ _ | (apply Rem.there; first | exact Rem.here _ _ | (apply Rem.there; first | exact Rem.here _ _ | (apply Rem.there; first | exact Rem.here _ _ | (apply Rem.there; first | exact Rem.here _ _ | (apply Rem.there; first | exact Rem.here _ _ | (apply Rem.there; exact Rem.here _ _))))))))))))))) rfl rfl rfl ?_; clear hS; intro A w hS; simp only [Act.put, List.setIfInBounds_toArray, List.set_cons_zero, List.set_cons_succ]))); refine wpListIn_nil ?_) | go_skip | (refine ck_load hS rfl rfl rfl (by repeat (first | exact List.Mem.head _ | apply List.Mem.tail)) rfl (by decide +kernel) ?_; simp only [Act.put, List.setIfInBounds_toArray, List.set_cons_zero, List.set_cons_succ]) | (refine ck_loadAll hS rfl rfl rfl (by repeat (first | exact List.Mem.head _ | apply List.Mem.tail)) rfl (by (try simp only [List.length_cons, List.length_nil, Nat.zero_add, Nat.reduceAdd]); decide +kernel) ?_; simp only [Act.put, List.setIfInBounds_toArray, List.set_cons_zero, List.set_cons_succ]) | (refine ck_alloc (t := 28) (v := .agg (List.toArray [.int .i64 0, .int .i64 0, .int .i64 0, .int .i64 0, .int .i64 0, .int .i64 0, .int .i64 0, .int .i64 0])) (cs := [.int .i64 0, .int .i64 0, .int .i64 0, .int .i64 0, .int .i64 0, .int .i64 0, .int .i64 0, .int .i64 0]) hS rfl rfl (by kernel_rfl) rfl ?_; clear hS; intro nb w hS; simp only [Act.put, List.setIfInBounds_toArray, List.set_cons_zero, List.set_cons_succ]) | (refine ck_storeAll hS rfl rfl rfl rfl (by repeat (first | exact Upd.here _ _ _ | apply Upd.there)) (by rfl) rfl (by (try simp only [List.length_cons, List.length_nil, Nat.zero_add, Nat.reduceAdd]); decide +kernel) ?_; clear hS; intro w hS; simp only [Act.put, List.setIfInBounds_toArray, List.set_cons_zero, List.set_cons_succ]) | (go_at_call 10; (with_reducible refine Ct.callU (kC) (by repeat (first | exact Upd.here _ _ _ | apply Upd.there)) hS ?_) <;> (first | (clear hS; intro w hS) | omega)) | go_values | go_skip | go_guarded | go_step | go_upon | go_back | (simp only [Int.not_lt, Int.not_le] at *; go_simp)))
        refine bodyPost_ret (results_none rfl _ _ _) rfl ?_
        exact ⟨_, ⟨rfl, A, by rw [hrun']⟩, (hS.perm (.swap _ _ _)).drop⟩
      · have hrun' : runP go [] (eachP B 8) = runP go (eachP B (k + 1)) (eachS B (k + 1) 8) := by rw [hrun, runP, ← eachP_succ, if_pos hg]
        have hok' : okP go (eachP B (k + 1)) = true := by unfold okP; rw [hg]; simp
        rw [hg] at kY
        clear hrun hok hc hY hw hg
        (repeat (first | (refine ckI_region ?_; (repeat (first | (refine ckI_skip rfl ?_; simp only [Act.put, List.setIfInBounds_toArray, List.set_cons_zero, List.set_cons_succ]) | (apply ckI_pure rfl rfl; (intro _; go_simp; (try (go_ints; (try go_simp))); (first | (rw [decide_eq_true]; omega) | (rw [decide_eq_false]; omega) | rfl)); simp only [Act.put, List.setIfInBounds_toArray, List.set_cons_zero, List.set_cons_succ]) | (refine ckI_load hS rfl rfl rfl (by repeat (first | exact List.Mem.head _ | apply List.Mem.tail)) rfl (by decide +kernel) ?_; simp only [Act.put, List.setIfInBounds_toArray, List.set_cons_zero, List.set_cons_succ]) | (refine ckI_load hS rfl rfl rfl (by repeat (first | exact List.Mem.head _ | apply List.Mem.tail)) rfl (by decide +kernel) ?_; simp only [Act.put, List.setIfInBounds_toArray, List.set_cons_zero, List.set_cons_succ]) | (refine ckI_loadAll hS rfl rfl rfl (by repeat (first | exact List.Mem.head _ | apply List.Mem.tail)) rfl (by (try simp only [List.length_cons, List.length_nil, Nat.zero_add, Nat.reduceAdd]); decide +kernel) ?_; simp only [Act.put, List.setIfInBounds_toArray, List.set_cons_zero, List.set_cons_succ]) | (refine ckI_yieldS hS rfl (kY) (by first | exact Rem.here _ _ | (apply Rem.there; first | exact Rem.here _ _ | (apply Rem.there; first | exact Rem.here _ _ | (apply Rem.there; first | exact Rem.here _ _ | (apply Rem.there; first | exact Rem.here _ _ | (apply Rem.there; first | exact Rem.here _ _ | (apply Rem.there; first | exact Rem.here _ _ | (apply Rem.there; first | exact Rem.here _ _ | (apply Rem.there; first | exact Rem.here _ _ | (apply Rem.there; first | exact Rem.here _ _ | (apply Rem.there; first | exact Rem.here _ _ | (apply Rem.there; first | exact Rem.here _ _ | (apply Rem.there; first | exact Rem.here _ _ | (apply Rem.there; first | exact Rem.here _ _ | (apply Rem.there; exact Rem.here _ _))))))))))))))) rfl rfl rfl ?_; clear hS; intro A w hS; simp only [Act.put, List.setIfInBounds_toArray, List.set_cons_zero, List.set_cons_succ]))); refine wpListIn_nil ?_) | go_skip | (refine ck_load hS rfl rfl rfl (by repeat (first | exact List.Mem.head _ | apply List.Mem.tail)) rfl (by decide +kernel) ?_; simp only [Act.put, List.setIfInBounds_toArray, List.set_cons_zero, List.set_cons_succ]) | (refine ck_loadAll hS rfl rfl rfl (by repeat (first | exact List.Mem.head _ | apply List.Mem.tail)) rfl (by (try simp only [List.length_cons, List.length_nil, Nat.zero_add, Nat.reduceAdd]); decide +kernel) ?_; simp only [Act.put, List.setIfInBounds_toArray, List.set_cons_zero, List.set_cons_succ]) | (refine ck_alloc (t := 28) (v := .agg (List.toArray [.int .i64 0, .int .i64 0, .int .i64 0, .int .i64 0, .int .i64 0, .int .i64 0, .int .i64 0, .int .i64 0])) (cs := [.int .i64 0, .int .i64 0, .int .i64 0, .int .i64 0, .int .i64 0, .int .i64 0, .int .i64 0, .int .i64 0]) hS rfl rfl (by kernel_rfl) rfl ?_; clear hS; intro nb w hS; simp only [Act.put, List.setIfInBounds_toArray, List.set_cons_zero, List.set_cons_succ]) | (refine ck_storeAll hS rfl rfl rfl rfl (by repeat (first | exact Upd.here _ _ _ | apply Upd.there)) (by rfl) rfl (by (try simp only [List.length_cons, List.length_nil, Nat.zero_add, Nat.reduceAdd]); decide +kernel) ?_; clear hS; intro w hS; simp only [Act.put, List.setIfInBounds_toArray, List.set_cons_zero, List.set_cons_succ]) | (go_at_call 10; (with_reducible refine Ct.callU (kC) (by repeat (first | exact Upd.here _ _ _ | apply Upd.there)) hS ?_) <;> (first | (clear hS; intro w hS) | omega)) | go_values | go_skip | go_guarded | go_step | go_upon | go_back | (simp only [Int.not_lt, Int.not_le] at *; go_simp)))
        go_roundg (8 - k)
        case rel => exact ⟨k + 1, A, by omega, by omega, by go_num, hok', hrun', (hS.perm (.swap _ _ _)).drop⟩
        case measure => omega
    · have hkn' : k = 8 := by omega
      subst hkn'
      have hrun' : runP go [] (eachP B 8) = eachP B 8 := by rw [hrun]; simp [eachS, runP]
      clear hrun hY
      go_wp2_with (first | go_skip | (refine ck_load hS rfl rfl rfl (by repeat (first | exact List.Mem.head _ | apply List.Mem.tail)) rfl (by decide +kernel) ?_; simp only [Act.put, List.setIfInBounds_toArray, List.set_cons_zero, List.set_cons_succ]) | (refine ck_store hS rfl rfl rfl (by constructor) (by repeat (first | exact Upd.here _ _ _ | apply Upd.there)) (by simp <;> omega) rfl (by decide +kernel) ?_; clear hS; intro w hS; simp only [Act.put, List.setIfInBounds_toArray, List.set_cons_zero, List.set_cons_succ] at hS ⊢) | (refine ck_box hS rfl rfl (by constructor) ?_; clear hS; intro nb w hS; simp only [Act.put, List.setIfInBounds_toArray, List.set_cons_zero, List.set_cons_succ]) | (refine ck_max rfl rfl rfl rfl ?_; simp only [Act.put, List.setIfInBounds_toArray, List.set_cons_zero, List.set_cons_succ]) | (refine ck_min rfl rfl rfl rfl ?_; simp only [Act.put, List.setIfInBounds_toArray, List.set_cons_zero, List.set_cons_succ])  | (refine ck_region (fun _ => 0) (fun _ => []) [] hS (by kernel_rfl) (by decide +kernel) ?_ ?_; exact ⟨fun _ _ _ h => h.2, fun _ _ h => h⟩; clear hS; intro w hS _; (repeat (first | (refine ckT_max rfl rfl rfl rfl ?_; simp only [Act.put, List.setIfInBounds_toArray, List.set_cons_zero, List.set_cons_succ]) | (refine ckT_min rfl rfl rfl rfl ?_; simp only [Act.put, List.setIfInBounds_toArray, List.set_cons_zero, List.set_cons_succ]) | (apply wpT_pure rfl rfl; (intro _; go_simp; (try (go_ints; (try go_simp))); (first | (rw [decide_eq_true]; omega) | (rw [decide_eq_false]; omega) | rfl)); simp only [Act.put, List.setIfInBounds_toArray, List.set_cons_zero, List.set_cons_succ]) | (refine ckT_load hS rfl rfl rfl (by simp) (by repeat (first | exact List.Mem.head _ | apply List.Mem.tail)) rfl (by decide +kernel) ?_; simp only [Act.put, List.setIfInBounds_toArray, List.set_cons_zero, List.set_cons_succ]) | (refine ckT_store hS rfl rfl rfl (by constructor) (by repeat (first | exact Upd.here _ _ _ | apply Upd.there)) (by simp) rfl (by decide +kernel) (by simp) ?_; clear hS; intro w hS; simp only [Act.put, List.setIfInBounds_toArray, List.set_cons_zero, List.set_cons_succ] at hS ⊢) | (refine wpT_skip rfl ?_; simp only [Act.put, List.setIfInBounds_toArray, List.set_cons_zero, List.set_cons_succ]) )); refine wpT_nil ?_))
      refine bodyPost_end (results_none rfl _ _ _) rfl ?_
      exact ⟨_, ⟨rfl, A, by rw [hrun']⟩, hS⟩
end Go.Proofs.Ytiellldikfobbaa
