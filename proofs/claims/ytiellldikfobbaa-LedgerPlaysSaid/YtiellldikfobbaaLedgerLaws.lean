/- What the laws of ledger share. -/
import Derived.Test.YtiellldikfobbaaRows
import Derived.Test.YtiellldikfobbaaLedgerHelp
import Derived.Test.YtiellldikfobbaaCkRow
import Derived.WalkKit
import Derived.WalkSpells
import Derived.WalkLawsBesides
import Derived.WalkMore
import Derived.Deep.LoopGhost
set_option linter.unusedVariables false
set_option linter.unusedSimpArgs false
namespace Go.Proofs.Ytiellldikfobbaa
open Go.RowKit
theorem eights_zero : Eights zeroB := by unfold Eights zeroB; decide
theorem withS_len {B : List (List Int)} (h : Eights B) (h8 : B.length = 8) : ∀ x ∈ posL B, x.length = 8 := by
  intro x hx
  unfold posL at hx
  have hx := (List.mem_filter.1 hx).1
  unfold eachP at hx
  obtain ⟨i, hi, rfl⟩ := List.mem_map.1 hx
  have hi := List.mem_range.1 hi
  obtain ⟨c, hc⟩ : ∃ c, B[i]? = some c := ⟨B[i]'(by omega), List.getElem?_eq_getElem (by omega)⟩
  unfold withS; rw [hc]; simp [h c (List.mem_of_getElem? hc)]
theorem posL_len (B : List (List Int)) : (posL B).length ≤ 8 := Nat.le_trans (List.length_filter_le _ _) (by simp [eachP])
theorem ledgerAllC_ct (bx b : Nat) (B : List (List Int)) (h : Eights B) (h8 : B.length = 8) (most : Int) (l : List (List Int)) (hl : (posL B).take (max 1 most).toNat = l) :
    Ct Try.prog 14 #[.func (.func 21) #[] #[.pointer (some ⟨bx, 0, none⟩)], .int .i64 most] [pts bx [.pointer (some ⟨b, 0, none⟩)] 23, ledR b B]
      (fun v L => ∃ a c, v = .slice a l.length c ∧ L = [rowR a l.length c 28 8 (flat l), pts bx [.pointer (some ⟨b, 0, none⟩)] 23, ledR b B]) :=
  allC_ct _ _ _ _ most (allIter bx b B h h8) (fun _ => run_enter (P := Try.prog) (f := 21) (by kernel_rfl)) (withS_len h h8) (by have := posL_len B; omega) l hl
theorem ledgerAllCZ_ct (bx : Nat) (most : Int) :
    Ct Try.prog 14 #[.func (.func 21) #[] #[.pointer (some ⟨bx, 0, none⟩)], .int .i64 most] [pts bx [.pointer none] 23]
      (fun v L => ∃ a c, v = .slice a 0 c ∧ L = [rowR a 0 c 28 8 (flat []), pts bx [.pointer none] 23]) :=
  allC_ct _ _ _ _ most (allIterZ bx) (fun _ => run_enter (P := Try.prog) (f := 21) (by kernel_rfl)) (by simp) (by simp) [] (by simp)
theorem ledgerAccTo_ct (b : Nat) (B B' : List (List Int)) (s : Nat) (hs : s < 8) (h : Eights B) (c : List Int) (hc : B[s]? = some c) (q x : Int) (hq : c[7]? = some q) (hx : c[1]? = some x) (q0 : 0 ≤ q) (q1 : q ≤ 1000000) (x0 : 0 ≤ x) (x1 : x ≤ 1000000) (e : B.set s ((c.set 7 (q + 1)).set 1 (x + 1)) = B') :
    Ct Try.prog 8 #[.pointer (some ⟨b, 0, none⟩), .int .i64 s, .int .i64 0] [ledR b B] (Gives (.int .i64 0) [ledR b B']) := by
  subst e; exact ledgerNoteAcc_ct b B s hs h c hc q x hq hx q0 q1 x0 x1
def oneB : List (List Int) := zeroB.set 1 [0, 1, 0, 0, 0, 0, 0, 1]
theorem eights_one : Eights oneB := by unfold Eights oneB zeroB; decide
set_option maxHeartbeats 4000000 in
theorem awake07_ct : Ct Try.prog 7 #[] [] (Gives (.bool true) []) := by
  have k1 := fun b => ledgerAccTo_ct b zeroB oneB 1 (by omega) eights_zero [0, 0, 0, 0, 0, 0, 0, 0] rfl 0 0 rfl rfl (by omega) (by omega) (by omega) (by omega) rfl
  have k2 := fun b => ledgerCount_ct b oneB 1 (by omega) eights_one 0 1 0 0 0 0 0 1 rfl
  have k3 := balanced_ct 1 1 0 0 0 0 0 1 (by omega) (by omega) (by omega) (by omega) (by omega) (by omega) (by omega) (by omega)
  have k4 := fun b bx => ledgerAllC_ct bx b oneB eights_one rfl 9 [[1, 1, 0, 0, 0, 0, 0, 1]] rfl
  have e1 : ((1 : Nat) : Int) = 1 := rfl
  simp only [cntV, List.map_cons, List.map_nil, e1] at k1 k2
  clear e1
  intro w0 F L w hS
  simp only [List.cons_append, List.nil_append] at hS
  go_enter Try.func7, Try.ntmps7
  go_wp2_with (first | go_skip | (refine ck_load hS rfl rfl rfl (by repeat (first | exact List.Mem.head _ | apply List.Mem.tail)) rfl (by decide +kernel) ?_; simp only [Act.put, List.setIfInBounds_toArray, List.set_cons_zero, List.set_cons_succ]) | (refine ck_store hS rfl rfl rfl (by constructor) (by repeat (first | exact Upd.here _ _ _ | apply Upd.there)) (by simp <;> omega) rfl (by decide +kernel) ?_; clear hS; intro w hS; simp only [Act.put, List.setIfInBounds_toArray, List.set_cons_zero, List.set_cons_succ] at hS ⊢) | (refine ck_box hS rfl rfl (by constructor) ?_; clear hS; intro nb w hS; simp only [Act.put, List.setIfInBounds_toArray, List.set_cons_zero, List.set_cons_succ]) | (refine ck_max rfl rfl rfl rfl ?_; simp only [Act.put, List.setIfInBounds_toArray, List.set_cons_zero, List.set_cons_succ]) | (refine ck_min rfl rfl rfl rfl ?_; simp only [Act.put, List.setIfInBounds_toArray, List.set_cons_zero, List.set_cons_succ]) | (go_at_call 6; with_reducible refine Ct.callN (ledgerNew_ct) hS ?_; clear hS; rintro _ _ w ⟨b, rfl, rfl⟩ hS; simp only [List.cons_append, List.nil_append] at hS) | (go_at_call 8; (with_reducible refine Ct.callU (k1 b) (by repeat (first | exact Upd.here _ _ _ | apply Upd.there)) hS ?_) <;> (first | (clear hS; intro w hS) | omega)) | (go_at_call 10; (with_reducible refine Ct.callU (k2 b) (by repeat (first | exact Upd.here _ _ _ | apply Upd.there)) hS ?_) <;> (first | (clear hS; intro w hS) | omega)) | (go_at_call 12; with_reducible refine Ct.call0 (k3) hS ?_; clear hS; intro w hS) | (refine ck_alloc (t := 28) (v := .agg (List.toArray [.int .i64 0, .int .i64 0, .int .i64 0, .int .i64 0, .int .i64 0, .int .i64 0, .int .i64 0, .int .i64 0])) (cs := [.int .i64 0, .int .i64 0, .int .i64 0, .int .i64 0, .int .i64 0, .int .i64 0, .int .i64 0, .int .i64 0]) hS rfl rfl (by kernel_rfl) rfl ?_; clear hS; intro nb w hS; simp only [Act.put, List.setIfInBounds_toArray, List.set_cons_zero, List.set_cons_succ]) | (refine ck_storeAll hS rfl rfl rfl rfl (by repeat (first | exact Upd.here _ _ _ | apply Upd.there)) (by rfl) rfl (by (try simp only [List.length_cons, List.length_nil, Nat.zero_add, Nat.reduceAdd]); decide +kernel) ?_; clear hS; intro w hS; simp only [Act.put, List.setIfInBounds_toArray, List.set_cons_zero, List.set_cons_succ]) | (refine ck_loadAll hS rfl rfl rfl (by repeat (first | exact List.Mem.head _ | apply List.Mem.tail)) rfl (by (try simp only [List.length_cons, List.length_nil, Nat.zero_add, Nat.reduceAdd]); decide +kernel) ?_; simp only [Act.put, List.setIfInBounds_toArray, List.set_cons_zero, List.set_cons_succ]) | (go_at_call 15; with_reducible refine Ct.callN (ledgerAll_ct _) hS ?_; clear hS; rintro _ _ w ⟨bx, rfl, rfl⟩ hS; simp only [List.cons_append, List.nil_append] at hS) | (go_at_call 14; (with_reducible refine Ct.call2 (k4 b bx) (by first | exact Rem.here _ _ | (apply Rem.there; first | exact Rem.here _ _ | (apply Rem.there; first | exact Rem.here _ _ | (apply Rem.there; first | exact Rem.here _ _ | (apply Rem.there; first | exact Rem.here _ _ | (apply Rem.there; first | exact Rem.here _ _ | (apply Rem.there; first | exact Rem.here _ _ | (apply Rem.there; first | exact Rem.here _ _ | (apply Rem.there; first | exact Rem.here _ _ | (apply Rem.there; first | exact Rem.here _ _ | (apply Rem.there; first | exact Rem.here _ _ | (apply Rem.there; first | exact Rem.here _ _ | (apply Rem.there; first | exact Rem.here _ _ | (apply Rem.there; first | exact Rem.here _ _ | (apply Rem.there; exact Rem.here _ _))))))))))))))) (by first | exact Rem.here _ _ | (apply Rem.there; first | exact Rem.here _ _ | (apply Rem.there; first | exact Rem.here _ _ | (apply Rem.there; first | exact Rem.here _ _ | (apply Rem.there; first | exact Rem.here _ _ | (apply Rem.there; first | exact Rem.here _ _ | (apply Rem.there; first | exact Rem.here _ _ | (apply Rem.there; first | exact Rem.here _ _ | (apply Rem.there; first | exact Rem.here _ _ | (apply Rem.there; first | exact Rem.here _ _ | (apply Rem.there; first | exact Rem.here _ _ | (apply Rem.there; first | exact Rem.here _ _ | (apply Rem.there; first | exact Rem.here _ _ | (apply Rem.there; first | exact Rem.here _ _ | (apply Rem.there; exact Rem.here _ _))))))))))))))) hS ?_); clear hS; rintro _ _ w ⟨la, lc, rfl, rfl⟩ hS; simp only [List.cons_append, List.nil_append] at hS) | (refine ck_region (fun _ => 0) (fun _ => []) [] hS (by kernel_rfl) (by decide +kernel) ?_ ?_; exact ⟨fun _ _ _ h => h.2, fun _ _ h => h⟩; clear hS; intro w hS _; (repeat (first | (refine ckT_max rfl rfl rfl rfl ?_; simp only [Act.put, List.setIfInBounds_toArray, List.set_cons_zero, List.set_cons_succ]) | (refine ckT_min rfl rfl rfl rfl ?_; simp only [Act.put, List.setIfInBounds_toArray, List.set_cons_zero, List.set_cons_succ]) | (apply wpT_pure rfl rfl; (intro _; go_simp; (try (go_ints; (try go_simp))); (first | (rw [decide_eq_true]; omega) | (rw [decide_eq_false]; omega) | rfl)); simp only [Act.put, List.setIfInBounds_toArray, List.set_cons_zero, List.set_cons_succ]) | (refine ckT_load hS rfl rfl rfl (by simp) (by repeat (first | exact List.Mem.head _ | apply List.Mem.tail)) rfl (by decide +kernel) ?_; simp only [Act.put, List.setIfInBounds_toArray, List.set_cons_zero, List.set_cons_succ]) | (refine ckT_store hS rfl rfl rfl (by constructor) (by repeat (first | exact Upd.here _ _ _ | apply Upd.there)) (by simp) rfl (by decide +kernel) (by simp) ?_; clear hS; intro w hS; simp only [Act.put, List.setIfInBounds_toArray, List.set_cons_zero, List.set_cons_succ] at hS ⊢) | (refine wpT_skip rfl ?_; simp only [Act.put, List.setIfInBounds_toArray, List.set_cons_zero, List.set_cons_succ]) )); refine wpT_nil ?_))
  go_ret
  exact ⟨_, ⟨rfl, rfl⟩, hS.dropN 4⟩
end Go.Proofs.Ytiellldikfobbaa
