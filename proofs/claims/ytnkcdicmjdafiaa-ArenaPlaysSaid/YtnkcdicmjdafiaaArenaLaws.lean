/- What the laws of arena share. -/
import Derived.Test.YtnkcdicmjdafiaaRows
import Derived.Test.YtnkcdicmjdafiaaArenaUsed
import Derived.Test.YtnkcdicmjdafiaaCkRow
import Derived.WalkKit
import Derived.WalkSpells
import Derived.WalkLawsBesides
import Derived.WalkMore
import Derived.Deep.LoopGhost
set_option linter.unusedVariables false
set_option linter.unusedSimpArgs false
namespace Go.Proofs.Ytnkcdicmjdafiaa
open Go.RowKit
abbrev EG (v : Value) (b : Nat) (room : Int) (used : List Bool) (freed : List Nat) : Value → List Res → Prop := fun v' L => v' = v ∧ ∃ A' : AA, L = [arenaG b room used freed A']
section
variable (b : Nat) (room : Int) (used : List Bool) (freed : List Nat) (A : AA)
theorem aGetNew (n : Nat) (used' : List Bool) (hn : used.length = n) (hu' : used ++ [true] = used') (hr0 : 0 ≤ room) (hr : room ≤ 4096) (hu : n < room) : Ct Try.prog 18 #[.pointer (some ⟨b, 0, none⟩)] [arenaG b room used [] A] (EG (.tuple #[.int .i64 n, .int .i64 0]) b room used' []) := by
  subst hn; subst hu'
  exact toG (arenaGetNew_ct b room used [] _ _ _ _ hr0 hr rfl hu)
theorem aGetFull (hr0 : 0 ≤ room) (hu : room ≤ used.length) (hu2 : used.length ≤ 4096) : Ct Try.prog 18 #[.pointer (some ⟨b, 0, none⟩)] [arenaG b room used [] A] (EG (.tuple #[.int .i64 0, .int .i64 5]) b room used []) :=
  toG (arenaGetFull_ct b room used [] _ _ _ _ hr0 rfl hu hu2)
theorem aGetFreed (i : Nat) (hi : i < used.length) (hu2 : used.length ≤ 4096) (hf2 : freed.length ≤ 4096) : Ct Try.prog 18 #[.pointer (some ⟨b, 0, none⟩)] [arenaG b room used (freed ++ [i]) A] (EG (.tuple #[.int .i64 i, .int .i64 0]) b room (used.set i true) freed) :=
  toG (arenaGetFreed_ct b room used (freed ++ [i]) _ _ _ _ freed i rfl hi hu2 hf2)
theorem aHas (i : Int) (hu2 : used.length ≤ 4096) : Ct Try.prog 33 #[.pointer (some ⟨b, 0, none⟩), .int .i64 i] [arenaG b room used freed A] (Gives (.bool (isOut used i)) [arenaG b room used freed A]) := by
  refine toGU ?_
  by_cases h : i < 0 ∨ used.length ≤ i
  · have : isOut used i = false := by
      unfold isOut
      rcases h with h | h
      · simp [show ¬ 0 ≤ i by omega]
      · have : used[i.toNat]? = none := List.getElem?_eq_none (by omega)
        simp [this]
    rw [this]
    exact arenaHasNo_ct b room used freed _ _ _ _ i h hu2
  · obtain ⟨n, rfl⟩ : ∃ n : Nat, i = n := ⟨i.toNat, by omega⟩
    obtain ⟨x, hx⟩ : ∃ x, used[n]? = some x := ⟨used[n]'(by omega), List.getElem?_eq_getElem (by omega)⟩
    have : isOut used n = x := by unfold isOut; simp [hx]
    rw [this]
    exact arenaHasIn_ct b room used freed _ _ _ _ n x hx hu2
theorem aFreeArg (i : Int) (h : i < 0 ∨ room ≤ i) : Ct Try.prog 31 #[.pointer (some ⟨b, 0, none⟩), .int .i64 i] [arenaG b room used freed A] (Gives (.int .i64 1) [arenaG b room used freed A]) :=
  toGU (arenaFreeArg_ct b room used freed _ _ _ _ i h)
theorem aFreeNone (i : Int) (h0 : 0 ≤ i) (h1 : i < room) (hx : isOut used i = false) (hu2 : used.length ≤ 4096) : Ct Try.prog 31 #[.pointer (some ⟨b, 0, none⟩), .int .i64 i] [arenaG b room used freed A] (Gives (.int .i64 7) [arenaG b room used freed A]) := by
  refine toGU (arenaFreeNone_ct b room used freed _ _ _ _ i h0 h1 ?_)
  by_cases h : used.length ≤ i
  · exact arenaHasNo_ct b room used freed _ _ _ _ i (.inr h) hu2
  · obtain ⟨n, rfl⟩ : ∃ n : Nat, i = n := ⟨i.toNat, by omega⟩
    refine arenaHasIn_ct b room used freed _ _ _ _ n false ?_ hu2
    obtain ⟨x, hx'⟩ : ∃ x, used[n]? = some x := ⟨used[n]'(by omega), List.getElem?_eq_getElem (by omega)⟩
    unfold isOut at hx
    simp [hx'] at hx
    rw [hx', hx]
theorem aFreeOk (i : Nat) (h1 : i < room) (hx : used[i]? = some true) (hu2 : used.length ≤ 4096) (hf2 : freed.length ≤ 100000) : Ct Try.prog 31 #[.pointer (some ⟨b, 0, none⟩), .int .i64 i] [arenaG b room used freed A] (EG (.int .i64 0) b room (used.set i false) (freed ++ [i])) :=
  toG (arenaFreeOk_ct b room used freed _ _ _ _ i h1 hx hu2 hf2)
theorem aAll (bx : Nat) (most : Int) (l : List Int) (hl : (outZ used used.length).take (max 1 most).toNat = l) (hu2 : used.length ≤ 4096) :
    Ct Try.prog 20 #[.func (.func 42) #[] #[.pointer (some ⟨bx, 0, none⟩)], .int .i64 most] [pts bx [.pointer (some ⟨b, 0, none⟩)] 36, arenaG b room used freed A]
      (fun v L => ∃ a c, v = .slice a l.length c ∧ L = [rowR a l.length c 3 1 (vZ l), pts bx [.pointer (some ⟨b, 0, none⟩)] 36, arenaG b room used freed A]) := by
  subst hl
  exact all_ct _ _ _ _ most (arenaIterG b room used freed A bx hu2) (fun _ => run_enter (P := Try.prog) (f := 42) (by kernel_rfl)) (by have := outZ_length (used := used) (k := used.length); omega)
theorem aUsed (n : Nat) (hn : (outZ used used.length).length = n) (hu2 : used.length ≤ 4096) : Ct Try.prog 22 #[.pointer (some ⟨b, 0, none⟩)] [arenaG b room used freed A] (Gives (.int .i64 n) [arenaG b room used freed A]) := by
  subst hn; exact arenaUsed_ct b room used freed A hu2
end
def tru (k : Nat) : List Bool := List.replicate k true
theorem tru_zero : [] = tru 0 := rfl
theorem tru_length (k : Nat) : (tru k).length = k := by simp [tru]
theorem tru_snoc (k : Nat) : tru k ++ [true] = tru (k + 1) := by unfold tru; rw [List.replicate_succ']
def iotaZ (k : Nat) : List Int := (List.range k).map fun n : Nat => (n : Int)
theorem iotaZ_length (k : Nat) : (iotaZ k).length = k := by simp [iotaZ]
theorem iotaZ_snoc (k : Nat) : iotaZ (k + 1) = iotaZ k ++ [(k : Int)] := by unfold iotaZ; rw [List.range_succ, List.map_append]; rfl
theorem iotaZ_mem (k : Nat) (x : Int) : x ∈ iotaZ k → 0 ≤ x ∧ x < k := by
  unfold iotaZ; simp only [List.mem_map, List.mem_range]; rintro ⟨n, h, rfl⟩; omega
theorem outZ_tru {k n : Nat} (h : k ≤ n) : outZ (tru n) k = iotaZ k := by
  unfold outZ iotaZ tru
  congr 1
  apply List.filter_eq_self.2
  intro i hi
  have := List.mem_range.1 hi
  simp [List.getElem?_replicate, show i < n by omega]
theorem isOut_nil (i : Int) : isOut [] i = false := by simp [isOut]
set_option maxHeartbeats 2000000 in
theorem awake04_ct : Ct Try.prog 17 #[] [] (Gives (.bool true) []) := by
  have e0 : min (max (3 : Int) 0) 4096 = 3 := by rfl
  have k1 := fun b A => aGetNew b 3 [] A 0 [true] rfl rfl (by omega) (by omega) (by omega)
  have k2 := fun b A => aGetNew b 3 [true] A 1 [true, true] rfl rfl (by omega) (by omega) (by omega)
  have k3 := fun b A => aUsed b 3 [true, true] [] A 2 (by rfl) (by simp)
  have k4 := fun b A bx => aAll b 3 [true, true] [] A bx 9 [0, 1] (by rfl) (by simp)
  intro w0 F L w hS
  simp only [List.cons_append, List.nil_append] at hS
  go_enter Try.func17, Try.ntmps17
  go_wp2_with (first | go_skip | (refine ck_load hS rfl rfl rfl (by repeat (first | exact List.Mem.head _ | apply List.Mem.tail)) rfl (by decide +kernel) ?_; simp only [Act.put, List.setIfInBounds_toArray, List.set_cons_zero, List.set_cons_succ]) | (refine ck_store hS rfl rfl rfl (by constructor) (by repeat (first | exact Upd.here _ _ _ | apply Upd.there)) (by simp <;> omega) rfl (by decide +kernel) ?_; clear hS; intro w hS; simp only [Act.put, List.setIfInBounds_toArray, List.set_cons_zero, List.set_cons_succ] at hS ⊢) | (refine ck_box hS rfl rfl (by constructor) ?_; clear hS; intro nb w hS; simp only [Act.put, List.setIfInBounds_toArray, List.set_cons_zero, List.set_cons_succ]) | (refine ck_max rfl rfl rfl rfl ?_; simp only [Act.put, List.setIfInBounds_toArray, List.set_cons_zero, List.set_cons_succ]) | (refine ck_min rfl rfl rfl rfl ?_; simp only [Act.put, List.setIfInBounds_toArray, List.set_cons_zero, List.set_cons_succ]) | (go_at_call 16; with_reducible refine Ct.callN (arenaNewG_ct 3 3 e0) hS ?_; clear hS; rintro _ _ w ⟨b, A, rfl, rfl⟩ hS; simp only [List.cons_append, List.nil_append] at hS) | (go_at_call 18; (with_reducible refine Ct.callE (k1 b A) (by first | exact Rem.here _ _ | (apply Rem.there; first | exact Rem.here _ _ | (apply Rem.there; first | exact Rem.here _ _ | (apply Rem.there; first | exact Rem.here _ _ | (apply Rem.there; first | exact Rem.here _ _ | (apply Rem.there; first | exact Rem.here _ _ | (apply Rem.there; first | exact Rem.here _ _ | (apply Rem.there; first | exact Rem.here _ _ | (apply Rem.there; first | exact Rem.here _ _ | (apply Rem.there; first | exact Rem.here _ _ | (apply Rem.there; first | exact Rem.here _ _ | (apply Rem.there; first | exact Rem.here _ _ | (apply Rem.there; first | exact Rem.here _ _ | (apply Rem.there; first | exact Rem.here _ _ | (apply Rem.there; exact Rem.here _ _))))))))))))))) hS ?_) <;> (first | (clear hS; intro A w hS) | omega)) | (go_at_call 18; (with_reducible refine Ct.callE (k2 b A) (by first | exact Rem.here _ _ | (apply Rem.there; first | exact Rem.here _ _ | (apply Rem.there; first | exact Rem.here _ _ | (apply Rem.there; first | exact Rem.here _ _ | (apply Rem.there; first | exact Rem.here _ _ | (apply Rem.there; first | exact Rem.here _ _ | (apply Rem.there; first | exact Rem.here _ _ | (apply Rem.there; first | exact Rem.here _ _ | (apply Rem.there; first | exact Rem.here _ _ | (apply Rem.there; first | exact Rem.here _ _ | (apply Rem.there; first | exact Rem.here _ _ | (apply Rem.there; first | exact Rem.here _ _ | (apply Rem.there; first | exact Rem.here _ _ | (apply Rem.there; first | exact Rem.here _ _ | (apply Rem.there; exact Rem.here _ _))))))))))))))) hS ?_) <;> (first | (clear hS; intro A w hS) | omega)) | (go_at_call 22; (with_reducible refine Ct.callU (k3 b A) (by repeat (first | exact Upd.here _ _ _ | apply Upd.there)) hS ?_) <;> (first | (clear hS; intro w hS) | omega)) | (go_at_call 21; with_reducible refine Ct.callN (arenaAll_ct _) hS ?_; clear hS; rintro _ _ w ⟨bx, rfl, rfl⟩ hS; simp only [List.cons_append, List.nil_append] at hS) | (go_at_call 20; (with_reducible refine Ct.call2 (k4 b A bx) (by first | exact Rem.here _ _ | (apply Rem.there; first | exact Rem.here _ _ | (apply Rem.there; first | exact Rem.here _ _ | (apply Rem.there; first | exact Rem.here _ _ | (apply Rem.there; first | exact Rem.here _ _ | (apply Rem.there; first | exact Rem.here _ _ | (apply Rem.there; first | exact Rem.here _ _ | (apply Rem.there; first | exact Rem.here _ _ | (apply Rem.there; first | exact Rem.here _ _ | (apply Rem.there; first | exact Rem.here _ _ | (apply Rem.there; first | exact Rem.here _ _ | (apply Rem.there; first | exact Rem.here _ _ | (apply Rem.there; first | exact Rem.here _ _ | (apply Rem.there; first | exact Rem.here _ _ | (apply Rem.there; exact Rem.here _ _))))))))))))))) (by first | exact Rem.here _ _ | (apply Rem.there; first | exact Rem.here _ _ | (apply Rem.there; first | exact Rem.here _ _ | (apply Rem.there; first | exact Rem.here _ _ | (apply Rem.there; first | exact Rem.here _ _ | (apply Rem.there; first | exact Rem.here _ _ | (apply Rem.there; first | exact Rem.here _ _ | (apply Rem.there; first | exact Rem.here _ _ | (apply Rem.there; first | exact Rem.here _ _ | (apply Rem.there; first | exact Rem.here _ _ | (apply Rem.there; first | exact Rem.here _ _ | (apply Rem.there; first | exact Rem.here _ _ | (apply Rem.there; first | exact Rem.here _ _ | (apply Rem.there; first | exact Rem.here _ _ | (apply Rem.there; exact Rem.here _ _))))))))))))))) hS ?_); clear hS; rintro _ _ w ⟨la, lc, rfl, rfl⟩ hS; simp only [List.cons_append, List.nil_append] at hS) | (refine ck_build2 (e := 3) hS rfl rfl (by constructor) (by constructor) rfl rfl (by decide +kernel) ?_; clear hS; intro q w hS; simp only [Act.put, List.setIfInBounds_toArray, List.set_cons_zero, List.set_cons_succ]) | (go_at_call 36; refine Ct.out (plain_calls (xs := [0, 1]) (ys := [0, 1]) hS (Rd.row (by repeat (first | exact List.Mem.head _ | apply List.Mem.tail))) (Rd.pts (by repeat (first | exact List.Mem.head _ | apply List.Mem.tail))) (by simp) (by simp)) ?_; clear hS; intro w hS) | (refine ck_region (fun _ => 0) (fun _ => []) [] hS (by kernel_rfl) (by decide +kernel) ?_ ?_; exact ⟨fun _ _ _ h => h.2, fun _ _ h => h⟩; clear hS; intro w hS _; (repeat (first | (refine ckT_max rfl rfl rfl rfl ?_; simp only [Act.put, List.setIfInBounds_toArray, List.set_cons_zero, List.set_cons_succ]) | (refine ckT_min rfl rfl rfl rfl ?_; simp only [Act.put, List.setIfInBounds_toArray, List.set_cons_zero, List.set_cons_succ]) | (apply wpT_pure rfl rfl; (intro _; go_simp; (try (go_ints; (try go_simp))); (first | (rw [decide_eq_true]; omega) | (rw [decide_eq_false]; omega) | rfl)); simp only [Act.put, List.setIfInBounds_toArray, List.set_cons_zero, List.set_cons_succ]) | (refine ckT_load hS rfl rfl rfl (by simp) (by repeat (first | exact List.Mem.head _ | apply List.Mem.tail)) rfl (by decide +kernel) ?_; simp only [Act.put, List.setIfInBounds_toArray, List.set_cons_zero, List.set_cons_succ]) | (refine ckT_store hS rfl rfl rfl (by constructor) (by repeat (first | exact Upd.here _ _ _ | apply Upd.there)) (by simp) rfl (by decide +kernel) (by simp) ?_; clear hS; intro w hS; simp only [Act.put, List.setIfInBounds_toArray, List.set_cons_zero, List.set_cons_succ] at hS ⊢) | (refine wpT_skip rfl ?_; simp only [Act.put, List.setIfInBounds_toArray, List.set_cons_zero, List.set_cons_succ]) )); refine wpT_nil ?_))
  go_ret
  exact ⟨_, ⟨rfl, rfl⟩, hS.dropN 4⟩
end Go.Proofs.Ytnkcdicmjdafiaa
