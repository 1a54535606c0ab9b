/- Arena's contracts, an arena as one thing; Used. -/
import Derived.Test.YtnkcdicmjdafiaaArenaIter
import Derived.WalkKit
import Derived.WalkSpells
import Derived.WalkLawsBesides
import Derived.WalkMore
import Derived.Deep.LoopGhost
set_option linter.unusedVariables false
set_option linter.unusedSimpArgs false
namespace Go.Proofs.Ytnkcdicmjdafiaa
open Go.RowKit
structure AA where
  a1 : Option Addr
  c1 : Nat
  a2 : Option Addr
  c2 : Nat
abbrev arenaG (b : Nat) (room : Int) (used : List Bool) (freed : List Nat) (A : AA) : Res := grpR (arenaL b room used freed A.a1 A.c1 A.a2 A.c2)
theorem toG {P : Program} {f : FuncId} {args : Array Value} {b : Nat} {room : Int} {used used' : List Bool} {freed freed' : List Nat} {A : AA} {v : Value} (h : Ct P f args (arenaL b room used freed A.a1 A.c1 A.a2 A.c2) (Arena v b room used' freed')) :
    Ct P f args [arenaG b room used freed A] (fun v' L => v' = v ∧ ∃ A' : AA, L = [arenaG b room used' freed' A']) :=
  Ct.grp (l := fun A' : AA => arenaL b room used' freed' A'.a1 A'.c1 A'.a2 A'.c2) (h.mono fun _ _ ⟨e, a1, c1, a2, c2, h⟩ => ⟨e, ⟨a1, c1, a2, c2⟩, h⟩)
theorem toGU {P : Program} {f : FuncId} {args : Array Value} {b : Nat} {room : Int} {used : List Bool} {freed : List Nat} {A : AA} {v : Value} (h : Ct P f args (arenaL b room used freed A.a1 A.c1 A.a2 A.c2) (Gives v (arenaL b room used freed A.a1 A.c1 A.a2 A.c2))) :
    Ct P f args [arenaG b room used freed A] (Gives v [arenaG b room used freed A]) :=
  fun w0 F L w hS => (h w0 F L w (Sep.grp.2 hS)).mono fun e w' hr => by
    cases e with
    | returned u => obtain ⟨L', ⟨rfl, rfl⟩, hs⟩ := hr; exact ⟨_, ⟨rfl, rfl⟩, Sep.grp.1 hs⟩
    | panicked c => exact hr.elim
    | outgrown => exact hr.elim
theorem arenaNewG_ct (n r : Int) (hr : min (max n 0) 4096 = r) : Ct Try.prog 16 #[.int .i64 n] [] (fun v L => ∃ b A, v = .pointer (some ⟨b, 0, none⟩) ∧ L = [arenaG b r [] [] A]) :=
  hr ▸ fun w0 F L w hS => (arenaNew_ct n w0 F L w hS).mono fun e w' hr => by
    cases e with
    | returned u => obtain ⟨L', ⟨b, rfl, a1, c1, a2, c2, rfl⟩, hs⟩ := hr; exact ⟨_, ⟨b, ⟨a1, c1, a2, c2⟩, rfl, rfl⟩, Sep.grp.1 hs⟩
    | panicked c => exact hr.elim
    | outgrown => exact hr.elim
theorem IterCt.grp {α : Type} {P : Program} {gf : Nat} {lb : Array Value} {encs : α → Array Value} {xs : List α} {r : Res} {l : List Res} (h : IterCt P gf lb encs xs (r :: l)) : IterCt P gf lb encs xs [r, grpR l] := by
  intro σ y S go hY A w0 F L w hS
  have p1 : List.Perm ([S A [], r, grpR l] ++ L) (grpR l :: (S A [] :: r :: L)) := by
    refine (List.Perm.cons _ (.swap _ _ _)).trans (.swap _ _ _)
  have p2 : ∀ B, List.Perm (l ++ (B :: r :: L)) (B :: (r :: l) ++ L) := fun B => List.perm_middle.trans (.cons _ List.perm_middle)
  have h1 := (Sep.grp.2 (hS.perm p1)).perm (p2 _)
  refine (h σ y S go hY A).call h1 ?_
  rintro v L' w' ⟨rfl, A', rfl⟩ hS2
  refine ⟨_, ⟨rfl, A', rfl⟩, ?_⟩
  have h3 := Sep.grp.1 (hS2.perm (p2 _).symm)
  exact h3.perm (((List.Perm.swap _ _ _)).trans (List.Perm.cons _ (.swap _ _ _)))
theorem Ct.call2 {P : Program} {f : FuncId} {args : Array Value} {r1 r2 : Res} {post : Value → List Res → Prop} {w0 w : World} {F : List Nat} {L L1 L0 : List Res} (h : Ct P f args [r1, r2] post) (hr1 : Rem L r1 L1) (hr2 : Rem L1 r2 L0) (hS : Sep w0 F L w)
    {R : Ending → World → Prop} (hR : ∀ v L' w', post v L' → Sep w0 F (L' ++ L0) w' → R (.returned v) w') : Calls P f args w R :=
  Ct.call (L := L0) h ((hS.perm hr1.perm).perm (.cons _ hr2.perm)) hR
section
variable (b : Nat) (room : Int) (used : List Bool) (freed : List Nat) (A : AA)
theorem arenaIterG (bx : Nat) (hu2 : used.length ≤ 4096) : IterCt Try.prog 42 #[.pointer (some ⟨bx, 0, none⟩)] (fun x : Int => #[.int .i64 x]) (outZ used used.length) [pts bx [.pointer (some ⟨b, 0, none⟩)] 36, arenaG b room used freed A] :=
  (arenaIter bx b room used freed A.a1 A.c1 A.a2 A.c2 hu2).grp
theorem countOne : ∀ l (xs : List Int), runP (fun _ : List Int => true) l xs = l ++ xs := fun l xs => runP_all xs l (fun _ => rfl)
theorem arenaUsed_ct (hu2 : used.length ≤ 4096) : Ct Try.prog 22 #[.pointer (some ⟨b, 0, none⟩)] [arenaG b room used freed A] (Gives (.int .i64 ((outZ used used.length).length)) [arenaG b room used freed A]) := by
  have hlen := outZ_length (used := used) (k := used.length)
  intro w0 F L w hS
  simp only [List.cons_append, List.nil_append] at hS
  refine calls_of_wpM Try.func22 rfl ?_
  simp only [Try.ntmps22, List.size_toArray, List.length_cons, List.length_nil, Nat.reduceAdd, Nat.reduceSub, Array.replicate_succ, Array.replicate_zero, List.push_toArray, List.append_toArray, List.nil_append, List.cons_append]
  go_wp2_with (first | go_skip | (refine ck_load hS rfl rfl rfl (by repeat (first | exact List.Mem.head _ | apply List.Mem.tail)) rfl (by decide +kernel) ?_; simp only [Act.put, List.setIfInBounds_toArray, List.set_cons_zero, List.set_cons_succ]) | (refine ck_store hS rfl rfl rfl (by constructor) (by repeat (first | exact Upd.here _ _ _ | apply Upd.there)) (by simp <;> omega) rfl (by decide +kernel) ?_; clear hS; intro w hS; simp only [Act.put, List.setIfInBounds_toArray, List.set_cons_zero, List.set_cons_succ] at hS ⊢) | (refine ck_box hS rfl rfl (by constructor) ?_; clear hS; intro nb w hS; simp only [Act.put, List.setIfInBounds_toArray, List.set_cons_zero, List.set_cons_succ]) | (refine ck_max rfl rfl rfl rfl ?_; simp only [Act.put, List.setIfInBounds_toArray, List.set_cons_zero, List.set_cons_succ]) | (refine ck_min rfl rfl rfl rfl ?_; simp only [Act.put, List.setIfInBounds_toArray, List.set_cons_zero, List.set_cons_succ]) | (refine ck_alloc (t := 3) (v := .int .i64 0) (cs := [.int .i64 0]) hS rfl rfl (by kernel_rfl) rfl ?_; clear hS; intro nb w hS; simp only [Act.put, List.setIfInBounds_toArray, List.set_cons_zero, List.set_cons_succ]) | (go_at_call 21; with_reducible refine Ct.callN (arenaAll_ct b) hS ?_; clear hS; rintro _ _ w ⟨bx, rfl, rfl⟩ hS; simp only [List.cons_append, List.nil_append] at hS) | (refine ck_region (fun _ => 0) (fun _ => []) [] hS (by kernel_rfl) (by decide +kernel) ?_ ?_; exact ⟨fun _ _ _ h => h.2, fun _ _ h => h⟩; clear hS; intro w hS _; (repeat (first | (refine ckT_max rfl rfl rfl rfl ?_; simp only [Act.put, List.setIfInBounds_toArray, List.set_cons_zero, List.set_cons_succ]) | (refine ckT_min rfl rfl rfl rfl ?_; simp only [Act.put, List.setIfInBounds_toArray, List.set_cons_zero, List.set_cons_succ]) | (apply wpT_pure rfl rfl; (intro _; go_simp; (try (go_ints; (try go_simp))); (first | (rw [decide_eq_true]; omega) | (rw [decide_eq_false]; omega) | rfl)); simp only [Act.put, List.setIfInBounds_toArray, List.set_cons_zero, List.set_cons_succ]) | (refine ckT_load hS rfl rfl rfl (by simp) (by repeat (first | exact List.Mem.head _ | apply List.Mem.tail)) rfl (by decide +kernel) ?_; simp only [Act.put, List.setIfInBounds_toArray, List.set_cons_zero, List.set_cons_succ]) | (refine ckT_store hS rfl rfl rfl (by constructor) (by repeat (first | exact Upd.here _ _ _ | apply Upd.there)) (by simp) rfl (by decide +kernel) (by simp) ?_; clear hS; intro w hS; simp only [Act.put, List.setIfInBounds_toArray, List.set_cons_zero, List.set_cons_succ] at hS ⊢) | (refine wpT_skip rfl ?_; simp only [Act.put, List.setIfInBounds_toArray, List.set_cons_zero, List.set_cons_succ]) )); refine wpT_nil ?_))
  refine ck_rangeFunc (B := fun (_ : Unit) (p : List Int) => pts nb [.int .i64 (p.length : Int)] 3) (go := fun _ => true) (A0 := ()) (hS.perm (.swap _ _ _)) (arenaIterG b room used freed A bx hu2) rfl (fun _ => run_enter (P := Try.prog) (f := 42) (by kernel_rfl)) (fun _ => rfl) ?round ?fin
  case round =>
    intro l pre x suf hx hok _ w0 F L w
    have hpl : pre.length < 4096 := by have := congrArg List.length hx; simp at this; omega
    refine wpIn_skip ?_
    refine ⟨rfl, ?_⟩
    intro w hS
    clear hx hok
    simp
    have hp2 : (pre.length : Int) + 1 ≤ 4096 := by omega
    gi_wp2_with (first | (refine ckI_skip rfl ?_; simp only [Act.put, List.setIfInBounds_toArray, List.set_cons_zero, List.set_cons_succ]) | (refine ckI_load hS rfl rfl rfl (by repeat (first | exact List.Mem.head _ | apply List.Mem.tail)) rfl (by decide +kernel) ?_; simp only [Act.put, List.setIfInBounds_toArray, List.set_cons_zero, List.set_cons_succ]) | (refine ckI_store hS rfl rfl rfl (by constructor) (by repeat (first | exact Upd.here _ _ _ | apply Upd.there)) (by simp <;> omega) rfl (by decide +kernel) ?_; clear hS; intro w hS; simp only [Act.put, List.setIfInBounds_toArray, List.set_cons_zero, List.set_cons_succ]) | (apply ckI_pure rfl rfl; (intro _; go_simp; (try (go_ints; (try go_simp))); (first | (rw [decide_eq_true]; omega) | (rw [decide_eq_false]; omega) | rfl)); simp only [Act.put, List.setIfInBounds_toArray, List.set_cons_zero, List.set_cons_succ]))
    exact hS
  case fin =>
    intro D _ w hS
    rw [countOne] at hS ⊢
    simp only [okP, Bool.or_true, if_true, List.cons_append, List.nil_append] at hS ⊢
    go_wp2_with (first | go_skip | (refine ck_load hS rfl rfl rfl (by repeat (first | exact List.Mem.head _ | apply List.Mem.tail)) rfl (by decide +kernel) ?_; simp only [Act.put, List.setIfInBounds_toArray, List.set_cons_zero, List.set_cons_succ]) | (refine ck_store hS rfl rfl rfl (by constructor) (by repeat (first | exact Upd.here _ _ _ | apply Upd.there)) (by simp <;> omega) rfl (by decide +kernel) ?_; clear hS; intro w hS; simp only [Act.put, List.setIfInBounds_toArray, List.set_cons_zero, List.set_cons_succ] at hS ⊢) | (refine ck_box hS rfl rfl (by constructor) ?_; clear hS; intro nb w hS; simp only [Act.put, List.setIfInBounds_toArray, List.set_cons_zero, List.set_cons_succ]) | (refine ck_max rfl rfl rfl rfl ?_; simp only [Act.put, List.setIfInBounds_toArray, List.set_cons_zero, List.set_cons_succ]) | (refine ck_min rfl rfl rfl rfl ?_; simp only [Act.put, List.setIfInBounds_toArray, List.set_cons_zero, List.set_cons_succ])  | (refine ck_region (fun _ => 0) (fun _ => []) [] hS (by kernel_rfl) (by decide +kernel) ?_ ?_; exact ⟨fun _ _ _ h => h.2, fun _ _ h => h⟩; clear hS; intro w hS _; (repeat (first | (refine ckT_max rfl rfl rfl rfl ?_; simp only [Act.put, List.setIfInBounds_toArray, List.set_cons_zero, List.set_cons_succ]) | (refine ckT_min rfl rfl rfl rfl ?_; simp only [Act.put, List.setIfInBounds_toArray, List.set_cons_zero, List.set_cons_succ]) | (apply wpT_pure rfl rfl; (intro _; go_simp; (try (go_ints; (try go_simp))); (first | (rw [decide_eq_true]; omega) | (rw [decide_eq_false]; omega) | rfl)); simp only [Act.put, List.setIfInBounds_toArray, List.set_cons_zero, List.set_cons_succ]) | (refine ckT_load hS rfl rfl rfl (by simp) (by repeat (first | exact List.Mem.head _ | apply List.Mem.tail)) rfl (by decide +kernel) ?_; simp only [Act.put, List.setIfInBounds_toArray, List.set_cons_zero, List.set_cons_succ]) | (refine ckT_store hS rfl rfl rfl (by constructor) (by repeat (first | exact Upd.here _ _ _ | apply Upd.there)) (by simp) rfl (by decide +kernel) (by simp) ?_; clear hS; intro w hS; simp only [Act.put, List.setIfInBounds_toArray, List.set_cons_zero, List.set_cons_succ] at hS ⊢) | (refine wpT_skip rfl ?_; simp only [Act.put, List.setIfInBounds_toArray, List.set_cons_zero, List.set_cons_succ]) )); refine wpT_nil ?_))
    have k1 := (hS.bring (r := pts nb [.int .i64 ((outZ used used.length).length : Int)] 3) (by repeat (first | exact Rem.here _ _ | apply Rem.there))).drop
    have k2 := (k1.bring (r := pts bx [.pointer (some ⟨b, 0, none⟩)] 36) (by repeat (first | exact Rem.here _ _ | apply Rem.there))).drop
    exact ckM_end (.inr rfl) k2 rfl (fun w hS => ⟨results_tmp rfl _ _ _, _, ⟨rfl, rfl⟩, hS⟩)
theorem arenaUsedZ_ct : Ct Try.prog 22 #[.pointer none] [] (Gives (.int .i64 0) []) := by
  intro w0 F L w hS
  simp only [List.cons_append, List.nil_append] at hS
  refine calls_of_wpM Try.func22 rfl ?_
  simp only [Try.ntmps22, List.size_toArray, List.length_cons, List.length_nil, Nat.reduceAdd, Nat.reduceSub, Array.replicate_succ, Array.replicate_zero, List.push_toArray, List.append_toArray, List.nil_append, List.cons_append]
  go_wp2_with (first | go_skip | (refine ck_load hS rfl rfl rfl (by repeat (first | exact List.Mem.head _ | apply List.Mem.tail)) rfl (by decide +kernel) ?_; simp only [Act.put, List.setIfInBounds_toArray, List.set_cons_zero, List.set_cons_succ]) | (refine ck_store hS rfl rfl rfl (by constructor) (by repeat (first | exact Upd.here _ _ _ | apply Upd.there)) (by simp <;> omega) rfl (by decide +kernel) ?_; clear hS; intro w hS; simp only [Act.put, List.setIfInBounds_toArray, List.set_cons_zero, List.set_cons_succ] at hS ⊢) | (refine ck_box hS rfl rfl (by constructor) ?_; clear hS; intro nb w hS; simp only [Act.put, List.setIfInBounds_toArray, List.set_cons_zero, List.set_cons_succ]) | (refine ck_max rfl rfl rfl rfl ?_; simp only [Act.put, List.setIfInBounds_toArray, List.set_cons_zero, List.set_cons_succ]) | (refine ck_min rfl rfl rfl rfl ?_; simp only [Act.put, List.setIfInBounds_toArray, List.set_cons_zero, List.set_cons_succ]) | (refine ck_alloc (t := 3) (v := .int .i64 0) (cs := [.int .i64 0]) hS rfl rfl (by kernel_rfl) rfl ?_; clear hS; intro nb w hS; simp only [Act.put, List.setIfInBounds_toArray, List.set_cons_zero, List.set_cons_succ]) | (go_at_call 21; with_reducible refine Ct.callN (arenaAllZ_ct) hS ?_; clear hS; rintro _ _ w ⟨bx, rfl, rfl⟩ hS; simp only [List.cons_append, List.nil_append] at hS) | (refine ck_region (fun _ => 0) (fun _ => []) [] hS (by kernel_rfl) (by decide +kernel) ?_ ?_; exact ⟨fun _ _ _ h => h.2, fun _ _ h => h⟩; clear hS; intro w hS _; (repeat (first | (refine ckT_max rfl rfl rfl rfl ?_; simp only [Act.put, List.setIfInBounds_toArray, List.set_cons_zero, List.set_cons_succ]) | (refine ckT_min rfl rfl rfl rfl ?_; simp only [Act.put, List.setIfInBounds_toArray, List.set_cons_zero, List.set_cons_succ]) | (apply wpT_pure rfl rfl; (intro _; go_simp; (try (go_ints; (try go_simp))); (first | (rw [decide_eq_true]; omega) | (rw [decide_eq_false]; omega) | rfl)); simp only [Act.put, List.setIfInBounds_toArray, List.set_cons_zero, List.set_cons_succ]) | (refine ckT_load hS rfl rfl rfl (by simp) (by repeat (first | exact List.Mem.head _ | apply List.Mem.tail)) rfl (by decide +kernel) ?_; simp only [Act.put, List.setIfInBounds_toArray, List.set_cons_zero, List.set_cons_succ]) | (refine ckT_store hS rfl rfl rfl (by constructor) (by repeat (first | exact Upd.here _ _ _ | apply Upd.there)) (by simp) rfl (by decide +kernel) (by simp) ?_; clear hS; intro w hS; simp only [Act.put, List.setIfInBounds_toArray, List.set_cons_zero, List.set_cons_succ] at hS ⊢) | (refine wpT_skip rfl ?_; simp only [Act.put, List.setIfInBounds_toArray, List.set_cons_zero, List.set_cons_succ]) )); refine wpT_nil ?_))
  refine ck_rangeFunc (B := fun (_ : Unit) (p : List Int) => pts nb [.int .i64 (p.length : Int)] 3) (go := fun _ => true) (A0 := ()) (hS.perm (.swap _ _ _)) (valuesNil bx) rfl (fun _ => run_enter (P := Try.prog) (f := 43) (by kernel_rfl)) (fun _ => rfl) ?round ?fin
  case round =>
    intro l pre x suf hx
    simp at hx
  case fin =>
    intro D _ w hS
    simp only [runP, okP, Bool.or_true, if_true, List.cons_append, List.nil_append, List.length_nil] at hS ⊢
    go_wp2_with (first | go_skip | (refine ck_load hS rfl rfl rfl (by repeat (first | exact List.Mem.head _ | apply List.Mem.tail)) rfl (by decide +kernel) ?_; simp only [Act.put, List.setIfInBounds_toArray, List.set_cons_zero, List.set_cons_succ]) | (refine ck_store hS rfl rfl rfl (by constructor) (by repeat (first | exact Upd.here _ _ _ | apply Upd.there)) (by simp <;> omega) rfl (by decide +kernel) ?_; clear hS; intro w hS; simp only [Act.put, List.setIfInBounds_toArray, List.set_cons_zero, List.set_cons_succ] at hS ⊢) | (refine ck_box hS rfl rfl (by constructor) ?_; clear hS; intro nb w hS; simp only [Act.put, List.setIfInBounds_toArray, List.set_cons_zero, List.set_cons_succ]) | (refine ck_max rfl rfl rfl rfl ?_; simp only [Act.put, List.setIfInBounds_toArray, List.set_cons_zero, List.set_cons_succ]) | (refine ck_min rfl rfl rfl rfl ?_; simp only [Act.put, List.setIfInBounds_toArray, List.set_cons_zero, List.set_cons_succ])  | (refine ck_region (fun _ => 0) (fun _ => []) [] hS (by kernel_rfl) (by decide +kernel) ?_ ?_; exact ⟨fun _ _ _ h => h.2, fun _ _ h => h⟩; clear hS; intro w hS _; (repeat (first | (refine ckT_max rfl rfl rfl rfl ?_; simp only [Act.put, List.setIfInBounds_toArray, List.set_cons_zero, List.set_cons_succ]) | (refine ckT_min rfl rfl rfl rfl ?_; simp only [Act.put, List.setIfInBounds_toArray, List.set_cons_zero, List.set_cons_succ]) | (apply wpT_pure rfl rfl; (intro _; go_simp; (try (go_ints; (try go_simp))); (first | (rw [decide_eq_true]; omega) | (rw [decide_eq_false]; omega) | rfl)); simp only [Act.put, List.setIfInBounds_toArray, List.set_cons_zero, List.set_cons_succ]) | (refine ckT_load hS rfl rfl rfl (by simp) (by repeat (first | exact List.Mem.head _ | apply List.Mem.tail)) rfl (by decide +kernel) ?_; simp only [Act.put, List.setIfInBounds_toArray, List.set_cons_zero, List.set_cons_succ]) | (refine ckT_store hS rfl rfl rfl (by constructor) (by repeat (first | exact Upd.here _ _ _ | apply Upd.there)) (by simp) rfl (by decide +kernel) (by simp) ?_; clear hS; intro w hS; simp only [Act.put, List.setIfInBounds_toArray, List.set_cons_zero, List.set_cons_succ] at hS ⊢) | (refine wpT_skip rfl ?_; simp only [Act.put, List.setIfInBounds_toArray, List.set_cons_zero, List.set_cons_succ]) )); refine wpT_nil ?_))
    have k1 := (hS.bring (r := pts nb [.int .i64 ((0 : Nat) : Int)] 3) (by repeat (first | exact Rem.here _ _ | apply Rem.there))).drop
    have k2 := (k1.bring (r := pts bx [.slice none 0 0] 22) (by repeat (first | exact Rem.here _ _ | apply Rem.there))).drop
    exact ckM_end (.inr rfl) k2 rfl (fun w hS => ⟨results_tmp rfl _ _ _, _, ⟨rfl, rfl⟩, hS⟩)
end
end Go.Proofs.Ytnkcdicmjdafiaa
