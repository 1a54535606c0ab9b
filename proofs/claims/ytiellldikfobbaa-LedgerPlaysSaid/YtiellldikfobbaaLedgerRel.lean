/- The two ledgers, side by side. -/
import Derived.Test.YtiellldikfobbaaLedgerSame
import Derived.WalkKit
import Derived.WalkSpells
import Derived.WalkLawsBesides
import Derived.WalkMore
import Derived.Deep.LoopGhost
set_option linter.unusedVariables false
set_option linter.unusedSimpArgs false
namespace Go.Proofs.Ytiellldikfobbaa
open Go.RowKit
/-- What ledger's counts are like behind m deeds. -/
def ldI (m : Nat) (B : List (List Int)) : Prop := B.length = 8 ∧ ∀ s, s < 8 → ∃ a0 a1 a2 a3 a4 a5 q : Int, B[s]? = some [0, a0, a1, a2, a3, a4, a5, q] ∧ (0 ≤ a1 ∧ 0 ≤ a2 ∧ 0 ≤ a3 ∧ 0 ≤ a4 ∧ 0 ≤ a5 ∧ 0 ≤ q) ∧ a0 = q + a1 + a2 + a3 + a4 + a5 ∧ a0 ≤ m
def mkR (B : List (List Int)) (s : Nat) : List Int := if posC (withS B s) = true then withS B s else (B[s]?).getD []
def refOf (B : List (List Int)) : List (List Int) := (List.range 8).map (mkR B)
section
variable {m : Nat} {B : List (List Int)}
theorem ldI.eights (h : ldI m B) : Eights B := fun c hc => by
  obtain ⟨i, hi, rfl⟩ := List.mem_iff_getElem.1 hc
  obtain ⟨a0, a1, a2, a3, a4, a5, q, e, _⟩ := h.2 i (by have := h.1; omega)
  rw [List.getElem?_eq_getElem hi] at e
  injection e with e; rw [e]; rfl
theorem ldI_zero : ldI 0 zeroB := ⟨rfl, fun s hs => by
  refine ⟨0, 0, 0, 0, 0, 0, 0, ?_, by omega, by omega, by omega⟩
  revert s; decide⟩
theorem ldI.mono {n : Nat} (h : ldI m B) (hn : m ≤ n) : ldI n B := ⟨h.1, fun s hs => by
  obtain ⟨a0, a1, a2, a3, a4, a5, q, e, h1, h2, h3⟩ := h.2 s hs
  exact ⟨a0, a1, a2, a3, a4, a5, q, e, h1, h2, by omega⟩⟩
theorem ldI.put (h : ldI m B) {s : Nat} (hs : s < 8) {a0 a1 a2 a3 a4 a5 q : Int} (h1 : 0 ≤ a1 ∧ 0 ≤ a2 ∧ 0 ≤ a3 ∧ 0 ≤ a4 ∧ 0 ≤ a5 ∧ 0 ≤ q) (h2 : a0 = q + a1 + a2 + a3 + a4 + a5) (h3 : a0 ≤ (m + 1 : Nat)) : ldI (m + 1) (B.set s [0, a0, a1, a2, a3, a4, a5, q]) :=
  ⟨by simpa using h.1, fun i hi => by
    by_cases e : s = i
    · subst e
      exact ⟨a0, a1, a2, a3, a4, a5, q, by rw [List.getElem?_set_self (by have := h.1; omega)], h1, h2, h3⟩
    · rw [List.getElem?_set_ne e]
      exact (h.mono (Nat.le_succ m)).2 i hi⟩
theorem posC_set (c : List Int) (x : Int) : posC (c.set 0 x) = posC c := by unfold posC; rw [List.getElem?_set_ne (by omega)]
theorem posC_mk (s : Nat) : posC (mkR B s) = posC (withS B s) := by
  unfold mkR
  split
  · rfl
  · unfold withS; rw [posC_set]
theorem filter_alike {α β : Type} (p : β → Bool) (f g : α → β) : ∀ l : List α, (∀ s ∈ l, p (f s) = p (g s) ∧ (p (g s) = true → f s = g s)) → (l.map f).filter p = (l.map g).filter p
  | [], _ => rfl
  | s :: l, h => by
    have ih := filter_alike p f g l fun t ht => h t (by simp [ht])
    obtain ⟨h1, h2⟩ := h s (by simp)
    rw [List.map_cons, List.map_cons, List.filter_cons, List.filter_cons, h1, ih]
    by_cases hp : p (g s) = true
    · rw [if_pos hp, if_pos hp, h2 hp]
    · rw [if_neg hp, if_neg hp]
theorem refOf_pos : (refOf B).filter posC = posL B := by
  unfold refOf posL eachP
  exact filter_alike _ _ _ _ fun s _ => ⟨posC_mk s, fun h => by unfold mkR; rw [if_pos h]⟩
theorem refOf_get {s : Nat} (hs : s < 8) : (refOf B)[s]? = some (mkR B s) := by
  unfold refOf
  rw [List.getElem?_map, List.getElem?_range hs]; rfl
theorem refOf_len : (refOf B).length = 8 := by unfold refOf; simp
theorem refOf_eights (h : ldI m B) : Eights (refOf B) := fun c hc => by
  unfold refOf at hc
  obtain ⟨i, hi, rfl⟩ := List.mem_map.1 hc
  obtain ⟨a0, a1, a2, a3, a4, a5, q, e, _⟩ := h.2 i (List.mem_range.1 hi)
  unfold mkR withS
  rw [e]
  split <;> rfl
theorem mkR_some {s : Nat} {a0 a1 a2 a3 a4 a5 q : Int} (e : B[s]? = some [0, a0, a1, a2, a3, a4, a5, q]) : ∃ k, mkR B s = [k, a0, a1, a2, a3, a4, a5, q] := by
  unfold mkR withS
  rw [e]
  split
  · exact ⟨s, rfl⟩
  · exact ⟨0, rfl⟩
theorem refOf_set (h : ldI m B) {s : Nat} (hs : s < 8) {a0 a1 a2 a3 a4 a5 q : Int} (hp : 0 < a0) : refOf (B.set s [0, a0, a1, a2, a3, a4, a5, q]) = (refOf B).set s [(s : Int), a0, a1, a2, a3, a4, a5, q] := by
  apply List.ext_getElem?
  intro i
  by_cases hi : i < 8
  · by_cases e : s = i
    · subst e
      rw [refOf_get hs, List.getElem?_set_self (by rw [refOf_len]; exact hs)]
      have e1 : withS (B.set s [0, a0, a1, a2, a3, a4, a5, q]) s = [(s : Int), a0, a1, a2, a3, a4, a5, q] := by
        unfold withS
        rw [List.getElem?_set_self (by have := h.1; omega)]; rfl
      unfold mkR
      rw [e1, if_pos (show posC [(s : Int), a0, a1, a2, a3, a4, a5, q] = true from decide_eq_true hp)]
    · rw [List.getElem?_set_ne e, refOf_get hi, refOf_get hi]
      unfold mkR withS
      rw [List.getElem?_set_ne e]
  · rw [List.getElem?_eq_none (by rw [refOf_len]; omega), List.getElem?_eq_none (by rw [List.length_set, refOf_len]; omega)]
theorem refOf_zero : refOf zeroB = zeroB := by decide
end
theorem rAccTo (b : Nat) (B B' : List (List Int)) (s : Nat) (hs : s < 8) (h : Eights B) (c : List Int) (hc : B[s]? = some c) (q x : Int) (hq : c[7]? = some q) (hx : c[1]? = some x) (q0 : 0 ≤ q) (q1 : q ≤ 1000000) (x0 : 0 ≤ x) (x1 : x ≤ 1000000) (e : B.set s (((c.set 0 (s : Int)).set 1 (x + 1)).set 7 (q + 1)) = B') :
    Ct Try.prog 9 #[.pointer (some ⟨b, 0, none⟩), .int .i64 s, .int .i64 0] [refBR b B] (Gives (.int .i64 0) [refBR b B']) := by
  subst e; exact rNoteAcc_ct b B s hs h c hc q x hq hx q0 q1 x0 x1
theorem rOkTo (b : Nat) (B B' : List (List Int)) (s f : Nat) (hs : s < 8) (hf0 : 1 ≤ f) (hf1 : f ≤ 5) (h : Eights B) (c : List Int) (hc : B[s]? = some c) (q x : Int) (hq : c[7]? = some q) (hx : c[1 + f]? = some x) (q0 : 1 ≤ q) (q1 : q ≤ 1000000) (x0 : 0 ≤ x) (x1 : x ≤ 1000000) (e : B.set s (((c.set 0 (s : Int)).set (1 + f) (x + 1)).set 7 (q - 1)) = B') :
    Ct Try.prog 9 #[.pointer (some ⟨b, 0, none⟩), .int .i64 s, .int .i64 f] [refBR b B] (Gives (.int .i64 0) [refBR b B']) := by
  subst e; exact rNoteOk_ct b B s f hs hf0 hf1 h c hc q x hq hx q0 q1 x0 x1
theorem lOkTo (b : Nat) (B B' : List (List Int)) (s f : Nat) (hs : s < 8) (hf0 : 1 ≤ f) (hf1 : f ≤ 5) (h : Eights B) (c : List Int) (hc : B[s]? = some c) (q x : Int) (hq : c[7]? = some q) (hx : c[1 + f]? = some x) (q0 : 1 ≤ q) (q1 : q ≤ 1000000) (x0 : 0 ≤ x) (x1 : x ≤ 1000000) (e : B.set s ((c.set 7 (q - 1)).set (1 + f) (x + 1)) = B') :
    Ct Try.prog 8 #[.pointer (some ⟨b, 0, none⟩), .int .i64 s, .int .i64 f] [ledR b B] (Gives (.int .i64 0) [ledR b B']) := by
  subst e; exact ledgerNoteOk_ct b B s f hs hf0 hf1 h c hc q x hq hx q0 q1 x0 x1
/-- A deed, at a socket that there is. -/
theorem noteBoth (b c : Nat) {m : Nat} {B : List (List Int)} (h : ldI m B) (hm : m ≤ 1000) (s : Nat) (hs : s < 8) (f : Int) : ∃ (e : Int) (B' : List (List Int)), ldI (m + 1) B' ∧
    Ct Try.prog 8 #[.pointer (some ⟨b, 0, none⟩), .int .i64 s, .int .i64 f] [ledR b B] (Gives (.int .i64 e) [ledR b B']) ∧
    Ct Try.prog 9 #[.pointer (some ⟨c, 0, none⟩), .int .i64 s, .int .i64 f] [refBR c (refOf B)] (Gives (.int .i64 e) [refBR c (refOf B')]) := by
  obtain ⟨a0, a1, a2, a3, a4, a5, q, e, ⟨h1, h2, h3, h4, h5, h6⟩, hsum, hle⟩ := h.2 s hs
  obtain ⟨k, hk⟩ := mkR_some e
  have hr := refOf_get (B := B) hs
  rw [hk] at hr
  have hE := h.eights
  have hE2 := refOf_eights h
  by_cases hf : f < 0 ∨ 6 ≤ f
  · exact ⟨1, B, h.mono (Nat.le_succ m), ledgerNoteArg_ct b B s f hs hf, rNoteArg_ct c (refOf B) s f hs hf⟩
  obtain ⟨f, rfl⟩ : ∃ n : Nat, f = n := ⟨f.toNat, by omega⟩
  by_cases hf0 : f = 0
  · subst hf0
    refine ⟨0, B.set s [0, a0 + 1, a1, a2, a3, a4, a5, q + 1], h.put hs (by omega) (by omega) (by omega), ledgerAccTo_ct b B _ s hs hE _ e q a0 rfl rfl (by omega) (by omega) (by omega) (by omega) rfl, ?_⟩
    rw [refOf_set h hs (by omega)]
    exact rAccTo c (refOf B) _ s hs hE2 _ hr q a0 rfl rfl (by omega) (by omega) (by omega) (by omega) rfl
  by_cases hq : q = 0
  · subst hq
    exact ⟨7, B, h.mono (Nat.le_succ m), ledgerNoteNone_ct b B s f hs (by omega) (by omega) hE _ e rfl, rNoteNone_ct c (refOf B) s f hs (by omega) (by omega) hE2 _ hr rfl⟩
  have hf5 : f ≤ 5 := by omega
  have hf1 : 1 ≤ f := by omega
  clear hf hf0
  match f, hf1, hf5 with
  | 1, _, _ =>
    refine ⟨0, B.set s [0, a0, a1 + 1, a2, a3, a4, a5, q - 1], h.put hs (by omega) (by omega) (by omega), lOkTo b B _ s 1 hs (by omega) (by omega) hE _ e q a1 rfl rfl (by omega) (by omega) (by omega) (by omega) rfl, ?_⟩
    rw [refOf_set h hs (by omega)]
    exact rOkTo c (refOf B) _ s 1 hs (by omega) (by omega) hE2 _ hr q a1 rfl rfl (by omega) (by omega) (by omega) (by omega) rfl
  | 2, _, _ =>
    refine ⟨0, B.set s [0, a0, a1, a2 + 1, a3, a4, a5, q - 1], h.put hs (by omega) (by omega) (by omega), lOkTo b B _ s 2 hs (by omega) (by omega) hE _ e q a2 rfl rfl (by omega) (by omega) (by omega) (by omega) rfl, ?_⟩
    rw [refOf_set h hs (by omega)]
    exact rOkTo c (refOf B) _ s 2 hs (by omega) (by omega) hE2 _ hr q a2 rfl rfl (by omega) (by omega) (by omega) (by omega) rfl
  | 3, _, _ =>
    refine ⟨0, B.set s [0, a0, a1, a2, a3 + 1, a4, a5, q - 1], h.put hs (by omega) (by omega) (by omega), lOkTo b B _ s 3 hs (by omega) (by omega) hE _ e q a3 rfl rfl (by omega) (by omega) (by omega) (by omega) rfl, ?_⟩
    rw [refOf_set h hs (by omega)]
    exact rOkTo c (refOf B) _ s 3 hs (by omega) (by omega) hE2 _ hr q a3 rfl rfl (by omega) (by omega) (by omega) (by omega) rfl
  | 4, _, _ =>
    refine ⟨0, B.set s [0, a0, a1, a2, a3, a4 + 1, a5, q - 1], h.put hs (by omega) (by omega) (by omega), lOkTo b B _ s 4 hs (by omega) (by omega) hE _ e q a4 rfl rfl (by omega) (by omega) (by omega) (by omega) rfl, ?_⟩
    rw [refOf_set h hs (by omega)]
    exact rOkTo c (refOf B) _ s 4 hs (by omega) (by omega) hE2 _ hr q a4 rfl rfl (by omega) (by omega) (by omega) (by omega) rfl
  | 5, _, _ =>
    refine ⟨0, B.set s [0, a0, a1, a2, a3, a4, a5 + 1, q - 1], h.put hs (by omega) (by omega) (by omega), lOkTo b B _ s 5 hs (by omega) (by omega) hE _ e q a5 rfl rfl (by omega) (by omega) (by omega) (by omega) rfl, ?_⟩
    rw [refOf_set h hs (by omega)]
    exact rOkTo c (refOf B) _ s 5 hs (by omega) (by omega) hE2 _ hr q a5 rfl rfl (by omega) (by omega) (by omega) (by omega) rfl
end Go.Proofs.Ytiellldikfobbaa
