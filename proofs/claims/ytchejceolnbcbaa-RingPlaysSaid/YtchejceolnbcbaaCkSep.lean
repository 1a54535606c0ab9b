/- A world told by its resources: each owns some blocks, no block is owned twice; what nobody owns is as it was. -/
import Derived.WalkKit
import Derived.Deep.Draws
set_option linter.unusedVariables false
set_option linter.unusedSimpArgs false
namespace Go.Proofs.Ytchejceolnbcbaa
open Go.RowKit

/-- Something that is said of some blocks, and of these alone. -/
structure Res where
  fp : List Nat
  holds : World → Prop
  loc : ∀ w w' : World, (∀ b ∈ fp, w'.heap[b]? = w.heap[b]?) → holds w → holds w'

/-- A block of cells, known whole. -/
def pts (b : Nat) (cs : List Value) (T : TypeId) : Res :=
  ⟨[b], fun w => w.heap[b]? = some (.cells cs.toArray T (0, 0)), fun w w' h hh => (h b (by simp)).trans hh⟩

def fps (L : List Res) : List Nat := L.flatMap Res.fp

structure Sep (w0 : World) (F : List Nat) (L : List Res) (w : World) : Prop where
  os : w.os = w0.os
  tape : w.tape = w0.tape
  output : w.output = w0.output
  size : w0.heap.size ≤ w.heap.size
  frame : ∀ i, i < w0.heap.size → i ∉ F → w.heap[i]? = w0.heap[i]?
  nodup : (fps L).Nodup
  own : ∀ b ∈ fps L, b < w.heap.size ∧ (b ∈ F ∨ w0.heap.size ≤ b)
  holds : ∀ r ∈ L, r.holds w

section
variable {w0 w w' : World} {F : List Nat} {L L' A B : List Res}

theorem Sep.start (w : World) (F : List Nat) : Sep w F [] w := ⟨rfl, rfl, rfl, Nat.le_refl _, fun _ _ _ => rfl, by simp [fps], by simp [fps], by simp⟩

theorem Sep.perm (h : Sep w0 F L w) (p : L.Perm L') : Sep w0 F L' w :=
  ⟨h.os, h.tape, h.output, h.size, h.frame, (p.flatMap_right Res.fp).nodup_iff.1 h.nodup, fun b hb => h.own b ((p.flatMap_right Res.fp).mem_iff.2 hb), fun r hr => h.holds r (p.mem_iff.2 hr)⟩

theorem Sep.drew (h : Sep w0 F L w) : Sep w0 F L w.drew := ⟨h.os, h.tape, h.output, h.size, h.frame, h.nodup, h.own, fun r hr => r.loc w _ (fun _ _ => rfl) (h.holds r hr)⟩
theorem Sep.drewN (h : Sep w0 F L w) (n : Nat) : Sep w0 F L (w.drewN n) := ⟨h.os, h.tape, h.output, h.size, h.frame, h.nodup, h.own, fun r hr => r.loc w _ (fun _ _ => rfl) (h.holds r hr)⟩

theorem fps_append : fps (A ++ B) = fps A ++ fps B := by simp [fps]
theorem fps_cons (r : Res) : fps (r :: L) = r.fp ++ fps L := by simp [fps]

/-- What is not wanted any more. -/
theorem Sep.drop {r : Res} (h : Sep w0 F (r :: L) w) : Sep w0 F L w :=
  ⟨h.os, h.tape, h.output, h.size, h.frame, (List.nodup_append.1 (by have := h.nodup; rwa [fps_cons] at this)).2.1, fun b hb => h.own b (by rw [fps_cons]; simp [hb]), fun r' hr => h.holds r' (by simp [hr])⟩
theorem Sep.dropN (n : Nat) (h : Sep w0 F L w) : Sep w0 F (L.drop n) w := by
  induction n generalizing L with
  | zero => exact h
  | succ n ih =>
    cases L with
    | nil => exact h
    | cons r L => exact ih h.drop

/-- Two resources have no block in common. -/
theorem Sep.ne {b c : Nat} {r s : Res} (h : Sep w0 F (r :: s :: L) w) (hb : b ∈ r.fp) (hc : c ∈ s.fp) : b ≠ c := by
  have := h.nodup
  rw [fps_cons, fps_cons] at this
  exact (List.nodup_append.1 this).2.2 b hb c (by simp [hc])

/-- **A step that touches some resources alone.** -/
theorem Sep.step (h : Sep w0 F (A ++ L) w) (hos : w'.os = w.os) (htape : w'.tape = w.tape) (hout : w'.output = w.output) (hsize : w.heap.size ≤ w'.heap.size)
    (hkeep : ∀ i, i < w.heap.size → i ∉ fps A → w'.heap[i]? = w.heap[i]?) (hn : (fps B).Nodup) (ho : ∀ b ∈ fps B, b < w'.heap.size ∧ (b ∈ fps A ∨ w.heap.size ≤ b)) (hh : ∀ r ∈ B, r.holds w') :
    Sep w0 F (B ++ L) w' := by
  have hnd := h.nodup
  rw [fps_append] at hnd
  obtain ⟨_, hL, hd⟩ := List.nodup_append.1 hnd
  have oA : ∀ b ∈ fps A, b < w.heap.size ∧ (b ∈ F ∨ w0.heap.size ≤ b) := fun b hb => h.own b (by rw [fps_append]; simp [hb])
  have oL : ∀ b ∈ fps L, b < w.heap.size ∧ (b ∈ F ∨ w0.heap.size ≤ b) := fun b hb => h.own b (by rw [fps_append]; simp [hb])
  refine ⟨hos.trans h.os, htape.trans h.tape, hout.trans h.output, Nat.le_trans h.size hsize, fun i hi hF => ?_, ?_, fun b hb => ?_, fun r hr => ?_⟩
  · refine (hkeep i (Nat.lt_of_lt_of_le hi h.size) fun hA => ?_).trans (h.frame i hi hF)
    rcases (oA i hA).2 with h1 | h1
    · exact hF h1
    · omega
  · rw [fps_append]
    refine List.nodup_append.2 ⟨hn, hL, fun b hb c hc e => ?_⟩
    subst e
    rcases (ho b hb).2 with h1 | h1
    · exact hd b h1 b hc rfl
    · have := (oL b hc).1; omega
  · rw [fps_append] at hb
    rcases List.mem_append.1 hb with hb | hb
    · refine ⟨(ho b hb).1, ?_⟩
      rcases (ho b hb).2 with h1 | h1
      · exact (oA b h1).2
      · exact .inr (Nat.le_trans h.size h1)
    · exact ⟨Nat.lt_of_lt_of_le (oL b hb).1 hsize, (oL b hb).2⟩
  · rcases List.mem_append.1 hr with hr | hr
    · exact hh r hr
    · refine r.loc w w' (fun b hb => ?_) (h.holds r (by simp [hr]))
      have hbL : b ∈ fps L := List.mem_flatMap.2 ⟨r, hr, hb⟩
      exact hkeep b (oL b hbL).1 fun hA => hd b hA b hbL rfl

/-- One resource, at its place in the list, and another one in its stead. -/
inductive Upd : List Res → Res → Res → List Res → Prop
  | here (r r' : Res) (L : List Res) : Upd (r :: L) r r' (r' :: L)
  | there (s r r' : Res) (L L' : List Res) : Upd L r r' L' → Upd (s :: L) r r' (s :: L')

theorem Upd.split {r r' : Res} (h : Upd L r r' L') : ∃ A B, L = A ++ r :: B ∧ L' = A ++ r' :: B := by
  induction h with
  | here r r' L => exact ⟨[], L, rfl, rfl⟩
  | there s r r' L L' _ ih =>
    obtain ⟨A, B, rfl, rfl⟩ := ih
    exact ⟨s :: A, B, rfl, rfl⟩
theorem Upd.mem {r r' : Res} (h : Upd L r r' L') : r ∈ L := by
  obtain ⟨A, B, rfl, rfl⟩ := h.split; simp

/-- A step that touches one resource alone. -/
theorem Sep.upd {r r' : Res} (h : Sep w0 F L w) (hu : Upd L r r' L') (hos : w'.os = w.os) (htape : w'.tape = w.tape) (hout : w'.output = w.output) (hsize : w.heap.size ≤ w'.heap.size)
    (hkeep : ∀ i, i < w.heap.size → i ∉ r.fp → w'.heap[i]? = w.heap[i]?) (hn : r'.fp.Nodup) (ho : ∀ b ∈ r'.fp, b < w'.heap.size ∧ (b ∈ r.fp ∨ w.heap.size ≤ b)) (hh : r'.holds w') : Sep w0 F L' w' := by
  obtain ⟨A, B, rfl, rfl⟩ := hu.split
  have h1 : Sep w0 F ([r] ++ (A ++ B)) w := h.perm List.perm_middle
  have h2 := h1.step (B := [r']) hos htape hout hsize (by simpa [fps] using hkeep) (by simpa [fps] using hn) (by simpa [fps] using ho) (by simpa using hh)
  have h3 : Sep w0 F (r' :: (A ++ B)) w' := h2
  exact h3.perm List.perm_middle.symm

theorem Sep.new {o : Res} (h : Sep w0 F L w) (hos : w'.os = w.os) (htape : w'.tape = w.tape) (hout : w'.output = w.output) (hsize : w.heap.size ≤ w'.heap.size)
    (hkeep : ∀ i, i < w.heap.size → w'.heap[i]? = w.heap[i]?) (hn : o.fp.Nodup) (ho : ∀ b ∈ o.fp, b < w'.heap.size ∧ w.heap.size ≤ b) (hh : o.holds w') : Sep w0 F (o :: L) w' :=
  Sep.step (A := []) (B := [o]) h hos htape hout hsize (fun i hi _ => hkeep i hi) (by simpa [fps] using hn) (fun b hb => by have := ho b (by simpa [fps] using hb); exact ⟨this.1, .inr this.2⟩) (by simpa using hh)

/-! ### What the machine does -/
theorem pts_cell {b off : Nat} {cs : List Value} {T : TypeId} {v : Value} (h : (pts b cs T).holds w) (hv : cs[off]? = some v) : w.cell? ⟨b, off, none⟩ = some v := by
  have h' : w.heap[b]? = some (.cells cs.toArray T (0, 0)) := h
  unfold World.cell?; simp [h', hv]
theorem pts_frozen {b off : Nat} {cs : List Value} {T : TypeId} (h : (pts b cs T).holds w) : w.frozen? ⟨b, off, none⟩ = false := by
  have h' : w.heap[b]? = some (.cells cs.toArray T (0, 0)) := h
  unfold World.frozen?; simp [h']

theorem Sep.alloc (h : Sep w0 F L w) (cs : List Value) (T : TypeId) : Sep w0 F (pts w.heap.size cs T :: L) (w.alloc (.cells cs.toArray T)) := by
  refine h.new rfl rfl rfl (by simp) (fun i hi => Below.heap_alloc w _ i hi) (by simp [pts]) (fun b hb => ?_) ?_
  · have : b = w.heap.size := by simpa [pts] using hb
    subst this; simp
  · show (w.heap.push _)[w.heap.size]? = _
    simp

theorem Sep.setCell {b off : Nat} {cs : List Value} {T : TypeId} (h : Sep w0 F L w) (v : Value) (hu : Upd L (pts b cs T) (pts b (cs.set off v) T) L') : Sep w0 F L' (w.setCell ⟨b, off, none⟩ v) := by
  refine h.upd hu rfl rfl rfl (by simp) (fun i hi hn => Below.heap_setCell w _ v i (by simpa [pts] using hn)) (by simp [pts]) (fun c hc => ?_) ?_
  · have : c = b := by simpa [pts] using hc
    subst this
    exact ⟨by simp; exact (h.own c (List.mem_flatMap.2 ⟨_, hu.mem, by simp [pts]⟩)).1, .inl (by simp [pts])⟩
  · have h' : w.heap[b]? = some (.cells cs.toArray T (0, 0)) := h.holds _ hu.mem
    show (w.setCell ⟨b, off, none⟩ v).heap[b]? = some (.cells (cs.set off v).toArray T (0, 0))
    simp only [World.setCell, Array.getElem?_modify, ↓reduceIte, h', Option.map_some]
    simp
end

/-! ### Contracts -/
/-- It returned; what is owned then. -/
def CkR (post : Value → List Res → Prop) (w0 : World) (F : List Nat) (L : List Res) : Ending → World → Prop
  | .returned v, w' => ∃ L', post v L' ∧ Sep w0 F (L' ++ L) w'
  | _, _ => False

/-- Called so, where 'pre' is owned, the function returns; what it owns then is told by 'post'. -/
def Ct (P : Program) (f : FuncId) (args : Array Value) (pre : List Res) (post : Value → List Res → Prop) : Prop :=
  ∀ (w0 : World) (F : List Nat) (L : List Res) (w : World), Sep w0 F (pre ++ L) w → Calls P f args w (CkR post w0 F L)

theorem Ct.call {P : Program} {f : FuncId} {args : Array Value} {pre : List Res} {post : Value → List Res → Prop} (h : Ct P f args pre post) {w0 w : World} {F : List Nat} {L : List Res} (hS : Sep w0 F (pre ++ L) w)
    {R : Ending → World → Prop} (hR : ∀ v L' w', post v L' → Sep w0 F (L' ++ L) w' → R (.returned v) w') : Calls P f args w R :=
  (h w0 F L w hS).mono fun e w' hr => by
    cases e with
    | returned v => obtain ⟨L', hp, hs⟩ := hr; exact hR v L' w' hp hs
    | panicked c => exact hr.elim
    | outgrown => exact hr.elim

theorem Ct.mono {P : Program} {f : FuncId} {args : Array Value} {pre : List Res} {post post' : Value → List Res → Prop} (h : Ct P f args pre post) (hp : ∀ v L, post v L → post' v L) : Ct P f args pre post' :=
  fun w0 F L w hS => Ct.call h hS fun v L' w' h1 h2 => ⟨L', hp _ _ h1, h2⟩

/-- A result, and what is owned then, both known. -/
abbrev Gives (v : Value) (L : List Res) : Value → List Res → Prop := fun v' L' => v' = v ∧ L' = L

theorem Ct.callG {P : Program} {f : FuncId} {args : Array Value} {pre : List Res} {v : Value} {L1 : List Res} (h : Ct P f args pre (Gives v L1)) {w0 w : World} {F : List Nat} {L : List Res} (hS : Sep w0 F (pre ++ L) w)
    {R : Ending → World → Prop} (hR : ∀ w', Sep w0 F (L1 ++ L) w' → R (.returned v) w') : Calls P f args w R :=
  h.call hS fun v' L' w' ⟨h1, h2⟩ h3 => by subst h1; subst h2; exact hR w' h3

theorem Ct.call0 {P : Program} {f : FuncId} {args : Array Value} {v : Value} (h : Ct P f args [] (Gives v [])) {w0 w : World} {F : List Nat} {L : List Res} (hS : Sep w0 F L w)
    {R : Ending → World → Prop} (hR : ∀ w', Sep w0 F L w' → R (.returned v) w') : Calls P f args w R :=
  Ct.callG (L := L) h hS hR

/-- A call that owns one thing, and leaves one in its stead. -/
theorem Ct.callU {P : Program} {f : FuncId} {args : Array Value} {r r' : Res} {v : Value} (h : Ct P f args [r] (Gives v [r'])) {w0 w : World} {F : List Nat} {L L' : List Res} (hu : Upd L r r' L') (hS : Sep w0 F L w)
    {R : Ending → World → Prop} (hR : ∀ w', Sep w0 F L' w' → R (.returned v) w') : Calls P f args w R := by
  obtain ⟨A, B, rfl, rfl⟩ := hu.split
  have h1 : Sep w0 F ([r] ++ (A ++ B)) w := hS.perm List.perm_middle
  refine h.callG h1 fun w' hs => hR w' ?_
  have h3 : Sep w0 F (r' :: (A ++ B)) w' := hs
  exact h3.perm List.perm_middle.symm

/-- A call that makes something of its own. -/
theorem Ct.callN {P : Program} {f : FuncId} {args : Array Value} {post : Value → List Res → Prop} (h : Ct P f args [] post) {w0 w : World} {F : List Nat} {L : List Res} (hS : Sep w0 F L w)
    {R : Ending → World → Prop} (hR : ∀ v L' w', post v L' → Sep w0 F (L' ++ L) w' → R (.returned v) w') : Calls P f args w R :=
  Ct.call (L := L) h hS hR

end Go.Proofs.Ytchejceolnbcbaa
