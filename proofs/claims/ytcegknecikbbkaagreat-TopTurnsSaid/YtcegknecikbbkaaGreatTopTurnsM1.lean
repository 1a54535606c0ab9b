/- TopTurns: what functions of the program come to: part 1 of 6. -/
import Derived.WalkKit
import Derived.Deep.Draws
import Derived.Deep.MidRow
import Derived.Laws.CopyRow
import Derived.Laws.AppendOwn
import Derived.RangeFuncRecord
import Derived.RangeFuncSeq
import Derived.TacticsInMore
import Derived.OwnWalkIn
import Derived.LoopIn
import Derived.Great.BuildSlice
import Derived.Deep.OwnRows
import Derived.Test.YtcegknecikbbkaaGreatProg
import Derived.WalkSpells
import Derived.WalkLawsBesides
import Derived.WalkMore
import Derived.Deep.LoopGhost
import Derived.Lib.AppendZeros
import Derived.Lib.SliceRun
/- A region that draws its order: the order of the text suffices, if operations that no edge orders commute. -/
set_option linter.unusedVariables false
set_option linter.unusedSimpArgs false
namespace Go.Proofs.YtcegknecikbbkaaGreat

/-! Short names: they stand in every walk. -/
theorem spA {α : Type} {l : List α} {i : Nat} {a : α} : l.toArray.setIfInBounds i a = (l.set i a).toArray := List.setIfInBounds_toArray ..
theorem spZ {α : Type} {x : α} {xs : List α} {a : α} : (x :: xs).set 0 a = a :: xs := rfl
theorem spS {α : Type} {x : α} {xs : List α} {n : Nat} {a : α} : (x :: xs).set (n + 1) a = x :: xs.set n a := rfl
theorem mH {α : Type} {a : α} (l : List α) : List.Mem a (a :: l) := List.Mem.head l
theorem mT {α : Type} {a b : α} {l : List α} (h : List.Mem a l) : List.Mem a (b :: l) := List.Mem.tail b h
/-- What an operation may do: 0 reckons only, 1 loads, 2 acts. -/
def ckCls (o : Oper) : Nat :=
  match o.op with
  | .move _ | .assign _ | .pick .. | .nilCheck _ | .binOp .. | .unOp .. | .convert .. | .fieldAddr .. | .field .. | .indexAddr .. | .index .. | .extract .. | .slice .. | .build .. | .makeFunc .. => 0
  | .load .. => 1
  | .call { callee := .builtin .len, .. } | .call { callee := .builtin .cap, .. } | .call { callee := .builtin .max, .. } | .call { callee := .builtin .min, .. } => 0
  | _ => 2

section
variable {P : Program} {ops : Array Oper} {Q : Exit → Act → World → Prop} {blk : Nat → Nat} {conf : Nat → List Nat} {flg : List Nat}

/-- What is known of an operation that does not act, at a frame: it is passed over, or it yields; and which block of the world it looks at. -/
def Quiet1 (P : Program) (ops : Array Oper) (o : Oper) (v : Value) (B : Option Nat) (w : World) (a : Act) : Prop :=
  (Region.wanted o (yielded ops a.tmps) = false ∧ v = undef) ∨
  (Region.wanted o (yielded ops a.tmps) = true ∧ ∀ w', (∀ b, B = some b → w'.heap[b]? = w.heap[b]?) → (execOp a.eval o).run P w' = .ok (.value v) w')

/-- One operation: what reckons only yields the same in every world; what loads tells its block, where it is flagged; what acts keeps the blocks of its conflicts. -/
def xOp (P : Program) (ops : Array Oper) (blk : Nat → Nat) (conf : Nat → List Nat) (flg : List Nat) (Q : Exit → Act → World → Prop) (i : Nat) (K : Act → World → Prop) (a : Act) (w : World) : Prop :=
  match ops[i]? with
  | none => K a w
  | some o =>
    if ckCls o = 2 then (if Region.wanted o (yielded ops a.tmps) = true then o.wp P a w (fun a' w' => (∀ j ∈ conf i, w'.heap[blk j]? = w.heap[blk j]?) ∧ K a' w') Q else K (a.put o.dst undef) w)
    else ∃ v B, (ckCls o = 0 → B = none) ∧ (∀ b, B = some b → i ∈ flg → b = blk i) ∧ Quiet1 P ops o v B w a ∧ K (a.put o.dst v) w

def wpX (P : Program) (ops : Array Oper) (blk : Nat → Nat) (conf : Nat → List Nat) (flg : List Nat) (Q : Exit → Act → World → Prop) : List Nat → Act → World → Prop
  | [], a, w => Q .normal a w
  | i :: rest, a, w => xOp P ops blk conf flg Q i (wpX P ops blk conf flg Q rest) a w

/-! ### The forms, laid open -/
theorem xOp_act {i : Nat} {o : Oper} (ho : ops[i]? = some o) (hc : ckCls o = 2) {K : Act → World → Prop} {a : Act} {w : World} :
    xOp P ops blk conf flg Q i K a w = if Region.wanted o (yielded ops a.tmps) = true then o.wp P a w (fun a' w' => (∀ j ∈ conf i, w'.heap[blk j]? = w.heap[blk j]?) ∧ K a' w') Q else K (a.put o.dst undef) w := by
  unfold xOp; simp only [ho]; rw [if_pos hc]
theorem xOp_quiet {i : Nat} {o : Oper} (ho : ops[i]? = some o) (hc : ckCls o ≠ 2) {K : Act → World → Prop} {a : Act} {w : World} :
    xOp P ops blk conf flg Q i K a w = ∃ v B, (ckCls o = 0 → B = none) ∧ (∀ b, B = some b → i ∈ flg → b = blk i) ∧ Quiet1 P ops o v B w a ∧ K (a.put o.dst v) w := by
  unfold xOp; simp only [ho]; rw [if_neg hc]

theorem xOp_mono {i : Nat} {K K' : Act → World → Prop} (h : ∀ a w, K a w → K' a w) {a : Act} {w : World} (hh : xOp P ops blk conf flg Q i K a w) : xOp P ops blk conf flg Q i K' a w := by
  cases ho : ops[i]? with
  | none => unfold xOp at *; simp only [ho] at *; exact h _ _ hh
  | some o =>
    by_cases hc : ckCls o = 2
    · rw [xOp_act ho hc] at *
      split
      · rename_i hw; rw [if_pos hw] at hh; exact Oper.wp_mono (fun _ _ hk => ⟨hk.1, h _ _ hk.2⟩) hh
      · rename_i hw; rw [if_neg hw] at hh; exact h _ _ hh
    · rw [xOp_quiet ho hc] at *
      obtain ⟨v, B, h1, h2, h3, h4⟩ := hh
      exact ⟨v, B, h1, h2, h3, h _ _ h4⟩

theorem xOp_wpOp {i : Nat} {K : Act → World → Prop} {a : Act} {w : World} (h : xOp P ops blk conf flg Q i K a w) : wpOp P ops Q i K a w := by
  unfold wpOp
  cases ho : ops[i]? with
  | none => unfold xOp at h; simp only [ho] at h; exact h
  | some o =>
    simp only []
    by_cases hc : ckCls o = 2
    · rw [xOp_act ho hc] at h
      split
      · rename_i hw; rw [if_pos hw] at h; exact .inl (Oper.wp_mono (fun _ _ hk => hk.2) h)
      · rename_i hw; rw [if_neg hw] at h; exact h
    · rw [xOp_quiet ho hc] at h
      obtain ⟨v, B, _, _, h3, h4⟩ := h
      rcases h3 with ⟨hw, rfl⟩ | ⟨hw, hr⟩
      · rw [if_neg (by simp [hw])]; exact h4
      · rw [if_pos hw]
        refine .inl ?_
        unfold Oper.wp
        rw [hr w (fun _ _ => rfl)]
        exact h4

/-- Whatever order. -/
def anyX (P : Program) (ops : Array Oper) (blk : Nat → Nat) (conf : Nat → List Nat) (flg : List Nat) (Q : Exit → Act → World → Prop) : Nat → Array Bool → Act → World → Prop
  | 0, listed, a, w => Region.ready .any ops listed = [] ∧ Q .normal a w
  | fuel + 1, listed, a, w =>
    (Region.ready .any ops listed = [] → Q .normal a w) ∧
    ∀ i ∈ Region.ready .any ops listed, xOp P ops blk conf flg Q i (anyX P ops blk conf flg Q fuel (listed.setIfInBounds i true)) a w

theorem wpAny_of_anyX : ∀ (fuel : Nat) (listed : Array Bool) (a : Act) (w : World), anyX P ops blk conf flg Q fuel listed a w → wpAny P .any ops Q fuel listed a w
  | 0, _, _, _, h => h
  | fuel + 1, _, _, _, h => ⟨h.1, fun i hi => wpOp_mono (fun a w => wpAny_of_anyX fuel _ a w) (xOp_wpOp (h.2 i hi))⟩

/-! ### Two operations that change places -/
def pairOk (ops : Array Oper) (conf : Nat → List Nat) (flg : List Nat) (i j : Nat) : Bool :=
  match ops[i]?, ops[j]? with
  | some oi, some oj => oi.apart ops oj &&
    (if ckCls oi = 2 then ckCls oj == 0 || (ckCls oj == 1 && (conf i).contains j && flg.contains j)
     else (if ckCls oj = 2 then ckCls oi == 0 || (ckCls oi == 1 && (conf j).contains i && flg.contains i) else true))
  | _, _ => false

/-- No way out but by the end. -/
def OnlyEnd (Q : Exit → Act → World → Prop) : Prop := (∀ c a w, ¬ Q (.panic c) a w) ∧ ∀ a w, ¬ Q .outgrown a w

theorem Quiet1.put {o : Oper} {v u : Value} {B : Option Nat} {w : World} {a : Act} {dst : Option Tmp} (hs : ∀ cs b, o.op ≠ .select cs b) (hap : ∀ d, dst = some d → d ∉ o.looksAt ops) : Quiet1 P ops o v B w (a.put dst u) ↔ Quiet1 P ops o v B w a := by
  unfold Quiet1
  rw [wanted_put o a dst u hap, execOp_put o hs a dst u hap]
theorem Quiet1.same {o : Oper} {v v' : Value} {B B' : Option Nat} {w w1 w2 : World} {a : Act} (h : Quiet1 P ops o v B w1 a) (h' : Quiet1 P ops o v' B' w2 a) (e : ∀ b, B = some b → w.heap[b]? = w1.heap[b]?) (e' : ∀ b, B' = some b → w.heap[b]? = w2.heap[b]?) : v = v' := by
  rcases h with ⟨hw, rfl⟩ | ⟨hw, hr⟩
  · rcases h' with ⟨_, rfl⟩ | ⟨hw', _⟩
    · rfl
    · rw [hw] at hw'; cases hw'
  · rcases h' with ⟨hw', _⟩ | ⟨_, hr'⟩
    · rw [hw] at hw'; cases hw'
    · have h1 := hr w e
      rw [hr' w e'] at h1
      injection h1 with h1; injection h1 with h1; exact h1.symm
theorem Quiet1.world {o : Oper} {v : Value} {B : Option Nat} {w w1 : World} {a : Act} (h : Quiet1 P ops o v B w1 a) (e : ∀ b, B = some b → w.heap[b]? = w1.heap[b]?) : Quiet1 P ops o v B w a := by
  rcases h with h | ⟨hw, hr⟩
  · exact .inl h
  · exact .inr ⟨hw, fun w' hw' => hr w' fun b hb => (hw' b hb).trans (e b hb)⟩

/-- A step, whatever frame it is carried out in, if its operands are there alike. -/
theorem upon_put {o : Oper} {a : Act} {dst : Option Tmp} {v : Value} (hd : ∀ d, dst = some d → o.dst ≠ some d) (hQ : OnlyEnd Q) {N N' : Act → World → Prop} {r : Result Next}
    (hN : ∀ (a' : Act), (a' = a ∨ ∃ d, a' = { a with defers := d :: a.defers }) → ∀ u w', N ((a'.put dst v).put o.dst u) w' → N' (a'.put o.dst u) w') (h : o.upon P (a.put dst v) N Q r) : o.upon P a N' Q r := by
  cases r with
  | ok n w' =>
    cases n <;> simp only [Oper.upon] at h ⊢
    case value u => exact hN a (.inl rfl) u w' h
    case skip => exact hN a (.inl rfl) _ w' h
    case defer d =>
      rw [Act.put_defers] at h
      exact hN _ (.inr ⟨d, rfl⟩) _ w' h
    case enter f args =>
      refine Calls.mono h fun e w'' he => ?_
      cases e with
      | returned u => exact hN a (.inl rfl) u w'' he
      | panicked c => exact (hQ.1 _ _ _ he).elim
      | outgrown => exact he
    case row row args => exact Rows.mono h fun u w'' he => hN a (.inl rfl) u w'' he
  | halt x w' =>
    cases x <;> simp only [Oper.upon] at h ⊢
    case panic u => exact (hQ.1 _ _ _ h).elim

/-- Something comes of a step. -/
theorem upon_some {o : Oper} {a : Act} (hQ : OnlyEnd Q) {N : Act → World → Prop} {r : Result Next} (h : o.upon P a N Q r) :
    ∃ a', (a' = a ∨ ∃ d, a' = { a with defers := d :: a.defers }) ∧ ∃ u w', N (a'.put o.dst u) w' := by
  cases r with
  | ok n w' =>
    cases n <;> simp only [Oper.upon] at h
    case value u => exact ⟨a, .inl rfl, u, w', h⟩
    case skip => exact ⟨a, .inl rfl, _, w', h⟩
    case defer d => exact ⟨_, .inr ⟨d, rfl⟩, _, w', h⟩
    case enter f args =>
      obtain ⟨e, w'', fr, he, _⟩ := h []
      cases e with
      | returned u => exact ⟨a, .inl rfl, u, w'', he⟩
      | panicked c => exact (hQ.1 _ _ _ he).elim
      | outgrown => obtain ⟨a0, w0, h0⟩ := he; exact (hQ.2 _ _ h0).elim
    case row row args =>
      obtain ⟨u, w'', he, _⟩ := h default []
      exact ⟨a, .inl rfl, u, w'', he⟩
  | halt x w' =>
    cases x <;> simp only [Oper.upon] at h
    case panic u => exact (hQ.1 _ _ _ h).elim

theorem Quiet1.defers {o : Oper} {v : Value} {B : Option Nat} {w : World} {a a' : Act} (h : a' = a ∨ ∃ d, a' = { a with defers := d :: a.defers }) : Quiet1 P ops o v B w a' ↔ Quiet1 P ops o v B w a := by
  rcases h with rfl | ⟨d, rfl⟩ <;> exact Iff.rfl

theorem xOp_swap {i j : Nat} {oi oj : Oper} (hi : ops[i]? = some oi) (hj : ops[j]? = some oj) (hsi : ∀ cs b, oi.op ≠ .select cs b) (hsj : ∀ cs b, oj.op ≠ .select cs b) (hQ : OnlyEnd Q) (hp : pairOk ops conf flg i j = true)
    {K : Act → World → Prop} {a : Act} {w : World} (h : xOp P ops blk conf flg Q i (fun a' w' => xOp P ops blk conf flg Q j K a' w') a w) : xOp P ops blk conf flg Q j (fun a' w' => xOp P ops blk conf flg Q i K a' w') a w := by
  simp only [pairOk, hi, hj, Bool.and_eq_true] at hp
  obtain ⟨hap, hcl⟩ := hp
  obtain ⟨l1, l2, l3⟩ := Oper.apart_spec hap
  have l2' : ∀ d, oj.dst = some d → oi.dst ≠ some d := fun d h1 h2 => l2 d h2 h1
  by_cases ci : ckCls oi = 2
  · have cj : ckCls oj ≠ 2 := by
      intro e; rw [if_pos ci] at hcl; simp [e] at hcl
    rw [if_pos ci] at hcl
    -- what acts comes first in the text
    have hB : ∀ (B : Option Nat), (ckCls oj = 0 → B = none) → (∀ b, B = some b → j ∈ flg → b = blk j) → ∀ w1 : World, (∀ k ∈ conf i, w1.heap[blk k]? = w.heap[blk k]?) → ∀ b, B = some b → w.heap[b]? = w1.heap[b]? := by
      intro B h0 h1 w1 hag b hb
      rcases Bool.or_eq_true _ _ ▸ hcl with hz | hz
      · rw [h0 (by simpa using hz)] at hb; cases hb
      · simp only [Bool.and_eq_true] at hz
        have hjf : j ∈ flg := by simpa using hz.2
        have hjc : j ∈ conf i := by simpa using hz.1.2
        rw [h1 b hb hjf]; exact (hag j hjc).symm
    rw [xOp_act hi ci] at h
    by_cases hw : Region.wanted oi (yielded ops a.tmps) = true
    · rw [if_pos hw] at h
      unfold Oper.wp at h
      obtain ⟨a', ha', u0, w0, hag, hx⟩ := upon_some hQ h
      rw [xOp_quiet hj cj] at hx
      obtain ⟨v, B, h0, h1, hq, _⟩ := hx
      have hq' : Quiet1 P ops oj v B w0 a := (Quiet1.defers ha').1 ((Quiet1.put hsj l1).1 hq)
      rw [xOp_quiet hj cj]
      refine ⟨v, B, h0, h1, hq'.world (hB B h0 h1 w0 hag), ?_⟩
      show xOp P ops blk conf flg Q i K (a.put oj.dst v) w
      rw [xOp_act hi ci, wanted_put oi a oj.dst v l3, if_pos hw]
      unfold Oper.wp
      rw [execOp_put oi hsi a oj.dst v l3]
      generalize hr : (execOp a.eval oi).run P w = r at h ⊢
      have key : ∀ (a' : Act), (a' = a ∨ ∃ d, a' = { a with defers := d :: a.defers }) → ∀ u w', ((∀ j ∈ conf i, w'.heap[blk j]? = w.heap[blk j]?) ∧ xOp P ops blk conf flg Q j K (a'.put oi.dst u) w') → (∀ j ∈ conf i, w'.heap[blk j]? = w.heap[blk j]?) ∧ K ((a'.put oj.dst v).put oi.dst u) w' := by
        intro a' ha' u w' ⟨hag', hx'⟩
        refine ⟨hag', ?_⟩
        rw [xOp_quiet hj cj] at hx'
        obtain ⟨v', B', h0', h1', hq2, hk⟩ := hx'
        have hq2' : Quiet1 P ops oj v' B' w' a := (Quiet1.defers ha').1 ((Quiet1.put hsj l1).1 hq2)
        have : v = v' := hq'.same (w := w) hq2' (hB B h0 h1 w0 hag) (hB B' h0' h1' w' hag')
        subst this
        rw [Act.put_comm _ _ _ l2'] 
        exact hk
      cases r with
      | ok n w' =>
        cases n <;> simp only [Oper.upon] at h ⊢
        case value u => exact key a (.inl rfl) u w' h
        case skip => exact key a (.inl rfl) _ w' h
        case defer d =>
          rw [Act.put_defers]
          exact key _ (.inr ⟨d, rfl⟩) _ w' h
        case enter f args =>
          refine Calls.mono h fun e w'' he => ?_
          cases e with
          | returned u => exact key a (.inl rfl) u w'' he
          | panicked c => exact (hQ.1 _ _ _ he).elim
          | outgrown => exact he
        case row row args => exact Rows.mono h fun u w'' he => key a (.inl rfl) u w'' he
      | halt x w' =>
        cases x <;> simp only [Oper.upon] at h ⊢
        case panic u => exact (hQ.1 _ _ _ h).elim
    · rw [if_neg hw] at h
      rw [xOp_quiet hj cj] at h
      obtain ⟨v, B, h0, h1, hq, hk⟩ := h
      rw [xOp_quiet hj cj]
      refine ⟨v, B, h0, h1, (Quiet1.put hsj l1).1 hq, ?_⟩
      show xOp P ops blk conf flg Q i K (a.put oj.dst v) w
      rw [xOp_act hi ci, wanted_put oi a oj.dst v l3, if_neg hw, Act.put_comm _ _ _ l2']
      exact hk
  · rw [if_neg ci] at hcl
    rw [xOp_quiet hi ci] at h
    obtain ⟨v, B, h0, h1, hq, hx⟩ := h
    by_cases cj : ckCls oj = 2
    · rw [if_pos cj] at hcl
      have hB : ∀ w1 : World, (∀ k ∈ conf j, w1.heap[blk k]? = w.heap[blk k]?) → ∀ b, B = some b → w1.heap[b]? = w.heap[b]? := by
        intro w1 hag b hb
        rcases Bool.or_eq_true _ _ ▸ hcl with hz | hz
        · rw [h0 (by simpa using hz)] at hb; cases hb
        · simp only [Bool.and_eq_true] at hz
          have hjf : i ∈ flg := by simpa using hz.2
          have hjc : i ∈ conf j := by simpa using hz.1.2
          rw [h1 b hb hjf]; exact hag i hjc
      rw [xOp_act hj cj, wanted_put oj a oi.dst v l1] at hx
      rw [xOp_act hj cj]
      split
      · rename_i hw
        rw [if_pos hw] at hx
        unfold Oper.wp at *
        rw [execOp_put oj hsj a oi.dst v l1] at hx
        refine upon_put (fun d hd => l2 d hd) hQ ?_ hx
        intro a' ha' u w' ⟨hag, hk⟩
        refine ⟨hag, ?_⟩
        rw [xOp_quiet hi ci]
        refine ⟨v, B, h0, h1, ((Quiet1.put hsi l3).2 ((Quiet1.defers ha').2 hq)).world (hB w' hag), ?_⟩
        rw [Act.put_comm _ _ _ l2']
        exact hk
      · rename_i hw
        rw [if_neg hw] at hx
        rw [xOp_quiet hi ci]
        refine ⟨v, B, h0, h1, (Quiet1.put hsi l3).2 hq, ?_⟩
        rw [Act.put_comm _ _ _ l2']
        exact hx
    · rw [xOp_quiet hj cj] at hx
      obtain ⟨v', B', h0', h1', hq', hk⟩ := hx
      rw [xOp_quiet hj cj]
      refine ⟨v', B', h0', h1', (Quiet1.put hsj l1).1 hq', ?_⟩
      rw [xOp_quiet hi ci]
      refine ⟨v, B, h0, h1, (Quiet1.put hsi l3).2 hq, ?_⟩
      rw [Act.put_comm _ _ _ l2']
      exact hk

/-- Something comes of an operation. -/
theorem xOp_some {i : Nat} (hQ : OnlyEnd Q) {K : Act → World → Prop} {a : Act} {w : World} (h : xOp P ops blk conf flg Q i K a w) : ∃ a' w', K a' w' := by
  cases ho : ops[i]? with
  | none => unfold xOp at h; simp only [ho] at h; exact ⟨_, _, h⟩
  | some o =>
    by_cases hc : ckCls o = 2
    · rw [xOp_act ho hc] at h
      split at h
      · obtain ⟨a', _, u, w', hk⟩ := upon_some hQ h
        exact ⟨_, _, hk.2⟩
      · exact ⟨_, _, h⟩
    · rw [xOp_quiet ho hc] at h
      obtain ⟨v, B, _, _, _, hk⟩ := h
      exact ⟨_, _, hk⟩

/-! ### The static look -/
def maskOf (ms : Array Nat) (o : Oper) : Nat := o.after.toList.foldl (fun s e => if Region.binds .any e then s ||| 2 ^ e.on ||| ms.getD e.on 0 else s) 0
def masksOk (ops : Array Oper) (ms : Array Nat) : Bool :=
  (List.range ops.size).all fun j => match ops[j]? with
    | some o => ms.getD j 0 == maskOf ms o && o.after.toList.all fun e => !Region.binds .any e || decide (e.on < j)
    | none => true
def okX (ops : Array Oper) (conf : Nat → List Nat) (flg : List Nat) : Bool :=
  Region.noSelect ops && masksOk ops (Region.before ops) &&
  (List.range ops.size).all fun j => (List.range j).all fun i => ((Region.before ops).getD j 0).testBit i || pairOk ops conf flg i j

theorem maskOf_bit (ms : Array Nat) (i : Nat) : ∀ (l : List Edge) (s : Nat), (l.foldl (fun s e => if Region.binds .any e then s ||| 2 ^ e.on ||| ms.getD e.on 0 else s) s).testBit i = true →
    s.testBit i = true ∨ ∃ e ∈ l, Region.binds .any e = true ∧ (e.on = i ∨ (ms.getD e.on 0).testBit i = true)
  | [], s, h => .inl h
  | e :: l, s, h => by
    simp only [List.foldl_cons] at h
    rcases maskOf_bit ms i l _ h with h1 | ⟨e', he, hb, hx⟩
    · split at h1
      · rename_i hb
        simp only [Nat.testBit_or, Bool.or_eq_true, Nat.testBit_two_pow, decide_eq_true_eq] at h1
        rcases h1 with (h1 | h1) | h1
        · exact .inl h1
        · exact .inr ⟨e, by simp, hb, .inl h1⟩
        · exact .inr ⟨e, by simp, hb, .inr h1⟩
      · exact .inl h1
    · exact .inr ⟨e', by simp [he], hb, hx⟩

def Closed (ops : Array Oper) (listed : Array Bool) : Prop := ∀ j o, ops[j]? = some o → listed.getD j false = true → ∀ e ∈ o.after, Region.binds .any e = true → listed.getD e.on false = true

theorem masksOk_spec {ms : Array Nat} (h : masksOk ops ms = true) {j : Nat} {o : Oper} (ho : ops[j]? = some o) : ms.getD j 0 = maskOf ms o ∧ ∀ e ∈ o.after, Region.binds .any e = true → e.on < j := by
  unfold masksOk at h
  rw [List.all_eq_true] at h
  have := h j (List.mem_range.2 (Array.getElem?_eq_some_iff.1 ho).1)
  simp only [ho, Bool.and_eq_true, beq_iff_eq, List.all_eq_true] at this
  refine ⟨this.1, fun e he hb => ?_⟩
  have := this.2 e (by simpa using he)
  simpa [hb] using this

theorem bit_listed {ms : Array Nat} (hm : masksOk ops ms = true) {listed : Array Bool} (hcl : Closed ops listed) : ∀ (n j : Nat), j < n → listed.getD j false = true → ∀ i, (ms.getD j 0).testBit i = true → j < ops.size → listed.getD i false = true := by
  intro n
  induction n with
  | zero => intro j hj; omega
  | succ n ih =>
    intro j hj hl i hb hjs
    have ho : ops[j]? = some ops[j] := Array.getElem?_eq_getElem hjs
    obtain ⟨h1, h2⟩ := masksOk_spec hm ho
    rw [h1] at hb
    rcases maskOf_bit ms i _ _ hb with h0 | ⟨e, he, hbd, hx⟩
    · simp at h0
    · have he' : e ∈ ops[j].after := by simpa using he
      have hon := hcl j _ ho hl e he' hbd
      rcases hx with rfl | hx
      · exact hon
      · have := h2 e he' hbd
        exact ih e.on (by omega) hon i hx (by omega)

theorem ready_bit {ms : Array Nat} (hm : masksOk ops ms = true) {listed : Array Bool} (hcl : Closed ops listed) {j : Nat} (hj : j ∈ Region.ready .any ops listed) {i : Nat} (hb : (ms.getD j 0).testBit i = true) : listed.getD i false = true := by
  obtain ⟨_, o, ho, hall⟩ := mem_ready.1 hj
  obtain ⟨h1, h2⟩ := masksOk_spec hm ho
  rw [h1] at hb
  rcases maskOf_bit ms i _ _ hb with h0 | ⟨e, he, hbd, hx⟩
  · simp at h0
  · have he' : e ∈ o.after := by simpa using he
    have hon := hall e he' hbd
    rcases hx with rfl | hx
    · exact hon
    · have hlt := (Array.getElem?_eq_some_iff.1 ho).1
      have := h2 e he' hbd
      exact bit_listed hm hcl (e.on + 1) e.on (by omega) hon i hx (by omega)

theorem Closed.step {listed : Array Bool} (hcl : Closed ops listed) {j : Nat} (hj : j ∈ Region.ready .any ops listed) : Closed ops (listed.setIfInBounds j true) := by
  obtain ⟨_, o, ho, hall⟩ := mem_ready.1 hj
  intro k ok hk hl e he hb
  by_cases hkj : j = k
  · subst hkj
    rw [ho] at hk; cases hk
    exact getD_set_true (hall e he hb)
  · rw [getD_set_ne false hkj] at hl
    exact getD_set_true (hcl k ok hk hl e he hb)

theorem anyX_first {i : Nat} (hQ : OnlyEnd Q) (hok : okX ops conf flg = true) : ∀ (fuel : Nat) (listed : Array Bool) (a : Act) (w : World),
    Closed ops listed → i ∈ Region.ready .any ops listed → (∀ j, j < i → listed.getD j true = true) →
    xOp P ops blk conf flg Q i (anyX P ops blk conf flg Q fuel (listed.setIfInBounds i true)) a w → anyX P ops blk conf flg Q (fuel + 1) listed a w := by
  simp only [okX, Bool.and_eq_true] at hok
  obtain ⟨⟨hsel, hms⟩, hpairs⟩ := hok
  intro fuel
  induction fuel with
  | zero =>
    intro listed a w _ hr _ h
    refine ⟨fun h0 => (by rw [h0] at hr; cases hr), fun j hj => ?_⟩
    by_cases hji : j = i
    · subst hji; exact h
    · obtain ⟨a', w', h1, _⟩ := xOp_some hQ h
      have := ready_mono hj hji
      rw [h1] at this; cases this
  | succ fuel ih =>
    intro listed a w hcl hr hmin h
    refine ⟨fun h0 => (by rw [h0] at hr; cases hr), fun j hj => ?_⟩
    by_cases hji : j = i
    · subst hji; exact h
    · obtain ⟨hjun, oj, hoj, _⟩ := mem_ready.1 hj
      obtain ⟨hiun, oi, hoi, _⟩ := mem_ready.1 hr
      have hlt : i < j := by
        rcases Nat.lt_or_ge i j with h | h
        · exact h
        · have := hmin j (by omega); rw [hjun] at this; cases this
      have hjs : j < ops.size := (Array.getElem?_eq_some_iff.1 hoj).1
      have hp : pairOk ops conf flg i j = true := by
        rw [List.all_eq_true] at hpairs
        have h1 := hpairs j (List.mem_range.2 hjs)
        rw [List.all_eq_true] at h1
        have h2 := h1 i (List.mem_range.2 hlt)
        simp only [Bool.or_eq_true] at h2
        rcases h2 with h2 | h2
        · have := ready_bit hms hcl hj h2
          have his : i < listed.size := by
            rcases Nat.lt_or_ge i listed.size with h' | h'
            · exact h'
            · simp [Array.getElem?_eq_none h'] at this
          simp [his] at this hiun
          rw [hiun] at this; cases this
        · exact h2
      have h1 : xOp P ops blk conf flg Q i (fun a' w' => xOp P ops blk conf flg Q j (anyX P ops blk conf flg Q fuel ((listed.setIfInBounds i true).setIfInBounds j true)) a' w') a w :=
        xOp_mono (fun a' w' h' => h'.2 j (ready_mono hj hji)) h
      have h2 := xOp_swap hoi hoj (fun cs b => Region.noSelect_spec hsel i oi cs b hoi) (fun cs b => Region.noSelect_spec hsel j oj cs b hoj) hQ hp h1
      refine xOp_mono (fun a' w' h' => ?_) h2
      refine ih (listed.setIfInBounds j true) a' w' (hcl.step hj) (ready_mono hr (Ne.symm hji)) (fun k hk => ?_) ?_
      · by_cases hjk : j = k
        · subst hjk; omega
        · rw [getD_set_ne true hjk]; exact hmin k hk
      · rw [Array.setIfInBounds_comm _ _ hji]; exact h'

theorem anyX_text (hQ : OnlyEnd Q) (hok : okX ops conf flg = true) : ∀ (d k : Nat) (listed : Array Bool) (a : Act) (w : World), k + d = ops.size → listed.size = ops.size → (∀ j, j < ops.size → listed.getD j true = decide (j < k)) →
    wpX P ops blk conf flg Q (List.range' k d) a w → anyX P ops blk conf flg Q d listed a w := by
  have hms : masksOk ops (Region.before ops) = true := by
    simp only [okX, Bool.and_eq_true] at hok; exact hok.1.2
  intro d
  induction d with
  | zero =>
    intro k listed a w hk hs hl h
    refine ⟨?_, h⟩
    have : ∀ j, j ∉ Region.ready .any ops listed := fun j hj => by
      obtain ⟨h0, o, ho, _⟩ := mem_ready.1 hj
      have hlt := (Array.getElem?_eq_some_iff.1 ho).1
      rw [hl j hlt] at h0
      simp at h0; omega
    exact List.eq_nil_iff_forall_not_mem.2 this
  | succ d ih =>
    intro k listed a w hk hs hl h
    have hks : k < ops.size := by omega
    have tf : ∀ j, j < ops.size → listed.getD j false = decide (j < k) := fun j hj => by
      rw [← hl j hj]; simp [show j < listed.size by omega]
    simp only [List.range'_succ, wpX] at h
    refine anyX_first hQ hok d listed a w ?_ ?_ ?_ ?_ (i := k)
    · intro j o ho hlj e he hb
      have hlt := (Array.getElem?_eq_some_iff.1 ho).1
      rw [tf j hlt] at hlj
      have := (masksOk_spec hms ho).2 e he hb
      rw [tf _ (by omega)]; simp at hlj ⊢; omega
    · refine mem_ready.2 ⟨by rw [hl k hks]; simp, ops[k], Array.getElem?_eq_getElem hks, fun e he hb => ?_⟩
      have := (masksOk_spec hms (Array.getElem?_eq_getElem hks)).2 e he hb
      rw [tf _ (by omega)]; simp; omega
    · intro j hj
      rw [hl j (by omega)]; simp [hj]
    · refine xOp_mono (fun a' w' h' => ih (k + 1) _ a' w' (by omega) (by simpa using hs) (fun j hj => ?_) h') h
      by_cases hkj : k = j
      · subst hkj; simp [hs, hks]
      · rw [getD_set_ne true hkj, hl j hj]
        simp only [decide_eq_decide]; omega

/-- **A region that draws its order, by the order of its text.** -/
theorem wp_region_x {id : Nat} {a : Act} {w : World} (blk : Nat → Nat) (conf : Nat → List Nat) (flg : List Nat) (hm : P.follows .mixedOrders = true) (hok : okX ops conf flg = true) (hQ : OnlyEnd Q)
    (h : wpX P ops blk conf flg Q (List.range' 0 ops.size) a w.drew) : (Code.region id ops true).wp P Q a w :=
  wp_region_any hm (wpAny_of_anyX _ _ _ _ (anyX_text hQ hok ops.size 0 _ a _ (by simp) (by simp) (fun j hj => by simp [hj]) h))

end
end Go.Proofs.YtcegknecikbbkaaGreat

/- A world told by its resources: each owns some blocks, no block is owned twice; what nobody owns is as it was. -/
set_option linter.unusedVariables false
set_option linter.unusedSimpArgs false
namespace Go.Proofs.YtcegknecikbbkaaGreat
open Go.RowKit

/-- Something that is said of some blocks, and of these alone. -/
structure Res where
  fp : List Nat
  holds : World → Prop
  loc : ∀ w w' : World, (∀ b ∈ fp, w'.heap[b]? = w.heap[b]?) → holds w → holds w'

/-- A block of cells, known whole. -/
def pts (b : Nat) (cs : List Value) (T : TypeId) : Res :=
  ⟨[b], fun w => w.heap[b]? = some (.cells cs.toArray T (0, 0)), fun w w' h hh => (h b (by simp)).trans hh⟩

def fps (L : List Res) : List Nat := L.flatMap Res.fp

structure Sep (w0 : World) (F : List Nat) (L : List Res) (w : World) : Prop where
  os : w.os = w0.os
  tape : w.tape = w0.tape
  output : w.output = w0.output
  size : w0.heap.size ≤ w.heap.size
  frame : ∀ i, i < w0.heap.size → i ∉ F → w.heap[i]? = w0.heap[i]?
  nodup : (fps L).Nodup
  own : ∀ b ∈ fps L, b < w.heap.size ∧ (b ∈ F ∨ w0.heap.size ≤ b)
  holds : ∀ r ∈ L, r.holds w

section
variable {w0 w w' : World} {F : List Nat} {L L' A B : List Res}

theorem Sep.start (w : World) (F : List Nat) : Sep w F [] w := ⟨rfl, rfl, rfl, Nat.le_refl _, fun _ _ _ => rfl, by simp [fps], by simp [fps], by simp⟩

theorem Sep.perm (h : Sep w0 F L w) (p : L.Perm L') : Sep w0 F L' w :=
  ⟨h.os, h.tape, h.output, h.size, h.frame, (p.flatMap_right Res.fp).nodup_iff.1 h.nodup, fun b hb => h.own b ((p.flatMap_right Res.fp).mem_iff.2 hb), fun r hr => h.holds r (p.mem_iff.2 hr)⟩

theorem Sep.drew (h : Sep w0 F L w) : Sep w0 F L w.drew := ⟨h.os, h.tape, h.output, h.size, h.frame, h.nodup, h.own, fun r hr => r.loc w _ (fun _ _ => rfl) (h.holds r hr)⟩
theorem Sep.drewN (h : Sep w0 F L w) (n : Nat) : Sep w0 F L (w.drewN n) := ⟨h.os, h.tape, h.output, h.size, h.frame, h.nodup, h.own, fun r hr => r.loc w _ (fun _ _ => rfl) (h.holds r hr)⟩

theorem fps_append : fps (A ++ B) = fps A ++ fps B := by simp [fps]
theorem fps_cons (r : Res) : fps (r :: L) = r.fp ++ fps L := by simp [fps]

/-- What is not wanted any more. -/
theorem Sep.drop {r : Res} (h : Sep w0 F (r :: L) w) : Sep w0 F L w :=
  ⟨h.os, h.tape, h.output, h.size, h.frame, (List.nodup_append.1 (by have := h.nodup; rwa [fps_cons] at this)).2.1, fun b hb => h.own b (by rw [fps_cons]; simp [hb]), fun r' hr => h.holds r' (by simp [hr])⟩
theorem Sep.dropN (n : Nat) (h : Sep w0 F L w) : Sep w0 F (L.drop n) w := by
  induction n generalizing L with
  | zero => exact h
  | succ n ih =>
    cases L with
    | nil => exact h
    | cons r L => exact ih h.drop

/-- Two resources have no block in common. -/
theorem Sep.ne {b c : Nat} {r s : Res} (h : Sep w0 F (r :: s :: L) w) (hb : b ∈ r.fp) (hc : c ∈ s.fp) : b ≠ c := by
  have := h.nodup
  rw [fps_cons, fps_cons] at this
  exact (List.nodup_append.1 this).2.2 b hb c (by simp [hc])

/-- **A step that touches some resources alone.** -/
theorem Sep.step (h : Sep w0 F (A ++ L) w) (hos : w'.os = w.os) (htape : w'.tape = w.tape) (hout : w'.output = w.output) (hsize : w.heap.size ≤ w'.heap.size)
    (hkeep : ∀ i, i < w.heap.size → i ∉ fps A → w'.heap[i]? = w.heap[i]?) (hn : (fps B).Nodup) (ho : ∀ b ∈ fps B, b < w'.heap.size ∧ (b ∈ fps A ∨ w.heap.size ≤ b)) (hh : ∀ r ∈ B, r.holds w') :
    Sep w0 F (B ++ L) w' := by
  have hnd := h.nodup
  rw [fps_append] at hnd
  obtain ⟨_, hL, hd⟩ := List.nodup_append.1 hnd
  have oA : ∀ b ∈ fps A, b < w.heap.size ∧ (b ∈ F ∨ w0.heap.size ≤ b) := fun b hb => h.own b (by rw [fps_append]; simp [hb])
  have oL : ∀ b ∈ fps L, b < w.heap.size ∧ (b ∈ F ∨ w0.heap.size ≤ b) := fun b hb => h.own b (by rw [fps_append]; simp [hb])
  refine ⟨hos.trans h.os, htape.trans h.tape, hout.trans h.output, Nat.le_trans h.size hsize, fun i hi hF => ?_, ?_, fun b hb => ?_, fun r hr => ?_⟩
  · refine (hkeep i (Nat.lt_of_lt_of_le hi h.size) fun hA => ?_).trans (h.frame i hi hF)
    rcases (oA i hA).2 with h1 | h1
    · exact hF h1
    · omega
  · rw [fps_append]
    refine List.nodup_append.2 ⟨hn, hL, fun b hb c hc e => ?_⟩
    subst e
    rcases (ho b hb).2 with h1 | h1
    · exact hd b h1 b hc rfl
    · have := (oL b hc).1; omega
  · rw [fps_append] at hb
    rcases List.mem_append.1 hb with hb | hb
    · refine ⟨(ho b hb).1, ?_⟩
      rcases (ho b hb).2 with h1 | h1
      · exact (oA b h1).2
      · exact .inr (Nat.le_trans h.size h1)
    · exact ⟨Nat.lt_of_lt_of_le (oL b hb).1 hsize, (oL b hb).2⟩
  · rcases List.mem_append.1 hr with hr | hr
    · exact hh r hr
    · refine r.loc w w' (fun b hb => ?_) (h.holds r (by simp [hr]))
      have hbL : b ∈ fps L := List.mem_flatMap.2 ⟨r, hr, hb⟩
      exact hkeep b (oL b hbL).1 fun hA => hd b hA b hbL rfl

/-- One resource, at its place in the list, and another one in its stead. -/
inductive Upd : List Res → Res → Res → List Res → Prop
  | here (r r' : Res) (L : List Res) : Upd (r :: L) r r' (r' :: L)
  | there (s r r' : Res) (L L' : List Res) : Upd L r r' L' → Upd (s :: L) r r' (s :: L')

theorem uH (r r' : Res) (L : List Res) : Upd (r :: L) r r' (r' :: L) := .here r r' L
theorem uT {s r r' : Res} {L L' : List Res} (h : Upd L r r' L') : Upd (s :: L) r r' (s :: L') := .there s r r' L L' h
theorem Upd.split {r r' : Res} (h : Upd L r r' L') : ∃ A B, L = A ++ r :: B ∧ L' = A ++ r' :: B := by
  induction h with
  | here r r' L => exact ⟨[], L, rfl, rfl⟩
  | there s r r' L L' _ ih =>
    obtain ⟨A, B, rfl, rfl⟩ := ih
    exact ⟨s :: A, B, rfl, rfl⟩
theorem Upd.mem {r r' : Res} (h : Upd L r r' L') : r ∈ L := by
  obtain ⟨A, B, rfl, rfl⟩ := h.split; simp

/-- A step that touches one resource alone. -/
theorem Sep.upd {r r' : Res} (h : Sep w0 F L w) (hu : Upd L r r' L') (hos : w'.os = w.os) (htape : w'.tape = w.tape) (hout : w'.output = w.output) (hsize : w.heap.size ≤ w'.heap.size)
    (hkeep : ∀ i, i < w.heap.size → i ∉ r.fp → w'.heap[i]? = w.heap[i]?) (hn : r'.fp.Nodup) (ho : ∀ b ∈ r'.fp, b < w'.heap.size ∧ (b ∈ r.fp ∨ w.heap.size ≤ b)) (hh : r'.holds w') : Sep w0 F L' w' := by
  obtain ⟨A, B, rfl, rfl⟩ := hu.split
  have h1 : Sep w0 F ([r] ++ (A ++ B)) w := h.perm List.perm_middle
  have h2 := h1.step (B := [r']) hos htape hout hsize (by simpa [fps] using hkeep) (by simpa [fps] using hn) (by simpa [fps] using ho) (by simpa using hh)
  have h3 : Sep w0 F (r' :: (A ++ B)) w' := h2
  exact h3.perm List.perm_middle.symm

theorem Sep.new {o : Res} (h : Sep w0 F L w) (hos : w'.os = w.os) (htape : w'.tape = w.tape) (hout : w'.output = w.output) (hsize : w.heap.size ≤ w'.heap.size)
    (hkeep : ∀ i, i < w.heap.size → w'.heap[i]? = w.heap[i]?) (hn : o.fp.Nodup) (ho : ∀ b ∈ o.fp, b < w'.heap.size ∧ w.heap.size ≤ b) (hh : o.holds w') : Sep w0 F (o :: L) w' :=
  Sep.step (A := []) (B := [o]) h hos htape hout hsize (fun i hi _ => hkeep i hi) (by simpa [fps] using hn) (fun b hb => by have := ho b (by simpa [fps] using hb); exact ⟨this.1, .inr this.2⟩) (by simpa using hh)

/-! ### What the machine does -/
theorem pts_cell {b off : Nat} {cs : List Value} {T : TypeId} {v : Value} (h : (pts b cs T).holds w) (hv : cs[off]? = some v) : w.cell? ⟨b, off, none⟩ = some v := by
  have h' : w.heap[b]? = some (.cells cs.toArray T (0, 0)) := h
  unfold World.cell?; simp [h', hv]
theorem pts_frozen {b off : Nat} {cs : List Value} {T : TypeId} (h : (pts b cs T).holds w) : w.frozen? ⟨b, off, none⟩ = false := by
  have h' : w.heap[b]? = some (.cells cs.toArray T (0, 0)) := h
  unfold World.frozen?; simp [h']

theorem Sep.alloc (h : Sep w0 F L w) (cs : List Value) (T : TypeId) : Sep w0 F (pts w.heap.size cs T :: L) (w.alloc (.cells cs.toArray T)) := by
  refine h.new rfl rfl rfl (by simp) (fun i hi => Below.heap_alloc w _ i hi) (by simp [pts]) (fun b hb => ?_) ?_
  · have : b = w.heap.size := by simpa [pts] using hb
    subst this; simp
  · show (w.heap.push _)[w.heap.size]? = _
    simp

theorem Sep.setCell {b off : Nat} {cs : List Value} {T : TypeId} (h : Sep w0 F L w) (v : Value) (hu : Upd L (pts b cs T) (pts b (cs.set off v) T) L') : Sep w0 F L' (w.setCell ⟨b, off, none⟩ v) := by
  refine h.upd hu rfl rfl rfl (by simp) (fun i hi hn => Below.heap_setCell w _ v i (by simpa [pts] using hn)) (by simp [pts]) (fun c hc => ?_) ?_
  · have : c = b := by simpa [pts] using hc
    subst this
    exact ⟨by simp; exact (h.own c (List.mem_flatMap.2 ⟨_, hu.mem, by simp [pts]⟩)).1, .inl (by simp [pts])⟩
  · have h' : w.heap[b]? = some (.cells cs.toArray T (0, 0)) := h.holds _ hu.mem
    show (w.setCell ⟨b, off, none⟩ v).heap[b]? = some (.cells (cs.set off v).toArray T (0, 0))
    simp only [World.setCell, Array.getElem?_modify, ↓reduceIte, h', Option.map_some]
    simp
end

/-! ### Contracts -/
/-- It returned; what is owned then. -/
def CkR (post : Value → List Res → Prop) (w0 : World) (F : List Nat) (L : List Res) : Ending → World → Prop
  | .returned v, w' => ∃ L', post v L' ∧ Sep w0 F (L' ++ L) w'
  | _, _ => False

/-- Called so, where 'pre' is owned, the function returns; what it owns then is told by 'post'. -/
def Ct (P : Program) (f : FuncId) (args : Array Value) (pre : List Res) (post : Value → List Res → Prop) : Prop :=
  ∀ (w0 : World) (F : List Nat) (L : List Res) (w : World), Sep w0 F (pre ++ L) w → Calls P f args w (CkR post w0 F L)

theorem Ct.call {P : Program} {f : FuncId} {args : Array Value} {pre : List Res} {post : Value → List Res → Prop} (h : Ct P f args pre post) {w0 w : World} {F : List Nat} {L : List Res} (hS : Sep w0 F (pre ++ L) w)
    {R : Ending → World → Prop} (hR : ∀ v L' w', post v L' → Sep w0 F (L' ++ L) w' → R (.returned v) w') : Calls P f args w R :=
  (h w0 F L w hS).mono fun e w' hr => by
    cases e with
    | returned v => obtain ⟨L', hp, hs⟩ := hr; exact hR v L' w' hp hs
    | panicked c => exact hr.elim
    | outgrown => exact hr.elim

theorem Ct.mono {P : Program} {f : FuncId} {args : Array Value} {pre : List Res} {post post' : Value → List Res → Prop} (h : Ct P f args pre post) (hp : ∀ v L, post v L → post' v L) : Ct P f args pre post' :=
  fun w0 F L w hS => Ct.call h hS fun v L' w' h1 h2 => ⟨L', hp _ _ h1, h2⟩

/-- A result, and what is owned then, both known. -/
abbrev Gives (v : Value) (L : List Res) : Value → List Res → Prop := fun v' L' => v' = v ∧ L' = L

theorem Ct.callG {P : Program} {f : FuncId} {args : Array Value} {pre : List Res} {v : Value} {L1 : List Res} (h : Ct P f args pre (Gives v L1)) {w0 w : World} {F : List Nat} {L : List Res} (hS : Sep w0 F (pre ++ L) w)
    {R : Ending → World → Prop} (hR : ∀ w', Sep w0 F (L1 ++ L) w' → R (.returned v) w') : Calls P f args w R :=
  h.call hS fun v' L' w' ⟨h1, h2⟩ h3 => by subst h1; subst h2; exact hR w' h3

theorem Ct.call0 {P : Program} {f : FuncId} {args : Array Value} {v : Value} (h : Ct P f args [] (Gives v [])) {w0 w : World} {F : List Nat} {L : List Res} (hS : Sep w0 F L w)
    {R : Ending → World → Prop} (hR : ∀ w', Sep w0 F L w' → R (.returned v) w') : Calls P f args w R :=
  Ct.callG (L := L) h hS hR

/-- A call that owns one thing, and leaves one in its stead. -/
theorem Ct.callU {P : Program} {f : FuncId} {args : Array Value} {r r' : Res} {v : Value} (h : Ct P f args [r] (Gives v [r'])) {w0 w : World} {F : List Nat} {L L' : List Res} (hu : Upd L r r' L') (hS : Sep w0 F L w)
    {R : Ending → World → Prop} (hR : ∀ w', Sep w0 F L' w' → R (.returned v) w') : Calls P f args w R := by
  obtain ⟨A, B, rfl, rfl⟩ := hu.split
  have h1 : Sep w0 F ([r] ++ (A ++ B)) w := hS.perm List.perm_middle
  refine h.callG h1 fun w' hs => hR w' ?_
  have h3 : Sep w0 F (r' :: (A ++ B)) w' := hs
  exact h3.perm List.perm_middle.symm

/-- A call that makes something of its own. -/
theorem Ct.callN {P : Program} {f : FuncId} {args : Array Value} {post : Value → List Res → Prop} (h : Ct P f args [] post) {w0 w : World} {F : List Nat} {L : List Res} (hS : Sep w0 F L w)
    {R : Ending → World → Prop} (hR : ∀ v L' w', post v L' → Sep w0 F (L' ++ L) w' → R (.returned v) w') : Calls P f args w R :=
  Ct.call (L := L) h hS hR

end Go.Proofs.YtcegknecikbbkaaGreat

/- The walk's steps over resources: loads, stores, new variables; in the order of a text, and in a region that draws its order. -/
set_option linter.unusedVariables false
set_option linter.unusedSimpArgs false
namespace Go.Proofs.YtcegknecikbbkaaGreat
open Go.RowKit

/-- A value, laid open as far as its head. -/
inductive Wh : Value → Value → Prop
  | int (k n) : Wh (.int k n) (.int k n)
  | bool (b) : Wh (.bool b) (.bool b)
  | pointer (a) : Wh (.pointer a) (.pointer a)
  | slice (a l c) : Wh (.slice a l c) (.slice a l c)
  | func (f x y) : Wh (.func f x y) (.func f x y)
  | nilFunc : Wh .nilFunc .nilFunc
  | iface (t v) : Wh (.iface t v) (.iface t v)
  | nilIface : Wh .nilIface .nilIface
  | string (s) : Wh (.string s) (.string s)
theorem Wh.eq {v v' : Value} (h : Wh v v') : v = v' := by cases h <;> rfl
/-- Its cells. -/
inductive WhC : Value → List Value → Prop
  | agg (l : List Value) : WhC (.agg l.toArray) l
  | int (k n) : WhC (.int k n) [.int k n]
  | bool (b) : WhC (.bool b) [.bool b]
  | pointer (a) : WhC (.pointer a) [.pointer a]
  | slice (a l c) : WhC (.slice a l c) [.slice a l c]
  | func (f x y) : WhC (.func f x y) [.func f x y]
  | nilFunc : WhC .nilFunc [.nilFunc]
  | iface (t v) : WhC (.iface t v) [.iface t v]
  | nilIface : WhC .nilIface [.nilIface]
  | string (s) : WhC (.string s) [.string s]
theorem WhC.eq {v : Value} {l : List Value} (h : WhC v l) : v.cells = l.toArray := by cases h <;> rfl

def ckScalar (P : Program) (t : TypeId) : Bool := match P.underlying t with | some (.struct _) | some (.array _ _) | none => false | _ => true
def ckAgg (P : Program) (t : TypeId) (n : Nat) : Bool := (match P.underlying t with | some d => d.isRow | none => false) && (P.info? t).map (·.size) == some n
def ckSize (P : Program) (t : TypeId) (n : Nat) : Bool := (P.info? t).map (·.size) == some n

section
variable {P : Program} {w w0 : World} {F : List Nat} {L L' : List Res} {o : Oper} {a : Act} {b off n : Nat} {cs vs : List Value} {T t : TypeId} {fz : Nat × Nat} {v : Value} {x y : Operand}

theorem run_loadVar_scalar (ht : ckScalar P t = true) {A : Addr} (hc : w.cell? A = some v) : (loadVar t A).run P w = .ok v w := by
  unfold ckScalar at ht
  cases hu : P.underlying t with
  | none => simp [hu] at ht
  | some d =>
    have hagg : (isAgg t).run P w = .ok false w := by
      unfold isAgg
      rw [Sem.run_bind, run_underlying hu w]
      cases d <;> simp_all
    simp [loadVar, Sem.run_bind, hagg, hc]

theorem exec_load {A : Addr} (ho : o.op = .load t x) (hx : a.eval x = .pointer (some A)) (h : (loadVar t A).run P w = .ok v w) : (execOp a.eval o).run P w = .ok (.value v) w := by
  unfold execOp
  simp only [ho, hx, Instr.loadAt, Instr.sureAddr, Sem.run_bind, Sem.run_pure, Result.andThen_ok, h]

theorem run_load1 (ht : ckScalar P t = true) (hb : w.heap[b]? = some (.cells cs.toArray T fz)) (hv : cs[off]? = some v) : (loadVar t ⟨b, off, none⟩).run P w = .ok v w :=
  run_loadVar_scalar ht (by unfold World.cell?; simp [hb, hv])

theorem run_loadN (ht : ckAgg P t n = true) (hb : w.heap[b]? = some (.cells cs.toArray T fz)) (hn : vs.length = n) (hv : ∀ j, j < n → cs[off + j]? = vs[j]?) : (loadVar t ⟨b, off, none⟩).run P w = .ok (.agg vs.toArray) w := by
  simp only [ckAgg, Bool.and_eq_true, beq_iff_eq] at ht
  cases hu : P.underlying t with
  | none => simp [hu] at ht
  | some d =>
    have := run_loadVar_mid (P := P) w b off t vs d (fun j u hj => by
      have hjn : j < n := by rw [← hn]; exact (List.getElem?_eq_some_iff.1 hj).1
      unfold World.cell?; simp only [hb, Option.isSome_none, Bool.false_eq_true, if_false]
      rw [List.getElem?_toArray, hv j hjn, ← hj]) hu (by have := ht.1; simpa [hu] using this) (by rw [ht.2, ← hn])
    simpa using this

/-- A block's cells, some of which are replaced. -/
def ckPut (cs : List Value) (off : Nat) (vs : List Value) : List Value := cs.take off ++ vs ++ cs.drop (off + vs.length)
theorem ckPut_length (h : off + vs.length ≤ cs.length) : (ckPut cs off vs).length = cs.length := by simp [ckPut]; omega

theorem run_store1 (ht : ckSize P t 1 = true) (hv : v.oneCell' = true) (hb : w.heap[b]? = some (.cells cs.toArray T (0, 0))) (ho : off < cs.length) : (storeVar t ⟨b, off, none⟩ v).run P w = .ok () (w.setCell ⟨b, off, none⟩ v) := by
  simp only [ckSize, beq_iff_eq] at ht
  cases hq : P.info? t with
  | none => simp [hq] at ht
  | some i =>
    have hs : i.size = 1 := by simpa [hq] using ht
    have hc : v.cells = #[v] := by cases v <;> first | rfl | simp [Value.oneCell'] at hv
    have hst : (store ((⟨b, off, none⟩ : Addr).add 0) v).run P w = .ok () (w.setCell ⟨b, off, none⟩ v) := by
      have hadd : (⟨b, off, none⟩ : Addr).add 0 = ⟨b, off, none⟩ := by simp [Addr.add]
      rw [hadd, run_store P w _ v _ hv]
      have hcell : w.cell? ⟨b, off, none⟩ = some cs[off] := by unfold World.cell?; simp [hb, ho]
      have hfro : w.frozen? ⟨b, off, none⟩ = false := by unfold World.frozen?; simp [hb]
      simp [hcell, hfro]
    simp [storeVar, sizeOf, typeInfo, hq, hc, hs, storeCells, hst]

theorem run_storeN (ht : ckSize P t vs.length = true) (hv : vs.all (·.oneCell') = true) (hb : w.heap[b]? = some (.cells cs.toArray T (0, 0))) (ho : off + vs.length ≤ cs.length) :
    (storeVar t ⟨b, off, none⟩ (.agg vs.toArray)).run P w = .ok () (w.setRow b (ckPut cs off vs).toArray) := by
  simp only [ckSize, beq_iff_eq] at ht
  cases hq : P.info? t with
  | none => simp [hq] at ht
  | some i =>
    have hs : i.size = vs.length := by simpa [hq] using ht
    have := run_storeCells_at P b off T vs 0 cs.toArray w hb (by simpa using ho) (fun u hu => (List.all_eq_true.1 hv) u hu)
    simp only [Nat.add_zero] at this
    simp [storeVar, sizeOf, typeInfo, hq, Value.cells, hs, this, ckPut]

theorem exec_store {A : Addr} {w' : World} (ho : o.op = .store t x y) (hx : a.eval x = .pointer (some A)) (hy : a.eval y = v) (h : (storeVar t A v).run P w = .ok () w') : (execOp a.eval o).run P w = .ok .skip w' := by
  unfold execOp
  simp only [ho, hx, hy, Instr.storeAt, Instr.sureAddr, Sem.run_bind, Sem.run_pure, Result.andThen_ok, h]

theorem exec_box (ho : o.op = .box t x) (hx : WhC (a.eval x) cs) : (execOp a.eval o).run P w = .ok (.value (.pointer (some ⟨w.heap.size, 0, none⟩))) (w.alloc (.cells cs.toArray t)) := by
  rw [← hx.eq]
  unfold execOp
  simp only [ho, Instr.box, newVar, newRow, newObj, Sem.run_bind, Sem.run_pure, Result.andThen_ok, Sem.run_map]
  rfl

theorem exec_alloc (ho : o.op = .alloc t) (hz : (P.info? t).bind (·.zero) = some v) : (execOp a.eval o).run P w = .ok (.value (.pointer (some ⟨w.heap.size, 0, none⟩))) (w.alloc (.cells v.cells t)) := by
  cases hq : P.info? t with
  | none => simp [hq] at hz
  | some i =>
    have hz' : i.zero = some v := by simpa [hq] using hz
    unfold execOp
    simp only [ho, Instr.alloc, zeroValue, typeInfo, newVar, newRow, newObj]
    simp [hq, hz']
    rfl

theorem Sep.setRow (h : Sep w0 F L w) (cs' : List Value) (hu : Upd L (pts b cs T) (pts b cs' T) L') : Sep w0 F L' (w.setRow b cs'.toArray) := by
  have h' : w.heap[b]? = some (.cells cs.toArray T (0, 0)) := h.holds _ hu.mem
  refine h.upd hu rfl rfl rfl (by simp [World.setRow]) (fun i hi hn => ?_) (by simp [pts]) (fun c hc => ?_) (setRow_heap w b cs.toArray cs'.toArray T (0, 0) h')
  · have hne : ¬ b = i := fun e => hn (by simp [pts, e])
    simp [World.setRow, Array.getElem?_modify, hne]
  · have : c = b := by simpa [pts] using hc
    subst this
    exact ⟨by simp [World.setRow]; exact (h.own c (List.mem_flatMap.2 ⟨_, hu.mem, by simp [pts]⟩)).1, .inl (by simp [pts])⟩

theorem run_index1 {e : TypeId} {m : Nat} {k : IntKind} {q : Int} {l : List Value} (hu : P.underlying t = some (.array m e)) (ho : o.op = .index t x y) (hx : a.eval x = .agg l.toArray) (hy : a.eval y = .int k q) (h0 : 0 ≤ q) (h1 : q < m) (hv : l[q.toNat]? = some v) (he : ckScalar P e = true) (hs : ckSize P e 1 = true) (w : World) : (execOp a.eval o).run P w = .ok (.value v) w := by
  unfold ckScalar at he
  simp only [ckSize, beq_iff_eq] at hs
  cases hue : P.underlying e with
  | none => simp [hue] at he
  | some d =>
    cases hq : P.info? e with
    | none => simp [hq] at hs
    | some i =>
      have hs' : i.size = 1 := by simpa [hq] using hs
      have hagg : ∀ w, (isAgg e).run P w = .ok false w := fun w => by
        unfold isAgg
        rw [Sem.run_bind, run_underlying hue w]
        cases d <;> simp_all
      have hsz : ∀ w, (sizeOf e).run P w = .ok 1 w := fun w => by simp [sizeOf, typeInfo, hq, hs']
      have hix : (Instr.index t (.agg l.toArray) (.int k q)).run P w = .ok v w := by
        simp only [Instr.index, asIntOf, Sem.run_bind, Sem.run_pure, Result.andThen_ok, run_underlying hu]
        rw [if_pos ⟨h0, h1⟩]
        simp only [Sem.run_bind, hsz, Result.andThen_ok, part, hagg, Nat.mul_one, List.getElem?_toArray, hv]
        rfl
      unfold execOp
      simp only [ho, hx, hy, Sem.run_bind, hix, Result.andThen_ok]
      rfl
theorem max_if (p q : Int) : (if q > p then q else p) = max p q := by split <;> omega
theorem min_if (p q : Int) : (if q < p then q else p) = min p q := by split <;> omega
theorem run_max2 {t u : TypeId} {k : IntKind} (p q : Int) (ho : o.op = .call { callee := .builtin .max, args := #[x, y], argTypes := #[t, u] }) (hx : a.eval x = .int k p) (hy : a.eval y = .int k q) (w : World) : (execOp a.eval o).run P w = .ok (.value (.int k (max p q))) w := by
  unfold execOp
  simp only [ho, resolve, invoke, builtin, Sem.run_bind, Sem.run_pure, Result.andThen_ok, List.map_toArray, List.map_cons, List.map_nil, hx, hy]
  have : (Builtin.max_ #[t, u] o.type #[.int k p, .int k q]).run P w = .ok (.int k (max p q)) w := by
    show (Builtin.max2 (.int k p) (.int k q) >>= fun b => List.foldlM Builtin.max2 b []).run P w = _
    simp only [Builtin.max2, List.foldlM_nil, Sem.run_bind, Sem.run_pure, Result.andThen_ok, max_if]
  rw [this]; rfl
theorem run_min2 {t u : TypeId} {k : IntKind} (p q : Int) (ho : o.op = .call { callee := .builtin .min, args := #[x, y], argTypes := #[t, u] }) (hx : a.eval x = .int k p) (hy : a.eval y = .int k q) (w : World) : (execOp a.eval o).run P w = .ok (.value (.int k (min p q))) w := by
  unfold execOp
  simp only [ho, resolve, invoke, builtin, Sem.run_bind, Sem.run_pure, Result.andThen_ok, List.map_toArray, List.map_cons, List.map_nil, hx, hy]
  have : (Builtin.min_ #[t, u] o.type #[.int k p, .int k q]).run P w = .ok (.int k (min p q)) w := by
    show (Builtin.min2 (.int k p) (.int k q) >>= fun b => List.foldlM Builtin.min2 b []).run P w = _
    simp only [Builtin.min2, List.foldlM_nil, Sem.run_bind, Sem.run_pure, Result.andThen_ok, min_if]
  rw [this]; rfl
end

/-! ### In the order of the text -/
section
variable {P : Program} {ops : Array Oper} {Q : Exit → Act → World → Prop} {rest : List Oper} {w w0 : World} {F : List Nat} {L L' : List Res} {o : Oper} {a : Act} {b off n : Nat} {cs vs : List Value} {T t : TypeId} {fz : Nat × Nat} {v : Value} {x y : Operand}

theorem wpList_val {w' : World} (hw : Region.wanted o (yielded ops a.tmps) = true) (hr : (execOp a.eval o).run P w = .ok (.value v) w') (h : wpList P ops Q rest (a.put o.dst v) w') : wpList P ops Q (o :: rest) a w := by
  unfold wpList
  rw [if_pos hw]
  exact .inl (by unfold Oper.wp; rw [hr]; exact h)
theorem wpList_skp {w' : World} (hw : Region.wanted o (yielded ops a.tmps) = true) (hr : (execOp a.eval o).run P w = .ok .skip w') (h : wpList P ops Q rest (a.put o.dst undef) w') : wpList P ops Q (o :: rest) a w := by
  unfold wpList
  rw [if_pos hw]
  exact .inl (by unfold Oper.wp; rw [hr]; exact h)

theorem ck_index {e : TypeId} {m : Nat} {k : IntKind} {q : Int} {l : List Value} (hu : P.underlying t = some (.array m e)) (ho : o.op = .index t x y) (hw : Region.wanted o (yielded ops a.tmps) = true) (hx : a.eval x = .agg l.toArray) (hy : a.eval y = .int k q) (h0 : 0 ≤ q) (h1 : q < m) (hv : l[q.toNat]? = some v) (he : ckScalar P e = true) (hs : ckSize P e 1 = true)
    (h : wpList P ops Q rest (a.put o.dst v) w) : wpList P ops Q (o :: rest) a w := wpList_val hw (run_index1 hu ho hx hy h0 h1 hv he hs w) h
theorem ck_max {u : TypeId} {k : IntKind} {p q : Int} (ho : o.op = .call { callee := .builtin .max, args := #[x, y], argTypes := #[t, u] }) (hw : Region.wanted o (yielded ops a.tmps) = true) (hx : a.eval x = .int k p) (hy : a.eval y = .int k q)
    (h : wpList P ops Q rest (a.put o.dst (.int k (max p q))) w) : wpList P ops Q (o :: rest) a w := wpList_val hw (run_max2 p q ho hx hy w) h
theorem ck_min {u : TypeId} {k : IntKind} {p q : Int} (ho : o.op = .call { callee := .builtin .min, args := #[x, y], argTypes := #[t, u] }) (hw : Region.wanted o (yielded ops a.tmps) = true) (hx : a.eval x = .int k p) (hy : a.eval y = .int k q)
    (h : wpList P ops Q rest (a.put o.dst (.int k (min p q))) w) : wpList P ops Q (o :: rest) a w := wpList_val hw (run_min2 p q ho hx hy w) h
theorem ck_load (hS : Sep w0 F L w) (ho : o.op = .load t x) (hw : Region.wanted o (yielded ops a.tmps) = true) (hx : a.eval x = .pointer (some ⟨b, off, none⟩)) (hm : pts b cs T ∈ L) (hv : cs[off]? = some v) (ht : ckScalar P t = true)
    (h : wpList P ops Q rest (a.put o.dst v) w) : wpList P ops Q (o :: rest) a w :=
  wpList_val hw (exec_load ho hx (run_load1 ht (hS.holds _ hm) hv)) h
theorem ck_loadN (hS : Sep w0 F L w) (ho : o.op = .load t x) (hw : Region.wanted o (yielded ops a.tmps) = true) (hx : a.eval x = .pointer (some ⟨b, off, none⟩)) (hm : pts b cs T ∈ L) (hv : ∀ j, j < n → cs[off + j]? = vs[j]?) (ht : ckAgg P t n = true) (hn : vs.length = n)
    (h : wpList P ops Q rest (a.put o.dst (.agg vs.toArray)) w) : wpList P ops Q (o :: rest) a w :=
  wpList_val hw (exec_load ho hx (run_loadN ht (hS.holds _ hm) hn hv)) h
/-- A block that was there before, and that nobody may touch. -/
theorem Sep.old {c : Array Value} (hS : Sep w0 [] L w) (hb : b < w0.heap.size) (h0 : w0.heap[b]? = some (.cells c T fz)) : w.heap[b]? = some (.cells c T fz) := (hS.frame b hb (by simp)).trans h0
theorem ck_loadOld {c : Array Value} (hS : Sep w0 [] L w) (ho : o.op = .load t x) (hw : Region.wanted o (yielded ops a.tmps) = true) (hx : a.eval x = .pointer (some ⟨b, off, none⟩)) (hb : b < w0.heap.size) (h0 : w0.heap[b]? = some (.cells c T fz)) (hv : c[off]? = some v) (ht : ckScalar P t = true)
    (h : wpList P ops Q rest (a.put o.dst v) w) : wpList P ops Q (o :: rest) a w :=
  wpList_val hw (exec_load ho hx (run_load1 (cs := c.toList) ht (by simpa using hS.old hb h0) (by simpa using hv))) h
theorem ck_loadOldN {c : Array Value} (hS : Sep w0 [] L w) (ho : o.op = .load t x) (hw : Region.wanted o (yielded ops a.tmps) = true) (hx : a.eval x = .pointer (some ⟨b, off, none⟩)) (hb : b < w0.heap.size) (h0 : w0.heap[b]? = some (.cells c T fz)) (hv : ∀ j, j < n → c[off + j]? = vs[j]?) (ht : ckAgg P t n = true) (hn : vs.length = n)
    (h : wpList P ops Q rest (a.put o.dst (.agg vs.toArray)) w) : wpList P ops Q (o :: rest) a w :=
  wpList_val hw (exec_load ho hx (run_loadN (cs := c.toList) ht (by simpa using hS.old hb h0) hn (by simpa using hv))) h
theorem ck_store (hS : Sep w0 F L w) (ho : o.op = .store t x y) (hw : Region.wanted o (yielded ops a.tmps) = true) (hx : a.eval x = .pointer (some ⟨b, off, none⟩)) (hy : Wh (a.eval y) v) (hu : Upd L (pts b cs T) (pts b (cs.set off v) T) L') (hl : off < cs.length) (hv : v.oneCell' = true) (ht : ckSize P t 1 = true)
    (h : ∀ w', Sep w0 F L' w' → wpList P ops Q rest (a.put o.dst undef) w') : wpList P ops Q (o :: rest) a w :=
  wpList_skp hw (exec_store ho hx hy.eq (run_store1 ht hv (hS.holds _ hu.mem) hl)) (h _ (hS.setCell v hu))
theorem ck_storeN (hS : Sep w0 F L w) (ho : o.op = .store t x y) (hw : Region.wanted o (yielded ops a.tmps) = true) (hx : a.eval x = .pointer (some ⟨b, off, none⟩)) (hy : a.eval y = .agg vs.toArray) (hu : Upd L (pts b cs T) (pts b (ckPut cs off vs) T) L') (hl : off + vs.length ≤ cs.length) (hv : vs.all (·.oneCell') = true) (ht : ckSize P t vs.length = true)
    (h : ∀ w', Sep w0 F L' w' → wpList P ops Q rest (a.put o.dst undef) w') : wpList P ops Q (o :: rest) a w :=
  wpList_skp hw (exec_store ho hx hy (run_storeN ht hv (hS.holds _ hu.mem) hl)) (h _ (hS.setRow _ hu))
theorem ck_loadAll (hS : Sep w0 F L w) (ho : o.op = .load t x) (hw : Region.wanted o (yielded ops a.tmps) = true) (hx : a.eval x = .pointer (some ⟨b, 0, none⟩)) (hm : pts b cs T ∈ L) (hn : cs.length = n) (ht : ckAgg P t n = true)
    (h : wpList P ops Q rest (a.put o.dst (.agg cs.toArray)) w) : wpList P ops Q (o :: rest) a w :=
  ck_loadN hS ho hw hx hm (fun j _ => by rw [Nat.zero_add]) ht hn h
/-- Some cells out of the middle. -/
theorem sub_at {off : Nat} (hl : off + n ≤ cs.length) : ∀ j, j < n → cs[off + j]? = ((cs.drop off).take n)[j]? := fun j hj => by
  rw [List.getElem?_take_of_lt hj, List.getElem?_drop]
theorem ck_loadSub (n : Nat) (hS : Sep w0 F L w) (ho : o.op = .load t x) (hw : Region.wanted o (yielded ops a.tmps) = true) (hx : a.eval x = .pointer (some ⟨b, off, none⟩)) (hm : pts b cs T ∈ L) (hl : off + n ≤ cs.length) (ht : ckAgg P t n = true)
    (h : wpList P ops Q rest (a.put o.dst (.agg ((cs.drop off).take n).toArray)) w) : wpList P ops Q (o :: rest) a w :=
  ck_loadN hS ho hw hx hm (sub_at hl) ht (by simp; omega) h
theorem ckPut_all (h : vs.length = cs.length) : ckPut cs 0 vs = vs := by simp [ckPut, h]
theorem ck_storeAll (hS : Sep w0 F L w) (ho : o.op = .store t x y) (hw : Region.wanted o (yielded ops a.tmps) = true) (hx : a.eval x = .pointer (some ⟨b, 0, none⟩)) (hy : a.eval y = .agg vs.toArray) (hu : Upd L (pts b cs T) (pts b vs T) L') (hl : vs.length = cs.length) (hv : vs.all (·.oneCell') = true) (ht : ckSize P t vs.length = true)
    (h : ∀ w', Sep w0 F L' w' → wpList P ops Q rest (a.put o.dst undef) w') : wpList P ops Q (o :: rest) a w :=
  ck_storeN hS ho hw hx hy (by rw [ckPut_all hl]; exact hu) (by omega) hv ht h
theorem ck_box (hS : Sep w0 F L w) (ho : o.op = .box t x) (hw : Region.wanted o (yielded ops a.tmps) = true) (hx : WhC (a.eval x) cs)
    (h : ∀ nb w', Sep w0 F (pts nb cs t :: L) w' → wpList P ops Q rest (a.put o.dst (.pointer (some ⟨nb, 0, none⟩))) w') : wpList P ops Q (o :: rest) a w :=
  wpList_val hw (exec_box ho hx) (h _ _ (hS.alloc _ _))
theorem ck_alloc (hS : Sep w0 F L w) (ho : o.op = .alloc t) (hw : Region.wanted o (yielded ops a.tmps) = true) (hz : (P.info? t).bind (·.zero) = some v) (hc : v.cells = cs.toArray)
    (h : ∀ nb w', Sep w0 F (pts nb cs t :: L) w' → wpList P ops Q rest (a.put o.dst (.pointer (some ⟨nb, 0, none⟩))) w') : wpList P ops Q (o :: rest) a w :=
  wpList_val hw (by have := exec_alloc (w := w) (a := a) ho hz; rw [hc] at this; exact this) (h _ _ (hS.alloc _ _))
end

/-! ### A result that is kept in a variable -/
section
variable {P : Program} {w w0 : World} {F : List Nat} {L : List Res} {a : Act} {b n : Nat} {cs : List Value} {T t : TypeId} {fn : Func} {x y : Tmp}
theorem run_loadAll (hS : Sep w0 F L w) (hm : pts b cs T ∈ L) (hn : cs.length = n) (ht : ckAgg P t n = true) : (loadVar t ⟨b, 0, none⟩).run P w = .ok (.agg cs.toArray) w :=
  run_loadN ht (hS.holds _ hm) hn (fun j _ => by rw [Nat.zero_add])
theorem ckRes_cell (hS : Sep w0 F L w) (hm : pts b cs T ∈ L) (hr : fn.results = #[.cell x t]) (hx : a.tmps.getD x undef = .pointer (some ⟨b, 0, none⟩)) (hn : cs.length = n) (ht : ckAgg P t n = true) : (results fn a.tmps).run P w = .ok (.agg cs.toArray) w := by
  have hx' := hx
  rw [Array.getD_eq_getD_getElem?] at hx'
  simp [results, hr, hx', asAddr, Sem.run_bind, run_loadAll hS hm hn ht]
theorem ckRes_cell_tmp (hS : Sep w0 F L w) (hm : pts b cs T ∈ L) (hr : fn.results = #[.cell x t, .tmp y]) (hx : a.tmps.getD x undef = .pointer (some ⟨b, 0, none⟩)) (hn : cs.length = n) (ht : ckAgg P t n = true) : (results fn a.tmps).run P w = .ok (.tuple #[.agg cs.toArray, a.tmps.getD y undef]) w := by
  have hx' := hx
  rw [Array.getD_eq_getD_getElem?] at hx'
  simp [results, hr, hx', asAddr, Sem.run_bind, run_loadAll hS hm hn ht]
theorem ckRes_tmp_cell (hS : Sep w0 F L w) (hm : pts b cs T ∈ L) (hr : fn.results = #[.tmp y, .cell x t]) (hx : a.tmps.getD x undef = .pointer (some ⟨b, 0, none⟩)) (hn : cs.length = n) (ht : ckAgg P t n = true) : (results fn a.tmps).run P w = .ok (.tuple #[a.tmps.getD y undef, .agg cs.toArray]) w := by
  have hx' := hx
  rw [Array.getD_eq_getD_getElem?] at hx'
  simp [results, hr, hx', asAddr, Sem.run_bind, run_loadAll hS hm hn ht]
end

/-! ### In a region that draws its order -/
section
variable {P : Program} {ops : Array Oper} {blk : Nat → Nat} {conf : Nat → List Nat} {flg : List Nat} {Q : Exit → Act → World → Prop} {rest : List Oper} {w w0 : World} {F : List Nat} {L L' : List Res} {o : Oper} {a : Act} {i b off n : Nat} {cs vs : List Value} {T t : TypeId} {fz : Nat × Nat} {v : Value} {x y : Operand}

def wpT (P : Program) (ops : Array Oper) (blk : Nat → Nat) (conf : Nat → List Nat) (flg : List Nat) (Q : Exit → Act → World → Prop) : Nat → List Oper → Act → World → Prop
  | _, [], a, w => Q .normal a w
  | i, o :: rest, a, w =>
    if ckCls o = 2 then (if Region.wanted o (yielded ops a.tmps) = true then o.wp P a w (fun a' w' => (∀ j ∈ conf i, w'.heap[blk j]? = w.heap[blk j]?) ∧ wpT P ops blk conf flg Q (i + 1) rest a' w') Q else wpT P ops blk conf flg Q (i + 1) rest (a.put o.dst undef) w)
    else ∃ v B, (ckCls o = 0 → B = none) ∧ (∀ b, B = some b → i ∈ flg → b = blk i) ∧ Quiet1 P ops o v B w a ∧ wpT P ops blk conf flg Q (i + 1) rest (a.put o.dst v) w

theorem wpX_of_T : ∀ (l : List Oper) (k : Nat) (a : Act) (w : World), (∀ j, l[j]? = ops[k + j]?) → wpT P ops blk conf flg Q k l a w → wpX P ops blk conf flg Q (List.range' k l.length) a w
  | [], k, a, w, _, h => h
  | o :: l, k, a, w, hl, h => by
    have h0 : ops[k]? = some o := by simpa using (hl 0).symm
    have hl' : ∀ j, l[j]? = ops[(k + 1) + j]? := fun j => by have := hl (j + 1); simpa [Nat.add_assoc, Nat.add_comm 1 j] using this
    simp only [List.length_cons, List.range'_succ, wpX]
    unfold wpT at h
    by_cases hc : ckCls o = 2
    · rw [if_pos hc] at h
      rw [xOp_act h0 hc]
      split
      · rename_i hw; rw [if_pos hw] at h; exact Oper.wp_mono (fun a w hk => ⟨hk.1, wpX_of_T l (k + 1) a w hl' hk.2⟩) h
      · rename_i hw; rw [if_neg hw] at h; exact wpX_of_T l (k + 1) _ _ hl' h
    · rw [if_neg hc] at h
      rw [xOp_quiet h0 hc]
      obtain ⟨v, B, h1, h2, h3, h4⟩ := h
      exact ⟨v, B, h1, h2, h3, wpX_of_T l (k + 1) _ _ hl' h4⟩

/-- **The region.** -/
theorem ck_region {id : Nat} {l : List Oper} (blk : Nat → Nat) (conf : Nat → List Nat) (flg : List Nat) (hS : Sep w0 F L w) (hm : P.follows .mixedOrders = true) (hok : okX l.toArray conf flg = true) (hQ : OnlyEnd Q)
    (h : ∀ w', Sep w0 F L w' → (∀ b : Nat, w'.heap[b]? = w.heap[b]?) → wpT P l.toArray blk conf flg Q 0 l a w') : (Code.region id l.toArray true).wp P Q a w :=
  wp_region_x blk conf flg hm hok hQ (by
    have := wpX_of_T (P := P) (ops := l.toArray) (blk := blk) (conf := conf) (flg := flg) (Q := Q) l 0 a w.drew (fun j => by simp) (h _ hS.drew (fun _ => rfl))
    simpa using this)

theorem wpT_nil (h : Q .normal a w) : wpT P ops blk conf flg Q i [] a w := h
theorem wpT_skip (hw : Region.wanted o (yielded ops a.tmps) = false) (h : wpT P ops blk conf flg Q (i + 1) rest (a.put o.dst undef) w) : wpT P ops blk conf flg Q i (o :: rest) a w := by
  unfold wpT
  split
  · rw [if_neg (by simp [hw])]; exact h
  · exact ⟨undef, none, fun _ => rfl, (fun b hb => by cases hb), .inl ⟨hw, rfl⟩, h⟩
theorem wpT_pure (hc : ckCls o = 0) (hw : Region.wanted o (yielded ops a.tmps) = true) (hr : ∀ w', (execOp a.eval o).run P w' = .ok (.value v) w') (h : wpT P ops blk conf flg Q (i + 1) rest (a.put o.dst v) w) : wpT P ops blk conf flg Q i (o :: rest) a w := by
  unfold wpT
  rw [if_neg (by omega)]
  exact ⟨v, none, fun _ => rfl, (fun b hb => by cases hb), .inr ⟨hw, fun w' _ => hr w'⟩, h⟩
theorem wpT_ld {A : Addr} (hc : ckCls o = 1) (hw : Region.wanted o (yielded ops a.tmps) = true) (hb : i ∈ flg → b = blk i) (hr : ∀ w', w'.heap[b]? = w.heap[b]? → (execOp a.eval o).run P w' = .ok (.value v) w') (h : wpT P ops blk conf flg Q (i + 1) rest (a.put o.dst v) w) : wpT P ops blk conf flg Q i (o :: rest) a w := by
  unfold wpT
  rw [if_neg (by omega)]
  exact ⟨v, some b, fun h0 => by omega, fun c hc hi => by cases hc; exact hb hi, .inr ⟨hw, fun w' hw' => hr w' (hw' b rfl)⟩, h⟩
theorem ckT_index {e : TypeId} {m : Nat} {k : IntKind} {q : Int} {l : List Value} (hu : P.underlying t = some (.array m e)) (ho : o.op = .index t x y) (hw : Region.wanted o (yielded ops a.tmps) = true) (hx : a.eval x = .agg l.toArray) (hy : a.eval y = .int k q) (h0 : 0 ≤ q) (h1 : q < m) (hv : l[q.toNat]? = some v) (he : ckScalar P e = true) (hs : ckSize P e 1 = true)
    (h : wpT P ops blk conf flg Q (i + 1) rest (a.put o.dst v) w) : wpT P ops blk conf flg Q i (o :: rest) a w := wpT_pure (by unfold ckCls; rw [ho]) hw (run_index1 hu ho hx hy h0 h1 hv he hs) h
theorem ckT_max {u : TypeId} {k : IntKind} {p q : Int} (ho : o.op = .call { callee := .builtin .max, args := #[x, y], argTypes := #[t, u] }) (hw : Region.wanted o (yielded ops a.tmps) = true) (hx : a.eval x = .int k p) (hy : a.eval y = .int k q)
    (h : wpT P ops blk conf flg Q (i + 1) rest (a.put o.dst (.int k (max p q))) w) : wpT P ops blk conf flg Q i (o :: rest) a w := wpT_pure (by unfold ckCls; rw [ho]) hw (run_max2 p q ho hx hy) h
theorem ckT_min {u : TypeId} {k : IntKind} {p q : Int} (ho : o.op = .call { callee := .builtin .min, args := #[x, y], argTypes := #[t, u] }) (hw : Region.wanted o (yielded ops a.tmps) = true) (hx : a.eval x = .int k p) (hy : a.eval y = .int k q)
    (h : wpT P ops blk conf flg Q (i + 1) rest (a.put o.dst (.int k (min p q))) w) : wpT P ops blk conf flg Q i (o :: rest) a w := wpT_pure (by unfold ckCls; rw [ho]) hw (run_min2 p q ho hx hy) h
theorem ckT_load (hS : Sep w0 F L w) (ho : o.op = .load t x) (hw : Region.wanted o (yielded ops a.tmps) = true) (hx : a.eval x = .pointer (some ⟨b, off, none⟩)) (hb : i ∈ flg → b = blk i) (hm : pts b cs T ∈ L) (hv : cs[off]? = some v) (ht : ckScalar P t = true)
    (h : wpT P ops blk conf flg Q (i + 1) rest (a.put o.dst v) w) : wpT P ops blk conf flg Q i (o :: rest) a w :=
  wpT_ld (A := ⟨b, off, none⟩) (by unfold ckCls; rw [ho]) hw hb (fun w' hw' => exec_load ho hx (run_load1 ht (hw'.trans (hS.holds _ hm)) hv)) h
theorem ckT_loadN (hS : Sep w0 F L w) (ho : o.op = .load t x) (hw : Region.wanted o (yielded ops a.tmps) = true) (hx : a.eval x = .pointer (some ⟨b, off, none⟩)) (hb : i ∈ flg → b = blk i) (hm : pts b cs T ∈ L) (hv : ∀ j, j < n → cs[off + j]? = vs[j]?) (ht : ckAgg P t n = true) (hn : vs.length = n)
    (h : wpT P ops blk conf flg Q (i + 1) rest (a.put o.dst (.agg vs.toArray)) w) : wpT P ops blk conf flg Q i (o :: rest) a w :=
  wpT_ld (A := ⟨b, off, none⟩) (by unfold ckCls; rw [ho]) hw hb (fun w' hw' => exec_load ho hx (run_loadN ht (hw'.trans (hS.holds _ hm)) hn hv)) h
theorem ckT_loadOld {c : Array Value} (hS : Sep w0 [] L w) (ho : o.op = .load t x) (hw : Region.wanted o (yielded ops a.tmps) = true) (hx : a.eval x = .pointer (some ⟨b, off, none⟩)) (hf : i ∈ flg → b = blk i) (hb : b < w0.heap.size) (h0 : w0.heap[b]? = some (.cells c T fz)) (hv : c[off]? = some v) (ht : ckScalar P t = true)
    (h : wpT P ops blk conf flg Q (i + 1) rest (a.put o.dst v) w) : wpT P ops blk conf flg Q i (o :: rest) a w :=
  wpT_ld (A := ⟨b, off, none⟩) (by unfold ckCls; rw [ho]) hw hf (fun w' hw' => exec_load ho hx (run_load1 (cs := c.toList) ht (by simpa using hw'.trans (hS.old hb h0)) (by simpa using hv))) h
theorem ckT_loadOldN {c : Array Value} (hS : Sep w0 [] L w) (ho : o.op = .load t x) (hw : Region.wanted o (yielded ops a.tmps) = true) (hx : a.eval x = .pointer (some ⟨b, off, none⟩)) (hf : i ∈ flg → b = blk i) (hb : b < w0.heap.size) (h0 : w0.heap[b]? = some (.cells c T fz)) (hv : ∀ j, j < n → c[off + j]? = vs[j]?) (ht : ckAgg P t n = true) (hn : vs.length = n)
    (h : wpT P ops blk conf flg Q (i + 1) rest (a.put o.dst (.agg vs.toArray)) w) : wpT P ops blk conf flg Q i (o :: rest) a w :=
  wpT_ld (A := ⟨b, off, none⟩) (by unfold ckCls; rw [ho]) hw hf (fun w' hw' => exec_load ho hx (run_loadN (cs := c.toList) ht (by simpa using hw'.trans (hS.old hb h0)) hn (by simpa using hv))) h
theorem wpT_act (hc : ckCls o = 2) (hw : Region.wanted o (yielded ops a.tmps) = true) (h : o.wp P a w (fun a' w' => (∀ j ∈ conf i, w'.heap[blk j]? = w.heap[blk j]?) ∧ wpT P ops blk conf flg Q (i + 1) rest a' w') Q) : wpT P ops blk conf flg Q i (o :: rest) a w := by
  unfold wpT
  rw [if_pos hc, if_pos hw]; exact h
theorem ckT_store (hS : Sep w0 F L w) (ho : o.op = .store t x y) (hw : Region.wanted o (yielded ops a.tmps) = true) (hx : a.eval x = .pointer (some ⟨b, off, none⟩)) (hy : Wh (a.eval y) v) (hu : Upd L (pts b cs T) (pts b (cs.set off v) T) L') (hl : off < cs.length) (hv : v.oneCell' = true) (ht : ckSize P t 1 = true)
    (hcf : ∀ j ∈ conf i, blk j ≠ b) (h : ∀ w', Sep w0 F L' w' → wpT P ops blk conf flg Q (i + 1) rest (a.put o.dst undef) w') : wpT P ops blk conf flg Q i (o :: rest) a w :=
  wpT_act (by unfold ckCls; rw [ho]) hw (by
    unfold Oper.wp
    rw [exec_store ho hx hy.eq (run_store1 ht hv (hS.holds _ hu.mem) hl)]
    exact ⟨fun j hj => Below.heap_setCell w _ v _ (hcf j hj), h _ (hS.setCell v hu)⟩)
theorem ckT_storeN (hS : Sep w0 F L w) (ho : o.op = .store t x y) (hw : Region.wanted o (yielded ops a.tmps) = true) (hx : a.eval x = .pointer (some ⟨b, off, none⟩)) (hy : a.eval y = .agg vs.toArray) (hu : Upd L (pts b cs T) (pts b (ckPut cs off vs) T) L') (hl : off + vs.length ≤ cs.length) (hv : vs.all (·.oneCell') = true) (ht : ckSize P t vs.length = true)
    (hcf : ∀ j ∈ conf i, blk j ≠ b) (h : ∀ w', Sep w0 F L' w' → wpT P ops blk conf flg Q (i + 1) rest (a.put o.dst undef) w') : wpT P ops blk conf flg Q i (o :: rest) a w :=
  wpT_act (by unfold ckCls; rw [ho]) hw (by
    unfold Oper.wp
    rw [exec_store ho hx hy (run_storeN ht hv (hS.holds _ hu.mem) hl)]
    refine ⟨fun j hj => ?_, h _ (hS.setRow _ hu)⟩
    simp [World.setRow, Array.getElem?_modify, Ne.symm (hcf j hj)])
theorem ckT_box (hS : Sep w0 F L w) (ho : o.op = .box t x) (hw : Region.wanted o (yielded ops a.tmps) = true) (hx : WhC (a.eval x) cs) (hcf : ∀ j ∈ conf i, blk j < w.heap.size)
    (h : ∀ nb w', Sep w0 F (pts nb cs t :: L) w' → wpT P ops blk conf flg Q (i + 1) rest (a.put o.dst (.pointer (some ⟨nb, 0, none⟩))) w') : wpT P ops blk conf flg Q i (o :: rest) a w :=
  wpT_act (by unfold ckCls; rw [ho]) hw (by
    unfold Oper.wp
    rw [exec_box ho hx]
    exact ⟨fun j hj => Below.heap_alloc w _ _ (hcf j hj), h _ _ (hS.alloc _ _)⟩)
theorem ckT_loadAll (hS : Sep w0 F L w) (ho : o.op = .load t x) (hw : Region.wanted o (yielded ops a.tmps) = true) (hx : a.eval x = .pointer (some ⟨b, 0, none⟩)) (hb : i ∈ flg → b = blk i) (hm : pts b cs T ∈ L) (hn : cs.length = n) (ht : ckAgg P t n = true)
    (h : wpT P ops blk conf flg Q (i + 1) rest (a.put o.dst (.agg cs.toArray)) w) : wpT P ops blk conf flg Q i (o :: rest) a w :=
  ckT_loadN hS ho hw hx hb hm (fun j _ => by rw [Nat.zero_add]) ht hn h
theorem ckT_storeAll (hS : Sep w0 F L w) (ho : o.op = .store t x y) (hw : Region.wanted o (yielded ops a.tmps) = true) (hx : a.eval x = .pointer (some ⟨b, 0, none⟩)) (hy : a.eval y = .agg vs.toArray) (hu : Upd L (pts b cs T) (pts b vs T) L') (hl : vs.length = cs.length) (hv : vs.all (·.oneCell') = true) (ht : ckSize P t vs.length = true)
    (hcf : ∀ j ∈ conf i, blk j ≠ b) (h : ∀ w', Sep w0 F L' w' → wpT P ops blk conf flg Q (i + 1) rest (a.put o.dst undef) w') : wpT P ops blk conf flg Q i (o :: rest) a w :=
  ckT_storeN hS ho hw hx hy (by rw [ckPut_all hl]; exact hu) (by omega) hv ht hcf h
theorem ckT_loadSub (n : Nat) (hS : Sep w0 F L w) (ho : o.op = .load t x) (hw : Region.wanted o (yielded ops a.tmps) = true) (hx : a.eval x = .pointer (some ⟨b, off, none⟩)) (hb : i ∈ flg → b = blk i) (hm : pts b cs T ∈ L) (hl : off + n ≤ cs.length) (ht : ckAgg P t n = true)
    (h : wpT P ops blk conf flg Q (i + 1) rest (a.put o.dst (.agg ((cs.drop off).take n).toArray)) w) : wpT P ops blk conf flg Q i (o :: rest) a w :=
  ckT_loadN hS ho hw hx hb hm (sub_at hl) ht (by simp; omega) h
theorem Sep.ptsLt (hS : Sep w0 F L w) (hm : pts b cs T ∈ L) : b < w.heap.size := (hS.own b (List.mem_flatMap.2 ⟨_, hm, by simp [pts]⟩)).1
theorem ckT_alloc (hS : Sep w0 F L w) (ho : o.op = .alloc t) (hw : Region.wanted o (yielded ops a.tmps) = true) (hz : (P.info? t).bind (·.zero) = some v) (hc : v.cells = cs.toArray) (hcf : ∀ j ∈ conf i, ∃ cs T, pts (blk j) cs T ∈ L)
    (h : ∀ nb w', Sep w0 F (pts nb cs t :: L) w' → wpT P ops blk conf flg Q (i + 1) rest (a.put o.dst (.pointer (some ⟨nb, 0, none⟩))) w') : wpT P ops blk conf flg Q i (o :: rest) a w :=
  wpT_act (by unfold ckCls; rw [ho]) hw (by
    unfold Oper.wp
    rw [exec_alloc ho hz, hc]
    refine ⟨fun j hj => ?_, h _ _ (hS.alloc _ _)⟩
    obtain ⟨cs, T, hm⟩ := hcf j hj
    exact Below.heap_alloc w _ _ (hS.ptsLt hm))
/-- A call of a function of the program, in a region that draws its order. -/
def ckEnter (P : Program) (f : FuncId) : Bool := match P.funcs[f]? with | some fn => !(fn.name == "runtime.NumGoroutine") && !fn.body.isNone | none => false
theorem run_enter {f : FuncId} {args : Array Value} (h : ckEnter P f = true) (w : World) : (callFunc f args).run P w = .ok (.enter f args) w := by
  unfold ckEnter at h
  cases hf : P.funcs[f]? with
  | none => simp [hf] at h
  | some fn =>
    simp only [hf, Bool.and_eq_true, Bool.not_eq_true'] at h
    obtain ⟨h1, h2⟩ := h
    unfold callFunc
    simp only [Sem.run_bind, run_program, Result.andThen_ok, hf, h1, h2, Bool.false_eq_true, ↓reduceIte, Sem.run_pure]
theorem ckT_enter {f : FuncId} {az : Array Operand} {ats : Array TypeId} {args : Array Value} (ho : o.op = .call { callee := .value (.func f), args := az, argTypes := ats }) (hw : Region.wanted o (yielded ops a.tmps) = true) (hen : ckEnter P f = true)
    (ha : az.toList.map a.eval = args.toList) (h : Calls P f args w (fun e w' => match e with
      | .returned u => (∀ j ∈ conf i, w'.heap[blk j]? = w.heap[blk j]?) ∧ wpT P ops blk conf flg Q (i + 1) rest (a.put o.dst u) w'
      | _ => False)) : wpT P ops blk conf flg Q i (o :: rest) a w :=
  wpT_act (by unfold ckCls; rw [ho]) hw (by
    have e : execOp a.eval o = callFunc f args := by
      have : az.map a.eval = args := by rw [← Array.toList_inj, Array.toList_map]; exact ha
      rw [← this]
      have ef : a.eval (.func f) = .func (.func f) #[] #[] := rfl
      unfold execOp
      simp [ho, resolve, Deferred.ofValue, invoke, ef]
    unfold Oper.wp
    rw [e, run_enter hen]
    simp only [Oper.upon]
    refine h.mono fun e w' he => ?_
    cases e with
    | returned u => exact he
    | panicked c => exact he.elim
    | outgrown => exact he.elim)
/-- What a call leaves as it was: a block that was there before, and that nobody owns; or one that is owned by somebody else. -/
def Keeps (w0 : World) (F : List Nat) (L L' : List Res) (c : Nat) : Prop := (c < w0.heap.size ∧ c ∉ F) ∨ ∃ cs T, pts c cs T ∈ L ∧ pts c cs T ∈ L'
theorem Keeps.out {w' : World} {c : Nat} (h : Keeps w0 F L L' c) (hS : Sep w0 F L w) (hS' : Sep w0 F L' w') : w'.heap[c]? = w.heap[c]? := by
  rcases h with ⟨h1, h2⟩ | ⟨cs, T, h1, h2⟩
  · exact (hS'.frame c h1 h2).trans (hS.frame c h1 h2).symm
  · exact Eq.trans (hS'.holds _ h2) (Eq.symm (hS.holds _ h1))
theorem ckT_call0 {f : FuncId} {az : Array Operand} {ats : Array TypeId} {args : Array Value} (hS : Sep w0 F L w) (ho : o.op = .call { callee := .value (.func f), args := az, argTypes := ats }) (hC : Ct P f args [] (Gives v [])) (hw : Region.wanted o (yielded ops a.tmps) = true) (hen : ckEnter P f = true)
    (ha : az.toList.map a.eval = args.toList) (hcf : ∀ j ∈ conf i, Keeps w0 F L L (blk j)) (h : ∀ w', Sep w0 F L w' → wpT P ops blk conf flg Q (i + 1) rest (a.put o.dst v) w') : wpT P ops blk conf flg Q i (o :: rest) a w :=
  ckT_enter ho hw hen ha (hC.call0 hS fun w' hS' => ⟨fun j hj => (hcf j hj).out hS hS', h w' hS'⟩)
theorem ckT_callU {f : FuncId} {az : Array Operand} {ats : Array TypeId} {args : Array Value} {r r' : Res} (hS : Sep w0 F L w) (ho : o.op = .call { callee := .value (.func f), args := az, argTypes := ats }) (hC : Ct P f args [r] (Gives v [r'])) (hu : Upd L r r' L') (hw : Region.wanted o (yielded ops a.tmps) = true) (hen : ckEnter P f = true)
    (ha : az.toList.map a.eval = args.toList) (hcf : ∀ j ∈ conf i, Keeps w0 F L L' (blk j)) (h : ∀ w', Sep w0 F L' w' → wpT P ops blk conf flg Q (i + 1) rest (a.put o.dst v) w') : wpT P ops blk conf flg Q i (o :: rest) a w :=
  ckT_enter ho hw hen ha (hC.callU hu hS fun w' hS' => ⟨fun j hj => (hcf j hj).out hS hS', h w' hS'⟩)
end
end Go.Proofs.YtcegknecikbbkaaGreat

/- A region that draws its order, and some of whose acts no edge orders: the orders of these acts suffice, one walk for each. No function of the program is entered in it. -/
set_option linter.unusedVariables false
set_option linter.unusedSimpArgs false
namespace Go.Proofs.YtcegknecikbbkaaGreat
open Go.RowKit
section
variable {P : Program} {ops : Array Oper} {Q : Exit → Act → World → Prop} {blk : Nat → Nat} {conf : Nat → List Nat} {flg : List Nat} {E : List (Nat × Nat)}
/-- What an operation that enters no function comes to. -/
def Ran (P : Program) (ops : Array Oper) (o : Oper) (a : Act) (w : World) (v : Value) (w' : World) : Prop :=
  (Region.wanted o (yielded ops a.tmps) = false ∧ v = undef ∧ w' = w) ∨
  (Region.wanted o (yielded ops a.tmps) = true ∧ ((execOp a.eval o).run P w = .ok (.value v) w' ∨ ((execOp a.eval o).run P w = .ok .skip w' ∧ v = undef)))
theorem Ran.unique {o : Oper} {a : Act} {w w1 w2 : World} {v u : Value} (h : Ran P ops o a w v w1) (h' : Ran P ops o a w u w2) : v = u ∧ w1 = w2 := by
  rcases h with ⟨h0, rfl, rfl⟩ | ⟨h0, h⟩
  · rcases h' with ⟨_, rfl, rfl⟩ | ⟨h0', _⟩
    · exact ⟨rfl, rfl⟩
    · rw [h0] at h0'; cases h0'
  · rcases h' with ⟨h0', _, _⟩ | ⟨_, h'⟩
    · rw [h0] at h0'; cases h0'
    · rcases h with h | ⟨h, rfl⟩ <;> rcases h' with h' | ⟨h', rfl⟩
      · rw [h] at h'; injection h' with e1 e2; injection e1 with e1; exact ⟨e1, e2⟩
      · rw [h] at h'; injection h' with e1 e2; cases e1
      · rw [h] at h'; injection h' with e1 e2; cases e1
      · rw [h] at h'; injection h' with e1 e2; exact ⟨rfl, e2⟩
theorem Ran.put {o : Oper} {v u : Value} {w w' : World} {a : Act} {dst : Option Tmp} (hs : ∀ cs b, o.op ≠ .select cs b) (hap : ∀ d, dst = some d → d ∉ o.looksAt ops) : Ran P ops o (a.put dst u) w v w' ↔ Ran P ops o a w v w' := by
  unfold Ran
  rw [wanted_put o a dst u hap, execOp_put o hs a dst u hap]
theorem Ran.of_quiet {o : Oper} {v : Value} {B : Option Nat} {w : World} {a : Act} (h : Quiet1 P ops o v B w a) : Ran P ops o a w v w := by
  rcases h with ⟨hw, rfl⟩ | ⟨hw, hr⟩
  · exact .inl ⟨hw, rfl, rfl⟩
  · exact .inr ⟨hw, .inl (hr w fun _ _ => rfl)⟩

/-! ### Trees -/
def xE (P : Program) (ops : Array Oper) (i : Nat) (K : Act → World → Prop) (a : Act) (w : World) : Prop :=
  match ops[i]? with
  | none => K a w
  | some o => ∃ v w', Ran P ops o a w v w' ∧ K (a.put o.dst v) w'
theorem xE_mono {i : Nat} {K K' : Act → World → Prop} (h : ∀ a w, K a w → K' a w) {a : Act} {w : World} (hh : xE P ops i K a w) : xE P ops i K' a w := by
  unfold xE at *
  split
  · rename_i ho; simp only [ho] at hh; exact h _ _ hh
  · rename_i o ho; simp only [ho] at hh
    obtain ⟨v, w', h1, h2⟩ := hh
    exact ⟨v, w', h1, h _ _ h2⟩
theorem xE_and {i : Nat} {K K' : Act → World → Prop} {a : Act} {w : World} (h1 : xE P ops i K a w) (h2 : xE P ops i K' a w) : xE P ops i (fun a w => K a w ∧ K' a w) a w := by
  unfold xE at *
  split
  · rename_i ho; simp only [ho] at h1 h2; exact ⟨h1, h2⟩
  · rename_i o ho; simp only [ho] at h1 h2
    obtain ⟨v, w1, r1, k1⟩ := h1
    obtain ⟨u, w2, r2, k2⟩ := h2
    obtain ⟨rfl, rfl⟩ := r1.unique r2
    exact ⟨v, w1, r1, k1, k2⟩
theorem xE_wpOp {i : Nat} {K : Act → World → Prop} {a : Act} {w : World} (h : xE P ops i K a w) : wpOp P ops Q i K a w := by
  unfold xE at h
  unfold wpOp
  split
  · rename_i ho; simp only [ho] at h; exact h
  · rename_i o ho; simp only [ho] at h
    obtain ⟨v, w', h1, h2⟩ := h
    rcases h1 with ⟨hw, rfl, rfl⟩ | ⟨hw, h1⟩
    · rw [if_neg (by simp [hw])]; exact h2
    · rw [if_pos hw]
      refine .inl ?_
      unfold Oper.wp
      rcases h1 with h1 | ⟨h1, rfl⟩
      · rw [h1]; exact h2
      · rw [h1]; exact h2
def okE (E : List (Nat × Nat)) (listed : Array Bool) (i : Nat) : Bool := E.all fun p => p.2 != i || listed.getD p.1 false
theorem okE_set {listed : Array Bool} {i j : Nat} (h : okE E listed j = true) : okE E (listed.setIfInBounds i true) j = true := by
  unfold okE at *
  rw [List.all_eq_true] at *
  intro p hp
  have := h p hp
  rw [Bool.or_eq_true] at *
  exact this.imp id getD_set_true
def anyE (P : Program) (ops : Array Oper) (Q : Exit → Act → World → Prop) (E : List (Nat × Nat)) : Nat → Array Bool → Act → World → Prop
  | 0, listed, a, w => Region.ready .any ops listed = [] ∧ Q .normal a w
  | fuel + 1, listed, a, w =>
    (Region.ready .any ops listed = [] → Q .normal a w) ∧
    ∀ i ∈ Region.ready .any ops listed, okE E listed i = true → xE P ops i (anyE P ops Q E fuel (listed.setIfInBounds i true)) a w
theorem wpAny_of_anyE : ∀ (fuel : Nat) (listed : Array Bool) (a : Act) (w : World), anyE P ops Q [] fuel listed a w → wpAny P .any ops Q fuel listed a w
  | 0, _, _, _, h => h
  | fuel + 1, _, _, _, h => ⟨h.1, fun i hi => wpOp_mono (fun a w => wpAny_of_anyE fuel _ a w) (xE_wpOp (h.2 i hi rfl))⟩
theorem anyE_drop {i j : Nat} : ∀ (fuel : Nat) (listed : Array Bool) (a : Act) (w : World), listed.getD i false = true → anyE P ops Q ((i, j) :: E) fuel listed a w → anyE P ops Q E fuel listed a w
  | 0, _, _, _, _, h => h
  | fuel + 1, listed, _, _, hl, h => ⟨h.1, fun k hk ho => xE_mono (fun a w => anyE_drop fuel _ a w (getD_set_true hl)) (h.2 k hk (by unfold okE at *; rw [List.all_cons, ho, hl]; simp))⟩
theorem anyE_split {i j : Nat} (hij : i ≠ j) : ∀ (fuel : Nat) (listed : Array Bool) (a : Act) (w : World), anyE P ops Q ((i, j) :: E) fuel listed a w → anyE P ops Q ((j, i) :: E) fuel listed a w → anyE P ops Q E fuel listed a w
  | 0, _, _, _, h, _ => h
  | fuel + 1, listed, a, w, h1, h2 => ⟨h1.1, fun k hk ho => by
    have hks : k < listed.size := by
      have h0 := (mem_ready.1 hk).1
      rcases Nat.lt_or_ge k listed.size with h | h
      · exact h
      · simp [Array.getElem?_eq_none h] at h0
    have hset : (listed.setIfInBounds k true).getD k false = true := by simp [hks]
    by_cases e1 : k = i
    · subst e1
      exact xE_mono (fun a w => anyE_drop fuel _ a w hset) (h1.2 k hk (by unfold okE at *; rw [List.all_cons, ho]; simp [Ne.symm hij]))
    by_cases e2 : k = j
    · subst e2
      exact xE_mono (fun a w => anyE_drop fuel _ a w hset) (h2.2 k hk (by unfold okE at *; rw [List.all_cons, ho]; simp [hij]))
    · have g1 := h1.2 k hk (by unfold okE at *; rw [List.all_cons, ho]; simp [Ne.symm e2])
      have g2 := h2.2 k hk (by unfold okE at *; rw [List.all_cons, ho]; simp [Ne.symm e1])
      exact xE_mono (fun a w h => anyE_split hij fuel _ a w h.1 h.2) (xE_and g1 g2)⟩

/-! ### With tables -/
def xTo (P : Program) (ops : Array Oper) (blk : Nat → Nat) (conf : Nat → List Nat) (flg : List Nat) (i : Nat) (o : Oper) (K : Act → World → Prop) (a : Act) (w : World) : Prop :=
  if ckCls o = 2 then ∃ v w', Ran P ops o a w v w' ∧ (∀ j ∈ conf i, w'.heap[blk j]? = w.heap[blk j]?) ∧ K (a.put o.dst v) w'
  else ∃ v B, (ckCls o = 0 → B = none) ∧ (∀ b, B = some b → i ∈ flg → b = blk i) ∧ Quiet1 P ops o v B w a ∧ K (a.put o.dst v) w
def xT (P : Program) (ops : Array Oper) (blk : Nat → Nat) (conf : Nat → List Nat) (flg : List Nat) (i : Nat) (K : Act → World → Prop) (a : Act) (w : World) : Prop :=
  match ops[i]? with
  | none => K a w
  | some o => xTo P ops blk conf flg i o K a w
theorem xTo_mono {i : Nat} {o : Oper} {K K' : Act → World → Prop} (h : ∀ a w, K a w → K' a w) {a : Act} {w : World} (hh : xTo P ops blk conf flg i o K a w) : xTo P ops blk conf flg i o K' a w := by
  unfold xTo at *
  split
  · rename_i hc; rw [if_pos hc] at hh
    obtain ⟨v, w', h1, h2, h3⟩ := hh
    exact ⟨v, w', h1, h2, h _ _ h3⟩
  · rename_i hc; rw [if_neg hc] at hh
    obtain ⟨v, B, h1, h2, h3, h4⟩ := hh
    exact ⟨v, B, h1, h2, h3, h _ _ h4⟩
theorem xT_mono {i : Nat} {K K' : Act → World → Prop} (h : ∀ a w, K a w → K' a w) {a : Act} {w : World} (hh : xT P ops blk conf flg i K a w) : xT P ops blk conf flg i K' a w := by
  unfold xT at *
  split
  · rename_i ho; simp only [ho] at hh; exact h _ _ hh
  · rename_i o ho; simp only [ho] at hh; exact xTo_mono h hh
theorem xT_xE {i : Nat} {K : Act → World → Prop} {a : Act} {w : World} (h : xT P ops blk conf flg i K a w) : xE P ops i K a w := by
  unfold xT at h
  unfold xE
  split
  · rename_i ho; simp only [ho] at h; exact h
  · rename_i o ho; simp only [ho] at h
    unfold xTo at h
    split at h
    · obtain ⟨v, w', h1, _, h3⟩ := h; exact ⟨v, w', h1, h3⟩
    · obtain ⟨v, B, _, _, h3, h4⟩ := h; exact ⟨v, w, .of_quiet h3, h4⟩
theorem xT_some {i : Nat} {K : Act → World → Prop} {a : Act} {w : World} (h : xT P ops blk conf flg i K a w) : ∃ a' w', K a' w' := by
  have h := xT_xE h
  unfold xE at h
  split at h
  · exact ⟨_, _, h⟩
  · obtain ⟨v, w', _, h3⟩ := h; exact ⟨_, _, h3⟩
theorem xTo_swap {i j : Nat} {oi oj : Oper} (hi : ops[i]? = some oi) (hj : ops[j]? = some oj) (hsi : ∀ cs b, oi.op ≠ .select cs b) (hsj : ∀ cs b, oj.op ≠ .select cs b) (hp : pairOk ops conf flg i j = true)
    {K : Act → World → Prop} {a : Act} {w : World} (h : xTo P ops blk conf flg i oi (xTo P ops blk conf flg j oj K) a w) : xTo P ops blk conf flg j oj (xTo P ops blk conf flg i oi K) a w := by
  simp only [pairOk, hi, hj, Bool.and_eq_true] at hp
  obtain ⟨hap, hcl⟩ := hp
  obtain ⟨l1, l2, l3⟩ := Oper.apart_spec hap
  have l2' : ∀ d, oj.dst = some d → oi.dst ≠ some d := fun d h1 h2 => l2 d h2 h1
  by_cases ci : ckCls oi = 2
  · have cj : ckCls oj ≠ 2 := by
      intro e; rw [if_pos ci] at hcl; simp [e] at hcl
    rw [if_pos ci] at hcl
    have hB : ∀ (B : Option Nat), (ckCls oj = 0 → B = none) → (∀ b, B = some b → j ∈ flg → b = blk j) → ∀ w1 : World, (∀ k ∈ conf i, w1.heap[blk k]? = w.heap[blk k]?) → ∀ b, B = some b → w.heap[b]? = w1.heap[b]? := by
      intro B h0 h1 w1 hag b hb
      rcases Bool.or_eq_true _ _ ▸ hcl with hz | hz
      · rw [h0 (by simpa using hz)] at hb; cases hb
      · simp only [Bool.and_eq_true] at hz
        have hjf : j ∈ flg := by simpa using hz.2
        have hjc : j ∈ conf i := by simpa using hz.1.2
        rw [h1 b hb hjf]; exact (hag j hjc).symm
    unfold xTo at h
    rw [if_pos ci] at h
    obtain ⟨v, w1, hr, hag, hx⟩ := h
    rw [if_neg cj] at hx
    obtain ⟨u, B, h0, h1, hq, hk⟩ := hx
    have hq' : Quiet1 P ops oj u B w1 a := (Quiet1.put hsj l1).1 hq
    unfold xTo
    rw [if_neg cj]
    refine ⟨u, B, h0, h1, hq'.world (hB B h0 h1 w1 hag), ?_⟩
    rw [if_pos ci]
    refine ⟨v, w1, (Ran.put hsi l3).2 hr, hag, ?_⟩
    rw [Act.put_comm _ _ _ l2']
    exact hk
  · rw [if_neg ci] at hcl
    unfold xTo at h
    rw [if_neg ci] at h
    obtain ⟨v, B, h0, h1, hq, hx⟩ := h
    by_cases cj : ckCls oj = 2
    · rw [if_pos cj] at hcl
      have hB : ∀ w1 : World, (∀ k ∈ conf j, w1.heap[blk k]? = w.heap[blk k]?) → ∀ b, B = some b → w1.heap[b]? = w.heap[b]? := by
        intro w1 hag b hb
        rcases Bool.or_eq_true _ _ ▸ hcl with hz | hz
        · rw [h0 (by simpa using hz)] at hb; cases hb
        · simp only [Bool.and_eq_true] at hz
          have hjf : i ∈ flg := by simpa using hz.2
          have hjc : i ∈ conf j := by simpa using hz.1.2
          rw [h1 b hb hjf]; exact hag i hjc
      rw [if_pos cj] at hx
      obtain ⟨u, w1, hr, hag, hk⟩ := hx
      unfold xTo
      rw [if_pos cj]
      refine ⟨u, w1, (Ran.put hsj l1).1 hr, hag, ?_⟩
      rw [if_neg ci]
      refine ⟨v, B, h0, h1, ((Quiet1.put hsi l3).2 hq).world (hB w1 hag), ?_⟩
      rw [Act.put_comm _ _ _ l2']
      exact hk
    · rw [if_neg cj] at hx
      obtain ⟨v', B', h0', h1', hq', hk⟩ := hx
      unfold xTo
      rw [if_neg cj]
      refine ⟨v', B', h0', h1', (Quiet1.put hsj l1).1 hq', ?_⟩
      rw [if_neg ci]
      refine ⟨v, B, h0, h1, (Quiet1.put hsi l3).2 hq, ?_⟩
      rw [Act.put_comm _ _ _ l2']
      exact hk
def anyT (P : Program) (ops : Array Oper) (blk : Nat → Nat) (conf : Nat → List Nat) (flg : List Nat) (Q : Exit → Act → World → Prop) (E : List (Nat × Nat)) : Nat → Array Bool → Act → World → Prop
  | 0, listed, a, w => Region.ready .any ops listed = [] ∧ Q .normal a w
  | fuel + 1, listed, a, w =>
    (Region.ready .any ops listed = [] → Q .normal a w) ∧
    ∀ i ∈ Region.ready .any ops listed, okE E listed i = true → xT P ops blk conf flg i (anyT P ops blk conf flg Q E fuel (listed.setIfInBounds i true)) a w
theorem anyE_of_anyT : ∀ (fuel : Nat) (listed : Array Bool) (a : Act) (w : World), anyT P ops blk conf flg Q E fuel listed a w → anyE P ops Q E fuel listed a w
  | 0, _, _, _, h => h
  | fuel + 1, _, _, _, h => ⟨h.1, fun i hi ho => xE_mono (fun a w => anyE_of_anyT fuel _ a w) (xT_xE (h.2 i hi ho))⟩

/-! ### One order -/
def predsE (ops : Array Oper) (E : List (Nat × Nat)) (j : Nat) : List Nat :=
  (match ops[j]? with | some o => (o.after.toList.filter (Region.binds .any ·)).map (·.on) | none => []) ++ (E.filter (fun p => p.2 == j)).map (·.1)
def maskE (ms : Array Nat) (l : List Nat) (s : Nat) : Nat := l.foldl (fun s p => s ||| 2 ^ p ||| ms.getD p 0) s
def masksE (ops : Array Oper) (E : List (Nat × Nat)) (r : List Nat) : Array Nat := r.foldl (fun ms j => ms.setIfInBounds j (maskE ms (predsE ops E j) 0)) (Array.replicate ops.size 0)
def okR (ops : Array Oper) (conf : Nat → List Nat) (flg : List Nat) (E : List (Nat × Nat)) (r : List Nat) (ms : Array Nat) : Bool :=
  Region.noSelect ops && decide (r.length = ops.size) && r.all (fun j => decide (j < ops.size)) && (List.range ops.size).all (fun k => r.idxOf (r.getD k 0) == k) && (List.range ops.size).all (fun j => decide (r.idxOf j < ops.size)) &&
  (List.range ops.size).all (fun j => ms.getD j 0 == maskE ms (predsE ops E j) 0 && (predsE ops E j).all fun p => decide (p < ops.size) && decide (r.idxOf p < r.idxOf j)) &&
  (List.range ops.size).all fun j => (List.range ops.size).all fun i => !decide (r.idxOf i < r.idxOf j) || (ms.getD j 0).testBit i || pairOk ops conf flg i j
theorem maskE_bit (ms : Array Nat) (i : Nat) : ∀ (l : List Nat) (s : Nat), (maskE ms l s).testBit i = true → s.testBit i = true ∨ ∃ p ∈ l, p = i ∨ (ms.getD p 0).testBit i = true
  | [], s, h => .inl h
  | p :: l, s, h => by
    unfold maskE at h
    rw [List.foldl_cons] at h
    rcases maskE_bit ms i l _ h with h1 | ⟨q, hq, hx⟩
    · simp only [Nat.testBit_or, Bool.or_eq_true, Nat.testBit_two_pow, decide_eq_true_eq] at h1
      rcases h1 with (h1 | h1) | h1
      · exact .inl h1
      · exact .inr ⟨p, by simp, .inl h1⟩
      · exact .inr ⟨p, by simp, .inr h1⟩
    · exact .inr ⟨q, by simp [hq], hx⟩
structure GoodR (ops : Array Oper) (conf : Nat → List Nat) (flg : List Nat) (E : List (Nat × Nat)) (r : List Nat) (ms : Array Nat) : Prop where
  sel : Region.noSelect ops = true
  len : r.length = ops.size
  inb : ∀ j ∈ r, j < ops.size
  uni : ∀ k, k < ops.size → r.idxOf (r.getD k 0) = k
  has : ∀ j, j < ops.size → r.idxOf j < ops.size
  mask : ∀ j, j < ops.size → ms.getD j 0 = maskE ms (predsE ops E j) 0
  prec : ∀ j, j < ops.size → ∀ p ∈ predsE ops E j, p < ops.size ∧ r.idxOf p < r.idxOf j
  pair : ∀ i j, i < ops.size → j < ops.size → r.idxOf i < r.idxOf j → (ms.getD j 0).testBit i = true ∨ pairOk ops conf flg i j = true
theorem okR_good {r : List Nat} {ms : Array Nat} (h : okR ops conf flg E r ms = true) : GoodR ops conf flg E r ms := by
  unfold okR at h
  simp only [Bool.and_eq_true, List.all_eq_true, decide_eq_true_eq, beq_iff_eq, List.mem_range, Bool.or_eq_true, Bool.not_eq_true', decide_eq_false_iff_not] at h
  obtain ⟨⟨⟨⟨⟨⟨h1, h2⟩, h3⟩, h4⟩, h5⟩, h6⟩, h7⟩ := h
  exact ⟨h1, h2, h3, h4, h5, fun j hj => (h6 j hj).1, fun j hj => (h6 j hj).2, fun i j hi hj hlt => by
    rcases h7 j hj i hi with (h | h) | h
    · exact absurd hlt h
    · exact .inl h
    · exact .inr h⟩
variable {r : List Nat} {ms : Array Nat}
theorem GoodR.inj (g : GoodR ops conf flg E r ms) {i j : Nat} (hi : i < ops.size) (hj : j < ops.size) (e : r.idxOf i = r.idxOf j) : i = j := by
  have h1 : r[r.idxOf i]'(by rw [g.len]; exact g.has i hi) = i := List.getElem_idxOf _
  have h2 : r[r.idxOf j]'(by rw [g.len]; exact g.has j hj) = j := List.getElem_idxOf _
  rw [← h1, ← h2]; congr 1
def ClosedE (ops : Array Oper) (E : List (Nat × Nat)) (listed : Array Bool) : Prop := ∀ j, j < ops.size → listed.getD j false = true → ∀ p ∈ predsE ops E j, listed.getD p false = true
theorem ready_preds {listed : Array Bool} {j : Nat} (hj : j ∈ Region.ready .any ops listed) (ho : okE E listed j = true) : ∀ p ∈ predsE ops E j, listed.getD p false = true := by
  intro p hp
  unfold predsE at hp
  rcases List.mem_append.1 hp with hp | hp
  · obtain ⟨_, o, hoj, hall⟩ := mem_ready.1 hj
    simp only [hoj] at hp
    obtain ⟨e, he, rfl⟩ := List.mem_map.1 hp
    obtain ⟨he, hb⟩ := List.mem_filter.1 he
    exact hall e (by simpa using he) hb
  · obtain ⟨e, he, rfl⟩ := List.mem_map.1 hp
    obtain ⟨he, hb⟩ := List.mem_filter.1 he
    unfold okE at ho
    rw [List.all_eq_true] at ho
    have := ho e he
    rw [Bool.or_eq_true] at this
    rcases this with h | h
    · simp at hb h; exact absurd hb h
    · exact h
theorem bit_listedE (g : GoodR ops conf flg E r ms) {listed : Array Bool} (hcl : ClosedE ops E listed) : ∀ (n j : Nat), r.idxOf j < n → j < ops.size → listed.getD j false = true → ∀ i, (ms.getD j 0).testBit i = true → listed.getD i false = true := by
  intro n
  induction n with
  | zero => intro j hj; omega
  | succ n ih =>
    intro j hj hjs hl i hb
    rw [g.mask j hjs] at hb
    rcases maskE_bit ms i _ _ hb with h0 | ⟨p, hp, hx⟩
    · simp at h0
    · have hon := hcl j hjs hl p hp
      obtain ⟨h1, h2⟩ := g.prec j hjs p hp
      rcases hx with rfl | hx
      · exact hon
      · exact ih p (by omega) h1 hon i hx
theorem ready_bitE (g : GoodR ops conf flg E r ms) {listed : Array Bool} (hcl : ClosedE ops E listed) {j : Nat} (hj : j ∈ Region.ready .any ops listed) (ho : okE E listed j = true) {i : Nat} (hb : (ms.getD j 0).testBit i = true) : listed.getD i false = true := by
  obtain ⟨_, o, hoj, _⟩ := mem_ready.1 hj
  have hjs := (Array.getElem?_eq_some_iff.1 hoj).1
  rw [g.mask j hjs] at hb
  rcases maskE_bit ms i _ _ hb with h0 | ⟨p, hp, hx⟩
  · simp at h0
  · have hon := ready_preds hj ho p hp
    rcases hx with rfl | hx
    · exact hon
    · exact bit_listedE g hcl (r.idxOf p + 1) p (by omega) (g.prec j hjs p hp).1 hon i hx
theorem ClosedE.step {listed : Array Bool} (hcl : ClosedE ops E listed) {j : Nat} (hj : j ∈ Region.ready .any ops listed) (ho : okE E listed j = true) : ClosedE ops E (listed.setIfInBounds j true) := by
  intro k hks hl p hp
  by_cases hkj : j = k
  · subst hkj
    exact getD_set_true (ready_preds hj ho p hp)
  · rw [getD_set_ne false hkj] at hl
    exact getD_set_true (hcl k hks hl p hp)
theorem anyT_first {i : Nat} (g : GoodR ops conf flg E r ms) : ∀ (fuel : Nat) (listed : Array Bool) (a : Act) (w : World),
    ClosedE ops E listed → i ∈ Region.ready .any ops listed → okE E listed i = true → (∀ j, j < ops.size → r.idxOf j < r.idxOf i → listed.getD j true = true) →
    xT P ops blk conf flg i (anyT P ops blk conf flg Q E fuel (listed.setIfInBounds i true)) a w → anyT P ops blk conf flg Q E (fuel + 1) listed a w := by
  intro fuel
  induction fuel with
  | zero =>
    intro listed a w _ hr _ _ h
    refine ⟨fun h0 => (by rw [h0] at hr; cases hr), fun j hj _ => ?_⟩
    by_cases hji : j = i
    · subst hji; exact h
    · obtain ⟨a', w', h1, _⟩ := xT_some h
      have := ready_mono hj hji
      rw [h1] at this; cases this
  | succ fuel ih =>
    intro listed a w hcl hr hri hmin h
    refine ⟨fun h0 => (by rw [h0] at hr; cases hr), fun j hj hoj' => ?_⟩
    by_cases hji : j = i
    · subst hji; exact h
    · obtain ⟨hjun, oj, hoj, _⟩ := mem_ready.1 hj
      obtain ⟨hiun, oi, hoi, _⟩ := mem_ready.1 hr
      have hjs : j < ops.size := (Array.getElem?_eq_some_iff.1 hoj).1
      have his : i < ops.size := (Array.getElem?_eq_some_iff.1 hoi).1
      have hlt : r.idxOf i < r.idxOf j := by
        rcases Nat.lt_trichotomy (r.idxOf i) (r.idxOf j) with h | h | h
        · exact h
        · exact absurd (g.inj his hjs h) (Ne.symm hji)
        · have := hmin j hjs h; rw [hjun] at this; cases this
      have hp : pairOk ops conf flg i j = true := by
        rcases g.pair i j his hjs hlt with h2 | h2
        · have := ready_bitE g hcl hj hoj' h2
          have hisz : i < listed.size := by
            rcases Nat.lt_or_ge i listed.size with h' | h'
            · exact h'
            · simp [Array.getElem?_eq_none h'] at this
          simp [hisz] at this hiun
          rw [hiun] at this; cases this
        · exact h2
      have h1 : xT P ops blk conf flg i (xT P ops blk conf flg j (anyT P ops blk conf flg Q E fuel ((listed.setIfInBounds i true).setIfInBounds j true))) a w :=
        xT_mono (fun a' w' h' => h'.2 j (ready_mono hj hji) (okE_set hoj')) h
      have h1' : xTo P ops blk conf flg i oi (xTo P ops blk conf flg j oj (anyT P ops blk conf flg Q E fuel ((listed.setIfInBounds i true).setIfInBounds j true))) a w := by
        unfold xT at h1; simpa only [hoi, hoj] using h1
      have h2 := xTo_swap hoi hoj (fun cs b => Region.noSelect_spec g.sel i oi cs b hoi) (fun cs b => Region.noSelect_spec g.sel j oj cs b hoj) hp h1'
      have h3 : xT P ops blk conf flg j (xT P ops blk conf flg i (anyT P ops blk conf flg Q E fuel ((listed.setIfInBounds i true).setIfInBounds j true))) a w := by
        unfold xT; simpa only [hoi, hoj] using h2
      refine xT_mono (fun a' w' h' => ?_) h3
      refine ih (listed.setIfInBounds j true) a' w' (hcl.step hj hoj') (ready_mono hr (Ne.symm hji)) (okE_set hri) (fun k hk hk2 => ?_) ?_
      · by_cases hjk : j = k
        · subst hjk; omega
        · rw [getD_set_ne true hjk]; exact hmin k hk hk2
      · rw [Array.setIfInBounds_comm _ _ hji]; exact h'
def wpR (P : Program) (ops : Array Oper) (blk : Nat → Nat) (conf : Nat → List Nat) (flg : List Nat) (Q : Exit → Act → World → Prop) : List Nat → Act → World → Prop
  | [], a, w => Q .normal a w
  | i :: rest, a, w => xT P ops blk conf flg i (wpR P ops blk conf flg Q rest) a w
theorem anyT_order (g : GoodR ops conf flg E r ms) : ∀ (d k : Nat) (listed : Array Bool) (a : Act) (w : World), k + d = ops.size → listed.size = ops.size → (∀ j, j < ops.size → listed.getD j true = decide (r.idxOf j < k)) →
    wpR P ops blk conf flg Q (r.drop k) a w → anyT P ops blk conf flg Q E d listed a w := by
  intro d
  induction d with
  | zero =>
    intro k listed a w hk hs hl h
    rw [List.drop_of_length_le (by rw [g.len]; omega)] at h
    refine ⟨?_, h⟩
    have : ∀ j, j ∉ Region.ready .any ops listed := fun j hj => by
      obtain ⟨h0, o, ho, _⟩ := mem_ready.1 hj
      have hlt := (Array.getElem?_eq_some_iff.1 ho).1
      rw [hl j hlt] at h0
      have := g.has j hlt
      simp at h0; omega
    exact List.eq_nil_iff_forall_not_mem.2 this
  | succ d ih =>
    intro k listed a w hk hs hl h
    have hks : k < r.length := by rw [g.len]; omega
    obtain ⟨i, hi⟩ : ∃ i, r[k] = i := ⟨_, rfl⟩
    have hir : i ∈ r := by rw [← hi]; exact List.getElem_mem hks
    have his : i < ops.size := g.inb i hir
    have hpos : r.idxOf i = k := by
      have := g.uni k (by omega)
      rwa [List.getD_eq_getElem?_getD, List.getElem?_eq_getElem hks, Option.getD_some, hi] at this
    have tf : ∀ j, j < ops.size → listed.getD j false = decide (r.idxOf j < k) := fun j hj => by
      rw [← hl j hj]; simp [show j < listed.size by omega]
    have hpl : ∀ p ∈ predsE ops E i, listed.getD p false = true := fun p hp => by
      obtain ⟨h1, h2⟩ := g.prec i his p hp
      rw [tf p h1]; simp; omega
    rw [List.drop_eq_getElem_cons hks, hi] at h
    simp only [wpR] at h
    refine anyT_first g d listed a w ?_ ?_ ?_ ?_ (i := i) ?_
    · intro j hjs hlj p hp
      rw [tf j hjs] at hlj
      obtain ⟨h1, h2⟩ := g.prec j hjs p hp
      rw [tf p h1]; simp at hlj ⊢; omega
    · refine mem_ready.2 ⟨by rw [hl i his]; simp; omega, ops[i], Array.getElem?_eq_getElem his, fun e he hb => ?_⟩
      refine hpl _ ?_
      unfold predsE
      rw [Array.getElem?_eq_getElem his]
      exact List.mem_append.2 (.inl (List.mem_map.2 ⟨e, List.mem_filter.2 ⟨by simpa using he, hb⟩, rfl⟩))
    · unfold okE
      rw [List.all_eq_true]
      intro p hp
      by_cases e : p.2 = i
      · rw [hpl p.1 (by unfold predsE; exact List.mem_append.2 (.inr (List.mem_map.2 ⟨p, List.mem_filter.2 ⟨hp, by simp [e]⟩, rfl⟩)))]; simp
      · simp [e]
    · intro j hj hjk
      rw [hl j hj]; simp; omega
    · refine xT_mono (fun a' w' h' => ih (k + 1) _ a' w' (by omega) (by simpa using hs) (fun j hj => ?_) h') h
      by_cases hkj : i = j
      · subst hkj; simp [hs, his]; omega
      · rw [getD_set_ne true hkj, hl j hj]
        simp only [decide_eq_decide]
        have : r.idxOf j ≠ k := fun e => hkj (g.inj his hj (by omega))
        omega

/-! ### As a list of operations -/
def pickR (ops : Array Oper) (r : List Nat) : List (Nat × Oper) := r.filterMap fun i => (ops[i]?).map fun o => (i, o)
def wpV (P : Program) (ops : Array Oper) (blk : Nat → Nat) (conf : Nat → List Nat) (flg : List Nat) (Q : Exit → Act → World → Prop) : List (Nat × Oper) → Act → World → Prop
  | [], a, w => Q .normal a w
  | p :: rest, a, w => xTo P ops blk conf flg p.1 p.2 (wpV P ops blk conf flg Q rest) a w
theorem wpR_of_V : ∀ (r : List Nat) (a : Act) (w : World), wpV P ops blk conf flg Q (pickR ops r) a w → wpR P ops blk conf flg Q r a w
  | [], a, w, h => h
  | i :: r, a, w, h => by
    unfold wpR
    unfold pickR at h
    rw [List.filterMap_cons] at h
    cases ho : ops[i]? with
    | none =>
      simp only [ho, Option.map_none] at h
      unfold xT; simp only [ho]
      exact wpR_of_V r a w h
    | some o =>
      simp only [ho, Option.map_some] at h
      unfold xT; simp only [ho]
      exact xTo_mono (fun a w h => wpR_of_V r a w h) h
/-- The region: whatever order. -/
theorem ck_uno {id : Nat} {w0 w : World} {F : List Nat} {L : List Res} {a : Act} (hS : Sep w0 F L w) (hm : P.follows .mixedOrders = true)
    (h : ∀ w', Sep w0 F L w' → anyE P ops Q [] ops.size (Array.replicate ops.size false) a w') : (Code.region id ops true).wp P Q a w :=
  wp_region_any hm (wpAny_of_anyE _ _ _ _ (h w.drew hS.drew))
/-- One order of the acts. -/
theorem ck_order (r : List Nat) (blk : Nat → Nat) (conf : Nat → List Nat) (flg : List Nat) {a : Act} {w : World} (hok : okR ops conf flg E r (masksE ops E r) = true) (h : wpV P ops blk conf flg Q (pickR ops r) a w) : anyE P ops Q E ops.size (Array.replicate ops.size false) a w :=
  anyE_of_anyT _ _ _ _ (anyT_order (okR_good hok) ops.size 0 _ a w (by simp) (by simp) (fun j hj => by simp [hj]) (wpR_of_V _ _ _ h))
end

/-! ### Steps -/
section
variable {P : Program} {ops : Array Oper} {blk : Nat → Nat} {conf : Nat → List Nat} {flg : List Nat} {Q : Exit → Act → World → Prop} {rest : List (Nat × Oper)} {w w0 : World} {F : List Nat} {L L' : List Res} {o : Oper} {a : Act} {i b off n : Nat} {cs vs : List Value} {T t : TypeId} {fz : Nat × Nat} {v : Value} {x y : Operand}
theorem wpV_nil (h : Q .normal a w) : wpV P ops blk conf flg Q [] a w := h
theorem wpV_skip (hw : Region.wanted o (yielded ops a.tmps) = false) (h : wpV P ops blk conf flg Q rest (a.put o.dst undef) w) : wpV P ops blk conf flg Q ((i, o) :: rest) a w := by
  unfold wpV xTo
  split
  · exact ⟨undef, w, .inl ⟨hw, rfl, rfl⟩, fun _ _ => rfl, h⟩
  · exact ⟨undef, none, fun _ => rfl, (fun b hb => by cases hb), .inl ⟨hw, rfl⟩, h⟩
theorem wpV_pure (hc : ckCls o = 0) (hw : Region.wanted o (yielded ops a.tmps) = true) (hr : ∀ w', (execOp a.eval o).run P w' = .ok (.value v) w') (h : wpV P ops blk conf flg Q rest (a.put o.dst v) w) : wpV P ops blk conf flg Q ((i, o) :: rest) a w := by
  unfold wpV xTo
  rw [if_neg (by simp only; omega)]
  exact ⟨v, none, fun _ => rfl, (fun b hb => by cases hb), .inr ⟨hw, fun w' _ => hr w'⟩, h⟩
theorem wpV_ld {A : Addr} (hc : ckCls o = 1) (hw : Region.wanted o (yielded ops a.tmps) = true) (hb : i ∈ flg → b = blk i) (hr : ∀ w', w'.heap[b]? = w.heap[b]? → (execOp a.eval o).run P w' = .ok (.value v) w') (h : wpV P ops blk conf flg Q rest (a.put o.dst v) w) : wpV P ops blk conf flg Q ((i, o) :: rest) a w := by
  unfold wpV xTo
  rw [if_neg (by simp only; omega)]
  exact ⟨v, some b, fun h0 => by simp only at h0; omega, fun c hc hi => by cases hc; exact hb hi, .inr ⟨hw, fun w' hw' => hr w' (hw' b rfl)⟩, h⟩
theorem wpV_val {w' : World} (hc : ckCls o = 2) (hw : Region.wanted o (yielded ops a.tmps) = true) (hr : (execOp a.eval o).run P w = .ok (.value v) w') (hcf : ∀ j ∈ conf i, w'.heap[blk j]? = w.heap[blk j]?) (h : wpV P ops blk conf flg Q rest (a.put o.dst v) w') : wpV P ops blk conf flg Q ((i, o) :: rest) a w := by
  unfold wpV xTo
  rw [if_pos hc]
  exact ⟨v, w', .inr ⟨hw, .inl hr⟩, hcf, h⟩
theorem wpV_skp {w' : World} (hc : ckCls o = 2) (hw : Region.wanted o (yielded ops a.tmps) = true) (hr : (execOp a.eval o).run P w = .ok .skip w') (hcf : ∀ j ∈ conf i, w'.heap[blk j]? = w.heap[blk j]?) (h : wpV P ops blk conf flg Q rest (a.put o.dst undef) w') : wpV P ops blk conf flg Q ((i, o) :: rest) a w := by
  unfold wpV xTo
  rw [if_pos hc]
  exact ⟨undef, w', .inr ⟨hw, .inr ⟨hr, rfl⟩⟩, hcf, h⟩
theorem ckV_max {u : TypeId} {k : IntKind} {p q : Int} (ho : o.op = .call { callee := .builtin .max, args := #[x, y], argTypes := #[t, u] }) (hw : Region.wanted o (yielded ops a.tmps) = true) (hx : a.eval x = .int k p) (hy : a.eval y = .int k q)
    (h : wpV P ops blk conf flg Q rest (a.put o.dst (.int k (max p q))) w) : wpV P ops blk conf flg Q ((i, o) :: rest) a w := wpV_pure (by unfold ckCls; rw [ho]) hw (run_max2 p q ho hx hy) h
theorem ckV_min {u : TypeId} {k : IntKind} {p q : Int} (ho : o.op = .call { callee := .builtin .min, args := #[x, y], argTypes := #[t, u] }) (hw : Region.wanted o (yielded ops a.tmps) = true) (hx : a.eval x = .int k p) (hy : a.eval y = .int k q)
    (h : wpV P ops blk conf flg Q rest (a.put o.dst (.int k (min p q))) w) : wpV P ops blk conf flg Q ((i, o) :: rest) a w := wpV_pure (by unfold ckCls; rw [ho]) hw (run_min2 p q ho hx hy) h
theorem ckV_load (hS : Sep w0 F L w) (ho : o.op = .load t x) (hw : Region.wanted o (yielded ops a.tmps) = true) (hx : a.eval x = .pointer (some ⟨b, off, none⟩)) (hb : i ∈ flg → b = blk i) (hm : pts b cs T ∈ L) (hv : cs[off]? = some v) (ht : ckScalar P t = true)
    (h : wpV P ops blk conf flg Q rest (a.put o.dst v) w) : wpV P ops blk conf flg Q ((i, o) :: rest) a w :=
  wpV_ld (A := ⟨b, off, none⟩) (by unfold ckCls; rw [ho]) hw hb (fun w' hw' => exec_load ho hx (run_load1 ht (hw'.trans (hS.holds _ hm)) hv)) h
theorem ckV_store (hS : Sep w0 F L w) (ho : o.op = .store t x y) (hw : Region.wanted o (yielded ops a.tmps) = true) (hx : a.eval x = .pointer (some ⟨b, off, none⟩)) (hy : Wh (a.eval y) v) (hu : Upd L (pts b cs T) (pts b (cs.set off v) T) L') (hl : off < cs.length) (hv : v.oneCell' = true) (ht : ckSize P t 1 = true)
    (hcf : ∀ j ∈ conf i, blk j ≠ b) (h : ∀ w', Sep w0 F L' w' → wpV P ops blk conf flg Q rest (a.put o.dst undef) w') : wpV P ops blk conf flg Q ((i, o) :: rest) a w :=
  wpV_skp (by unfold ckCls; rw [ho]) hw (exec_store ho hx hy.eq (run_store1 ht hv (hS.holds _ hu.mem) hl)) (fun j hj => Below.heap_setCell w _ v _ (hcf j hj)) (h _ (hS.setCell v hu))
theorem ckV_alloc (hS : Sep w0 F L w) (ho : o.op = .alloc t) (hw : Region.wanted o (yielded ops a.tmps) = true) (hz : (P.info? t).bind (·.zero) = some v) (hc : v.cells = cs.toArray) (hcf : ∀ j ∈ conf i, blk j < w.heap.size)
    (h : ∀ nb w', Sep w0 F (pts nb cs t :: L) w' → wpV P ops blk conf flg Q rest (a.put o.dst (.pointer (some ⟨nb, 0, none⟩))) w') : wpV P ops blk conf flg Q ((i, o) :: rest) a w :=
  wpV_val (by unfold ckCls; rw [ho]) hw (by rw [exec_alloc ho hz, hc]) (fun j hj => Below.heap_alloc w _ _ (hcf j hj)) (h _ _ (hS.alloc _ _))
end
end Go.Proofs.YtcegknecikbbkaaGreat

/- Slices that somebody owns: their rows, what is appended to them. -/
set_option linter.unusedVariables false
set_option linter.unusedSimpArgs false
namespace Go.Proofs.YtcegknecikbbkaaGreat
open Go.RowKit

section
variable {w0 w w' : World} {F : List Nat} {L L' L0 : List Res} {r r' : Res} {P : Program}
/-- One resource, taken out of the list. -/
inductive Rem : List Res → Res → List Res → Prop
  | here (r : Res) (L : List Res) : Rem (r :: L) r L
  | there (s r : Res) (L L' : List Res) : Rem L r L' → Rem (s :: L) r (s :: L')
theorem rH (r : Res) (L : List Res) : Rem (r :: L) r L := .here r L
theorem rT {s r : Res} {L L' : List Res} (h : Rem L r L') : Rem (s :: L) r (s :: L') := .there s r L L' h
theorem Rem.perm (h : Rem L r L') : L.Perm (r :: L') := by
  induction h with
  | here r L => exact .refl _
  | there s r L L' _ ih => exact (ih.cons s).trans (.swap _ _ _)
theorem Sep.bring (h : Sep w0 F L w) (hr : Rem L r L') : Sep w0 F (r :: L') w := h.perm hr.perm
theorem Sep.alike (h : Sep w0 F (r :: L) w) (hf : r'.fp = r.fp) (hh : r.holds w → r'.holds w) : Sep w0 F (r' :: L) w := by
  have e : fps (r' :: L) = fps (r :: L) := by rw [fps_cons, fps_cons, hf]
  exact ⟨h.os, h.tape, h.output, h.size, h.frame, e ▸ h.nodup, fun b hb => h.own b (e ▸ hb), fun s hs => by
    rcases List.mem_cons.1 hs with rfl | hs
    · exact hh (h.holds r (by simp))
    · exact h.holds s (by simp [hs])⟩
theorem Sep.addNil (h : Sep w0 F L w) (hf : r.fp = []) (hh : r.holds w) : Sep w0 F (r :: L) w := by
  have e : fps (r :: L) = fps L := by rw [fps_cons, hf]; rfl
  exact ⟨h.os, h.tape, h.output, h.size, h.frame, e ▸ h.nodup, fun b hb => h.own b (e ▸ hb), fun s hs => by
    rcases List.mem_cons.1 hs with rfl | hs
    · exact hh
    · exact h.holds s hs⟩

/-- A slice's row: its elements, and room behind them. -/
def rowR (a : Option Addr) (n cap : Nat) (e : TypeId) (sz : Nat) (xs : List Value) : Res :=
  match a with
  | none => ⟨[], fun _ => n = 0 ∧ cap = 0 ∧ xs = [], fun _ _ _ h => h⟩
  | some A => ⟨[A.block], fun w => A.off = 0 ∧ A.spot = none ∧ xs.length = n * sz ∧ n ≤ cap ∧ cap ≤ maxLen ∧ ∃ rest : List Value, (xs ++ rest).length = cap * sz ∧ w.heap[A.block]? = some (.cells (xs ++ rest).toArray e (0, 0)),
    fun w w' h hh => by
      obtain ⟨h1, h2, h3, h4, h5, rest, h6, h7⟩ := hh
      exact ⟨h1, h2, h3, h4, h5, rest, h6, (h _ (by simp)).trans h7⟩⟩

theorem Sep.openRow {a : Option Addr} {n cap : Nat} {e : TypeId} {sz : Nat} {xs : List Value} (h : Sep w0 F (rowR a n cap e sz xs :: L) w) :
    (a = none ∧ n = 0 ∧ cap = 0 ∧ xs = [] ∧ Sep w0 F L w) ∨ ∃ (g : Nat) (rest : List Value), a = some ⟨g, 0, none⟩ ∧ xs.length = n * sz ∧ n ≤ cap ∧ cap ≤ maxLen ∧ (xs ++ rest).length = cap * sz ∧ Sep w0 F (pts g (xs ++ rest) e :: L) w := by
  cases a with
  | none =>
    obtain ⟨h1, h2, h3⟩ := h.holds _ (List.mem_cons_self ..)
    exact .inl ⟨rfl, h1, h2, h3, h.drop⟩
  | some A =>
    obtain ⟨h1, h2, h3, h4, h5, rest, h6, h7⟩ := h.holds _ (List.mem_cons_self ..)
    obtain ⟨g, o, s⟩ := A
    obtain rfl : o = 0 := h1
    obtain rfl : s = none := h2
    exact .inr ⟨g, rest, rfl, h3, h4, h5, h6, h.alike (r' := pts g (xs ++ rest) e) rfl fun _ => h7⟩
theorem Sep.shutRow {g n cap : Nat} {e : TypeId} {sz : Nat} {xs rest : List Value} (h : Sep w0 F (pts g (xs ++ rest) e :: L) w) (h3 : xs.length = n * sz) (h4 : n ≤ cap) (h5 : cap ≤ maxLen) (h6 : (xs ++ rest).length = cap * sz) :
    Sep w0 F (rowR (some ⟨g, 0, none⟩) n cap e sz xs :: L) w := h.alike (r' := rowR (some ⟨g, 0, none⟩) n cap e sz xs) rfl fun hh => ⟨rfl, rfl, h3, h4, h5, rest, h6, hh⟩
theorem Sep.shut {g n cap : Nat} {e : TypeId} {sz : Nat} {cs : List Value} (h : Sep w0 F (pts g cs e :: L) w) (xs rest : List Value) (hcs : cs = xs ++ rest) (h3 : xs.length = n * sz) (h4 : n ≤ cap) (h5 : cap ≤ maxLen) (h6 : cs.length = cap * sz) :
    Sep w0 F (rowR (some ⟨g, 0, none⟩) n cap e sz xs :: L) w := by subst hcs; exact h.shutRow h3 h4 h5 h6
theorem Sep.nilRow {e : TypeId} {sz : Nat} (h : Sep w0 F L w) : Sep w0 F (rowR none 0 0 e sz [] :: L) w := h.addNil rfl ⟨rfl, rfl, rfl⟩

/-! ### Some resources as one -/
def grpR (l : List Res) : Res := ⟨fps l, fun w => ∀ r ∈ l, r.holds w, fun w w' h hh r hr => r.loc w w' (fun b hb => h b (List.mem_flatMap.2 ⟨r, hr, hb⟩)) (hh r hr)⟩
theorem Sep.grp {l : List Res} : Sep w0 F (l ++ L) w ↔ Sep w0 F (grpR l :: L) w := by
  have e : fps (grpR l :: L) = fps (l ++ L) := by rw [fps_cons, fps_append]; rfl
  constructor
  · intro h
    exact ⟨h.os, h.tape, h.output, h.size, h.frame, e ▸ h.nodup, fun b hb => h.own b (e ▸ hb), fun s hs => by
      rcases List.mem_cons.1 hs with rfl | hs
      · exact fun r hr => h.holds r (by simp [hr])
      · exact h.holds s (by simp [hs])⟩
  · intro h
    exact ⟨h.os, h.tape, h.output, h.size, h.frame, e ▸ h.nodup, fun b hb => h.own b (e ▸ hb), fun s hs => by
      rcases List.mem_append.1 hs with hs | hs
      · exact h.holds (grpR l) (by simp) s hs
      · exact h.holds s (by simp [hs])⟩
theorem Ct.grp {α : Type} {f : FuncId} {args : Array Value} {pre : List Res} {v0 : Value} {l : α → List Res} (h : Ct P f args pre (fun v L => v = v0 ∧ ∃ A, L = l A)) : Ct P f args [grpR pre] (fun v L => v = v0 ∧ ∃ A, L = [grpR (l A)]) :=
  fun w0 F L w hS => (h w0 F L w (Sep.grp.2 hS)).mono fun e w' hr => by
    cases e with
    | returned v =>
      obtain ⟨L', ⟨hv, A, rfl⟩, hs⟩ := hr
      exact ⟨_, ⟨hv, A, rfl⟩, Sep.grp.1 hs⟩
    | panicked c => exact hr.elim
    | outgrown => exact hr.elim
/-- A call that owns one thing, and leaves one of a kind in its stead. -/
theorem Ct.callE {α : Type} {f : FuncId} {args : Array Value} {r : Res} {r' : α → Res} {v0 : Value} (h : Ct P f args [r] (fun v L => v = v0 ∧ ∃ A, L = [r' A])) (hr : Rem L r L0) (hS : Sep w0 F L w)
    {R : Ending → World → Prop} (hR : ∀ A w', Sep w0 F (r' A :: L0) w' → R (.returned v0) w') : Calls P f args w R :=
  Ct.call (L := L0) h (hS.bring hr) fun v L' w' hp hs => by
    obtain ⟨rfl, A, rfl⟩ := hp
    exact hR A w' hs

/-! ### append -/
def ckSlice (P : Program) (t e : TypeId) (sz : Nat) : Bool := match P.underlying t, P.info? e with
  | some (.slice e'), some i => e' == e && i.size == sz && decide (i.bytes ≤ 1024) && (match i.zero with | some z => z.cells.size == sz | none => false)
  | _, _ => false
theorem ckSlice.out {t e : TypeId} {sz : Nat} (h : ckSlice P t e sz = true) : P.underlying t = some (.slice e) ∧ ∃ i z, P.info? e = some i ∧ i.zero = some z ∧ i.size = sz ∧ i.bytes ≤ 1024 ∧ z.cells.size = sz := by
  unfold ckSlice at h
  cases hu : P.underlying t with
  | none => simp [hu] at h
  | some d =>
    cases d <;> simp [hu] at h
    cases hi : P.info? e with
    | none => simp [hi] at h
    | some i =>
      cases hz : i.zero with
      | none => simp [hi, hz] at h
      | some z =>
        simp [hi, hz] at h
        exact ⟨by rw [h.1.1.1], i, z, rfl, hz, h.1.1.2, h.1.2, h.2⟩

variable {t e : TypeId} {sz g q n m cap c : Nat} {xs news rest : List Value}
theorem pts_cells {cs : List Value} {T : TypeId} (h : (pts q cs T).holds w) : ∀ j u, cs[j]? = some u → w.cell? ((⟨q, 0, none⟩ : Addr).add j) = some u := fun j u hu => by
  have hadd : (⟨q, 0, none⟩ : Addr).add j = ⟨q, j, none⟩ := by unfold Addr.add; split <;> simp_all
  rw [hadd]; exact pts_cell h hu
theorem take_add {α : Type} (xs rest : List α) (k : Nat) (h : xs.length = k) : (xs ++ rest).take k = xs ∧ ∀ d, (xs ++ rest).drop (k + d) = rest.drop d := by
  subst h
  exact ⟨by simp, fun d => by simp [List.drop_append]⟩

/-- To nothing. -/
theorem append_nil (hS : Sep w0 F L w) (ht : ckSlice P t e sz = true) (hm : pts q news e ∈ L) (hl : news.length = m * sz) (h0 : 0 < m) (hsm : m ≤ 1000000000) (ty : TypeId) :
    ∃ (gr : Nat) (rest : List Value) (w' : World), (Builtin.append_ #[t, t] ty #[.slice none 0 0, .slice (some ⟨q, 0, none⟩) m c]).run P w = .ok (.slice (some ⟨w.heap.size, 0, none⟩) m gr) w' ∧ m ≤ gr ∧ gr ≤ maxLen ∧ (news ++ rest).length = gr * sz ∧ Sep w0 F (pts w.heap.size (news ++ rest) e :: L) w' := by
  obtain ⟨hu, i, z, hi, hz, hs, hb, hzs⟩ := ckSlice.out ht
  have hp : m * i.bytes ≤ 1000000000 * 1024 := Nat.mul_le_mul hsm hb
  refine ⟨_, (Builtin.zeroCells z.cells (grownCap w m 0 e - m)).toList, _, run_append_nil w t ty e i z hu hi hz ⟨q, 0, none⟩ m c news (by rw [hs]; exact hl) (pts_cells (hS.holds _ hm)) h0 (by omega) (by omega), grownCap_ge _ _ _ _, grownCap_le_maxLen _ _ _ _ (by unfold maxLen; omega), ?_, ?_⟩
  · have hge := grownCap_ge w m 0 e
    simp only [List.length_append, hl, Array.length_toList, size_zeroCells, hzs, ← Nat.add_mul]
    congr 1; omega
  · have := hS.drew.alloc (news ++ (Builtin.zeroCells z.cells (grownCap w m 0 e - m)).toList) e
    have e1 : (news ++ (Builtin.zeroCells z.cells (grownCap w m 0 e - m)).toList).toArray = news.toArray ++ Builtin.zeroCells z.cells (grownCap w m 0 e - m) := by
      apply Array.ext'; simp
    rw [e1] at this
    exact this

/-- To a row. -/
theorem append_row (hS : Sep w0 F L w) (hr : Rem L (pts g (xs ++ rest) e) L0) (ht : ckSlice P t e sz = true) (hm : pts q news e ∈ L0) (hl : news.length = m * sz) (h1 : ∀ u ∈ news, u.oneCell' = true) (hx : xs.length = n * sz) (hc : (xs ++ rest).length = cap * sz) (hn : n ≤ cap) (hcm : cap ≤ maxLen) (hsm : n + m ≤ 1000000000) (ty : TypeId) :
    ∃ (g' cap' : Nat) (rest' : List Value) (w' : World), (Builtin.append_ #[t, t] ty #[.slice (some ⟨g, 0, none⟩) n cap, .slice (some ⟨q, 0, none⟩) m c]).run P w = .ok (.slice (some ⟨g', 0, none⟩) (n + m) cap') w' ∧ n + m ≤ cap' ∧ cap' ≤ maxLen ∧ ((xs ++ news) ++ rest').length = cap' * sz ∧ Sep w0 F (pts g' ((xs ++ news) ++ rest') e :: L0) w' := by
  have hS1 := hS.bring hr
  obtain ⟨hu, i, z, hi, hz, hs, hb, hzs⟩ := ckSlice.out ht
  have hg : (pts g (xs ++ rest) e).holds w := hS1.holds _ (by simp)
  have hq : (pts q news e).holds w := hS1.holds _ (by simp [hm])
  by_cases hroom : n + m ≤ cap
  · have hle : n * sz + m * sz ≤ cap * sz := by rw [← Nat.add_mul]; exact Nat.mul_le_mul_right _ hroom
    refine ⟨g, cap, rest.drop (m * sz), _, run_append_room w t ty e i hu hi g n cap _ hg ⟨q, 0, none⟩ m c news (by rw [hs]; exact hl) (pts_cells hq) h1 hroom (by simp only [List.size_toArray]; rw [hc, hs, hl]; exact hle), hroom, hcm, ?_, ?_⟩
    · have hrl : xs.length + rest.length = cap * sz := by rw [← hc, List.length_append]
      simp only [List.length_append, List.length_drop, hl]; omega
    · have e1 : ((xs ++ rest).toArray.toList.take (n * i.size) ++ news ++ (xs ++ rest).toArray.toList.drop (n * i.size + news.length)) = (xs ++ news) ++ rest.drop (m * sz) := by
        obtain ⟨t1, t2⟩ := take_add xs rest (n * i.size) (by rw [hs]; exact hx)
        show (xs ++ rest).take (n * i.size) ++ news ++ (xs ++ rest).drop (n * i.size + news.length) = _
        rw [t1, t2, hl]
      rw [e1]
      exact hS1.setRow _ (.here _ _ _)
  · have hbig : Builtin.nextslicecap (n + m) cap * i.bytes ≤ 281474976710656 := by
      have h2 := nextslicecap_le (need := n + m) (old := cap) (by omega)
      have : Builtin.nextslicecap (n + m) cap * i.bytes ≤ (2 * 1000000000) * 1024 := Nat.mul_le_mul (by omega) hb
      omega
    refine ⟨w.heap.size, _, (Builtin.zeroCells z.cells (grownCap w (n + m) cap e - (n + m))).toList, _, run_append_grow w t ty e i z hu hi hz ⟨g, 0, none⟩ n cap xs (by rw [hs]; exact hx) (fun j v hv => pts_cells hg j v (by rw [List.getElem?_append_left (List.getElem?_eq_some_iff.1 hv).1]; exact hv)) ⟨q, 0, none⟩ m c news (by rw [hs]; exact hl) (pts_cells hq) (by omega) (by omega) hbig, grownCap_ge _ _ _ _, grownCap_le_maxLen _ _ _ _ (by unfold maxLen; omega), ?_, ?_⟩
    · have hge := grownCap_ge w (n + m) cap e
      simp only [List.length_append, hx, hl, Array.length_toList, size_zeroCells, hzs, ← Nat.add_mul]
      congr 1; omega
    · have h3 := hS1.drew.alloc ((xs ++ news) ++ (Builtin.zeroCells z.cells (grownCap w (n + m) cap e - (n + m))).toList) e
      have e1 : ((xs ++ news) ++ (Builtin.zeroCells z.cells (grownCap w (n + m) cap e - (n + m))).toList).toArray = xs.toArray ++ news.toArray ++ Builtin.zeroCells z.cells (grownCap w (n + m) cap e - (n + m)) := by
        apply Array.ext'; simp
      rw [e1] at h3
      exact (h3.perm (.swap _ _ _)).drop
end

section
variable {P : Program} {w w0 : World} {F : List Nat} {L L0 : List Res} {ops : Array Oper} {Q : Exit → Act → World → Prop} {restO : List Oper} {o : Oper} {a : Act} {t e : TypeId} {sz g q n m cap c : Nat} {xs news rest cs : List Value} {x y : Operand} {v : Value}
theorem exec_append (ho : o.op = .call { callee := .builtin .append, args := #[x, y], argTypes := #[t, t] }) {vx vy v : Value} {w' : World} (hx : a.eval x = vx) (hy : a.eval y = vy) (h : ∀ ty, (Builtin.append_ #[t, t] ty #[vx, vy]).run P w = .ok v w') : (execOp a.eval o).run P w = .ok (.value v) w' := by
  unfold execOp
  simp [ho, resolve, invoke, builtin, hx, hy, h, Result.andThen, Sem.run_bind]
theorem ck_append_nil (hS : Sep w0 F L w) (ho : o.op = .call { callee := .builtin .append, args := #[x, y], argTypes := #[t, t] }) (hw : Region.wanted o (yielded ops a.tmps) = true) (hx : a.eval x = .slice none 0 0) (hy : a.eval y = .slice (some ⟨q, 0, none⟩) m c)
    (hm : pts q news e ∈ L) (ht : ckSlice P t e sz = true) (hl : news.length = m * sz) (h0 : 0 < m) (hsm : m ≤ 1000000000)
    (h : ∀ (g cap : Nat) (rest : List Value) (w' : World), m ≤ cap → cap ≤ maxLen → (news ++ rest).length = cap * sz → Sep w0 F (pts g (news ++ rest) e :: L) w' → wpList P ops Q restO (a.put o.dst (.slice (some ⟨g, 0, none⟩) m cap)) w') : wpList P ops Q (o :: restO) a w := by
  obtain ⟨gr, rest, w', hrun, h1, h2, h3, h4⟩ := append_nil (c := c) hS ht hm hl h0 hsm 0
  have hrun' : ∀ ty, (Builtin.append_ #[t, t] ty #[.slice none 0 0, .slice (some ⟨q, 0, none⟩) m c]).run P w = .ok (.slice (some ⟨w.heap.size, 0, none⟩) m gr) w' := fun _ => hrun
  exact wpList_val hw (exec_append ho hx hy hrun') (h _ _ _ _ h1 h2 h3 h4)
theorem ck_append (hS : Sep w0 F L w) (ho : o.op = .call { callee := .builtin .append, args := #[x, y], argTypes := #[t, t] }) (hw : Region.wanted o (yielded ops a.tmps) = true) (hx : a.eval x = .slice (some ⟨g, 0, none⟩) n cap) (hy : a.eval y = .slice (some ⟨q, 0, none⟩) m c)
    (hr : Rem L (pts g (xs ++ rest) e) L0) (hm : pts q news e ∈ L0) (ht : ckSlice P t e sz = true) (hl : news.length = m * sz) (hone : news.all (·.oneCell') = true) (hxs : xs.length = n * sz) (hc : (xs ++ rest).length = cap * sz) (hn : n ≤ cap) (hcm : cap ≤ maxLen) (hsm : n + m ≤ 1000000000)
    (h : ∀ (g' cap' : Nat) (rest' : List Value) (w' : World), n + m ≤ cap' → cap' ≤ maxLen → ((xs ++ news) ++ rest').length = cap' * sz → Sep w0 F (pts g' ((xs ++ news) ++ rest') e :: L0) w' → wpList P ops Q restO (a.put o.dst (.slice (some ⟨g', 0, none⟩) (n + m) cap')) w') : wpList P ops Q (o :: restO) a w := by
  obtain ⟨g', cap', rest', w', hrun, h1, h2, h3, h4⟩ := append_row (c := c) hS hr ht hm hl (fun u hu => List.all_eq_true.1 hone u hu) hxs hc hn hcm hsm 0
  have hrun' : ∀ ty, (Builtin.append_ #[t, t] ty #[.slice (some ⟨g, 0, none⟩) n cap, .slice (some ⟨q, 0, none⟩) m c]).run P w = .ok (.slice (some ⟨g', 0, none⟩) (n + m) cap') w' := fun _ => hrun
  exact wpList_val hw (exec_append ho hx hy hrun') (h _ _ _ _ h1 h2 h3 h4)
/-! ### On a row, as it is -/
theorem Sep.rowSome {a : Option Addr} {n cap : Nat} (hS : Sep w0 F L w) (hm : rowR a n cap e sz xs ∈ L) (h0 : 0 < n) : ∃ g, a = some ⟨g, 0, none⟩ := by
  have h := hS.holds _ hm
  cases a with
  | none => obtain ⟨h1, _⟩ := h; omega
  | some A =>
    obtain ⟨h1, h2, _⟩ := h
    obtain ⟨g, o, s⟩ := A
    obtain rfl : o = 0 := h1
    obtain rfl : s = none := h2
    exact ⟨g, rfl⟩
theorem Sep.rowFacts {a : Option Addr} {n cap : Nat} (hS : Sep w0 F L w) (hm : rowR a n cap e sz xs ∈ L) : xs.length = n * sz ∧ n ≤ cap ∧ cap ≤ maxLen := by
  have h := hS.holds _ hm
  cases a with
  | none => obtain ⟨rfl, rfl, rfl⟩ := h; exact ⟨by simp, by omega, by unfold maxLen; omega⟩
  | some A => obtain ⟨_, _, h3, h4, h5, _⟩ := h; exact ⟨h3, h4, h5⟩
theorem ck_loadRow {i : Nat} (hS : Sep w0 F L w) (ho : o.op = .load t x) (hw : Region.wanted o (yielded ops a.tmps) = true) (hx : a.eval x = .pointer (some ⟨g, i, none⟩)) (hm : rowR (some ⟨g, 0, none⟩) n cap e sz xs ∈ L) (hv : xs[i]? = some v) (ht : ckScalar P t = true)
    (h : wpList P ops Q restO (a.put o.dst v) w) : wpList P ops Q (o :: restO) a w := by
  obtain ⟨_, _, _, _, _, rest, _, hh⟩ := hS.holds _ hm
  refine wpList_val hw (exec_load ho hx (run_load1 (cs := xs ++ rest) ht hh ?_)) h
  rw [List.getElem?_append_left (List.getElem?_eq_some_iff.1 hv).1]; exact hv
theorem ck_storeRow {i : Nat} {L' : List Res} (hS : Sep w0 F L w) (ho : o.op = .store t x y) (hw : Region.wanted o (yielded ops a.tmps) = true) (hx : a.eval x = .pointer (some ⟨g, i, none⟩)) (hy : Wh (a.eval y) v) (hu : Upd L (rowR (some ⟨g, 0, none⟩) n cap e sz xs) (rowR (some ⟨g, 0, none⟩) n cap e sz (xs.set i v)) L') (hl : i < xs.length) (hv : v.oneCell' = true) (ht : ckSize P t 1 = true)
    (h : ∀ w', Sep w0 F L' w' → wpList P ops Q restO (a.put o.dst undef) w') : wpList P ops Q (o :: restO) a w := by
  obtain ⟨A, B, rfl, rfl⟩ := hu.split
  have h1 : Sep w0 F (rowR (some ⟨g, 0, none⟩) n cap e sz xs :: (A ++ B)) w := hS.perm List.perm_middle
  rcases h1.openRow with ⟨h0, _⟩ | ⟨g', rest, h0, h3, h4, h5, h6, h7⟩
  · cases h0
  · injection h0 with h0; injection h0 with h0 _ _; subst h0
    have hp : (pts g (xs ++ rest) e).holds w := h7.holds _ (by simp)
    refine wpList_skp hw (exec_store ho hx hy.eq (run_store1 (cs := xs ++ rest) ht hv hp (by rw [List.length_append]; omega))) (h _ ?_)
    have h8 := h7.setCell (off := i) v (.here _ _ _)
    have h9 := h8.shut (n := n) (cap := cap) (sz := sz) (xs.set i v) rest (by rw [List.set_append_left _ _ hl]) (by simpa using h3) h4 h5 (by simpa using h6)
    exact h9.perm List.perm_middle.symm
theorem ck_appendRow {ad : Option Addr} (hS : Sep w0 F L w) (ho : o.op = .call { callee := .builtin .append, args := #[x, y], argTypes := #[t, t] }) (hw : Region.wanted o (yielded ops a.tmps) = true) (hx : a.eval x = .slice ad n cap) (hy : a.eval y = .slice (some ⟨q, 0, none⟩) m c)
    (hr : Rem L (rowR ad n cap e sz xs) L0) (hm : pts q news e ∈ L0) (ht : ckSlice P t e sz = true) (hl : news.length = m * sz) (hone : news.all (·.oneCell') = true) (h0 : 0 < m) (hsm : n + m ≤ 1000000000)
    (h : ∀ (g' cap' : Nat) (w' : World), Sep w0 F (rowR (some ⟨g', 0, none⟩) (n + m) cap' e sz (xs ++ news) :: L0) w' → wpList P ops Q restO (a.put o.dst (.slice (some ⟨g', 0, none⟩) (n + m) cap')) w') : wpList P ops Q (o :: restO) a w := by
  rcases (hS.bring hr).openRow with ⟨rfl, rfl, rfl, rfl, hS1⟩ | ⟨g', rest, rfl, h3, h4, h5, h6, hS1⟩
  · refine ck_append_nil hS1 ho hw hx hy hm ht hl h0 (by omega) fun g cap' rest w' k1 k2 k3 k4 => ?_
    have k5 := k4.shut (n := m) (cap := cap') (sz := sz) news rest rfl hl k1 k2 k3
    have := h g cap' w' (by rw [Nat.zero_add, List.nil_append]; exact k5)
    rw [Nat.zero_add] at this; exact this
  · refine ck_append hS1 ho hw hx hy (.here _ _) hm ht hl hone h3 h6 h4 h5 hsm fun g cap' rest' w' k1 k2 k3 k4 => ?_
    exact h g cap' w' (k4.shut (n := n + m) (cap := cap') (sz := sz) (xs ++ news) rest' rfl (by rw [List.length_append, h3, hl, Nat.add_mul]) k1 k2 k3)
theorem set_one (f : Nat → Value) (v : Value) : ((Array.range 1).map f).setIfInBounds 0 v = #[v] :=
  Array.ext (by simp) (fun i h1 h2 => by
    have : i = 0 := by simp at h2; omega
    subst this; simp)
/-- A slice of one element that is one cell. -/
theorem ck_build1 (hS : Sep w0 F L w) (ho : o.op = .buildSlice t 1 #[(0, y)]) (hw : Region.wanted o (yielded ops a.tmps) = true) (hy : Wh (a.eval y) v) (hv : v.oneCell' = true) (ht : ckSlice P t e 1 = true)
    (h : ∀ (q : Nat) (w' : World), Sep w0 F (pts q [v] e :: L) w' → wpList P ops Q restO (a.put o.dst (.slice (some ⟨q, 0, none⟩) 1 1)) w') : wpList P ops Q (o :: restO) a w := by
  obtain ⟨hu, i, z, hi, hz, hs, hb, hzs⟩ := ckSlice.out ht
  have hrun : (execOp a.eval o).run P w = .ok (.value (.slice (some ⟨w.heap.size, 0, none⟩) 1 1)) (w.alloc (.cells #[v] e)) := by
    have hvc : v.cells = #[v] := by cases v <;> first | rfl | simp [Value.oneCell'] at hv
    unfold execOp
    simp [ho, Instr.buildSlice, run_underlying hu, sizeOf, typeInfo, hi, hs, zeroValue, hz, Instr.fill, hy.eq, hvc, hzs, newRow, Result.andThen, Sem.run_bind, set_one]
  exact wpList_val hw hrun (h _ _ (hS.alloc [v] e))
end
end Go.Proofs.YtcegknecikbbkaaGreat

/- Functions that are ranged over: what an iterator gives, whoever its yield is; a range over one, as a step over resources. -/
set_option linter.unusedVariables false
set_option linter.unusedSimpArgs false
namespace Go.Proofs.YtcegknecikbbkaaGreat
open Go.RowKit

section
variable {P : Program} {w0 w w' : World} {F : List Nat} {L L' L0 : List Res} {r r' : Res}
/-- A block that holds no cells. -/
def objR (b : Nat) (o : Obj) : Res := ⟨[b], fun w => w.heap[b]? = some o, fun w w' h hh => (h b (by simp)).trans hh⟩
theorem Sep.newObj (h : Sep w0 F L w) (o : Obj) : Sep w0 F (objR w.heap.size o :: L) (w.alloc o) := by
  refine h.new rfl rfl rfl (by simp) (fun i hi => Below.heap_alloc w _ i hi) (by simp [objR]) (fun b hb => ?_) ?_
  · have : b = w.heap.size := by simpa [objR] using hb
    subst this; simp
  · show (w.heap.push _)[w.heap.size]? = _
    simp
theorem Sep.putObj {b : Nat} {o o' : Obj} (h : Sep w0 F L w) (hu : Upd L (objR b o) (objR b o') L') : Sep w0 F L' (w.putObj b o') := by
  have hl : w.heap[b]? = some o := h.holds _ hu.mem
  refine h.upd hu rfl rfl rfl (by simp) (fun i hi hn => World.putObj_heap_other (by simpa [objR] using hn)) (by simp [objR]) (fun c hc => ?_) (World.putObj_heap_same (Array.getElem?_eq_some_iff.1 hl).1)
  have : c = b := by simpa [objR] using hc
  subst this
  exact ⟨by simp; exact (Array.getElem?_eq_some_iff.1 hl).1, .inl (by simp [objR])⟩

/-- A call of a function value: a function's, or the loop's round that 'yield' stands for. -/
def YCalls (P : Program) (y : Value) (args : Array Value) (w : World) (R : Ending → World → Prop) : Prop :=
  (∃ (g : Nat) (lb : Array Value), y = .func (.func g) #[] lb ∧ (∀ az w, (callFunc g az).run P w = .ok (.enter g az) w) ∧ Calls P g (args ++ lb) w R) ∨
  (∃ l : Nat, y = .func (.yield l) #[] #[] ∧ YieldAt Fence.wide 0 P l args w R)
theorem YCalls.mono {y : Value} {args : Array Value} {R R' : Ending → World → Prop} (h : YCalls P y args w R) (hr : ∀ e w, R e w → R' e w) : YCalls P y args w R' := by
  rcases h with ⟨g, lb, h1, h2, h3⟩ | ⟨l, h1, fn, tmps, assign, body, h2, h3⟩
  · exact .inl ⟨g, lb, h1, h2, h3.mono hr⟩
  · exact .inr ⟨l, h1, fn, tmps, assign, body, h2, h3.mono hr⟩
def YCt (P : Program) (y : Value) (args : Array Value) (pre : List Res) (post : Value → List Res → Prop) : Prop := ∀ w0 F L w, Sep w0 F (pre ++ L) w → YCalls P y args w (CkR post w0 F L)
theorem Ct.yct {g : Nat} {lb args : Array Value} {pre : List Res} {post : Value → List Res → Prop} (h : Ct P g (args ++ lb) pre post) (eg : ∀ az w, (callFunc g az).run P w = .ok (.enter g az) w) : YCt P (.func (.func g) #[] lb) args pre post :=
  fun w0 F L w hS => .inl ⟨g, lb, rfl, eg, h w0 F L w hS⟩

/-- What has come when it is over: till one says 'no more'. -/
def runP {α : Type} (go : List α → Bool) : List α → List α → List α
  | acc, [] => acc
  | acc, x :: r => if go (acc ++ [x]) then runP go (acc ++ [x]) r else acc ++ [x]
theorem runP_all {α : Type} {go : List α → Bool} : ∀ (r acc : List α), (∀ p, go p = true) → runP go acc r = acc ++ r
  | [], acc, h => by simp [runP]
  | x :: r, acc, h => by simp [runP, h, runP_all r (acc ++ [x]) h]
def okP {α : Type} (go : List α → Bool) (p : List α) : Bool := p.isEmpty || go p
/-- **An iterator**: its function, what it has captured, what it gives. -/
def IterCt {α : Type} (P : Program) (gf : Nat) (lb : Array Value) (encs : α → Array Value) (xs : List α) (It : List Res) : Prop :=
  ∀ (σ : Type) (y : Value) (S : σ → List α → Res) (go : List α → Bool), (∃ fn lb, y = .func fn #[] lb) →
    (∀ pre x suf, xs = pre ++ x :: suf → okP go pre = true → ∀ A, YCt P y (encs x) [S A pre] (fun v L => v = .bool (go (pre ++ [x])) ∧ ∃ A', L = [S A' (pre ++ [x])])) →
    ∀ A, Ct P gf (#[y] ++ lb) (S A [] :: It) (fun v L => v = .tuple #[] ∧ ∃ A', L = S A' (runP go [] xs) :: It)
end

/-! ### In the fenced walk -/
/-- The fence that lets all in: in a round, or in none. -/
abbrev wR (ro : Option Nat) : Fence := { Fence.wide with round := ro }
section
variable {ro : Option Nat} {n : Nat} {P : Program} {ops : Array Oper} {Q : Exit → Act → World → Prop} {rest : List Oper} {w w' w0 : World} {F : List Nat} {L L' L0 : List Res} {o : Oper} {a : Act} {b off : Nat} {cs vs : List Value} {T t : TypeId} {v : Value} {x y : Operand}
theorem ckI_val (hd : ∀ c, o.op ≠ .defer c) (hw : Region.wanted o (yielded ops a.tmps) = true) (hr : (execOp a.eval o).run P w = .ok (.value v) w') (h : wpListIn (wR ro) n P ops Q rest (a.put o.dst v) w') : wpListIn (wR ro) n P ops Q (o :: rest) a w := by
  unfold wpListIn
  rw [if_pos hw]
  refine ⟨fun _ _ => trivial, ?_⟩
  rw [Oper.semAt_eq _ _ _ hd, hr]
  exact h
theorem ckI_skp (hd : ∀ c, o.op ≠ .defer c) (hw : Region.wanted o (yielded ops a.tmps) = true) (hr : (execOp a.eval o).run P w = .ok .skip w') (h : wpListIn (wR ro) n P ops Q rest (a.put o.dst undef) w') : wpListIn (wR ro) n P ops Q (o :: rest) a w := by
  unfold wpListIn
  rw [if_pos hw]
  refine ⟨fun _ _ => trivial, ?_⟩
  rw [Oper.semAt_eq _ _ _ hd, hr]
  exact h
theorem ckI_skip (hw : Region.wanted o (yielded ops a.tmps) = false) (h : wpListIn (wR ro) n P ops Q rest (a.put o.dst undef) w) : wpListIn (wR ro) n P ops Q (o :: rest) a w := by
  unfold wpListIn
  rw [if_neg (by simp [hw])]
  exact ⟨fun _ _ => trivial, h⟩
theorem ckI_load (hS : Sep w0 F L w) (ho : o.op = .load t x) (hw : Region.wanted o (yielded ops a.tmps) = true) (hx : a.eval x = .pointer (some ⟨b, off, none⟩)) (hm : pts b cs T ∈ L) (hv : cs[off]? = some v) (ht : ckScalar P t = true)
    (h : wpListIn (wR ro) n P ops Q rest (a.put o.dst v) w) : wpListIn (wR ro) n P ops Q (o :: rest) a w :=
  ckI_val (by intro c; rw [ho]; simp) hw (exec_load ho hx (run_load1 ht (hS.holds _ hm) hv)) h
theorem ckI_loadRow {g i m cap sz : Nat} {e : TypeId} {xs : List Value} (hS : Sep w0 F L w) (ho : o.op = .load t x) (hw : Region.wanted o (yielded ops a.tmps) = true) (hx : a.eval x = .pointer (some ⟨g, i, none⟩)) (hm : rowR (some ⟨g, 0, none⟩) m cap e sz xs ∈ L) (hv : xs[i]? = some v) (ht : ckScalar P t = true)
    (h : wpListIn (wR ro) n P ops Q rest (a.put o.dst v) w) : wpListIn (wR ro) n P ops Q (o :: rest) a w := by
  obtain ⟨_, _, _, _, _, rest, _, hh⟩ := hS.holds _ hm
  refine ckI_val (by intro c; rw [ho]; simp) hw (exec_load ho hx (run_load1 (cs := xs ++ rest) ht hh ?_)) h
  rw [List.getElem?_append_left (List.getElem?_eq_some_iff.1 hv).1]; exact hv
theorem ckI_loadAll {m : Nat} (hS : Sep w0 F L w) (ho : o.op = .load t x) (hw : Region.wanted o (yielded ops a.tmps) = true) (hx : a.eval x = .pointer (some ⟨b, 0, none⟩)) (hm : pts b cs T ∈ L) (hn : cs.length = m) (ht : ckAgg P t m = true)
    (h : wpListIn (wR ro) n P ops Q rest (a.put o.dst (.agg cs.toArray)) w) : wpListIn (wR ro) n P ops Q (o :: rest) a w :=
  ckI_val (by intro c; rw [ho]; simp) hw (exec_load ho hx (run_loadN ht (hS.holds _ hm) hn (fun j _ => by rw [Nat.zero_add]))) h
theorem ckI_store (hS : Sep w0 F L w) (ho : o.op = .store t x y) (hw : Region.wanted o (yielded ops a.tmps) = true) (hx : a.eval x = .pointer (some ⟨b, off, none⟩)) (hy : Wh (a.eval y) v) (hu : Upd L (pts b cs T) (pts b (cs.set off v) T) L') (hl : off < cs.length) (hv : v.oneCell' = true) (ht : ckSize P t 1 = true)
    (h : ∀ w', Sep w0 F L' w' → wpListIn (wR ro) n P ops Q rest (a.put o.dst undef) w') : wpListIn (wR ro) n P ops Q (o :: rest) a w :=
  ckI_skp (by intro c; rw [ho]; simp) hw (exec_store ho hx hy.eq (run_store1 ht hv (hS.holds _ hu.mem) hl)) (h _ (hS.setCell v hu))
theorem ckI_storeAll (hS : Sep w0 F L w) (ho : o.op = .store t x y) (hw : Region.wanted o (yielded ops a.tmps) = true) (hx : a.eval x = .pointer (some ⟨b, 0, none⟩)) (hy : a.eval y = .agg vs.toArray) (hu : Upd L (pts b cs T) (pts b vs T) L') (hl : vs.length = cs.length) (hv : vs.all (·.oneCell') = true) (ht : ckSize P t vs.length = true)
    (h : ∀ w', Sep w0 F L' w' → wpListIn (wR ro) n P ops Q rest (a.put o.dst undef) w') : wpListIn (wR ro) n P ops Q (o :: rest) a w := by
  have hu' : Upd L (pts b cs T) (pts b (ckPut cs 0 vs) T) L' := by rw [ckPut_all hl]; exact hu
  exact ckI_skp (by intro c; rw [ho]; simp) hw (exec_store ho hx hy (run_storeN ht hv (hS.holds _ hu'.mem) (by omega))) (h _ (hS.setRow _ hu'))
theorem ckI_box (hS : Sep w0 F L w) (ho : o.op = .box t x) (hw : Region.wanted o (yielded ops a.tmps) = true) (hx : WhC (a.eval x) cs)
    (h : ∀ nb w', Sep w0 F (pts nb cs t :: L) w' → wpListIn (wR ro) n P ops Q rest (a.put o.dst (.pointer (some ⟨nb, 0, none⟩))) w') : wpListIn (wR ro) n P ops Q (o :: rest) a w :=
  ckI_val (by intro c; rw [ho]; simp) hw (exec_box ho hx) (h _ _ (hS.alloc _ _))
theorem ckI_pure (hc : ckCls o = 0) (hw : Region.wanted o (yielded ops a.tmps) = true) (hr : ∀ w', (execOp a.eval o).run P w' = .ok (.value v) w') (h : wpListIn (wR ro) n P ops Q rest (a.put o.dst v) w) : wpListIn (wR ro) n P ops Q (o :: rest) a w :=
  ckI_val (by intro c e; unfold ckCls at hc; rw [e] at hc; simp at hc) hw (hr w) h
theorem ckI_alloc (hS : Sep w0 F L w) (ho : o.op = .alloc t) (hw : Region.wanted o (yielded ops a.tmps) = true) (hz : (P.info? t).bind (·.zero) = some v) (hc : v.cells = cs.toArray)
    (h : ∀ nb w', Sep w0 F (pts nb cs t :: L) w' → wpListIn (wR ro) n P ops Q rest (a.put o.dst (.pointer (some ⟨nb, 0, none⟩))) w') : wpListIn (wR ro) n P ops Q (o :: rest) a w :=
  ckI_val (by intro c; rw [ho]; simp) hw (by have := exec_alloc (w := w) (a := a) ho hz; rw [hc] at this; exact this) (h _ _ (hS.alloc _ _))
theorem ckI_yield {x : Operand} {xs : Array Operand} {ts : Array TypeId} {args : Array Value} {y : Value} (ho : o.op = .call { callee := .value x, args := xs, argTypes := ts }) (hw : Region.wanted o (yielded ops a.tmps) = true) (hx : a.eval x = y) (hal : xs.toList.map a.eval = args.toList)
    (hY : YCalls P y args w (fun e w' => ∃ v, e = .returned v ∧ wpListIn (wR ro) n P ops Q rest (a.put o.dst v) w')) : wpListIn (wR ro) n P ops Q (o :: rest) a w := by
  have ha : xs.map a.eval = args := by rw [← Array.toList_inj, Array.toList_map]; exact hal
  unfold wpListIn
  rw [if_pos hw]
  refine ⟨fun _ _ => trivial, ?_⟩
  rw [Oper.semAt_eq _ _ _ (by intro c; rw [ho]; simp)]
  rcases hY with ⟨g, lb, rfl, eg, hc⟩ | ⟨l, rfl, fn, tmps, assign, body, h1, h2⟩
  · have hrun : (execOp a.eval o).run P w = .ok (.enter g (args ++ lb)) w := by
      unfold execOp
      simp only [ho, resolve, hx, ha]
      simp [invoke, go_sem, eg]
    rw [hrun]
    refine ⟨fun h => absurd h (by simp [Fence.wide]), ?_⟩
    refine (callsIn_wide.2 hc).mono ?_
    rintro e w' ⟨v, rfl, h⟩
    exact h
  · have hrun : (execOp a.eval o).run P w = .ok (.round l fn tmps assign body) w := by
      unfold execOp
      simp only [ho, resolve, hx, ha]
      simp [invoke, go_sem, h1]
    rw [hrun]
    refine ⟨fun h => absurd h (by simp [Fence.wide]), ?_⟩
    have h3 : RoundIn (wR ro) (n - 1) P l fn tmps assign body w _ := ⟨h2.1, fun c cs _ => h2.2 c cs (room_wide _)⟩
    refine h3.mono ?_
    rintro e w' ⟨v, rfl, h⟩
    exact h
/-- A call of yield, over resources. -/
theorem ckI_yieldS {σ : Type} {x : Operand} {xs : Array Operand} {ts : Array TypeId} {args : Array Value} {y : Value} {S0 : Res} {S1 : σ → Res} {g : Bool} (hS : Sep w0 F L w) (ho : o.op = .call { callee := .value x, args := xs, argTypes := ts })
    (hY : YCt P y args [S0] (fun v L => v = .bool g ∧ ∃ A', L = [S1 A'])) (hr : Rem L S0 L0) (hw : Region.wanted o (yielded ops a.tmps) = true) (hx : a.eval x = y) (ha : xs.toList.map a.eval = args.toList)
    (h : ∀ A' w', Sep w0 F (S1 A' :: L0) w' → wpListIn (wR ro) n P ops Q rest (a.put o.dst (.bool g)) w') : wpListIn (wR ro) n P ops Q (o :: rest) a w :=
  ckI_yield ho hw hx ha ((hY w0 F L0 w (hS.bring hr)).mono fun e w' hR => by
    cases e with
    | returned v =>
      obtain ⟨L', ⟨rfl, A', rfl⟩, hs⟩ := hR
      exact ⟨_, rfl, h A' w' hs⟩
    | panicked c => exact hR.elim
    | outgrown => exact hR.elim)
theorem ckI_region {id : Nat} {l : List Oper} (h : wpListIn (wR none) 0 P l.toArray Q l a w) : (Code.region id l.toArray false).wp P Q a w := wpIn_wide (n := 0).1 (wpIn_region_lit h)
end

/-! ### The statement -/
section
variable {P : Program} {w w0 : World} {F : List Nat} {L : List Res} {Q : Exit → Act → World → Prop} {a : Act}
theorem ck_rangeFunc {α σ : Type} {g : Operand} {ps : Array Tmp} {assign body : Code} {gf : Nat} {lb : Array Value} {encs : α → Array Value} {xs : List α} {It : List Res} (B : σ → List α → Res) (go : List α → Bool) {A0 : σ}
    (hS : Sep w0 F (B A0 [] :: It ++ L) w) (hI : IterCt P gf lb encs xs It) (hg : a.eval g = .func (.func gf) #[] lb) (eg : ∀ az w, (callFunc gf az).run P w = .ok (.enter gf az) w) (hps : ∀ x, (encs x).size = ps.size)
    (hround : ∀ (l : Nat) pre x suf, xs = pre ++ x :: suf → okP go pre = true → ∀ A w0 F L w, Sep w0 F (B A pre :: L) w →
      assign.wpIn (Fence.wide.inRound l) 0 P (Exit.then (fun a1 w1 => ∃ X : List Res, Sep w0 F (X ++ (B A pre :: L)) w1 ∧ ∀ (L : List Res) w2, Sep w0 F (X ++ (B A pre :: L)) w2 →
        body.wpIn (Fence.wide.inRound l) 0 P (fun e _ w' => (e = .normal ∧ go (pre ++ [x]) = true ∨ e = .ret ∧ go (pre ++ [x]) = false) ∧ ∃ A', Sep w0 F (B A' (pre ++ [x]) :: L) w') a1 w2) (fun _ _ _ => False))
        { tmps := (ps.zip (encs x)).foldl (fun t (p, v) => t.setIfInBounds p v) a.tmps, defers := [] } w)
    (hend : ∀ D A w', Sep w0 F (objR D (.deferred (some [])) :: B A (runP go [] xs) :: It ++ L) w' → Q (if okP go (runP go [] xs) = true then .normal else .ret) { a with defers := { target := .collected D, args := #[] } :: a.defers } w') :
    (Code.rangeFunc g ps assign body).wp P Q a w := by
  refine wpIn_wide (n := 0).1 (wpIn_rangeFunc ?_)
  intro fn _
  obtain ⟨D, hD⟩ : ∃ D, w.heap.size = D := ⟨_, rfl⟩
  obtain ⟨rec, hrec⟩ : ∃ rec : LoopState → Option Code → Loop, rec = fun st pe => { state := st, pending := pe, fn, tmps := a.tmps, params := ps, assign, body, defers := w.heap.size } := ⟨_, rfl⟩
  obtain ⟨W1, hW1⟩ : ∃ W1, (w.alloc (.deferred (some []))).alloc (.loop (rec .ready none)) = W1 := ⟨_, rfl⟩
  refine ⟨w.heap.size + 1, [{ target := .collected w.heap.size, args := #[] }], W1, { target := .fn (.func gf) lb, args := #[.func (.yield (w.heap.size + 1)) #[] #[]] }, W1, gf, #[.func (.yield (w.heap.size + 1)) #[] #[]] ++ lb, W1, ?_, ?_, fun _ _ => trivial, ?_, fun h => absurd h (by simp [Fence.wide]), ?_⟩
  · rw [← hW1, hrec]; exact run_enterLoop_outer _ _ _ _ _
  · simp only [resolve, hg]
    simp [go_sem]
  · simp [invoke, go_sem, eg]
  refine callsIn_wide.2 ?_
  have h1 := (hS.newObj (.deferred (some []))).newObj (.loop (rec .ready none))
  rw [World.size_alloc, hW1, hD] at h1
  rw [hD]
  let lp : List α → Res := fun p => objR (D + 1) (.loop (if okP go p = true then rec .ready none else rec .done (some .ret)))
  have h2 : Sep w0 F ((grpR [lp [], B A0 []] :: It) ++ (objR D (.deferred (some [])) :: L)) W1 := by
    refine Sep.grp.1 (h1.perm ?_)
    refine .cons _ ?_
    refine (List.Perm.swap _ _ _).trans (.cons _ ?_)
    exact List.perm_middle.symm
  refine (hI σ (.func (.yield (D + 1)) #[] #[]) (fun A p => grpR [lp p, B A p]) go ⟨_, _, rfl⟩ ?_ A0).call h2 ?_
  · -- one round
    intro pre x suf hx hok A w0 F L w hS
    have hS1 : Sep w0 F (lp pre :: B A pre :: L) w := Sep.grp.2 hS
    have hl : w.heap[D + 1]? = some (.loop (rec .ready none)) := by
      have := hS1.holds (lp pre) (by simp)
      simp only [lp, hok, if_true, objR] at this
      exact this
    have hy := run_yield (P := P) (args := encs x) hl (by rw [hrec]; exact hps x)
    rw [hrec] at hy
    have hS1' : Sep w0 F (B A pre :: (objR (D + 1) (.loop (rec .ready none)) :: L)) w := by
      have : lp pre = objR (D + 1) (.loop (rec .ready none)) := by simp only [lp, hok, if_true]
      rw [this] at hS1
      exact hS1.perm (.swap _ _ _)
    refine .inr ⟨D + 1, rfl, fn, _, assign, body, hy, roundIn_of_wpIn trivial (wpIn_mono (hround (D + 1) pre x suf hx hok A w0 F (objR (D + 1) (.loop (rec .ready none)) :: L) w hS1') ?_)⟩
    intro e1 a1 w1 h1
    cases e1 with
    | normal => ?_
    | ret => exact h1.elim
    | exit id => exact h1.elim
    | goto t => exact h1.elim
    | panic c => exact h1.elim
    | outgrown => exact h1.elim
    obtain ⟨X, hX, hb1⟩ := h1
    have pX : ∀ o : Res, List.Perm (X ++ (B A pre :: (o :: L))) (o :: (X ++ (B A pre :: L))) := fun o => (List.Perm.append_left X (.swap _ _ _)).trans List.perm_middle
    have hl1 : w1.heap[D + 1]? = some (.loop (rec .ready none)) := hX.holds (objR (D + 1) (.loop (rec .ready none))) (by simp)
    have hS2 : Sep w0 F (X ++ (B A pre :: (objR (D + 1) (.loop { rec .ready none with state := .busy }) :: L))) (w1.putObj (D + 1) (.loop { rec .ready none with state := .busy })) :=
      ((hX.perm (pX _)).putObj (o' := .loop { rec .ready none with state := .busy }) (.here _ _ _)).perm (pX _).symm
    refine ⟨_, run_beginRound hl1 (by rw [hrec]), ?_⟩
    refine wpIn_mono (hb1 _ _ hS2) ?_
    rintro e a3 W3 ⟨he, A', hS3⟩
    have hS4 := hS3.perm (.swap _ _ _)
    have hl3 : W3.heap[D + 1]? = some (.loop { rec .ready none with state := .busy }) := hS4.holds (objR _ _) (by simp)
    rcases he with ⟨rfl, hg⟩ | ⟨rfl, hg⟩
    · refine ⟨_, _, run_endRound none hl3, ?_⟩
      refine ⟨_, ⟨by rw [hg]; rfl, A', rfl⟩, ?_⟩
      have hS5 := hS4.putObj (o' := .loop { ({ rec .ready none with state := .busy } : Loop) with state := (if (none : Option Code).isNone then .ready else .done), pending := none }) (.here _ _ _)
      have e5 : lp (pre ++ [x]) = objR (D + 1) (.loop { ({ rec .ready none with state := .busy } : Loop) with state := (if (none : Option Code).isNone then .ready else .done), pending := none }) := by
        simp only [lp, okP, hg, Bool.or_true, if_true]
        rw [hrec]; rfl
      refine Sep.grp.1 ?_
      show Sep w0 F (lp (pre ++ [x]) :: B A' (pre ++ [x]) :: L) _
      rw [e5]; exact hS5
    · refine ⟨_, _, run_endRound (some .ret) hl3, ?_⟩
      refine ⟨_, ⟨by rw [hg]; rfl, A', rfl⟩, ?_⟩
      have hS5 := hS4.putObj (o' := .loop { ({ rec .ready none with state := .busy } : Loop) with state := (if (some Code.ret : Option Code).isNone then .ready else .done), pending := some .ret }) (.here _ _ _)
      have e5 : lp (pre ++ [x]) = objR (D + 1) (.loop { ({ rec .ready none with state := .busy } : Loop) with state := (if (some Code.ret : Option Code).isNone then .ready else .done), pending := some .ret }) := by
        have he : okP go (pre ++ [x]) = false := by simp [okP, hg]
        simp only [lp, he]
        rw [hrec]; rfl
      refine Sep.grp.1 ?_
      show Sep w0 F (lp (pre ++ [x]) :: B A' (pre ++ [x]) :: L) _
      rw [e5]; exact hS5
  · -- behind the iterator
    rintro v L' w' ⟨rfl, A', rfl⟩ hS5
    have hS6 : Sep w0 F (lp (runP go [] xs) :: B A' (runP go [] xs) :: (It ++ (objR D (.deferred (some [])) :: L))) w' := Sep.grp.2 hS5
    have hS7 : Sep w0 F (lp (runP go [] xs) :: objR D (.deferred (some [])) :: B A' (runP go [] xs) :: It ++ L) w' := by
      refine hS6.perm (.cons _ ?_)
      exact ((List.perm_middle (l₁ := It)).cons _).trans (.swap _ _ _)
    by_cases hok : okP go (runP go [] xs) = true
    · have e1 : lp (runP go [] xs) = objR (D + 1) (.loop (rec .ready none)) := by simp only [lp, hok, if_true]
      rw [e1] at hS7
      have hl : w'.heap[D + 1]? = some (.loop (rec .ready none)) := hS7.holds (objR _ _) (by simp)
      refine ⟨none, _, by have := run_endLoop (P := P) hl (by rw [hrec]; simp); rw [hrec] at this; exact this, ?_⟩
      have := hend D A' _ (Sep.drop (hS7.putObj (o' := .loop { rec .ready none with state := .exhausted }) (.here _ _ _)))
      rw [if_pos hok] at this
      rw [hrec] at this
      exact this
    · have e1 : lp (runP go [] xs) = objR (D + 1) (.loop (rec .done (some .ret))) := by simp only [lp, hok]; rfl
      rw [e1] at hS7
      have hl : w'.heap[D + 1]? = some (.loop (rec .done (some .ret))) := hS7.holds (objR _ _) (by simp)
      refine ⟨some .ret, _, by have := run_endLoop (P := P) hl (by rw [hrec]; simp); rw [hrec] at this; exact this, ?_⟩
      have := hend D A' _ (Sep.drop (hS7.putObj (o' := .loop { rec .done (some .ret) with state := .exhausted }) (.here _ _ _)))
      rw [if_neg hok] at this
      rw [hrec] at this
      exact wpIn_ret this

/-- A function that holds such a statement, from its body. -/
theorem calls_of_wpM {f : FuncId} {fn : Func} {c : Code} {args : Array Value} {R : Ending → World → Prop} (hf : P.funcs[f]? = some fn) (hb : fn.body = some c)
    (h : c.wp P (bodyPostM Fence.wide 0 P fn R) { tmps := args ++ Array.replicate (fn.ntmps - args.size) undef, defers := [] } w) : Calls P f args w R :=
  callsIn_wide (n := 0).1 (callsIn_of_wp_marks hf hb trivial (wpIn_wide.2 h))
/-- It ends behind the statement. -/
theorem ckM_end {fn : Func} {R : Ending → World → Prop} {D : Nat} {v : Value} {e : Exit} (he : e = .normal ∨ e = .ret) (hS : Sep w0 F (objR D (.deferred (some [])) :: L) w) (hd : a.defers = [{ target := .collected D, args := #[] }])
    (hr : ∀ w', Sep w0 F L w' → (results fn a.tmps).run P w' = .ok v w' ∧ R (.returned v) w') : bodyPostM Fence.wide 0 P fn R e a w := by
  have hK : w.heap[D]? = some (.deferred (some [])) := hS.holds (objR _ _) (by simp)
  have hS2 := (hS.putObj (o' := .deferred none) (.here _ _ _)).drop
  have : LeavesInM Fence.wide 0 P fn a.tmps R a.defers .returning w := by
    rw [hd]
    exact ⟨by simp, .inl ⟨D, _, rfl, run_takeDeferred hK, ⟨v, hr _ hS2⟩⟩⟩
  rcases he with rfl | rfl <;> exact this
theorem ckM_end0 {fn : Func} {R : Ending → World → Prop} {v : Value} {e : Exit} (he : e = .normal ∨ e = .ret) (hd : a.defers = []) (hr : (results fn a.tmps).run P w = .ok v w) (hR : R (.returned v) w) : bodyPostM Fence.wide 0 P fn R e a w := by
  have : LeavesInM Fence.wide 0 P fn a.tmps R a.defers .returning w := by
    rw [hd]
    exact ⟨v, hr, hR⟩
  rcases he with rfl | rfl <;> exact this
end
/-! ### Calls of function values; what is read -/
theorem set_two (f : Nat → Value) (u v : Value) : (((Array.range 2).map f).setIfInBounds 0 u).setIfInBounds 1 v = #[u, v] :=
  Array.ext (by simp) (fun i h1 h2 => by
    have h3 : i < 2 := by simpa using h2
    match i, h3 with
    | 0, _ => simp
    | 1, _ => simp)
section
variable {P : Program} {ops : Array Oper} {Q : Exit → Act → World → Prop} {rest : List Oper} {w w0 : World} {F : List Nat} {L L' L0 : List Res} {o : Oper} {a : Act} {x : Operand} {v : Value} {t : TypeId}
theorem ck_callV {gf : Nat} {lb : Array Value} {xs : Array Operand} {ts : Array TypeId} {args : Array Value} (ho : o.op = .call { callee := .value x, args := xs, argTypes := ts }) (hw : Region.wanted o (yielded ops a.tmps) = true) (hx : a.eval x = .func (.func gf) #[] lb) (hal : xs.toList.map a.eval = args.toList) (eg : ∀ u w, (callFunc gf u).run P w = .ok (.enter gf u) w)
    (hC : Calls P gf (args ++ lb) w (fun e w' => ∃ v, e = .returned v ∧ wpList P ops Q rest (a.put o.dst v) w')) : wpList P ops Q (o :: rest) a w := by
  have ha : xs.map a.eval = args := by rw [← Array.toList_inj, Array.toList_map]; exact hal
  unfold wpList
  rw [if_pos hw]
  refine .inl ?_
  have hrun : (execOp a.eval o).run P w = .ok (.enter gf (args ++ lb)) w := by
    unfold execOp
    simp only [ho, resolve, hx, ha]
    simp [invoke, go_sem, eg]
  unfold Oper.wp
  rw [hrun]
  refine hC.mono ?_
  rintro e w' ⟨v, rfl, h⟩
  exact h
/-- What a slice's elements are, whoever they belong to. -/
def Rd (w0 : World) (F : List Nat) (L : List Res) (A : Option Addr) (xs : List Value) : Prop :=
  ∀ w, Sep w0 F L w → ∀ i v, xs[i]? = some v → ∃ b off cs T fz, A = some ⟨b, off, none⟩ ∧ w.heap[b]? = some (.cells cs T fz) ∧ cs[off + i]? = some v
theorem Rd.row {A : Option Addr} {n cap : Nat} {e : TypeId} {xs : List Value} (hm : rowR A n cap e 1 xs ∈ L) : Rd w0 F L A xs := fun w hS i v hv => by
  have h := hS.holds _ hm
  cases A with
  | none => obtain ⟨_, _, rfl⟩ := h; simp at hv
  | some A =>
    obtain ⟨h1, h2, _, _, _, rest, _, hh⟩ := h
    obtain ⟨g, o, s⟩ := A
    obtain rfl : o = 0 := h1
    obtain rfl : s = none := h2
    refine ⟨g, 0, _, _, _, rfl, hh, ?_⟩
    rw [Nat.zero_add, List.getElem?_toArray, List.getElem?_append_left (List.getElem?_eq_some_iff.1 hv).1]; exact hv
theorem Rd.pts {q : Nat} {xs : List Value} {T : TypeId} (hm : pts q xs T ∈ L) : Rd w0 F L (some ⟨q, 0, none⟩) xs := fun w hS i v hv =>
  ⟨q, 0, _, _, _, rfl, hS.holds _ hm, by rw [Nat.zero_add, List.getElem?_toArray]; exact hv⟩
theorem Rd.old {b off : Nat} {cs : Array Value} {T : TypeId} {fz : Nat × Nat} {xs : List Value} (hb : b < w0.heap.size) (hh : w0.heap[b]? = some (.cells cs T fz)) (hv : ∀ i v, xs[i]? = some v → cs[off + i]? = some v) : Rd w0 [] L (some ⟨b, off, none⟩) xs := fun w hS i v hi =>
  ⟨b, off, cs, T, fz, rfl, hS.old hb hh, hv i v hi⟩
theorem ck_loadRd {A : Option Addr} {xs : List Value} {b off i : Nat} (hS : Sep w0 F L w) (hR : Rd w0 F L A xs) (ho : o.op = .load t x) (hw : Region.wanted o (yielded ops a.tmps) = true) (hA : A = some ⟨b, off, none⟩) (hx : a.eval x = .pointer (some ⟨b, off + i, none⟩)) (hv : xs[i]? = some v) (ht : ckScalar P t = true)
    (h : wpList P ops Q rest (a.put o.dst v) w) : wpList P ops Q (o :: rest) a w := by
  obtain ⟨b', off', cs, T, fz, e, hh, hc⟩ := hR w hS i v hv
  rw [hA] at e
  injection e with e; injection e with e1 e2 _; subst e1; subst e2
  exact wpList_val hw (exec_load ho hx (run_load1 (cs := cs.toList) ht (by simpa using hh) (by simpa using hc))) h
theorem ckT_loadRd {blk : Nat → Nat} {conf : Nat → List Nat} {flg : List Nat} {A : Option Addr} {xs : List Value} {b off i k : Nat} (hS : Sep w0 F L w) (hR : Rd w0 F L A xs) (ho : o.op = .load t x) (hw : Region.wanted o (yielded ops a.tmps) = true) (hA : A = some ⟨b, off, none⟩) (hx : a.eval x = .pointer (some ⟨b, off + i, none⟩)) (hb : k ∈ flg → b = blk k) (hv : xs[i]? = some v) (ht : ckScalar P t = true)
    (h : wpT P ops blk conf flg Q (k + 1) rest (a.put o.dst v) w) : wpT P ops blk conf flg Q k (o :: rest) a w := by
  obtain ⟨b', off', cs, T, fz, e, hh, hc⟩ := hR w hS i v hv
  rw [hA] at e
  injection e with e; injection e with e1 e2 _; subst e1; subst e2
  exact wpT_ld (A := ⟨b, off + i, none⟩) (by unfold ckCls; rw [ho]) hw hb (fun w' hw' => exec_load ho hx (run_load1 (cs := cs.toList) ht (by simpa using hw'.trans hh) (by simpa using hc))) h
def ckFuncTy (P : Program) (t : TypeId) : Bool := match P.underlying t with | some (.func ..) => true | _ => false
theorem equalIn_func {d : Nat} {f : Fn} {p c : Array Value} {ps rs : Array TypeId} {vr : Bool} (hu : P.underlying t = some (.func ps rs vr)) : (Op.equalIn (d + 1) t (.func f p c) .nilFunc).run P w = .ok false w := by
  rw [Op.equalIn]
  rw [Sem.run_bind, run_underlying hu w]
  rfl
theorem ck_funcNil {y : Operand} {z : TypeId} {f : Fn} {p c : Array Value} (ho : o.op = .binOp .eql t x y z) (hw : Region.wanted o (yielded ops a.tmps) = true) (hx : a.eval x = .func f p c) (hy : a.eval y = .nilFunc) (ht : ckFuncTy P t = true)
    (h : wpList P ops Q rest (a.put o.dst (.bool false)) w) : wpList P ops Q (o :: rest) a w := by
  refine wpList_val hw ?_ h
  unfold ckFuncTy at ht
  split at ht
  · rename_i hu
    have h1 : (Op.equal t (.func f p c) .nilFunc).run P w = .ok false w := equalIn_func (d := 9999) hu
    have h2 : (binOp .eql t (.func f p c) .nilFunc).run P w = .ok (.bool false) w := by
      show ((do pure (.bool (← Op.equal t (.func f p c) .nilFunc))) : Sem Value).run P w = _
      rw [Sem.run_bind, h1]; rfl
    have h3 : (eqGuard .eql t x y (.func f p c) .nilFunc).run P w = .ok () w := rfl
    unfold execOp
    simp only [ho, hx, hy, Sem.run_bind, h2, h3, Result.andThen_ok]
    rfl
  · cases ht
theorem ck_build2 {e : TypeId} {u : Value} {y z : Operand} (hS : Sep w0 F L w) (ho : o.op = .buildSlice t 2 #[(0, y), (1, z)]) (hw : Region.wanted o (yielded ops a.tmps) = true) (hy : Wh (a.eval y) u) (hz' : Wh (a.eval z) v) (h1 : u.oneCell' = true) (h2 : v.oneCell' = true) (ht : ckSlice P t e 1 = true)
    (h : ∀ (q : Nat) (w' : World), Sep w0 F (pts q [u, v] e :: L) w' → wpList P ops Q rest (a.put o.dst (.slice (some ⟨q, 0, none⟩) 2 2)) w') : wpList P ops Q (o :: rest) a w := by
  obtain ⟨hu, i, zz, hi, hz, hs, hb, hzs⟩ := ckSlice.out ht
  have hrun : (execOp a.eval o).run P w = .ok (.value (.slice (some ⟨w.heap.size, 0, none⟩) 2 2)) (w.alloc (.cells #[u, v] e)) := by
    have hvc : u.cells = #[u] := by cases u <;> first | rfl | simp [Value.oneCell'] at h1
    have hvd : v.cells = #[v] := by cases v <;> first | rfl | simp [Value.oneCell'] at h2
    unfold execOp
    simp [ho, Instr.buildSlice, run_underlying hu, sizeOf, typeInfo, hi, hs, zeroValue, hz, Instr.fill, hy.eq, hz'.eq, hvc, hvd, hzs, newRow, Result.andThen, Sem.run_bind, set_two]
  exact wpList_val hw hrun (h _ _ (hS.alloc [u, v] e))
end
end Go.Proofs.YtcegknecikbbkaaGreat

/- append, of elements that lie anywhere. -/
set_option linter.unusedVariables false
set_option linter.unusedSimpArgs false
namespace Go.Proofs.YtcegknecikbbkaaGreat
open Go.RowKit
section
variable {P : Program} {w0 w : World} {F : List Nat} {L L0 : List Res} {t e : TypeId} {sz n cap m c : Nat} {xs news : List Value} {ad : Option Addr} {A : Addr}
theorem append_any (hS : Sep w0 F L w) (hr : Rem L (rowR ad n cap e sz xs) L0) (ht : ckSlice P t e sz = true) (hA : ∀ j u, news[j]? = some u → w.cell? (A.add j) = some u) (hl : news.length = m * sz) (h1 : ∀ u ∈ news, u.oneCell' = true) (h0 : 0 < m) (hsm : n + m ≤ 1000000000) (ty : TypeId) :
    ∃ (g' cap' : Nat) (w' : World), (Builtin.append_ #[t, t] ty #[.slice ad n cap, .slice (some A) m c]).run P w = .ok (.slice (some ⟨g', 0, none⟩) (n + m) cap') w' ∧ Sep w0 F (rowR (some ⟨g', 0, none⟩) (n + m) cap' e sz (xs ++ news) :: L0) w' := by
  obtain ⟨hu, i, z, hi, hz, hs, hb, hzs⟩ := ckSlice.out ht
  rcases (hS.bring hr).openRow with ⟨rfl, rfl, rfl, rfl, hS1⟩ | ⟨g, rest, rfl, hx, hn, hcm, hc, hS1⟩
  · have hp : m * i.bytes ≤ 1000000000 * 1024 := Nat.mul_le_mul (by omega) hb
    have h3 : (news ++ (Builtin.zeroCells z.cells (grownCap w m 0 e - m)).toList).length = grownCap w m 0 e * sz := by
      have hge := grownCap_ge w m 0 e
      simp only [List.length_append, hl, Array.length_toList, size_zeroCells, hzs, ← Nat.add_mul]
      congr 1; omega
    refine ⟨_, _, _, by rw [Nat.zero_add]; exact run_append_nil w t ty e i z hu hi hz A m c news (by rw [hs]; exact hl) hA h0 (by omega) (by omega), ?_⟩
    have h4 := hS1.drew.alloc (news ++ (Builtin.zeroCells z.cells (grownCap w m 0 e - m)).toList) e
    have e1 : (news ++ (Builtin.zeroCells z.cells (grownCap w m 0 e - m)).toList).toArray = news.toArray ++ Builtin.zeroCells z.cells (grownCap w m 0 e - m) := by
      apply Array.ext'; simp
    rw [e1] at h4
    have h5 := Sep.shut (n := m) (cap := grownCap w m 0 e) (sz := sz) (by rw [← e1] at h4; exact h4) news (Builtin.zeroCells z.cells (grownCap w m 0 e - m)).toList rfl hl (grownCap_ge _ _ _ _) (grownCap_le_maxLen _ _ _ _ (by unfold maxLen; omega)) h3
    rw [Nat.zero_add, List.nil_append, ← e1]
    exact h5
  · have hg : (pts g (xs ++ rest) e).holds w := hS1.holds _ (by simp)
    by_cases hroom : n + m ≤ cap
    · have hle : n * sz + m * sz ≤ cap * sz := by rw [← Nat.add_mul]; exact Nat.mul_le_mul_right _ hroom
      have hrl : xs.length + rest.length = cap * sz := by rw [← hc, List.length_append]
      refine ⟨g, cap, _, run_append_room w t ty e i hu hi g n cap _ hg A m c news (by rw [hs]; exact hl) hA h1 hroom (by simp only [List.size_toArray]; rw [hc, hs, hl]; exact hle), ?_⟩
      have e1 : ((xs ++ rest).toArray.toList.take (n * i.size) ++ news ++ (xs ++ rest).toArray.toList.drop (n * i.size + news.length)) = (xs ++ news) ++ rest.drop (m * sz) := by
        obtain ⟨t1, t2⟩ := take_add xs rest (n * i.size) (by rw [hs]; exact hx)
        show (xs ++ rest).take (n * i.size) ++ news ++ (xs ++ rest).drop (n * i.size + news.length) = _
        rw [t1, t2, hl]
      rw [e1]
      exact Sep.shut (n := n + m) (cap := cap) (sz := sz) (hS1.setRow ((xs ++ news) ++ rest.drop (m * sz)) (.here _ _ _)) (xs ++ news) (rest.drop (m * sz)) rfl (by rw [List.length_append, hx, hl, Nat.add_mul]) hroom hcm (by simp only [List.length_append, List.length_drop, hl]; omega)
    · have hbig : Builtin.nextslicecap (n + m) cap * i.bytes ≤ 281474976710656 := by
        have h2 := nextslicecap_le (need := n + m) (old := cap) (by omega)
        have : Builtin.nextslicecap (n + m) cap * i.bytes ≤ (2 * 1000000000) * 1024 := Nat.mul_le_mul (by omega) hb
        omega
      refine ⟨w.heap.size, _, _, run_append_grow w t ty e i z hu hi hz ⟨g, 0, none⟩ n cap xs (by rw [hs]; exact hx) (fun j v hv => pts_cells hg j v (by rw [List.getElem?_append_left (List.getElem?_eq_some_iff.1 hv).1]; exact hv)) A m c news (by rw [hs]; exact hl) hA (by omega) (by omega) hbig, ?_⟩
      have h3 := hS1.drew.alloc ((xs ++ news) ++ (Builtin.zeroCells z.cells (grownCap w (n + m) cap e - (n + m))).toList) e
      have e1 : ((xs ++ news) ++ (Builtin.zeroCells z.cells (grownCap w (n + m) cap e - (n + m))).toList).toArray = xs.toArray ++ news.toArray ++ Builtin.zeroCells z.cells (grownCap w (n + m) cap e - (n + m)) := by
        apply Array.ext'; simp
      have h4 := Sep.shut (n := n + m) (cap := grownCap w (n + m) cap e) (sz := sz) (h3.perm (.swap _ _ _)).drop (xs ++ news) (Builtin.zeroCells z.cells (grownCap w (n + m) cap e - (n + m))).toList rfl (by rw [List.length_append, hx, hl, Nat.add_mul]) (grownCap_ge _ _ _ _) (grownCap_le_maxLen _ _ _ _ (by unfold maxLen; omega)) (by
        have hge := grownCap_ge w (n + m) cap e
        simp only [List.length_append, hx, hl, Array.length_toList, size_zeroCells, hzs, ← Nat.add_mul]
        congr 1; omega)
      rw [e1] at h4
      exact h4
theorem cells_sub {b off : Nat} {cs : List Value} {T : TypeId} (hS : Sep w0 F L w) (hm : pts b cs T ∈ L) (hn : ∀ j u, news[j]? = some u → cs[off + j]? = some u) : ∀ j u, news[j]? = some u → w.cell? ((⟨b, off, none⟩ : Addr).add j) = some u := fun j u hu => by
  have hadd : (⟨b, off, none⟩ : Addr).add j = ⟨b, off + j, none⟩ := by unfold Addr.add; split <;> simp_all
  rw [hadd]; exact pts_cell (hS.holds _ hm) (hn j u hu)
theorem cells_row {g : Nat} {k kc : Nat} {T : TypeId} {ys : List Value} (hS : Sep w0 F L w) (hm : rowR (some ⟨g, 0, none⟩) k kc T 1 ys ∈ L) (hn : ∀ (j : Nat) (u : Value), news[j]? = some u → ys[j]? = some u) : ∀ (j : Nat) (u : Value), news[j]? = some u → w.cell? ((⟨g, 0, none⟩ : Addr).add j) = some u := fun j u hu => by
  obtain ⟨_, _, _, _, _, rest, _, hh⟩ := hS.holds _ hm
  have h1 := hn j u hu
  exact pts_cells (cs := ys ++ rest) (T := T) hh j u (by rw [List.getElem?_append_left (List.getElem?_eq_some_iff.1 h1).1]; exact h1)
end
section
variable {P : Program} {w w0 : World} {F : List Nat} {L L0 : List Res} {ops : Array Oper} {blk : Nat → Nat} {conf : Nat → List Nat} {flg : List Nat} {Q : Exit → Act → World → Prop} {restO : List Oper} {o : Oper} {a : Act} {i : Nat} {t e : TypeId} {sz n m cap c : Nat} {xs news : List Value} {x y : Operand} {v : Value} {ad : Option Addr} {A : Addr}
theorem wpT_valA {w' : World} (hc : ckCls o = 2) (hw : Region.wanted o (yielded ops a.tmps) = true) (hr : (execOp a.eval o).run P w = .ok (.value v) w') (hcf : ∀ j ∈ conf i, w'.heap[blk j]? = w.heap[blk j]?) (h : wpT P ops blk conf flg Q (i + 1) restO (a.put o.dst v) w') : wpT P ops blk conf flg Q i (o :: restO) a w :=
  wpT_act hc hw (by unfold Oper.wp; rw [hr]; exact ⟨hcf, h⟩)
theorem ck_appendA (hS : Sep w0 F L w) (ho : o.op = .call { callee := .builtin .append, args := #[x, y], argTypes := #[t, t] }) (hw : Region.wanted o (yielded ops a.tmps) = true) (hx : a.eval x = .slice ad n cap) (hy : a.eval y = .slice (some A) m c)
    (hr : Rem L (rowR ad n cap e sz xs) L0) (hA : ∀ j u, news[j]? = some u → w.cell? (A.add j) = some u) (hl : news.length = m * sz) (hone : ∀ u ∈ news, u.oneCell' = true) (h0 : 0 < m) (hsm : n + m ≤ 1000000000) (ht : ckSlice P t e sz = true)
    (h : ∀ (g' cap' : Nat) (w' : World), Sep w0 F (rowR (some ⟨g', 0, none⟩) (n + m) cap' e sz (xs ++ news) :: L0) w' → wpList P ops Q restO (a.put o.dst (.slice (some ⟨g', 0, none⟩) (n + m) cap')) w') : wpList P ops Q (o :: restO) a w := by
  obtain ⟨g', cap', w', hrun, h1⟩ := append_any (c := c) hS hr ht hA hl hone h0 hsm 0
  have hrun' : ∀ ty, (Builtin.append_ #[t, t] ty #[.slice ad n cap, .slice (some A) m c]).run P w = .ok (.slice (some ⟨g', 0, none⟩) (n + m) cap') w' := fun _ => hrun
  exact wpList_val hw (exec_append ho hx hy hrun') (h _ _ _ h1)
/-- In a region that draws its order, where nothing is in conflict with it. -/
theorem ckT_appendA (hS : Sep w0 F L w) (ho : o.op = .call { callee := .builtin .append, args := #[x, y], argTypes := #[t, t] }) (hw : Region.wanted o (yielded ops a.tmps) = true) (hx : a.eval x = .slice ad n cap) (hy : a.eval y = .slice (some A) m c)
    (hr : Rem L (rowR ad n cap e sz xs) L0) (hA : ∀ j u, news[j]? = some u → w.cell? (A.add j) = some u) (hl : news.length = m * sz) (hone : ∀ u ∈ news, u.oneCell' = true) (h0 : 0 < m) (hsm : n + m ≤ 1000000000) (ht : ckSlice P t e sz = true) (hcf : conf i = [])
    (h : ∀ (g' cap' : Nat) (w' : World), Sep w0 F (rowR (some ⟨g', 0, none⟩) (n + m) cap' e sz (xs ++ news) :: L0) w' → wpT P ops blk conf flg Q (i + 1) restO (a.put o.dst (.slice (some ⟨g', 0, none⟩) (n + m) cap')) w') : wpT P ops blk conf flg Q i (o :: restO) a w := by
  obtain ⟨g', cap', w', hrun, h1⟩ := append_any (c := c) hS hr ht hA hl hone h0 hsm 0
  have hrun' : ∀ ty, (Builtin.append_ #[t, t] ty #[.slice ad n cap, .slice (some A) m c]).run P w = .ok (.slice (some ⟨g', 0, none⟩) (n + m) cap') w' := fun _ => hrun
  exact wpT_valA (by unfold ckCls; rw [ho]) hw (exec_append ho hx hy hrun') (by rw [hcf]; simp) (h _ _ _ h1)
theorem exec_build1 {w : World} (ho : o.op = .buildSlice t 1 #[(0, y)]) (hy : Wh (a.eval y) v) (hv : v.oneCell' = true) (ht : ckSlice P t e 1 = true) : (execOp a.eval o).run P w = .ok (.value (.slice (some ⟨w.heap.size, 0, none⟩) 1 1)) (w.alloc (.cells #[v] e)) := by
  obtain ⟨hu, i, z, hi, hz, hs, hb, hzs⟩ := ckSlice.out ht
  have hvc : v.cells = #[v] := by cases v <;> first | rfl | simp [Value.oneCell'] at hv
  unfold execOp
  simp [ho, Instr.buildSlice, run_underlying hu, sizeOf, typeInfo, hi, hs, zeroValue, hz, Instr.fill, hy.eq, hvc, hzs, newRow, Result.andThen, Sem.run_bind, set_one]
theorem ckT_build1R (hS : Sep w0 F L w) (ho : o.op = .buildSlice t 1 #[(0, y)]) (hw : Region.wanted o (yielded ops a.tmps) = true) (hy : Wh (a.eval y) v) (hv : v.oneCell' = true) (ht : ckSlice P t e 1 = true) (hcf : conf i = [])
    (h : ∀ (q : Nat) (w' : World), Sep w0 F (rowR (some ⟨q, 0, none⟩) 1 1 e 1 [v] :: L) w' → wpT P ops blk conf flg Q (i + 1) restO (a.put o.dst (.slice (some ⟨q, 0, none⟩) 1 1)) w') : wpT P ops blk conf flg Q i (o :: restO) a w :=
  wpT_valA (by unfold ckCls; rw [ho]) hw (exec_build1 ho hy hv ht) (by rw [hcf]; simp) (h _ _ ((hS.alloc [v] e).shut [v] [] rfl rfl (Nat.le_refl _) (by unfold maxLen; omega) rfl))
/-- A slice of one element, of whatever cells. -/
theorem ck_buildE (hS : Sep w0 F L w) (ho : o.op = .buildSlice t 1 #[(0, y)]) (hw : Region.wanted o (yielded ops a.tmps) = true) (hy : a.eval y = .agg news.toArray) (hn : news.length = sz) (h0 : 0 < sz) (hsm : sz ≤ 1000) (ht : ckSlice P t e sz = true)
    (h : ∀ (q : Nat) (w' : World), Sep w0 F (pts q news e :: L) w' → wpList P ops Q restO (a.put o.dst (.slice (some ⟨q, 0, none⟩) 1 1)) w') : wpList P ops Q (o :: restO) a w := by
  obtain ⟨hu, i, z, hi, hz, hs, hb, hzs⟩ := ckSlice.out ht
  have hf : Instr.fill (fun i' => some (i' * i.size, i.size)) ((Array.range (1 * i.size)).map (z.cells[· % z.cells.size]!)) [(0, Value.agg news.toArray)] = some news.toArray := by
    have := Go.Great.fill_whole (s := i.size) (by omega) [Value.agg news.toArray] ((Array.range (1 * i.size)).map (z.cells[· % z.cells.size]!)) (fun u hu => by simp at hu; subst hu; simp [Value.cells, hn, hs]) (by simp)
    simpa [Value.cells] using this
  have hrun : (execOp a.eval o).run P w = .ok (.value (.slice (some ⟨w.heap.size, 0, none⟩) 1 1)) (w.alloc (.cells news.toArray e)) := by
    unfold execOp
    simp only [ho, Sem.run_bind]
    rw [Go.run_buildSlice w t e 1 _ news.toArray i z hu hi hz (by omega) (by omega) (by rw [show (Array.map (fun (x : Nat × Operand) => (x.1, a.eval x.2)) #[(0, y)]).toList = [(0, a.eval y)] from by simp, hy]; exact hf)]
    rfl
  exact wpList_val hw hrun (h _ _ (hS.alloc news e))
end
theorem Ct.call2 {P : Program} {f : FuncId} {args : Array Value} {r1 r2 : Res} {post : Value → List Res → Prop} {w0 w : World} {F : List Nat} {L L1 L0 : List Res} (h : Ct P f args [r1, r2] post) (hr1 : Rem L r1 L1) (hr2 : Rem L1 r2 L0) (hS : Sep w0 F L w)
    {R : Ending → World → Prop} (hR : ∀ v L' w', post v L' → Sep w0 F (L' ++ L0) w' → R (.returned v) w') : Calls P f args w R :=
  Ct.call (L := L0) h ((hS.perm hr1.perm).perm (.cons _ hr2.perm)) hR
end Go.Proofs.YtcegknecikbbkaaGreat

/- Steps in a region whose acts no edge orders: make, append, a new slice of one element; a fact as a resource. -/
set_option linter.unusedVariables false
set_option linter.unusedSimpArgs false
namespace Go.Proofs.YtcegknecikbbkaaGreat
open Go.RowKit
section
variable {P : Program} {ops : Array Oper} {blk : Nat → Nat} {conf : Nat → List Nat} {flg : List Nat} {Q : Exit → Act → World → Prop} {rest : List (Nat × Oper)} {w w0 : World} {F : List Nat} {L L0 : List Res} {o : Oper} {a : Act} {i : Nat} {t e : TypeId} {sz n m cap c : Nat} {xs news : List Value} {x y : Operand} {v : Value} {ad : Option Addr} {A : Addr}
theorem exec_make {z : Value} {bytes : Nat} {kl kc : IntKind} {l k : Int} (ho : o.op = .makeSlice t x y) (hx : a.eval x = .int kl l) (hy : a.eval y = .int kc k) (hl : l = n) (hk : k = n) (ht : P.underlying t = some (.slice e)) (hinfo : (P.info? e).map (fun i => (i.zero, i.size, i.bytes)) = some (some z, 1, bytes)) (hz1 : z.cells = #[z]) (hbytes : bytes * n ≤ 281474976710656) (h63 : n ≤ 9223372036854775807) :
    (execOp a.eval o).run P w = .ok (.value (.slice (some ⟨w.heap.size, 0, none⟩) n n)) (w.alloc (.cells (List.replicate n z).toArray e)) := by
  subst hl hk
  have hr := run_make_row' t e z bytes ht hinfo hz1 kl kc n hbytes h63 w
  have hm : madeCells #[z] n = (List.replicate n z).toArray := by
    apply Array.ext
    · simp [madeCells]
    · intro i h1 h2; simp [madeCells, Nat.mod_one]
  rw [hm] at hr
  unfold execOp
  simp only [ho, hx, hy, Sem.run_bind, hr]
  rfl
theorem ckV_make {z : Value} {bytes : Nat} {kl kc : IntKind} {l k : Int} (n : Nat) (hS : Sep w0 F L w) (ho : o.op = .makeSlice t x y) (hw : Region.wanted o (yielded ops a.tmps) = true) (hx : a.eval x = .int kl l) (hy : a.eval y = .int kc k) (hl : l = n) (hk : k = n) (ht : P.underlying t = some (.slice e)) (hinfo : (P.info? e).map (fun i => (i.zero, i.size, i.bytes)) = some (some z, 1, bytes)) (hz1 : z.cells = #[z]) (hbytes : bytes * n ≤ 281474976710656) (h63 : n ≤ 1000000000)
    (hcf : ∀ j ∈ conf i, blk j < w.heap.size) (h : ∀ g w', Sep w0 F (pts g (List.replicate n z) e :: L) w' → wpV P ops blk conf flg Q rest (a.put o.dst (.slice (some ⟨g, 0, none⟩) n n)) w') : wpV P ops blk conf flg Q ((i, o) :: rest) a w :=
  wpV_val (by unfold ckCls; rw [ho]) hw (exec_make ho hx hy hl hk ht hinfo hz1 hbytes (by omega)) (fun j hj => Below.heap_alloc w _ _ (hcf j hj)) (h _ _ (hS.alloc _ e))
theorem ckV_build1R (hS : Sep w0 F L w) (ho : o.op = .buildSlice t 1 #[(0, y)]) (hw : Region.wanted o (yielded ops a.tmps) = true) (hy : Wh (a.eval y) v) (hv : v.oneCell' = true) (ht : ckSlice P t e 1 = true) (hcf : ∀ j ∈ conf i, blk j < w.heap.size)
    (h : ∀ (q : Nat) (w' : World), Sep w0 F (rowR (some ⟨q, 0, none⟩) 1 1 e 1 [v] :: L) w' → wpV P ops blk conf flg Q rest (a.put o.dst (.slice (some ⟨q, 0, none⟩) 1 1)) w') : wpV P ops blk conf flg Q ((i, o) :: rest) a w :=
  wpV_val (by unfold ckCls; rw [ho]) hw (exec_build1 ho hy hv ht) (fun j hj => Below.heap_alloc w _ _ (hcf j hj)) (h _ _ ((hS.alloc [v] e).shut [v] [] rfl rfl (Nat.le_refl _) (by unfold maxLen; omega) rfl))
theorem ckV_build1 (hS : Sep w0 F L w) (ho : o.op = .buildSlice t 1 #[(0, y)]) (hw : Region.wanted o (yielded ops a.tmps) = true) (hy : Wh (a.eval y) v) (hv : v.oneCell' = true) (ht : ckSlice P t e 1 = true) (hcf : ∀ j ∈ conf i, blk j < w.heap.size)
    (h : ∀ (q : Nat) (w' : World), Sep w0 F (pts q [v] e :: L) w' → wpV P ops blk conf flg Q rest (a.put o.dst (.slice (some ⟨q, 0, none⟩) 1 1)) w') : wpV P ops blk conf flg Q ((i, o) :: rest) a w :=
  wpV_val (by unfold ckCls; rw [ho]) hw (exec_build1 ho hy hv ht) (fun j hj => Below.heap_alloc w _ _ (hcf j hj)) (h _ _ (hS.alloc [v] e))
theorem ckV_appendA (hS : Sep w0 F L w) (ho : o.op = .call { callee := .builtin .append, args := #[x, y], argTypes := #[t, t] }) (hw : Region.wanted o (yielded ops a.tmps) = true) (hx : a.eval x = .slice ad n cap) (hy : a.eval y = .slice (some A) m c)
    (hr : Rem L (rowR ad n cap e sz xs) L0) (hA : ∀ j u, news[j]? = some u → w.cell? (A.add j) = some u) (hl : news.length = m * sz) (hone : ∀ u ∈ news, u.oneCell' = true) (h0 : 0 < m) (hsm : n + m ≤ 1000000000) (ht : ckSlice P t e sz = true) (hcf : ∀ j ∈ conf i, ∃ cs T, pts (blk j) cs T ∈ L0)
    (h : ∀ (g' cap' : Nat) (w' : World), Sep w0 F (rowR (some ⟨g', 0, none⟩) (n + m) cap' e sz (xs ++ news) :: L0) w' → wpV P ops blk conf flg Q rest (a.put o.dst (.slice (some ⟨g', 0, none⟩) (n + m) cap')) w') : wpV P ops blk conf flg Q ((i, o) :: rest) a w := by
  obtain ⟨g', cap', w', hrun, h1⟩ := append_any (c := c) hS hr ht hA hl hone h0 hsm 0
  have hrun' : ∀ ty, (Builtin.append_ #[t, t] ty #[.slice ad n cap, .slice (some A) m c]).run P w = .ok (.slice (some ⟨g', 0, none⟩) (n + m) cap') w' := fun _ => hrun
  refine wpV_val (by unfold ckCls; rw [ho]) hw (exec_append ho hx hy hrun') (fun j hj => ?_) (h _ _ _ h1)
  obtain ⟨cs, T, hm⟩ := hcf j hj
  exact Eq.trans (h1.holds _ (List.mem_cons_of_mem _ hm)) (Eq.symm ((hS.bring hr).holds _ (List.mem_cons_of_mem _ hm)))
end
section
variable {P : Program} {ops : Array Oper} {blk : Nat → Nat} {conf : Nat → List Nat} {flg : List Nat} {Q : Exit → Act → World → Prop} {restO : List Oper} {w w0 : World} {F : List Nat} {L L' : List Res} {o : Oper} {a : Act} {k i g n cap sz : Nat} {t e : TypeId} {xs : List Value} {x y : Operand} {v : Value}
theorem ckT_loadRow (hS : Sep w0 F L w) (ho : o.op = .load t x) (hw : Region.wanted o (yielded ops a.tmps) = true) (hx : a.eval x = .pointer (some ⟨g, i, none⟩)) (hb : k ∈ flg → g = blk k) (hm : rowR (some ⟨g, 0, none⟩) n cap e sz xs ∈ L) (hv : xs[i]? = some v) (ht : ckScalar P t = true)
    (h : wpT P ops blk conf flg Q (k + 1) restO (a.put o.dst v) w) : wpT P ops blk conf flg Q k (o :: restO) a w := by
  obtain ⟨_, _, _, _, _, rest, _, hh⟩ := hS.holds _ hm
  refine wpT_ld (A := ⟨g, i, none⟩) (by unfold ckCls; rw [ho]) hw hb (fun w' hw' => exec_load ho hx (run_load1 (cs := xs ++ rest) ht (hw'.trans hh) ?_)) h
  rw [List.getElem?_append_left (List.getElem?_eq_some_iff.1 hv).1]; exact hv
theorem ckT_storeRow (hS : Sep w0 F L w) (ho : o.op = .store t x y) (hw : Region.wanted o (yielded ops a.tmps) = true) (hx : a.eval x = .pointer (some ⟨g, i, none⟩)) (hy : Wh (a.eval y) v) (hu : Upd L (rowR (some ⟨g, 0, none⟩) n cap e sz xs) (rowR (some ⟨g, 0, none⟩) n cap e sz (xs.set i v)) L') (hl : i < xs.length) (hv : v.oneCell' = true) (ht : ckSize P t 1 = true) (hcf : conf k = [])
    (h : ∀ w', Sep w0 F L' w' → wpT P ops blk conf flg Q (k + 1) restO (a.put o.dst undef) w') : wpT P ops blk conf flg Q k (o :: restO) a w := by
  obtain ⟨A, B, rfl, rfl⟩ := hu.split
  have h1 : Sep w0 F (rowR (some ⟨g, 0, none⟩) n cap e sz xs :: (A ++ B)) w := hS.perm List.perm_middle
  rcases h1.openRow with ⟨h0, _⟩ | ⟨g', rest, h0, h3, h4, h5, h6, h7⟩
  · cases h0
  · injection h0 with h0; injection h0 with h0 _ _; subst h0
    have hp : (pts g (xs ++ rest) e).holds w := h7.holds _ (by simp)
    refine wpT_act (by unfold ckCls; rw [ho]) hw ?_
    unfold Oper.wp
    rw [exec_store ho hx hy.eq (run_store1 (cs := xs ++ rest) ht hv hp (by rw [List.length_append]; omega))]
    refine ⟨by rw [hcf]; simp, h _ ?_⟩
    have h8 := h7.setCell (off := i) v (.here _ _ _)
    have h9 := h8.shut (n := n) (cap := cap) (sz := sz) (xs.set i v) rest (by rw [List.set_append_left _ _ hl]) (by simpa using h3) h4 h5 (by simpa using h6)
    exact h9.perm List.perm_middle.symm
end
/-- A fact, as a resource. -/
def pureR (p : Prop) : Res := ⟨[], fun _ => p, fun _ _ _ h => h⟩
theorem Sep.fact {w0 w : World} {F : List Nat} {L : List Res} {p : Prop} (h : Sep w0 F L w) (hp : p) : Sep w0 F (pureR p :: L) w := h.addNil rfl hp
theorem Sep.factOf {w0 w : World} {F : List Nat} {L : List Res} {p : Prop} (h : Sep w0 F L w) (hm : pureR p ∈ L) : p := h.holds _ hm
end Go.Proofs.YtcegknecikbbkaaGreat

/- Slices that are only read, and lose their first element. -/
set_option linter.unusedVariables false
set_option linter.unusedSimpArgs false
namespace Go.Proofs.YtcegknecikbbkaaGreat
open Go.RowKit
/-- A slice of elements of one cell, that is only read. -/
def subR (a : Option Addr) (n cap : Nat) (xs : List Value) : Res :=
  match a with
  | none => ⟨[], fun _ => n = 0 ∧ cap = 0 ∧ xs = [], fun _ _ _ h => h⟩
  | some A => ⟨[A.block], fun w => A.spot = none ∧ xs.length = n ∧ n ≤ cap ∧ ∃ (cs : Array Value) (T : TypeId) (fz : Nat × Nat), w.heap[A.block]? = some (.cells cs T fz) ∧ ∀ (i : Nat) (v : Value), xs[i]? = some v → cs[A.off + i]? = some v,
    fun w w' h hh => by
      obtain ⟨h1, h2, h3, cs, T, fz, h4, h5⟩ := hh
      exact ⟨h1, h2, h3, cs, T, fz, (h _ (by simp)).trans h4, h5⟩⟩
section
variable {w0 w : World} {F : List Nat} {L L0 : List Res} {a : Option Addr} {n cap : Nat} {e : TypeId} {xs : List Value}
theorem Sep.subOf (h : Sep w0 F (rowR a n cap e 1 xs :: L) w) : Sep w0 F (subR a n cap xs :: L) w := by
  cases a with
  | none => exact h.alike (r' := subR none n cap xs) rfl fun hh => hh
  | some A =>
    refine h.alike (r' := subR (some A) n cap xs) rfl fun hh => ?_
    obtain ⟨h1, h2, h3, h4, h5, rest, h6, h7⟩ := hh
    refine ⟨h2, by omega, h4, _, _, _, h7, fun i v hv => ?_⟩
    rw [h1, Nat.zero_add, List.getElem?_toArray, List.getElem?_append_left (List.getElem?_eq_some_iff.1 hv).1]; exact hv
theorem Sep.subNil (h : Sep w0 F L w) : Sep w0 F (subR none 0 0 [] :: L) w := h.addNil rfl ⟨rfl, rfl, rfl⟩
theorem Sep.subSome (hS : Sep w0 F L w) (hm : subR a n cap xs ∈ L) (h0 : 0 < n) : ∃ g off, a = some ⟨g, off, none⟩ := by
  have h := hS.holds _ hm
  cases a with
  | none => obtain ⟨h1, _⟩ := h; omega
  | some A => obtain ⟨h1, _⟩ := h; obtain ⟨g, o, s⟩ := A; obtain rfl : s = none := h1; exact ⟨g, o, rfl⟩
theorem Sep.subLen (hS : Sep w0 F L w) (hm : subR a n cap xs ∈ L) : xs.length = n ∧ n ≤ cap := by
  have h := hS.holds _ hm
  cases a with
  | none => obtain ⟨rfl, rfl, rfl⟩ := h; simp
  | some A => obtain ⟨_, h2, h3, _⟩ := h; exact ⟨h2, h3⟩
theorem Rd.sub (hm : subR a n cap xs ∈ L) : Rd w0 F L a xs := fun w hS i v hv => by
  have h := hS.holds _ hm
  cases a with
  | none => obtain ⟨_, _, rfl⟩ := h; simp at hv
  | some A =>
    obtain ⟨h1, h2, h3, cs, T, fz, h4, h5⟩ := h
    obtain ⟨g, o, s⟩ := A
    obtain rfl : s = none := h1
    exact ⟨g, o, cs, T, fz, rfl, h4, h5 i v hv⟩
theorem cells_rd {A : Addr} (hS : Sep w0 F L w) (hR : Rd w0 F L (some A) xs) : ∀ (j : Nat) (u : Value), xs[j]? = some u → w.cell? (A.add j) = some u := fun j u hu => by
  obtain ⟨b, off, cs, T, fz, hA, hh, hc⟩ := hR w hS j u hu
  injection hA with hA
  subst hA
  have hadd : (⟨b, off, none⟩ : Addr).add j = ⟨b, off + j, none⟩ := by unfold Addr.add; split <;> simp_all
  rw [hadd]
  unfold World.cell?
  simp [hh, hc]
/-- Without its first element. -/
theorem Sep.subTail {g off : Nat} {v : Value} (h : Sep w0 F (subR (some ⟨g, off, none⟩) (n + 1) cap (v :: xs) :: L) w) : Sep w0 F (subR (some (if cap = 1 then ⟨g, off, none⟩ else ⟨g, off + 1, none⟩)) n (cap - 1) xs :: L) w := by
  refine h.alike (r' := subR (some (if cap = 1 then ⟨g, off, none⟩ else ⟨g, off + 1, none⟩)) n (cap - 1) xs) (by by_cases hc : cap = 1 <;> simp only [hc, if_true, if_false] <;> rfl) fun hh => ?_
  obtain ⟨h1, h2, h3, cs, T, fz, h4, h5⟩ := hh
  simp only [List.length_cons] at h2
  by_cases hc : cap = 1
  · rw [if_pos hc]
    refine ⟨rfl, by omega, by omega, cs, T, fz, h4, fun i v hv => ?_⟩
    have : xs = [] := List.eq_nil_of_length_eq_zero (by omega)
    subst this; simp at hv
  · rw [if_neg hc]
    refine ⟨rfl, by omega, by omega, cs, T, fz, h4, fun i v hv => ?_⟩
    have := h5 (i + 1) v (by simpa using hv)
    show cs[off + 1 + i]? = _
    rw [← this]; congr 1; show off + 1 + i = off + (i + 1); omega
end
theorem append_none {P : Program} {w : World} {t e : TypeId} {sz : Nat} (ht : ckSlice P t e sz = true) (x : Option Addr) (c : Nat) (ty : TypeId) : (Builtin.append_ #[t, t] ty #[.slice none 0 0, .slice x 0 c]).run P w = .ok (.slice none 0 0) w := by
  obtain ⟨hu, i, z, hi, hz, hs, hb, hzs⟩ := ckSlice.out ht
  cases x <;> simp [Builtin.append_, run_underlying hu, sizeOf, typeInfo, hi, Builtin.lenOf, Builtin.firstCells]
  rfl
section
variable {P : Program} {ops : Array Oper} {Q : Exit → Act → World → Prop} {rest : List Oper} {w w0 : World} {F : List Nat} {L L0 : List Res} {o : Oper} {a : Act} {i g off n cap c : Nat} {t e : TypeId} {xs : List Value} {x y : Operand} {v : Value}
theorem ck_tail (hS : Sep w0 F L w) (ho : o.op = .slice t x (some y) none none) (hw : Region.wanted o (yielded ops a.tmps) = true) (hx : a.eval x = .slice (some ⟨g, off, none⟩) (n + 1) cap) (hy : a.eval y = .int .i64 1) (hr : Rem L (subR (some ⟨g, off, none⟩) (n + 1) cap (v :: xs)) L0) (ht : ckSlice P t e 1 = true)
    (h : ∀ (ad' : Option Addr) (cap' : Nat), Sep w0 F (subR ad' n cap' xs :: L0) w → wpList P ops Q rest (a.put o.dst (.slice ad' n cap')) w) : wpList P ops Q (o :: rest) a w := by
  obtain ⟨hu, ii, z, hi, hz, hs, hb, hzs⟩ := ckSlice.out ht
  have he : P.elem t = e := by unfold Program.elem; simp [hu]
  have hA : (if cap = 1 then some (⟨g, off, none⟩ : Addr) else some ⟨g, off + 1, none⟩) = some (if cap = 1 then ⟨g, off, none⟩ else ⟨g, off + 1, none⟩) := by split <;> rfl
  have hadd : (⟨g, off, none⟩ : Addr).add 1 = ⟨g, off + 1, none⟩ := rfl
  refine wpList_val hw (v := .slice (some (if cap = 1 then ⟨g, off, none⟩ else ⟨g, off + 1, none⟩)) n (cap - 1)) ?_ (h _ _ (hS.bring hr).subTail)
  unfold execOp
  simp only [ho, hx, hy, Option.map_some, Option.map_none, Sem.run_bind]
  rw [run_sliceAt_slice _ t _ _ _ _ (by rw [he]; exact hu), run_slice_l _ t _ (n + 1) cap (by rw [he]; exact hu) .i64 1 (by omega) (by omega), he]
  simp [sizeOf, typeInfo, hi, hs, sliced, Result.andThen, Sem.run_bind, hadd]
  split <;> rfl
variable {blk : Nat → Nat} {conf : Nat → List Nat} {flg : List Nat} {restV : List (Nat × Oper)} {news : List Value} {ad : Option Addr} {A : Addr} {sz m b : Nat} {T : TypeId} {fz : Nat × Nat}
theorem ckV_loadOld {cs : Array Value} (hS : Sep w0 [] L w) (ho : o.op = .load t x) (hw : Region.wanted o (yielded ops a.tmps) = true) (hx : a.eval x = .pointer (some ⟨b, off, none⟩)) (hf : i ∈ flg → b = blk i) (hb : b < w0.heap.size) (h0 : w0.heap[b]? = some (.cells cs T fz)) (hv : cs[off]? = some v) (ht : ckScalar P t = true)
    (h : wpV P ops blk conf flg Q restV (a.put o.dst v) w) : wpV P ops blk conf flg Q ((i, o) :: restV) a w :=
  wpV_ld (A := ⟨b, off, none⟩) (by unfold ckCls; rw [ho]) hw hf (fun w' hw' => exec_load ho hx (run_load1 (cs := cs.toList) ht (by simpa using hw'.trans (hS.old hb h0)) (by simpa using hv))) h
theorem ckV_appendNone {ax : Option Addr} (ho : o.op = .call { callee := .builtin .append, args := #[x, y], argTypes := #[t, t] }) (hw : Region.wanted o (yielded ops a.tmps) = true) (hx : a.eval x = .slice none 0 0) (hy : a.eval y = .slice ax 0 c) (ht : ckSlice P t e sz = true)
    (h : wpV P ops blk conf flg Q restV (a.put o.dst (.slice none 0 0)) w) : wpV P ops blk conf flg Q ((i, o) :: restV) a w :=
  wpV_val (by unfold ckCls; rw [ho]) hw (exec_append ho hx hy (fun _ => append_none ht ax c 0)) (fun _ _ => rfl) h
theorem ckV_appendO (hS : Sep w0 [] L w) (ho : o.op = .call { callee := .builtin .append, args := #[x, y], argTypes := #[t, t] }) (hw : Region.wanted o (yielded ops a.tmps) = true) (hx : a.eval x = .slice ad n cap) (hy : a.eval y = .slice (some A) m c)
    (hr : Rem L (rowR ad n cap e sz xs) L0) (hA : ∀ j u, news[j]? = some u → w.cell? (A.add j) = some u) (hl : news.length = m * sz) (hone : ∀ u ∈ news, u.oneCell' = true) (h0 : 0 < m) (hsm : n + m ≤ 1000000000) (ht : ckSlice P t e sz = true) (hcf : ∀ j ∈ conf i, blk j < w0.heap.size) {n' : Nat} (hn' : n + m = n')
    (h : ∀ (ad' : Option Addr) (cap' : Nat) (w' : World), Sep w0 [] (rowR ad' n' cap' e sz (xs ++ news) :: L0) w' → wpV P ops blk conf flg Q restV (a.put o.dst (.slice ad' n' cap')) w') : wpV P ops blk conf flg Q ((i, o) :: restV) a w := by
  subst hn'
  obtain ⟨g', cap', w', hrun, h1⟩ := append_any (c := c) hS hr ht hA hl hone h0 hsm 0
  have hrun' : ∀ ty, (Builtin.append_ #[t, t] ty #[.slice ad n cap, .slice (some A) m c]).run P w = .ok (.slice (some ⟨g', 0, none⟩) (n + m) cap') w' := fun _ => hrun
  refine wpV_val (by unfold ckCls; rw [ho]) hw (exec_append ho hx hy hrun') (fun j hj => ?_) (h _ _ _ h1)
  exact (h1.frame _ (hcf j hj) (by simp)).trans (hS.frame _ (hcf j hj) (by simp)).symm
/-- A slice that is only read, copied to nothing. -/
theorem ckV_appendSub (hS : Sep w0 [] L w) (ho : o.op = .call { callee := .builtin .append, args := #[x, y], argTypes := #[t, t] }) (hw : Region.wanted o (yielded ops a.tmps) = true) (hx : a.eval x = .slice none 0 0) (hy : a.eval y = .slice ad m c)
    (hm : subR ad m c news ∈ L) (hone : ∀ u ∈ news, u.oneCell' = true) (hsm : m ≤ 1000000000) (ht : ckSlice P t e 1 = true) (hcf : ∀ j ∈ conf i, blk j < w0.heap.size)
    (h : ∀ (ad' : Option Addr) (cap' : Nat) (w' : World), Sep w0 [] (rowR ad' m cap' e 1 news :: L) w' → wpV P ops blk conf flg Q restV (a.put o.dst (.slice ad' m cap')) w') : wpV P ops blk conf flg Q ((i, o) :: restV) a w := by
  have hl := (hS.subLen hm).1
  by_cases h0 : 0 < m
  · obtain ⟨g, off, rfl⟩ := hS.subSome hm h0
    refine ckV_appendO (e := e) (sz := 1) (ad := none) (news := news) (n' := m) (hS.nilRow (e := e) (sz := 1)) ho hw hx hy (.here _ _) (cells_rd hS (Rd.sub hm)) (by omega) hone h0 (by omega) ht hcf (by omega) fun ad' cap' w' h1 => ?_
    rw [List.nil_append] at h1
    exact h ad' cap' w' h1
  · obtain rfl : m = 0 := by omega
    obtain rfl : news = [] := List.eq_nil_of_length_eq_zero hl
    exact ckV_appendNone (e := e) (sz := 1) ho hw hx hy ht (h none 0 w (hS.nilRow (e := e) (sz := 1)))
end
end Go.Proofs.YtcegknecikbbkaaGreat

/- Rows that begin anywhere in their block; what is read, whoever it belongs to. -/
set_option linter.unusedVariables false
set_option linter.unusedSimpArgs false
namespace Go.Proofs.YtcegknecikbbkaaGreat
open Go.RowKit
/-- What stands there now. -/
def Cel (w : World) (g p : Nat) (vs : List Value) : Prop := ∃ (cs : Array Value) (T : TypeId) (fz : Nat × Nat), w.heap[g]? = some (.cells cs T fz) ∧ ∀ (k : Nat) (v : Value), vs[k]? = some v → cs[p + k]? = some v
/-- A row that begins anywhere. -/
def rowO (a : Option Addr) (n cap : Nat) (e : TypeId) (sz : Nat) (xs : List Value) : Res :=
  match a with
  | none => ⟨[], fun _ => n = 0 ∧ cap = 0 ∧ xs = [], fun _ _ _ h => h⟩
  | some A => ⟨[A.block], fun w => A.spot = none ∧ xs.length = n * sz ∧ n ≤ cap ∧ cap ≤ maxLen ∧ ∃ pre rest : List Value, pre.length = A.off ∧ cap * sz ≤ (xs ++ rest).length ∧ w.heap[A.block]? = some (.cells (pre ++ (xs ++ rest)).toArray e (0, 0)),
    fun w w' h hh => by
      obtain ⟨h2, h3, h4, h5, pre, rest, h6, h7, h8⟩ := hh
      exact ⟨h2, h3, h4, h5, pre, rest, h6, h7, (h _ (by simp)).trans h8⟩⟩
section
variable {w0 w w' : World} {F : List Nat} {L L' L0 : List Res} {a : Option Addr} {n cap : Nat} {e : TypeId} {sz : Nat} {xs : List Value}
theorem Sep.toO (h : Sep w0 F (rowR a n cap e sz xs :: L) w) : Sep w0 F (rowO a n cap e sz xs :: L) w := by
  cases a with
  | none => exact h.alike (r' := rowO none n cap e sz xs) rfl fun hh => hh
  | some A =>
    refine h.alike (r' := rowO (some A) n cap e sz xs) rfl fun hh => ?_
    obtain ⟨h1, h2, h3, h4, h5, rest, h6, h7⟩ := hh
    exact ⟨h2, h3, h4, h5, [], rest, by simp [h1], by omega, h7⟩
theorem Sep.nilO (h : Sep w0 F L w) : Sep w0 F (rowO none 0 0 e sz [] :: L) w := h.addNil rfl ⟨rfl, rfl, rfl⟩
theorem Sep.openO (h : Sep w0 F (rowO a n cap e sz xs :: L) w) :
    (a = none ∧ n = 0 ∧ cap = 0 ∧ xs = [] ∧ Sep w0 F L w) ∨ ∃ (g : Nat) (pre rest : List Value), a = some ⟨g, pre.length, none⟩ ∧ xs.length = n * sz ∧ n ≤ cap ∧ cap ≤ maxLen ∧ cap * sz ≤ (xs ++ rest).length ∧ Sep w0 F (pts g (pre ++ (xs ++ rest)) e :: L) w := by
  cases a with
  | none =>
    obtain ⟨h1, h2, h3⟩ := h.holds _ (List.mem_cons_self ..)
    exact .inl ⟨rfl, h1, h2, h3, h.drop⟩
  | some A =>
    obtain ⟨h2, h3, h4, h5, pre, rest, h6, h7, h8⟩ := h.holds _ (List.mem_cons_self ..)
    obtain ⟨g, o, s⟩ := A
    obtain rfl : s = none := h2
    obtain rfl : pre.length = o := h6
    exact .inr ⟨g, pre, rest, rfl, h3, h4, h5, h7, h.alike (r' := pts g (pre ++ (xs ++ rest)) e) rfl fun _ => h8⟩
theorem Sep.shutO {g : Nat} {pre rest : List Value} (h : Sep w0 F (pts g (pre ++ (xs ++ rest)) e :: L) w) (h3 : xs.length = n * sz) (h4 : n ≤ cap) (h5 : cap ≤ maxLen) (h6 : cap * sz ≤ (xs ++ rest).length) :
    Sep w0 F (rowO (some ⟨g, pre.length, none⟩) n cap e sz xs :: L) w := h.alike (r' := rowO (some ⟨g, pre.length, none⟩) n cap e sz xs) rfl fun hh => ⟨rfl, h3, h4, h5, pre, rest, rfl, h6, hh⟩
theorem Sep.rowOSome (hS : Sep w0 F L w) (hm : rowO a n cap e sz xs ∈ L) (h0 : 0 < n) : ∃ g off, a = some ⟨g, off, none⟩ := by
  have h := hS.holds _ hm
  cases a with
  | none => obtain ⟨h1, _⟩ := h; omega
  | some A => obtain ⟨h1, _⟩ := h; obtain ⟨g, o, s⟩ := A; obtain rfl : s = none := h1; exact ⟨g, o, rfl⟩
theorem Sep.rowOLen (hS : Sep w0 F L w) (hm : rowO a n cap e sz xs ∈ L) : xs.length = n * sz ∧ n ≤ cap ∧ cap ≤ maxLen := by
  have h := hS.holds _ hm
  cases a with
  | none => obtain ⟨rfl, rfl, rfl⟩ := h; simp
  | some A => obtain ⟨_, h2, h3, h4, _⟩ := h; exact ⟨h2, h3, h4⟩
theorem Sep.celO {g off p k : Nat} {vs : List Value} (hS : Sep w0 F L w) (hm : rowO (some ⟨g, off, none⟩) n cap e sz xs ∈ L) (hp : p = off + k) (hv : ∀ (j : Nat) (v : Value), vs[j]? = some v → xs[k + j]? = some v) : Cel w g p vs := by
  obtain ⟨h2, h3, h4, h5, pre, rest, h6, h7, h8⟩ := hS.holds _ hm
  obtain rfl : pre.length = off := h6
  refine ⟨_, _, _, h8, fun j v hj => ?_⟩
  have h9 := hv j v hj
  rw [hp, List.getElem?_toArray, List.getElem?_append_right (by omega), show pre.length + k + j - pre.length = k + j by omega, List.getElem?_append_left (List.getElem?_eq_some_iff.1 h9).1]
  exact h9
theorem Sep.celP {g p : Nat} {T : TypeId} {cs vs : List Value} (hS : Sep w0 F L w) (hm : pts g cs T ∈ L) (hv : ∀ (j : Nat) (v : Value), vs[j]? = some v → cs[p + j]? = some v) : Cel w g p vs :=
  ⟨_, _, _, hS.holds _ hm, fun j v hj => by rw [List.getElem?_toArray]; exact hv j v hj⟩
theorem Cel.cell {g p : Nat} {vs : List Value} (h : Cel w g p vs) : ∀ (j : Nat) (u : Value), vs[j]? = some u → w.cell? ((⟨g, p, none⟩ : Addr).add j) = some u := fun j u hu => by
  obtain ⟨cs, T, fz, hh, hc⟩ := h
  have hadd : (⟨g, p, none⟩ : Addr).add j = ⟨g, p + j, none⟩ := by unfold Addr.add; split <;> simp_all
  rw [hadd]
  unfold World.cell?
  simp [hh, hc j u hu]
theorem Cel.same {g p : Nat} {vs : List Value} (h : Cel w g p vs) (hw : w'.heap[g]? = w.heap[g]?) : Cel w' g p vs := by
  obtain ⟨cs, T, fz, hh, hc⟩ := h
  exact ⟨cs, T, fz, hw.trans hh, hc⟩
/-- Without its first element. -/
theorem Sep.tailO {g off : Nat} {y : List Value} (h : Sep w0 F (rowO (some ⟨g, off, none⟩) (n + 1) cap e sz (y ++ xs) :: L) w) (hy : y.length = sz) : Sep w0 F (rowO (some (if cap = 1 then ⟨g, off, none⟩ else ⟨g, off + sz, none⟩)) n (cap - 1) e sz xs :: L) w := by
  refine h.alike (r' := rowO (some (if cap = 1 then ⟨g, off, none⟩ else ⟨g, off + sz, none⟩)) n (cap - 1) e sz xs) (by by_cases hc : cap = 1 <;> simp only [hc, if_true, if_false] <;> rfl) fun hh => ?_
  obtain ⟨h2, h3, h4, h5, pre, rest, h6, h7, h8⟩ := hh
  have h6' : pre.length = off := h6
  rw [List.length_append, Nat.add_mul, hy] at h3
  rw [List.length_append, List.length_append, hy] at h7
  by_cases hc : cap = 1
  · rw [if_pos hc]
    have hn : n = 0 := by omega
    subst hn
    have hx : xs = [] := List.eq_nil_of_length_eq_zero (by omega)
    subst hx
    exact ⟨rfl, by simp, by omega, by omega, pre, y ++ rest, h6, by simp [hc], by simpa using h8⟩
  · rw [if_neg hc]
    obtain ⟨c, rfl⟩ : ∃ c, cap = c + 1 := ⟨cap - 1, by omega⟩
    refine ⟨rfl, by omega, by omega, by omega, pre ++ y, rest, by simp [h6', hy], by rw [List.length_append, Nat.add_sub_cancel]; rw [Nat.add_mul, Nat.one_mul] at h7; omega, ?_⟩
    rw [h8]; simp
end
end Go.Proofs.YtcegknecikbbkaaGreat

/- Steps over rows that begin anywhere. -/
set_option linter.unusedVariables false
set_option linter.unusedSimpArgs false
namespace Go.Proofs.YtcegknecikbbkaaGreat
open Go.RowKit
section
variable {P : Program} {w w' w0 : World} {F : List Nat} {L L' L0 : List Res} {ops : Array Oper} {Q : Exit → Act → World → Prop} {rest : List Oper} {restV : List (Nat × Oper)} {o : Oper} {a : Act} {g p i n : Nat} {t e : TypeId} {vs : List Value} {x y : Operand} {v : Value} {blk : Nat → Nat} {conf : Nat → List Nat} {flg : List Nat}
theorem exec_cel1 (ho : o.op = .load t x) (hx : a.eval x = .pointer (some ⟨g, p, none⟩)) (hc : Cel w g p [v]) (ht : ckScalar P t = true) : (execOp a.eval o).run P w = .ok (.value v) w := by
  obtain ⟨cs, T, fz, hh, hv⟩ := hc
  exact exec_load ho hx (run_load1 (cs := cs.toList) ht (by simpa using hh) (by simpa using hv 0 v rfl))
theorem exec_celN (ho : o.op = .load t x) (hx : a.eval x = .pointer (some ⟨g, p, none⟩)) (hc : Cel w g p vs) (ht : ckAgg P t vs.length = true) : (execOp a.eval o).run P w = .ok (.value (.agg vs.toArray)) w := by
  obtain ⟨cs, T, fz, hh, hv⟩ := hc
  exact exec_load ho hx (run_loadN (cs := cs.toList) ht (by simpa using hh) rfl (fun j hj => by rw [List.getElem?_eq_getElem hj]; simpa using hv j _ (List.getElem?_eq_getElem hj)))
theorem ck_cel1 (hc : Cel w g p [v]) (ho : o.op = .load t x) (hw : Region.wanted o (yielded ops a.tmps) = true) (hx : a.eval x = .pointer (some ⟨g, p, none⟩)) (ht : ckScalar P t = true)
    (h : wpList P ops Q rest (a.put o.dst v) w) : wpList P ops Q (o :: rest) a w := wpList_val hw (exec_cel1 ho hx hc ht) h
theorem ck_celN (hc : Cel w g p vs) (ho : o.op = .load t x) (hw : Region.wanted o (yielded ops a.tmps) = true) (hx : a.eval x = .pointer (some ⟨g, p, none⟩)) (ht : ckAgg P t vs.length = true)
    (h : wpList P ops Q rest (a.put o.dst (.agg vs.toArray)) w) : wpList P ops Q (o :: rest) a w := wpList_val hw (exec_celN ho hx hc ht) h
theorem ckT_cel1 (hc : Cel w g p [v]) (ho : o.op = .load t x) (hw : Region.wanted o (yielded ops a.tmps) = true) (hx : a.eval x = .pointer (some ⟨g, p, none⟩)) (hf : i ∈ flg → g = blk i) (ht : ckScalar P t = true)
    (h : wpT P ops blk conf flg Q (i + 1) rest (a.put o.dst v) w) : wpT P ops blk conf flg Q i (o :: rest) a w := wpT_ld (A := ⟨g, p, none⟩) (by unfold ckCls; rw [ho]) hw hf (fun w' hw' => exec_cel1 ho hx (hc.same hw') ht) h
theorem ckT_celN (hc : Cel w g p vs) (ho : o.op = .load t x) (hw : Region.wanted o (yielded ops a.tmps) = true) (hx : a.eval x = .pointer (some ⟨g, p, none⟩)) (hf : i ∈ flg → g = blk i) (ht : ckAgg P t vs.length = true)
    (h : wpT P ops blk conf flg Q (i + 1) rest (a.put o.dst (.agg vs.toArray)) w) : wpT P ops blk conf flg Q i (o :: rest) a w := wpT_ld (A := ⟨g, p, none⟩) (by unfold ckCls; rw [ho]) hw hf (fun w' hw' => exec_celN ho hx (hc.same hw') ht) h
theorem ckV_cel1 (hc : Cel w g p [v]) (ho : o.op = .load t x) (hw : Region.wanted o (yielded ops a.tmps) = true) (hx : a.eval x = .pointer (some ⟨g, p, none⟩)) (hf : i ∈ flg → g = blk i) (ht : ckScalar P t = true)
    (h : wpV P ops blk conf flg Q restV (a.put o.dst v) w) : wpV P ops blk conf flg Q ((i, o) :: restV) a w := wpV_ld (A := ⟨g, p, none⟩) (by unfold ckCls; rw [ho]) hw hf (fun w' hw' => exec_cel1 ho hx (hc.same hw') ht) h
theorem ckV_celN (hc : Cel w g p vs) (ho : o.op = .load t x) (hw : Region.wanted o (yielded ops a.tmps) = true) (hx : a.eval x = .pointer (some ⟨g, p, none⟩)) (hf : i ∈ flg → g = blk i) (ht : ckAgg P t vs.length = true)
    (h : wpV P ops blk conf flg Q restV (a.put o.dst (.agg vs.toArray)) w) : wpV P ops blk conf flg Q ((i, o) :: restV) a w := wpV_ld (A := ⟨g, p, none⟩) (by unfold ckCls; rw [ho]) hw hf (fun w' hw' => exec_celN ho hx (hc.same hw') ht) h
variable {ro : Option (Value × Nat × Nat)}
variable {off cap sz k m c : Nat} {xs news : List Value} {ad : Option Addr} {A : Addr}
/-- Some cells of a row are replaced. -/
theorem ckPut_row {pre ys rest : List Value} (hk : k + vs.length ≤ ys.length) : ckPut (pre ++ (ys ++ rest)) (pre.length + k) vs = pre ++ (ckPut ys k vs ++ rest) := by
  unfold ckPut
  rw [List.take_length_add_append, List.take_append_of_le_length (by omega), show pre.length + k + vs.length = pre.length + (k + vs.length) by omega, List.drop_length_add_append, List.drop_append_of_le_length (by omega)]
  simp
theorem set_put {ys : List Value} (hk : k < ys.length) : ys.set k v = ckPut ys k [v] := by
  unfold ckPut
  rw [List.set_eq_take_append_cons_drop, if_pos hk]; simp
theorem ck_storeO1 (hS : Sep w0 F L w) (ho : o.op = .store t x y) (hw : Region.wanted o (yielded ops a.tmps) = true) (hx : a.eval x = .pointer (some ⟨g, p, none⟩)) (hy : Wh (a.eval y) v) (hp : p = off + k) (hr : Rem L (rowO (some ⟨g, off, none⟩) n cap e sz xs) L0) (hk : k < xs.length) (hv : v.oneCell' = true) (ht : ckSize P t 1 = true)
    (h : ∀ w', Sep w0 F (rowO (some ⟨g, off, none⟩) n cap e sz (xs.set k v) :: L0) w' → wpList P ops Q rest (a.put o.dst undef) w') : wpList P ops Q (o :: rest) a w := by
  subst hp
  rcases (hS.bring hr).openO with ⟨h0, _⟩ | ⟨g', pre, re, h0, h3, h4, h5, h6, h7⟩
  · cases h0
  · injection h0 with h0; injection h0 with h0 h1 _; subst h0; subst h1
    refine wpList_skp hw (exec_store ho hx hy.eq (run_store1 ht hv (h7.holds _ (List.mem_cons_self ..)) (by simp; omega))) (h _ ?_)
    have h8 := h7.setCell (off := pre.length + k) v (.here _ _ _)
    rw [List.set_append_right _ _ (by omega), show pre.length + k - pre.length = k by omega, List.set_append_left _ _ hk] at h8
    exact h8.shutO (by simpa using h3) h4 h5 (by simpa using h6)
theorem ck_storeON (hS : Sep w0 F L w) (ho : o.op = .store t x y) (hw : Region.wanted o (yielded ops a.tmps) = true) (hx : a.eval x = .pointer (some ⟨g, p, none⟩)) (hy : a.eval y = .agg vs.toArray) (hp : p = off + k) (hr : Rem L (rowO (some ⟨g, off, none⟩) n cap e sz xs) L0) (hk : k + vs.length ≤ xs.length) (hv : vs.all (·.oneCell') = true) (ht : ckSize P t vs.length = true)
    (h : ∀ w', Sep w0 F (rowO (some ⟨g, off, none⟩) n cap e sz (ckPut xs k vs) :: L0) w' → wpList P ops Q rest (a.put o.dst undef) w') : wpList P ops Q (o :: rest) a w := by
  subst hp
  rcases (hS.bring hr).openO with ⟨h0, _⟩ | ⟨g', pre, re, h0, h3, h4, h5, h6, h7⟩
  · cases h0
  · injection h0 with h0; injection h0 with h0 h1 _; subst h0; subst h1
    refine wpList_skp hw (exec_store ho hx hy (run_storeN ht hv (h7.holds _ (List.mem_cons_self ..)) (by simp; omega))) (h _ ?_)
    have h8 := h7.setRow (ckPut (pre ++ (xs ++ re)) (pre.length + k) vs) (.here _ _ _)
    rw [ckPut_row hk] at h8 ⊢
    exact h8.shutO (by rw [ckPut_length hk]; exact h3) h4 h5 (by rw [List.length_append, ckPut_length hk, ← List.length_append]; exact h6)
theorem run_append_roomO (ty : TypeId) (ti : TypeInfo) (ht : P.underlying t = some (.slice e)) (hi : P.info? e = some ti)
    (sLen sCap : Nat) (cur : Array Value) (hg : w.heap[g]? = some (.cells cur e (0, 0))) (hl : news.length = m * ti.size) (hnews : ∀ j u, news[j]? = some u → w.cell? (A.add j) = some u) (h1 : ∀ u ∈ news, u.oneCell' = true)
    (hroom : sLen + m ≤ sCap) (hfit : off + sLen * ti.size + news.length ≤ cur.size) :
    (Builtin.append_ #[t, t] ty #[.slice (some ⟨g, off, none⟩) sLen sCap, .slice (some A) m c]).run P w =
      .ok (.slice (some ⟨g, off, none⟩) (sLen + m) sCap) (w.setRow g (cur.toList.take (off + sLen * ti.size) ++ news ++ cur.toList.drop (off + sLen * ti.size + news.length)).toArray) := by
  have hf := run_firstCells_some (P := P) w ti.size m A m c news hl hnews
  have hst := run_storeCells_at P g (off + sLen * ti.size) e news 0 cur w hg (by simpa using hfit) h1
  simp only [Nat.add_zero] at hst
  have hadd : (⟨g, off, none⟩ : Addr).add (sLen * ti.size) = ⟨g, off + sLen * ti.size, none⟩ := by unfold Addr.add; split <;> simp_all
  simp [Builtin.append_, run_underlying ht, sizeOf, typeInfo, hi, Builtin.lenOf, hroom, hf, hadd, hst]
theorem append_anyO (hS : Sep w0 F L w) (hr : Rem L (rowO ad n cap e sz xs) L0) (ht : ckSlice P t e sz = true) (hA : ∀ j u, news[j]? = some u → w.cell? (A.add j) = some u) (hl : news.length = m * sz) (h1 : ∀ u ∈ news, u.oneCell' = true) (h0 : 0 < m) (hsm : n + m ≤ 1000000000) (ty : TypeId) :
    ∃ (ad' : Option Addr) (cap' : Nat) (w' : World), (Builtin.append_ #[t, t] ty #[.slice ad n cap, .slice (some A) m c]).run P w = .ok (.slice ad' (n + m) cap') w' ∧ Sep w0 F (rowO ad' (n + m) cap' e sz (xs ++ news) :: L0) w' := by
  obtain ⟨hu, ti, z, hi, hz, hs, hb, hzs⟩ := ckSlice.out ht
  rcases (hS.bring hr).openO with ⟨rfl, rfl, rfl, rfl, hS1⟩ | ⟨g, pre, re, rfl, hx, hn, hcm, hc, hS1⟩
  · obtain ⟨g', cap', w', h2, h3⟩ := append_any (c := c) (hS1.nilRow (e := e) (sz := sz)) (.here _ _) ht hA hl h1 h0 hsm ty
    exact ⟨_, cap', w', h2, h3.toO⟩
  · have hg : (pts g (pre ++ (xs ++ re)) e).holds w := hS1.holds _ (by simp)
    by_cases hroom : n + m ≤ cap
    · have hle : n * sz + m * sz ≤ cap * sz := by rw [← Nat.add_mul]; exact Nat.mul_le_mul_right _ hroom
      have hrl : xs.length + re.length = (xs ++ re).length := by simp
      refine ⟨some ⟨g, pre.length, none⟩, cap, _, run_append_roomO ty ti hu hi n cap _ hg (by rw [hs]; exact hl) hA h1 hroom (by simp only [List.size_toArray, List.length_append]; rw [hs, hl]; omega), ?_⟩
      have e1 : ((pre ++ (xs ++ re)).toArray.toList.take (pre.length + n * ti.size) ++ news ++ (pre ++ (xs ++ re)).toArray.toList.drop (pre.length + n * ti.size + news.length)) = pre ++ ((xs ++ news) ++ re.drop (m * sz)) := by
        obtain ⟨t1, t2⟩ := take_add xs re (n * ti.size) (by rw [hs]; exact hx)
        show (pre ++ (xs ++ re)).take (pre.length + n * ti.size) ++ news ++ (pre ++ (xs ++ re)).drop (pre.length + n * ti.size + news.length) = _
        rw [List.take_length_add_append, Nat.add_assoc, List.drop_length_add_append, t1, t2, hl]; simp
      rw [e1]
      refine (hS1.setRow (pre ++ ((xs ++ news) ++ re.drop (m * sz))) (.here _ _ _)).shutO (by rw [List.length_append, hx, hl, Nat.add_mul]) hroom hcm ?_
      simp only [List.length_append, List.length_drop, hl]; omega
    · have hbig : Builtin.nextslicecap (n + m) cap * ti.bytes ≤ 281474976710656 := by
        have h2 := nextslicecap_le (need := n + m) (old := cap) (by omega)
        have : Builtin.nextslicecap (n + m) cap * ti.bytes ≤ (2 * 1000000000) * 1024 := Nat.mul_le_mul (by omega) hb
        omega
      have hcel : Cel w g pre.length xs := ⟨_, _, _, hg, fun j u hj => by
        rw [List.getElem?_toArray, List.getElem?_append_right (by omega), show pre.length + j - pre.length = j by omega, List.getElem?_append_left (List.getElem?_eq_some_iff.1 hj).1]; exact hj⟩
      refine ⟨some ⟨w.heap.size, 0, none⟩, _, _, run_append_grow w t ty e ti z hu hi hz ⟨g, pre.length, none⟩ n cap xs (by rw [hs]; exact hx) hcel.cell A m c news (by rw [hs]; exact hl) hA (by omega) (by omega) hbig, ?_⟩
      have h3 := hS1.drew.alloc ((xs ++ news) ++ (Builtin.zeroCells z.cells (grownCap w (n + m) cap e - (n + m))).toList) e
      have e1 : ((xs ++ news) ++ (Builtin.zeroCells z.cells (grownCap w (n + m) cap e - (n + m))).toList).toArray = xs.toArray ++ news.toArray ++ Builtin.zeroCells z.cells (grownCap w (n + m) cap e - (n + m)) := by
        apply Array.ext'; simp
      have h4 := Sep.shut (n := n + m) (cap := grownCap w (n + m) cap e) (sz := sz) (h3.perm (.swap _ _ _)).drop (xs ++ news) (Builtin.zeroCells z.cells (grownCap w (n + m) cap e - (n + m))).toList rfl (by rw [List.length_append, hx, hl, Nat.add_mul]) (grownCap_ge _ _ _ _) (grownCap_le_maxLen _ _ _ _ (by unfold maxLen; omega)) (by
        have hge := grownCap_ge w (n + m) cap e
        simp only [List.length_append, hx, hl, Array.length_toList, size_zeroCells, hzs, ← Nat.add_mul]
        congr 1; omega)
      rw [e1] at h4
      exact h4.toO
theorem ck_appendO (hS : Sep w0 F L w) (ho : o.op = .call { callee := .builtin .append, args := #[x, y], argTypes := #[t, t] }) (hw : Region.wanted o (yielded ops a.tmps) = true) (hx : a.eval x = .slice ad n cap) (hy : a.eval y = .slice (some A) m c)
    (hr : Rem L (rowO ad n cap e sz xs) L0) (hA : ∀ j u, news[j]? = some u → w.cell? (A.add j) = some u) (hl : news.length = m * sz) (hone : ∀ u ∈ news, u.oneCell' = true) (h0 : 0 < m) (hsm : n + m ≤ 1000000000) (ht : ckSlice P t e sz = true) {n' : Nat} (hn' : n + m = n')
    (h : ∀ (ad' : Option Addr) (cap' : Nat) (w' : World), Sep w0 F (rowO ad' n' cap' e sz (xs ++ news) :: L0) w' → wpList P ops Q rest (a.put o.dst (.slice ad' n' cap')) w') : wpList P ops Q (o :: rest) a w := by
  subst hn'
  obtain ⟨ad', cap', w', hrun, h1⟩ := append_anyO (c := c) hS hr ht hA hl hone h0 hsm 0
  have hrun' : ∀ ty, (Builtin.append_ #[t, t] ty #[.slice ad n cap, .slice (some A) m c]).run P w = .ok (.slice ad' (n + m) cap') w' := fun _ => hrun
  exact wpList_val hw (exec_append ho hx hy hrun') (h _ _ _ h1)
theorem ckT_appendO (hS : Sep w0 F L w) (ho : o.op = .call { callee := .builtin .append, args := #[x, y], argTypes := #[t, t] }) (hw : Region.wanted o (yielded ops a.tmps) = true) (hx : a.eval x = .slice ad n cap) (hy : a.eval y = .slice (some A) m c)
    (hr : Rem L (rowO ad n cap e sz xs) L0) (hA : ∀ j u, news[j]? = some u → w.cell? (A.add j) = some u) (hl : news.length = m * sz) (hone : ∀ u ∈ news, u.oneCell' = true) (h0 : 0 < m) (hsm : n + m ≤ 1000000000) (ht : ckSlice P t e sz = true) {n' : Nat} (hn' : n + m = n') (hcf : conf i = [])
    (h : ∀ (ad' : Option Addr) (cap' : Nat) (w' : World), Sep w0 F (rowO ad' n' cap' e sz (xs ++ news) :: L0) w' → wpT P ops blk conf flg Q (i + 1) rest (a.put o.dst (.slice ad' n' cap')) w') : wpT P ops blk conf flg Q i (o :: rest) a w := by
  subst hn'
  obtain ⟨ad', cap', w', hrun, h1⟩ := append_anyO (c := c) hS hr ht hA hl hone h0 hsm 0
  have hrun' : ∀ ty, (Builtin.append_ #[t, t] ty #[.slice ad n cap, .slice (some A) m c]).run P w = .ok (.slice ad' (n + m) cap') w' := fun _ => hrun
  exact wpT_valA (by unfold ckCls; rw [ho]) hw (exec_append ho hx hy hrun') (by rw [hcf]; simp) (h _ _ _ h1)
theorem exec_buildE (ho : o.op = .buildSlice t 1 #[(0, y)]) (hy : a.eval y = .agg news.toArray) (hn : news.length = sz) (h0 : 0 < sz) (hsm : sz ≤ 1000) (ht : ckSlice P t e sz = true) : (execOp a.eval o).run P w = .ok (.value (.slice (some ⟨w.heap.size, 0, none⟩) 1 1)) (w.alloc (.cells news.toArray e)) := by
  obtain ⟨hu, i, z, hi, hz, hs, hb, hzs⟩ := ckSlice.out ht
  have hf : Instr.fill (fun i' => some (i' * i.size, i.size)) ((Array.range (1 * i.size)).map (z.cells[· % z.cells.size]!)) [(0, Value.agg news.toArray)] = some news.toArray := by
    have := Go.Great.fill_whole (s := i.size) (by omega) [Value.agg news.toArray] ((Array.range (1 * i.size)).map (z.cells[· % z.cells.size]!)) (fun u hu => by simp at hu; subst hu; simp [Value.cells, hn, hs]) (by simp)
    simpa [Value.cells] using this
  unfold execOp
  simp only [ho, Sem.run_bind]
  rw [Go.run_buildSlice w t e 1 _ news.toArray i z hu hi hz (by omega) (by omega) (by rw [show (Array.map (fun (x : Nat × Operand) => (x.1, a.eval x.2)) #[(0, y)]).toList = [(0, a.eval y)] from by simp, hy]; exact hf)]
  rfl
theorem ckT_buildE (hS : Sep w0 F L w) (ho : o.op = .buildSlice t 1 #[(0, y)]) (hw : Region.wanted o (yielded ops a.tmps) = true) (hy : a.eval y = .agg news.toArray) (hn : news.length = sz) (h0 : 0 < sz) (hsm : sz ≤ 1000) (ht : ckSlice P t e sz = true) (hcf : ∀ j ∈ conf i, blk j < w.heap.size)
    (h : ∀ (q : Nat) (w' : World), Sep w0 F (pts q news e :: L) w' → wpT P ops blk conf flg Q (i + 1) rest (a.put o.dst (.slice (some ⟨q, 0, none⟩) 1 1)) w') : wpT P ops blk conf flg Q i (o :: rest) a w :=
  wpT_valA (by unfold ckCls; rw [ho]) hw (exec_buildE ho hy hn h0 hsm ht) (fun j hj => Below.heap_alloc w _ _ (hcf j hj)) (h _ _ (hS.alloc news e))
theorem ck_tailO {ys : List Value} (hS : Sep w0 F L w) (ho : o.op = .slice t x (some y) none none) (hw : Region.wanted o (yielded ops a.tmps) = true) (hx : a.eval x = .slice (some ⟨g, off, none⟩) (n + 1) cap) (hy : a.eval y = .int .i64 1) (hr : Rem L (rowO (some ⟨g, off, none⟩) (n + 1) cap e sz (ys ++ xs)) L0) (hys : ys.length = sz) (ht : ckSlice P t e sz = true)
    (h : ∀ (ad' : Option Addr) (cap' : Nat), Sep w0 F (rowO ad' n cap' e sz xs :: L0) w → wpList P ops Q rest (a.put o.dst (.slice ad' n cap')) w) : wpList P ops Q (o :: rest) a w := by
  obtain ⟨hu, ii, z, hi, hz, hs, hb, hzs⟩ := ckSlice.out ht
  have he : P.elem t = e := by unfold Program.elem; simp [hu]
  have hadd : (⟨g, off, none⟩ : Addr).add sz = ⟨g, off + sz, none⟩ := by unfold Addr.add; split <;> simp_all
  refine wpList_val hw (v := .slice (some (if cap = 1 then ⟨g, off, none⟩ else ⟨g, off + sz, none⟩)) n (cap - 1)) ?_ (h _ _ ((hS.bring hr).tailO hys))
  unfold execOp
  simp only [ho, hx, hy, Option.map_some, Option.map_none, Sem.run_bind]
  rw [run_sliceAt_slice _ t _ _ _ _ (by rw [he]; exact hu), run_slice_l _ t _ (n + 1) cap (by rw [he]; exact hu) .i64 1 (by omega) (by omega), he]
  simp [sizeOf, typeInfo, hi, hs, sliced, Result.andThen, Sem.run_bind, hadd]
  split <;> rfl
end
end Go.Proofs.YtcegknecikbbkaaGreat

/- What Plain and Same come to, over whole numbers. -/
set_option linter.unusedVariables false
set_option linter.unusedSimpArgs false
set_option maxRecDepth 4000
namespace Go.Proofs.YtcegknecikbbkaaGreat
open Go.RowKit
abbrev vZ (l : List Int) : List Value := l.map fun n : Int => Value.int .i64 n
theorem Ct.out {P : Program} {f : FuncId} {args : Array Value} {w w0 : World} {F : List Nat} {L : List Res} {v : Value} {R : Ending → World → Prop} (h : Calls P f args w (CkR (Gives v []) w0 F L)) (hR : ∀ w', Sep w0 F L w' → R (.returned v) w') : Calls P f args w R :=
  h.mono fun e w' hr => by
    cases e with
    | returned u => obtain ⟨L', ⟨rfl, rfl⟩, hs⟩ := hr; exact hR w' hs
    | panicked c => exact hr.elim
    | outgrown => exact hr.elim
theorem ckT_callV0 {P : Program} {ops : Array Oper} {blk : Nat → Nat} {conf : Nat → List Nat} {flg : List Nat} {Q : Exit → Act → World → Prop} {rest : List Oper} {w w0 : World} {F : List Nat} {L : List Res} {o : Oper} {a : Act} {i : Nat} {v : Value} {x : Operand}
    {gf : Nat} {lb : Array Value} {xs : Array Operand} {ts : Array TypeId} {args : Array Value} (hS : Sep w0 F L w) (ho : o.op = .call { callee := .value x, args := xs, argTypes := ts }) (hC : Ct P gf args [] (Gives v [])) (eg : ∀ u w, (callFunc gf u).run P w = .ok (.enter gf u) w) (hw : Region.wanted o (yielded ops a.tmps) = true) (hx : a.eval x = .func (.func gf) #[] lb) (ha : xs.toList.map a.eval ++ lb.toList = args.toList)
    (hcf : ∀ j ∈ conf i, Keeps w0 F L L (blk j)) (h : ∀ w', Sep w0 F L w' → wpT P ops blk conf flg Q (i + 1) rest (a.put o.dst v) w') : wpT P ops blk conf flg Q i (o :: rest) a w :=
  wpT_act (by unfold ckCls; rw [ho]) hw (by
    have e : xs.map a.eval ++ lb = args := by rw [← Array.toList_inj, Array.toList_append, Array.toList_map]; exact ha
    have hrun : (execOp a.eval o).run P w = .ok (.enter gf args) w := by
      unfold execOp
      simp only [ho, resolve, hx]
      simp [invoke, go_sem, eg, e]
    unfold Oper.wp
    rw [hrun]
    exact hC.call0 hS fun w' hS' => ⟨fun j hj => (hcf j hj).out hS hS', h w' hS'⟩)
theorem plainOne_ct (x y : Int) : Ct Tryz.prog 75 #[.int .i64 x, .int .i64 y] [] (Gives (.bool (x == y)) []) := by
  intro w0 F L w hS
  simp only [List.cons_append, List.nil_append] at hS
  go_enter Tryz.func75, Tryz.ntmps75
  go_wp2_with (first | go_skip )
  go_ret
  exact ⟨_, ⟨rfl, rfl⟩, hS⟩
section
variable {w0 w : World} {F : List Nat} {L : List Res} {A1 A2 : Option Addr} {c1 c2 : Nat} {xs ys : List Int}
set_option maxHeartbeats 1000000 in
theorem same_calls (hS : Sep w0 F L w) (h1 : Rd w0 F L A1 (vZ xs)) (h2 : Rd w0 F L A2 (vZ ys)) (hl1 : xs.length ≤ 1000000000) (hl2 : ys.length ≤ 1000000000) :
    Calls Tryz.prog 74 #[.slice A1 xs.length c1, .slice A2 ys.length c2, .func (.func 75) #[] #[]] w (CkR (Gives (.bool (decide (xs = ys))) []) w0 F L) := by
  have eg : ∀ u w, (callFunc 75 u).run Tryz.prog w = .ok (.enter 75 u) w := fun _ => run_enter (by kernel_rfl)
  obtain ⟨n, hn⟩ : ∃ n, xs.length = n := ⟨_, rfl⟩
  obtain ⟨m, hm⟩ : ∃ m, ys.length = m := ⟨_, rfl⟩
  rw [hn, hm]
  rw [hn] at hl1; rw [hm] at hl2
  by_cases hnm : n = m
  · subst hnm
    go_enter Tryz.func74, Tryz.ntmps74
    go_wp2_with (first | go_skip  | (refine ck_region (fun _ => 0) (fun _ => []) [] hS (by kernel_rfl) (by decide +kernel) ?_ ?_; exact ⟨fun _ _ _ h => h.2, fun _ _ h => h⟩; clear hS; intro w hS _; (repeat (first | (apply wpT_pure rfl rfl; (intro _; go_simp; (try (go_ints; (try go_simp))); (first | (rw [decide_eq_true]; omega) | (rw [decide_eq_false]; omega) | rfl | rw [if_pos (by omega)])); simp only [Act.put, spA, spZ, spS]) | (refine ckT_load hS rfl rfl rfl (by simp <;> fail) (by (repeat (first | exact mH _ | apply mT)) <;> fail) rfl (by decide +kernel) ?_; simp only [Act.put, spA, spZ, spS]) )); refine wpT_nil ?_))
    go_loopg [7] (n + 1) (fun g s wx => ∃ k : Nat, k + g = n + 1 ∧ k ≤ n ∧ s = .int .i64 k ∧ xs.take k = ys.take k ∧ Sep w0 F L wx)
    case atStart => exact ⟨0, by omega, by omega, rfl, rfl, hS⟩
    case round =>
      obtain ⟨k, hkg, hkn, rfl, htk, hS⟩ := hrel
      generalize wr = w at hS ⊢
      by_cases hk : k < n
      · obtain ⟨p, hp⟩ : ∃ p, xs[k]? = some p := ⟨xs[k], List.getElem?_eq_getElem (by omega)⟩
        obtain ⟨q, hq⟩ : ∃ q, ys[k]? = some q := ⟨ys[k], List.getElem?_eq_getElem (by omega)⟩
        have hp' : (vZ xs)[k]? = some (.int .i64 p) := by simp [hp]
        have hq' : (vZ ys)[k]? = some (.int .i64 q) := by simp [hq]
        obtain ⟨b1, o1, _, _, _, rfl, _, _⟩ := h1 w hS k _ hp'
        obtain ⟨b2, o2, _, _, _, rfl, _, _⟩ := h2 w hS k _ hq'
        by_cases he : p = q
        · have he' : (p == q) = true := beq_iff_eq.2 he
          have ht1 : xs.take (k + 1) = ys.take (k + 1) := by rw [List.take_add_one, List.take_add_one, htk, hp, hq, he]
          clear he htk hp hq hn hm
          go_wp2_with (first | go_skip  | (refine ck_region (fun _ => 0) (fun _ => []) [] hS (by kernel_rfl) (by decide +kernel) ?_ ?_; exact ⟨fun _ _ _ h => h.2, fun _ _ h => h⟩; clear hS; intro w hS _; (repeat (first | (apply wpT_pure rfl rfl; (intro _; go_simp; (try (go_ints; (try go_simp))); (first | (rw [decide_eq_true]; omega) | (rw [decide_eq_false]; omega) | rfl | rw [if_pos (by omega)])); simp only [Act.put, spA, spZ, spS]) | (refine ckT_load hS rfl rfl rfl (by simp <;> fail) (by (repeat (first | exact mH _ | apply mT)) <;> fail) rfl (by decide +kernel) ?_; simp only [Act.put, spA, spZ, spS]) | (refine ckT_loadRd hS h1 rfl rfl rfl rfl (by simp) hp' (by decide +kernel) ?_; simp only [Act.put, spA, spZ, spS]) | (refine ckT_loadRd hS h2 rfl rfl rfl rfl (by simp) hq' (by decide +kernel) ?_; simp only [Act.put, spA, spZ, spS]) | (refine ckT_callV0 hS rfl (plainOne_ct p q) eg rfl rfl rfl (by simp) ?_; clear hS; intro w hS; simp only [Act.put, spA, spZ, spS]))); refine wpT_nil ?_))
          go_roundg (n - k)
          case rel => exact ⟨k + 1, by omega, by omega, by go_num, ht1, hS⟩
          case measure => omega
        · have he' : (p == q) = false := beq_eq_false_iff_ne.2 he
          have hne : decide (xs = ys) = false := decide_eq_false fun e => he (by rw [e] at hp; rw [hp] at hq; injection hq)
          clear he htk hp hq hn hm
          go_wp2_with (first | go_skip  | (refine ck_region (fun _ => 0) (fun _ => []) [] hS (by kernel_rfl) (by decide +kernel) ?_ ?_; exact ⟨fun _ _ _ h => h.2, fun _ _ h => h⟩; clear hS; intro w hS _; (repeat (first | (apply wpT_pure rfl rfl; (intro _; go_simp; (try (go_ints; (try go_simp))); (first | (rw [decide_eq_true]; omega) | (rw [decide_eq_false]; omega) | rfl | rw [if_pos (by omega)])); simp only [Act.put, spA, spZ, spS]) | (refine ckT_load hS rfl rfl rfl (by simp <;> fail) (by (repeat (first | exact mH _ | apply mT)) <;> fail) rfl (by decide +kernel) ?_; simp only [Act.put, spA, spZ, spS]) | (refine ckT_loadRd hS h1 rfl rfl rfl rfl (by simp) hp' (by decide +kernel) ?_; simp only [Act.put, spA, spZ, spS]) | (refine ckT_loadRd hS h2 rfl rfl rfl rfl (by simp) hq' (by decide +kernel) ?_; simp only [Act.put, spA, spZ, spS]) | (refine ckT_callV0 hS rfl (plainOne_ct p q) eg rfl rfl rfl (by simp) ?_; clear hS; intro w hS; simp only [Act.put, spA, spZ, spS]))); refine wpT_nil ?_))
          go_ret
          exact ⟨_, ⟨by rw [hne]; rfl, rfl⟩, hS⟩
      · have hkn' : k = n := by omega
        subst hkn'
        have hall : decide (xs = ys) = true := by
          rw [decide_eq_true_eq]
          have e1 : xs.take k = xs := List.take_of_length_le (by omega)
          have e2 : ys.take k = ys := List.take_of_length_le (by omega)
          rw [← e1, ← e2]; exact htk
        clear htk hn hm
        go_wp2_with (first | go_skip  | (refine ck_region (fun _ => 0) (fun _ => []) [] hS (by kernel_rfl) (by decide +kernel) ?_ ?_; exact ⟨fun _ _ _ h => h.2, fun _ _ h => h⟩; clear hS; intro w hS _; (repeat (first | (apply wpT_pure rfl rfl; (intro _; go_simp; (try (go_ints; (try go_simp))); (first | (rw [decide_eq_true]; omega) | (rw [decide_eq_false]; omega) | rfl | rw [if_pos (by omega)])); simp only [Act.put, spA, spZ, spS]) | (refine ckT_load hS rfl rfl rfl (by simp <;> fail) (by (repeat (first | exact mH _ | apply mT)) <;> fail) rfl (by decide +kernel) ?_; simp only [Act.put, spA, spZ, spS]) )); refine wpT_nil ?_))
        go_ret
        exact ⟨_, ⟨by rw [hall]; rfl, rfl⟩, hS⟩
  · have hne : decide (xs = ys) = false := decide_eq_false fun e => hnm (by rw [← hn, ← hm, e])
    clear hn hm
    go_enter Tryz.func74, Tryz.ntmps74
    go_wp2_with (first | go_skip  | (refine ck_region (fun _ => 0) (fun _ => []) [] hS (by kernel_rfl) (by decide +kernel) ?_ ?_; exact ⟨fun _ _ _ h => h.2, fun _ _ h => h⟩; clear hS; intro w hS _; (repeat (first | (apply wpT_pure rfl rfl; (intro _; go_simp; (try (go_ints; (try go_simp))); (first | (rw [decide_eq_true]; omega) | (rw [decide_eq_false]; omega) | rfl | rw [if_pos (by omega)])); simp only [Act.put, spA, spZ, spS]) | (refine ckT_load hS rfl rfl rfl (by simp <;> fail) (by (repeat (first | exact mH _ | apply mT)) <;> fail) rfl (by decide +kernel) ?_; simp only [Act.put, spA, spZ, spS]) )); refine wpT_nil ?_))
    go_ret
    exact ⟨_, ⟨by rw [hne]; rfl, rfl⟩, hS⟩
theorem plain_calls (hS : Sep w0 F L w) (h1 : Rd w0 F L A1 (vZ xs)) (h2 : Rd w0 F L A2 (vZ ys)) (hl1 : xs.length ≤ 1000000000) (hl2 : ys.length ≤ 1000000000) :
    Calls Tryz.prog 37 #[.slice A1 xs.length c1, .slice A2 ys.length c2] w (CkR (Gives (.bool (decide (xs = ys))) []) w0 F L) := by
  go_enter Tryz.func37, Tryz.ntmps37
  go_wp2_with (first | go_skip | (go_at_call 74; refine Ct.out (same_calls hS h1 h2 hl1 hl2) ?_; clear hS; intro w hS))
  go_ret
  exact ⟨_, ⟨rfl, rfl⟩, hS⟩
end
end Go.Proofs.YtcegknecikbbkaaGreat

/- What the library's slices of whole numbers come to. -/
set_option linter.unusedVariables false
set_option linter.unusedSimpArgs false
set_option maxRecDepth 4000
namespace Go.Proofs.YtcegknecikbbkaaGreat
open Go.RowKit
section
variable {P : Program} {w w0 : World} {F : List Nat} {L L0 : List Res} {ops : Array Oper} {Q : Exit → Act → World → Prop} {rest : List Oper} {o : Oper} {a : Act} {t tn e : TypeId} {x y : Operand} {n m c cap sz : Nat} {k : IntKind} {xs news : List Value} {ad ax : Option Addr}
theorem exec_append2 (ho : o.op = .call { callee := .builtin .append, args := #[x, y], argTypes := #[t, tn] }) {vx vy v : Value} {w' : World} (hx : a.eval x = vx) (hy : a.eval y = vy) (h : ∀ ty, (Builtin.append_ #[t, tn] ty #[vx, vy]).run P w = .ok v w') : (execOp a.eval o).run P w = .ok (.value v) w' := by
  unfold execOp
  simp [ho, resolve, invoke, builtin, hx, hy, h, Result.andThen, Sem.run_bind]
theorem ck_appZeros (n : Nat) (hS : Sep w0 F L w) (ho : o.op = .call { callee := .builtin .append, args := #[x, y], argTypes := #[t, tn] }) (hw : Region.wanted o (yielded ops a.tmps) = true) (hx : a.eval x = .slice none 0 0) (hy : a.eval y = .int k n)
    (ht : ckSlice P t e 1 = true) {kn : IntKind} (htn : P.underlying tn = some (.int kn)) (h0 : 0 < n) (hsm : n ≤ 1000000000)
    (h : ∀ (g cap : Nat) (cs : List Value) (w' : World), cap ≤ maxLen → cs.length = cap → Sep w0 F (pts g cs e :: L) w' → wpList P ops Q rest (a.put o.dst (.slice (some ⟨g, 0, none⟩) n cap)) w') : wpList P ops Q (o :: rest) a w := by
  obtain ⟨hu, i, z, hi, hz, hs, hb, hzs⟩ := ckSlice.out ht
  have hp : n * i.bytes ≤ 1000000000 * 1024 := Nat.mul_le_mul hsm hb
  have hrun := fun ty => Lib.run_append_nil_zeros (P := P) w t tn ty e i z k kn hu htn hi hz n h0 (by omega) (by omega) (by omega)
  refine wpList_val hw (exec_append2 ho hx hy hrun) (h _ _ (Builtin.zeroCells z.cells n ++ Builtin.zeroCells z.cells (grownCap w n 0 e - n)).toList _ (grownCap_le_maxLen _ _ _ _ (by unfold maxLen; omega)) ?_ ?_)
  · have hge := grownCap_ge w n 0 e
    simp only [Array.toList_append, List.length_append, Array.length_toList, size_zeroCells, hzs]; omega
  · have := hS.drew.alloc (Builtin.zeroCells z.cells n ++ Builtin.zeroCells z.cells (grownCap w n 0 e - n)).toList e
    rw [Array.toArray_toList] at this
    exact this
theorem run_appendNo (ht : ckSlice P t e sz = true) (hle : n ≤ cap) (ty : TypeId) : (Builtin.append_ #[t, t] ty #[.slice ad n cap, .slice ax 0 c]).run P w = .ok (.slice ad n cap) w := by
  obtain ⟨hu, i, z, hi, hz, hs, hb, hzs⟩ := ckSlice.out ht
  cases ad <;> cases ax <;> simp [Builtin.append_, run_underlying hu, sizeOf, typeInfo, hi, Builtin.lenOf, Builtin.firstCells, hle, storeCells] <;> rfl
/-- Of whatever is read, so many, to a row. -/
theorem ck_appRd (hS : Sep w0 F L w) (ho : o.op = .call { callee := .builtin .append, args := #[x, y], argTypes := #[t, t] }) (hw : Region.wanted o (yielded ops a.tmps) = true) (hx : a.eval x = .slice ad n cap) (hy : a.eval y = .slice ax m c)
    (hr : Rem L (rowR ad n cap e 1 xs) L0) (hR : Rd w0 F L ax news) (hl : news.length = m) (hone : ∀ u ∈ news, u.oneCell' = true) (hsm : n + m ≤ 1000000000) (ht : ckSlice P t e 1 = true) {n' : Nat} (hn' : n + m = n')
    (h : ∀ (ad' : Option Addr) (cap' : Nat) (w' : World), Sep w0 F (rowR ad' n' cap' e 1 (xs ++ news) :: L0) w' → wpList P ops Q rest (a.put o.dst (.slice ad' n' cap')) w') : wpList P ops Q (o :: rest) a w := by
  subst hn'
  by_cases h0 : 0 < m
  · obtain ⟨b, off, cs, T, fz, rfl, _, _⟩ := hR w hS 0 news[0] (List.getElem?_eq_getElem (by omega))
    obtain ⟨g', cap', w', hrun, h1⟩ := append_any (c := c) hS hr ht (cells_rd hS hR) (by omega) hone h0 hsm 0
    have hrun' : ∀ ty, (Builtin.append_ #[t, t] ty #[.slice ad n cap, .slice (some ⟨b, off, none⟩) m c]).run P w = .ok (.slice (some ⟨g', 0, none⟩) (n + m) cap') w' := fun _ => hrun
    exact wpList_val hw (exec_append ho hx hy hrun') (h _ _ _ h1)
  · obtain rfl : m = 0 := by omega
    obtain rfl : news = [] := List.eq_nil_of_length_eq_zero hl
    have h1 := hS.bring hr
    have hle : n ≤ cap := by
      rcases h1.openRow with ⟨_, rfl, rfl, _⟩ | ⟨_, _, _, _, hle, _⟩
      · omega
      · exact hle
    refine wpList_val hw (exec_append ho hx hy (fun ty => run_appendNo ht hle ty)) (h _ _ _ ?_)
    rw [List.append_nil]; exact h1
theorem Sep.setCells {g : Nat} {T : TypeId} : ∀ (vs cs : List Value) (p : Nat) (w : World), Sep w0 F (pts g cs T :: L) w → ∃ cs' : List Value, Sep w0 F (pts g cs' T :: L) (w.setCells g p vs) ∧ cs'.length = cs.length ∧ ∀ j, j < p → cs'[j]? = cs[j]?
  | [], cs, p, w, h => ⟨cs, h, rfl, fun _ _ => rfl⟩
  | v :: r, cs, p, w, h => by
    obtain ⟨cs', h1, h2, h3⟩ := Sep.setCells r (cs.set p v) (p + 1) (w.setCell ⟨g, p, none⟩ v) (h.setCell v (.here _ _ _))
    exact ⟨cs', h1, by simpa using h2, fun j hj => by rw [h3 j (by omega), List.getElem?_set_ne (by omega)]⟩
theorem ck_clearTail {g p k kc : Nat} {z : Value} (hS : Sep w0 F L w) (ho : o.op = .call { callee := .builtin .clear, args := #[x], argTypes := #[t] }) (hw : Region.wanted o (yielded ops a.tmps) = true) (hx : a.eval x = .slice (some ⟨g, p, none⟩) k kc)
    (hr : Rem L (rowR (some ⟨g, 0, none⟩) n cap e 1 xs) L0) (hpk : p + k = n) (h0 : 0 < k) (ht : P.underlying t = some (.slice e)) (hz : (P.info? e).bind (·.zero) = some z) (hz1 : z.cells = #[z]) (hz2 : z.oneCell' = true)
    (h : ∀ w', Sep w0 F (rowR (some ⟨g, 0, none⟩) p cap e 1 (xs.take p) :: L0) w' → wpList P ops Q rest (a.put o.dst (.tuple #[])) w') : wpList P ops Q (o :: rest) a w := by
  rcases (hS.bring hr).openRow with ⟨h1, _⟩ | ⟨g', re, h1, h3, h4, h5, h6, h7⟩
  · cases h1
  · injection h1 with h1; injection h1 with h1 _ _; subst h1
    have hp : (pts g (xs ++ re) e).holds w := h7.holds _ (by simp)
    have hzero : ∀ w, (zeroValue e).run P w = .ok z w := fun w => by
      cases hq : P.info? e with
      | none => simp [hq] at hz
      | some i => have hz' : i.zero = some z := by simpa [hq] using hz
                  simp [zeroValue, typeInfo, hq, hz']
    have hrun := fun ty => Lib.run_clear_slice (P := P) w t e ty z ht hzero hz1 hz2 g p k kc h0
      (fun j hj => by rw [pts_cell hp (List.getElem?_eq_getElem (show p + j < (xs ++ re).length by rw [List.length_append]; omega))]; rfl) (fun j hj => pts_frozen hp)
    obtain ⟨cs', k1, k2, k3⟩ := h7.setCells (List.replicate k z) _ p w
    refine wpList_val hw (v := .tuple #[]) (w' := w.setCells g p (List.replicate k z)) ?_ (h _ ?_)
    · unfold execOp
      simp [ho, resolve, invoke, builtin, hx, hrun, Result.andThen, Sem.run_bind]
    · have hcs : cs' = xs.take p ++ cs'.drop p := by
        have e1 : cs'.take p = xs.take p := by
          apply List.ext_getElem?
          intro i
          by_cases hi : i < p
          · rw [List.getElem?_take_of_lt hi, List.getElem?_take_of_lt hi, k3 i hi, List.getElem?_append_left (by omega)]
          · rw [List.getElem?_eq_none (by simp; omega), List.getElem?_eq_none (by simp; omega)]
        rw [← e1, List.take_append_drop]
      refine k1.shut (xs.take p) (cs'.drop p) hcs (by rw [List.length_take]; omega) (by omega) h5 (by omega)
end
theorem grow_ct (n : Nat) (hn : n ≤ 1000000) : Ct Tryz.prog 170 #[.slice none 0 0, .int .i64 n] [] (fun v L => ∃ ad cp, v = .slice ad 0 cp ∧ L = [rowR ad 0 cp 3 1 []]) := by
  by_cases h0 : 0 < n
  · have hn0 : ¬ (n : Int) < 0 := by omega
    intro w0 F L w hS
    simp only [List.cons_append, List.nil_append] at hS
    go_enter Tryz.func170, Tryz.ntmps170
    go_wp2_with (first | go_skip | (refine ck_appZeros (e := 3) (kn := .i64) n hS rfl rfl rfl rfl (by decide +kernel) (by kernel_rfl) h0 (by omega) ?_; clear hS; intro g cp cs w hcm hcl hS; simp only [Act.put, spA, spZ, spS]))
    go_ret
    exact ⟨_, ⟨_, _, rfl, rfl⟩, hS.shut [] cs rfl (by simp) (by omega) hcm (by omega)⟩
  · obtain rfl : n = 0 := by omega
    intro w0 F L w hS
    simp only [List.cons_append, List.nil_append] at hS
    go_enter Tryz.func170, Tryz.ntmps170
    go_wp2_with (first | go_skip )
    go_ret
    exact ⟨_, ⟨none, 0, rfl, rfl⟩, hS.nilRow⟩
theorem rd_row {w0 : World} {F : List Nat} {L : List Res} {a : Option Addr} {n cap : Nat} {e : TypeId} {xs : List Value} (hm : rowR a n cap e 1 xs ∈ L) : Rd w0 F L a xs := Rd.row hm
set_option maxHeartbeats 1000000 in
theorem concat_ct (q n1 c1 n2 c2 n : Nat) (a1 a2 : Option Addr) (xs ys : List Int) (h1 : xs.length = n1) (h2 : ys.length = n2) (hn : n1 + n2 = n) (hsm : n ≤ 100000) :
    Ct Tryz.prog 122 #[.slice (some ⟨q, 0, none⟩) 2 2] [pts q [.slice a1 n1 c1, .slice a2 n2 c2] 33, rowR a1 n1 c1 3 1 (vZ xs), rowR a2 n2 c2 3 1 (vZ ys)]
      (fun v L => ∃ ad cp, v = .slice ad n cp ∧ L = [rowR ad n cp 3 1 (vZ (xs ++ ys)), pts q [.slice a1 n1 c1, .slice a2 n2 c2] 33, rowR a1 n1 c1 3 1 (vZ xs), rowR a2 n2 c2 3 1 (vZ ys)]) := by
  have kG := grow_ct n (by omega)
  have hni : (n1 : Int) + (n2 : Int) = n := by omega
  have l1 : (vZ xs).length = n1 := by simpa using h1
  have l2 : (vZ ys).length = n2 := by simpa using h2
  have e0 : ([] : List Value) ++ vZ xs = vZ xs := rfl
  have e1 : vZ xs ++ vZ ys = vZ (xs ++ ys) := by simp
  clear h1 h2
  intro w0 F L w hS
  simp only [List.cons_append, List.nil_append] at hS
  go_enter Tryz.func122, Tryz.ntmps122
  go_wp2_with (first | go_skip | (refine ck_load hS rfl rfl rfl (by (repeat (first | exact mH _ | apply mT)) <;> fail) rfl (by decide +kernel) ?_; simp only [Act.put, spA, spZ, spS]) )
  refine wp_loop_rounds 3 ?_; rw [rounds_succ]
  go_wp2_with (first | go_skip | (refine ck_load hS rfl rfl rfl (by (repeat (first | exact mH _ | apply mT)) <;> fail) rfl (by decide +kernel) ?_; simp only [Act.put, spA, spZ, spS]) | (with_reducible rw [rounds_succ]))
  clear hni
  go_wp2_with (first | go_skip | (refine ck_load hS rfl rfl rfl (by (repeat (first | exact mH _ | apply mT)) <;> fail) rfl (by decide +kernel) ?_; simp only [Act.put, spA, spZ, spS]) | (go_at_call 170; (refine Ct.callN (kG) hS ?_); clear hS; rintro _ _ w ⟨ad, cp, rfl, rfl⟩ hS; simp only [List.cons_append, List.nil_append] at hS))
  refine wp_loop_rounds 3 ?_; rw [rounds_succ]
  go_wp2_with (first | go_skip | (refine ck_load hS rfl rfl rfl (by (repeat (first | exact mH _ | apply mT)) <;> fail) rfl (by decide +kernel) ?_; simp only [Act.put, spA, spZ, spS]) | (with_reducible rw [rounds_succ]) | (refine ck_appRd (e := 3) (n := 0) (n' := n1) (news := vZ xs) (xs := []) hS rfl rfl rfl rfl (by (repeat (first | exact rH _ _ | apply rT)) <;> fail) (rd_row (by (repeat (first | exact mH _ | apply mT)) <;> fail)) l1 (by simp [Value.oneCell']) (by omega) (by decide +kernel) (by omega) ?_; clear hS; intro ad1 cp1 w hS; simp only [Act.put, spA, spZ, spS]) | (refine ck_appRd (e := 3) (n := n1) (n' := n) (news := vZ ys) (xs := [] ++ vZ xs) hS rfl rfl rfl rfl (by (repeat (first | exact rH _ _ | apply rT)) <;> fail) (rd_row (by (repeat (first | exact mH _ | apply mT)) <;> fail)) l2 (by simp [Value.oneCell']) (by omega) (by decide +kernel) hn ?_; clear hS; intro ad2 cp2 w hS; simp only [Act.put, spA, spZ, spS]))
  go_ret
  rw [e0, e1] at hS
  exact ⟨_, ⟨_, _, rfl, rfl⟩, hS⟩
theorem remove1_ct (s : Nat) (x k : Int) : Ct Tryz.prog 123 #[.int .i64 x, .pointer (some ⟨s, 0, none⟩)] [pts s [.int .i64 k] 3] (Gives (.bool (x == k)) [pts s [.int .i64 k] 3]) := by
  intro w0 F L w hS
  simp only [List.cons_append, List.nil_append] at hS
  show Calls _ _ #[_, _] _ _
  go_enter Tryz.func123, Tryz.ntmps123
  go_wp2_with (first | go_skip | (refine ck_load hS rfl rfl rfl (by (repeat (first | exact mH _ | apply mT)) <;> fail) rfl (by decide +kernel) ?_; simp only [Act.put, spA, spZ, spS]) )
  go_ret
  exact ⟨_, ⟨rfl, rfl⟩, hS⟩
/-- The first place of a number; -1: none. -/
def idxZ (xs : List Int) (k : Int) : Int := if k ∈ xs then (xs.idxOf k : Nat) else -1
abbrev rmF (s : Nat) : Value := .func (.func 123) #[] #[.pointer (some ⟨s, 0, none⟩)]
theorem rm_eg : ∀ u w, (callFunc 123 u).run Tryz.prog w = .ok (.enter 123 u) w := fun _ => run_enter (by kernel_rfl)
set_option maxHeartbeats 1000000 in
theorem indexFunc_ct (s n c : Nat) (a : Option Addr) (xs : List Int) (k : Int) (h1 : xs.length = n) (hn : n ≤ 100000) :
    Ct Tryz.prog 171 #[.slice a n c, rmF s] [rowR a n c 3 1 (vZ xs), pts s [.int .i64 k] 3] (Gives (.int .i64 (idxZ xs k)) [rowR a n c 3 1 (vZ xs), pts s [.int .i64 k] 3]) := by
  have eg := rm_eg
  intro w0 F L w hS
  simp only [List.cons_append, List.nil_append] at hS
  go_enter Tryz.func171, Tryz.ntmps171
  go_wp2_with (first | go_skip | (refine ck_load hS rfl rfl rfl (by (repeat (first | exact mH _ | apply mT)) <;> fail) rfl (by decide +kernel) ?_; simp only [Act.put, spA, spZ, spS]) )
  go_loopg [8] (n + 1) (fun g s8 wx => ∃ i : Nat, i + g = n + 1 ∧ i ≤ n ∧ s8 = .int .i64 i ∧ k ∉ xs.take i ∧ Sep w0 F (rowR a n c 3 1 (vZ xs) :: pts s [.int .i64 k] 3 :: L) wx)
  case atStart => exact ⟨0, by omega, by omega, rfl, by simp, hS⟩
  case round =>
    obtain ⟨i, hig, hin, rfl, hk, hS⟩ := hrel
    generalize wr = w at hS ⊢
    by_cases hi : i < n
    · obtain ⟨x, hx⟩ : ∃ x, xs[i]? = some x := ⟨xs[i], List.getElem?_eq_getElem (by omega)⟩
      have hx' : (vZ xs)[i]? = some (.int .i64 x) := by simp [hx]
      obtain ⟨g, rfl⟩ := hS.rowSome (a := a) (n := n) (cap := c) (e := 3) (sz := 1) (xs := vZ xs) (by (repeat (first | exact mH _ | apply mT)) <;> fail) (by omega)
      have kR := remove1_ct s x k
      by_cases hxk : x = k
      · have hxk' : (x == k) = true := by simpa using hxk
        have hres : idxZ xs k = i := by
          have hm : k ∈ xs := by rw [← hxk]; exact List.mem_of_getElem? hx
          unfold idxZ
          rw [if_pos hm]
          have h2 : xs = xs.take i ++ x :: xs.drop (i + 1) := by
            have := List.take_append_drop i xs
            rw [List.drop_eq_getElem_cons (by omega)] at this
            rw [List.getElem?_eq_getElem (by omega)] at hx
            injection hx with hx
            rw [hx] at this; exact this.symm
          rw [h2, List.idxOf_append, if_neg hk, hxk, List.idxOf_cons_self, List.length_take]
          omega
        clear hk hx hxk h1
        go_wp2_with (first | go_skip | (refine ck_load hS rfl rfl rfl (by (repeat (first | exact mH _ | apply mT)) <;> fail) rfl (by decide +kernel) ?_; simp only [Act.put, spA, spZ, spS]) | (refine ck_loadRow hS rfl rfl rfl (by (repeat (first | exact mH _ | apply mT)) <;> fail) hx' (by decide +kernel) ?_; simp only [Act.put, spA, spZ, spS]) | (go_at_call 123; (with_reducible refine Ct.callU (kR) (by (repeat (first | exact uH _ _ _ | apply uT)) <;> fail) hS ?_) <;> (first | (clear hS; intro w hS) | omega)))
        go_ret
        exact ⟨_, ⟨congrArg (Value.int .i64) hres.symm, rfl⟩, hS⟩
      · have hxk' : (x == k) = false := by simpa using hxk
        have hk2 : k ∉ xs.take (i + 1) := by
          rw [List.take_add_one, hx]
          simp only [Option.toList_some, List.mem_append, List.mem_singleton]
          rintro (h | h)
          · exact hk h
          · exact hxk h.symm
        clear hk hx hxk h1
        go_wp2_with (first | go_skip | (refine ck_load hS rfl rfl rfl (by (repeat (first | exact mH _ | apply mT)) <;> fail) rfl (by decide +kernel) ?_; simp only [Act.put, spA, spZ, spS]) | (refine ck_loadRow hS rfl rfl rfl (by (repeat (first | exact mH _ | apply mT)) <;> fail) hx' (by decide +kernel) ?_; simp only [Act.put, spA, spZ, spS]) | (go_at_call 123; (with_reducible refine Ct.callU (kR) (by (repeat (first | exact uH _ _ _ | apply uT)) <;> fail) hS ?_) <;> (first | (clear hS; intro w hS) | omega)))
        go_roundg (n - i)
        case rel => exact ⟨i + 1, by omega, by omega, by go_num, hk2, hS⟩
        case measure => omega
    · obtain rfl : i = n := by omega
      have hres : idxZ xs k = -1 := by
        rw [List.take_of_length_le (by omega)] at hk
        unfold idxZ; rw [if_neg hk]
      clear hk h1
      go_wp2_with (first | go_skip | (refine ck_load hS rfl rfl rfl (by (repeat (first | exact mH _ | apply mT)) <;> fail) rfl (by decide +kernel) ?_; simp only [Act.put, spA, spZ, spS]) )
      go_ret
      exact ⟨_, ⟨congrArg (Value.int .i64) hres.symm, rfl⟩, hS⟩
theorem filter_cons_take {xs : List Int} {k x : Int} {j : Nat} (hx : xs[j]? = some x) : (xs.take (j + 1)).filter (· ≠ k) = (xs.take j).filter (· ≠ k) ++ (if x = k then [] else [x]) := by
  rw [List.take_add_one, hx, List.filter_append]
  congr 1
  by_cases h : x = k <;> simp [h]
set_option maxHeartbeats 4000000 in
theorem deleteFunc_ct (s n c : Nat) (a : Option Addr) (xs : List Int) (k : Int) (h1 : xs.length = n) (hn : n ≤ 100000) (m : Nat) (hm : (xs.filter (· ≠ k)).length = m) :
    Ct Tryz.prog 124 #[.slice a n c, rmF s] [rowR a n c 3 1 (vZ xs), pts s [.int .i64 k] 3] (Gives (.slice a m c) [rowR a m c 3 1 (vZ (xs.filter (· ≠ k))), pts s [.int .i64 k] 3]) := by
  have kI := indexFunc_ct s n c a xs k h1 hn
  by_cases hk : k ∈ xs
  · obtain ⟨i0, hi0⟩ : ∃ i0 : Nat, xs.idxOf k = i0 := ⟨_, rfl⟩
    have hi0n : i0 < n := by rw [← hi0, ← h1]; exact List.idxOf_lt_length_iff.2 hk
    have hidx : idxZ xs k = i0 := by unfold idxZ; rw [if_pos hk, hi0]
    have hx0 : xs[i0]? = some k := by rw [List.getElem?_eq_getElem (by omega)]; subst hi0; simp
    have htake : (xs.take i0).filter (· ≠ k) = xs.take i0 := by
      apply List.filter_eq_self.2
      intro y hy
      have : y ≠ k := fun e => by
        subst e
        have h2 := List.idxOf_lt_length_iff.2 hy
        have h3 : (xs.take i0).idxOf y < i0 := by rw [List.length_take] at h2; omega
        have h4 : xs.idxOf y = (xs.take i0).idxOf y := by
          conv => lhs; rw [← List.take_append_drop i0 xs]
          rw [List.idxOf_append, if_pos hy]
        omega
      simpa using this
    rw [hidx] at kI
    have hm2 : m < n := by
      rw [← hm, ← h1]
      exact List.length_filter_lt_length_iff_exists.2 ⟨k, hk, by simp⟩
    intro w0 F L w hS
    simp only [List.cons_append, List.nil_append] at hS
    obtain ⟨g, rfl⟩ := hS.rowSome (a := a) (n := n) (cap := c) (e := 3) (sz := 1) (xs := vZ xs) (by (repeat (first | exact mH _ | apply mT)) <;> fail) (by omega)
    have hcap := (hS.rowFacts (a := some ⟨g, 0, none⟩) (n := n) (cap := c) (e := 3) (sz := 1) (xs := vZ xs) (by (repeat (first | exact mH _ | apply mT)) <;> fail))
    have hcn : n ≤ c := hcap.2.1
    have hne : ((i0 : Int) == -1) = false := beq_eq_false_iff_ne.2 (by omega)
    clear hidx hk
    go_enter Tryz.func124, Tryz.ntmps124
    go_wp2_with (first | go_skip | (refine ck_load hS rfl rfl rfl (by (repeat (first | exact mH _ | apply mT)) <;> fail) rfl (by decide +kernel) ?_; simp only [Act.put, spA, spZ, spS]) | (refine ck_store hS rfl rfl rfl (by constructor) (by (repeat (first | exact uH _ _ _ | apply uT)) <;> fail) (by simp <;> omega) rfl (by decide +kernel) ?_; clear hS; intro w hS; simp only [Act.put, spA, spZ, spS] at hS ⊢) | (go_at_call 171; (refine Ct.callG (kI) hS ?_); clear hS; intro w hS; simp only [List.cons_append, List.nil_append] at hS))
    go_loopg [5, 6] (n - i0) (fun gg s5 s6 wx => ∃ (i j : Nat) (cur : List Int), j + gg = n + 1 ∧ j ≤ n ∧ i < j ∧ s5 = .int .i64 i ∧ s6 = .int .i64 j ∧ cur.length = n ∧ cur.take i = (xs.take j).filter (· ≠ k) ∧ (∀ p, j ≤ p → cur[p]? = xs[p]?) ∧ Sep w0 F (rowR (some ⟨g, 0, none⟩) n c 3 1 (vZ cur) :: pts s [.int .i64 k] 3 :: L) wx)
    case atStart => exact ⟨i0, i0 + 1, xs, by omega, by omega, by omega, rfl, by go_num, h1, by rw [filter_cons_take hx0, if_pos rfl, List.append_nil, htake], fun _ _ => rfl, hS⟩
    case round =>
      obtain ⟨i, j, cur, hjg, hjn, hij, rfl, rfl, hcl, hct, hcd, hS⟩ := hrel
      generalize wr = w at hS ⊢
      by_cases hj : j < n
      · obtain ⟨x, hx⟩ : ∃ x, xs[j]? = some x := ⟨_, List.getElem?_eq_getElem (by omega)⟩
        have hx' : (vZ cur)[j]? = some (.int .i64 x) := by rw [List.getElem?_map, hcd j (Nat.le_refl _), hx]; rfl
        have kR := remove1_ct s x k
        have hf := filter_cons_take (k := k) hx
        by_cases hxk : x = k
        · have hxk' : (x == k) = true := by simpa using hxk
          rw [if_pos hxk, List.append_nil] at hf
          clear hx hxk h1 hm
          go_wp2_with (first | go_skip | (refine ck_load hS rfl rfl rfl (by (repeat (first | exact mH _ | apply mT)) <;> fail) rfl (by decide +kernel) ?_; simp only [Act.put, spA, spZ, spS]) | (refine ck_store hS rfl rfl rfl (by constructor) (by (repeat (first | exact uH _ _ _ | apply uT)) <;> fail) (by simp <;> omega) rfl (by decide +kernel) ?_; clear hS; intro w hS; simp only [Act.put, spA, spZ, spS] at hS ⊢) | (refine ck_loadRow hS rfl rfl rfl (by (repeat (first | exact mH _ | apply mT)) <;> fail) hx' (by decide +kernel) ?_; simp only [Act.put, spA, spZ, spS]) | (go_at_call 123; (with_reducible refine Ct.callU (kR) (by (repeat (first | exact uH _ _ _ | apply uT)) <;> fail) hS ?_) <;> (first | (clear hS; intro w hS) | omega)))
          go_roundg (n - j)
          case rel => exact ⟨i, j + 1, cur, by omega, by omega, by omega, by go_num, by go_num, hcl, by rw [hct, hf], fun p hp => hcd p (by omega), hS⟩
          case measure => omega
        · have hxk' : (x == k) = false := by simpa using hxk
          rw [if_neg hxk] at hf
          have hil : i < (vZ cur).length := by simp; omega
          have hvz : (vZ cur).set i (.int .i64 x) = vZ (cur.set i x) := by simp [List.map_set]
          have hct2 : (cur.set i x).take (i + 1) = (xs.take (j + 1)).filter (· ≠ k) := by
            rw [hf, ← hct, List.take_add_one, List.getElem?_set_self (by omega), List.take_set_of_le (Nat.le_refl _)]; rfl
          have hcl2 : (cur.set i x).length = n := by simpa using hcl
          clear hx hxk h1 hm hcl hf
          go_wp2_with (first | go_skip | (refine ck_load hS rfl rfl rfl (by (repeat (first | exact mH _ | apply mT)) <;> fail) rfl (by decide +kernel) ?_; simp only [Act.put, spA, spZ, spS]) | (refine ck_store hS rfl rfl rfl (by constructor) (by (repeat (first | exact uH _ _ _ | apply uT)) <;> fail) (by simp <;> omega) rfl (by decide +kernel) ?_; clear hS; intro w hS; simp only [Act.put, spA, spZ, spS] at hS ⊢) | (refine ck_loadRow hS rfl rfl rfl (by (repeat (first | exact mH _ | apply mT)) <;> fail) hx' (by decide +kernel) ?_; simp only [Act.put, spA, spZ, spS]) | (go_at_call 123; (with_reducible refine Ct.callU (kR) (by (repeat (first | exact uH _ _ _ | apply uT)) <;> fail) hS ?_) <;> (first | (clear hS; intro w hS) | omega)) | (refine ck_storeRow hS rfl rfl rfl (by constructor) (by (repeat (first | exact uH _ _ _ | apply uT)) <;> fail) hil rfl (by decide +kernel) ?_; clear hS; intro w hS; simp only [Act.put, spA, spZ, spS]))
          rw [hvz] at hS
          go_roundg (n - j)
          case rel => exact ⟨i + 1, j + 1, cur.set i x, by omega, by omega, by omega, by go_num, by go_num, hcl2, hct2, fun p hp => by rw [List.getElem?_set_ne (by omega)]; exact hcd p (by omega), hS⟩
          case measure => omega
      · obtain rfl : j = n := by omega
        have e3 : xs.take j = xs := List.take_of_length_le (by omega)
        rw [e3] at hct
        have hmi : m = i := by rw [← hm, ← hct, List.length_take]; omega
        have hvt : (vZ cur).take i = vZ (xs.filter (· ≠ k)) := by rw [← List.map_take, hct]
        subst hmi
        have hcm : ¬ c = m := by omega
        clear hm hct hcd hcl h1 htake hx0 e3
        go_wp2_with (first | go_skip | (refine ck_load hS rfl rfl rfl (by (repeat (first | exact mH _ | apply mT)) <;> fail) rfl (by decide +kernel) ?_; simp only [Act.put, spA, spZ, spS]) | (refine ck_store hS rfl rfl rfl (by constructor) (by (repeat (first | exact uH _ _ _ | apply uT)) <;> fail) (by simp <;> omega) rfl (by decide +kernel) ?_; clear hS; intro w hS; simp only [Act.put, spA, spZ, spS] at hS ⊢) | (refine ck_clearTail (e := 3) (z := .int .i64 0) (g := g) (p := m) (k := j - m) hS rfl rfl rfl (by (repeat (first | exact rH _ _ | apply rT)) <;> fail) (by omega) (by omega) (by kernel_rfl) (by kernel_rfl) rfl rfl ?_; clear hS; intro w hS; simp only [Act.put, spA, spZ, spS]))
        go_ret
        rw [hvt] at hS
        exact ⟨_, ⟨rfl, rfl⟩, hS⟩
  · have hidx : idxZ xs k = -1 := by unfold idxZ; rw [if_neg hk]
    have hf : xs.filter (· ≠ k) = xs := List.filter_eq_self.2 (fun y hy => by
      have : y ≠ k := fun e => hk (e ▸ hy)
      simpa using this)
    rw [hf] at hm ⊢
    rw [hidx] at kI
    obtain rfl : m = n := by omega
    clear hf hidx hk hm
    intro w0 F L w hS
    simp only [List.cons_append, List.nil_append] at hS
    go_enter Tryz.func124, Tryz.ntmps124
    go_wp2_with (first | go_skip | (refine ck_load hS rfl rfl rfl (by (repeat (first | exact mH _ | apply mT)) <;> fail) rfl (by decide +kernel) ?_; simp only [Act.put, spA, spZ, spS]) | (refine ck_store hS rfl rfl rfl (by constructor) (by (repeat (first | exact uH _ _ _ | apply uT)) <;> fail) (by simp <;> omega) rfl (by decide +kernel) ?_; clear hS; intro w hS; simp only [Act.put, spA, spZ, spS] at hS ⊢) | (go_at_call 171; (refine Ct.callG (kI) hS ?_); clear hS; intro w hS; simp only [List.cons_append, List.nil_append] at hS))
    go_ret
    exact ⟨_, ⟨rfl, rfl⟩, hS⟩
end Go.Proofs.YtcegknecikbbkaaGreat
