/- A region that draws its order: the order of the text suffices, if operations that no edge orders commute. -/
import Derived.WalkKit
set_option linter.unusedVariables false
set_option linter.unusedSimpArgs false
namespace Go.Proofs.Ytchejceolnbcbaa

/-- What an operation may do: 0 reckons only, 1 loads, 2 acts. -/
def ckCls (o : Oper) : Nat :=
  match o.op with
  | .move _ | .assign _ | .pick .. | .nilCheck _ | .binOp .. | .unOp .. | .convert .. | .fieldAddr .. | .field .. | .indexAddr .. | .index .. | .extract .. | .slice .. | .build .. | .makeFunc .. => 0
  | .load .. => 1
  | .call { callee := .builtin .len, .. } | .call { callee := .builtin .cap, .. } | .call { callee := .builtin .max, .. } | .call { callee := .builtin .min, .. } => 0
  | _ => 2

section
variable {P : Program} {ops : Array Oper} {Q : Exit → Act → World → Prop} {blk : Nat → Nat} {conf : Nat → List Nat} {flg : List Nat}

/-- What is known of an operation that does not act, at a frame: it is passed over, or it yields; and which block of the world it looks at. -/
def Quiet1 (P : Program) (ops : Array Oper) (o : Oper) (v : Value) (B : Option Nat) (w : World) (a : Act) : Prop :=
  (Region.wanted o (yielded ops a.tmps) = false ∧ v = undef) ∨
  (Region.wanted o (yielded ops a.tmps) = true ∧ ∀ w', (∀ b, B = some b → w'.heap[b]? = w.heap[b]?) → (execOp a.eval o).run P w' = .ok (.value v) w')

/-- One operation: what reckons only yields the same in every world; what loads tells its block, where it is flagged; what acts keeps the blocks of its conflicts. -/
def xOp (P : Program) (ops : Array Oper) (blk : Nat → Nat) (conf : Nat → List Nat) (flg : List Nat) (Q : Exit → Act → World → Prop) (i : Nat) (K : Act → World → Prop) (a : Act) (w : World) : Prop :=
  match ops[i]? with
  | none => K a w
  | some o =>
    if ckCls o = 2 then (if Region.wanted o (yielded ops a.tmps) = true then o.wp P a w (fun a' w' => (∀ j ∈ conf i, w'.heap[blk j]? = w.heap[blk j]?) ∧ K a' w') Q else K (a.put o.dst undef) w)
    else ∃ v B, (ckCls o = 0 → B = none) ∧ (∀ b, B = some b → i ∈ flg → b = blk i) ∧ Quiet1 P ops o v B w a ∧ K (a.put o.dst v) w

def wpX (P : Program) (ops : Array Oper) (blk : Nat → Nat) (conf : Nat → List Nat) (flg : List Nat) (Q : Exit → Act → World → Prop) : List Nat → Act → World → Prop
  | [], a, w => Q .normal a w
  | i :: rest, a, w => xOp P ops blk conf flg Q i (wpX P ops blk conf flg Q rest) a w

/-! ### The forms, laid open -/
theorem xOp_act {i : Nat} {o : Oper} (ho : ops[i]? = some o) (hc : ckCls o = 2) {K : Act → World → Prop} {a : Act} {w : World} :
    xOp P ops blk conf flg Q i K a w = if Region.wanted o (yielded ops a.tmps) = true then o.wp P a w (fun a' w' => (∀ j ∈ conf i, w'.heap[blk j]? = w.heap[blk j]?) ∧ K a' w') Q else K (a.put o.dst undef) w := by
  unfold xOp; simp only [ho]; rw [if_pos hc]
theorem xOp_quiet {i : Nat} {o : Oper} (ho : ops[i]? = some o) (hc : ckCls o ≠ 2) {K : Act → World → Prop} {a : Act} {w : World} :
    xOp P ops blk conf flg Q i K a w = ∃ v B, (ckCls o = 0 → B = none) ∧ (∀ b, B = some b → i ∈ flg → b = blk i) ∧ Quiet1 P ops o v B w a ∧ K (a.put o.dst v) w := by
  unfold xOp; simp only [ho]; rw [if_neg hc]

theorem xOp_mono {i : Nat} {K K' : Act → World → Prop} (h : ∀ a w, K a w → K' a w) {a : Act} {w : World} (hh : xOp P ops blk conf flg Q i K a w) : xOp P ops blk conf flg Q i K' a w := by
  cases ho : ops[i]? with
  | none => unfold xOp at *; simp only [ho] at *; exact h _ _ hh
  | some o =>
    by_cases hc : ckCls o = 2
    · rw [xOp_act ho hc] at *
      split
      · rename_i hw; rw [if_pos hw] at hh; exact Oper.wp_mono (fun _ _ hk => ⟨hk.1, h _ _ hk.2⟩) hh
      · rename_i hw; rw [if_neg hw] at hh; exact h _ _ hh
    · rw [xOp_quiet ho hc] at *
      obtain ⟨v, B, h1, h2, h3, h4⟩ := hh
      exact ⟨v, B, h1, h2, h3, h _ _ h4⟩

theorem xOp_wpOp {i : Nat} {K : Act → World → Prop} {a : Act} {w : World} (h : xOp P ops blk conf flg Q i K a w) : wpOp P ops Q i K a w := by
  unfold wpOp
  cases ho : ops[i]? with
  | none => unfold xOp at h; simp only [ho] at h; exact h
  | some o =>
    simp only []
    by_cases hc : ckCls o = 2
    · rw [xOp_act ho hc] at h
      split
      · rename_i hw; rw [if_pos hw] at h; exact .inl (Oper.wp_mono (fun _ _ hk => hk.2) h)
      · rename_i hw; rw [if_neg hw] at h; exact h
    · rw [xOp_quiet ho hc] at h
      obtain ⟨v, B, _, _, h3, h4⟩ := h
      rcases h3 with ⟨hw, rfl⟩ | ⟨hw, hr⟩
      · rw [if_neg (by simp [hw])]; exact h4
      · rw [if_pos hw]
        refine .inl ?_
        unfold Oper.wp
        rw [hr w (fun _ _ => rfl)]
        exact h4

/-- Whatever order. -/
def anyX (P : Program) (ops : Array Oper) (blk : Nat → Nat) (conf : Nat → List Nat) (flg : List Nat) (Q : Exit → Act → World → Prop) : Nat → Array Bool → Act → World → Prop
  | 0, listed, a, w => Region.ready .any ops listed = [] ∧ Q .normal a w
  | fuel + 1, listed, a, w =>
    (Region.ready .any ops listed = [] → Q .normal a w) ∧
    ∀ i ∈ Region.ready .any ops listed, xOp P ops blk conf flg Q i (anyX P ops blk conf flg Q fuel (listed.setIfInBounds i true)) a w

theorem wpAny_of_anyX : ∀ (fuel : Nat) (listed : Array Bool) (a : Act) (w : World), anyX P ops blk conf flg Q fuel listed a w → wpAny P .any ops Q fuel listed a w
  | 0, _, _, _, h => h
  | fuel + 1, _, _, _, h => ⟨h.1, fun i hi => wpOp_mono (fun a w => wpAny_of_anyX fuel _ a w) (xOp_wpOp (h.2 i hi))⟩

/-! ### Two operations that change places -/
def pairOk (ops : Array Oper) (conf : Nat → List Nat) (flg : List Nat) (i j : Nat) : Bool :=
  match ops[i]?, ops[j]? with
  | some oi, some oj => oi.apart ops oj &&
    (if ckCls oi = 2 then ckCls oj == 0 || (ckCls oj == 1 && (conf i).contains j && flg.contains j)
     else (if ckCls oj = 2 then ckCls oi == 0 || (ckCls oi == 1 && (conf j).contains i && flg.contains i) else true))
  | _, _ => false

/-- No way out but by the end. -/
def OnlyEnd (Q : Exit → Act → World → Prop) : Prop := (∀ c a w, ¬ Q (.panic c) a w) ∧ ∀ a w, ¬ Q .outgrown a w

theorem Quiet1.put {o : Oper} {v u : Value} {B : Option Nat} {w : World} {a : Act} {dst : Option Tmp} (hs : ∀ cs b, o.op ≠ .select cs b) (hap : ∀ d, dst = some d → d ∉ o.looksAt ops) : Quiet1 P ops o v B w (a.put dst u) ↔ Quiet1 P ops o v B w a := by
  unfold Quiet1
  rw [wanted_put o a dst u hap, execOp_put o hs a dst u hap]
theorem Quiet1.same {o : Oper} {v v' : Value} {B B' : Option Nat} {w w1 w2 : World} {a : Act} (h : Quiet1 P ops o v B w1 a) (h' : Quiet1 P ops o v' B' w2 a) (e : ∀ b, B = some b → w.heap[b]? = w1.heap[b]?) (e' : ∀ b, B' = some b → w.heap[b]? = w2.heap[b]?) : v = v' := by
  rcases h with ⟨hw, rfl⟩ | ⟨hw, hr⟩
  · rcases h' with ⟨_, rfl⟩ | ⟨hw', _⟩
    · rfl
    · rw [hw] at hw'; cases hw'
  · rcases h' with ⟨hw', _⟩ | ⟨_, hr'⟩
    · rw [hw] at hw'; cases hw'
    · have h1 := hr w e
      rw [hr' w e'] at h1
      injection h1 with h1; injection h1 with h1; exact h1.symm
theorem Quiet1.world {o : Oper} {v : Value} {B : Option Nat} {w w1 : World} {a : Act} (h : Quiet1 P ops o v B w1 a) (e : ∀ b, B = some b → w.heap[b]? = w1.heap[b]?) : Quiet1 P ops o v B w a := by
  rcases h with h | ⟨hw, hr⟩
  · exact .inl h
  · exact .inr ⟨hw, fun w' hw' => hr w' fun b hb => (hw' b hb).trans (e b hb)⟩

/-- A step, whatever frame it is carried out in, if its operands are there alike. -/
theorem upon_put {o : Oper} {a : Act} {dst : Option Tmp} {v : Value} (hd : ∀ d, dst = some d → o.dst ≠ some d) (hQ : OnlyEnd Q) {N N' : Act → World → Prop} {r : Result Next}
    (hN : ∀ (a' : Act), (a' = a ∨ ∃ d, a' = { a with defers := d :: a.defers }) → ∀ u w', N ((a'.put dst v).put o.dst u) w' → N' (a'.put o.dst u) w') (h : o.upon P (a.put dst v) N Q r) : o.upon P a N' Q r := by
  cases r with
  | ok n w' =>
    cases n <;> simp only [Oper.upon] at h ⊢
    case value u => exact hN a (.inl rfl) u w' h
    case skip => exact hN a (.inl rfl) _ w' h
    case defer d =>
      rw [Act.put_defers] at h
      exact hN _ (.inr ⟨d, rfl⟩) _ w' h
    case enter f args =>
      refine Calls.mono h fun e w'' he => ?_
      cases e with
      | returned u => exact hN a (.inl rfl) u w'' he
      | panicked c => exact (hQ.1 _ _ _ he).elim
      | outgrown => exact he
    case row row args => exact Rows.mono h fun u w'' he => hN a (.inl rfl) u w'' he
  | halt x w' =>
    cases x <;> simp only [Oper.upon] at h ⊢
    case panic u => exact (hQ.1 _ _ _ h).elim

/-- Something comes of a step. -/
theorem upon_some {o : Oper} {a : Act} (hQ : OnlyEnd Q) {N : Act → World → Prop} {r : Result Next} (h : o.upon P a N Q r) :
    ∃ a', (a' = a ∨ ∃ d, a' = { a with defers := d :: a.defers }) ∧ ∃ u w', N (a'.put o.dst u) w' := by
  cases r with
  | ok n w' =>
    cases n <;> simp only [Oper.upon] at h
    case value u => exact ⟨a, .inl rfl, u, w', h⟩
    case skip => exact ⟨a, .inl rfl, _, w', h⟩
    case defer d => exact ⟨_, .inr ⟨d, rfl⟩, _, w', h⟩
    case enter f args =>
      obtain ⟨e, w'', fr, he, _⟩ := h []
      cases e with
      | returned u => exact ⟨a, .inl rfl, u, w'', he⟩
      | panicked c => exact (hQ.1 _ _ _ he).elim
      | outgrown => obtain ⟨a0, w0, h0⟩ := he; exact (hQ.2 _ _ h0).elim
    case row row args =>
      obtain ⟨u, w'', he, _⟩ := h default []
      exact ⟨a, .inl rfl, u, w'', he⟩
  | halt x w' =>
    cases x <;> simp only [Oper.upon] at h
    case panic u => exact (hQ.1 _ _ _ h).elim

theorem Quiet1.defers {o : Oper} {v : Value} {B : Option Nat} {w : World} {a a' : Act} (h : a' = a ∨ ∃ d, a' = { a with defers := d :: a.defers }) : Quiet1 P ops o v B w a' ↔ Quiet1 P ops o v B w a := by
  rcases h with rfl | ⟨d, rfl⟩ <;> exact Iff.rfl

theorem xOp_swap {i j : Nat} {oi oj : Oper} (hi : ops[i]? = some oi) (hj : ops[j]? = some oj) (hsi : ∀ cs b, oi.op ≠ .select cs b) (hsj : ∀ cs b, oj.op ≠ .select cs b) (hQ : OnlyEnd Q) (hp : pairOk ops conf flg i j = true)
    {K : Act → World → Prop} {a : Act} {w : World} (h : xOp P ops blk conf flg Q i (fun a' w' => xOp P ops blk conf flg Q j K a' w') a w) : xOp P ops blk conf flg Q j (fun a' w' => xOp P ops blk conf flg Q i K a' w') a w := by
  simp only [pairOk, hi, hj, Bool.and_eq_true] at hp
  obtain ⟨hap, hcl⟩ := hp
  obtain ⟨l1, l2, l3⟩ := Oper.apart_spec hap
  have l2' : ∀ d, oj.dst = some d → oi.dst ≠ some d := fun d h1 h2 => l2 d h2 h1
  by_cases ci : ckCls oi = 2
  · have cj : ckCls oj ≠ 2 := by
      intro e; rw [if_pos ci] at hcl; simp [e] at hcl
    rw [if_pos ci] at hcl
    -- what acts comes first in the text
    have hB : ∀ (B : Option Nat), (ckCls oj = 0 → B = none) → (∀ b, B = some b → j ∈ flg → b = blk j) → ∀ w1 : World, (∀ k ∈ conf i, w1.heap[blk k]? = w.heap[blk k]?) → ∀ b, B = some b → w.heap[b]? = w1.heap[b]? := by
      intro B h0 h1 w1 hag b hb
      rcases Bool.or_eq_true _ _ ▸ hcl with hz | hz
      · rw [h0 (by simpa using hz)] at hb; cases hb
      · simp only [Bool.and_eq_true] at hz
        have hjf : j ∈ flg := by simpa using hz.2
        have hjc : j ∈ conf i := by simpa using hz.1.2
        rw [h1 b hb hjf]; exact (hag j hjc).symm
    rw [xOp_act hi ci] at h
    by_cases hw : Region.wanted oi (yielded ops a.tmps) = true
    · rw [if_pos hw] at h
      unfold Oper.wp at h
      obtain ⟨a', ha', u0, w0, hag, hx⟩ := upon_some hQ h
      rw [xOp_quiet hj cj] at hx
      obtain ⟨v, B, h0, h1, hq, _⟩ := hx
      have hq' : Quiet1 P ops oj v B w0 a := (Quiet1.defers ha').1 ((Quiet1.put hsj l1).1 hq)
      rw [xOp_quiet hj cj]
      refine ⟨v, B, h0, h1, hq'.world (hB B h0 h1 w0 hag), ?_⟩
      show xOp P ops blk conf flg Q i K (a.put oj.dst v) w
      rw [xOp_act hi ci, wanted_put oi a oj.dst v l3, if_pos hw]
      unfold Oper.wp
      rw [execOp_put oi hsi a oj.dst v l3]
      generalize hr : (execOp a.eval oi).run P w = r at h ⊢
      have key : ∀ (a' : Act), (a' = a ∨ ∃ d, a' = { a with defers := d :: a.defers }) → ∀ u w', ((∀ j ∈ conf i, w'.heap[blk j]? = w.heap[blk j]?) ∧ xOp P ops blk conf flg Q j K (a'.put oi.dst u) w') → (∀ j ∈ conf i, w'.heap[blk j]? = w.heap[blk j]?) ∧ K ((a'.put oj.dst v).put oi.dst u) w' := by
        intro a' ha' u w' ⟨hag', hx'⟩
        refine ⟨hag', ?_⟩
        rw [xOp_quiet hj cj] at hx'
        obtain ⟨v', B', h0', h1', hq2, hk⟩ := hx'
        have hq2' : Quiet1 P ops oj v' B' w' a := (Quiet1.defers ha').1 ((Quiet1.put hsj l1).1 hq2)
        have : v = v' := hq'.same (w := w) hq2' (hB B h0 h1 w0 hag) (hB B' h0' h1' w' hag')
        subst this
        rw [Act.put_comm _ _ _ l2'] 
        exact hk
      cases r with
      | ok n w' =>
        cases n <;> simp only [Oper.upon] at h ⊢
        case value u => exact key a (.inl rfl) u w' h
        case skip => exact key a (.inl rfl) _ w' h
        case defer d =>
          rw [Act.put_defers]
          exact key _ (.inr ⟨d, rfl⟩) _ w' h
        case enter f args =>
          refine Calls.mono h fun e w'' he => ?_
          cases e with
          | returned u => exact key a (.inl rfl) u w'' he
          | panicked c => exact (hQ.1 _ _ _ he).elim
          | outgrown => exact he
        case row row args => exact Rows.mono h fun u w'' he => key a (.inl rfl) u w'' he
      | halt x w' =>
        cases x <;> simp only [Oper.upon] at h ⊢
        case panic u => exact (hQ.1 _ _ _ h).elim
    · rw [if_neg hw] at h
      rw [xOp_quiet hj cj] at h
      obtain ⟨v, B, h0, h1, hq, hk⟩ := h
      rw [xOp_quiet hj cj]
      refine ⟨v, B, h0, h1, (Quiet1.put hsj l1).1 hq, ?_⟩
      show xOp P ops blk conf flg Q i K (a.put oj.dst v) w
      rw [xOp_act hi ci, wanted_put oi a oj.dst v l3, if_neg hw, Act.put_comm _ _ _ l2']
      exact hk
  · rw [if_neg ci] at hcl
    rw [xOp_quiet hi ci] at h
    obtain ⟨v, B, h0, h1, hq, hx⟩ := h
    by_cases cj : ckCls oj = 2
    · rw [if_pos cj] at hcl
      have hB : ∀ w1 : World, (∀ k ∈ conf j, w1.heap[blk k]? = w.heap[blk k]?) → ∀ b, B = some b → w1.heap[b]? = w.heap[b]? := by
        intro w1 hag b hb
        rcases Bool.or_eq_true _ _ ▸ hcl with hz | hz
        · rw [h0 (by simpa using hz)] at hb; cases hb
        · simp only [Bool.and_eq_true] at hz
          have hjf : i ∈ flg := by simpa using hz.2
          have hjc : i ∈ conf j := by simpa using hz.1.2
          rw [h1 b hb hjf]; exact hag i hjc
      rw [xOp_act hj cj, wanted_put oj a oi.dst v l1] at hx
      rw [xOp_act hj cj]
      split
      · rename_i hw
        rw [if_pos hw] at hx
        unfold Oper.wp at *
        rw [execOp_put oj hsj a oi.dst v l1] at hx
        refine upon_put (fun d hd => l2 d hd) hQ ?_ hx
        intro a' ha' u w' ⟨hag, hk⟩
        refine ⟨hag, ?_⟩
        rw [xOp_quiet hi ci]
        refine ⟨v, B, h0, h1, ((Quiet1.put hsi l3).2 ((Quiet1.defers ha').2 hq)).world (hB w' hag), ?_⟩
        rw [Act.put_comm _ _ _ l2']
        exact hk
      · rename_i hw
        rw [if_neg hw] at hx
        rw [xOp_quiet hi ci]
        refine ⟨v, B, h0, h1, (Quiet1.put hsi l3).2 hq, ?_⟩
        rw [Act.put_comm _ _ _ l2']
        exact hx
    · rw [xOp_quiet hj cj] at hx
      obtain ⟨v', B', h0', h1', hq', hk⟩ := hx
      rw [xOp_quiet hj cj]
      refine ⟨v', B', h0', h1', (Quiet1.put hsj l1).1 hq', ?_⟩
      rw [xOp_quiet hi ci]
      refine ⟨v, B, h0, h1, (Quiet1.put hsi l3).2 hq, ?_⟩
      rw [Act.put_comm _ _ _ l2']
      exact hk

/-- Something comes of an operation. -/
theorem xOp_some {i : Nat} (hQ : OnlyEnd Q) {K : Act → World → Prop} {a : Act} {w : World} (h : xOp P ops blk conf flg Q i K a w) : ∃ a' w', K a' w' := by
  cases ho : ops[i]? with
  | none => unfold xOp at h; simp only [ho] at h; exact ⟨_, _, h⟩
  | some o =>
    by_cases hc : ckCls o = 2
    · rw [xOp_act ho hc] at h
      split at h
      · obtain ⟨a', _, u, w', hk⟩ := upon_some hQ h
        exact ⟨_, _, hk.2⟩
      · exact ⟨_, _, h⟩
    · rw [xOp_quiet ho hc] at h
      obtain ⟨v, B, _, _, _, hk⟩ := h
      exact ⟨_, _, hk⟩

/-! ### The static look -/
def maskOf (ms : Array Nat) (o : Oper) : Nat := o.after.toList.foldl (fun s e => if Region.binds .any e then s ||| 2 ^ e.on ||| ms.getD e.on 0 else s) 0
def masksOk (ops : Array Oper) (ms : Array Nat) : Bool :=
  (List.range ops.size).all fun j => match ops[j]? with
    | some o => ms.getD j 0 == maskOf ms o && o.after.toList.all fun e => !Region.binds .any e || decide (e.on < j)
    | none => true
def okX (ops : Array Oper) (conf : Nat → List Nat) (flg : List Nat) : Bool :=
  Region.noSelect ops && masksOk ops (Region.before ops) &&
  (List.range ops.size).all fun j => (List.range j).all fun i => ((Region.before ops).getD j 0).testBit i || pairOk ops conf flg i j

theorem maskOf_bit (ms : Array Nat) (i : Nat) : ∀ (l : List Edge) (s : Nat), (l.foldl (fun s e => if Region.binds .any e then s ||| 2 ^ e.on ||| ms.getD e.on 0 else s) s).testBit i = true →
    s.testBit i = true ∨ ∃ e ∈ l, Region.binds .any e = true ∧ (e.on = i ∨ (ms.getD e.on 0).testBit i = true)
  | [], s, h => .inl h
  | e :: l, s, h => by
    simp only [List.foldl_cons] at h
    rcases maskOf_bit ms i l _ h with h1 | ⟨e', he, hb, hx⟩
    · split at h1
      · rename_i hb
        simp only [Nat.testBit_or, Bool.or_eq_true, Nat.testBit_two_pow, decide_eq_true_eq] at h1
        rcases h1 with (h1 | h1) | h1
        · exact .inl h1
        · exact .inr ⟨e, by simp, hb, .inl h1⟩
        · exact .inr ⟨e, by simp, hb, .inr h1⟩
      · exact .inl h1
    · exact .inr ⟨e', by simp [he], hb, hx⟩

def Closed (ops : Array Oper) (listed : Array Bool) : Prop := ∀ j o, ops[j]? = some o → listed.getD j false = true → ∀ e ∈ o.after, Region.binds .any e = true → listed.getD e.on false = true

theorem masksOk_spec {ms : Array Nat} (h : masksOk ops ms = true) {j : Nat} {o : Oper} (ho : ops[j]? = some o) : ms.getD j 0 = maskOf ms o ∧ ∀ e ∈ o.after, Region.binds .any e = true → e.on < j := by
  unfold masksOk at h
  rw [List.all_eq_true] at h
  have := h j (List.mem_range.2 (Array.getElem?_eq_some_iff.1 ho).1)
  simp only [ho, Bool.and_eq_true, beq_iff_eq, List.all_eq_true] at this
  refine ⟨this.1, fun e he hb => ?_⟩
  have := this.2 e (by simpa using he)
  simpa [hb] using this

theorem bit_listed {ms : Array Nat} (hm : masksOk ops ms = true) {listed : Array Bool} (hcl : Closed ops listed) : ∀ (n j : Nat), j < n → listed.getD j false = true → ∀ i, (ms.getD j 0).testBit i = true → j < ops.size → listed.getD i false = true := by
  intro n
  induction n with
  | zero => intro j hj; omega
  | succ n ih =>
    intro j hj hl i hb hjs
    have ho : ops[j]? = some ops[j] := Array.getElem?_eq_getElem hjs
    obtain ⟨h1, h2⟩ := masksOk_spec hm ho
    rw [h1] at hb
    rcases maskOf_bit ms i _ _ hb with h0 | ⟨e, he, hbd, hx⟩
    · simp at h0
    · have he' : e ∈ ops[j].after := by simpa using he
      have hon := hcl j _ ho hl e he' hbd
      rcases hx with rfl | hx
      · exact hon
      · have := h2 e he' hbd
        exact ih e.on (by omega) hon i hx (by omega)

theorem ready_bit {ms : Array Nat} (hm : masksOk ops ms = true) {listed : Array Bool} (hcl : Closed ops listed) {j : Nat} (hj : j ∈ Region.ready .any ops listed) {i : Nat} (hb : (ms.getD j 0).testBit i = true) : listed.getD i false = true := by
  obtain ⟨_, o, ho, hall⟩ := mem_ready.1 hj
  obtain ⟨h1, h2⟩ := masksOk_spec hm ho
  rw [h1] at hb
  rcases maskOf_bit ms i _ _ hb with h0 | ⟨e, he, hbd, hx⟩
  · simp at h0
  · have he' : e ∈ o.after := by simpa using he
    have hon := hall e he' hbd
    rcases hx with rfl | hx
    · exact hon
    · have hlt := (Array.getElem?_eq_some_iff.1 ho).1
      have := h2 e he' hbd
      exact bit_listed hm hcl (e.on + 1) e.on (by omega) hon i hx (by omega)

theorem Closed.step {listed : Array Bool} (hcl : Closed ops listed) {j : Nat} (hj : j ∈ Region.ready .any ops listed) : Closed ops (listed.setIfInBounds j true) := by
  obtain ⟨_, o, ho, hall⟩ := mem_ready.1 hj
  intro k ok hk hl e he hb
  by_cases hkj : j = k
  · subst hkj
    rw [ho] at hk; cases hk
    exact getD_set_true (hall e he hb)
  · rw [getD_set_ne false hkj] at hl
    exact getD_set_true (hcl k ok hk hl e he hb)

theorem anyX_first {i : Nat} (hQ : OnlyEnd Q) (hok : okX ops conf flg = true) : ∀ (fuel : Nat) (listed : Array Bool) (a : Act) (w : World),
    Closed ops listed → i ∈ Region.ready .any ops listed → (∀ j, j < i → listed.getD j true = true) →
    xOp P ops blk conf flg Q i (anyX P ops blk conf flg Q fuel (listed.setIfInBounds i true)) a w → anyX P ops blk conf flg Q (fuel + 1) listed a w := by
  simp only [okX, Bool.and_eq_true] at hok
  obtain ⟨⟨hsel, hms⟩, hpairs⟩ := hok
  intro fuel
  induction fuel with
  | zero =>
    intro listed a w _ hr _ h
    refine ⟨fun h0 => (by rw [h0] at hr; cases hr), fun j hj => ?_⟩
    by_cases hji : j = i
    · subst hji; exact h
    · obtain ⟨a', w', h1, _⟩ := xOp_some hQ h
      have := ready_mono hj hji
      rw [h1] at this; cases this
  | succ fuel ih =>
    intro listed a w hcl hr hmin h
    refine ⟨fun h0 => (by rw [h0] at hr; cases hr), fun j hj => ?_⟩
    by_cases hji : j = i
    · subst hji; exact h
    · obtain ⟨hjun, oj, hoj, _⟩ := mem_ready.1 hj
      obtain ⟨hiun, oi, hoi, _⟩ := mem_ready.1 hr
      have hlt : i < j := by
        rcases Nat.lt_or_ge i j with h | h
        · exact h
        · have := hmin j (by omega); rw [hjun] at this; cases this
      have hjs : j < ops.size := (Array.getElem?_eq_some_iff.1 hoj).1
      have hp : pairOk ops conf flg i j = true := by
        rw [List.all_eq_true] at hpairs
        have h1 := hpairs j (List.mem_range.2 hjs)
        rw [List.all_eq_true] at h1
        have h2 := h1 i (List.mem_range.2 hlt)
        simp only [Bool.or_eq_true] at h2
        rcases h2 with h2 | h2
        · have := ready_bit hms hcl hj h2
          have his : i < listed.size := by
            rcases Nat.lt_or_ge i listed.size with h' | h'
            · exact h'
            · simp [Array.getElem?_eq_none h'] at this
          simp [his] at this hiun
          rw [hiun] at this; cases this
        · exact h2
      have h1 : xOp P ops blk conf flg Q i (fun a' w' => xOp P ops blk conf flg Q j (anyX P ops blk conf flg Q fuel ((listed.setIfInBounds i true).setIfInBounds j true)) a' w') a w :=
        xOp_mono (fun a' w' h' => h'.2 j (ready_mono hj hji)) h
      have h2 := xOp_swap hoi hoj (fun cs b => Region.noSelect_spec hsel i oi cs b hoi) (fun cs b => Region.noSelect_spec hsel j oj cs b hoj) hQ hp h1
      refine xOp_mono (fun a' w' h' => ?_) h2
      refine ih (listed.setIfInBounds j true) a' w' (hcl.step hj) (ready_mono hr (Ne.symm hji)) (fun k hk => ?_) ?_
      · by_cases hjk : j = k
        · subst hjk; omega
        · rw [getD_set_ne true hjk]; exact hmin k hk
      · rw [Array.setIfInBounds_comm _ _ hji]; exact h'

theorem anyX_text (hQ : OnlyEnd Q) (hok : okX ops conf flg = true) : ∀ (d k : Nat) (listed : Array Bool) (a : Act) (w : World), k + d = ops.size → listed.size = ops.size → (∀ j, j < ops.size → listed.getD j true = decide (j < k)) →
    wpX P ops blk conf flg Q (List.range' k d) a w → anyX P ops blk conf flg Q d listed a w := by
  have hms : masksOk ops (Region.before ops) = true := by
    simp only [okX, Bool.and_eq_true] at hok; exact hok.1.2
  intro d
  induction d with
  | zero =>
    intro k listed a w hk hs hl h
    refine ⟨?_, h⟩
    have : ∀ j, j ∉ Region.ready .any ops listed := fun j hj => by
      obtain ⟨h0, o, ho, _⟩ := mem_ready.1 hj
      have hlt := (Array.getElem?_eq_some_iff.1 ho).1
      rw [hl j hlt] at h0
      simp at h0; omega
    exact List.eq_nil_iff_forall_not_mem.2 this
  | succ d ih =>
    intro k listed a w hk hs hl h
    have hks : k < ops.size := by omega
    have tf : ∀ j, j < ops.size → listed.getD j false = decide (j < k) := fun j hj => by
      rw [← hl j hj]; simp [show j < listed.size by omega]
    simp only [List.range'_succ, wpX] at h
    refine anyX_first hQ hok d listed a w ?_ ?_ ?_ ?_ (i := k)
    · intro j o ho hlj e he hb
      have hlt := (Array.getElem?_eq_some_iff.1 ho).1
      rw [tf j hlt] at hlj
      have := (masksOk_spec hms ho).2 e he hb
      rw [tf _ (by omega)]; simp at hlj ⊢; omega
    · refine mem_ready.2 ⟨by rw [hl k hks]; simp, ops[k], Array.getElem?_eq_getElem hks, fun e he hb => ?_⟩
      have := (masksOk_spec hms (Array.getElem?_eq_getElem hks)).2 e he hb
      rw [tf _ (by omega)]; simp; omega
    · intro j hj
      rw [hl j (by omega)]; simp [hj]
    · refine xOp_mono (fun a' w' h' => ih (k + 1) _ a' w' (by omega) (by simpa using hs) (fun j hj => ?_) h') h
      by_cases hkj : k = j
      · subst hkj; simp [hs, hks]
      · rw [getD_set_ne true hkj, hl j hj]
        simp only [decide_eq_decide]; omega

/-- **A region that draws its order, by the order of its text.** -/
theorem wp_region_x {id : Nat} {a : Act} {w : World} (blk : Nat → Nat) (conf : Nat → List Nat) (flg : List Nat) (hm : P.follows .mixedOrders = true) (hok : okX ops conf flg = true) (hQ : OnlyEnd Q)
    (h : wpX P ops blk conf flg Q (List.range' 0 ops.size) a w.drew) : (Code.region id ops true).wp P Q a w :=
  wp_region_any hm (wpAny_of_anyX _ _ _ _ (anyX_text hQ hok ops.size 0 _ a _ (by simp) (by simp) (fun j hj => by simp [hj]) h))

end
end Go.Proofs.Ytchejceolnbcbaa
