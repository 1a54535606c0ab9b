/- A region that draws its order, and some of whose acts no edge orders: the orders of these acts suffice, one walk for each. No function of the program is entered in it. -/
import Derived.Test.YtchejceolnbcbaaCkWalk
import Derived.WalkKit
set_option linter.unusedVariables false
set_option linter.unusedSimpArgs false
namespace Go.Proofs.Ytchejceolnbcbaa
open Go.RowKit
section
variable {P : Program} {ops : Array Oper} {Q : Exit → Act → World → Prop} {blk : Nat → Nat} {conf : Nat → List Nat} {flg : List Nat} {E : List (Nat × Nat)}
/-- What an operation that enters no function comes to. -/
def Ran (P : Program) (ops : Array Oper) (o : Oper) (a : Act) (w : World) (v : Value) (w' : World) : Prop :=
  (Region.wanted o (yielded ops a.tmps) = false ∧ v = undef ∧ w' = w) ∨
  (Region.wanted o (yielded ops a.tmps) = true ∧ ((execOp a.eval o).run P w = .ok (.value v) w' ∨ ((execOp a.eval o).run P w = .ok .skip w' ∧ v = undef)))
theorem Ran.unique {o : Oper} {a : Act} {w w1 w2 : World} {v u : Value} (h : Ran P ops o a w v w1) (h' : Ran P ops o a w u w2) : v = u ∧ w1 = w2 := by
  rcases h with ⟨h0, rfl, rfl⟩ | ⟨h0, h⟩
  · rcases h' with ⟨_, rfl, rfl⟩ | ⟨h0', _⟩
    · exact ⟨rfl, rfl⟩
    · rw [h0] at h0'; cases h0'
  · rcases h' with ⟨h0', _, _⟩ | ⟨_, h'⟩
    · rw [h0] at h0'; cases h0'
    · rcases h with h | ⟨h, rfl⟩ <;> rcases h' with h' | ⟨h', rfl⟩
      · rw [h] at h'; injection h' with e1 e2; injection e1 with e1; exact ⟨e1, e2⟩
      · rw [h] at h'; injection h' with e1 e2; cases e1
      · rw [h] at h'; injection h' with e1 e2; cases e1
      · rw [h] at h'; injection h' with e1 e2; exact ⟨rfl, e2⟩
theorem Ran.put {o : Oper} {v u : Value} {w w' : World} {a : Act} {dst : Option Tmp} (hs : ∀ cs b, o.op ≠ .select cs b) (hap : ∀ d, dst = some d → d ∉ o.looksAt ops) : Ran P ops o (a.put dst u) w v w' ↔ Ran P ops o a w v w' := by
  unfold Ran
  rw [wanted_put o a dst u hap, execOp_put o hs a dst u hap]
theorem Ran.of_quiet {o : Oper} {v : Value} {B : Option Nat} {w : World} {a : Act} (h : Quiet1 P ops o v B w a) : Ran P ops o a w v w := by
  rcases h with ⟨hw, rfl⟩ | ⟨hw, hr⟩
  · exact .inl ⟨hw, rfl, rfl⟩
  · exact .inr ⟨hw, .inl (hr w fun _ _ => rfl)⟩

/-! ### Trees -/
def xE (P : Program) (ops : Array Oper) (i : Nat) (K : Act → World → Prop) (a : Act) (w : World) : Prop :=
  match ops[i]? with
  | none => K a w
  | some o => ∃ v w', Ran P ops o a w v w' ∧ K (a.put o.dst v) w'
theorem xE_mono {i : Nat} {K K' : Act → World → Prop} (h : ∀ a w, K a w → K' a w) {a : Act} {w : World} (hh : xE P ops i K a w) : xE P ops i K' a w := by
  unfold xE at *
  split
  · rename_i ho; simp only [ho] at hh; exact h _ _ hh
  · rename_i o ho; simp only [ho] at hh
    obtain ⟨v, w', h1, h2⟩ := hh
    exact ⟨v, w', h1, h _ _ h2⟩
theorem xE_and {i : Nat} {K K' : Act → World → Prop} {a : Act} {w : World} (h1 : xE P ops i K a w) (h2 : xE P ops i K' a w) : xE P ops i (fun a w => K a w ∧ K' a w) a w := by
  unfold xE at *
  split
  · rename_i ho; simp only [ho] at h1 h2; exact ⟨h1, h2⟩
  · rename_i o ho; simp only [ho] at h1 h2
    obtain ⟨v, w1, r1, k1⟩ := h1
    obtain ⟨u, w2, r2, k2⟩ := h2
    obtain ⟨rfl, rfl⟩ := r1.unique r2
    exact ⟨v, w1, r1, k1, k2⟩
theorem xE_wpOp {i : Nat} {K : Act → World → Prop} {a : Act} {w : World} (h : xE P ops i K a w) : wpOp P ops Q i K a w := by
  unfold xE at h
  unfold wpOp
  split
  · rename_i ho; simp only [ho] at h; exact h
  · rename_i o ho; simp only [ho] at h
    obtain ⟨v, w', h1, h2⟩ := h
    rcases h1 with ⟨hw, rfl, rfl⟩ | ⟨hw, h1⟩
    · rw [if_neg (by simp [hw])]; exact h2
    · rw [if_pos hw]
      refine .inl ?_
      unfold Oper.wp
      rcases h1 with h1 | ⟨h1, rfl⟩
      · rw [h1]; exact h2
      · rw [h1]; exact h2
def okE (E : List (Nat × Nat)) (listed : Array Bool) (i : Nat) : Bool := E.all fun p => p.2 != i || listed.getD p.1 false
theorem okE_set {listed : Array Bool} {i j : Nat} (h : okE E listed j = true) : okE E (listed.setIfInBounds i true) j = true := by
  unfold okE at *
  rw [List.all_eq_true] at *
  intro p hp
  have := h p hp
  rw [Bool.or_eq_true] at *
  exact this.imp id getD_set_true
def anyE (P : Program) (ops : Array Oper) (Q : Exit → Act → World → Prop) (E : List (Nat × Nat)) : Nat → Array Bool → Act → World → Prop
  | 0, listed, a, w => Region.ready .any ops listed = [] ∧ Q .normal a w
  | fuel + 1, listed, a, w =>
    (Region.ready .any ops listed = [] → Q .normal a w) ∧
    ∀ i ∈ Region.ready .any ops listed, okE E listed i = true → xE P ops i (anyE P ops Q E fuel (listed.setIfInBounds i true)) a w
theorem wpAny_of_anyE : ∀ (fuel : Nat) (listed : Array Bool) (a : Act) (w : World), anyE P ops Q [] fuel listed a w → wpAny P .any ops Q fuel listed a w
  | 0, _, _, _, h => h
  | fuel + 1, _, _, _, h => ⟨h.1, fun i hi => wpOp_mono (fun a w => wpAny_of_anyE fuel _ a w) (xE_wpOp (h.2 i hi rfl))⟩
theorem anyE_drop {i j : Nat} : ∀ (fuel : Nat) (listed : Array Bool) (a : Act) (w : World), listed.getD i false = true → anyE P ops Q ((i, j) :: E) fuel listed a w → anyE P ops Q E fuel listed a w
  | 0, _, _, _, _, h => h
  | fuel + 1, listed, _, _, hl, h => ⟨h.1, fun k hk ho => xE_mono (fun a w => anyE_drop fuel _ a w (getD_set_true hl)) (h.2 k hk (by unfold okE at *; rw [List.all_cons, ho, hl]; simp))⟩
theorem anyE_split {i j : Nat} (hij : i ≠ j) : ∀ (fuel : Nat) (listed : Array Bool) (a : Act) (w : World), anyE P ops Q ((i, j) :: E) fuel listed a w → anyE P ops Q ((j, i) :: E) fuel listed a w → anyE P ops Q E fuel listed a w
  | 0, _, _, _, h, _ => h
  | fuel + 1, listed, a, w, h1, h2 => ⟨h1.1, fun k hk ho => by
    have hks : k < listed.size := by
      have h0 := (mem_ready.1 hk).1
      rcases Nat.lt_or_ge k listed.size with h | h
      · exact h
      · simp [Array.getElem?_eq_none h] at h0
    have hset : (listed.setIfInBounds k true).getD k false = true := by simp [hks]
    by_cases e1 : k = i
    · subst e1
      exact xE_mono (fun a w => anyE_drop fuel _ a w hset) (h1.2 k hk (by unfold okE at *; rw [List.all_cons, ho]; simp [Ne.symm hij]))
    by_cases e2 : k = j
    · subst e2
      exact xE_mono (fun a w => anyE_drop fuel _ a w hset) (h2.2 k hk (by unfold okE at *; rw [List.all_cons, ho]; simp [hij]))
    · have g1 := h1.2 k hk (by unfold okE at *; rw [List.all_cons, ho]; simp [Ne.symm e2])
      have g2 := h2.2 k hk (by unfold okE at *; rw [List.all_cons, ho]; simp [Ne.symm e1])
      exact xE_mono (fun a w h => anyE_split hij fuel _ a w h.1 h.2) (xE_and g1 g2)⟩

/-! ### With tables -/
def xTo (P : Program) (ops : Array Oper) (blk : Nat → Nat) (conf : Nat → List Nat) (flg : List Nat) (i : Nat) (o : Oper) (K : Act → World → Prop) (a : Act) (w : World) : Prop :=
  if ckCls o = 2 then ∃ v w', Ran P ops o a w v w' ∧ (∀ j ∈ conf i, w'.heap[blk j]? = w.heap[blk j]?) ∧ K (a.put o.dst v) w'
  else ∃ v B, (ckCls o = 0 → B = none) ∧ (∀ b, B = some b → i ∈ flg → b = blk i) ∧ Quiet1 P ops o v B w a ∧ K (a.put o.dst v) w
def xT (P : Program) (ops : Array Oper) (blk : Nat → Nat) (conf : Nat → List Nat) (flg : List Nat) (i : Nat) (K : Act → World → Prop) (a : Act) (w : World) : Prop :=
  match ops[i]? with
  | none => K a w
  | some o => xTo P ops blk conf flg i o K a w
theorem xTo_mono {i : Nat} {o : Oper} {K K' : Act → World → Prop} (h : ∀ a w, K a w → K' a w) {a : Act} {w : World} (hh : xTo P ops blk conf flg i o K a w) : xTo P ops blk conf flg i o K' a w := by
  unfold xTo at *
  split
  · rename_i hc; rw [if_pos hc] at hh
    obtain ⟨v, w', h1, h2, h3⟩ := hh
    exact ⟨v, w', h1, h2, h _ _ h3⟩
  · rename_i hc; rw [if_neg hc] at hh
    obtain ⟨v, B, h1, h2, h3, h4⟩ := hh
    exact ⟨v, B, h1, h2, h3, h _ _ h4⟩
theorem xT_mono {i : Nat} {K K' : Act → World → Prop} (h : ∀ a w, K a w → K' a w) {a : Act} {w : World} (hh : xT P ops blk conf flg i K a w) : xT P ops blk conf flg i K' a w := by
  unfold xT at *
  split
  · rename_i ho; simp only [ho] at hh; exact h _ _ hh
  · rename_i o ho; simp only [ho] at hh; exact xTo_mono h hh
theorem xT_xE {i : Nat} {K : Act → World → Prop} {a : Act} {w : World} (h : xT P ops blk conf flg i K a w) : xE P ops i K a w := by
  unfold xT at h
  unfold xE
  split
  · rename_i ho; simp only [ho] at h; exact h
  · rename_i o ho; simp only [ho] at h
    unfold xTo at h
    split at h
    · obtain ⟨v, w', h1, _, h3⟩ := h; exact ⟨v, w', h1, h3⟩
    · obtain ⟨v, B, _, _, h3, h4⟩ := h; exact ⟨v, w, .of_quiet h3, h4⟩
theorem xT_some {i : Nat} {K : Act → World → Prop} {a : Act} {w : World} (h : xT P ops blk conf flg i K a w) : ∃ a' w', K a' w' := by
  have h := xT_xE h
  unfold xE at h
  split at h
  · exact ⟨_, _, h⟩
  · obtain ⟨v, w', _, h3⟩ := h; exact ⟨_, _, h3⟩
theorem xTo_swap {i j : Nat} {oi oj : Oper} (hi : ops[i]? = some oi) (hj : ops[j]? = some oj) (hsi : ∀ cs b, oi.op ≠ .select cs b) (hsj : ∀ cs b, oj.op ≠ .select cs b) (hp : pairOk ops conf flg i j = true)
    {K : Act → World → Prop} {a : Act} {w : World} (h : xTo P ops blk conf flg i oi (xTo P ops blk conf flg j oj K) a w) : xTo P ops blk conf flg j oj (xTo P ops blk conf flg i oi K) a w := by
  simp only [pairOk, hi, hj, Bool.and_eq_true] at hp
  obtain ⟨hap, hcl⟩ := hp
  obtain ⟨l1, l2, l3⟩ := Oper.apart_spec hap
  have l2' : ∀ d, oj.dst = some d → oi.dst ≠ some d := fun d h1 h2 => l2 d h2 h1
  by_cases ci : ckCls oi = 2
  · have cj : ckCls oj ≠ 2 := by
      intro e; rw [if_pos ci] at hcl; simp [e] at hcl
    rw [if_pos ci] at hcl
    have hB : ∀ (B : Option Nat), (ckCls oj = 0 → B = none) → (∀ b, B = some b → j ∈ flg → b = blk j) → ∀ w1 : World, (∀ k ∈ conf i, w1.heap[blk k]? = w.heap[blk k]?) → ∀ b, B = some b → w.heap[b]? = w1.heap[b]? := by
      intro B h0 h1 w1 hag b hb
      rcases Bool.or_eq_true _ _ ▸ hcl with hz | hz
      · rw [h0 (by simpa using hz)] at hb; cases hb
      · simp only [Bool.and_eq_true] at hz
        have hjf : j ∈ flg := by simpa using hz.2
        have hjc : j ∈ conf i := by simpa using hz.1.2
        rw [h1 b hb hjf]; exact (hag j hjc).symm
    unfold xTo at h
    rw [if_pos ci] at h
    obtain ⟨v, w1, hr, hag, hx⟩ := h
    rw [if_neg cj] at hx
    obtain ⟨u, B, h0, h1, hq, hk⟩ := hx
    have hq' : Quiet1 P ops oj u B w1 a := (Quiet1.put hsj l1).1 hq
    unfold xTo
    rw [if_neg cj]
    refine ⟨u, B, h0, h1, hq'.world (hB B h0 h1 w1 hag), ?_⟩
    rw [if_pos ci]
    refine ⟨v, w1, (Ran.put hsi l3).2 hr, hag, ?_⟩
    rw [Act.put_comm _ _ _ l2']
    exact hk
  · rw [if_neg ci] at hcl
    unfold xTo at h
    rw [if_neg ci] at h
    obtain ⟨v, B, h0, h1, hq, hx⟩ := h
    by_cases cj : ckCls oj = 2
    · rw [if_pos cj] at hcl
      have hB : ∀ w1 : World, (∀ k ∈ conf j, w1.heap[blk k]? = w.heap[blk k]?) → ∀ b, B = some b → w1.heap[b]? = w.heap[b]? := by
        intro w1 hag b hb
        rcases Bool.or_eq_true _ _ ▸ hcl with hz | hz
        · rw [h0 (by simpa using hz)] at hb; cases hb
        · simp only [Bool.and_eq_true] at hz
          have hjf : i ∈ flg := by simpa using hz.2
          have hjc : i ∈ conf j := by simpa using hz.1.2
          rw [h1 b hb hjf]; exact hag i hjc
      rw [if_pos cj] at hx
      obtain ⟨u, w1, hr, hag, hk⟩ := hx
      unfold xTo
      rw [if_pos cj]
      refine ⟨u, w1, (Ran.put hsj l1).1 hr, hag, ?_⟩
      rw [if_neg ci]
      refine ⟨v, B, h0, h1, ((Quiet1.put hsi l3).2 hq).world (hB w1 hag), ?_⟩
      rw [Act.put_comm _ _ _ l2']
      exact hk
    · rw [if_neg cj] at hx
      obtain ⟨v', B', h0', h1', hq', hk⟩ := hx
      unfold xTo
      rw [if_neg cj]
      refine ⟨v', B', h0', h1', (Quiet1.put hsj l1).1 hq', ?_⟩
      rw [if_neg ci]
      refine ⟨v, B, h0, h1, (Quiet1.put hsi l3).2 hq, ?_⟩
      rw [Act.put_comm _ _ _ l2']
      exact hk
def anyT (P : Program) (ops : Array Oper) (blk : Nat → Nat) (conf : Nat → List Nat) (flg : List Nat) (Q : Exit → Act → World → Prop) (E : List (Nat × Nat)) : Nat → Array Bool → Act → World → Prop
  | 0, listed, a, w => Region.ready .any ops listed = [] ∧ Q .normal a w
  | fuel + 1, listed, a, w =>
    (Region.ready .any ops listed = [] → Q .normal a w) ∧
    ∀ i ∈ Region.ready .any ops listed, okE E listed i = true → xT P ops blk conf flg i (anyT P ops blk conf flg Q E fuel (listed.setIfInBounds i true)) a w
theorem anyE_of_anyT : ∀ (fuel : Nat) (listed : Array Bool) (a : Act) (w : World), anyT P ops blk conf flg Q E fuel listed a w → anyE P ops Q E fuel listed a w
  | 0, _, _, _, h => h
  | fuel + 1, _, _, _, h => ⟨h.1, fun i hi ho => xE_mono (fun a w => anyE_of_anyT fuel _ a w) (xT_xE (h.2 i hi ho))⟩

/-! ### One order -/
def predsE (ops : Array Oper) (E : List (Nat × Nat)) (j : Nat) : List Nat :=
  (match ops[j]? with | some o => (o.after.toList.filter (Region.binds .any ·)).map (·.on) | none => []) ++ (E.filter (fun p => p.2 == j)).map (·.1)
def maskE (ms : Array Nat) (l : List Nat) (s : Nat) : Nat := l.foldl (fun s p => s ||| 2 ^ p ||| ms.getD p 0) s
def masksE (ops : Array Oper) (E : List (Nat × Nat)) (r : List Nat) : Array Nat := r.foldl (fun ms j => ms.setIfInBounds j (maskE ms (predsE ops E j) 0)) (Array.replicate ops.size 0)
def okR (ops : Array Oper) (conf : Nat → List Nat) (flg : List Nat) (E : List (Nat × Nat)) (r : List Nat) (ms : Array Nat) : Bool :=
  Region.noSelect ops && decide (r.length = ops.size) && r.all (fun j => decide (j < ops.size)) && (List.range ops.size).all (fun k => r.idxOf (r.getD k 0) == k) && (List.range ops.size).all (fun j => decide (r.idxOf j < ops.size)) &&
  (List.range ops.size).all (fun j => ms.getD j 0 == maskE ms (predsE ops E j) 0 && (predsE ops E j).all fun p => decide (p < ops.size) && decide (r.idxOf p < r.idxOf j)) &&
  (List.range ops.size).all fun j => (List.range ops.size).all fun i => !decide (r.idxOf i < r.idxOf j) || (ms.getD j 0).testBit i || pairOk ops conf flg i j
theorem maskE_bit (ms : Array Nat) (i : Nat) : ∀ (l : List Nat) (s : Nat), (maskE ms l s).testBit i = true → s.testBit i = true ∨ ∃ p ∈ l, p = i ∨ (ms.getD p 0).testBit i = true
  | [], s, h => .inl h
  | p :: l, s, h => by
    unfold maskE at h
    rw [List.foldl_cons] at h
    rcases maskE_bit ms i l _ h with h1 | ⟨q, hq, hx⟩
    · simp only [Nat.testBit_or, Bool.or_eq_true, Nat.testBit_two_pow, decide_eq_true_eq] at h1
      rcases h1 with (h1 | h1) | h1
      · exact .inl h1
      · exact .inr ⟨p, by simp, .inl h1⟩
      · exact .inr ⟨p, by simp, .inr h1⟩
    · exact .inr ⟨q, by simp [hq], hx⟩
structure GoodR (ops : Array Oper) (conf : Nat → List Nat) (flg : List Nat) (E : List (Nat × Nat)) (r : List Nat) (ms : Array Nat) : Prop where
  sel : Region.noSelect ops = true
  len : r.length = ops.size
  inb : ∀ j ∈ r, j < ops.size
  uni : ∀ k, k < ops.size → r.idxOf (r.getD k 0) = k
  has : ∀ j, j < ops.size → r.idxOf j < ops.size
  mask : ∀ j, j < ops.size → ms.getD j 0 = maskE ms (predsE ops E j) 0
  prec : ∀ j, j < ops.size → ∀ p ∈ predsE ops E j, p < ops.size ∧ r.idxOf p < r.idxOf j
  pair : ∀ i j, i < ops.size → j < ops.size → r.idxOf i < r.idxOf j → (ms.getD j 0).testBit i = true ∨ pairOk ops conf flg i j = true
theorem okR_good {r : List Nat} {ms : Array Nat} (h : okR ops conf flg E r ms = true) : GoodR ops conf flg E r ms := by
  unfold okR at h
  simp only [Bool.and_eq_true, List.all_eq_true, decide_eq_true_eq, beq_iff_eq, List.mem_range, Bool.or_eq_true, Bool.not_eq_true', decide_eq_false_iff_not] at h
  obtain ⟨⟨⟨⟨⟨⟨h1, h2⟩, h3⟩, h4⟩, h5⟩, h6⟩, h7⟩ := h
  exact ⟨h1, h2, h3, h4, h5, fun j hj => (h6 j hj).1, fun j hj => (h6 j hj).2, fun i j hi hj hlt => by
    rcases h7 j hj i hi with (h | h) | h
    · exact absurd hlt h
    · exact .inl h
    · exact .inr h⟩
variable {r : List Nat} {ms : Array Nat}
theorem GoodR.inj (g : GoodR ops conf flg E r ms) {i j : Nat} (hi : i < ops.size) (hj : j < ops.size) (e : r.idxOf i = r.idxOf j) : i = j := by
  have h1 : r[r.idxOf i]'(by rw [g.len]; exact g.has i hi) = i := List.getElem_idxOf _
  have h2 : r[r.idxOf j]'(by rw [g.len]; exact g.has j hj) = j := List.getElem_idxOf _
  rw [← h1, ← h2]; congr 1
def ClosedE (ops : Array Oper) (E : List (Nat × Nat)) (listed : Array Bool) : Prop := ∀ j, j < ops.size → listed.getD j false = true → ∀ p ∈ predsE ops E j, listed.getD p false = true
theorem ready_preds {listed : Array Bool} {j : Nat} (hj : j ∈ Region.ready .any ops listed) (ho : okE E listed j = true) : ∀ p ∈ predsE ops E j, listed.getD p false = true := by
  intro p hp
  unfold predsE at hp
  rcases List.mem_append.1 hp with hp | hp
  · obtain ⟨_, o, hoj, hall⟩ := mem_ready.1 hj
    simp only [hoj] at hp
    obtain ⟨e, he, rfl⟩ := List.mem_map.1 hp
    obtain ⟨he, hb⟩ := List.mem_filter.1 he
    exact hall e (by simpa using he) hb
  · obtain ⟨e, he, rfl⟩ := List.mem_map.1 hp
    obtain ⟨he, hb⟩ := List.mem_filter.1 he
    unfold okE at ho
    rw [List.all_eq_true] at ho
    have := ho e he
    rw [Bool.or_eq_true] at this
    rcases this with h | h
    · simp at hb h; exact absurd hb h
    · exact h
theorem bit_listedE (g : GoodR ops conf flg E r ms) {listed : Array Bool} (hcl : ClosedE ops E listed) : ∀ (n j : Nat), r.idxOf j < n → j < ops.size → listed.getD j false = true → ∀ i, (ms.getD j 0).testBit i = true → listed.getD i false = true := by
  intro n
  induction n with
  | zero => intro j hj; omega
  | succ n ih =>
    intro j hj hjs hl i hb
    rw [g.mask j hjs] at hb
    rcases maskE_bit ms i _ _ hb with h0 | ⟨p, hp, hx⟩
    · simp at h0
    · have hon := hcl j hjs hl p hp
      obtain ⟨h1, h2⟩ := g.prec j hjs p hp
      rcases hx with rfl | hx
      · exact hon
      · exact ih p (by omega) h1 hon i hx
theorem ready_bitE (g : GoodR ops conf flg E r ms) {listed : Array Bool} (hcl : ClosedE ops E listed) {j : Nat} (hj : j ∈ Region.ready .any ops listed) (ho : okE E listed j = true) {i : Nat} (hb : (ms.getD j 0).testBit i = true) : listed.getD i false = true := by
  obtain ⟨_, o, hoj, _⟩ := mem_ready.1 hj
  have hjs := (Array.getElem?_eq_some_iff.1 hoj).1
  rw [g.mask j hjs] at hb
  rcases maskE_bit ms i _ _ hb with h0 | ⟨p, hp, hx⟩
  · simp at h0
  · have hon := ready_preds hj ho p hp
    rcases hx with rfl | hx
    · exact hon
    · exact bit_listedE g hcl (r.idxOf p + 1) p (by omega) (g.prec j hjs p hp).1 hon i hx
theorem ClosedE.step {listed : Array Bool} (hcl : ClosedE ops E listed) {j : Nat} (hj : j ∈ Region.ready .any ops listed) (ho : okE E listed j = true) : ClosedE ops E (listed.setIfInBounds j true) := by
  intro k hks hl p hp
  by_cases hkj : j = k
  · subst hkj
    exact getD_set_true (ready_preds hj ho p hp)
  · rw [getD_set_ne false hkj] at hl
    exact getD_set_true (hcl k hks hl p hp)
theorem anyT_first {i : Nat} (g : GoodR ops conf flg E r ms) : ∀ (fuel : Nat) (listed : Array Bool) (a : Act) (w : World),
    ClosedE ops E listed → i ∈ Region.ready .any ops listed → okE E listed i = true → (∀ j, j < ops.size → r.idxOf j < r.idxOf i → listed.getD j true = true) →
    xT P ops blk conf flg i (anyT P ops blk conf flg Q E fuel (listed.setIfInBounds i true)) a w → anyT P ops blk conf flg Q E (fuel + 1) listed a w := by
  intro fuel
  induction fuel with
  | zero =>
    intro listed a w _ hr _ _ h
    refine ⟨fun h0 => (by rw [h0] at hr; cases hr), fun j hj _ => ?_⟩
    by_cases hji : j = i
    · subst hji; exact h
    · obtain ⟨a', w', h1, _⟩ := xT_some h
      have := ready_mono hj hji
      rw [h1] at this; cases this
  | succ fuel ih =>
    intro listed a w hcl hr hri hmin h
    refine ⟨fun h0 => (by rw [h0] at hr; cases hr), fun j hj hoj' => ?_⟩
    by_cases hji : j = i
    · subst hji; exact h
    · obtain ⟨hjun, oj, hoj, _⟩ := mem_ready.1 hj
      obtain ⟨hiun, oi, hoi, _⟩ := mem_ready.1 hr
      have hjs : j < ops.size := (Array.getElem?_eq_some_iff.1 hoj).1
      have his : i < ops.size := (Array.getElem?_eq_some_iff.1 hoi).1
      have hlt : r.idxOf i < r.idxOf j := by
        rcases Nat.lt_trichotomy (r.idxOf i) (r.idxOf j) with h | h | h
        · exact h
        · exact absurd (g.inj his hjs h) (Ne.symm hji)
        · have := hmin j hjs h; rw [hjun] at this; cases this
      have hp : pairOk ops conf flg i j = true := by
        rcases g.pair i j his hjs hlt with h2 | h2
        · have := ready_bitE g hcl hj hoj' h2
          have hisz : i < listed.size := by
            rcases Nat.lt_or_ge i listed.size with h' | h'
            · exact h'
            · simp [Array.getElem?_eq_none h'] at this
          simp [hisz] at this hiun
          rw [hiun] at this; cases this
        · exact h2
      have h1 : xT P ops blk conf flg i (xT P ops blk conf flg j (anyT P ops blk conf flg Q E fuel ((listed.setIfInBounds i true).setIfInBounds j true))) a w :=
        xT_mono (fun a' w' h' => h'.2 j (ready_mono hj hji) (okE_set hoj')) h
      have h1' : xTo P ops blk conf flg i oi (xTo P ops blk conf flg j oj (anyT P ops blk conf flg Q E fuel ((listed.setIfInBounds i true).setIfInBounds j true))) a w := by
        unfold xT at h1; simpa only [hoi, hoj] using h1
      have h2 := xTo_swap hoi hoj (fun cs b => Region.noSelect_spec g.sel i oi cs b hoi) (fun cs b => Region.noSelect_spec g.sel j oj cs b hoj) hp h1'
      have h3 : xT P ops blk conf flg j (xT P ops blk conf flg i (anyT P ops blk conf flg Q E fuel ((listed.setIfInBounds i true).setIfInBounds j true))) a w := by
        unfold xT; simpa only [hoi, hoj] using h2
      refine xT_mono (fun a' w' h' => ?_) h3
      refine ih (listed.setIfInBounds j true) a' w' (hcl.step hj hoj') (ready_mono hr (Ne.symm hji)) (okE_set hri) (fun k hk hk2 => ?_) ?_
      · by_cases hjk : j = k
        · subst hjk; omega
        · rw [getD_set_ne true hjk]; exact hmin k hk hk2
      · rw [Array.setIfInBounds_comm _ _ hji]; exact h'
def wpR (P : Program) (ops : Array Oper) (blk : Nat → Nat) (conf : Nat → List Nat) (flg : List Nat) (Q : Exit → Act → World → Prop) : List Nat → Act → World → Prop
  | [], a, w => Q .normal a w
  | i :: rest, a, w => xT P ops blk conf flg i (wpR P ops blk conf flg Q rest) a w
theorem anyT_order (g : GoodR ops conf flg E r ms) : ∀ (d k : Nat) (listed : Array Bool) (a : Act) (w : World), k + d = ops.size → listed.size = ops.size → (∀ j, j < ops.size → listed.getD j true = decide (r.idxOf j < k)) →
    wpR P ops blk conf flg Q (r.drop k) a w → anyT P ops blk conf flg Q E d listed a w := by
  intro d
  induction d with
  | zero =>
    intro k listed a w hk hs hl h
    rw [List.drop_of_length_le (by rw [g.len]; omega)] at h
    refine ⟨?_, h⟩
    have : ∀ j, j ∉ Region.ready .any ops listed := fun j hj => by
      obtain ⟨h0, o, ho, _⟩ := mem_ready.1 hj
      have hlt := (Array.getElem?_eq_some_iff.1 ho).1
      rw [hl j hlt] at h0
      have := g.has j hlt
      simp at h0; omega
    exact List.eq_nil_iff_forall_not_mem.2 this
  | succ d ih =>
    intro k listed a w hk hs hl h
    have hks : k < r.length := by rw [g.len]; omega
    obtain ⟨i, hi⟩ : ∃ i, r[k] = i := ⟨_, rfl⟩
    have hir : i ∈ r := by rw [← hi]; exact List.getElem_mem hks
    have his : i < ops.size := g.inb i hir
    have hpos : r.idxOf i = k := by
      have := g.uni k (by omega)
      rwa [List.getD_eq_getElem?_getD, List.getElem?_eq_getElem hks, Option.getD_some, hi] at this
    have tf : ∀ j, j < ops.size → listed.getD j false = decide (r.idxOf j < k) := fun j hj => by
      rw [← hl j hj]; simp [show j < listed.size by omega]
    have hpl : ∀ p ∈ predsE ops E i, listed.getD p false = true := fun p hp => by
      obtain ⟨h1, h2⟩ := g.prec i his p hp
      rw [tf p h1]; simp; omega
    rw [List.drop_eq_getElem_cons hks, hi] at h
    simp only [wpR] at h
    refine anyT_first g d listed a w ?_ ?_ ?_ ?_ (i := i) ?_
    · intro j hjs hlj p hp
      rw [tf j hjs] at hlj
      obtain ⟨h1, h2⟩ := g.prec j hjs p hp
      rw [tf p h1]; simp at hlj ⊢; omega
    · refine mem_ready.2 ⟨by rw [hl i his]; simp; omega, ops[i], Array.getElem?_eq_getElem his, fun e he hb => ?_⟩
      refine hpl _ ?_
      unfold predsE
      rw [Array.getElem?_eq_getElem his]
      exact List.mem_append.2 (.inl (List.mem_map.2 ⟨e, List.mem_filter.2 ⟨by simpa using he, hb⟩, rfl⟩))
    · unfold okE
      rw [List.all_eq_true]
      intro p hp
      by_cases e : p.2 = i
      · rw [hpl p.1 (by unfold predsE; exact List.mem_append.2 (.inr (List.mem_map.2 ⟨p, List.mem_filter.2 ⟨hp, by simp [e]⟩, rfl⟩)))]; simp
      · simp [e]
    · intro j hj hjk
      rw [hl j hj]; simp; omega
    · refine xT_mono (fun a' w' h' => ih (k + 1) _ a' w' (by omega) (by simpa using hs) (fun j hj => ?_) h') h
      by_cases hkj : i = j
      · subst hkj; simp [hs, his]; omega
      · rw [getD_set_ne true hkj, hl j hj]
        simp only [decide_eq_decide]
        have : r.idxOf j ≠ k := fun e => hkj (g.inj his hj (by omega))
        omega

/-! ### As a list of operations -/
def pickR (ops : Array Oper) (r : List Nat) : List (Nat × Oper) := r.filterMap fun i => (ops[i]?).map fun o => (i, o)
def wpV (P : Program) (ops : Array Oper) (blk : Nat → Nat) (conf : Nat → List Nat) (flg : List Nat) (Q : Exit → Act → World → Prop) : List (Nat × Oper) → Act → World → Prop
  | [], a, w => Q .normal a w
  | p :: rest, a, w => xTo P ops blk conf flg p.1 p.2 (wpV P ops blk conf flg Q rest) a w
theorem wpR_of_V : ∀ (r : List Nat) (a : Act) (w : World), wpV P ops blk conf flg Q (pickR ops r) a w → wpR P ops blk conf flg Q r a w
  | [], a, w, h => h
  | i :: r, a, w, h => by
    unfold wpR
    unfold pickR at h
    rw [List.filterMap_cons] at h
    cases ho : ops[i]? with
    | none =>
      simp only [ho, Option.map_none] at h
      unfold xT; simp only [ho]
      exact wpR_of_V r a w h
    | some o =>
      simp only [ho, Option.map_some] at h
      unfold xT; simp only [ho]
      exact xTo_mono (fun a w h => wpR_of_V r a w h) h
/-- The region: whatever order. -/
theorem ck_uno {id : Nat} {w0 w : World} {F : List Nat} {L : List Res} {a : Act} (hS : Sep w0 F L w) (hm : P.follows .mixedOrders = true)
    (h : ∀ w', Sep w0 F L w' → anyE P ops Q [] ops.size (Array.replicate ops.size false) a w') : (Code.region id ops true).wp P Q a w :=
  wp_region_any hm (wpAny_of_anyE _ _ _ _ (h w.drew hS.drew))
/-- One order of the acts. -/
theorem ck_order (r : List Nat) (blk : Nat → Nat) (conf : Nat → List Nat) (flg : List Nat) {a : Act} {w : World} (hok : okR ops conf flg E r (masksE ops E r) = true) (h : wpV P ops blk conf flg Q (pickR ops r) a w) : anyE P ops Q E ops.size (Array.replicate ops.size false) a w :=
  anyE_of_anyT _ _ _ _ (anyT_order (okR_good hok) ops.size 0 _ a w (by simp) (by simp) (fun j hj => by simp [hj]) (wpR_of_V _ _ _ h))
end

/-! ### Steps -/
section
variable {P : Program} {ops : Array Oper} {blk : Nat → Nat} {conf : Nat → List Nat} {flg : List Nat} {Q : Exit → Act → World → Prop} {rest : List (Nat × Oper)} {w w0 : World} {F : List Nat} {L L' : List Res} {o : Oper} {a : Act} {i b off n : Nat} {cs vs : List Value} {T t : TypeId} {fz : Nat × Nat} {v : Value} {x y : Operand}
theorem wpV_nil (h : Q .normal a w) : wpV P ops blk conf flg Q [] a w := h
theorem wpV_skip (hw : Region.wanted o (yielded ops a.tmps) = false) (h : wpV P ops blk conf flg Q rest (a.put o.dst undef) w) : wpV P ops blk conf flg Q ((i, o) :: rest) a w := by
  unfold wpV xTo
  split
  · exact ⟨undef, w, .inl ⟨hw, rfl, rfl⟩, fun _ _ => rfl, h⟩
  · exact ⟨undef, none, fun _ => rfl, (fun b hb => by cases hb), .inl ⟨hw, rfl⟩, h⟩
theorem wpV_pure (hc : ckCls o = 0) (hw : Region.wanted o (yielded ops a.tmps) = true) (hr : ∀ w', (execOp a.eval o).run P w' = .ok (.value v) w') (h : wpV P ops blk conf flg Q rest (a.put o.dst v) w) : wpV P ops blk conf flg Q ((i, o) :: rest) a w := by
  unfold wpV xTo
  rw [if_neg (by simp only; omega)]
  exact ⟨v, none, fun _ => rfl, (fun b hb => by cases hb), .inr ⟨hw, fun w' _ => hr w'⟩, h⟩
theorem wpV_ld {A : Addr} (hc : ckCls o = 1) (hw : Region.wanted o (yielded ops a.tmps) = true) (hb : i ∈ flg → b = blk i) (hr : ∀ w', w'.heap[b]? = w.heap[b]? → (execOp a.eval o).run P w' = .ok (.value v) w') (h : wpV P ops blk conf flg Q rest (a.put o.dst v) w) : wpV P ops blk conf flg Q ((i, o) :: rest) a w := by
  unfold wpV xTo
  rw [if_neg (by simp only; omega)]
  exact ⟨v, some b, fun h0 => by simp only at h0; omega, fun c hc hi => by cases hc; exact hb hi, .inr ⟨hw, fun w' hw' => hr w' (hw' b rfl)⟩, h⟩
theorem wpV_val {w' : World} (hc : ckCls o = 2) (hw : Region.wanted o (yielded ops a.tmps) = true) (hr : (execOp a.eval o).run P w = .ok (.value v) w') (hcf : ∀ j ∈ conf i, w'.heap[blk j]? = w.heap[blk j]?) (h : wpV P ops blk conf flg Q rest (a.put o.dst v) w') : wpV P ops blk conf flg Q ((i, o) :: rest) a w := by
  unfold wpV xTo
  rw [if_pos hc]
  exact ⟨v, w', .inr ⟨hw, .inl hr⟩, hcf, h⟩
theorem wpV_skp {w' : World} (hc : ckCls o = 2) (hw : Region.wanted o (yielded ops a.tmps) = true) (hr : (execOp a.eval o).run P w = .ok .skip w') (hcf : ∀ j ∈ conf i, w'.heap[blk j]? = w.heap[blk j]?) (h : wpV P ops blk conf flg Q rest (a.put o.dst undef) w') : wpV P ops blk conf flg Q ((i, o) :: rest) a w := by
  unfold wpV xTo
  rw [if_pos hc]
  exact ⟨undef, w', .inr ⟨hw, .inr ⟨hr, rfl⟩⟩, hcf, h⟩
theorem ckV_max {u : TypeId} {k : IntKind} {p q : Int} (ho : o.op = .call { callee := .builtin .max, args := #[x, y], argTypes := #[t, u] }) (hw : Region.wanted o (yielded ops a.tmps) = true) (hx : a.eval x = .int k p) (hy : a.eval y = .int k q)
    (h : wpV P ops blk conf flg Q rest (a.put o.dst (.int k (max p q))) w) : wpV P ops blk conf flg Q ((i, o) :: rest) a w := wpV_pure (by unfold ckCls; rw [ho]) hw (run_max2 p q ho hx hy) h
theorem ckV_min {u : TypeId} {k : IntKind} {p q : Int} (ho : o.op = .call { callee := .builtin .min, args := #[x, y], argTypes := #[t, u] }) (hw : Region.wanted o (yielded ops a.tmps) = true) (hx : a.eval x = .int k p) (hy : a.eval y = .int k q)
    (h : wpV P ops blk conf flg Q rest (a.put o.dst (.int k (min p q))) w) : wpV P ops blk conf flg Q ((i, o) :: rest) a w := wpV_pure (by unfold ckCls; rw [ho]) hw (run_min2 p q ho hx hy) h
theorem ckV_load (hS : Sep w0 F L w) (ho : o.op = .load t x) (hw : Region.wanted o (yielded ops a.tmps) = true) (hx : a.eval x = .pointer (some ⟨b, off, none⟩)) (hb : i ∈ flg → b = blk i) (hm : pts b cs T ∈ L) (hv : cs[off]? = some v) (ht : ckScalar P t = true)
    (h : wpV P ops blk conf flg Q rest (a.put o.dst v) w) : wpV P ops blk conf flg Q ((i, o) :: rest) a w :=
  wpV_ld (A := ⟨b, off, none⟩) (by unfold ckCls; rw [ho]) hw hb (fun w' hw' => exec_load ho hx (run_load1 ht (hw'.trans (hS.holds _ hm)) hv)) h
theorem ckV_store (hS : Sep w0 F L w) (ho : o.op = .store t x y) (hw : Region.wanted o (yielded ops a.tmps) = true) (hx : a.eval x = .pointer (some ⟨b, off, none⟩)) (hy : Wh (a.eval y) v) (hu : Upd L (pts b cs T) (pts b (cs.set off v) T) L') (hl : off < cs.length) (hv : v.oneCell' = true) (ht : ckSize P t 1 = true)
    (hcf : ∀ j ∈ conf i, blk j ≠ b) (h : ∀ w', Sep w0 F L' w' → wpV P ops blk conf flg Q rest (a.put o.dst undef) w') : wpV P ops blk conf flg Q ((i, o) :: rest) a w :=
  wpV_skp (by unfold ckCls; rw [ho]) hw (exec_store ho hx hy.eq (run_store1 ht hv (hS.holds _ hu.mem) hl)) (fun j hj => Below.heap_setCell w _ v _ (hcf j hj)) (h _ (hS.setCell v hu))
theorem ckV_alloc (hS : Sep w0 F L w) (ho : o.op = .alloc t) (hw : Region.wanted o (yielded ops a.tmps) = true) (hz : (P.info? t).bind (·.zero) = some v) (hc : v.cells = cs.toArray) (hcf : ∀ j ∈ conf i, blk j < w.heap.size)
    (h : ∀ nb w', Sep w0 F (pts nb cs t :: L) w' → wpV P ops blk conf flg Q rest (a.put o.dst (.pointer (some ⟨nb, 0, none⟩))) w') : wpV P ops blk conf flg Q ((i, o) :: rest) a w :=
  wpV_val (by unfold ckCls; rw [ho]) hw (by rw [exec_alloc ho hz, hc]) (fun j hj => Below.heap_alloc w _ _ (hcf j hj)) (h _ _ (hS.alloc _ _))
end
end Go.Proofs.Ytchejceolnbcbaa
