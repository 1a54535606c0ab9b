/- TopTurns: what functions of the program come to: part 3 of 5. -/
import Derived.WalkKit
import Derived.Deep.DeepCutAuto
import Derived.WalkSpells
import Derived.WalkLawsBesides
import Derived.WalkMore
import Derived.Deep.LoopGhost
import Derived.Test.YtcegknecikbbkaaGreatProg
import Derived.Test.YtcegknecikbbkaaGreatTopTurnsM1
import Derived.Test.YtcegknecikbbkaaGreatTopTurnsM2
/- A region that draws its order, and some of whose acts no edge orders (calls among them): a tree of orders suffices. -/
set_option linter.unusedVariables false
set_option linter.unusedSimpArgs false
namespace Go.Proofs.YtcegknecikbbkaaGreat
open Go.RowKit
section
variable {P : Program} {ops : Array Oper} {Q : Exit → Act → World → Prop} {blk : Nat → Nat} {conf : Nat → List Nat} {flg : List Nat}
inductive OTree where
  | done
  | op (i : Nat) (t : OTree)
  | br (i : Nat) (t : OTree) (j : Nat) (u : OTree)
def OTree.depth : OTree → Nat
  | .done => 0
  | .op _ t => t.depth + 1
  | .br _ t _ _ => t.depth + 1
def OTree.seg : List Nat → OTree → OTree
  | [], t => t
  | i :: l, t => .op i (OTree.seg l t)
def wpG (P : Program) (ops : Array Oper) (blk : Nat → Nat) (conf : Nat → List Nat) (flg : List Nat) (Q : Exit → Act → World → Prop) : OTree → Act → World → Prop
  | .done, a, w => Q .normal a w
  | .op i t, a, w => xOp P ops blk conf flg Q i (wpG P ops blk conf flg Q t) a w
  | .br i t j u, a, w => xOp P ops blk conf flg Q i (wpG P ops blk conf flg Q t) a w ∧ xOp P ops blk conf flg Q j (wpG P ops blk conf flg Q u) a w
def okG (ops : Array Oper) (conf : Nat → List Nat) (flg : List Nat) : Array Bool → OTree → Bool
  | listed, .done => (Region.ready .any ops listed).isEmpty
  | listed, .op i t => (Region.ready .any ops listed).contains i && ((List.range ops.size).all fun j => listed.getD j true || j == i || ((Region.before ops).getD j 0).testBit i || pairOk ops conf flg i j) && okG ops conf flg (listed.setIfInBounds i true) t
  | listed, .br i t j u => (Region.ready .any ops listed).contains i && ((Region.ready .any ops listed).all fun k => k == i || k == j) && decide (t.depth = u.depth) && okG ops conf flg (listed.setIfInBounds i true) t && okG ops conf flg (listed.setIfInBounds j true) u
theorem anyX_firstG {i : Nat} (hQ : OnlyEnd Q) (hsel : Region.noSelect ops = true) (hms : masksOk ops (Region.before ops) = true) : ∀ (fuel : Nat) (listed : Array Bool) (a : Act) (w : World),
    Closed ops listed → i ∈ Region.ready .any ops listed → (∀ j, j < ops.size → listed.getD j true = false → j ≠ i → ((Region.before ops).getD j 0).testBit i = true ∨ pairOk ops conf flg i j = true) →
    xOp P ops blk conf flg Q i (anyX P ops blk conf flg Q fuel (listed.setIfInBounds i true)) a w → anyX P ops blk conf flg Q (fuel + 1) listed a w := by
  intro fuel
  induction fuel with
  | zero =>
    intro listed a w _ hr _ h
    refine ⟨fun h0 => (by rw [h0] at hr; cases hr), fun j hj => ?_⟩
    by_cases hji : j = i
    · subst hji; exact h
    · obtain ⟨a', w', h1, _⟩ := xOp_some hQ h
      have := ready_mono hj hji
      rw [h1] at this; cases this
  | succ fuel ih =>
    intro listed a w hcl hr hpair h
    refine ⟨fun h0 => (by rw [h0] at hr; cases hr), fun j hj => ?_⟩
    by_cases hji : j = i
    · subst hji; exact h
    · obtain ⟨hjun, oj, hoj, _⟩ := mem_ready.1 hj
      obtain ⟨hiun, oi, hoi, _⟩ := mem_ready.1 hr
      have hjs : j < ops.size := (Array.getElem?_eq_some_iff.1 hoj).1
      have hp : pairOk ops conf flg i j = true := by
        rcases hpair j hjs hjun hji with h2 | h2
        · have := ready_bit hms hcl hj h2
          have his : i < listed.size := by
            rcases Nat.lt_or_ge i listed.size with h' | h'
            · exact h'
            · simp [Array.getElem?_eq_none h'] at this
          simp [his] at this hiun
          rw [hiun] at this; cases this
        · exact h2
      have h1 : xOp P ops blk conf flg Q i (fun a' w' => xOp P ops blk conf flg Q j (anyX P ops blk conf flg Q fuel ((listed.setIfInBounds i true).setIfInBounds j true)) a' w') a w :=
        xOp_mono (fun a' w' h' => h'.2 j (ready_mono hj hji)) h
      have h2 := xOp_swap hoi hoj (fun cs b => Region.noSelect_spec hsel i oi cs b hoi) (fun cs b => Region.noSelect_spec hsel j oj cs b hoj) hQ hp h1
      refine xOp_mono (fun a' w' h' => ?_) h2
      refine ih (listed.setIfInBounds j true) a' w' (hcl.step hj) (ready_mono hr (Ne.symm hji)) (fun k hks hk hki => ?_) ?_
      · by_cases hjk : j = k
        · subst hjk
          exact .inr hp
        · rw [getD_set_ne true hjk] at hk; exact hpair k hks hk hki
      · rw [Array.setIfInBounds_comm _ _ hji]; exact h'
theorem anyX_tree (hQ : OnlyEnd Q) (hsel : Region.noSelect ops = true) (hms : masksOk ops (Region.before ops) = true) : ∀ (t : OTree) (listed : Array Bool) (a : Act) (w : World), Closed ops listed → okG ops conf flg listed t = true →
    wpG P ops blk conf flg Q t a w → anyX P ops blk conf flg Q t.depth listed a w
  | .done, listed, a, w, _, hok, h => ⟨List.isEmpty_iff.1 hok, h⟩
  | .op i t, listed, a, w, hcl, hok, h => by
    unfold okG at hok
    simp only [Bool.and_eq_true, List.all_eq_true, List.mem_range, Bool.or_eq_true, beq_iff_eq, List.contains_iff_mem] at hok
    obtain ⟨⟨h1, h2⟩, h3⟩ := hok
    refine anyX_firstG hQ hsel hms _ listed a w hcl h1 (fun j hj hl hne => ?_) (xOp_mono (fun a w h => anyX_tree hQ hsel hms t _ a w (hcl.step h1) h3 h) h)
    rcases h2 j hj with ((h | h) | h) | h
    · rw [hl] at h; cases h
    · exact absurd h hne
    · exact .inl h
    · exact .inr h
  | .br i t j u, listed, a, w, hcl, hok, h => by
    unfold okG at hok
    simp only [Bool.and_eq_true, List.all_eq_true, Bool.or_eq_true, beq_iff_eq, List.contains_iff_mem, decide_eq_true_eq] at hok
    obtain ⟨⟨⟨⟨h1, h2⟩, hd⟩, h3⟩, h4⟩ := hok
    refine ⟨fun h0 => (by rw [h0] at h1; cases h1), fun k hk => ?_⟩
    rcases h2 k hk with rfl | rfl
    · exact xOp_mono (fun a w h => anyX_tree hQ hsel hms t _ a w (hcl.step hk) h3 h) h.1
    · have e : t.depth = u.depth := hd
      show xOp P ops blk conf flg Q k (anyX P ops blk conf flg Q t.depth _) a w
      rw [e]
      exact xOp_mono (fun a w h => anyX_tree hQ hsel hms u _ a w (hcl.step hk) h4 h) h.2
/-- What goes on behind one operation. -/
def QK (K : Act → World → Prop) : Exit → Act → World → Prop := fun e a w => match e with | .normal => K a w | _ => False
theorem xOp_of_T {i : Nat} {o : Oper} (ho : ops[i]? = some o) {K : Act → World → Prop} {a : Act} {w : World} (h : wpT P ops blk conf flg (QK K) i [o] a w) : xOp P ops blk conf flg Q i K a w := by
  unfold wpT at h
  by_cases hc : ckCls o = 2
  · rw [if_pos hc] at h
    rw [xOp_act ho hc]
    split
    · rename_i hw
      rw [if_pos hw] at h
      unfold Oper.wp at *
      generalize (execOp a.eval o).run P w = r at *
      cases r with
      | ok n w' =>
        cases n with
        | enter f args =>
          refine Calls.mono (R := fun e w'' => match e, w'' with
            | .returned v, w'' => (fun a' w' => (∀ j ∈ conf i, w'.heap[blk j]? = w.heap[blk j]?) ∧ wpT P ops blk conf flg (QK K) (i + 1) [] a' w') (a.put o.dst v) w''
            | .panicked chain, w'' => QK K (.panic chain) a w''
            | .outgrown, _ => LetsOut (QK K)) h ?_
          intro e w2 he
          cases e with
          | returned v => exact he
          | panicked c => exact False.elim he
          | outgrown => obtain ⟨_, _, h⟩ := he; exact False.elim h
        | row r args => exact h
        | value v => exact h
        | skip => exact h
        | defer d => exact h
        | _ => exact h
      | halt x w' =>
        cases x with
        | panic v => exact False.elim h
        | _ => exact h
    · rename_i hw
      rw [if_neg hw] at h
      exact h
  · rw [if_neg hc] at h
    rw [xOp_quiet ho hc]
    exact h
variable {w0 w : World} {F : List Nat} {L : List Res} {a : Act}
theorem wpG_op {i : Nat} {o : Oper} {t : OTree} (ho : ops[i]? = some o) (h : wpT P ops blk conf flg (QK (wpG P ops blk conf flg Q t)) i [o] a w) : wpG P ops blk conf flg Q (.op i t) a w := xOp_of_T ho h
theorem wpG_br {i j : Nat} {oi oj : Oper} {t u : OTree} (hi : ops[i]? = some oi) (hj : ops[j]? = some oj) (h1 : wpT P ops blk conf flg (QK (wpG P ops blk conf flg Q t)) i [oi] a w) (h2 : wpT P ops blk conf flg (QK (wpG P ops blk conf flg Q u)) j [oj] a w) : wpG P ops blk conf flg Q (.br i t j u) a w := ⟨xOp_of_T hi h1, xOp_of_T hj h2⟩
theorem wpG_opL {l : List Oper} {i : Nat} {o : Oper} {t : OTree} (ho : l[i]? = some o) (h : wpT P l.toArray blk conf flg (QK (wpG P l.toArray blk conf flg Q t)) i [o] a w) : wpG P l.toArray blk conf flg Q (.op i t) a w := xOp_of_T (by simpa using ho) h
theorem wpG_brL {l : List Oper} {i j : Nat} {oi oj : Oper} {t u : OTree} (hi : l[i]? = some oi) (hj : l[j]? = some oj) (h1 : wpT P l.toArray blk conf flg (QK (wpG P l.toArray blk conf flg Q t)) i [oi] a w) (h2 : wpT P l.toArray blk conf flg (QK (wpG P l.toArray blk conf flg Q u)) j [oj] a w) : wpG P l.toArray blk conf flg Q (.br i t j u) a w := ⟨xOp_of_T (by simpa using hi) h1, xOp_of_T (by simpa using hj) h2⟩
theorem wpG_nil {t : OTree} {i : Nat} (h : wpG P ops blk conf flg Q t a w) : wpT P ops blk conf flg (QK (wpG P ops blk conf flg Q t)) i [] a w := h
theorem wpG_done (h : Q .normal a w) : wpG P ops blk conf flg Q .done a w := h
theorem closed_none : Closed ops (Array.replicate ops.size false) := by
  intro j o ho hl
  rw [Array.getD_eq_getD_getElem?] at hl
  by_cases h : j < ops.size
  · simp [h] at hl
  · simp [h] at hl
theorem ck_tree {id : Nat} {l : List Oper} (t : OTree) (blk : Nat → Nat) (conf : Nat → List Nat) (flg : List Nat) (hS : Sep w0 F L w) (hm : P.follows .mixedOrders = true)
    (hok : (Region.noSelect l.toArray && masksOk l.toArray (Region.before l.toArray) && decide (t.depth = l.length) && okG l.toArray conf flg (Array.replicate l.length false) t) = true) (hQ : OnlyEnd Q)
    (h : ∀ w', Sep w0 F L w' → (∀ b : Nat, w'.heap[b]? = w.heap[b]?) → wpG P l.toArray blk conf flg Q t a w') : (Code.region id l.toArray true).wp P Q a w := by
  simp only [Bool.and_eq_true, decide_eq_true_eq] at hok
  obtain ⟨⟨⟨h1, h2⟩, h3⟩, h4⟩ := hok
  refine wp_region_any hm (wpAny_of_anyX (blk := blk) (conf := conf) (flg := flg) _ _ _ _ ?_)
  have h5 := anyX_tree (P := P) (Q := Q) (blk := blk) (conf := conf) (flg := flg) hQ h1 h2 t (Array.replicate l.length false) a w.drew (by have := closed_none (ops := l.toArray); simpa using this) h4 (h _ hS.drew (fun _ => rfl))
  rw [h3] at h5
  simpa using h5
end
end Go.Proofs.YtcegknecikbbkaaGreat

/- Resources, picked out of a list in any order; groups laid open. -/
set_option linter.unusedVariables false
set_option linter.unusedSimpArgs false
namespace Go.Proofs.YtcegknecikbbkaaGreat
open Go.RowKit
section
variable {w0 w : World} {F : List Nat} {L L' L0 M : List Res} {r r' : Res} {P : Program}
/-- All of the second list stands in the first one; what is left over is dropped. -/
inductive Pick : List Res → List Res → Prop
  | refl (L : List Res) : Pick L L
  | take {S S' M : List Res} {r : Res} : Rem S r S' → Pick S' M → Pick S (r :: M)
  | drop {S M : List Res} {r : Res} : Pick S M → Pick (r :: S) M
theorem Sep.pick {S M : List Res} (h : Sep w0 F S w) (p : Pick S M) : Sep w0 F M w := by
  induction p generalizing F with
  | refl => exact h
  | take hr _ ih => 
    rename_i S S' M r hp
    have h1 := h.bring hr
    -- r is kept aside az a frame of its own
    have key : ∀ (A : List Res), Sep w0 F (A ++ S') w → Sep w0 F (A ++ M) w := by
      clear h h1 hr ih
      induction hp with
      | refl => intro A h; exact h
      | take hr _ ih2 =>
        rename_i S S' M r hp2
        intro A h
        have h2 : Sep w0 F ((A ++ [r]) ++ S') w := by
          rw [List.append_assoc]; exact h.perm (List.Perm.append_left _ hr.perm)
        have h3 := ih2 (A ++ [r]) h2
        rw [List.append_assoc] at h3
        exact h3
      | drop _ ih2 =>
        rename_i S M r hp2
        intro A h
        exact ih2 A ((h.perm (List.perm_middle (l₁ := A) (a := r) (l₂ := S))).drop)
    exact key [r] h1
  | drop _ ih => exact ih h.drop
/-- A list of resources taken out of another one. -/
inductive Takes : List Res → List Res → List Res → Prop
  | nil (L : List Res) : Takes L [] L
  | cons {L L1 L2 : List Res} {r : Res} {pre : List Res} : Rem L r L1 → Takes L1 pre L2 → Takes L (r :: pre) L2
theorem Takes.perm {pre : List Res} (h : Takes L pre L') : L.Perm (pre ++ L') := by
  induction h with
  | nil => exact .refl _
  | cons hr _ ih => exact hr.perm.trans (ih.cons _)
theorem Ct.callP {f : FuncId} {args : Array Value} {pre : List Res} {post : Value → List Res → Prop} (h : Ct P f args pre post) (ht : Takes L pre L0) (hS : Sep w0 F L w)
    {R : Ending → World → Prop} (hR : ∀ v L' w', post v L' → Sep w0 F (L' ++ L0) w' → R (.returned v) w') : Calls P f args w R :=
  h.call (hS.perm ht.perm) hR
/-- With a group laid open. -/
theorem Ct.open {f : FuncId} {args : Array Value} {l pre : List Res} {post : Value → List Res → Prop} (h : Ct P f args (grpR l :: pre) post) : Ct P f args (l ++ pre) post :=
  fun w0 F L w hS => h w0 F L w (by rw [List.append_assoc] at hS; exact Sep.grp.1 hS)
theorem Ct.shut {f : FuncId} {args : Array Value} {l pre : List Res} {post : Value → List Res → Prop} (h : Ct P f args (l ++ pre) post) : Ct P f args (grpR l :: pre) post :=
  fun w0 F L w hS => h w0 F L w (by rw [List.append_assoc]; exact Sep.grp.2 hS)
theorem Ct.post {f : FuncId} {args : Array Value} {pre : List Res} {v0 : Value} {l l' : List Res} (h : Ct P f args pre (Gives v0 l)) (hp : ∀ {w0 w : World} {F : List Nat} {L : List Res}, Sep w0 F (l ++ L) w → Sep w0 F (l' ++ L) w) : Ct P f args pre (Gives v0 l') :=
  fun w0 F L w hS => (h w0 F L w hS).mono fun e w' hr => by
    cases e with
    | returned v =>
      obtain ⟨L', ⟨hv, rfl⟩, hs⟩ := hr
      exact ⟨_, ⟨hv, rfl⟩, hp hs⟩
    | panicked c => exact hr.elim
    | outgrown => exact hr.elim
theorem Ct.pre {f : FuncId} {args : Array Value} {pre pre' : List Res} {post : Value → List Res → Prop} (h : Ct P f args pre post) (hp : ∀ {w0 w : World} {F : List Nat} {L : List Res}, Sep w0 F (pre' ++ L) w → Sep w0 F (pre ++ L) w) : Ct P f args pre' post :=
  fun w0 F L w hS => h w0 F L w (hp hS)
section
variable {ops : Array Oper} {Q : Exit → Act → World → Prop} {rest : List Oper} {o : Oper} {a : Act} {v : Value} {blk : Nat → Nat} {conf : Nat → List Nat} {flg : List Nat} {i : Nat}
/-- A call in a region that draws its order: what it owns is taken out of the list; the blocks of its conflicts stand in what is left, or are given back as they were. -/
theorem ckT_callP {f : FuncId} {as' : Array Operand} {ats : Array TypeId} {args : Array Value} {pre : List Res} {post : Value → List Res → Prop} (hS : Sep w0 F L w) (ho : o.op = .call { callee := .value (.func f), args := as', argTypes := ats }) (hC : Ct P f args pre post) (ht : Takes L pre L0) (hw : Region.wanted o (yielded ops a.tmps) = true) (hen : ckEnter P f = true)
    (ha : as'.toList.map a.eval = args.toList) (hcf : ∀ j ∈ conf i, (blk j < w0.heap.size ∧ blk j ∉ F) ∨ ∃ cs T, pts (blk j) cs T ∈ L ∧ ∀ v L', post v L' → pts (blk j) cs T ∈ L' ++ L0) (h : ∀ v L' w', post v L' → Sep w0 F (L' ++ L0) w' → wpT P ops blk conf flg Q (i + 1) rest (a.put o.dst v) w') : wpT P ops blk conf flg Q i (o :: rest) a w :=
  ckT_enter ho hw hen ha (hC.callP ht hS fun v L' w' hp hS' => ⟨fun j hj => by
    rcases hcf j hj with ⟨h1, h2⟩ | ⟨cs, T, h1, h2⟩
    · exact (hS'.frame _ h1 h2).trans (hS.frame _ h1 h2).symm
    · exact Eq.trans (hS'.holds _ (h2 v L' hp)) (Eq.symm (hS.holds _ h1)), h v L' w' hp hS'⟩)
/-- Behind all orders of a tree the same is known. -/
def QM (A : Nat → Act) (S : Nat → World → Prop) : Exit → Act → World → Prop := fun e a w => e = .normal ∧ ∃ r, a = A r ∧ S r w
theorem QM_only {A : Nat → Act} {S : Nat → World → Prop} : OnlyEnd (QM A S) := ⟨fun c a w h => (by have h1 := h.1; cases h1), fun a w h => (by have h1 := h.1; cases h1)⟩
theorem ck_treeM {id : Nat} {l : List Oper} (A : Nat → Act) (S : Nat → World → Prop) (t : OTree) (blk : Nat → Nat) (conf : Nat → List Nat) (flg : List Nat) (hS : Sep w0 F L w) (hm : P.follows .mixedOrders = true)
    (hok : (Region.noSelect l.toArray && masksOk l.toArray (Region.before l.toArray) && decide (t.depth = l.length) && okG l.toArray conf flg (Array.replicate l.length false) t) = true)
    (h : ∀ w', Sep w0 F L w' → (∀ b : Nat, w'.heap[b]? = w.heap[b]?) → wpG P l.toArray blk conf flg (QM A S) t a w') (hc : ∀ r w', S r w' → Q .normal (A r) w') : (Code.region id l.toArray true).wp P Q a w :=
  Code.wp_mono (fun e a w h => by obtain ⟨rfl, r, rfl, hs⟩ := h; exact hc r w hs) (ck_tree t blk conf flg hS hm hok QM_only h)
end
end
end Go.Proofs.YtcegknecikbbkaaGreat

/- A config that may be, near to any. -/
set_option linter.unusedVariables false
set_option linter.unusedSimpArgs false
set_option maxRecDepth 4000
namespace Go.Proofs.YtcegknecikbbkaaGreat
open Go.RowKit
def cfgZ : CfgM := ⟨0, 0, 0, 0, 0, 0, false, 0, 0⟩
def plainC : CfgM := ⟨3000, 15000, 100, 50, 10000000000, 0, false, 100000, 1000⟩
theorem plain_ct : Ct Tryz.prog 6 #[] [] (Gives (cfgA plainC) []) := by
  intro w0 F L w hS
  simp only [List.cons_append, List.nil_append] at hS
  go_enter Tryz.func6, Tryz.ntmps6
  go_wp2_with (first | go_skip | (refine ck_store hS rfl rfl rfl (by constructor) (by (repeat (first | exact uH _ _ _ | apply uT)) <;> fail) (by simp <;> omega) rfl (by decide +kernel) ?_; clear hS; intro w hS; simp only [Act.put, spA, spZ, spS] at hS ⊢) | (refine ck_alloc (t := 24) (v := cfgA cfgZ) (cs := cfgV cfgZ) hS rfl rfl (by kernel_rfl) rfl ?_; clear hS; intro x0 w hS; simp only [Act.put, spA, spZ, spS]) | (refine ck_storeAll hS rfl rfl rfl rfl (by (repeat (first | exact uH _ _ _ | apply uT)) <;> fail) (by rfl) rfl (by (try simp only [List.length_cons, List.length_nil, Nat.zero_add, Nat.reduceAdd]); decide +kernel) ?_; clear hS; intro w hS; simp only [Act.put, spA, spZ, spS]))
  refine bodyPost_ret (ckRes_cell hS (cs := cfgV plainC) (b := x0) (T := 24) (by (repeat (first | exact mH _ | apply mT)) <;> fail) rfl rfl rfl (by (try simp only [List.length_cons, List.length_nil, Nat.zero_add, Nat.reduceAdd]); decide +kernel)) rfl ?_
  exact ⟨_, ⟨rfl, rfl⟩, hS.drop⟩
def fld (lo hi d v : Int) : Int := if lo ≤ v ∧ v ≤ hi then v else d
def playC (c : CfgM) : CfgM := ⟨fld 100 65536 3000 c.quantum, fld 100 65536 15000 c.first, fld 1 512 100 c.limit, fld 1 512 50 c.flowLimit, if c.horizon ≤ 4611686018427387904 then c.horizon else 10000000000, c.maxRate, c.dropH, fld 1 1073741824 100000 c.cap, fld 100 9000 1000 c.mss⟩
theorem fld_bd {lo hi d v : Int} (h0 : lo ≤ d) (h1 : d ≤ hi) : lo ≤ fld lo hi d v ∧ fld lo hi d v ≤ hi := by unfold fld; split <;> omega
theorem playC_ok (c : CfgM) : mayOk (playC c) := by
  have h1 := fld_bd (lo := 100) (hi := 65536) (d := 3000) (v := c.quantum) (by omega) (by omega)
  have h2 := fld_bd (lo := 100) (hi := 65536) (d := 15000) (v := c.first) (by omega) (by omega)
  have h3 := fld_bd (lo := 1) (hi := 512) (d := 100) (v := c.limit) (by omega) (by omega)
  have h4 := fld_bd (lo := 1) (hi := 512) (d := 50) (v := c.flowLimit) (by omega) (by omega)
  have h5 := fld_bd (lo := 1) (hi := 1073741824) (d := 100000) (v := c.cap) (by omega) (by omega)
  have h6 := fld_bd (lo := 100) (hi := 9000) (d := 1000) (v := c.mss) (by omega) (by omega)
  refine ⟨h1.1, h1.2, h2.1, h2.2, h3.1, h3.2, h4.1, h4.2, ?_, h5.1, h5.2, h6.1, h6.2⟩
  show (if c.horizon ≤ 4611686018427387904 then c.horizon else 10000000000) ≤ 4611686018427387904
  split <;> omega
abbrev pcell (q f l fl h mr : Int) (dh : Bool) (cp ms : Int) : List Value := [.int .i64 q, .int .i64 f, .int .i64 l, .int .i64 fl, .int .u64 h, .int .u64 mr, .bool dh, .int .i64 cp, .int .i64 ms]
set_option maxHeartbeats 4000000 in
theorem play_ct (c : CfgM) : Ct Tryz.prog 12 #[cfgA c] [] (Gives (cfgA (playC c)) []) := by
  obtain ⟨cq, cf, cl, cfl, ch, cmr, cdh, ccp, cms⟩ := c
  have kP : Ct Tryz.prog 6 #[] [] (Gives (.agg (pcell 3000 15000 100 50 10000000000 0 false 100000 1000).toArray) []) := plain_ct
  intro w0 F L w hS
  simp only [List.cons_append, List.nil_append] at hS
  go_enter Tryz.func12, Tryz.ntmps12
  go_upto_region 2 with (first | go_skip | (refine ck_load hS rfl rfl rfl (by (repeat (first | exact mH _ | apply mT)) <;> fail) rfl (by decide +kernel) ?_; simp only [Act.put, spA, spZ, spS]) | (refine ck_box hS rfl rfl (by constructor) ?_; clear hS; intro x1 w hS; simp only [Act.put, spA, spZ, spS]) | (refine ck_storeAll hS rfl rfl rfl rfl (by (repeat (first | exact uH _ _ _ | apply uT)) <;> fail) (by rfl) rfl (by (try simp only [List.length_cons, List.length_nil, Nat.zero_add, Nat.reduceAdd]); decide +kernel) ?_; clear hS; intro w hS; simp only [Act.put, spA, spZ, spS]) | (have h1 := x2; clear h1; refine ck_alloc (t := 24) (v := cfgA cfgZ) (cs := cfgV cfgZ) hS rfl rfl (by kernel_rfl) rfl ?_; clear hS; intro x3 w hS; simp only [Act.put, spA, spZ, spS]) | (refine ck_alloc (t := 24) (v := cfgA cfgZ) (cs := cfgV cfgZ) hS rfl rfl (by kernel_rfl) rfl ?_; clear hS; intro x2 w hS; simp only [Act.put, spA, spZ, spS]) | (go_at_call 6; with_reducible refine Ct.call0 (kP) hS ?_; clear hS; intro w hS))
  go_cut [12] (fun s wx => s = .bool (decide (100 ≤ cq) && decide (cq ≤ 65536)) ∧ Sep w0 F (pts x3 (pcell 3000 15000 100 50 10000000000 0 false 100000 1000) 24 :: pts x2 (cfgV cfgZ) 24 :: pts x1 (cfgV ⟨cq, cf, cl, cfl, ch, cmr, cdh, ccp, cms⟩) 24 :: L) wx)
  case first =>
    by_cases h1 : 100 ≤ cq
    · go_wp2_with (first | go_skip | (refine ck_load hS rfl rfl rfl (by (repeat (first | exact mH _ | apply mT)) <;> fail) rfl (by decide +kernel) ?_; simp only [Act.put, spA, spZ, spS]))
      go_meet
      case rel => exact ⟨congrArg Value.bool (by rw [decide_eq_true h1, Bool.true_and]), hS⟩
    · go_wp2_with (first | go_skip | (refine ck_load hS rfl rfl rfl (by (repeat (first | exact mH _ | apply mT)) <;> fail) rfl (by decide +kernel) ?_; simp only [Act.put, spA, spZ, spS]))
      go_meet
      case rel => exact ⟨congrArg Value.bool (by rw [decide_eq_false (by omega : ¬ 100 ≤ cq), Bool.false_and]), hS⟩
  case rest =>
  clear hS
  obtain ⟨rfl, hS⟩ := hcut
  go_upto_if 12 with fail
  go_cut [] (fun wx => Sep w0 F (pts x3 (pcell (fld 100 65536 3000 cq) 15000 100 50 10000000000 0 false 100000 1000) 24 :: pts x2 (cfgV cfgZ) 24 :: pts x1 (cfgV ⟨cq, cf, cl, cfl, ch, cmr, cdh, ccp, cms⟩) 24 :: L) wx)
  case first =>
    go_wp2_with (first | go_skip | (refine ck_load hS rfl rfl rfl (by (repeat (first | exact mH _ | apply mT)) <;> fail) rfl (by decide +kernel) ?_; simp only [Act.put, spA, spZ, spS]) | (refine ck_store hS rfl rfl rfl (by constructor) (by (repeat (first | exact uH _ _ _ | apply uT)) <;> fail) (by simp <;> omega) rfl (by decide +kernel) ?_; clear hS; intro w hS; simp only [Act.put, spA, spZ, spS] at hS ⊢))
    all_goals
      go_meet
      case rel => first | (rw [show fld 100 65536 3000 cq = cq by unfold fld; rw [if_pos (by omega)]]; exact hS) | (rw [show fld 100 65536 3000 cq = 3000 by unfold fld; rw [if_neg (by omega)]]; exact hS)
  case rest =>
  clear hS
  have hS := hcut
  clear hcut
  go_upto_region 4 with (first | go_skip)
  go_cut [23] (fun s wx => s = .bool (decide (100 ≤ cf) && decide (cf ≤ 65536)) ∧ Sep w0 F (pts x3 (pcell (fld 100 65536 3000 cq) 15000 100 50 10000000000 0 false 100000 1000) 24 :: pts x2 (cfgV cfgZ) 24 :: pts x1 (cfgV ⟨cq, cf, cl, cfl, ch, cmr, cdh, ccp, cms⟩) 24 :: L) wx)
  case first =>
    by_cases h1 : 100 ≤ cf
    · go_wp2_with (first | go_skip | (refine ck_load hS rfl rfl rfl (by (repeat (first | exact mH _ | apply mT)) <;> fail) rfl (by decide +kernel) ?_; simp only [Act.put, spA, spZ, spS]))
      go_meet
      case rel => exact ⟨congrArg Value.bool (by rw [decide_eq_true h1, Bool.true_and]), hS⟩
    · go_wp2_with (first | go_skip | (refine ck_load hS rfl rfl rfl (by (repeat (first | exact mH _ | apply mT)) <;> fail) rfl (by decide +kernel) ?_; simp only [Act.put, spA, spZ, spS]))
      go_meet
      case rel => exact ⟨congrArg Value.bool (by rw [decide_eq_false (by omega : ¬ 100 ≤ cf), Bool.false_and]), hS⟩
  case rest =>
  clear hS
  obtain ⟨rfl, hS⟩ := hcut
  go_upto_if 23 with fail
  go_cut [] (fun wx => Sep w0 F (pts x3 (pcell (fld 100 65536 3000 cq) (fld 100 65536 15000 cf) 100 50 10000000000 0 false 100000 1000) 24 :: pts x2 (cfgV cfgZ) 24 :: pts x1 (cfgV ⟨cq, cf, cl, cfl, ch, cmr, cdh, ccp, cms⟩) 24 :: L) wx)
  case first =>
    go_wp2_with (first | go_skip | (refine ck_load hS rfl rfl rfl (by (repeat (first | exact mH _ | apply mT)) <;> fail) rfl (by decide +kernel) ?_; simp only [Act.put, spA, spZ, spS]) | (refine ck_store hS rfl rfl rfl (by constructor) (by (repeat (first | exact uH _ _ _ | apply uT)) <;> fail) (by simp <;> omega) rfl (by decide +kernel) ?_; clear hS; intro w hS; simp only [Act.put, spA, spZ, spS] at hS ⊢))
    all_goals
      go_meet
      case rel => first | (rw [show fld 100 65536 15000 cf = cf by unfold fld; rw [if_pos (by omega)]]; exact hS) | (rw [show fld 100 65536 15000 cf = 15000 by unfold fld; rw [if_neg (by omega)]]; exact hS)
  case rest =>
  clear hS
  have hS := hcut
  clear hcut
  go_upto_region 6 with (first | go_skip)
  go_cut [34] (fun s wx => s = .bool (decide (1 ≤ cl) && decide (cl ≤ 512)) ∧ Sep w0 F (pts x3 (pcell (fld 100 65536 3000 cq) (fld 100 65536 15000 cf) 100 50 10000000000 0 false 100000 1000) 24 :: pts x2 (cfgV cfgZ) 24 :: pts x1 (cfgV ⟨cq, cf, cl, cfl, ch, cmr, cdh, ccp, cms⟩) 24 :: L) wx)
  case first =>
    by_cases h1 : 1 ≤ cl
    · go_wp2_with (first | go_skip | (refine ck_load hS rfl rfl rfl (by (repeat (first | exact mH _ | apply mT)) <;> fail) rfl (by decide +kernel) ?_; simp only [Act.put, spA, spZ, spS]))
      go_meet
      case rel => exact ⟨congrArg Value.bool (by rw [decide_eq_true h1, Bool.true_and]), hS⟩
    · go_wp2_with (first | go_skip | (refine ck_load hS rfl rfl rfl (by (repeat (first | exact mH _ | apply mT)) <;> fail) rfl (by decide +kernel) ?_; simp only [Act.put, spA, spZ, spS]))
      go_meet
      case rel => exact ⟨congrArg Value.bool (by rw [decide_eq_false (by omega : ¬ 1 ≤ cl), Bool.false_and]), hS⟩
  case rest =>
  clear hS
  obtain ⟨rfl, hS⟩ := hcut
  go_upto_if 34 with fail
  go_cut [] (fun wx => Sep w0 F (pts x3 (pcell (fld 100 65536 3000 cq) (fld 100 65536 15000 cf) (fld 1 512 100 cl) 50 10000000000 0 false 100000 1000) 24 :: pts x2 (cfgV cfgZ) 24 :: pts x1 (cfgV ⟨cq, cf, cl, cfl, ch, cmr, cdh, ccp, cms⟩) 24 :: L) wx)
  case first =>
    go_wp2_with (first | go_skip | (refine ck_load hS rfl rfl rfl (by (repeat (first | exact mH _ | apply mT)) <;> fail) rfl (by decide +kernel) ?_; simp only [Act.put, spA, spZ, spS]) | (refine ck_store hS rfl rfl rfl (by constructor) (by (repeat (first | exact uH _ _ _ | apply uT)) <;> fail) (by simp <;> omega) rfl (by decide +kernel) ?_; clear hS; intro w hS; simp only [Act.put, spA, spZ, spS] at hS ⊢))
    all_goals
      go_meet
      case rel => first | (rw [show fld 1 512 100 cl = cl by unfold fld; rw [if_pos (by omega)]]; exact hS) | (rw [show fld 1 512 100 cl = 100 by unfold fld; rw [if_neg (by omega)]]; exact hS)
  case rest =>
  clear hS
  have hS := hcut
  clear hcut
  go_upto_region 8 with (first | go_skip)
  go_cut [45] (fun s wx => s = .bool (decide (1 ≤ cfl) && decide (cfl ≤ 512)) ∧ Sep w0 F (pts x3 (pcell (fld 100 65536 3000 cq) (fld 100 65536 15000 cf) (fld 1 512 100 cl) 50 10000000000 0 false 100000 1000) 24 :: pts x2 (cfgV cfgZ) 24 :: pts x1 (cfgV ⟨cq, cf, cl, cfl, ch, cmr, cdh, ccp, cms⟩) 24 :: L) wx)
  case first =>
    by_cases h1 : 1 ≤ cfl
    · go_wp2_with (first | go_skip | (refine ck_load hS rfl rfl rfl (by (repeat (first | exact mH _ | apply mT)) <;> fail) rfl (by decide +kernel) ?_; simp only [Act.put, spA, spZ, spS]))
      go_meet
      case rel => exact ⟨congrArg Value.bool (by rw [decide_eq_true h1, Bool.true_and]), hS⟩
    · go_wp2_with (first | go_skip | (refine ck_load hS rfl rfl rfl (by (repeat (first | exact mH _ | apply mT)) <;> fail) rfl (by decide +kernel) ?_; simp only [Act.put, spA, spZ, spS]))
      go_meet
      case rel => exact ⟨congrArg Value.bool (by rw [decide_eq_false (by omega : ¬ 1 ≤ cfl), Bool.false_and]), hS⟩
  case rest =>
  clear hS
  obtain ⟨rfl, hS⟩ := hcut
  go_upto_if 45 with fail
  go_cut [] (fun wx => Sep w0 F (pts x3 (pcell (fld 100 65536 3000 cq) (fld 100 65536 15000 cf) (fld 1 512 100 cl) (fld 1 512 50 cfl) 10000000000 0 false 100000 1000) 24 :: pts x2 (cfgV cfgZ) 24 :: pts x1 (cfgV ⟨cq, cf, cl, cfl, ch, cmr, cdh, ccp, cms⟩) 24 :: L) wx)
  case first =>
    go_wp2_with (first | go_skip | (refine ck_load hS rfl rfl rfl (by (repeat (first | exact mH _ | apply mT)) <;> fail) rfl (by decide +kernel) ?_; simp only [Act.put, spA, spZ, spS]) | (refine ck_store hS rfl rfl rfl (by constructor) (by (repeat (first | exact uH _ _ _ | apply uT)) <;> fail) (by simp <;> omega) rfl (by decide +kernel) ?_; clear hS; intro w hS; simp only [Act.put, spA, spZ, spS] at hS ⊢))
    all_goals
      go_meet
      case rel => first | (rw [show fld 1 512 50 cfl = cfl by unfold fld; rw [if_pos (by omega)]]; exact hS) | (rw [show fld 1 512 50 cfl = 50 by unfold fld; rw [if_neg (by omega)]]; exact hS)
  case rest =>
  clear hS
  have hS := hcut
  clear hcut
  go_upto_if 51 with (first | go_skip | (refine ck_load hS rfl rfl rfl (by (repeat (first | exact mH _ | apply mT)) <;> fail) rfl (by decide +kernel) ?_; simp only [Act.put, spA, spZ, spS]))
  go_cut [] (fun wx => Sep w0 F (pts x3 (pcell (fld 100 65536 3000 cq) (fld 100 65536 15000 cf) (fld 1 512 100 cl) (fld 1 512 50 cfl) (if ch ≤ 4611686018427387904 then ch else 10000000000) 0 false 100000 1000) 24 :: pts x2 (cfgV cfgZ) 24 :: pts x1 (cfgV ⟨cq, cf, cl, cfl, ch, cmr, cdh, ccp, cms⟩) 24 :: L) wx)
  case first =>
    go_wp2_with (first | go_skip | (refine ck_load hS rfl rfl rfl (by (repeat (first | exact mH _ | apply mT)) <;> fail) rfl (by decide +kernel) ?_; simp only [Act.put, spA, spZ, spS]) | (refine ck_store hS rfl rfl rfl (by constructor) (by (repeat (first | exact uH _ _ _ | apply uT)) <;> fail) (by simp <;> omega) rfl (by decide +kernel) ?_; clear hS; intro w hS; simp only [Act.put, spA, spZ, spS] at hS ⊢))
    all_goals
      go_meet
      case rel => first | (rw [if_pos (by omega)]; exact hS) | (rw [if_neg (by omega)]; exact hS)
  case rest =>
  clear hS
  have hS := hcut
  clear hcut
  go_upto_region 12 with (first | go_skip)
  go_cut [62] (fun s wx => s = .bool (decide (1 ≤ ccp) && decide (ccp ≤ 1073741824)) ∧ Sep w0 F (pts x3 (pcell (fld 100 65536 3000 cq) (fld 100 65536 15000 cf) (fld 1 512 100 cl) (fld 1 512 50 cfl) (if ch ≤ 4611686018427387904 then ch else 10000000000) 0 false 100000 1000) 24 :: pts x2 (cfgV cfgZ) 24 :: pts x1 (cfgV ⟨cq, cf, cl, cfl, ch, cmr, cdh, ccp, cms⟩) 24 :: L) wx)
  case first =>
    by_cases h1 : 1 ≤ ccp
    · go_wp2_with (first | go_skip | (refine ck_load hS rfl rfl rfl (by (repeat (first | exact mH _ | apply mT)) <;> fail) rfl (by decide +kernel) ?_; simp only [Act.put, spA, spZ, spS]))
      go_meet
      case rel => exact ⟨congrArg Value.bool (by rw [decide_eq_true h1, Bool.true_and]), hS⟩
    · go_wp2_with (first | go_skip | (refine ck_load hS rfl rfl rfl (by (repeat (first | exact mH _ | apply mT)) <;> fail) rfl (by decide +kernel) ?_; simp only [Act.put, spA, spZ, spS]))
      go_meet
      case rel => exact ⟨congrArg Value.bool (by rw [decide_eq_false (by omega : ¬ 1 ≤ ccp), Bool.false_and]), hS⟩
  case rest =>
  clear hS
  obtain ⟨rfl, hS⟩ := hcut
  go_upto_if 62 with fail
  go_cut [] (fun wx => Sep w0 F (pts x3 (pcell (fld 100 65536 3000 cq) (fld 100 65536 15000 cf) (fld 1 512 100 cl) (fld 1 512 50 cfl) (if ch ≤ 4611686018427387904 then ch else 10000000000) 0 false (fld 1 1073741824 100000 ccp) 1000) 24 :: pts x2 (cfgV cfgZ) 24 :: pts x1 (cfgV ⟨cq, cf, cl, cfl, ch, cmr, cdh, ccp, cms⟩) 24 :: L) wx)
  case first =>
    go_wp2_with (first | go_skip | (refine ck_load hS rfl rfl rfl (by (repeat (first | exact mH _ | apply mT)) <;> fail) rfl (by decide +kernel) ?_; simp only [Act.put, spA, spZ, spS]) | (refine ck_store hS rfl rfl rfl (by constructor) (by (repeat (first | exact uH _ _ _ | apply uT)) <;> fail) (by simp <;> omega) rfl (by decide +kernel) ?_; clear hS; intro w hS; simp only [Act.put, spA, spZ, spS] at hS ⊢))
    all_goals
      go_meet
      case rel => first | (rw [show fld 1 1073741824 100000 ccp = ccp by unfold fld; rw [if_pos (by omega)]]; exact hS) | (rw [show fld 1 1073741824 100000 ccp = 100000 by unfold fld; rw [if_neg (by omega)]]; exact hS)
  case rest =>
  clear hS
  have hS := hcut
  clear hcut
  go_upto_region 14 with (first | go_skip)
  go_cut [73] (fun s wx => s = .bool (decide (100 ≤ cms) && decide (cms ≤ 9000)) ∧ Sep w0 F (pts x3 (pcell (fld 100 65536 3000 cq) (fld 100 65536 15000 cf) (fld 1 512 100 cl) (fld 1 512 50 cfl) (if ch ≤ 4611686018427387904 then ch else 10000000000) 0 false (fld 1 1073741824 100000 ccp) 1000) 24 :: pts x2 (cfgV cfgZ) 24 :: pts x1 (cfgV ⟨cq, cf, cl, cfl, ch, cmr, cdh, ccp, cms⟩) 24 :: L) wx)
  case first =>
    by_cases h1 : 100 ≤ cms
    · go_wp2_with (first | go_skip | (refine ck_load hS rfl rfl rfl (by (repeat (first | exact mH _ | apply mT)) <;> fail) rfl (by decide +kernel) ?_; simp only [Act.put, spA, spZ, spS]))
      go_meet
      case rel => exact ⟨congrArg Value.bool (by rw [decide_eq_true h1, Bool.true_and]), hS⟩
    · go_wp2_with (first | go_skip | (refine ck_load hS rfl rfl rfl (by (repeat (first | exact mH _ | apply mT)) <;> fail) rfl (by decide +kernel) ?_; simp only [Act.put, spA, spZ, spS]))
      go_meet
      case rel => exact ⟨congrArg Value.bool (by rw [decide_eq_false (by omega : ¬ 100 ≤ cms), Bool.false_and]), hS⟩
  case rest =>
  clear hS
  obtain ⟨rfl, hS⟩ := hcut
  go_upto_if 73 with fail
  go_cut [] (fun wx => Sep w0 F (pts x3 (pcell (fld 100 65536 3000 cq) (fld 100 65536 15000 cf) (fld 1 512 100 cl) (fld 1 512 50 cfl) (if ch ≤ 4611686018427387904 then ch else 10000000000) 0 false (fld 1 1073741824 100000 ccp) (fld 100 9000 1000 cms)) 24 :: pts x2 (cfgV cfgZ) 24 :: pts x1 (cfgV ⟨cq, cf, cl, cfl, ch, cmr, cdh, ccp, cms⟩) 24 :: L) wx)
  case first =>
    go_wp2_with (first | go_skip | (refine ck_load hS rfl rfl rfl (by (repeat (first | exact mH _ | apply mT)) <;> fail) rfl (by decide +kernel) ?_; simp only [Act.put, spA, spZ, spS]) | (refine ck_store hS rfl rfl rfl (by constructor) (by (repeat (first | exact uH _ _ _ | apply uT)) <;> fail) (by simp <;> omega) rfl (by decide +kernel) ?_; clear hS; intro w hS; simp only [Act.put, spA, spZ, spS] at hS ⊢))
    all_goals
      go_meet
      case rel => first | (rw [show fld 100 9000 1000 cms = cms by unfold fld; rw [if_pos (by omega)]]; exact hS) | (rw [show fld 100 9000 1000 cms = 1000 by unfold fld; rw [if_neg (by omega)]]; exact hS)
  case rest =>
  clear hS
  have hS := hcut
  clear hcut
  have hne : x1 ≠ x3 := (hS.pick (M := pts x1 (cfgV ⟨cq, cf, cl, cfl, ch, cmr, cdh, ccp, cms⟩) 24 :: pts x3 (pcell (fld 100 65536 3000 cq) (fld 100 65536 15000 cf) (fld 1 512 100 cl) (fld 1 512 50 cfl) (if ch ≤ 4611686018427387904 then ch else 10000000000) 0 false (fld 1 1073741824 100000 ccp) (fld 100 9000 1000 cms)) 24 :: L) (by (repeat (first | exact Pick.refl _ | (apply Pick.take; ((repeat (first | exact rH _ _ | apply rT)) <;> fail)) | (apply Pick.drop))))).ne (by simp [pts]) (by simp [pts])
  go_upto_region 16 with (first | go_skip)
  refine ck_region (fun _ => x1) (fun i => if i = 5 then [3] else []) [3] hS (by kernel_rfl) (by decide +kernel) ?_ ?_
  exact ⟨fun _ _ _ h => h.2, fun _ _ h => h⟩
  clear hS
  intro w hS _
  (repeat (first | (refine ckT_store hS rfl rfl rfl (by constructor) (by (repeat (first | exact uH _ _ _ | apply uT)) <;> fail) (by simp <;> fail) rfl (by decide +kernel) (by intro j hj; first | (simp at hj; subst hj; exact hne) | (simp at hj)) ?_; clear hS; intro w hS; simp only [Act.put, spA, spZ, spS] at hS ⊢) | (apply wpT_pure rfl rfl; (intro _; go_simp; (try (go_ints; (try go_simp))); (first | (rw [decide_eq_true]; omega) | (rw [decide_eq_false]; omega) | rfl | rw [if_pos (by omega)])); simp only [Act.put, spA, spZ, spS]) | (refine ckT_load hS rfl rfl rfl (by simp <;> fail) (by (repeat (first | exact mH _ | apply mT)) <;> fail) rfl (by decide +kernel) ?_; simp only [Act.put, spA, spZ, spS])))
  refine wpT_nil ?_
  go_wp2_with (first | go_skip | (refine ck_loadAll hS rfl rfl rfl (by (repeat (first | exact mH _ | apply mT)) <;> fail) rfl (by (try simp only [List.length_cons, List.length_nil, Nat.zero_add, Nat.reduceAdd]); decide +kernel) ?_; simp only [Act.put, spA, spZ, spS]) | (refine ck_storeAll hS rfl rfl rfl rfl (by (repeat (first | exact uH _ _ _ | apply uT)) <;> fail) (by rfl) rfl (by (try simp only [List.length_cons, List.length_nil, Nat.zero_add, Nat.reduceAdd]); decide +kernel) ?_; clear hS; intro w hS; simp only [Act.put, spA, spZ, spS]))
  all_goals
    refine bodyPost_ret (ckRes_cell hS (cs := cfgV (playC ⟨cq, cf, cl, cfl, ch, cmr, cdh, ccp, cms⟩)) (b := x2) (T := 24) (by (repeat (first | exact mH _ | apply mT)) <;> fail) rfl rfl rfl (by (try simp only [List.length_cons, List.length_nil, Nat.zero_add, Nat.reduceAdd]); decide +kernel)) rfl ?_
    exact ⟨_, ⟨rfl, rfl⟩, hS.dropN 3⟩
end Go.Proofs.YtcegknecikbbkaaGreat

/- A row's argument that is a config. -/
set_option linter.unusedVariables false
set_option linter.unusedSimpArgs false
set_option maxRecDepth 4000
namespace Go.Proofs.YtcegknecikbbkaaGreat
open Go.RowKit
structure cfgWf (c : CfgM) : Prop where
  q : -9223372036854775808 ≤ c.quantum ∧ c.quantum ≤ 9223372036854775807
  f : -9223372036854775808 ≤ c.first ∧ c.first ≤ 9223372036854775807
  l : -9223372036854775808 ≤ c.limit ∧ c.limit ≤ 9223372036854775807
  fl : -9223372036854775808 ≤ c.flowLimit ∧ c.flowLimit ≤ 9223372036854775807
  h : 0 ≤ c.horizon ∧ c.horizon ≤ 18446744073709551615
  mr : 0 ≤ c.maxRate ∧ c.maxRate ≤ 18446744073709551615
  cp : -9223372036854775808 ≤ c.cap ∧ c.cap ≤ 9223372036854775807
  ms : -9223372036854775808 ≤ c.mss ∧ c.mss ≤ 9223372036854775807
theorem cfg_of {l : List Value} (h : fksOk [.int .i64, .int .i64, .int .i64, .int .i64, .int .u64, .int .u64, .bool, .int .i64, .int .i64] l) : ∃ c, l = cfgV c ∧ cfgWf c := by
  obtain ⟨v0, l0, rfl, ⟨n0, rfl, h0⟩, g0⟩ := fksOk_cons h
  obtain ⟨v1, l1, rfl, ⟨n1, rfl, h1⟩, g1⟩ := fksOk_cons g0
  obtain ⟨v2, l2, rfl, ⟨n2, rfl, h2⟩, g2⟩ := fksOk_cons g1
  obtain ⟨v3, l3, rfl, ⟨n3, rfl, h3⟩, g3⟩ := fksOk_cons g2
  obtain ⟨v4, l4, rfl, ⟨n4, rfl, h4⟩, g4⟩ := fksOk_cons g3
  obtain ⟨v5, l5, rfl, ⟨n5, rfl, h5⟩, g5⟩ := fksOk_cons g4
  obtain ⟨v6, l6, rfl, ⟨b, rfl⟩, g6⟩ := fksOk_cons g5
  obtain ⟨v7, l7, rfl, ⟨n7, rfl, h7⟩, g7⟩ := fksOk_cons g6
  obtain ⟨v8, l8, rfl, ⟨n8, rfl, h8⟩, g8⟩ := fksOk_cons g7
  obtain rfl := fksOk_nil g8
  exact ⟨⟨n0, n1, n2, n3, n4, n5, b, n7, n8⟩, rfl, ⟨wf_i64 h0, wf_i64 h1, wf_i64 h2, wf_i64 h3, wf_u64 h4, wf_u64 h5, wf_i64 h7, wf_i64 h8⟩⟩
set_option maxRecDepth 100000 in
theorem open_cfg {H : Type} {enc : TypeId × Value → H} {w : World} {base : Nat} {spare : Nat → Bool} {held : Bool} {r : Reach} {b0 : Nat} {v : Value} {d : DataW H} {ps : List MemPlace} (hval : Value.okWide Tryz.prog w r b0 24 v) (hd : DataW.Trod enc Tryz.prog w base spare held 24 v d ps) : ∃ c, v = cfgA c ∧ cfgWf c := by
  obtain ⟨l, rfl, hl⟩ := open_agg (ks := [.int .i64, .int .i64, .int .i64, .int .i64, .int .u64, .int .u64, .bool, .int .i64, .int .i64]) Tryz.underlying24 (by kernel_rfl) (by kernel_rfl) (by kernel_rfl) hval hd
  obtain ⟨c, rfl, hc⟩ := cfg_of hl
  exact ⟨c, rfl, hc⟩
end Go.Proofs.YtcegknecikbbkaaGreat

/- A queue over a tree that is empty: due; New; Dequeue where none has to wait. -/
set_option linter.unusedVariables false
set_option linter.unusedSimpArgs false
set_option maxRecDepth 4000
namespace Go.Proofs.YtcegknecikbbkaaGreat
open Go.RowKit
set_option maxHeartbeats 2000000 in
theorem qdue0_ct (b : Nat) (c : CfgM) (fl : List (Option FlowA)) (lb tb : Nat) (fr ol : List Int) (la : LA) (n : Int) (h8 : fl.length = 8) (t : TrA) (ht : t.top = 0) (now : Int) :
    Ct Tryz.prog 50 #[.pointer (some ⟨b, 0, none⟩), .int .u64 now] [queueG b ⟨c, fl, lb, tb, fr, ol, la, n⟩, treeG tb t] (Gives (.tuple #[]) [queueG b ⟨c, fl, lb, tb, fr, ol, la, n⟩, treeG tb t]) := by
  have hI := fun bx => treeIter0 tb t bx ht
  have htb := qC_tb (c := c) (lb := lb) (tb := tb) (n := n) h8
  intro w0 F L w hS
  simp only [List.cons_append, List.nil_append] at hS
  have hS := queueOpen.1 hS
  refine calls_of_wpM Tryz.func50 rfl ?_
  simp only [Tryz.ntmps50, List.size_toArray, List.length_cons, List.length_nil, Nat.reduceAdd, Nat.reduceSub, Array.replicate_succ, Array.replicate_zero, List.push_toArray, List.append_toArray, List.nil_append, List.cons_append]
  go_wp2_with (first | go_skip | (refine ck_load hS rfl rfl rfl (by (repeat (first | exact mH _ | apply mT)) <;> fail) htb (by decide +kernel) ?_; simp only [Act.put, spA, spZ, spS]) | (refine ck_load hS rfl rfl rfl (by (repeat (first | exact mH _ | apply mT)) <;> fail) rfl (by decide +kernel) ?_; simp only [Act.put, spA, spZ, spS]) | (refine ck_store hS rfl rfl rfl (by constructor) (by (repeat (first | exact uH _ _ _ | apply uT)) <;> fail) (by simp <;> omega) rfl (by decide +kernel) ?_; clear hS; intro w hS; simp only [Act.put, spA, spZ, spS] at hS ⊢) | (refine ck_box hS rfl rfl (by constructor) ?_; clear hS; intro x3 w hS; simp only [Act.put, spA, spZ, spS]) | (refine ck_alloc (t := 164) (v := .slice none 0 0) (cs := [.slice none 0 0]) hS rfl rfl (by kernel_rfl) rfl ?_; clear hS; intro x4 w hS; simp only [Act.put, spA, spZ, spS]) | (go_at_call 81; with_reducible refine Ct.callN (treeAll_ct _) hS ?_; clear hS; rintro _ _ w ⟨bx, rfl, rfl⟩ hS; simp only [List.cons_append, List.nil_append] at hS) | (refine ck_region (fun _ => 0) (fun _ => []) [] hS (by kernel_rfl) (by decide +kernel) ?_ ?_; exact ⟨fun _ _ _ h => h.2, fun _ _ h => h⟩; clear hS; intro w hS _; (repeat (first | (apply wpT_pure rfl rfl; (intro _; go_simp; (try (go_ints; (try go_simp))); (first | (rw [decide_eq_true]; omega) | (rw [decide_eq_false]; omega) | rfl | rw [if_pos (by omega)])); simp only [Act.put, spA, spZ, spS]) | (refine ckT_load hS rfl rfl rfl (by simp <;> fail) (by (repeat (first | exact mH _ | apply mT)) <;> fail) rfl (by decide +kernel) ?_; simp only [Act.put, spA, spZ, spS]) )); refine wpT_nil ?_))
  have hS1 : Sep w0 F (pts x4 [.slice none 0 0] 164 :: ([pts bx [.pointer (some ⟨tb, 0, none⟩)] 98, treeG tb t] ++ (pts x3 [.int .u64 now] 22 :: qP b c fl lb tb n :: flowsR fl :: lstG lb fr ol la :: L))) w := by
    have k1 := hS.bring (r := lstG lb fr ol la) (by (repeat (first | exact rH _ _ | apply rT)) <;> fail)
    have k2 := k1.bring (r := flowsR fl) (by (repeat (first | exact rH _ _ | apply rT)) <;> fail)
    have k3 := k2.bring (r := qP b c fl lb tb n) (by (repeat (first | exact rH _ _ | apply rT)) <;> fail)
    have k4 := k3.bring (r := pts x3 [.int .u64 now] 22) (by (repeat (first | exact rH _ _ | apply rT)) <;> fail)
    have k5 := k4.bring (r := treeG tb t) (by (repeat (first | exact rH _ _ | apply rT)) <;> fail)
    have k6 := k5.bring (r := pts bx [.pointer (some ⟨tb, 0, none⟩)] 98) (by (repeat (first | exact rH _ _ | apply rT)) <;> fail)
    exact k6.bring (r := pts x4 [.slice none 0 0] 164) (by (repeat (first | exact rH _ _ | apply rT)) <;> fail)
  clear hS
  refine ck_rangeFunc (B := fun (_ : Unit) (_ : List (Int × Int)) => pts x4 [.slice none 0 0] 164) (go := fun _ => true) (A0 := ()) hS1 (hI bx) rfl (fun _ => run_enter (P := Tryz.prog) (f := 116) (by kernel_rfl)) (fun _ => rfl) ?round ?fin
  case round =>
    intro l pre x suf hx
    simp at hx
  case fin =>
    intro D _ w hS
    rw [show okP (fun _ : List (Int × Int) => true) (runP (fun _ : List (Int × Int) => true) [] []) = true from rfl]
    simp only [if_true, List.cons_append, List.nil_append] at hS ⊢
    go_wp2_with (first | go_skip | (refine ck_load hS rfl rfl rfl (by (repeat (first | exact mH _ | apply mT)) <;> fail) rfl (by decide +kernel) ?_; simp only [Act.put, spA, spZ, spS]) | (refine ck_store hS rfl rfl rfl (by constructor) (by (repeat (first | exact uH _ _ _ | apply uT)) <;> fail) (by simp <;> omega) rfl (by decide +kernel) ?_; clear hS; intro w hS; simp only [Act.put, spA, spZ, spS] at hS ⊢) | (refine ck_box hS rfl rfl (by constructor) ?_; clear hS; intro nb w hS; simp only [Act.put, spA, spZ, spS])  | (refine ck_region (fun _ => 0) (fun _ => []) [] hS (by kernel_rfl) (by decide +kernel) ?_ ?_; exact ⟨fun _ _ _ h => h.2, fun _ _ h => h⟩; clear hS; intro w hS _; (repeat (first | (apply wpT_pure rfl rfl; (intro _; go_simp; (try (go_ints; (try go_simp))); (first | (rw [decide_eq_true]; omega) | (rw [decide_eq_false]; omega) | rfl | rw [if_pos (by omega)])); simp only [Act.put, spA, spZ, spS]) | (refine ckT_load hS rfl rfl rfl (by simp <;> fail) (by (repeat (first | exact mH _ | apply mT)) <;> fail) rfl (by decide +kernel) ?_; simp only [Act.put, spA, spZ, spS]) )); refine wpT_nil ?_))
    refine wp_loop_rounds 1 ?_; rw [rounds_succ]
    go_wp2_with (first | go_skip | (refine ck_load hS rfl rfl rfl (by (repeat (first | exact mH _ | apply mT)) <;> fail) rfl (by decide +kernel) ?_; simp only [Act.put, spA, spZ, spS]) | (refine ck_store hS rfl rfl rfl (by constructor) (by (repeat (first | exact uH _ _ _ | apply uT)) <;> fail) (by simp <;> omega) rfl (by decide +kernel) ?_; clear hS; intro w hS; simp only [Act.put, spA, spZ, spS] at hS ⊢) | (refine ck_box hS rfl rfl (by constructor) ?_; clear hS; intro nb w hS; simp only [Act.put, spA, spZ, spS]) | (with_reducible rw [rounds_succ]) | (refine ck_region (fun _ => 0) (fun _ => []) [] hS (by kernel_rfl) (by decide +kernel) ?_ ?_; exact ⟨fun _ _ _ h => h.2, fun _ _ h => h⟩; clear hS; intro w hS _; (repeat (first | (apply wpT_pure rfl rfl; (intro _; go_simp; (try (go_ints; (try go_simp))); (first | (rw [decide_eq_true]; omega) | (rw [decide_eq_false]; omega) | rfl | rw [if_pos (by omega)])); simp only [Act.put, spA, spZ, spS]) | (refine ckT_load hS rfl rfl rfl (by simp <;> fail) (by (repeat (first | exact mH _ | apply mT)) <;> fail) rfl (by decide +kernel) ?_; simp only [Act.put, spA, spZ, spS]) )); refine wpT_nil ?_))
    have k1 := (hS.bring (r := pts x4 [.slice none 0 0] 164) (by (repeat (first | exact rH _ _ | apply rT)) <;> fail)).drop
    have k2 := (k1.bring (r := pts bx [.pointer (some ⟨tb, 0, none⟩)] 98) (by (repeat (first | exact rH _ _ | apply rT)) <;> fail)).drop
    have k3 := (k2.bring (r := pts x3 [.int .u64 now] 22) (by (repeat (first | exact rH _ _ | apply rT)) <;> fail)).drop
    have k4 := k3.bring (r := objR D (.deferred (some []))) (by (repeat (first | exact rH _ _ | apply rT)) <;> fail)
    exact ckM_end (.inl rfl) k4 rfl (fun w hS => ⟨results_none rfl _ _ _, _, ⟨rfl, rfl⟩, queueOpen.2 (hS.perm ((List.Perm.swap _ _ _).trans (.cons _ ((List.Perm.swap _ _ _).trans (.cons _ (.swap _ _ _))))))⟩)
section
variable {P : Program} {ops : Array Oper} {blk : Nat → Nat} {conf : Nat → List Nat} {flg : List Nat} {Q : Exit → Act → World → Prop} {rest : List Oper} {w w0 : World} {F : List Nat} {L : List Res} {o : Oper} {a : Act} {i : Nat}
theorem ckT_callN {f : FuncId} {xs : Array Operand} {ats : Array TypeId} {args : Array Value} {post : Value → List Res → Prop} (hS : Sep w0 F L w) (ho : o.op = .call { callee := .value (.func f), args := xs, argTypes := ats }) (hC : Ct P f args [] post) (hw : Region.wanted o (yielded ops a.tmps) = true) (hen : ckEnter P f = true)
    (ha : xs.toList.map a.eval = args.toList) (hcf : ∀ j ∈ conf i, ∃ cs T, pts (blk j) cs T ∈ L) (h : ∀ v L' w', post v L' → Sep w0 F (L' ++ L) w' → wpT P ops blk conf flg Q (i + 1) rest (a.put o.dst v) w') : wpT P ops blk conf flg Q i (o :: rest) a w :=
  ckT_enter ho hw hen ha (hC.call (L := L) hS fun v L' w' hp hS' => ⟨fun j hj => by
    obtain ⟨cs, T, hm⟩ := hcf j hj
    have k1 := hS'.holds _ (show pts (blk j) cs T ∈ L' ++ L by simp [hm])
    have k2 := hS.holds _ hm
    exact Eq.trans k1 (Eq.symm k2), h v L' w' hp hS'⟩)
end
set_option maxHeartbeats 4000000 in
theorem qnew_ct (c : CfgM) (h : mayOk c) : Ct Tryz.prog 19 #[cfgA c] [] (fun v L => ∃ b lb tb la ab aa, v = .tuple #[.pointer (some ⟨b, 0, none⟩), .int .i64 0] ∧ L = [queueG b ⟨c, List.replicate 8 none, lb, tb, [], [], la, 0⟩, treeG tb ⟨ab, aa, none, 0, [], 0, 0, [], []⟩]) := by
  have kM := mayOk_ct c h
  obtain ⟨qn, fs, lim, flim, hz, mr, dh, cap, mss⟩ := c
  clear h
  intro w0 F L w hS
  simp only [List.cons_append, List.nil_append] at hS
  go_enter Tryz.func19, Tryz.ntmps19
  go_wp2_with (first | go_skip | (refine ck_loadAll hS rfl rfl rfl (by (repeat (first | exact mH _ | apply mT)) <;> fail) rfl (by (try simp only [List.length_cons, List.length_nil, Nat.zero_add, Nat.reduceAdd]); decide +kernel) ?_; simp only [Act.put, spA, spZ, spS]) | (refine ck_load hS rfl rfl rfl (by (repeat (first | exact mH _ | apply mT)) <;> fail) rfl (by decide +kernel) ?_; simp only [Act.put, spA, spZ, spS]) | (refine ck_box hS rfl rfl (by constructor) ?_; clear hS; intro cb w hS; simp only [Act.put, spA, spZ, spS]) | (go_at_call 40; with_reducible refine Ct.call0 (kM) hS ?_; clear hS; intro w hS) | (refine ck_region (fun _ => cb) (fun i => if i = 1 then [0] else if i = 2 then [0] else []) ([0]) hS (by kernel_rfl) (by decide +kernel) ?_ ?_; exact ⟨fun _ _ _ h => h.2, fun _ _ h => h⟩; clear hS; intro w hS _; (repeat (first | (apply wpT_pure rfl rfl; (intro _; go_simp; (try (go_ints; (try go_simp))); (first | (rw [decide_eq_true]; omega) | (rw [decide_eq_false]; omega) | rfl | rw [if_pos (by omega)])); simp only [Act.put, spA, spZ, spS]) | (refine ckT_load hS rfl rfl rfl (by simp <;> fail) (by (repeat (first | exact mH _ | apply mT)) <;> fail) rfl (by decide +kernel) ?_; simp only [Act.put, spA, spZ, spS]) | (refine ckT_loadAll hS rfl rfl rfl (by simp <;> fail) (by (repeat (first | exact mH _ | apply mT)) <;> fail) rfl (by (try simp only [List.length_cons, List.length_nil, Nat.zero_add, Nat.reduceAdd]); decide +kernel) ?_; simp only [Act.put, spA, spZ, spS]) | (refine ckT_callN hS rfl (lstNew_ct) rfl (by kernel_rfl) rfl (by intro j hj; simp at hj; subst hj; exact ⟨_, 24, (by (repeat (first | exact mH _ | apply mT)) <;> fail)⟩) ?_; clear hS; rintro _ _ w ⟨lb, la, rfl, rfl⟩ hS; simp only [List.cons_append, List.nil_append] at hS; simp only [Act.put, spA, spZ, spS]) | (refine ckT_callN hS rfl (treeNew_ct) rfl (by kernel_rfl) rfl (by intro j hj; simp at hj; subst hj; exact ⟨_, 24, (by (repeat (first | exact mH _ | apply mT)) <;> fail)⟩) ?_; clear hS; rintro _ _ w ⟨tb, ab, aa, rfl, rfl⟩ hS; simp only [List.cons_append, List.nil_append] at hS; simp only [Act.put, spA, spZ, spS]) | (refine ckT_box hS rfl rfl (by constructor) (by simp <;> fail) ?_; clear hS; intro nb w hS; simp only [Act.put, spA, spZ, spS]))); refine wpT_nil ?_))
  go_ret2
  have j1 := (hS.bring (r := pts cb (cfgV ⟨qn, fs, lim, flim, hz, mr, dh, cap, mss⟩) 24) (by (repeat (first | exact rH _ _ | apply rT)) <;> fail)).drop
  have j2 : Sep w0 F (flowsR (List.replicate 8 none) :: _) w := (Sep.grp (l := [])).1 j1
  refine ⟨_, ⟨nb, lb, tb, la, ab, aa, rfl, rfl⟩, ?_⟩
  refine (queueOpen (c := ⟨qn, fs, lim, flim, hz, mr, dh, cap, mss⟩) (L := treeG tb ⟨ab, aa, none, 0, [], 0, 0, [], []⟩ :: L)).2 ?_
  exact j2.perm ((List.Perm.swap _ _ _).trans (.cons _ (.cons _ (.swap _ _ _))))
def idSeg : SegM := ⟨0, 0, 0, 0, false⟩
/-- A queue's flows and lists, wherever they lie. -/
structure DS where
  (fm : List (Option FlowM)) (fr ol : List Int) (n : Int)
def absQ (q : QA) : DS := ⟨q.fl.map (Option.map FlowA.m), q.fr, q.ol, q.n⟩
def rateAt (rs : List Int) (s : Nat) : Int := (rs[s]?).getD 18446744073709551615
/-- What Dequeue does, as long as no flow's time is ahead. -/
def deq (c : CfgM) (now : Int) (rs : List Int) : Nat → DS → Option (Option SegM × DS)
  | 0, _ => none
  | k + 1, ds => match lsP ds.fr ds.ol with
    | [] => some (none, ds)
    | (s, f) :: _ => match ds.fm[s.toNat]? with
      | some (some F) =>
        if F.credit ≤ 0 then deq c now rs k ⟨ds.fm.set s.toNat (some { F with credit := F.credit + c.quantum }), ds.fr.filter (· ≠ s), ds.ol.filter (· ≠ s) ++ [s], ds.n⟩
        else match F.segs with
          | [] => if f = true ∧ olB (lsP ds.fr ds.ol) = true then deq c now rs k ⟨ds.fm, ds.fr.filter (· ≠ s), ds.ol.filter (· ≠ s) ++ [s], ds.n⟩
              else deq c now rs k ⟨ds.fm.set s.toNat (some { F with since := now }), ds.fr.filter (· ≠ s), ds.ol.filter (· ≠ s), ds.n⟩
          | x :: r => if now < timeOf F.next F.segs then none
              else some (some x, ⟨ds.fm.set s.toNat (some ⟨F.credit - x.len, satAdd now (delayOf x.len (lesser (rateAt rs s.toNat) c.maxRate)), F.since, r⟩), ds.fr, ds.ol, ds.n - 1⟩)
      | _ => none
/-- What is so of a queue, for its steps to be safe. -/
structure dOk (ds : DS) : Prop where
  len : ds.fm.length = 8
  soc : ∀ s, s ∈ ds.fr ∨ s ∈ ds.ol → 0 ≤ s ∧ s < 8
  few : ds.fr.length + ds.ol.length ≤ 1000
  flo : ∀ (k : Nat) (F : FlowM), ds.fm[k]? = some (some F) → 0 ≤ F.since ∧ F.since ≤ 18446744073709551615 ∧ 0 ≤ F.next ∧ F.next ≤ 18446744073709551615 ∧ -1000000 ≤ F.credit ∧ F.credit ≤ 1000000 ∧ F.segs.length ≤ 100000 ∧ ∀ x ∈ F.segs, 0 ≤ x.len ∧ x.len ≤ 65536 ∧ 0 ≤ x.stamp ∧ x.stamp ≤ 18446744073709551615
  num : -100000 ≤ ds.n ∧ ds.n ≤ 100000
theorem dOk.flOk {q : QA} (h : dOk (absQ q)) : flOk q.fl := by
  have hl := h.len
  refine ⟨by simpa [absQ] using hl, fun k f hf => ?_⟩
  have := h.flo k f.m (by show (q.fl.map (Option.map FlowA.m))[k]? = _; rw [List.getElem?_map, hf]; rfl)
  exact ⟨this.1, this.2.1, this.2.2.1, this.2.2.2.1⟩
theorem lsP_mem {fr ol : List Int} {s : Int} {f : Bool} {r : List (Int × Bool)} (h : lsP fr ol = (s, f) :: r) : s ∈ fr ∨ s ∈ ol := by
  have hm : (s, f) ∈ lsP fr ol := by rw [h]; simp
  unfold lsP at hm
  rcases List.mem_append.1 hm with h1 | h1
  · obtain ⟨y, hy, e⟩ := List.mem_map.1 h1; injection e with e1 _; subst e1; exact .inl hy
  · obtain ⟨y, hy, e⟩ := List.mem_map.1 h1; injection e with e1 _; subst e1; exact .inr hy
theorem filter_few {fr ol : List Int} {s : Int} (h : s ∈ fr ∨ s ∈ ol) : (fr.filter (· ≠ s)).length + (ol.filter (· ≠ s)).length + 1 ≤ fr.length + ol.length := by
  have h1 := List.length_filter_le (· ≠ s) fr
  have h2 := List.length_filter_le (· ≠ s) ol
  rcases h with h | h
  · have : (fr.filter (· ≠ s)).length < fr.length := List.length_filter_lt_length_iff_exists.2 ⟨s, h, by simp⟩
    omega
  · have : (ol.filter (· ≠ s)).length < ol.length := List.length_filter_lt_length_iff_exists.2 ⟨s, h, by simp⟩
    omega
section
variable {ds : DS} {s : Int} {f : Bool} {r : List (Int × Bool)}
theorem dOk.step (h : dOk ds) (hp : lsP ds.fr ds.ol = (s, f) :: r) {fm : List (Option FlowM)} (hl : fm.length = 8) (hf : ∀ (k : Nat) (F : FlowM), fm[k]? = some (some F) → 0 ≤ F.since ∧ F.since ≤ 18446744073709551615 ∧ 0 ≤ F.next ∧ F.next ≤ 18446744073709551615 ∧ -1000000 ≤ F.credit ∧ F.credit ≤ 1000000 ∧ F.segs.length ≤ 100000 ∧ ∀ x ∈ F.segs, 0 ≤ x.len ∧ x.len ≤ 65536 ∧ 0 ≤ x.stamp ∧ x.stamp ≤ 18446744073709551615) (l : List Int) (hl2 : l = [] ∨ l = [s]) :
    dOk ⟨fm, ds.fr.filter (· ≠ s), ds.ol.filter (· ≠ s) ++ l, ds.n⟩ := by
  have hm := lsP_mem hp
  refine ⟨hl, fun t ht => ?_, ?_, hf, h.num⟩
  · simp only [List.mem_append, List.mem_filter] at ht
    rcases ht with ht | ht | ht
    · exact h.soc t (.inl ht.1)
    · exact h.soc t (.inr ht.1)
    · rcases hl2 with rfl | rfl
      · simp at ht
      · simp at ht; subst ht; exact h.soc t hm
  · have := filter_few hm
    have := h.few
    simp only [List.length_append]
    rcases hl2 with rfl | rfl
    · simp only [List.length_nil]; omega
    · simp only [List.length_cons, List.length_nil]; omega
theorem dOk.set (h : dOk ds) {k : Nat} {F : FlowM} (hF : 0 ≤ F.since ∧ F.since ≤ 18446744073709551615 ∧ 0 ≤ F.next ∧ F.next ≤ 18446744073709551615 ∧ -1000000 ≤ F.credit ∧ F.credit ≤ 1000000 ∧ F.segs.length ≤ 100000 ∧ ∀ x ∈ F.segs, 0 ≤ x.len ∧ x.len ≤ 65536 ∧ 0 ≤ x.stamp ∧ x.stamp ≤ 18446744073709551615) :
    ∀ (j : Nat) (G : FlowM), (ds.fm.set k (some F))[j]? = some (some G) → 0 ≤ G.since ∧ G.since ≤ 18446744073709551615 ∧ 0 ≤ G.next ∧ G.next ≤ 18446744073709551615 ∧ -1000000 ≤ G.credit ∧ G.credit ≤ 1000000 ∧ G.segs.length ≤ 100000 ∧ ∀ x ∈ G.segs, 0 ≤ x.len ∧ x.len ≤ 65536 ∧ 0 ≤ x.stamp ∧ x.stamp ≤ 18446744073709551615 := fun j G hG => by
  by_cases hj : k = j
  · subst hj
    by_cases hk : k < ds.fm.length
    · rw [List.getElem?_set_self hk] at hG
      injection hG with hG; injection hG with hG; subst hG; exact hF
    · rw [List.getElem?_eq_none (by simp; omega)] at hG; cases hG
  · rw [List.getElem?_set_ne hj] at hG
    exact h.flo j G hG
end
end Go.Proofs.YtcegknecikbbkaaGreat

/- Dequeue, where no flow has to wait. -/
set_option linter.unusedVariables false
set_option linter.unusedSimpArgs false
set_option maxRecDepth 4000
namespace Go.Proofs.YtcegknecikbbkaaGreat
open Go.RowKit
abbrev vU (l : List Int) : List Value := l.map fun n : Int => Value.int .u64 n
def dRes (r : Option SegM) : Value := match r with | none => .tuple #[segA idSeg, .bool false] | some x => .tuple #[segA x, .bool true]
abbrev DeqP (b : Nat) (c : CfgM) (lb tb : Nat) (t : TrA) (rr : Res) (r : Option SegM) (ds : DS) : Value → List Res → Prop := fun v L => v = dRes r ∧ ∃ q : QA, absQ q = ds ∧ q.c = c ∧ q.lb = lb ∧ q.tb = tb ∧ L = [queueG b q, treeG tb t, rr]
theorem absQ_get {q : QA} {s : Nat} {x : Option FlowM} (h : (absQ q).fm[s]? = some x) : ∃ y, q.fl[s]? = some y ∧ y.map FlowA.m = x := by
  have h' : (q.fl.map (Option.map FlowA.m))[s]? = some x := h
  rw [List.getElem?_map] at h'
  cases hq : q.fl[s]? with
  | none => rw [hq] at h'; cases h'
  | some y => rw [hq] at h'; injection h' with h'; exact ⟨y, rfl, h'⟩
theorem map_set_m {fl : List (Option FlowA)} {s : Nat} {f : FlowA} : (fl.set s (some f)).map (Option.map FlowA.m) = (fl.map (Option.map FlowA.m)).set s (some f.m) := by rw [List.map_set]; rfl
set_option maxRecDepth 10000 in
set_option maxHeartbeats 16000000 in
theorem qdeq_ct (b : Nat) (c : CfgM) (lb tb : Nat) (t : TrA) (ht : t.top = 0) (now : Int) (n0 : 0 ≤ now) (n1 : now ≤ 18446744073709551615) (m0 : 0 ≤ c.maxRate) (m1 : c.maxRate ≤ 18446744073709551615) (qn0 : 0 ≤ c.quantum) (qn1 : c.quantum ≤ 65536)
    (ra : Option Addr) (rn rc : Nat) (rs : List Int) (hrn : rs.length = rn) (hrs : ∀ x ∈ rs, 0 ≤ x ∧ x ≤ 18446744073709551615) (hr8 : rn ≤ 1000) (fuel : Nat) (r : Option SegM) (ds' : DS) (q : QA) (hqc : q.c = c) (hql : q.lb = lb) (hqt : q.tb = tb) (hok : dOk (absQ q)) (hd : deq c now rs fuel (absQ q) = some (r, ds')) :
    Ct Tryz.prog 23 #[.pointer (some ⟨b, 0, none⟩), .int .u64 now, .slice ra rn rc] [queueG b q, treeG tb t, rowR ra rn rc 22 1 (vU rs)] (DeqP b c lb tb t (rowR ra rn rc 22 1 (vU rs)) r ds') := by
  have kD : ∀ q : QA, q.c = c → q.lb = lb → q.tb = tb → dOk (absQ q) → Ct Tryz.prog 50 #[.pointer (some ⟨b, 0, none⟩), .int .u64 now] [queueG b q, treeG tb t] (Gives (.tuple #[]) [queueG b q, treeG tb t]) := by
    rintro ⟨c, fl, lb, tb, fr, ol, la, n⟩ rfl rfl rfl hok
    exact qdue0_ct b c fl lb tb fr ol la n hok.flOk.1 t ht now
  have kD0 := kD q hqc hql hqt hok
  clear kD
  intro w0 F L w hS
  simp only [List.cons_append, List.nil_append] at hS
  go_enter Tryz.func23, Tryz.ntmps23
  go_wp2_with (first | go_skip | (refine ck_load hS rfl rfl rfl (by (repeat (first | exact mH _ | apply mT)) <;> fail) rfl (by decide +kernel) ?_; simp only [Act.put, spA, spZ, spS]) | (refine ck_store hS rfl rfl rfl (by constructor) (by (repeat (first | exact uH _ _ _ | apply uT)) <;> fail) (by simp <;> omega) rfl (by decide +kernel) ?_; clear hS; intro w hS; simp only [Act.put, spA, spZ, spS] at hS ⊢) | (refine ck_alloc (t := 44) (v := segA ⟨0, 0, 0, 0, false⟩) (cs := segV ⟨0, 0, 0, 0, false⟩) hS rfl rfl (by kernel_rfl) rfl ?_; clear hS; intro t6 w hS; simp only [Act.put, spA, spZ, spS]) | (go_at_call 50; (refine Ct.call2 (kD0) (by (repeat (first | exact rH _ _ | apply rT)) <;> fail) (by (repeat (first | exact rH _ _ | apply rT)) <;> fail) hS ?_); clear hS; rintro _ _ w ⟨rfl, rfl⟩ hS; simp only [List.cons_append, List.nil_append] at hS) | (refine ck_region (fun _ => 0) (fun _ => []) [] hS (by kernel_rfl) (by decide +kernel) ?_ ?_; exact ⟨fun _ _ _ h => h.2, fun _ _ h => h⟩; clear hS; intro w hS _; (repeat (first | (apply wpT_pure rfl rfl; (intro _; go_simp; (try (go_ints; (try go_simp))); (first | (rw [decide_eq_true]; omega) | (rw [decide_eq_false]; omega) | rfl | rw [if_pos (by omega)])); simp only [Act.put, spA, spZ, spS]) | (refine ckT_load hS rfl rfl rfl (by simp <;> fail) (by (repeat (first | exact mH _ | apply mT)) <;> fail) rfl (by decide +kernel) ?_; simp only [Act.put, spA, spZ, spS]) | (refine ckT_store hS rfl rfl rfl (by constructor) (by (repeat (first | exact uH _ _ _ | apply uT)) <;> fail) (by simp <;> fail) rfl (by decide +kernel) (by simp <;> fail) ?_; clear hS; intro w hS; simp only [Act.put, spA, spZ, spS] at hS ⊢) )); refine wpT_nil ?_))
  go_step3
  go_wp2_with (first | go_skip | (refine ck_load hS rfl rfl rfl (by (repeat (first | exact mH _ | apply mT)) <;> fail) rfl (by decide +kernel) ?_; simp only [Act.put, spA, spZ, spS]) | (refine ck_store hS rfl rfl rfl (by constructor) (by (repeat (first | exact uH _ _ _ | apply uT)) <;> fail) (by simp <;> omega) rfl (by decide +kernel) ?_; clear hS; intro w hS; simp only [Act.put, spA, spZ, spS] at hS ⊢) | (refine ck_alloc (t := 44) (v := segA ⟨0, 0, 0, 0, false⟩) (cs := segV ⟨0, 0, 0, 0, false⟩) hS rfl rfl (by kernel_rfl) rfl ?_; clear hS; intro t6 w hS; simp only [Act.put, spA, spZ, spS]) | (go_at_call 50; (refine Ct.call2 (kD0) (by (repeat (first | exact rH _ _ | apply rT)) <;> fail) (by (repeat (first | exact rH _ _ | apply rT)) <;> fail) hS ?_); clear hS; rintro _ _ w ⟨rfl, rfl⟩ hS; simp only [List.cons_append, List.nil_append] at hS) | (refine ck_region (fun _ => 0) (fun _ => []) [] hS (by kernel_rfl) (by decide +kernel) ?_ ?_; exact ⟨fun _ _ _ h => h.2, fun _ _ h => h⟩; clear hS; intro w hS _; (repeat (first | (apply wpT_pure rfl rfl; (intro _; go_simp; (try (go_ints; (try go_simp))); (first | (rw [decide_eq_true]; omega) | (rw [decide_eq_false]; omega) | rfl | rw [if_pos (by omega)])); simp only [Act.put, spA, spZ, spS]) | (refine ckT_load hS rfl rfl rfl (by simp <;> fail) (by (repeat (first | exact mH _ | apply mT)) <;> fail) rfl (by decide +kernel) ?_; simp only [Act.put, spA, spZ, spS]) | (refine ckT_store hS rfl rfl rfl (by constructor) (by (repeat (first | exact uH _ _ _ | apply uT)) <;> fail) (by simp <;> fail) rfl (by decide +kernel) (by simp <;> fail) ?_; clear hS; intro w hS; simp only [Act.put, spA, spZ, spS] at hS ⊢) )); refine wpT_nil ?_))
  go_step3
  go_wp2_with (first | go_skip | (refine ck_load hS rfl rfl rfl (by (repeat (first | exact mH _ | apply mT)) <;> fail) rfl (by decide +kernel) ?_; simp only [Act.put, spA, spZ, spS]) | (refine ck_store hS rfl rfl rfl (by constructor) (by (repeat (first | exact uH _ _ _ | apply uT)) <;> fail) (by simp <;> omega) rfl (by decide +kernel) ?_; clear hS; intro w hS; simp only [Act.put, spA, spZ, spS] at hS ⊢) | (refine ck_alloc (t := 44) (v := segA ⟨0, 0, 0, 0, false⟩) (cs := segV ⟨0, 0, 0, 0, false⟩) hS rfl rfl (by kernel_rfl) rfl ?_; clear hS; intro t6 w hS; simp only [Act.put, spA, spZ, spS]) | (go_at_call 50; (refine Ct.call2 (kD0) (by (repeat (first | exact rH _ _ | apply rT)) <;> fail) (by (repeat (first | exact rH _ _ | apply rT)) <;> fail) hS ?_); clear hS; rintro _ _ w ⟨rfl, rfl⟩ hS; simp only [List.cons_append, List.nil_append] at hS) | (refine ck_region (fun _ => 0) (fun _ => []) [] hS (by kernel_rfl) (by decide +kernel) ?_ ?_; exact ⟨fun _ _ _ h => h.2, fun _ _ h => h⟩; clear hS; intro w hS _; (repeat (first | (apply wpT_pure rfl rfl; (intro _; go_simp; (try (go_ints; (try go_simp))); (first | (rw [decide_eq_true]; omega) | (rw [decide_eq_false]; omega) | rfl | rw [if_pos (by omega)])); simp only [Act.put, spA, spZ, spS]) | (refine ckT_load hS rfl rfl rfl (by simp <;> fail) (by (repeat (first | exact mH _ | apply mT)) <;> fail) rfl (by decide +kernel) ?_; simp only [Act.put, spA, spZ, spS]) | (refine ckT_store hS rfl rfl rfl (by constructor) (by (repeat (first | exact uH _ _ _ | apply uT)) <;> fail) (by simp <;> fail) rfl (by decide +kernel) (by simp <;> fail) ?_; clear hS; intro w hS; simp only [Act.put, spA, spZ, spS] at hS ⊢) )); refine wpT_nil ?_))
  clear kD0
  go_loopg [8] fuel (fun g s8 wx => ∃ q : QA, q.c = c ∧ q.lb = lb ∧ q.tb = tb ∧ dOk (absQ q) ∧ deq c now rs g (absQ q) = some (r, ds') ∧ Sep w0 F (queueG b q :: treeG tb t :: pts t6 (segV ⟨0, 0, 0, 0, false⟩) 44 :: rowR ra rn rc 22 1 (vU rs) :: L) wx)
  case atStart => exact ⟨q, hqc, hql, hqt, hok, hd, hS⟩
  case round =>
    clear hok hqc hql hqt hd
    obtain ⟨⟨c, fl, lb, tb, fr, ol, la, n⟩, rfl, rfl, rfl, hok, hd, hS⟩ := hrel
    generalize wr = w at hS ⊢
    have h8 : fl.length = 8 := hok.flOk.1
    have hsm : fr.length + ol.length ≤ 1000 := hok.few
    have hlb := qC_lb (c := c) (lb := lb) (tb := tb) (n := n) h8
    have kH := lstHead_ct lb fr ol la hsm
    dsimp only at *
    cases gk with
    | zero => cases hd
    | succ gk =>
      unfold deq at hd
      cases hlp : lsP fr ol with
      | nil =>
        have hd' : some (none, absQ ⟨c, fl, lb, tb, fr, ol, la, n⟩) = some (r, ds') := by
          have : lsP (absQ ⟨c, fl, lb, tb, fr, ol, la, n⟩).fr (absQ ⟨c, fl, lb, tb, fr, ol, la, n⟩).ol = [] := hlp
          rw [this] at hd; exact hd
        injection hd' with hd'; injection hd' with e1 e2
        subst e1 e2
        rw [show hdZ fr ol = .tuple #[.int .i64 0, .bool false, .bool false] by unfold hdZ; rw [hlp]] at kH
        clear hd hlp hok
        have hS := queueOpen.1 hS
        go_wp2_with (first | go_skip | (refine ck_load hS rfl rfl rfl (by (repeat (first | exact mH _ | apply mT)) <;> fail) hlb (by decide +kernel) ?_; simp only [Act.put, spA, spZ, spS]) | (refine ck_load hS rfl rfl rfl (by (repeat (first | exact mH _ | apply mT)) <;> fail) rfl (by decide +kernel) ?_; simp only [Act.put, spA, spZ, spS]) | (refine ck_store hS rfl rfl rfl (by constructor) (by (repeat (first | exact uH _ _ _ | apply uT)) <;> fail) (by simp <;> omega) rfl (by decide +kernel) ?_; clear hS; intro w hS; simp only [Act.put, spA, spZ, spS] at hS ⊢) | (go_at_call 51; (with_reducible refine Ct.callU (kH) (by (repeat (first | exact uH _ _ _ | apply uT)) <;> fail) hS ?_) <;> (first | (clear hS; intro w hS) | omega)) | (refine ck_storeAll hS rfl rfl rfl rfl (by (repeat (first | exact uH _ _ _ | apply uT)) <;> fail) (by rfl) rfl (by (try simp only [List.length_cons, List.length_nil, Nat.zero_add, Nat.reduceAdd]); decide +kernel) ?_; clear hS; intro w hS; simp only [Act.put, spA, spZ, spS]) | (refine ck_region (fun _ => 0) (fun _ => []) [] hS (by kernel_rfl) (by decide +kernel) ?_ ?_; exact ⟨fun _ _ _ h => h.2, fun _ _ h => h⟩; clear hS; intro w hS _; (repeat (first | (apply wpT_pure rfl rfl; (intro _; go_simp; (try (go_ints; (try go_simp))); (first | (rw [decide_eq_true]; omega) | (rw [decide_eq_false]; omega) | rfl | rw [if_pos (by omega)])); simp only [Act.put, spA, spZ, spS]) | (refine ckT_load hS rfl rfl rfl (by simp <;> fail) (by (repeat (first | exact mH _ | apply mT)) <;> fail) rfl (by decide +kernel) ?_; simp only [Act.put, spA, spZ, spS]) | (refine ckT_store hS rfl rfl rfl (by constructor) (by (repeat (first | exact uH _ _ _ | apply uT)) <;> fail) (by simp <;> fail) rfl (by decide +kernel) (by simp <;> fail) ?_; clear hS; intro w hS; simp only [Act.put, spA, spZ, spS] at hS ⊢) )); refine wpT_nil ?_))
        rw [Exit.noGoto_ret]
        refine bodyPost_ret (ckRes_cell_tmp hS (cs := segV ⟨0, 0, 0, 0, false⟩) (b := t6) (T := 44) (by (repeat (first | exact mH _ | apply mT)) <;> fail) rfl rfl rfl (by (try simp only [List.length_cons, List.length_nil, Nat.zero_add, Nat.reduceAdd]); decide +kernel)) rfl ?_
        have j1 := (hS.bring (r := pts t6 (segV ⟨0, 0, 0, 0, false⟩) 44) (by (repeat (first | exact rH _ _ | apply rT)) <;> fail)).drop
        exact ⟨_, ⟨rfl, ⟨c, fl, lb, tb, fr, ol, la, n⟩, rfl, rfl, rfl, rfl, rfl⟩, queueOpen.2 j1⟩
      | cons p rest =>
        obtain ⟨s, f⟩ := p
        have hlp' : lsP (absQ ⟨c, fl, lb, tb, fr, ol, la, n⟩).fr (absQ ⟨c, fl, lb, tb, fr, ol, la, n⟩).ol = (s, f) :: rest := hlp
        rw [hlp'] at hd
        dsimp only at hd
        obtain ⟨hs0, hs8⟩ := hok.soc s (lsP_mem hlp)
        obtain ⟨k, rfl⟩ : ∃ k : Nat, s = k := ⟨s.toNat, by omega⟩
        rw [show ((k : Int)).toNat = k from rfl] at hd
        cases hF : (absQ ⟨c, fl, lb, tb, fr, ol, la, n⟩).fm[k]? with
        | none => rw [hF] at hd; cases hd
        | some o =>
          cases o with
          | none => rw [hF] at hd; cases hd
          | some G =>
            rw [hF] at hd
            dsimp only at hd
            obtain ⟨y, hx, hy⟩ := absQ_get hF
            cases y with
            | none => cases hy
            | some fa0 =>
              obtain ⟨fb, ⟨cr, nx, si, l⟩, fa, fc⟩ := fa0
              injection hy with hy
              subst hy
              have hfl := hok.flo k _ hF
              dsimp only at hd hfl hx
              obtain ⟨g1, g2, g3, g4, g5, g6, g7, g8⟩ := hfl
              obtain ⟨m, hm⟩ : ∃ m, l.length = m := ⟨_, rfl⟩
              have oF := fun {w0 w : World} {F : List Nat} {L : List Res} => queueOpenF (b := b) (c := c) (lb := lb) (tb := tb) (fr := fr) (ol := ol) (la := la) (n := n) (w0 := w0) (w := w) (F := F) (L := L) hx hm
              have hfp : (qC c fl lb tb n)[9 + k]? = some (.pointer (some ⟨fb, 0, none⟩)) := qC_f (c := c) (lb := lb) (tb := tb) (n := n) hx
              rw [show hdZ fr ol = .tuple #[.int .i64 k, .bool f, .bool true] by unfold hdZ; rw [hlp]] at kH
              have hk8 : k < 8 := by omega
              by_cases hcr : cr ≤ 0
              · rw [if_pos hcr] at hd
                have kB := lstBack_ct lb fr ol la k f rest hsm (by omega) (by omega) hlp
                have hok2 := hok.step hlp' (fm := (absQ ⟨c, fl, lb, tb, fr, ol, la, n⟩).fm.set k (some ⟨cr + c.quantum, nx, si, l⟩)) (by rw [List.length_set]; exact hok.len) (hok.set ⟨g1, g2, g3, g4, by simp only; omega, by simp only; omega, g7, g8⟩) [(k : Int)] (.inr rfl)
                have hS := oF.1 hS
                clear hlp hlp' hF hok
                go_wp2_with (first | go_skip | (refine ck_load hS rfl rfl rfl (by (repeat (first | exact mH _ | apply mT)) <;> fail) hlb (by decide +kernel) ?_; simp only [Act.put, spA, spZ, spS]) | (refine ck_load hS rfl rfl rfl (by (repeat (first | exact mH _ | apply mT)) <;> fail) hfp (by decide +kernel) ?_; simp only [Act.put, spA, spZ, spS]) | (refine ck_load hS rfl rfl rfl (by (repeat (first | exact mH _ | apply mT)) <;> fail) rfl (by decide +kernel) ?_; simp only [Act.put, spA, spZ, spS]) | (refine ck_store hS rfl rfl rfl (by constructor) (by (repeat (first | exact uH _ _ _ | apply uT)) <;> fail) (by simp <;> omega) rfl (by decide +kernel) ?_; clear hS; intro w hS; simp only [Act.put, spA, spZ, spS] at hS ⊢) | (go_at_call 51; (with_reducible refine Ct.callU (kH) (by (repeat (first | exact uH _ _ _ | apply uT)) <;> fail) hS ?_) <;> (first | (clear hS; intro w hS) | omega)) | (go_at_call 52; (with_reducible refine Ct.callE (kB) (by (repeat (first | exact rH _ _ | apply rT)) <;> fail) hS ?_) <;> (first | (clear hS; intro A w hS) | omega)) | (refine ck_region (fun _ => 0) (fun _ => []) [] hS (by kernel_rfl) (by decide +kernel) ?_ ?_; exact ⟨fun _ _ _ h => h.2, fun _ _ h => h⟩; clear hS; intro w hS _; (repeat (first | (apply wpT_pure rfl rfl; (intro _; go_simp; (try (go_ints; (try go_simp))); (first | (rw [decide_eq_true]; omega) | (rw [decide_eq_false]; omega) | rfl | rw [if_pos (by omega)])); simp only [Act.put, spA, spZ, spS]) | (refine ckT_load hS rfl rfl rfl (by simp <;> fail) (by (repeat (first | exact mH _ | apply mT)) <;> fail) rfl (by decide +kernel) ?_; simp only [Act.put, spA, spZ, spS]) | (refine ckT_store hS rfl rfl rfl (by constructor) (by (repeat (first | exact uH _ _ _ | apply uT)) <;> fail) (by simp <;> fail) rfl (by decide +kernel) (by simp <;> fail) ?_; clear hS; intro w hS; simp only [Act.put, spA, spZ, spS] at hS ⊢) )); refine wpT_nil ?_))
                have j1 := hS.bring (r := flowsR (fl.set k none)) (by (repeat (first | exact rH _ _ | apply rT)) <;> fail)
                have j2 := j1.bring (r := flRow fa m fc l) (by (repeat (first | exact rH _ _ | apply rT)) <;> fail)
                have j3 := j2.bring (r := flP fb (cr + c.quantum) nx si fa m fc) (by (repeat (first | exact rH _ _ | apply rT)) <;> fail)
                have j4 := j3.bring (r := qP b c fl lb tb n) (by (repeat (first | exact rH _ _ | apply rT)) <;> fail)
                have j5 := queueShutF hx hm j4
                go_roundg gk
                case rel =>
                  refine ⟨_, rfl, rfl, rfl, ?_, ?_, j5⟩
                  · show dOk ⟨(fl.set k _).map (Option.map FlowA.m), _, _, _⟩
                    rw [map_set_m]; exact hok2
                  · show deq c now rs gk ⟨(fl.set k _).map (Option.map FlowA.m), _, _, _⟩ = _
                    rw [map_set_m]; exact hd
                case measure => omega
              · rw [if_neg hcr] at hd
                cases l with
                | nil =>
                  obtain rfl : m = 0 := hm.symm
                  dsimp only at hd
                  by_cases hfo : f = true ∧ olB (((k : Int), f) :: rest) = true
                  · rw [if_pos hfo] at hd
                    obtain ⟨rfl, ho⟩ := hfo
                    have kO := qold_ct b c fl lb tb fr ol la n h8 hsm
                    rw [hlp, ho] at kO
                    have kB := lstBack_ct lb fr ol la k true rest hsm (by omega) (by omega) hlp
                    have hok2 := hok.step hlp' (fm := (absQ ⟨c, fl, lb, tb, fr, ol, la, n⟩).fm) hok.len hok.flo [(k : Int)] (.inr rfl)
                    have hS := oF.1 hS
                    clear hlp hlp' hF hok ho
                    go_wp2_with (first | go_skip | (refine ck_load hS rfl rfl rfl (by (repeat (first | exact mH _ | apply mT)) <;> fail) hlb (by decide +kernel) ?_; simp only [Act.put, spA, spZ, spS]) | (refine ck_load hS rfl rfl rfl (by (repeat (first | exact mH _ | apply mT)) <;> fail) hfp (by decide +kernel) ?_; simp only [Act.put, spA, spZ, spS]) | (refine ck_load hS rfl rfl rfl (by (repeat (first | exact mH _ | apply mT)) <;> fail) rfl (by decide +kernel) ?_; simp only [Act.put, spA, spZ, spS]) | (refine ck_store hS rfl rfl rfl (by constructor) (by (repeat (first | exact uH _ _ _ | apply uT)) <;> fail) (by simp <;> omega) rfl (by decide +kernel) ?_; clear hS; intro w hS; simp only [Act.put, spA, spZ, spS] at hS ⊢) | (go_at_call 51; (with_reducible refine Ct.callU (kH) (by (repeat (first | exact uH _ _ _ | apply uT)) <;> fail) hS ?_) <;> (first | (clear hS; intro w hS) | omega)) | (go_at_call 52; (with_reducible refine Ct.callE (kB) (by (repeat (first | exact rH _ _ | apply rT)) <;> fail) hS ?_) <;> (first | (clear hS; intro A w hS) | omega)) | (have hS0 := oF.2 hS; go_at_call 53; (refine Ct.callG (kO) hS0 ?_); clear hS hS0; intro w hS0; have hS := oF.1 hS0; clear hS0) | (refine ck_region (fun _ => 0) (fun _ => []) [] hS (by kernel_rfl) (by decide +kernel) ?_ ?_; exact ⟨fun _ _ _ h => h.2, fun _ _ h => h⟩; clear hS; intro w hS _; (repeat (first | (apply wpT_pure rfl rfl; (intro _; go_simp; (try (go_ints; (try go_simp))); (first | (rw [decide_eq_true]; omega) | (rw [decide_eq_false]; omega) | rfl | rw [if_pos (by omega)])); simp only [Act.put, spA, spZ, spS]) | (refine ckT_load hS rfl rfl rfl (by simp <;> fail) (by (repeat (first | exact mH _ | apply mT)) <;> fail) rfl (by decide +kernel) ?_; simp only [Act.put, spA, spZ, spS]) | (refine ckT_store hS rfl rfl rfl (by constructor) (by (repeat (first | exact uH _ _ _ | apply uT)) <;> fail) (by simp <;> fail) rfl (by decide +kernel) (by simp <;> fail) ?_; clear hS; intro w hS; simp only [Act.put, spA, spZ, spS] at hS ⊢) )); refine wpT_nil ?_))
                    have j1 := hS.bring (r := flowsR (fl.set k none)) (by (repeat (first | exact rH _ _ | apply rT)) <;> fail)
                    have j2 := j1.bring (r := flRow fa 0 fc []) (by (repeat (first | exact rH _ _ | apply rT)) <;> fail)
                    have j3 := j2.bring (r := flP fb cr nx si fa 0 fc) (by (repeat (first | exact rH _ _ | apply rT)) <;> fail)
                    have j4 := j3.bring (r := qP b c fl lb tb n) (by (repeat (first | exact rH _ _ | apply rT)) <;> fail)
                    have j5 := (queueOpenF (fr := fr.filter (· ≠ (k : Int))) (ol := ol.filter (· ≠ (k : Int)) ++ [(k : Int)]) (la := A) hx rfl).2 j4
                    go_roundg gk
                    case rel => exact ⟨_, rfl, rfl, rfl, hok2, hd, j5⟩
                    case measure => omega
                  · rw [if_neg hfo] at hd
                    have kD := lstDrop_ct lb fr ol la k f rest hsm hlp
                    have hok2 := hok.step hlp' (fm := (absQ ⟨c, fl, lb, tb, fr, ol, la, n⟩).fm.set k (some ⟨cr, nx, now, []⟩)) (by rw [List.length_set]; exact hok.len) (hok.set ⟨n0, n1, g3, g4, g5, g6, g7, g8⟩) [] (.inl rfl)
                    rw [List.append_nil] at hok2
                    have hS := oF.1 hS
                    cases f
                    · clear hlp hlp' hF hok hfo
                      go_wp2_with (first | go_skip | (refine ck_load hS rfl rfl rfl (by (repeat (first | exact mH _ | apply mT)) <;> fail) hlb (by decide +kernel) ?_; simp only [Act.put, spA, spZ, spS]) | (refine ck_load hS rfl rfl rfl (by (repeat (first | exact mH _ | apply mT)) <;> fail) hfp (by decide +kernel) ?_; simp only [Act.put, spA, spZ, spS]) | (refine ck_load hS rfl rfl rfl (by (repeat (first | exact mH _ | apply mT)) <;> fail) rfl (by decide +kernel) ?_; simp only [Act.put, spA, spZ, spS]) | (refine ck_store hS rfl rfl rfl (by constructor) (by (repeat (first | exact uH _ _ _ | apply uT)) <;> fail) (by simp <;> omega) rfl (by decide +kernel) ?_; clear hS; intro w hS; simp only [Act.put, spA, spZ, spS] at hS ⊢) | (go_at_call 51; (with_reducible refine Ct.callU (kH) (by (repeat (first | exact uH _ _ _ | apply uT)) <;> fail) hS ?_) <;> (first | (clear hS; intro w hS) | omega)) | (go_at_call 54; (with_reducible refine Ct.callE (kD) (by (repeat (first | exact rH _ _ | apply rT)) <;> fail) hS ?_) <;> (first | (clear hS; intro A w hS) | omega)) | (refine ck_region (fun _ => 0) (fun _ => []) [] hS (by kernel_rfl) (by decide +kernel) ?_ ?_; exact ⟨fun _ _ _ h => h.2, fun _ _ h => h⟩; clear hS; intro w hS _; (repeat (first | (apply wpT_pure rfl rfl; (intro _; go_simp; (try (go_ints; (try go_simp))); (first | (rw [decide_eq_true]; omega) | (rw [decide_eq_false]; omega) | rfl | rw [if_pos (by omega)])); simp only [Act.put, spA, spZ, spS]) | (refine ckT_load hS rfl rfl rfl (by simp <;> fail) (by (repeat (first | exact mH _ | apply mT)) <;> fail) rfl (by decide +kernel) ?_; simp only [Act.put, spA, spZ, spS]) | (refine ckT_store hS rfl rfl rfl (by constructor) (by (repeat (first | exact uH _ _ _ | apply uT)) <;> fail) (by simp <;> fail) rfl (by decide +kernel) (by simp <;> fail) ?_; clear hS; intro w hS; simp only [Act.put, spA, spZ, spS] at hS ⊢) )); refine wpT_nil ?_))
                      have j1 := hS.bring (r := flowsR (fl.set k none)) (by (repeat (first | exact rH _ _ | apply rT)) <;> fail)
                      have j2 := j1.bring (r := flRow fa 0 fc []) (by (repeat (first | exact rH _ _ | apply rT)) <;> fail)
                      have j3 := j2.bring (r := flP fb cr nx now fa 0 fc) (by (repeat (first | exact rH _ _ | apply rT)) <;> fail)
                      have j4 := j3.bring (r := qP b c fl lb tb n) (by (repeat (first | exact rH _ _ | apply rT)) <;> fail)
                      have j5 := queueShutF (l := []) (m := 0) hx rfl j4
                      go_roundg gk
                      case rel =>
                        refine ⟨_, rfl, rfl, rfl, ?_, ?_, j5⟩
                        · show dOk ⟨(fl.set k _).map (Option.map FlowA.m), _, _, _⟩
                          rw [map_set_m]; exact hok2
                        · show deq c now rs gk ⟨(fl.set k _).map (Option.map FlowA.m), _, _, _⟩ = _
                          rw [map_set_m]; exact hd
                      case measure => omega
                    · have ho : olB (((k : Int), true) :: rest) = false := by
                        cases h : olB (((k : Int), true) :: rest)
                        · rfl
                        · exact absurd ⟨rfl, h⟩ hfo
                      have kO := qold_ct b c fl lb tb fr ol la n h8 hsm
                      rw [hlp, ho] at kO
                      clear hlp hlp' hF hok hfo ho
                      go_wp2_with (first | go_skip | (refine ck_load hS rfl rfl rfl (by (repeat (first | exact mH _ | apply mT)) <;> fail) hlb (by decide +kernel) ?_; simp only [Act.put, spA, spZ, spS]) | (refine ck_load hS rfl rfl rfl (by (repeat (first | exact mH _ | apply mT)) <;> fail) hfp (by decide +kernel) ?_; simp only [Act.put, spA, spZ, spS]) | (refine ck_load hS rfl rfl rfl (by (repeat (first | exact mH _ | apply mT)) <;> fail) rfl (by decide +kernel) ?_; simp only [Act.put, spA, spZ, spS]) | (refine ck_store hS rfl rfl rfl (by constructor) (by (repeat (first | exact uH _ _ _ | apply uT)) <;> fail) (by simp <;> omega) rfl (by decide +kernel) ?_; clear hS; intro w hS; simp only [Act.put, spA, spZ, spS] at hS ⊢) | (go_at_call 51; (with_reducible refine Ct.callU (kH) (by (repeat (first | exact uH _ _ _ | apply uT)) <;> fail) hS ?_) <;> (first | (clear hS; intro w hS) | omega)) | (go_at_call 54; (with_reducible refine Ct.callE (kD) (by (repeat (first | exact rH _ _ | apply rT)) <;> fail) hS ?_) <;> (first | (clear hS; intro A w hS) | omega)) | (have hS0 := oF.2 hS; go_at_call 53; (refine Ct.callG (kO) hS0 ?_); clear hS hS0; intro w hS0; have hS := oF.1 hS0; clear hS0) | (refine ck_region (fun _ => 0) (fun _ => []) [] hS (by kernel_rfl) (by decide +kernel) ?_ ?_; exact ⟨fun _ _ _ h => h.2, fun _ _ h => h⟩; clear hS; intro w hS _; (repeat (first | (apply wpT_pure rfl rfl; (intro _; go_simp; (try (go_ints; (try go_simp))); (first | (rw [decide_eq_true]; omega) | (rw [decide_eq_false]; omega) | rfl | rw [if_pos (by omega)])); simp only [Act.put, spA, spZ, spS]) | (refine ckT_load hS rfl rfl rfl (by simp <;> fail) (by (repeat (first | exact mH _ | apply mT)) <;> fail) rfl (by decide +kernel) ?_; simp only [Act.put, spA, spZ, spS]) | (refine ckT_store hS rfl rfl rfl (by constructor) (by (repeat (first | exact uH _ _ _ | apply uT)) <;> fail) (by simp <;> fail) rfl (by decide +kernel) (by simp <;> fail) ?_; clear hS; intro w hS; simp only [Act.put, spA, spZ, spS] at hS ⊢) )); refine wpT_nil ?_))
                      have j1 := hS.bring (r := flowsR (fl.set k none)) (by (repeat (first | exact rH _ _ | apply rT)) <;> fail)
                      have j2 := j1.bring (r := flRow fa 0 fc []) (by (repeat (first | exact rH _ _ | apply rT)) <;> fail)
                      have j3 := j2.bring (r := flP fb cr nx now fa 0 fc) (by (repeat (first | exact rH _ _ | apply rT)) <;> fail)
                      have j4 := j3.bring (r := qP b c fl lb tb n) (by (repeat (first | exact rH _ _ | apply rT)) <;> fail)
                      have j5 := queueShutF (l := []) (m := 0) hx rfl j4
                      go_roundg gk
                      case rel =>
                        refine ⟨_, rfl, rfl, rfl, ?_, ?_, j5⟩
                        · show dOk ⟨(fl.set k _).map (Option.map FlowA.m), _, _, _⟩
                          rw [map_set_m]; exact hok2
                        · show deq c now rs gk ⟨(fl.set k _).map (Option.map FlowA.m), _, _, _⟩ = _
                          rw [map_set_m]; exact hd
                      case measure => omega
                | cons x l =>
                  dsimp only at hd
                  by_cases htm : now < timeOf nx (x :: l)
                  · rw [if_pos htm] at hd; cases hd
                  · rw [if_neg htm] at hd
                    injection hd with hd; injection hd with e1 e2
                    subst e1 e2
                    obtain ⟨x0, x1, x2, x3⟩ := g8 x (by simp)
                    obtain ⟨m', rfl⟩ : ∃ m', m = m' + 1 := ⟨l.length, by rw [← hm]; simp⟩
                    have hn := hok.num
                    dsimp only [absQ] at hn
                    obtain ⟨rt, hrt⟩ : ∃ rt, rateAt rs k = rt := ⟨_, rfl⟩
                    have hrb : 0 ≤ rt ∧ rt ≤ 18446744073709551615 := by
                      rw [← hrt]; unfold rateAt
                      cases h : rs[k]? with
                      | none => exact ⟨by simp, by simp⟩
                      | some v => exact hrs v (List.mem_of_getElem? h)
                    have kT := ftime_ct fb fc (m' + 1) cr nx si x l fa hm
                    have kS := qsend_ct b c fl lb tb fr ol la n h8 now rt k fb cr nx si x l fa fc hx n0 n1 hrb.1 hrb.2 m0 m1 x0 x1 g5 g6 hn.1 hn.2
                    rw [hrt]
                    generalize timeOf nx (x :: l) = tm at *
                    have hS := oF.1 hS
                    clear hlp hlp' hF hok hrb
                    by_cases hkr : k < rn
                    · obtain ⟨ga, rfl⟩ := hS.rowSome (a := ra) (n := rn) (cap := rc) (e := 22) (sz := 1) (xs := vU rs) (by (repeat (first | exact mH _ | apply mT)) <;> fail) (by omega)
                      have hv : (vU rs)[k]? = some (.int .u64 rt) := by
                        unfold rateAt at hrt
                        rw [List.getElem?_eq_getElem (by omega)] at hrt
                        rw [List.getElem?_map, List.getElem?_eq_getElem (by omega), ← hrt]; rfl
                      clear hrt
                      go_wp2_with (first | go_skip | (refine ck_load hS rfl rfl rfl (by (repeat (first | exact mH _ | apply mT)) <;> fail) hlb (by decide +kernel) ?_; simp only [Act.put, spA, spZ, spS]) | (refine ck_load hS rfl rfl rfl (by (repeat (first | exact mH _ | apply mT)) <;> fail) hfp (by decide +kernel) ?_; simp only [Act.put, spA, spZ, spS]) | (refine ck_loadRow hS rfl rfl rfl (by (repeat (first | exact mH _ | apply mT)) <;> fail) hv (by decide +kernel) ?_; simp only [Act.put, spA, spZ, spS]) | (refine ck_load hS rfl rfl rfl (by (repeat (first | exact mH _ | apply mT)) <;> fail) rfl (by decide +kernel) ?_; simp only [Act.put, spA, spZ, spS]) | (refine ck_store hS rfl rfl rfl (by constructor) (by (repeat (first | exact uH _ _ _ | apply uT)) <;> fail) (by simp <;> omega) rfl (by decide +kernel) ?_; clear hS; intro w hS; simp only [Act.put, spA, spZ, spS] at hS ⊢) | (go_at_call 51; (with_reducible refine Ct.callU (kH) (by (repeat (first | exact uH _ _ _ | apply uT)) <;> fail) hS ?_) <;> (first | (clear hS; intro w hS) | omega)) | (go_at_call 55; (refine Ct.call2 (kT) (by (repeat (first | exact rH _ _ | apply rT)) <;> fail) (by (repeat (first | exact rH _ _ | apply rT)) <;> fail) hS ?_); clear hS; rintro _ _ w ⟨rfl, rfl⟩ hS; simp only [List.cons_append, List.nil_append] at hS; have hS := hS.perm ((List.Perm.cons _ (List.Perm.swap _ _ _)).trans (.swap _ _ _))) | (have hS0 := oF.2 hS; go_at_call 58; refine Ct.call1 (kS) (by (repeat (first | exact rH _ _ | apply rT)) <;> fail) hS0 ?_; clear hS hS0; rintro _ _ w ⟨rfl, f', hf', rfl⟩ hS; simp only [List.cons_append, List.nil_append] at hS) | (refine ck_storeAll hS rfl rfl rfl rfl (by (repeat (first | exact uH _ _ _ | apply uT)) <;> fail) (by rfl) rfl (by (try simp only [List.length_cons, List.length_nil, Nat.zero_add, Nat.reduceAdd]); decide +kernel) ?_; clear hS; intro w hS; simp only [Act.put, spA, spZ, spS]) | (refine ck_region (fun _ => 0) (fun _ => []) [] hS (by kernel_rfl) (by decide +kernel) ?_ ?_; exact ⟨fun _ _ _ h => h.2, fun _ _ h => h⟩; clear hS; intro w hS _; (repeat (first | (apply wpT_pure rfl rfl; (intro _; go_simp; (try (go_ints; (try go_simp))); (first | (rw [decide_eq_true]; omega) | (rw [decide_eq_false]; omega) | rfl | rw [if_pos (by omega)])); simp only [Act.put, spA, spZ, spS]) | (refine ckT_load hS rfl rfl rfl (by simp <;> fail) (by (repeat (first | exact mH _ | apply mT)) <;> fail) rfl (by decide +kernel) ?_; simp only [Act.put, spA, spZ, spS]) | (refine ckT_store hS rfl rfl rfl (by constructor) (by (repeat (first | exact uH _ _ _ | apply uT)) <;> fail) (by simp <;> fail) rfl (by decide +kernel) (by simp <;> fail) ?_; clear hS; intro w hS; simp only [Act.put, spA, spZ, spS] at hS ⊢) )); refine wpT_nil ?_))
                      rw [Exit.noGoto_ret]
                      refine bodyPost_ret (ckRes_cell_tmp hS (cs := segV x) (b := t6) (T := 44) (by (repeat (first | exact mH _ | apply mT)) <;> fail) rfl rfl rfl (by (try simp only [List.length_cons, List.length_nil, Nat.zero_add, Nat.reduceAdd]); decide +kernel)) rfl ?_
                      have j1 := (hS.bring (r := pts t6 (segV x) 44) (by (repeat (first | exact rH _ _ | apply rT)) <;> fail)).drop
                      refine ⟨_, ⟨rfl, ⟨c, fl.set k (some f'), lb, tb, fr, ol, la, n - 1⟩, ?_, rfl, rfl, rfl, rfl⟩, j1⟩
                      show DS.mk ((fl.set k _).map (Option.map FlowA.m)) _ _ _ = _
                      rw [map_set_m, hf']; rfl
                    · obtain rfl : rt = 18446744073709551615 := by
                        rw [← hrt]; unfold rateAt; rw [List.getElem?_eq_none (by omega)]; rfl
                      clear hrt
                      go_wp2_with (first | go_skip | (refine ck_load hS rfl rfl rfl (by (repeat (first | exact mH _ | apply mT)) <;> fail) hlb (by decide +kernel) ?_; simp only [Act.put, spA, spZ, spS]) | (refine ck_load hS rfl rfl rfl (by (repeat (first | exact mH _ | apply mT)) <;> fail) hfp (by decide +kernel) ?_; simp only [Act.put, spA, spZ, spS]) | (refine ck_load hS rfl rfl rfl (by (repeat (first | exact mH _ | apply mT)) <;> fail) rfl (by decide +kernel) ?_; simp only [Act.put, spA, spZ, spS]) | (refine ck_store hS rfl rfl rfl (by constructor) (by (repeat (first | exact uH _ _ _ | apply uT)) <;> fail) (by simp <;> omega) rfl (by decide +kernel) ?_; clear hS; intro w hS; simp only [Act.put, spA, spZ, spS] at hS ⊢) | (go_at_call 51; (with_reducible refine Ct.callU (kH) (by (repeat (first | exact uH _ _ _ | apply uT)) <;> fail) hS ?_) <;> (first | (clear hS; intro w hS) | omega)) | (go_at_call 55; (refine Ct.call2 (kT) (by (repeat (first | exact rH _ _ | apply rT)) <;> fail) (by (repeat (first | exact rH _ _ | apply rT)) <;> fail) hS ?_); clear hS; rintro _ _ w ⟨rfl, rfl⟩ hS; simp only [List.cons_append, List.nil_append] at hS; have hS := hS.perm ((List.Perm.cons _ (List.Perm.swap _ _ _)).trans (.swap _ _ _))) | (have hS0 := oF.2 hS; go_at_call 58; refine Ct.call1 (kS) (by (repeat (first | exact rH _ _ | apply rT)) <;> fail) hS0 ?_; clear hS hS0; rintro _ _ w ⟨rfl, f', hf', rfl⟩ hS; simp only [List.cons_append, List.nil_append] at hS) | (refine ck_storeAll hS rfl rfl rfl rfl (by (repeat (first | exact uH _ _ _ | apply uT)) <;> fail) (by rfl) rfl (by (try simp only [List.length_cons, List.length_nil, Nat.zero_add, Nat.reduceAdd]); decide +kernel) ?_; clear hS; intro w hS; simp only [Act.put, spA, spZ, spS]) | (refine ck_region (fun _ => 0) (fun _ => []) [] hS (by kernel_rfl) (by decide +kernel) ?_ ?_; exact ⟨fun _ _ _ h => h.2, fun _ _ h => h⟩; clear hS; intro w hS _; (repeat (first | (apply wpT_pure rfl rfl; (intro _; go_simp; (try (go_ints; (try go_simp))); (first | (rw [decide_eq_true]; omega) | (rw [decide_eq_false]; omega) | rfl | rw [if_pos (by omega)])); simp only [Act.put, spA, spZ, spS]) | (refine ckT_load hS rfl rfl rfl (by simp <;> fail) (by (repeat (first | exact mH _ | apply mT)) <;> fail) rfl (by decide +kernel) ?_; simp only [Act.put, spA, spZ, spS]) | (refine ckT_store hS rfl rfl rfl (by constructor) (by (repeat (first | exact uH _ _ _ | apply uT)) <;> fail) (by simp <;> fail) rfl (by decide +kernel) (by simp <;> fail) ?_; clear hS; intro w hS; simp only [Act.put, spA, spZ, spS] at hS ⊢) )); refine wpT_nil ?_))
                      rw [Exit.noGoto_ret]
                      refine bodyPost_ret (ckRes_cell_tmp hS (cs := segV x) (b := t6) (T := 44) (by (repeat (first | exact mH _ | apply mT)) <;> fail) rfl rfl rfl (by (try simp only [List.length_cons, List.length_nil, Nat.zero_add, Nat.reduceAdd]); decide +kernel)) rfl ?_
                      have j1 := (hS.bring (r := pts t6 (segV x) 44) (by (repeat (first | exact rH _ _ | apply rT)) <;> fail)).drop
                      refine ⟨_, ⟨rfl, ⟨c, fl.set k (some f'), lb, tb, fr, ol, la, n - 1⟩, ?_, rfl, rfl, rfl, rfl⟩, j1⟩
                      show DS.mk ((fl.set k _).map (Option.map FlowA.m)) _ _ _ = _
                      rw [map_set_m, hf']; rfl
end Go.Proofs.YtcegknecikbbkaaGreat

/- A queue: a flow told. -/
set_option linter.unusedVariables false
set_option linter.unusedSimpArgs false
set_option maxRecDepth 4000
namespace Go.Proofs.YtcegknecikbbkaaGreat
open Go.RowKit
section
variable {P : Program} {w w0 : World} {F : List Nat} {L L0 : List Res} {ops : Array Oper} {Q : Exit → Act → World → Prop} {rest : List Oper} {o : Oper} {a : Act} {t e : TypeId} {x y : Operand} {n m c cap sz : Nat} {xs news : List Value} {ad ax : Option Addr} {v : Value} {blk : Nat → Nat} {conf : Nat → List Nat} {flg : List Nat} {i : Nat}
theorem ckT_callG {f : FuncId} {as' : Array Operand} {ats : Array TypeId} {args : Array Value} {pre post : List Res} (hS : Sep w0 F (pre ++ L) w) (ho : o.op = .call { callee := .value (.func f), args := as', argTypes := ats }) (hC : Ct P f args pre (Gives v post)) (hw : Region.wanted o (yielded ops a.tmps) = true) (hen : ckEnter P f = true)
    (ha : as'.toList.map a.eval = args.toList) (hcf : ∀ j ∈ conf i, ∀ w2, Sep w0 F (post ++ L) w2 → w2.heap[blk j]? = w.heap[blk j]?) (h : ∀ w', Sep w0 F (post ++ L) w' → wpT P ops blk conf flg Q (i + 1) rest (a.put o.dst v) w') : wpT P ops blk conf flg Q i (o :: rest) a w :=
  ckT_enter ho hw hen ha (hC.callG (L := L) hS fun w' hS' => ⟨fun j hj => hcf j hj w' hS', h w' hS'⟩)
theorem ckT_call1N {f : FuncId} {as' : Array Operand} {ats : Array TypeId} {args : Array Value} {r : Res} {post : Value → List Res → Prop} (hS : Sep w0 F L w) (ho : o.op = .call { callee := .value (.func f), args := as', argTypes := ats }) (hC : Ct P f args [r] post) (hr : Rem L r L0) (hw : Region.wanted o (yielded ops a.tmps) = true) (hen : ckEnter P f = true)
    (ha : as'.toList.map a.eval = args.toList) (hcf : ∀ j ∈ conf i, ∃ cs T, pts (blk j) cs T ∈ L0) (h : ∀ v L' w', post v L' → Sep w0 F (L' ++ L0) w' → wpT P ops blk conf flg Q (i + 1) rest (a.put o.dst v) w') : wpT P ops blk conf flg Q i (o :: rest) a w :=
  ckT_enter ho hw hen ha (hC.call (L := L0) (hS.bring hr) fun v L' w' hp hS' => ⟨fun j hj => by
    obtain ⟨cs, T, hm⟩ := hcf j hj
    have k1 := hS'.holds _ (show pts (blk j) cs T ∈ L' ++ L0 by simp [hm])
    have k2 := (hS.bring hr).holds _ (show pts (blk j) cs T ∈ r :: L0 by simp [hm])
    exact Eq.trans k1 (Eq.symm k2), h v L' w' hp hS'⟩)
/-- Of a row that begins anywhere, all, to a row. -/
theorem ck_appO (hS : Sep w0 F L w) (ho : o.op = .call { callee := .builtin .append, args := #[x, y], argTypes := #[t, t] }) (hw : Region.wanted o (yielded ops a.tmps) = true) (hx : a.eval x = .slice ad n cap) (hy : a.eval y = .slice ax m c)
    (hr : Rem L (rowR ad n cap e sz xs) L0) (hm : rowO ax m c e sz news ∈ L) (hone : ∀ u ∈ news, u.oneCell' = true) (hsm : n + m ≤ 1000000000) (ht : ckSlice P t e sz = true) (hsz : 0 < sz) {n' : Nat} (hn' : n + m = n')
    (h : ∀ (ad' : Option Addr) (cap' : Nat) (w' : World), Sep w0 F (rowR ad' n' cap' e sz (xs ++ news) :: L0) w' → wpList P ops Q rest (a.put o.dst (.slice ad' n' cap')) w') : wpList P ops Q (o :: rest) a w := by
  subst hn'
  obtain ⟨hl, -, -⟩ := hS.rowOLen hm
  by_cases h0 : 0 < m
  · obtain ⟨b, off, rfl⟩ := hS.rowOSome hm h0
    have hc : Cel w b off news := hS.celO (k := 0) hm rfl (fun j v hj => by rw [Nat.zero_add]; exact hj)
    obtain ⟨g', cap', w', hrun, h1⟩ := append_any (c := c) hS hr ht hc.cell hl hone h0 hsm 0
    have hrun' : ∀ ty, (Builtin.append_ #[t, t] ty #[.slice ad n cap, .slice (some ⟨b, off, none⟩) m c]).run P w = .ok (.slice (some ⟨g', 0, none⟩) (n + m) cap') w' := fun _ => hrun
    exact wpList_val hw (exec_append ho hx hy hrun') (h _ _ _ h1)
  · obtain rfl : m = 0 := by omega
    obtain rfl : news = [] := List.eq_nil_of_length_eq_zero (by omega)
    have h1 := hS.bring hr
    have hle : n ≤ cap := by
      rcases h1.openRow with ⟨_, rfl, rfl, _⟩ | ⟨_, _, _, _, hle, _⟩
      · omega
      · exact hle
    refine wpList_val hw (exec_append ho hx hy (fun ty => run_appendNo ht hle ty)) (h _ _ _ ?_)
    rw [List.append_nil]; exact h1
theorem ck_build0 (hS : Sep w0 F L w) (ho : o.op = .buildSlice t 0 #[]) (hw : Region.wanted o (yielded ops a.tmps) = true) (ht : ckSlice P t e sz = true)
    (h : ∀ (q : Nat) (w' : World), Sep w0 F (rowR (some ⟨q, 0, none⟩) 0 0 e sz [] :: L) w' → wpList P ops Q rest (a.put o.dst (.slice (some ⟨q, 0, none⟩) 0 0)) w') : wpList P ops Q (o :: rest) a w := by
  obtain ⟨hu, i, z, hi, hz, hs, hb, hzs⟩ := ckSlice.out ht
  have hrun : (execOp a.eval o).run P w = .ok (.value (.slice (some ⟨w.heap.size, 0, none⟩) 0 0)) (w.alloc (.cells #[] e)) := by
    unfold execOp
    simp [ho, Instr.buildSlice, run_underlying hu, sizeOf, typeInfo, hi, hs, zeroValue, hz, Instr.fill, newRow, Result.andThen, Sem.run_bind]
    congr 2
    apply Array.ext <;> simp
  exact wpList_val hw hrun (h _ _ ((hS.alloc [] e).shut [] [] rfl (by simp) (Nat.le_refl _) (by unfold maxLen; omega) (by simp)))
theorem sliceNil_run {d : Nat} {a' : Option Addr} {n' c' : Nat} (hu : P.underlying t = some (.slice e)) : (binOp .eql t (.slice a' n' c') (.slice none 0 0)).run P w = .ok (.bool a'.isNone) w := Lib.run_eql_slice_nil w t e a' n' c' 0 0 hu
theorem ck_sliceNil {a' : Option Addr} {n' c' : Nat} {z : TypeId} (ho : o.op = .binOp .eql t x y z) (hw : Region.wanted o (yielded ops a.tmps) = true) (hx : a.eval x = .slice a' n' c') (hy : a.eval y = .slice none 0 0) (hu : P.underlying t = some (.slice e))
    (h : wpList P ops Q rest (a.put o.dst (.bool a'.isNone)) w) : wpList P ops Q (o :: rest) a w := by
  refine wpList_val hw (v := .bool a'.isNone) (w' := w) ?_ h
  have h3 : (eqGuard .eql t x y (.slice a' n' c') (.slice none 0 0)).run P w = .ok () w := rfl
  have h2 := sliceNil_run (d := 0) (P := P) (w := w) (a' := a') (n' := n') (c' := c') hu
  unfold execOp
  simp only [ho, hx, hy, Sem.run_bind, h2, h3, Result.andThen_ok]
  rfl
end
theorem clone_ct (fa : Option Addr) (m fc : Nat) (l : List SegM) (hm : m ≤ 100000) : Ct Tryz.prog 45 #[.slice fa m fc] [flRow fa m fc l] (fun v L => ∃ ad cp, v = .slice ad m cp ∧ L = [rowR ad m cp 44 5 (sgs l), flRow fa m fc l]) := by
  intro w0 F L w hS
  simp only [List.cons_append, List.nil_append] at hS
  cases fa with
  | none =>
    obtain ⟨rfl, rfl, hl⟩ := hS.holds (flRow none m fc l) (by simp)
    have hnil : ∀ W, (binOp .eql 32 (.slice none 0 0) (.slice none 0 0)).run Tryz.prog W = .ok (.bool true) W := fun W => sliceNil_run (d := 0) (e := 44) (by kernel_rfl)
    go_enter Tryz.func45, Tryz.ntmps45
    go_wp2_with (first | go_skip | (refine ck_sliceNil rfl rfl rfl rfl (by kernel_rfl) ?_; simp only [Act.put, spA, spZ, spS]))
    go_ret
    refine ⟨_, ⟨none, 0, rfl, rfl⟩, ?_⟩
    rw [hl]; exact hS.nilRow
  | some A =>
    have hone : ∀ u ∈ sgs l, u.oneCell' = true := fun u hu => by
      unfold sgs at hu
      obtain ⟨s, _, hs⟩ := List.mem_flatMap.1 hu
      simp at hs
      rcases hs with rfl | rfl | rfl | rfl | rfl <;> rfl
    have hnil : ∀ W, (binOp .eql 32 (.slice (some A) m fc) (.slice none 0 0)).run Tryz.prog W = .ok (.bool false) W := fun W => sliceNil_run (d := 0) (e := 44) (by kernel_rfl)
    go_enter Tryz.func45, Tryz.ntmps45
    go_wp2_with (first | go_skip | (refine ck_build0 (e := 44) (sz := 5) hS rfl rfl (by decide +kernel) ?_; clear hS; intro q w hS; simp only [Act.put, spA, spZ, spS]) | (refine ck_appO (e := 44) (sz := 5) (n' := m) (news := sgs l) hS rfl rfl rfl rfl (by (repeat (first | exact rH _ _ | apply rT)) <;> fail) (by (repeat (first | exact mH _ | apply mT)) <;> fail) hone (by omega) (by decide +kernel) (by omega) (by omega) ?_; clear hS; intro ad cp w hS; rw [List.nil_append] at hS; simp only [Act.put, spA, spZ, spS]))
    go_ret
    exact ⟨_, ⟨ad, cp, rfl, rfl⟩, hS⟩
/-- A flow, as it is told. -/
abbrev tolV (s : Int) (cr pl nx si : Int) (a : Option Addr) (n cp : Nat) : List Value := [.int .i64 s, .int .i64 cr, .int .i64 pl, .int .u64 nx, .int .u64 si, .slice a n cp]
set_option maxHeartbeats 4000000 in
theorem qflowNo_ct (b : Nat) (q : QA) (h8 : q.fl.length = 8) (s : Nat) (hx : q.fl[s]? = some none) : Ct Tryz.prog 21 #[.pointer (some ⟨b, 0, none⟩), .int .i64 s] [queueG b q] (Gives (.tuple #[.agg (tolV 0 0 0 0 0 none 0 0).toArray, .bool false]) [queueG b q]) := by
  have kH := qhas_ct b q h8 s none hx
  rw [show (none : Option FlowA).isSome = false from rfl] at kH
  intro w0 F L w hS
  simp only [List.cons_append, List.nil_append] at hS
  clear hx h8
  go_enter Tryz.func21, Tryz.ntmps21
  go_wp2_with (first | go_skip | (refine ck_storeAll hS rfl rfl rfl rfl (by (repeat (first | exact uH _ _ _ | apply uT)) <;> fail) (by rfl) rfl (by (try simp only [List.length_cons, List.length_nil, Nat.zero_add, Nat.reduceAdd]); decide +kernel) ?_; clear hS; intro w hS; simp only [Act.put, spA, spZ, spS]) | (refine ck_load hS rfl rfl rfl (by (repeat (first | exact mH _ | apply mT)) <;> fail) rfl (by decide +kernel) ?_; simp only [Act.put, spA, spZ, spS]) | (refine ck_store hS rfl rfl rfl (by constructor) (by (repeat (first | exact uH _ _ _ | apply uT)) <;> fail) (by simp <;> omega) rfl (by decide +kernel) ?_; clear hS; intro w hS; simp only [Act.put, spA, spZ, spS] at hS ⊢) | (go_at_call 43; (with_reducible refine Ct.callU (kH) (by (repeat (first | exact uH _ _ _ | apply uT)) <;> fail) hS ?_) <;> (first | (clear hS; intro w hS) | omega)) | (refine ck_alloc (t := 62) (v := .agg (tolV 0 0 0 0 0 none 0 0).toArray) (cs := tolV 0 0 0 0 0 none 0 0) hS rfl rfl (by kernel_rfl) rfl ?_; clear hS; intro r4 w hS; simp only [Act.put, spA, spZ, spS]) | (refine ck_region (fun _ => 0) (fun _ => []) [] hS (by kernel_rfl) (by decide +kernel) ?_ ?_; exact ⟨fun _ _ _ h => h.2, fun _ _ h => h⟩; clear hS; intro w hS _; (repeat (first | (apply wpT_pure rfl rfl; (intro _; go_simp; (try (go_ints; (try go_simp))); (first | (rw [decide_eq_true]; omega) | (rw [decide_eq_false]; omega) | rfl | rw [if_pos (by omega)])); simp only [Act.put, spA, spZ, spS]) | (refine ckT_load hS rfl rfl rfl (by simp <;> fail) (by (repeat (first | exact mH _ | apply mT)) <;> fail) rfl (by decide +kernel) ?_; simp only [Act.put, spA, spZ, spS]) | (refine ckT_store hS rfl rfl rfl (by constructor) (by (repeat (first | exact uH _ _ _ | apply uT)) <;> fail) (by simp <;> fail) rfl (by decide +kernel) (by simp <;> fail) ?_; clear hS; intro w hS; simp only [Act.put, spA, spZ, spS] at hS ⊢) )); refine wpT_nil ?_))
  refine bodyPost_ret (ckRes_cell_tmp hS (cs := tolV 0 0 0 0 0 none 0 0) (b := r4) (T := 62) (by (repeat (first | exact mH _ | apply mT)) <;> fail) rfl rfl rfl (by (try simp only [List.length_cons, List.length_nil, Nat.zero_add, Nat.reduceAdd]); decide +kernel)) rfl ?_
  have j1 := (hS.bring (r := pts r4 (tolV 0 0 0 0 0 none 0 0) 62) (by (repeat (first | exact rH _ _ | apply rT)) <;> fail)).drop
  exact ⟨_, ⟨rfl, rfl⟩, j1⟩
set_option maxHeartbeats 8000000 in
theorem qflowOk_ct (b : Nat) (q : QA) (h8 : q.fl.length = 8) (s fb fc : Nat) (cr nx si : Int) (l : List SegM) (fa : Option Addr) (hx : q.fl[s]? = some (some ⟨fb, ⟨cr, nx, si, l⟩, fa, fc⟩)) (hsm : q.fr.length + q.ol.length ≤ 1000) (hm5 : l.length ≤ 100000) :
    Ct Tryz.prog 21 #[.pointer (some ⟨b, 0, none⟩), .int .i64 s] [queueG b q]
      (fun v L => ∃ ad cp, v = .tuple #[.agg (tolV s cr (placeZ q.fr q.ol (some ⟨fb, ⟨cr, nx, si, l⟩, fa, fc⟩) s) nx si ad l.length cp).toArray, .bool true] ∧ L = [rowR ad l.length cp 44 5 (sgs l), queueG b q]) := by
  have kH := qhas_ct b q h8 s _ hx
  have kP := qplace_ct b q h8 s _ hx hsm
  rw [show (some (⟨fb, ⟨cr, nx, si, l⟩, fa, fc⟩ : FlowA)).isSome = true from rfl] at kH
  generalize placeZ q.fr q.ol (some ⟨fb, ⟨cr, nx, si, l⟩, fa, fc⟩) s = pz at *
  obtain ⟨c, fl, lb, tb, fr, ol, la, n⟩ := q
  dsimp only at *
  have hs : s < 8 := by have := (List.getElem?_eq_some_iff.1 hx).1; omega
  have hfp : (qC c fl lb tb n)[9 + s]? = some (.pointer (some ⟨fb, 0, none⟩)) := qC_f (c := c) (lb := lb) (tb := tb) (n := n) hx
  obtain ⟨m, hm⟩ : ∃ m, l.length = m := ⟨_, rfl⟩
  rw [hm] at hm5 ⊢
  have kC := clone_ct fa m fc l hm5
  have oF := fun {w0 w : World} {F : List Nat} {L : List Res} => queueOpenF (b := b) (c := c) (lb := lb) (tb := tb) (fr := fr) (ol := ol) (la := la) (n := n) (w0 := w0) (w := w) (F := F) (L := L) hx hm
  intro w0 F L w hS
  simp only [List.cons_append, List.nil_append] at hS
  clear hx hm
  go_enter Tryz.func21, Tryz.ntmps21
  go_wp2_with (first | go_skip | (refine ck_load hS rfl rfl rfl (by (repeat (first | exact mH _ | apply mT)) <;> fail) hfp (by decide +kernel) ?_; simp only [Act.put, spA, spZ, spS]) | (refine ck_storeAll hS rfl rfl rfl rfl (by (repeat (first | exact uH _ _ _ | apply uT)) <;> fail) (by rfl) rfl (by (try simp only [List.length_cons, List.length_nil, Nat.zero_add, Nat.reduceAdd]); decide +kernel) ?_; clear hS; intro w hS; simp only [Act.put, spA, spZ, spS]) | (refine ck_load hS rfl rfl rfl (by (repeat (first | exact mH _ | apply mT)) <;> fail) rfl (by decide +kernel) ?_; simp only [Act.put, spA, spZ, spS]) | (refine ck_store hS rfl rfl rfl (by constructor) (by (repeat (first | exact uH _ _ _ | apply uT)) <;> fail) (by simp <;> omega) rfl (by decide +kernel) ?_; clear hS; intro w hS; simp only [Act.put, spA, spZ, spS] at hS ⊢) | (go_at_call 43; (refine Ct.callU (kH) (by (repeat (first | exact uH _ _ _ | apply uT)) <;> fail) hS ?_); clear hS; intro w hS0; have hS := oF.1 (hS0.bring (r := queueG b ⟨c, fl, lb, tb, fr, ol, la, n⟩) (by (repeat (first | exact rH _ _ | apply rT)) <;> fail)); clear hS0) | (refine ck_alloc (t := 62) (v := .agg (tolV 0 0 0 0 0 none 0 0).toArray) (cs := tolV 0 0 0 0 0 none 0 0) hS rfl rfl (by kernel_rfl) rfl ?_; clear hS; intro r4 w hS; simp only [Act.put, spA, spZ, spS]) | (refine ck_region (fun _ => 0) (fun _ => []) [] hS (by kernel_rfl) (by decide +kernel) ?_ ?_; exact ⟨fun _ _ _ h => h.2, fun _ _ h => h⟩; clear hS; intro w hS _; (repeat (first | (apply wpT_pure rfl rfl; (intro _; go_simp; (try (go_ints; (try go_simp))); (first | (rw [decide_eq_true]; omega) | (rw [decide_eq_false]; omega) | rfl | rw [if_pos (by omega)])); simp only [Act.put, spA, spZ, spS]) | (refine ckT_load hS rfl rfl rfl (by simp <;> fail) (by (repeat (first | exact mH _ | apply mT)) <;> fail) rfl (by decide +kernel) ?_; simp only [Act.put, spA, spZ, spS]) | (refine ckT_store hS rfl rfl rfl (by constructor) (by (repeat (first | exact uH _ _ _ | apply uT)) <;> fail) (by simp <;> fail) rfl (by decide +kernel) (by simp <;> fail) ?_; clear hS; intro w hS; simp only [Act.put, spA, spZ, spS] at hS ⊢) )); refine wpT_nil ?_) | (refine ck_region (fun _ => fb) (fun i => if i = 7 then [4, 11, 15, 19] else if i = 20 then [4, 11, 15] else []) ([4, 11, 15, 19]) hS (by kernel_rfl) (by decide +kernel) ?_ ?_; exact ⟨fun _ _ _ h => h.2, fun _ _ h => h⟩; clear hS; intro w hS _; (repeat (first | (apply wpT_pure rfl rfl; (intro _; go_simp; (try (go_ints; (try go_simp))); (first | (rw [decide_eq_true]; omega) | (rw [decide_eq_false]; omega) | rfl | rw [if_pos (by omega)])); simp only [Act.put, spA, spZ, spS]) | (refine ckT_load hS rfl rfl rfl (by simp <;> fail) (by (repeat (first | exact mH _ | apply mT)) <;> fail) rfl (by decide +kernel) ?_; simp only [Act.put, spA, spZ, spS]) | (refine ckT_store hS rfl rfl rfl (by constructor) (by (repeat (first | exact uH _ _ _ | apply uT)) <;> fail) (by simp <;> fail) rfl (by decide +kernel) (by simp <;> fail) ?_; clear hS; intro w hS; simp only [Act.put, spA, spZ, spS] at hS ⊢) | (refine ckT_callG (oF.2 hS) rfl kP rfl (by kernel_rfl) rfl (fun j _ w2 h2 => ((oF.1 h2).holds (flP fb cr nx si fa m fc) (by (repeat (first | exact mH _ | apply mT)) <;> fail)).trans (hS.holds (flP fb cr nx si fa m fc) (by (repeat (first | exact mH _ | apply mT)) <;> fail)).symm) ?_; clear hS; intro w hS0; have hS := oF.1 hS0; clear hS0; simp only [Act.put, spA, spZ, spS]) | (refine ckT_call1N hS rfl kC (by (repeat (first | exact rH _ _ | apply rT)) <;> fail) rfl (by kernel_rfl) rfl (fun j _ => ⟨_, _, ((by (repeat (first | exact mH _ | apply mT)) <;> fail) : flP fb cr nx si fa m fc ∈ _)⟩) ?_; clear hS; rintro _ _ w ⟨ad, cp, rfl, rfl⟩ hS; simp only [List.cons_append, List.nil_append] at hS; simp only [Act.put, spA, spZ, spS]) | (refine ckT_storeAll hS rfl rfl rfl rfl (by (repeat (first | exact uH _ _ _ | apply uT)) <;> fail) (by rfl) rfl (by (try simp only [List.length_cons, List.length_nil, Nat.zero_add, Nat.reduceAdd]); decide +kernel) (by simp <;> fail) ?_; clear hS; intro w hS; simp only [Act.put, spA, spZ, spS]))); refine wpT_nil ?_))
  refine bodyPost_ret (ckRes_cell_tmp hS (cs := tolV s cr pz nx si ad m cp) (b := r4) (T := 62) (by (repeat (first | exact mH _ | apply mT)) <;> fail) rfl rfl rfl (by (try simp only [List.length_cons, List.length_nil, Nat.zero_add, Nat.reduceAdd]); decide +kernel)) rfl ?_
  have j1 := (hS.bring (r := pts r4 (tolV s cr pz nx si ad m cp) 62) (by (repeat (first | exact rH _ _ | apply rT)) <;> fail)).drop
  have j2 := j1.bring (r := lstG lb fr ol la) (by (repeat (first | exact rH _ _ | apply rT)) <;> fail)
  have j3 := j2.bring (r := flowsR (fl.set s none)) (by (repeat (first | exact rH _ _ | apply rT)) <;> fail)
  have j4 := j3.bring (r := flRow fa m fc l) (by (repeat (first | exact rH _ _ | apply rT)) <;> fail)
  have j5 := j4.bring (r := flP fb cr nx si fa m fc) (by (repeat (first | exact rH _ _ | apply rT)) <;> fail)
  have j6 := j5.bring (r := qP b c fl lb tb n) (by (repeat (first | exact rH _ _ | apply rT)) <;> fail)
  exact ⟨_, ⟨ad, cp, rfl, rfl⟩, (oF.2 j6).perm (.swap _ _ _)⟩
end Go.Proofs.YtcegknecikbbkaaGreat

/- Enqueue, told by what a queue holds alone. -/
set_option linter.unusedVariables false
set_option linter.unusedSimpArgs false
set_option maxRecDepth 4000
namespace Go.Proofs.YtcegknecikbbkaaGreat
open Go.RowKit
def segsM (x : Option FlowM) : List SegM := match x with | none => [] | some f => f.segs
def placeM (fr ol : List Int) (x : Option FlowM) (s : Int) : Int := if plZ fr ol s = 0 then (if (segsM x).isEmpty then 0 else 3) else plZ fr ol s
def idleM (fr ol : List Int) (x : Option FlowM) (s long now : Int) : Bool := match x with
  | none => false
  | some f => decide (placeM fr ol (some f) s = 0) && decide (satAdd f.since long ≤ now)
def colM (fr ol : List Int) (now : Int) (fm : List (Option FlowM)) : List (Option FlowM) := fm.mapIdx fun i x => if idleM fr ol x i 3000000000 now then none else x
def fateM (c : CfgM) (x : Option FlowM) (n stamp now : Int) : Int :=
  if c.limit ≤ n then 2 else if x.isSome ∧ c.flowLimit ≤ ((segsM x).length : Int) then 3 else if satAdd now c.horizon < stamp ∧ c.dropH = true then 4 else 0
def wakeM (c : CfgM) (fr ol : List Int) (x : Option FlowM) (s : Int) (now : Int) : FlowM := match x with
  | none => ⟨c.first, 0, 0, []⟩
  | some f => if placeM fr ol (some f) s = 0 then { f with credit := if idleM fr ol (some f) s 40000000 now then max f.credit c.quantum else f.credit, since := 0 } else f
def enqM (c : CfgM) (ds : DS) (sg : SegM) (now : Int) : Int × DS :=
  let fm := colM ds.fr ds.ol now ds.fm
  let x := (fm[sg.sock.toNat]?).getD none
  if fateM c x ds.n sg.stamp now = 0 then
    let f := wakeM c ds.fr ds.ol x sg.sock now
    (0, ⟨fm.set sg.sock.toNat (some { f with segs := f.segs ++ [{ sg with stamp := min sg.stamp (satAdd now c.horizon) }] }), if placeM ds.fr ds.ol x sg.sock = 0 then ds.fr ++ [sg.sock] else ds.fr, ds.ol, ds.n + 1⟩)
  else (fateM c x ds.n sg.stamp now, ⟨fm, ds.fr, ds.ol, ds.n⟩)
theorem placeZ_m {fr ol : List Int} {x : Option FlowA} {s : Int} : placeZ fr ol x s = placeM fr ol (x.map FlowA.m) s := by cases x <;> rfl
theorem idleZ_m {fr ol : List Int} {x : Option FlowA} {s long now : Int} : idleZ fr ol x s long now = idleM fr ol (x.map FlowA.m) s long now := by
  cases x with
  | none => rfl
  | some f => show (decide (placeZ fr ol (some f) s = 0) && _) = _; rw [placeZ_m]; rfl
theorem fateZ_m {c : CfgM} {x : Option FlowA} {n stamp now : Int} : fateZ c x n stamp now = fateM c (x.map FlowA.m) n stamp now := by cases x <;> rfl
theorem wakeF_m {c : CfgM} {fr ol : List Int} {x : Option FlowA} {s : Nat} {now : Int} : wakeF c fr ol x s now = wakeM c fr ol (x.map FlowA.m) s now := by
  cases x with
  | none => rfl
  | some f =>
    show (if placeZ fr ol (some f) s = 0 then (⟨if idleZ fr ol (some f) s 40000000 now then max f.m.credit c.quantum else f.m.credit, f.m.next, 0, f.m.segs⟩ : FlowM) else f.m) = _
    rw [placeZ_m, idleZ_m]; rfl
theorem colN_m {fr ol : List Int} {now : Int} {fl : List (Option FlowA)} (h : fl.length = 8) : (colN fr ol now 8 fl).map (Option.map FlowA.m) = colM fr ol now (fl.map (Option.map FlowA.m)) := by
  unfold colN colM
  apply List.ext_getElem?
  intro i
  simp only [List.getElem?_map, List.getElem?_mapIdx]
  cases hx : fl[i]? with
  | none => rfl
  | some x =>
    have hi : i < 8 := by have := (List.getElem?_eq_some_iff.1 hx).1; omega
    simp only [Option.map_some, if_pos hi]
    unfold colOne
    rw [idleZ_m]
    split <;> rfl
/-- Whoever is in a list is a flow. -/
def dIn (ds : DS) : Prop := ∀ s, s ∈ ds.fr ∨ s ∈ ds.ol → ∃ F, ds.fm[s.toNat]? = some (some F)
structure segOk (s : SegM) : Prop where
  k0 : 0 ≤ s.sock
  k8 : s.sock < 8
  l0 : 1 ≤ s.len
  l1 : s.len ≤ 65536
set_option maxHeartbeats 1000000 in
theorem qenq_ct (b : Nat) (q : QA) (sg : SegM) (now : Int) (hok : dOk (absQ q)) (hin : dIn (absQ q)) (hsg : segOk sg) (n0 : 0 ≤ now) (n1 : now ≤ 18446744073709551615) (z0 : 0 ≤ q.c.horizon) (z1 : q.c.horizon ≤ 18446744073709551615) (hn0 : 0 ≤ q.n) :
    Ct Tryz.prog 22 #[.pointer (some ⟨b, 0, none⟩), segA sg, .int .u64 now] [queueG b q]
      (fun v L => v = .tuple #[.int .i64 (enqM q.c (absQ q) sg now).1, .int .i64 0] ∧ ∃ q' : QA, absQ q' = (enqM q.c (absQ q) sg now).2 ∧ q'.c = q.c ∧ q'.lb = q.lb ∧ q'.tb = q.tb ∧ L = [queueG b q']) := by
  obtain ⟨c, fl, lb, tb, fr, ol, la, n⟩ := q
  obtain ⟨sock, frm, len, stamp, again⟩ := sg
  obtain ⟨k0, k8, l0, l1⟩ := hsg
  dsimp only at *
  obtain ⟨s, rfl⟩ : ∃ s : Nat, sock = s := ⟨sock.toNat, by omega⟩
  have hfl := hok.flOk
  have h8 : fl.length = 8 := hfl.1
  have hnum := hok.num
  have hnum1 : n ≤ 100000 := hnum.2
  have hfew : fr.length + ol.length ≤ 1000 := hok.few
  obtain ⟨x, hx⟩ : ∃ x, (colN fr ol now 8 fl)[s]? = some x := ⟨_, List.getElem?_eq_getElem (by rw [colN_len]; omega)⟩
  have hcm := colN_m (fr := fr) (ol := ol) (now := now) h8
  have hxm : ((colM fr ol now (fl.map (Option.map FlowA.m)))[s]?).getD none = x.map FlowA.m := by
    rw [← hcm, List.getElem?_map, hx]; rfl
  have e1 : enqM c (absQ ⟨c, fl, lb, tb, fr, ol, la, n⟩) ⟨s, frm, len, stamp, again⟩ now = if fateZ c x n stamp now = 0 then (0, ⟨(colM fr ol now (fl.map (Option.map FlowA.m))).set s (some { wakeF c fr ol x s now with segs := (wakeF c fr ol x s now).segs ++ [⟨s, frm, len, min stamp (satAdd now c.horizon), again⟩] }), if placeZ fr ol x s = 0 then fr ++ [(s : Int)] else fr, ol, n + 1⟩) else (fateZ c x n stamp now, ⟨colM fr ol now (fl.map (Option.map FlowA.m)), fr, ol, n⟩) := by
    unfold enqM absQ
    simp only [Int.toNat_natCast, hxm, fateZ_m, wakeF_m, placeZ_m]
  rw [e1]
  by_cases hf : fateZ c x n stamp now = 0
  · rw [if_pos hf]
    have hno : x = none → plZ fr ol s = 0 := by
      intro hn
      subst hn
      unfold colN at hx
      rw [List.getElem?_mapIdx] at hx
      cases hy : fl[s]? with
      | none => rw [hy] at hx; cases hx
      | some y =>
        rw [hy] at hx
        simp only [Option.map_some, Option.some.injEq] at hx
        cases y with
        | none =>
          rw [plZ_eq]
          have hnot : ¬ ((s : Int) ∈ fr ∨ (s : Int) ∈ ol) := by
            intro hh
            obtain ⟨F, hF⟩ := hin s hh
            have : ((fl.map (Option.map FlowA.m))[((s : Int)).toNat]?) = some (some F) := hF
            rw [Int.toNat_natCast, List.getElem?_map, hy] at this
            cases this
          rw [if_neg (fun h => hnot (.inl h)), if_neg (fun h => hnot (.inr h))]
        | some f =>
          rw [if_pos (by omega)] at hx
          unfold colOne at hx
          cases hi : idleZ fr ol (some f) s 3000000000 now
          · rw [hi] at hx; cases hx
          · unfold idleZ at hi
            simp only [Bool.and_eq_true, decide_eq_true_eq] at hi
            have := hi.1
            unfold placeZ at this
            by_cases hp : plZ fr ol s = 0
            · exact hp
            · rw [if_neg hp] at this; exact absurd this hp
    have hml : (segsOf x).length ≤ 100000 := by
      cases x with
      | none => exact Nat.zero_le _
      | some f =>
        have hf0 := colN_some hx
        have := hok.flo s f.m (by show (fl.map (Option.map FlowA.m))[s]? = _; rw [List.getElem?_map, hf0]; rfl)
        exact this.2.2.2.2.2.2.1
    refine (qenqOk_ct b c fl lb tb fr ol la n hfl hfew now ⟨s, frm, len, stamp, again⟩ s rfl (by omega) l0 l1 n0 n1 z0 z1 x hx hf hno hml hn0 hnum1).mono ?_
    rintro v L ⟨rfl, f', la', hf', rfl⟩
    refine ⟨rfl, ⟨c, (colN fr ol now 8 fl).set s (some f'), lb, tb, if placeZ fr ol x s = 0 then fr ++ [(s : Int)] else fr, ol, la', n + 1⟩, ?_, rfl, rfl, rfl, rfl⟩
    unfold absQ
    simp only
    rw [map_set_m, hcm, hf']
    have : fateSeg c x n now ⟨s, frm, len, stamp, again⟩ = ⟨s, frm, len, min stamp (satAdd now c.horizon), again⟩ := by unfold fateSeg; rw [if_pos hf]
    rw [this]
  · rw [if_neg hf]
    refine (qenqNo_ct b c fl lb tb fr ol la n hfl hfew now ⟨s, frm, len, stamp, again⟩ s rfl (by omega) l0 l1 n0 n1 z0 z1 x hx hf).mono ?_
    rintro v L ⟨rfl, rfl⟩
    refine ⟨rfl, ⟨c, colN fr ol now 8 fl, lb, tb, fr, ol, la, n⟩, ?_, rfl, rfl, rfl, rfl⟩
    unfold absQ
    simp only
    rw [hcm]
end Go.Proofs.YtcegknecikbbkaaGreat

/- Turns: two flows that always have segments differ little. No program in sight. -/
set_option linter.unusedVariables false
set_option linter.unusedSimpArgs false
set_option maxRecDepth 4000
namespace Go.Proofs.YtcegknecikbbkaaGreat
open Go.RowKit
theorem nd_len : ∀ (n : Nat) (l : List Int), l.Nodup → (∀ s ∈ l, 0 ≤ s ∧ s < n) → l.length ≤ n
  | 0, l, _, h => by
    cases l with
    | nil => exact Nat.le_refl _
    | cons x r => have := h x (by simp); omega
  | n + 1, l, hd, h => by
    have h1 := nd_len n (l.filter (· ≠ (n : Int))) (hd.filter _) (fun s hs => by
      have h2 := List.mem_filter.1 hs
      have h3 := h s h2.1
      have h4 : s ≠ n := by simpa using h2.2
      omega)
    have h2 : (l.filter (fun s => !decide (s ≠ (n : Int)))).length ≤ 1 := by
      have h3 := hd.filter (fun s => !decide (s ≠ (n : Int)))
      have h4 : ∀ s ∈ l.filter (fun s => !decide (s ≠ (n : Int))), s = n := fun s hs => by simpa using (List.mem_filter.1 hs).2
      generalize l.filter (fun s => !decide (s ≠ (n : Int))) = m at *
      cases m with
      | nil => simp
      | cons x r =>
        cases r with
        | nil => simp
        | cons y r =>
          have e1 := h4 x (by simp)
          have e2 := h4 y (by simp)
          rw [e1, e2] at h3
          simp at h3
    have h3 : ∀ l : List Int, l.length = (l.filter (· ≠ (n : Int))).length + (l.filter (fun s => !decide (s ≠ (n : Int)))).length := by
      intro l
      induction l with
      | nil => rfl
      | cons x r ih =>
        by_cases hx : x = (n : Int)
        · rw [List.filter_cons_of_neg (by simp [hx]), List.filter_cons_of_pos (by simp [hx]), List.length_cons, List.length_cons, ih]; omega
        · rw [List.filter_cons_of_pos (by simp [hx]), List.filter_cons_of_neg (by simp [hx]), List.length_cons, List.length_cons, ih]; omega
    have h4 := h3 l
    omega
def crF (ds : DS) (k : Nat) : Int := match ds.fm[k]? with | some (some F) => F.credit | _ => 0
def segN (o : Option FlowM) : Int := ((segsM o).length : Nat)
def ordL (a b : Nat) (ds : DS) : List Int := (ds.fr ++ ds.ol).filter fun s => s == (a : Int) || s == (b : Int)
def ordO (a b : Nat) (ds : DS) : Int := if ordL a b ds = [(b : Int), (a : Int)] then 1 else 0
structure TW (c : CfgM) (L : Int) (ds : DS) : Prop where
  len : ds.fm.length = 8
  nd : (ds.fr ++ ds.ol).Nodup
  lst : ∀ s ∈ ds.fr ++ ds.ol, 0 ≤ s ∧ ∃ F, ds.fm[s.toNat]? = some (some F)
  flo : ∀ (k : Nat) (F : FlowM), ds.fm[k]? = some (some F) → F.next = 0 ∧ F.since = 0 ∧ 1 - L ≤ F.credit ∧ F.credit ≤ max c.quantum c.first ∧ F.segs.length ≤ 2 ∧ (∀ x ∈ F.segs, x.sock = k ∧ 1 ≤ x.len ∧ x.len ≤ L ∧ x.stamp = 0) ∧ (F.segs ≠ [] → (k : Int) ∈ ds.fr ++ ds.ol)
  num : ds.n = (ds.fm.map segN).sum
structure TC (c : CfgM) : Prop where
  q0 : 100 ≤ c.quantum
  q1 : c.quantum ≤ 65536
  f0 : 100 ≤ c.first
  f1 : c.first ≤ 65536
  z0 : 0 ≤ c.horizon
  li : c.limit = 512
  fl : c.flowLimit = 60
  mr : c.maxRate = 0
section
variable {c : CfgM} {L : Int} {ds : DS}
theorem TW.lt (h : TW c L ds) {s : Int} (hs : s ∈ ds.fr ++ ds.ol) : 0 ≤ s ∧ s < 8 := by
  obtain ⟨h0, F, hF⟩ := h.lst s hs
  have := (List.getElem?_eq_some_iff.1 hF).1
  have := h.len
  omega
theorem TW.few (h : TW c L ds) : ds.fr.length + ds.ol.length ≤ 8 := by
  have := nd_len 8 (ds.fr ++ ds.ol) h.nd (fun s hs => h.lt hs)
  simpa using this
theorem sum_bd : ∀ (l : List (Option FlowM)), (∀ o ∈ l, 0 ≤ segN o ∧ segN o ≤ 2) → 0 ≤ (l.map segN).sum ∧ (l.map segN).sum ≤ 2 * l.length
  | [], _ => by simp
  | o :: l, h => by
    have h1 := h o (by simp)
    have h2 := sum_bd l (fun o ho => h o (by simp [ho]))
    simp only [List.map_cons, List.sum_cons, List.length_cons]
    omega
theorem TW.seg2 (h : TW c L ds) : ∀ o ∈ ds.fm, 0 ≤ segN o ∧ segN o ≤ 2 := by
  intro o ho
  obtain ⟨k, hk⟩ := List.mem_iff_getElem?.1 ho
  cases o with
  | none => show (0 : Int) ≤ ((0 : Nat) : Int) ∧ ((0 : Nat) : Int) ≤ 2; omega
  | some F =>
    have := (h.flo k F hk).2.2.2.2.1
    show (0 : Int) ≤ ((F.segs.length : Nat) : Int) ∧ ((F.segs.length : Nat) : Int) ≤ 2
    omega
theorem TW.nbd (h : TW c L ds) : 0 ≤ ds.n ∧ ds.n ≤ 16 := by
  have := sum_bd ds.fm h.seg2
  rw [h.num]
  have := h.len
  omega
theorem TW.dOk (h : TW c L ds) (hc : TC c) (L0 : 0 ≤ L) (L1 : L ≤ 9000) : dOk ds := by
  have hq := hc.q0; have hq1 := hc.q1; have hf := hc.f0; have hf1 := hc.f1
  have hn := h.nbd
  refine ⟨h.len, fun s hs => h.lt (by rcases hs with hs | hs <;> simp [hs]), Nat.le_trans h.few (by omega), fun k F hF => ?_, by omega⟩
  obtain ⟨h1, h2, h3, h4, h5, h6, h7⟩ := h.flo k F hF
  refine ⟨by omega, by omega, by omega, by omega, by omega, by omega, by omega, fun x hx => ?_⟩
  obtain ⟨g1, g2, g3, g4⟩ := h6 x hx
  omega
theorem TW.dIn (h : TW c L ds) : dIn ds := fun s hs => (h.lst s (by rcases hs with hs | hs <;> simp [hs])).2
theorem TW.mono (h : TW c L ds) {L' : Int} (hl : L ≤ L') : TW c L' ds := ⟨h.len, h.nd, h.lst, fun k F hF => by
  obtain ⟨h1, h2, h3, h4, h5, h6, h7⟩ := h.flo k F hF
  refine ⟨h1, h2, by omega, h4, h5, fun x hx => ?_, h7⟩
  obtain ⟨g1, g2, g3, g4⟩ := h6 x hx
  exact ⟨g1, g2, by omega, g4⟩, h.num⟩
theorem colM_id {fr ol : List Int} {fm : List (Option FlowM)} (h : ∀ (k : Nat) (F : FlowM), fm[k]? = some (some F) → F.since = 0) : colM fr ol 0 fm = fm := by
  unfold colM
  apply List.ext_getElem?
  intro i
  rw [List.getElem?_mapIdx]
  cases hi : fm[i]? with
  | none => rfl
  | some o =>
    cases o with
    | none => rfl
    | some F =>
      have h0 := h i F hi
      have : idleM fr ol (some F) i 3000000000 0 = false := by
        show (decide (placeM fr ol (some F) i = 0) && decide (satAdd F.since 3000000000 ≤ 0)) = false
        rw [h0, show satAdd 0 3000000000 = 3000000000 from rfl, decide_eq_false (by omega : ¬ (3000000000 : Int) ≤ 0), Bool.and_false]
      simp only [Option.map_some, this, Bool.false_eq_true, if_false]
theorem sum_set : ∀ (l : List (Option FlowM)) (k : Nat) (o o' : Option FlowM), l[k]? = some o → ((l.set k o').map segN).sum = (l.map segN).sum - segN o + segN o'
  | [], _, _, _, h => by cases h
  | x :: l, 0, o, o', h => by
    injection h with h; subst h
    simp only [List.set_cons_zero, List.map_cons, List.sum_cons]; omega
  | x :: l, k + 1, o, o', h => by
    have := sum_set l k o o' h
    simp only [List.set_cons_succ, List.map_cons, List.sum_cons, this]; omega
theorem plZ_iff {fr ol : List Int} {s : Int} : plZ fr ol s = 0 ↔ s ∉ fr ++ ol := by
  rw [plZ_eq]
  by_cases h1 : s ∈ fr
  · simp [h1]
  · by_cases h2 : s ∈ ol
    · simp [h1, h2]
    · simp [h1, h2]
/-- What stands behind an Enqueue. -/
theorem tw_enq (h : TW c L ds) (hc : TC c) (L1 : L ≤ 9000) (k : Nat) (hk : k < 8) (o : Option FlowM) (ho : ds.fm[k]? = some o) (hl : (segsM o).length < 2) (ln : Int) (l0 : 1 ≤ ln) (l1 : ln ≤ L) :
    ∃ F fr', enqM c ds ⟨k, 0, ln, 0, false⟩ 0 = (0, ⟨ds.fm.set k (some F), fr', ds.ol, ds.n + 1⟩) ∧ F.segs = segsM o ++ [⟨k, 0, ln, 0, false⟩] ∧ (∀ G, o = some G → F.credit = G.credit) ∧ (fr' = ds.fr ∧ (k : Int) ∈ ds.fr ++ ds.ol ∨ fr' = ds.fr ++ [(k : Int)] ∧ (k : Int) ∉ ds.fr ++ ds.ol) ∧ TW c L ⟨ds.fm.set k (some F), fr', ds.ol, ds.n + 1⟩ := by
  have hn := h.nbd
  have hcol : colM ds.fr ds.ol 0 ds.fm = ds.fm := colM_id fun k F hF => (h.flo k F hF).2.1
  have hq0 := hc.q0; have hq1 := hc.q1; have hf0 := hc.f0; have hf1 := hc.f1; have hz := hc.z0
  have hfate : fateM c o ds.n 0 0 = 0 := by
    unfold fateM
    rw [hc.li, hc.fl, if_neg (by omega), if_neg (by omega), if_neg (by unfold satAdd; omega)]
  have hst : min (0 : Int) (satAdd 0 c.horizon) = 0 := by unfold satAdd; omega
  have hgd : (ds.fm[((k : Int)).toNat]?).getD none = o := by rw [Int.toNat_natCast, ho]; rfl
  -- what is woken
  have hw : (wakeM c ds.fr ds.ol o k 0).segs = segsM o ∧ (wakeM c ds.fr ds.ol o k 0).next = 0 ∧ (wakeM c ds.fr ds.ol o k 0).since = 0 ∧ 1 - L ≤ (wakeM c ds.fr ds.ol o k 0).credit ∧ (wakeM c ds.fr ds.ol o k 0).credit ≤ max c.quantum c.first ∧ ∀ G, o = some G → (wakeM c ds.fr ds.ol o k 0).credit = G.credit := by
    cases o with
    | none => exact ⟨rfl, rfl, rfl, by show 1 - L ≤ c.first; omega, by show c.first ≤ _; omega, fun G hG => by cases hG⟩
    | some G =>
      obtain ⟨g1, g2, g3, g4, -, -, -⟩ := h.flo k G ho
      have hid : idleM ds.fr ds.ol (some G) k 40000000 0 = false := by
        show (decide (placeM ds.fr ds.ol (some G) k = 0) && decide (satAdd G.since 40000000 ≤ 0)) = false
        rw [g2, show satAdd 0 40000000 = 40000000 from rfl, decide_eq_false (by omega : ¬ (40000000 : Int) ≤ 0), Bool.and_false]
      unfold wakeM
      simp only [hid, Bool.false_eq_true, if_false]
      split
      · exact ⟨rfl, g1, rfl, g3, g4, fun G' hG' => by injection hG' with hG'; subst hG'; rfl⟩
      · exact ⟨rfl, g1, g2, g3, g4, fun G' hG' => by injection hG' with hG'; subst hG'; rfl⟩
  have hpl : placeM ds.fr ds.ol o k = 0 ↔ (k : Int) ∉ ds.fr ++ ds.ol := by
    unfold placeM
    rw [← plZ_iff]
    by_cases hp : plZ ds.fr ds.ol k = 0
    · rw [if_pos hp]
      have hnot := plZ_iff.1 hp
      cases o with
      | none => simp [segsM, hp]
      | some G =>
        have h7 := (h.flo k G ho).2.2.2.2.2.2
        have : G.segs = [] := by
          cases hs : G.segs with
          | nil => rfl
          | cons x r => exact absurd (h7 (by simp [hs])) hnot
        simp [segsM, this, hp]
    · rw [if_neg hp]
  obtain ⟨w1, w2, w3, w4, w5, w6⟩ := hw
  generalize hW : wakeM c ds.fr ds.ol o k 0 = W at *
  refine ⟨{ W with segs := W.segs ++ [⟨k, 0, ln, 0, false⟩] }, if placeM ds.fr ds.ol o k = 0 then ds.fr ++ [(k : Int)] else ds.fr, ?_, ?_, w6, ?_, ?_⟩
  · have e : enqM c ds ⟨k, 0, ln, 0, false⟩ 0 = (if fateM c ((colM ds.fr ds.ol 0 ds.fm)[((k : Int)).toNat]?.getD none) ds.n 0 0 = 0 then
        (0, ⟨(colM ds.fr ds.ol 0 ds.fm).set ((k : Int)).toNat (some { wakeM c ds.fr ds.ol ((colM ds.fr ds.ol 0 ds.fm)[((k : Int)).toNat]?.getD none) k 0 with segs := (wakeM c ds.fr ds.ol ((colM ds.fr ds.ol 0 ds.fm)[((k : Int)).toNat]?.getD none) k 0).segs ++ [⟨k, 0, ln, min 0 (satAdd 0 c.horizon), false⟩] }), if placeM ds.fr ds.ol ((colM ds.fr ds.ol 0 ds.fm)[((k : Int)).toNat]?.getD none) k = 0 then ds.fr ++ [(k : Int)] else ds.fr, ds.ol, ds.n + 1⟩)
      else (fateM c ((colM ds.fr ds.ol 0 ds.fm)[((k : Int)).toNat]?.getD none) ds.n 0 0, ⟨colM ds.fr ds.ol 0 ds.fm, ds.fr, ds.ol, ds.n⟩)) := rfl
    rw [e, hcol, hgd, hfate, if_pos rfl, hW, hst, Int.toNat_natCast]
  · show W.segs ++ _ = _; rw [w1]
  · by_cases hp : placeM ds.fr ds.ol o k = 0
    · rw [if_pos hp]; exact .inr ⟨rfl, hpl.1 hp⟩
    · rw [if_neg hp]
      refine .inl ⟨rfl, ?_⟩
      by_cases hm : (k : Int) ∈ ds.fr ++ ds.ol
      · exact hm
      · exact absurd (hpl.2 hm) hp
  · obtain ⟨fr', hfr'⟩ : ∃ x, (if placeM ds.fr ds.ol o k = 0 then ds.fr ++ [(k : Int)] else ds.fr) = x := ⟨_, rfl⟩
    rw [hfr']
    have hmem : ∀ s, s ∈ fr' ++ ds.ol ↔ s ∈ ds.fr ++ ds.ol ∨ s = k := by
      intro s
      rw [← hfr']
      by_cases hp : placeM ds.fr ds.ol o k = 0
      · rw [if_pos hp]
        simp only [List.mem_append, List.mem_singleton]
        constructor
        · rintro ((h | h) | h)
          · exact .inl (.inl h)
          · exact .inr h
          · exact .inl (.inr h)
        · rintro ((h | h) | h)
          · exact .inl (.inl h)
          · exact .inr h
          · exact .inl (.inr h)
      · rw [if_neg hp]
        have hm : (k : Int) ∈ ds.fr ++ ds.ol := by
          by_cases hm : (k : Int) ∈ ds.fr ++ ds.ol
          · exact hm
          · exact absurd (hpl.2 hm) hp
        constructor
        · exact .inl
        · rintro (h | rfl)
          · exact h
          · exact hm
    have hkl : k < ds.fm.length := by rw [h.len]; exact hk
    refine ⟨by simp [h.len], ?_, ?_, ?_, ?_⟩
    · show (fr' ++ ds.ol).Nodup
      rw [← hfr']
      by_cases hp : placeM ds.fr ds.ol o k = 0
      · rw [if_pos hp, List.append_assoc]
        have hnot := hpl.1 hp
        exact (List.perm_middle (l₁ := ds.fr) (a := (k : Int)) (l₂ := ds.ol)).nodup_iff.2 (List.nodup_cons.2 ⟨hnot, h.nd⟩)
      · rw [if_neg hp]; exact h.nd
    · intro s hs
      rcases (hmem s).1 hs with h1 | rfl
      · obtain ⟨s0, F, hF⟩ := h.lst s h1
        refine ⟨s0, ?_⟩
        by_cases hsk : k = s.toNat
        · subst hsk; exact ⟨_, List.getElem?_set_self hkl⟩
        · exact ⟨F, by rw [← hF]; exact List.getElem?_set_ne hsk⟩
      · exact ⟨by omega, _, by rw [Int.toNat_natCast]; exact List.getElem?_set_self hkl⟩
    · intro j G hG
      have hG' : (ds.fm.set k (some { W with segs := W.segs ++ [⟨k, 0, ln, 0, false⟩] }))[j]? = some (some G) := hG
      by_cases hj : k = j
      · subst hj
        rw [List.getElem?_set_self hkl] at hG'
        injection hG' with hG'; injection hG' with hG'; subst hG'
        refine ⟨w2, w3, w4, w5, ?_, ?_, fun _ => (hmem _).2 (.inr rfl)⟩
        · show (W.segs ++ _).length ≤ 2
          rw [w1, List.length_append]; simp; omega
        · intro x hx
          have hx' : x ∈ W.segs ++ [⟨k, 0, ln, 0, false⟩] := hx
          rcases List.mem_append.1 hx' with hx' | hx'
          · rw [w1] at hx'
            cases o with
            | none => cases hx'
            | some G => exact (h.flo k G ho).2.2.2.2.2.1 x hx'
          · obtain rfl := List.mem_singleton.1 hx'
            exact ⟨rfl, l0, l1, rfl⟩
      · rw [List.getElem?_set_ne hj] at hG'
        obtain ⟨g1, g2, g3, g4, g5, g6, g7⟩ := h.flo j G hG'
        exact ⟨g1, g2, g3, g4, g5, g6, fun hs => (hmem _).2 (.inl (g7 hs))⟩
    · show ds.n + 1 = ((ds.fm.set k _).map segN).sum
      rw [sum_set ds.fm k o _ ho, ← h.num]
      show ds.n + 1 = ds.n - segN o + (((W.segs ++ [(⟨k, 0, ln, 0, false⟩ : SegM)]).length : Nat) : Int)
      rw [w1, List.length_append]
      unfold segN
      simp
      omega
end
/-! ### Dequeue -/
def dfc (o : Option FlowM) : Nat := match o with | some F => (1 - F.credit).toNat | none => 0
def meas (ds : DS) : Nat := (ds.fm.map dfc).sum + ds.fr.length + (ds.fr ++ ds.ol).length
theorem dfc_set : ∀ (l : List (Option FlowM)) (k : Nat) (o o' : Option FlowM), l[k]? = some o → ((l.set k o').map dfc).sum + dfc o = (l.map dfc).sum + dfc o'
  | [], _, _, _, h => by cases h
  | x :: l, 0, o, o', h => by
    injection h with h; subst h
    simp only [List.set_cons_zero, List.map_cons, List.sum_cons]; omega
  | x :: l, k + 1, o, o', h => by
    have := dfc_set l k o o' h
    simp only [List.set_cons_succ, List.map_cons, List.sum_cons]; omega
theorem ord_two {l : List Int} {a b : Int} (hab : a ≠ b) (hd : l.Nodup) (hm : ∀ x ∈ l, x = a ∨ x = b) (ha : a ∈ l) (hb : b ∈ l) : l = [a, b] ∨ l = [b, a] := by
  cases l with
  | nil => cases ha
  | cons x l =>
    cases l with
    | nil =>
      have h1 := List.mem_singleton.1 ha
      have h2 := List.mem_singleton.1 hb
      exact absurd (h1.trans h2.symm) hab
    | cons y l =>
      have hx := hm x (by simp)
      have hy := hm y (by simp)
      have hxy : x ≠ y := by
        intro e; subst e; simp at hd
      cases l with
      | nil =>
        rcases hx with rfl | rfl <;> rcases hy with rfl | rfl
        · exact absurd rfl hxy
        · exact .inl rfl
        · exact .inr rfl
        · exact absurd rfl hxy
      | cons z l =>
        have hz := hm z (by simp)
        have hxz : x ≠ z := by intro e; subst e; simp at hd
        have hyz : y ≠ z := by intro e; subst e; simp at hd
        rcases hx with rfl | rfl <;> rcases hy with rfl | rfl <;> rcases hz with rfl | rfl <;> first | exact absurd rfl hxy | exact absurd rfl hxz | exact absurd rfl hyz
theorem ord_cases {a b : Nat} (hab : a ≠ b) {ds : DS} (hd : (ds.fr ++ ds.ol).Nodup) (ha : (a : Int) ∈ ds.fr ++ ds.ol) (hb : (b : Int) ∈ ds.fr ++ ds.ol) : ordL a b ds = [(a : Int), (b : Int)] ∨ ordL a b ds = [(b : Int), (a : Int)] := by
  refine ord_two (by omega) (hd.filter _) (fun x hx => ?_) (List.mem_filter.2 ⟨ha, by simp⟩) (List.mem_filter.2 ⟨hb, by simp⟩)
  simpa using (List.mem_filter.1 hx).2
theorem ordO_01 {a b : Nat} {ds : DS} : ordO a b ds = 0 ∨ ordO a b ds = 1 := by unfold ordO; split <;> simp
theorem filter_ne {P : List Int} {s : Int} {P1 : List Int} (hP : P = s :: P1) (hd : P.Nodup) : P.filter (· ≠ s) = P1 := by
  subst hP
  have hn : s ∉ P1 := (List.nodup_cons.1 hd).1
  rw [List.filter_cons_of_neg (by simp)]
  exact List.filter_eq_self.2 fun x hx => by simp; intro e; subst e; exact hn hx
/-- The head goes behind all. -/
theorem ord_back {a b : Nat} (hab : a ≠ b) {P P1 : List Int} {s : Int} (hP : P = s :: P1) (hd : P.Nodup) (ha : (a : Int) ∈ P) (hb : (b : Int) ∈ P) :
    (s ≠ a ∧ s ≠ b ∧ (P1 ++ [s]).filter (fun x => x == (a : Int) || x == (b : Int)) = P.filter (fun x => x == (a : Int) || x == (b : Int))) ∨
    (s = a ∧ P.filter (fun x => x == (a : Int) || x == (b : Int)) = [(a : Int), (b : Int)] ∧ (P1 ++ [s]).filter (fun x => x == (a : Int) || x == (b : Int)) = [(b : Int), (a : Int)]) ∨
    (s = b ∧ P.filter (fun x => x == (a : Int) || x == (b : Int)) = [(b : Int), (a : Int)] ∧ (P1 ++ [s]).filter (fun x => x == (a : Int) || x == (b : Int)) = [(a : Int), (b : Int)]) := by
  have h2 := ord_two (l := P.filter (fun x => x == (a : Int) || x == (b : Int))) (a := a) (b := b) (by omega) (hd.filter _) (fun x hx => by simpa using (List.mem_filter.1 hx).2) (List.mem_filter.2 ⟨ha, by simp⟩) (List.mem_filter.2 ⟨hb, by simp⟩)
  subst hP
  by_cases hsa : s = a
  · subst hsa
    rw [List.filter_cons_of_pos (by simp)] at h2 ⊢
    rcases h2 with h2 | h2
    · injection h2 with _ h3
      refine .inr (.inl ⟨rfl, by rw [h3], ?_⟩)
      rw [List.filter_append, h3]; simp
    · injection h2 with h3 _; omega
  · by_cases hsb : s = b
    · subst hsb
      rw [List.filter_cons_of_pos (by simp)] at h2 ⊢
      rcases h2 with h2 | h2
      · injection h2 with h3 _; omega
      · injection h2 with _ h3
        refine .inr (.inr ⟨rfl, by rw [h3], ?_⟩)
        rw [List.filter_append, h3]; simp
    · refine .inl ⟨hsa, hsb, ?_⟩
      have hf : (s == (a : Int) || s == (b : Int)) = false := by simp [hsa, hsb]
      rw [List.filter_append, List.filter_cons_of_neg (by simp [hf]), List.filter_cons_of_neg (by simp [hf]), List.filter_nil, List.append_nil]
section
variable {c : CfgM} {L : Int}
theorem lesser_top : lesser 18446744073709551615 0 = 18446744073709551615 := by unfold lesser; simp
/-- Some flow's segment. -/
def HasSeg (ds : DS) (k : Nat) (n : Nat) : Prop := ∃ F, ds.fm[k]? = some (some F) ∧ n ≤ F.segs.length
theorem HasSeg.mem {ds : DS} {k n : Nat} (h : HasSeg ds k n) (hw : TW c L ds) (hn : 0 < n) : (k : Int) ∈ ds.fr ++ ds.ol := by
  obtain ⟨F, hF, hl⟩ := h
  exact (hw.flo k F hF).2.2.2.2.2.2 (by intro e; rw [e] at hl; simp at hl; omega)
theorem crF_some {ds : DS} {k : Nat} {F : FlowM} (h : ds.fm[k]? = some (some F)) : crF ds k = F.credit := by unfold crF; rw [h]
theorem crF_set_ne {fm : List (Option FlowM)} {fr fr' ol ol' : List Int} {n n' : Int} {j k : Nat} {o : Option FlowM} (h : j ≠ k) : crF ⟨fm.set j o, fr', ol', n'⟩ k = crF ⟨fm, fr, ol, n⟩ k := by
  unfold crF; simp only [List.getElem?_set_ne h]
theorem crF_set_self {fm : List (Option FlowM)} {fr ol : List Int} {n : Int} {k : Nat} {F : FlowM} (h : k < fm.length) : crF ⟨fm.set k (some F), fr, ol, n⟩ k = F.credit := by
  unfold crF; simp only [List.getElem?_set_self h]
/-- What a Dequeue comes to. -/
def DeqTo (c : CfgM) (L : Int) (a b : Nat) (ds : DS) (s : SegM) (ds' : DS) : Prop := TW c L ds' ∧ 0 ≤ s.sock ∧ s.sock < 8 ∧ 1 ≤ s.len ∧ s.len ≤ L ∧ HasSeg ds' a 1 ∧ HasSeg ds' b 1 ∧
  (if s.sock = a then s.len else 0) - (if s.sock = b then s.len else 0) = (crF ds a - crF ds' a) + (crF ds' b - crF ds b) + c.quantum * (ordO a b ds' - ordO a b ds)
theorem tw_deq (hc : TC c) (L1 : L ≤ 9000) (a b : Nat) (hab : a ≠ b) : ∀ (m : Nat) (ds : DS), TW c L ds → meas ds ≤ m → HasSeg ds a 2 → HasSeg ds b 2 → ∃ fuel s ds', deq c 0 [] fuel ds = some (some s, ds') ∧ DeqTo c L a b ds s ds' := by
  intro m
  induction m with
  | zero =>
    intro ds hw hm ha hb
    have := ha.mem hw (by omega)
    have h1 : 0 < (ds.fr ++ ds.ol).length := List.length_pos_of_mem this
    unfold meas at hm
    omega
  | succ m ih =>
    intro ds hw hm ha hb
    have hq0 := hc.q0; have hq1 := hc.q1; have hf0 := hc.f0; have hf1 := hc.f1
    have hma := ha.mem hw (by omega)
    have hmb := hb.mem hw (by omega)
    obtain ⟨fm, fr, ol, n⟩ := ds
    dsimp only at *
    -- the head
    obtain ⟨s, f, r, P1, hls, hP⟩ : ∃ s f r P1, lsP fr ol = (s, f) :: r ∧ fr ++ ol = s :: P1 := by
      cases fr with
      | cons s fr1 => exact ⟨s, true, _, _, rfl, rfl⟩
      | nil =>
        cases ol with
        | cons s ol1 => exact ⟨s, false, _, _, rfl, rfl⟩
        | nil => cases hma
    have hsm : s ∈ fr ++ ol := by rw [hP]; simp
    obtain ⟨s0, F, hF⟩ := hw.lst s hsm
    have hs8 := hw.lt hsm
    obtain ⟨k, rfl⟩ : ∃ k : Nat, s = k := ⟨s.toNat, by omega⟩
    rw [Int.toNat_natCast] at hF
    dsimp only at hF hs8
    have hkl : k < fm.length := (List.getElem?_eq_some_iff.1 hF).1
    obtain ⟨g1, g2, g3, g4, g5, g6, g7⟩ := hw.flo k F hF
    have hnd := hw.nd
    dsimp only at hnd g7
    have hfil := filter_ne hP hnd
    rw [List.filter_append] at hfil
    have hnd1 : P1.Nodup ∧ (k : Int) ∉ P1 := by rw [hP] at hnd; exact ⟨(List.nodup_cons.1 hnd).2, (List.nodup_cons.1 hnd).1⟩
    have hlenP : (fr ++ ol).length = P1.length + 1 := by rw [hP]; rfl
    have hfl := List.length_filter_le (fun x => decide (x ≠ (k : Int))) fr
    have hone : ∀ fuel, deq c 0 [] (fuel + 1) ⟨fm, fr, ol, n⟩ = (if F.credit ≤ 0 then deq c 0 [] fuel ⟨fm.set k (some { F with credit := F.credit + c.quantum }), fr.filter (· ≠ (k : Int)), ol.filter (· ≠ (k : Int)) ++ [(k : Int)], n⟩
        else match F.segs with
          | [] => if f = true ∧ olB (lsP fr ol) = true then deq c 0 [] fuel ⟨fm, fr.filter (· ≠ (k : Int)), ol.filter (· ≠ (k : Int)) ++ [(k : Int)], n⟩
              else deq c 0 [] fuel ⟨fm.set k (some { F with since := 0 }), fr.filter (· ≠ (k : Int)), ol.filter (· ≠ (k : Int)), n⟩
          | x :: r => if (0 : Int) < timeOf F.next F.segs then none
              else some (some x, ⟨fm.set k (some ⟨F.credit - x.len, satAdd 0 (delayOf x.len (lesser (rateAt [] k) c.maxRate)), F.since, r⟩), fr, ol, n - 1⟩)) := by
      intro fuel
      conv => lhs; unfold deq
      simp only [hls, Int.toNat_natCast, hF]
      rfl
    have hback : ∀ (o : Option FlowM), (∃ G, o = some G ∧ G.next = 0 ∧ G.since = 0 ∧ 1 - L ≤ G.credit ∧ G.credit ≤ max c.quantum c.first ∧ G.segs = F.segs) → TW c L ⟨fm.set k o, fr.filter (· ≠ (k : Int)), ol.filter (· ≠ (k : Int)) ++ [(k : Int)], n⟩ := by
      rintro o ⟨G, rfl, e1, e2, e3, e4, e5⟩
      have hmem : ∀ x, x ∈ fr.filter (· ≠ (k : Int)) ++ (ol.filter (· ≠ (k : Int)) ++ [(k : Int)]) ↔ x ∈ fr ++ ol := by
        intro x
        rw [← List.append_assoc, hfil, hP]
        simp only [List.mem_append, List.mem_cons, List.mem_singleton]
        constructor
        · rintro (h | h | h)
          · exact .inr h
          · exact .inl h
          · cases h
        · rintro (h | h)
          · exact .inr (.inl h)
          · exact .inl h
      refine ⟨by simpa using hw.len, ?_, ?_, ?_, ?_⟩
      · show (fr.filter _ ++ (ol.filter _ ++ _)).Nodup
        rw [← List.append_assoc, hfil]
        exact (List.perm_append_comm (l₁ := P1) (l₂ := [(k : Int)])).nodup_iff.2 (List.nodup_cons.2 ⟨hnd1.2, hnd1.1⟩)
      · intro x hx
        obtain ⟨x0, G', hG'⟩ := hw.lst x ((hmem x).1 hx)
        refine ⟨x0, ?_⟩
        by_cases hxk : k = x.toNat
        · exact ⟨G, by rw [← hxk]; exact List.getElem?_set_self hkl⟩
        · exact ⟨G', by rw [← hG']; exact List.getElem?_set_ne hxk⟩
      · intro j G' hG'
        have hG2 : (fm.set k (some G))[j]? = some (some G') := hG'
        by_cases hj : k = j
        · subst hj
          rw [List.getElem?_set_self hkl] at hG2
          injection hG2 with hG2; injection hG2 with hG2; subst hG2
          exact ⟨e1, e2, e3, e4, by rw [e5]; exact g5, by rw [e5]; exact g6, fun hh => (hmem _).2 hsm⟩
        · rw [List.getElem?_set_ne hj] at hG2
          obtain ⟨p1, p2, p3, p4, p5, p6, p7⟩ := hw.flo j G' hG2
          exact ⟨p1, p2, p3, p4, p5, p6, fun hh => (hmem _).2 (p7 hh)⟩
      · show n = ((fm.set k (some G)).map segN).sum
        rw [sum_set fm k (some F) (some G) hF, ← hw.num]
        show n = n - ((F.segs.length : Nat) : Int) + ((G.segs.length : Nat) : Int)
        rw [e5]; omega
    have hordb := ord_back hab hP hnd hma hmb
    by_cases hcr : F.credit ≤ 0
    · -- a quantum
      have hw2 := hback (some { F with credit := F.credit + c.quantum }) ⟨_, rfl, g1, g2, by show 1 - L ≤ F.credit + c.quantum; omega, by show F.credit + c.quantum ≤ _; omega, rfl⟩
      have hm2 : meas ⟨fm.set k (some { F with credit := F.credit + c.quantum }), fr.filter (· ≠ (k : Int)), ol.filter (· ≠ (k : Int)) ++ [(k : Int)], n⟩ ≤ m := by
        have h1 := dfc_set fm k (some F) (some { F with credit := F.credit + c.quantum }) hF
        have h2 : dfc (some { F with credit := F.credit + c.quantum }) < dfc (some F) := by
          show (1 - (F.credit + c.quantum)).toNat < (1 - F.credit).toNat; omega
        unfold meas at hm ⊢
        simp only at hm ⊢
        rw [← List.append_assoc, hfil, List.length_append, List.length_singleton]
        omega
      have hseg : ∀ j, HasSeg ⟨fm, fr, ol, n⟩ j 2 → HasSeg ⟨fm.set k (some { F with credit := F.credit + c.quantum }), fr.filter (· ≠ (k : Int)), ol.filter (· ≠ (k : Int)) ++ [(k : Int)], n⟩ j 2 := by
        rintro j ⟨G, hG, hl⟩
        by_cases hj : k = j
        · subst hj
          have : F = G := by rw [hF] at hG; injection hG with hG; injection hG
          subst this
          exact ⟨_, List.getElem?_set_self hkl, hl⟩
        · exact ⟨G, by rw [← hG]; exact List.getElem?_set_ne hj, hl⟩
      obtain ⟨fuel, x, ds', hd, h1, h2, h3, h4, h5, h6, h7, h8⟩ := ih _ hw2 hm2 (hseg a ha) (hseg b hb)
      refine ⟨fuel + 1, x, ds', by rw [hone, if_pos hcr]; exact hd, h1, h2, h3, h4, h5, h6, h7, ?_⟩
      rw [h8]
      have hoL : ordL a b ⟨fm.set k (some { F with credit := F.credit + c.quantum }), fr.filter (· ≠ (k : Int)), ol.filter (· ≠ (k : Int)) ++ [(k : Int)], n⟩ = (P1 ++ [(k : Int)]).filter (fun x => x == (a : Int) || x == (b : Int)) := by
        unfold ordL
        simp only
        rw [← List.append_assoc, hfil]
      have hoL0 : ordL a b ⟨fm, fr, ol, n⟩ = (fr ++ ol).filter (fun x => x == (a : Int) || x == (b : Int)) := rfl
      rcases hordb with ⟨n1, n2, e⟩ | ⟨e0, e1, e2⟩ | ⟨e0, e1, e2⟩
      · have ho : ordO a b ⟨fm.set k (some { F with credit := F.credit + c.quantum }), fr.filter (· ≠ (k : Int)), ol.filter (· ≠ (k : Int)) ++ [(k : Int)], n⟩ = ordO a b ⟨fm, fr, ol, n⟩ := by unfold ordO; rw [hoL, hoL0, e]
        rw [ho, crF_set_ne (fr := fr) (ol := ol) (n := n) (by omega : k ≠ a), crF_set_ne (fr := fr) (ol := ol) (n := n) (by omega : k ≠ b)]
      · obtain rfl : k = a := by omega
        have ho1 : ordO k b ⟨fm.set k (some { F with credit := F.credit + c.quantum }), fr.filter (· ≠ (k : Int)), ol.filter (· ≠ (k : Int)) ++ [(k : Int)], n⟩ = 1 := by unfold ordO; rw [hoL, e2, if_pos rfl]
        have ho0 : ordO k b ⟨fm, fr, ol, n⟩ = 0 := by unfold ordO; rw [hoL0, e1, if_neg]; intro e; injection e with e _; omega
        rw [ho1, ho0, crF_set_self hkl, crF_set_ne (fr := fr) (ol := ol) (n := n) hab, crF_some (ds := ⟨fm, fr, ol, n⟩) hF]
        show _ - _ + _ + c.quantum * (_ - 1) = _
        simp only [Int.mul_sub, Int.mul_one, Int.mul_zero]
        show (F.credit + c.quantum - _) + _ + _ = _
        omega
      · obtain rfl : k = b := by omega
        have ho1 : ordO a k ⟨fm.set k (some { F with credit := F.credit + c.quantum }), fr.filter (· ≠ (k : Int)), ol.filter (· ≠ (k : Int)) ++ [(k : Int)], n⟩ = 0 := by unfold ordO; rw [hoL, e2, if_neg]; intro e; injection e with e _; omega
        have ho0 : ordO a k ⟨fm, fr, ol, n⟩ = 1 := by unfold ordO; rw [hoL0, e1, if_pos rfl]
        rw [ho1, ho0, crF_set_self hkl, crF_set_ne (fr := fr) (ol := ol) (n := n) (Ne.symm hab), crF_some (ds := ⟨fm, fr, ol, n⟩) (k := k) hF]
        simp only [Int.mul_sub, Int.mul_one, Int.mul_zero]
        show _ + (_ - (F.credit + c.quantum)) + _ = _
        omega
    · cases hsg : F.segs with
      | nil =>
        have hka : k ≠ a := by
          rintro rfl
          obtain ⟨G, hG, hl⟩ := ha
          have : F = G := by rw [hF] at hG; injection hG with hG; injection hG
          subst this; rw [hsg] at hl; simp at hl
        have hkb : k ≠ b := by
          rintro rfl
          obtain ⟨G, hG, hl⟩ := hb
          have : F = G := by rw [hF] at hG; injection hG with hG; injection hG
          subst this; rw [hsg] at hl; simp at hl
        have hP1f : P1.filter (fun x => x == (a : Int) || x == (b : Int)) = (fr ++ ol).filter (fun x => x == (a : Int) || x == (b : Int)) := by
          rw [hP, List.filter_cons_of_neg]
          simp; omega
        by_cases hfo : f = true ∧ olB (lsP fr ol) = true
        · -- behind all
          have hw2 := hback (some F) ⟨F, rfl, g1, g2, g3, g4, rfl⟩
          rw [set_same hF] at hw2
          have hfr : fr.filter (· ≠ (k : Int)) ≠ fr := by
            intro e
            obtain ⟨rfl, _⟩ := hfo
            cases fr with
            | nil => cases ol <;> simp [lsP] at hls
            | cons y fr1 =>
              have : y = k := by injection hls with h _; injection h
              subst this
              have h9 := congrArg List.length e
              rw [List.filter_cons_of_neg (by simp)] at h9
              have := List.length_filter_le (fun x => decide (x ≠ (k : Int))) fr1
              simp only [List.length_cons] at h9
              omega
          have hfl2 : (fr.filter (· ≠ (k : Int))).length < fr.length := by
            rcases Nat.lt_or_ge (fr.filter (· ≠ (k : Int))).length fr.length with h | h
            · exact h
            · exact absurd ((List.filter_sublist (l := fr) (p := fun x => decide (x ≠ (k : Int)))).eq_of_length_le h) hfr
          have hm2 : meas ⟨fm, fr.filter (· ≠ (k : Int)), ol.filter (· ≠ (k : Int)) ++ [(k : Int)], n⟩ ≤ m := by
            unfold meas at hm ⊢
            simp only at hm ⊢
            rw [← List.append_assoc, hfil, List.length_append, List.length_singleton]
            omega
          obtain ⟨fuel, x, ds', hd, h1, h2, h3, h4, h5, h6, h7, h8⟩ := ih _ hw2 hm2 ha hb
          refine ⟨fuel + 1, x, ds', by rw [hone, if_neg hcr, hsg]; simp only []; rw [if_pos hfo]; exact hd, h1, h2, h3, h4, h5, h6, h7, ?_⟩
          rw [h8]
          have ho : ordO a b ⟨fm, fr.filter (· ≠ (k : Int)), ol.filter (· ≠ (k : Int)) ++ [(k : Int)], n⟩ = ordO a b ⟨fm, fr, ol, n⟩ := by
            unfold ordO ordL
            simp only
            rw [← List.append_assoc, hfil, List.filter_append, hP1f, List.filter_cons_of_neg (by simp; omega), List.filter_nil, List.append_nil]
          rw [ho]
          rfl
        · -- it goes
          have hmem : ∀ x, x ∈ fr.filter (· ≠ (k : Int)) ++ ol.filter (· ≠ (k : Int)) ↔ x ∈ P1 := fun x => by rw [hfil]
          have hw2 : TW c L ⟨fm.set k (some { F with since := 0 }), fr.filter (· ≠ (k : Int)), ol.filter (· ≠ (k : Int)), n⟩ := by
            refine ⟨by simpa using hw.len, ?_, ?_, ?_, ?_⟩
            · show (fr.filter _ ++ ol.filter _).Nodup
              rw [hfil]; exact hnd1.1
            · intro x hx
              have hx1 := (hmem x).1 hx
              obtain ⟨x0, G', hG'⟩ := hw.lst x (by rw [hP]; simp [hx1])
              refine ⟨x0, ?_⟩
              by_cases hxk : k = x.toNat
              · exact absurd hx1 (by rw [show x = k by omega]; exact hnd1.2)
              · exact ⟨G', by rw [← hG']; exact List.getElem?_set_ne hxk⟩
            · intro j G' hG'
              have hG2 : (fm.set k (some { F with since := 0 }))[j]? = some (some G') := hG'
              by_cases hj : k = j
              · subst hj
                rw [List.getElem?_set_self hkl] at hG2
                injection hG2 with hG2; injection hG2 with hG2; subst hG2
                exact ⟨g1, rfl, g3, g4, g5, g6, fun hh => absurd hsg hh⟩
              · rw [List.getElem?_set_ne hj] at hG2
                obtain ⟨p1, p2, p3, p4, p5, p6, p7⟩ := hw.flo j G' hG2
                refine ⟨p1, p2, p3, p4, p5, p6, fun hh => (hmem _).2 ?_⟩
                have := p7 hh
                rw [hP] at this
                rcases List.mem_cons.1 this with h | h
                · omega
                · exact h
            · show n = ((fm.set k _).map segN).sum
              rw [sum_set fm k (some F) _ hF, ← hw.num]
              show n = n - ((F.segs.length : Nat) : Int) + ((F.segs.length : Nat) : Int)
              omega
          have hm2 : meas ⟨fm.set k (some { F with since := 0 }), fr.filter (· ≠ (k : Int)), ol.filter (· ≠ (k : Int)), n⟩ ≤ m := by
            have h1 := dfc_set fm k (some F) (some { F with since := 0 }) hF
            have h2 : dfc (some { F with since := 0 }) = dfc (some F) := rfl
            unfold meas at hm ⊢
            simp only at hm ⊢
            rw [hfil]
            omega
          have hseg : ∀ j, k ≠ j → HasSeg ⟨fm, fr, ol, n⟩ j 2 → HasSeg ⟨fm.set k (some { F with since := 0 }), fr.filter (· ≠ (k : Int)), ol.filter (· ≠ (k : Int)), n⟩ j 2 := by
            rintro j hj ⟨G, hG, hl⟩
            exact ⟨G, by rw [← hG]; exact List.getElem?_set_ne hj, hl⟩
          obtain ⟨fuel, x, ds', hd, h1, h2, h3, h4, h5, h6, h7, h8⟩ := ih _ hw2 hm2 (hseg a hka ha) (hseg b hkb hb)
          refine ⟨fuel + 1, x, ds', by
            rw [hone, if_neg hcr]
            have hms : ∀ {β : Type} (A : β) (B : SegM → List SegM → β), (match F.segs with | [] => A | x :: r => B x r) = A := fun A B => by rw [hsg]
            rw [hms, if_neg hfo]; exact hd, h1, h2, h3, h4, h5, h6, h7, ?_⟩
          rw [h8]
          have ho : ordO a b ⟨fm.set k (some { F with since := 0 }), fr.filter (· ≠ (k : Int)), ol.filter (· ≠ (k : Int)), n⟩ = ordO a b ⟨fm, fr, ol, n⟩ := by
            unfold ordO ordL
            simp only
            rw [hfil, hP1f]
          rw [ho, crF_set_ne (fr := fr) (ol := ol) (n := n) hka, crF_set_ne (fr := fr) (ol := ol) (n := n) hkb]
      | cons x r =>
        -- it departs
        obtain ⟨x1, x2, x3, x4⟩ := g6 x (by rw [hsg]; simp)
        have htm : timeOf F.next F.segs = 0 := by rw [hsg, g1]; show max 0 x.stamp = 0; rw [x4]; rfl
        have hnx : satAdd 0 (delayOf x.len (lesser (rateAt [] k) c.maxRate)) = 0 := by
          rw [hc.mr, show rateAt [] k = 18446744073709551615 from rfl, lesser_top]
          unfold delayOf
          rw [if_pos (.inr rfl)]; rfl
        have hw2 : TW c L ⟨fm.set k (some ⟨F.credit - x.len, 0, F.since, r⟩), fr, ol, n - 1⟩ := by
          refine ⟨by simpa using hw.len, hw.nd, ?_, ?_, ?_⟩
          · intro y hy
            obtain ⟨y0, G', hG'⟩ := hw.lst y hy
            refine ⟨y0, ?_⟩
            by_cases hyk : k = y.toNat
            · exact ⟨_, by rw [← hyk]; exact List.getElem?_set_self hkl⟩
            · exact ⟨G', by rw [← hG']; exact List.getElem?_set_ne hyk⟩
          · intro j G' hG'
            have hG2 : (fm.set k (some ⟨F.credit - x.len, 0, F.since, r⟩))[j]? = some (some G') := hG'
            by_cases hj : k = j
            · subst hj
              rw [List.getElem?_set_self hkl] at hG2
              injection hG2 with hG2; injection hG2 with hG2; subst hG2
              refine ⟨rfl, g2, ?_, ?_, ?_, fun y hy => g6 y (by rw [hsg]; simp [hy]), fun _ => hsm⟩
              · show 1 - L ≤ F.credit - x.len; omega
              · show F.credit - x.len ≤ _; omega
              · show r.length ≤ 2
                have := g5
                rw [hsg] at this
                simp at this; omega
            · rw [List.getElem?_set_ne hj] at hG2
              exact hw.flo j G' hG2
          · show n - 1 = ((fm.set k _).map segN).sum
            rw [sum_set fm k (some F) _ hF, ← hw.num]
            show n - 1 = n - ((F.segs.length : Nat) : Int) + ((r.length : Nat) : Int)
            rw [hsg]; simp; omega
        have hseg : ∀ j, HasSeg ⟨fm, fr, ol, n⟩ j 2 → HasSeg ⟨fm.set k (some ⟨F.credit - x.len, 0, F.since, r⟩), fr, ol, n - 1⟩ j 1 := by
          rintro j ⟨G, hG, hl⟩
          by_cases hj : k = j
          · subst hj
            have : F = G := by rw [hF] at hG; injection hG with hG; injection hG
            subst this
            refine ⟨_, List.getElem?_set_self hkl, ?_⟩
            show 1 ≤ r.length
            rw [hsg] at hl; simp at hl; omega
          · exact ⟨G, by rw [← hG]; exact List.getElem?_set_ne hj, by omega⟩
        refine ⟨1, x, ⟨fm.set k (some ⟨F.credit - x.len, 0, F.since, r⟩), fr, ol, n - 1⟩, ?_, hw2, by omega, by omega, x2, x3, hseg a ha, hseg b hb, ?_⟩
        · rw [hone, if_neg hcr]
          have hms : ∀ {β : Type} (A : β) (B : SegM → List SegM → β), (match F.segs with | [] => A | x :: r => B x r) = B x r := fun A B => by rw [hsg]
          rw [hms, if_neg (by rw [htm]; omega), hnx]
        · have ho : ordO a b ⟨fm.set k (some ⟨F.credit - x.len, 0, F.since, r⟩), fr, ol, n - 1⟩ = ordO a b ⟨fm, fr, ol, n⟩ := rfl
          rw [ho, Int.sub_self, Int.mul_zero, Int.add_zero, x1]
          by_cases hka : k = a
          · subst hka
            rw [if_pos rfl, if_neg (by omega), crF_set_self hkl, crF_set_ne (fr := fr) (ol := ol) (n := n) hab, crF_some (ds := ⟨fm, fr, ol, n⟩) hF]
            show x.len - 0 = F.credit - (F.credit - x.len) + _
            omega
          · rw [if_neg (by omega), crF_set_ne (fr := fr) (ol := ol) (n := n) hka]
            by_cases hkb : k = b
            · subst hkb
              rw [if_pos rfl, crF_set_self hkl, crF_some (ds := ⟨fm, fr, ol, n⟩) (k := k) hF]
              show 0 - x.len = _ + (F.credit - x.len - F.credit)
              omega
            · rw [if_neg (by omega), crF_set_ne (fr := fr) (ol := ol) (n := n) hkb]
              omega
end
/-! ### The rounds -/
def FairI (c : CfgM) (a b : Nat) (L x y : Int) (ds : DS) : Prop := ∃ ca cb o : Int, (o = 0 ∨ o = 1) ∧ 1 - L ≤ ca ∧ ca ≤ max c.quantum c.first ∧ 1 - L ≤ cb ∧ cb ≤ max c.quantum c.first ∧ x - y = (ca - crF ds a) + (crF ds b - cb) + c.quantum * (ordO a b ds - o)
theorem HasSeg.cr {c : CfgM} {L : Int} {ds : DS} {k n : Nat} (h : HasSeg ds k n) (hw : TW c L ds) : 1 - L ≤ crF ds k ∧ crF ds k ≤ max c.quantum c.first := by
  obtain ⟨F, hF, -⟩ := h
  rw [crF_some hF]
  have := hw.flo k F hF
  exact ⟨this.2.2.1, this.2.2.2.1⟩
theorem fair_zero {c : CfgM} {a b : Nat} {L : Int} {ds : DS} (hw : TW c L ds) (ha : HasSeg ds a 1) (hb : HasSeg ds b 1) : FairI c a b L 0 0 ds :=
  ⟨crF ds a, crF ds b, ordO a b ds, ordO_01, (ha.cr hw).1, (ha.cr hw).2, (hb.cr hw).1, (hb.cr hw).2, by rw [Int.sub_self, Int.sub_self, Int.sub_self, Int.sub_self, Int.mul_zero]; omega⟩
theorem fair_bound {c : CfgM} (hc : TC c) {a b : Nat} {L x y : Int} {ds : DS} (hw : TW c L ds) (ha : HasSeg ds a 1) (hb : HasSeg ds b 1) (h : FairI c a b L x y ds) : max x y - min x y ≤ c.quantum + 2 * max c.quantum c.first + 2 * L := by
  obtain ⟨ca, cb, o, ho, a0, a1, b0, b1, e⟩ := h
  have h1 := ha.cr hw
  have h2 := hb.cr hw
  have h3 := ordO_01 (a := a) (b := b) (ds := ds)
  have h4 : c.quantum * (ordO a b ds - o) ≤ c.quantum ∧ -c.quantum ≤ c.quantum * (ordO a b ds - o) := by
    have := hc.q0
    rcases h3 with h3 | h3 <;> rcases ho with ho | ho <;> rw [h3, ho]
    · simp; omega
    · rw [show (0 : Int) - 1 = -1 from rfl, Int.mul_neg, Int.mul_one]; omega
    · rw [show (1 : Int) - 0 = 1 from rfl, Int.mul_one]; omega
    · simp; omega
  omega
structure THead (c : CfgM) (a b fv i put : Nat) (L x y : Int) (ds : DS) : Prop where
  tw : TW c L ds
  L0 : 0 ≤ L
  L1 : L ≤ 9000
  x0 : 0 ≤ x
  x1 : x ≤ 9000 * i
  y0 : 0 ≤ y
  y1 : y ≤ 9000 * i
  put : put ≤ 16 * i
  zero : i = 0 → ds.fr ++ ds.ol = []
  early : i ≤ fv → x = 0 ∧ y = 0
  live : 0 < i → HasSeg ds a 1 ∧ HasSeg ds b 1 ∧ FairI c a b L x y ds
structure KInv (c : CfgM) (a b i k : Nat) (L L0 : Int) (ds0 ds : DS) : Prop where
  tw : TW c L ds
  le : L0 ≤ L
  l9 : L ≤ 9000
  two : ∀ j, j < k → j = a ∨ j = b → HasSeg ds j 2
  keep : 0 < i → crF ds a = crF ds0 a ∧ crF ds b = crF ds0 b ∧ ordO a b ds = ordO a b ds0 ∧ HasSeg ds a 1 ∧ HasSeg ds b 1
theorem KInv.enq {c : CfgM} (hc : TC c) {a b i k : Nat} {L L0 : Int} {ds0 ds : DS} (h : KInv c a b i k L L0 ds0 ds) (hk : k < 8) (n : Nat) (hn : n < 2) (hs : (segsM ((ds.fm[k]?).getD none)).length = n) (ln : Int) (l0 : 1 ≤ ln) (l1 : ln ≤ 9000) :
    ∃ ds', enqM c ds ⟨k, 0, ln, 0, false⟩ 0 = (0, ds') ∧ KInv c a b i k (max L ln) L0 ds0 ds' ∧ (segsM ((ds'.fm[k]?).getD none)).length = n + 1 := by
  have hkl : k < ds.fm.length := by rw [h.tw.len]; exact hk
  obtain ⟨o, ho⟩ : ∃ o, ds.fm[k]? = some o := ⟨_, List.getElem?_eq_getElem hkl⟩
  rw [ho, Option.getD_some] at hs
  have hl := h.l9
  obtain ⟨F, fr', he, hF, hG, hfr, hw⟩ := tw_enq (h.tw.mono (L' := max L ln) (by omega)) hc (by omega) k hk o ho (by omega) ln l0 (by omega)
  refine ⟨_, he, ⟨hw, by have := h.le; omega, by omega, ?_, ?_⟩, ?_⟩
  · intro j hj hab
    obtain ⟨G, hG1, hG2⟩ := h.two j hj hab
    exact ⟨G, by rw [← hG1]; exact List.getElem?_set_ne (by omega), hG2⟩
  · intro hi
    obtain ⟨k1, k2, k3, ha, hb⟩ := h.keep hi
    have hcr : ∀ j, HasSeg ds j 1 → crF ⟨ds.fm.set k (some F), fr', ds.ol, ds.n + 1⟩ j = crF ds j ∧ HasSeg ⟨ds.fm.set k (some F), fr', ds.ol, ds.n + 1⟩ j 1 := by
      rintro j ⟨G, hG1, hG2⟩
      by_cases hj : k = j
      · subst hj
        have : o = some G := by rw [ho] at hG1; injection hG1
        subst this
        refine ⟨?_, F, List.getElem?_set_self hkl, ?_⟩
        · rw [crF_some (ds := ds) hG1, crF_set_self hkl]; exact hG G rfl
        · rw [hF, List.length_append]; simp
      · refine ⟨?_, G, by rw [← hG1]; exact List.getElem?_set_ne hj, hG2⟩
        unfold crF
        simp only [List.getElem?_set_ne hj]
    have hord : ordO a b ⟨ds.fm.set k (some F), fr', ds.ol, ds.n + 1⟩ = ordO a b ds := by
      rcases hfr with ⟨rfl, _⟩ | ⟨rfl, hnot⟩
      · rfl
      · have hka : k ≠ a := fun e => hnot (by subst e; exact ha.mem h.tw (by omega))
        have hkb : k ≠ b := fun e => hnot (by subst e; exact hb.mem h.tw (by omega))
        have e : ordL a b ⟨ds.fm.set k (some F), ds.fr ++ [(k : Int)], ds.ol, ds.n + 1⟩ = ordL a b ds := by
          unfold ordL
          simp only
          rw [List.append_assoc, List.filter_append, List.filter_append, List.filter_append, List.filter_cons_of_neg (by simp; omega), List.filter_nil, List.nil_append]
        unfold ordO
        rw [e]
    exact ⟨(hcr a ha).1.trans k1, (hcr b hb).1.trans k2, hord.trans k3, (hcr a ha).2, (hcr b hb).2⟩
  · show (segsM (((ds.fm.set k (some F))[k]?).getD none)).length = n + 1
    rw [List.getElem?_set_self hkl, Option.getD_some]
    show F.segs.length = n + 1
    rw [hF, List.length_append, hs]; rfl
theorem THead.kinv {c : CfgM} {a b fv i put : Nat} {L x y : Int} {ds : DS} (h : THead c a b fv i put L x y ds) : KInv c a b i 0 L L ds ds :=
  ⟨h.tw, Int.le_refl _, h.L1, fun j hj => by omega, fun hi => ⟨rfl, rfl, rfl, (h.live hi).1, (h.live hi).2.1⟩⟩
theorem KInv.next {c : CfgM} {a b i k : Nat} {L L0 : Int} {ds0 ds : DS} (h : KInv c a b i k L L0 ds0 ds) (hs : k = a ∨ k = b → 2 ≤ (segsM ((ds.fm[k]?).getD none)).length) : KInv c a b i (k + 1) L L0 ds0 ds := by
  refine ⟨h.tw, h.le, h.l9, fun j hj hab => ?_, h.keep⟩
  by_cases hjk : j < k
  · exact h.two j hjk hab
  · obtain rfl : j = k := by omega
    have h2 := hs hab
    cases hf : ds.fm[j]? with
    | none => rw [hf] at h2; simp [segsM] at h2
    | some o =>
      rw [hf, Option.getD_some] at h2
      cases o with
      | none => simp [segsM] at h2
      | some F => exact ⟨F, hf, h2⟩
/-- A round: behind the Dequeue. -/
theorem THead.step {c : CfgM} (hc : TC c) {a b fv i put put' : Nat} (hab : a ≠ b) (a8 : a < 8) (b8 : b < 8) {L L' x y : Int} {ds0 ds : DS} (h : THead c a b fv i put L x y ds0) (hk : KInv c a b i 8 L' L ds0 ds) (hp : put' ≤ 16 * (i + 1)) :
    ∃ fuel s ds', deq c 0 [] fuel ds = some (some s, ds') ∧ dOk ds ∧ 0 ≤ s.sock ∧ s.sock < 8 ∧ 1 ≤ s.len ∧ s.len ≤ 9000 ∧
      ∀ x' y' : Int, x' = (if fv ≤ i ∧ s.sock = a then x + s.len else x) → y' = (if fv ≤ i ∧ s.sock = b then y + s.len else y) → THead c a b fv (i + 1) put' L' x' y' ds' ∧ max x' y' - min x' y' ≤ c.quantum + 2 * max c.quantum c.first + 2 * L' := by
  have ha := hk.two a a8 (.inl rfl)
  have hb := hk.two b b8 (.inr rfl)
  have hL := h.L0
  have hle := hk.le
  have hl9 := hk.l9
  obtain ⟨fuel, s, ds', hd, hw, s0, s8, n0, n1, ha', hb', he⟩ := tw_deq hc hl9 a b hab _ ds hk.tw (Nat.le_refl _) ha hb
  refine ⟨fuel, s, ds', hd, hk.tw.dOk hc (by omega) hl9, s0, s8, n0, by omega, ?_⟩
  intro x' y' hx hy
  have ha1 : HasSeg ds a 1 := by obtain ⟨F, h1, h2⟩ := ha; exact ⟨F, h1, by omega⟩
  have hb1 : HasSeg ds b 1 := by obtain ⟨F, h1, h2⟩ := hb; exact ⟨F, h1, by omega⟩
  have hfair : FairI c a b L' x' y' ds' := by
    by_cases hf : fv ≤ i
    · -- what was so behind the filling
      have h0 : FairI c a b L' x y ds := by
        by_cases hi : i ≤ fv
        · obtain ⟨rfl, rfl⟩ := h.early hi
          exact fair_zero hk.tw ha1 hb1
        · obtain ⟨-, -, ca, cb, o, e1, e2, e3, e4, e5, e6⟩ := h.live (by omega)
          obtain ⟨k1, k2, k3, -, -⟩ := hk.keep (by omega)
          exact ⟨ca, cb, o, e1, by omega, e3, by omega, e5, by rw [k1, k2, k3]; exact e6⟩
      obtain ⟨ca, cb, o, e1, e2, e3, e4, e5, e6⟩ := h0
      refine ⟨ca, cb, o, e1, e2, e3, e4, e5, ?_⟩
      have hm : c.quantum * (ordO a b ds' - o) = c.quantum * (ordO a b ds - o) + c.quantum * (ordO a b ds' - ordO a b ds) := by
        rw [← Int.mul_add]; congr 1; omega
      rw [hm]
      by_cases hsa : s.sock = a
      · have hsb : ¬ s.sock = b := by omega
        rw [if_pos hsa, if_neg hsb] at he
        rw [if_pos ⟨hf, hsa⟩] at hx
        rw [if_neg (fun h => hsb h.2)] at hy
        omega
      · rw [if_neg hsa] at he
        rw [if_neg (fun h => hsa h.2)] at hx
        by_cases hsb : s.sock = b
        · rw [if_pos hsb] at he
          rw [if_pos ⟨hf, hsb⟩] at hy
          omega
        · rw [if_neg hsb] at he
          rw [if_neg (fun h => hsb h.2)] at hy
          omega
    · rw [if_neg (fun h => hf h.1)] at hx hy
      obtain ⟨rfl, rfl⟩ := h.early (by omega)
      subst hx hy
      exact fair_zero hw ha' hb'
  have hx1 := h.x1; have hy1 := h.y1; have hx0 := h.x0; have hy0 := h.y0
  refine ⟨⟨hw, by omega, hl9, ?_, ?_, ?_, ?_, hp, fun hz => by omega, fun hi => ?_, fun _ => ⟨ha', hb', hfair⟩⟩, fair_bound hc hw ha' hb' hfair⟩
  · rw [hx]; split <;> omega
  · rw [hx]; split <;> omega
  · rw [hy]; split <;> omega
  · rw [hy]; split <;> omega
  · have hf : ¬ fv ≤ i := by omega
    rw [if_neg (fun h => hf h.1)] at hx hy
    obtain ⟨rfl, rfl⟩ := h.early (by omega)
    exact ⟨hx, hy⟩
theorem THead.init {c : CfgM} (a b fv : Nat) : THead c a b fv 0 0 0 0 0 ⟨List.replicate 8 none, [], [], 0⟩ := by
  refine ⟨⟨rfl, by simp, by simp, ?_, rfl⟩, by omega, by omega, by omega, by omega, by omega, by omega, by omega, fun _ => rfl, fun _ => ⟨rfl, rfl⟩, fun h => by omega⟩
  intro k F hF
  have h' : (List.replicate 8 (none : Option FlowM))[k]? = some (some F) := hF
  rw [List.getElem?_replicate] at h'
  split at h'
  · injection h' with h'; cases h'
  · cases h'
end Go.Proofs.YtcegknecikbbkaaGreat

/- Turns: a flow's length, and the size of a segment. -/
set_option linter.unusedVariables false
set_option linter.unusedSimpArgs false
set_option maxRecDepth 4000
namespace Go.Proofs.YtcegknecikbbkaaGreat
open Go.RowKit
theorem Ct.into {P : Program} {f : FuncId} {args : Array Value} {pre : List Res} {post post' : Value → List Res → Prop} (h : Ct P f args pre post)
    (hpost : ∀ v L1, post v L1 → ∃ L2, post' v L2 ∧ ∀ {w0 w : World} {F : List Nat} {L : List Res}, Sep w0 F (L1 ++ L) w → Sep w0 F (L2 ++ L) w) : Ct P f args pre post' :=
  fun w0 F L w hS => (h w0 F L w hS).mono fun e w' hr => by
    cases e with
    | returned v =>
      obtain ⟨L1, hp, hs⟩ := hr
      obtain ⟨L2, hp2, hf⟩ := hpost v L1 hp
      exact ⟨L2, hp2, hf hs⟩
    | panicked c => exact hr.elim
    | outgrown => exact hr.elim
theorem qflowLen_ct (b : Nat) (q : QA) (hok : dOk (absQ q)) (s : Nat) (hs : s < 8) : Ct Tryz.prog 21 #[.pointer (some ⟨b, 0, none⟩), .int .i64 s] [queueG b q]
    (fun v L => ∃ (z cr pl nx si : Int) (ad : Option Addr) (cp : Nat) (bb : Bool), v = .tuple #[.agg (tolV z cr pl nx si ad (segsM (((absQ q).fm[s]?).getD none)).length cp).toArray, .bool bb] ∧ L = [queueG b q]) := by
  have h8 : q.fl.length = 8 := hok.flOk.1
  obtain ⟨x, hx⟩ : ∃ x, q.fl[s]? = some x := ⟨_, List.getElem?_eq_getElem (by omega)⟩
  have hm : (absQ q).fm[s]? = some (x.map FlowA.m) := by
    show (q.fl.map (Option.map FlowA.m))[s]? = _
    rw [List.getElem?_map, hx]; rfl
  rw [hm, Option.getD_some]
  cases x with
  | none =>
    exact (qflowNo_ct b q h8 s hx).mono fun v L ⟨hv, hL⟩ => ⟨0, 0, 0, 0, 0, none, 0, false, hv, hL⟩
  | some f =>
    obtain ⟨fb, ⟨cr, nx, si, l⟩, fa, fc⟩ := f
    have hl := (hok.flo s _ hm).2.2.2.2.2.2.1
    refine (qflowOk_ct b q h8 s fb fc cr nx si l fa hx hok.few hl).into ?_
    rintro v L ⟨ad, cp, rfl, rfl⟩
    exact ⟨_, ⟨_, _, _, _, _, ad, cp, true, rfl, rfl⟩, fun {w0 w F L} hS => hS.drop⟩
theorem size_ex (w0 : World) (a0 : Option Addr) (len0 cap0 : Nat) (z0 : List (List Value)) (s0 : ArgSl w0 [.int .i64] a0 len0 z0) : ∃ sz : Nat → Int, (∀ p, 1 ≤ sz p ∧ sz p ≤ 9000) ∧
    ∀ (p : Nat), p ≤ 100000 → ∀ (x7 : Nat) (w : World) (L : List Res), Sep w0 [] L w → pts x7 [.slice a0 len0 cap0] 33 ∈ L →
      Calls Tryz.prog 20 #[.int .i64 p, .pointer (some ⟨x7, 0, none⟩)] w (CkR (Gives (.int .i64 (sz p)) []) w0 [] L) := by
  have key : ∀ p : Nat, ∃ v : Int, (1 ≤ v ∧ v ≤ 9000) ∧ (p ≤ 100000 → ∀ (x7 : Nat) (w : World) (L : List Res), Sep w0 [] L w → pts x7 [.slice a0 len0 cap0] 33 ∈ L →
      Calls Tryz.prog 20 #[.int .i64 p, .pointer (some ⟨x7, 0, none⟩)] w (CkR (Gives (.int .i64 v) []) w0 [] L)) := by
    intro p
    by_cases h0 : len0 = 0
    · refine ⟨1500, by omega, ?_⟩
      intro hp x7 w L hS hm
      have h0' : ((len0 : Int) == 0) = true := by simp [h0]
      clear s0 h0
      go_enter Tryz.func20, Tryz.ntmps20
      go_wp2_with (first | go_skip | (refine ck_load hS rfl rfl rfl (by (repeat (first | exact mH _ | apply mT)) <;> fail) rfl (by decide +kernel) ?_; simp only [Act.put, spA, spZ, spS]) | (refine ck_load hS rfl rfl rfl hm rfl (by decide +kernel) ?_; simp only [Act.put, spA, spZ, spS]) | (refine ck_region (fun _ => 0) (fun _ => []) [] hS (by kernel_rfl) (by decide +kernel) ?_ ?_; exact ⟨fun _ _ _ h => h.2, fun _ _ h => h⟩; clear hS; intro w hS _; (repeat (first | (apply wpT_pure rfl rfl; (intro _; go_simp; (try (go_ints; (try go_simp))); (first | (rw [decide_eq_true]; omega) | (rw [decide_eq_false]; omega) | rfl | rw [if_pos (by omega)])); simp only [Act.put, spA, spZ, spS]) | (refine ckT_load hS rfl rfl rfl (by simp <;> fail) (by (repeat (first | exact mH _ | apply mT)) <;> fail) rfl (by decide +kernel) ?_; simp only [Act.put, spA, spZ, spS]) )); refine wpT_nil ?_))
      go_ret
      exact ⟨_, ⟨rfl, rfl⟩, hS⟩
    · have hi : p % len0 < len0 := Nat.mod_lt _ (by omega)
      obtain ⟨b, off, cs, T, fz, n, rfl, hb, hh, hc, r⟩ := s0.int1 hi
      obtain ⟨rv, hrv⟩ : ∃ rv, (IntKind.u64.wrap n).tmod 9000 = rv := ⟨_, rfl⟩
      have b1 : 0 ≤ rv ∧ rv < 9000 := by
        have hw : 0 ≤ IntKind.u64.wrap n := by rw [IntKind.wrap_u64]; omega
        rw [Int.tmod_eq_emod_of_nonneg hw] at hrv; omega
      refine ⟨1 + rv, by omega, ?_⟩
      intro hp x7 w L hS hm
      have h0' : ((len0 : Int) == 0) = false := by simp; omega
      obtain ⟨b10, b11⟩ := b1
      have hsm := s0.small
      have hmod : (p : Int).tmod (len0 : Int) = ((p % len0 : Nat) : Int) := by rw [Int.tmod_eq_emod_of_nonneg (by omega)]; omega
      generalize p % len0 = i at *
      clear s0
      go_enter Tryz.func20, Tryz.ntmps20
      go_wp2_with (first | go_skip | (refine ck_load hS rfl rfl rfl (by (repeat (first | exact mH _ | apply mT)) <;> fail) rfl (by decide +kernel) ?_; simp only [Act.put, spA, spZ, spS]) | (refine ck_load hS rfl rfl rfl hm rfl (by decide +kernel) ?_; simp only [Act.put, spA, spZ, spS]) | (refine ck_region (fun _ => 0) (fun _ => []) [] hS (by kernel_rfl) (by decide +kernel) ?_ ?_; exact ⟨fun _ _ _ h => h.2, fun _ _ h => h⟩; clear hS; intro w hS _; (repeat (first | (apply wpT_pure rfl rfl; (intro _; go_simp; (try (go_ints; (try go_simp))); (first | (rw [decide_eq_true]; omega) | (rw [decide_eq_false]; omega) | rfl | rw [if_pos (by omega)])); simp only [Act.put, spA, spZ, spS]) | (refine ckT_load hS rfl rfl rfl (by simp <;> fail) (by (repeat (first | exact mH _ | apply mT)) <;> fail) rfl (by decide +kernel) ?_; simp only [Act.put, spA, spZ, spS]) | (refine ckT_load hS rfl rfl rfl (by simp <;> fail) hm rfl (by decide +kernel) ?_; simp only [Act.put, spA, spZ, spS]) | (refine ckT_loadOld hS rfl rfl rfl (by simp <;> fail) hb hh hc (by decide +kernel) ?_; simp only [Act.put, spA, spZ, spS]))); refine wpT_nil ?_))
      go_ret
      exact ⟨_, ⟨rfl, rfl⟩, hS⟩
  exact ⟨fun p => Classical.choose (key p), fun p => (Classical.choose_spec (key p)).1, fun p => (Classical.choose_spec (key p)).2⟩
end Go.Proofs.YtcegknecikbbkaaGreat

/- What was sent: a board. -/
set_option linter.unusedVariables false
set_option linter.unusedSimpArgs false
set_option maxRecDepth 4000
namespace Go.Proofs.YtcegknecikbbkaaGreat
open Go.RowKit
section
variable {P : Program} {w w0 : World} {F : List Nat} {L L0 : List Res} {e : TypeId} {sz n cap g : Nat} {xs vs : List Value}
theorem Sep.celR {p k : Nat} (hS : Sep w0 F L w) (hm : rowR (some ⟨g, 0, none⟩) n cap e sz xs ∈ L) (hp : p = k) (hv : ∀ (j : Nat) (v : Value), vs[j]? = some v → xs[k + j]? = some v) : Cel w g p vs := by
  obtain ⟨_, _, h2, h3, h4, rest, h7, h8⟩ := hS.holds _ hm
  subst hp
  refine ⟨_, _, _, h8, fun j v hj => ?_⟩
  have h9 := hv j v hj
  rw [List.getElem?_toArray, List.getElem?_append_left (List.getElem?_eq_some_iff.1 h9).1]
  exact h9
end
section
variable {ro : Option Nat} {n : Nat} {P : Program} {ops : Array Oper} {Q : Exit → Act → World → Prop} {rest : List Oper} {w w0 : World} {F : List Nat} {L L' L0 : List Res} {o : Oper} {a : Act} {v : Value}
/-- A call of a function of the program, in the body of a range over a function. -/
theorem ckI_enter {f : FuncId} {as' : Array Operand} {ats : Array TypeId} {args : Array Value} (ho : o.op = .call { callee := .value (.func f), args := as', argTypes := ats }) (hw : Region.wanted o (yielded ops a.tmps) = true) (hen : ckEnter P f = true)
    (ha : as'.toList.map a.eval = args.toList) (h : Calls P f args w (fun e w' => ∃ v, e = .returned v ∧ wpListIn (wR ro) n P ops Q rest (a.put o.dst v) w')) : wpListIn (wR ro) n P ops Q (o :: rest) a w := by
  unfold wpListIn
  rw [if_pos hw]
  refine ⟨fun _ _ => trivial, ?_⟩
  rw [Oper.semAt_eq _ _ _ (by intro c; rw [ho]; simp)]
  have e : execOp a.eval o = callFunc f args := by
    have : as'.map a.eval = args := by rw [← Array.toList_inj, Array.toList_map]; exact ha
    rw [← this]
    have ef : a.eval (.func f) = .func (.func f) #[] #[] := rfl
    unfold execOp
    simp [ho, resolve, Deferred.ofValue, invoke, ef]
  rw [e, run_enter hen]
  refine ⟨fun h => absurd h (by simp [Fence.wide]), ?_⟩
  refine (callsIn_wide.2 h).mono ?_
  rintro e w' ⟨v, rfl, h⟩
  exact h
theorem ckI_call0 {f : FuncId} {as' : Array Operand} {ats : Array TypeId} {args : Array Value} (hS : Sep w0 F L w) (ho : o.op = .call { callee := .value (.func f), args := as', argTypes := ats }) (hC : Ct P f args [] (Gives v [])) (hw : Region.wanted o (yielded ops a.tmps) = true) (hen : ckEnter P f = true)
    (ha : as'.toList.map a.eval = args.toList) (h : ∀ w', Sep w0 F L w' → wpListIn (wR ro) n P ops Q rest (a.put o.dst v) w') : wpListIn (wR ro) n P ops Q (o :: rest) a w :=
  ckI_enter ho hw hen ha (hC.call0 hS fun w' hS' => ⟨_, rfl, h w' hS'⟩)
end
structure SentM where
  (at' del delAt firstAt : Int) (lim : Bool)
abbrev sntV (s : SentM) : List Value := [.int .u64 s.at', .int .u64 s.del, .int .u64 s.delAt, .int .u64 s.firstAt, .bool s.lim]
structure PieceM where
  (frm to : Int) (sent : SentM) (sacked lost : Bool)
abbrev pcV (p : PieceM) : List Value := [.int .u64 p.frm, .int .u64 p.to, .int .u64 p.sent.at', .int .u64 p.sent.del, .int .u64 p.sent.delAt, .int .u64 p.sent.firstAt, .bool p.sent.lim, .bool p.sacked, .bool p.lost]
def pcs (l : List PieceM) : List Value := l.flatMap pcV
theorem pcs_len (l : List PieceM) : (pcs l).length = l.length * 9 := by
  induction l with
  | nil => rfl
  | cons x r ih => unfold pcs at *; rw [List.flatMap_cons, List.length_append, ih]; simp; omega
theorem pcs_snoc (x : PieceM) (l : List PieceM) : pcs (l ++ [x]) = pcs l ++ pcV x := by unfold pcs; rw [List.flatMap_append]; simp
theorem pcs_get {l : List PieceM} {k : Nat} {x : PieceM} (h : l[k]? = some x) : ∀ (j : Nat) (v : Value), (pcV x)[j]? = some v → (pcs l)[k * 9 + j]? = some v := by
  induction l generalizing k with
  | nil => simp at h
  | cons y r ih =>
    intro j v hj
    have e : pcs (y :: r) = pcV y ++ pcs r := rfl
    rw [e]
    cases k with
    | zero =>
      simp at h
      subst h
      rw [Nat.zero_mul, Nat.zero_add, List.getElem?_append_left (List.getElem?_eq_some_iff.1 hj).1]; exact hj
    | succ k =>
      simp at h
      have := ih h j v hj
      rw [List.getElem?_append_right (by simp; omega)]
      rw [show (k + 1) * 9 + j - (pcV y).length = k * 9 + j by simp; omega]; exact this
structure BrdA where
  (a : Option Addr) (cp : Nat)
abbrev brdP (b : Nat) (a : Option Addr) (n cp : Nat) (e : Int) : Res := pts b [.slice a n cp, .int .u64 e] 239
def brdG (b : Nat) (l : List PieceM) (e : Int) (A : BrdA) : Res := grpR [brdP b A.a l.length A.cp e, rowR A.a l.length A.cp 263 9 (pcs l)]
theorem brdOpen {b n : Nat} {l : List PieceM} {e : Int} {a : Option Addr} {cp : Nat} {w0 w : World} {F : List Nat} {L : List Res} (hn : l.length = n) : Sep w0 F (brdG b l e ⟨a, cp⟩ :: L) w ↔ Sep w0 F (brdP b a n cp e :: rowR a n cp 263 9 (pcs l) :: L) w := by
  subst hn; exact (Sep.grp (l := [brdP b a l.length cp e, rowR a l.length cp 263 9 (pcs l)])).symm
theorem brdNew_ct : Ct Tryz.prog 95 #[] [] (fun v L => ∃ b A, v = .pointer (some ⟨b, 0, none⟩) ∧ L = [brdG b [] 0 A]) := by
  intro w0 F L w hS
  simp only [List.cons_append, List.nil_append] at hS
  go_enter Tryz.func95, Tryz.ntmps95
  go_wp2_with (first | go_skip | (refine ck_box hS rfl rfl (by constructor) ?_; clear hS; intro nb w hS; simp only [Act.put, spA, spZ, spS]) )
  go_ret
  refine ⟨_, ⟨nb, ⟨none, 0⟩, rfl, rfl⟩, (brdOpen rfl).2 ?_⟩
  exact (hS.nilRow (e := 263) (sz := 9)).perm (.swap _ _ _)
theorem brdLen_ct (b : Nat) (l : List PieceM) (e : Int) (A : BrdA) : Ct Tryz.prog 201 #[.pointer (some ⟨b, 0, none⟩)] [brdG b l e A] (Gives (.int .i64 l.length) [brdG b l e A]) := by
  obtain ⟨a, cp⟩ := A
  obtain ⟨n, hn⟩ : ∃ n, l.length = n := ⟨_, rfl⟩
  rw [hn]
  intro w0 F L w hS
  have hS := (brdOpen hn).1 hS
  go_enter Tryz.func201, Tryz.ntmps201
  go_wp2_with (first | go_skip | (refine ck_load hS rfl rfl rfl (by (repeat (first | exact mH _ | apply mT)) <;> fail) rfl (by decide +kernel) ?_; simp only [Act.put, spA, spZ, spS]) )
  go_ret
  exact ⟨_, ⟨rfl, rfl⟩, (brdOpen hn).2 hS⟩
def flyB (p : PieceM) : Bool := !p.sacked && !p.lost
theorem flying_ct (p : PieceM) : Ct Tryz.prog 195 #[.agg (pcV p).toArray] [] (Gives (.bool (flyB p)) []) := by
  obtain ⟨frm, to, ⟨x1, x2, x3, x4, x5⟩, sacked, lost⟩ := p
  cases sacked <;> cases lost
  all_goals
    intro w0 F L w hS
    simp only [List.cons_append, List.nil_append] at hS
    go_enter Tryz.func195, Tryz.ntmps195
    go_wp2_with (first | go_skip | (refine ck_load hS rfl rfl rfl (by (repeat (first | exact mH _ | apply mT)) <;> fail) rfl (by decide +kernel) ?_; simp only [Act.put, spA, spZ, spS]) | (refine ck_box hS rfl rfl (by constructor) ?_; clear hS; intro nb w hS; simp only [Act.put, spA, spZ, spS]) )
    go_ret
    exact ⟨_, ⟨rfl, rfl⟩, hS.drop⟩
theorem brdAll_ct (b : Option Addr) : Ct Tryz.prog 251 #[.pointer b] [] (fun v L => ∃ bx, v = .func (.func 284) #[] #[.pointer (some ⟨bx, 0, none⟩)] ∧ L = [pts bx [.pointer b] 185]) := by
  intro w0 F L w hS
  simp only [List.cons_append, List.nil_append] at hS
  go_enter Tryz.func251, Tryz.ntmps251
  go_wp2_with (first | go_skip | (refine ck_box hS rfl rfl (by constructor) ?_; clear hS; intro nb w hS; simp only [Act.put, spA, spZ, spS]) )
  go_ret
  exact ⟨_, ⟨_, rfl, rfl⟩, hS⟩
abbrev encB (p : PieceM) : Array Value := #[.agg (pcV p).toArray]
set_option maxHeartbeats 4000000 in
theorem brdIter (bx b : Nat) (ps : List PieceM) (e : Int) (A : BrdA) (hsm : ps.length ≤ 4096) : IterCt Tryz.prog 284 #[.pointer (some ⟨bx, 0, none⟩)] encB ps [pts bx [.pointer (some ⟨b, 0, none⟩)] 185, brdG b ps e A] := by
  obtain ⟨ad, cp⟩ := A
  intro σ y S go _ hY C w0 F L w hS0
  obtain ⟨n, hn⟩ : ∃ n, ps.length = n := ⟨_, rfl⟩
  have hS := ((hS0.bring (r := brdG b ps e ⟨ad, cp⟩) (by apply Rem.there; apply Rem.there; exact Rem.here _ _)))
  have hS := (brdOpen hn).1 hS
  clear hS0
  show Calls _ _ #[y, .pointer (some ⟨bx, 0, none⟩)] _ _
  have fin : ∀ {w : World} {r : Res}, Sep w0 F (r :: brdP b ad n cp e :: rowR ad n cp 263 9 (pcs ps) :: pts bx [.pointer (some ⟨b, 0, none⟩)] 185 :: L) w → Sep w0 F ((r :: [pts bx [.pointer (some ⟨b, 0, none⟩)] 185, brdG b ps e ⟨ad, cp⟩]) ++ L) w := fun {w r} h => by
    have j1 := (h.bring (r := rowR ad n cp 263 9 (pcs ps)) (by (repeat (first | exact rH _ _ | apply rT)) <;> fail)).bring (r := brdP b ad n cp e) (by (repeat (first | exact rH _ _ | apply rT)) <;> fail)
    have j2 := (brdOpen hn).2 j1
    exact (j2.bring (r := pts bx [.pointer (some ⟨b, 0, none⟩)] 185) (by (repeat (first | exact rH _ _ | apply rT)) <;> fail)).bring (r := r) (by (repeat (first | exact rH _ _ | apply rT)) <;> fail)
  rw [hn] at hsm
  go_enter Tryz.func284, Tryz.ntmps284
  go_wp2_with (first | go_skip | (refine ck_load hS rfl rfl rfl (by (repeat (first | exact mH _ | apply mT)) <;> fail) rfl (by decide +kernel) ?_; simp only [Act.put, spA, spZ, spS]) | (refine ck_store hS rfl rfl rfl (by constructor) (by (repeat (first | exact uH _ _ _ | apply uT)) <;> fail) (by simp <;> omega) rfl (by decide +kernel) ?_; clear hS; intro w hS; simp only [Act.put, spA, spZ, spS] at hS ⊢) )
  go_loopg [12] (n + 1) (fun g s wx => ∃ (k : Nat) (C : σ), k + g = n + 1 ∧ k ≤ n ∧ s = .int .i64 k ∧ okP go (ps.take k) = true ∧ runP go [] ps = runP go (ps.take k) (ps.drop k) ∧
    Sep w0 F (S C (ps.take k) :: brdP b ad n cp e :: rowR ad n cp 263 9 (pcs ps) :: pts bx [.pointer (some ⟨b, 0, none⟩)] 185 :: L) wx)
  case atStart => exact ⟨0, C, by omega, by omega, rfl, rfl, rfl, hS.bring (by (repeat (first | exact rH _ _ | apply rT)) <;> fail)⟩
  case round =>
    obtain ⟨k, C, hkg, hkn, rfl, hok, hrun, hS⟩ := hrel
    generalize wr = w at hS ⊢
    by_cases hk : k < n
    · obtain ⟨x, hx⟩ : ∃ x, ps[k]? = some x := ⟨ps[k], List.getElem?_eq_getElem (by omega)⟩
      have hc := pcs_get hx
      have hd : ps.drop k = x :: ps.drop (k + 1) := by
        rw [List.drop_eq_getElem_cons (by omega)]
        rw [List.getElem?_eq_getElem (by omega)] at hx
        injection hx with hx
        rw [hx]
      have ht : ps.take (k + 1) = ps.take k ++ [x] := by rw [List.take_add_one, hx]; rfl
      have kY := hY (ps.take k) x (ps.drop (k + 1)) (by rw [← hd, List.take_append_drop]) hok C
      rw [← ht] at kY
      rw [hd] at hrun
      obtain ⟨g1, rfl⟩ := hS.rowSome (a := ad) (n := n) (cap := cp) (e := 263) (sz := 9) (xs := pcs ps) (by (repeat (first | exact mH _ | apply mT)) <;> fail) (by omega)
      cases hg : go (ps.take (k + 1))
      · have hrun' : runP go [] ps = ps.take (k + 1) := by rw [hrun, runP, ← ht, if_neg (by rw [hg]; simp)]
        rw [hg] at kY
        clear hrun hok hY hg hd ht hn
        (repeat (first | (refine ckI_region ?_; (repeat (first | (refine ckI_skip rfl ?_; simp only [Act.put, spA, spZ, spS]) | (apply ckI_pure rfl rfl; (intro _; go_simp; (try (go_ints; (try go_simp))); (first | (rw [decide_eq_true]; omega) | (rw [decide_eq_false]; omega) | rfl | rw [if_pos (by omega)])); simp only [Act.put, spA, spZ, spS]) | (refine ckI_load hS rfl rfl rfl (by (repeat (first | exact mH _ | apply mT)) <;> fail) rfl (by decide +kernel) ?_; simp only [Act.put, spA, spZ, spS]) | (refine ckI_loadAll hS rfl rfl rfl (by (repeat (first | exact mH _ | apply mT)) <;> fail) rfl (by (try simp only [List.length_cons, List.length_nil, Nat.zero_add, Nat.reduceAdd]); decide +kernel) ?_; simp only [Act.put, spA, spZ, spS]) | (refine ckI_yieldS hS rfl (kY) (by (repeat (first | exact rH _ _ | apply rT)) <;> fail) rfl rfl rfl ?_; clear hS; intro A w hS; simp only [Act.put, spA, spZ, spS]))); refine wpListIn_nil ?_) | go_skip | (refine ck_celN (vs := pcV x) (hS.celR (k := k * 9) (by (repeat (first | exact mH _ | apply mT)) <;> fail) (by omega) hc) rfl rfl rfl (by (try simp only [List.length_cons, List.length_nil, Nat.zero_add, Nat.reduceAdd]); decide +kernel) ?_; simp only [Act.put, spA, spZ, spS]) | (refine ck_alloc (t := 263) (v := .agg (List.toArray [.int .u64 0, .int .u64 0, .int .u64 0, .int .u64 0, .int .u64 0, .int .u64 0, .bool false, .bool false, .bool false])) (cs := [.int .u64 0, .int .u64 0, .int .u64 0, .int .u64 0, .int .u64 0, .int .u64 0, .bool false, .bool false, .bool false]) hS rfl rfl (by kernel_rfl) rfl ?_; clear hS; intro nb w hS; simp only [Act.put, spA, spZ, spS]) | (refine ck_storeAll hS rfl rfl rfl rfl (by (repeat (first | exact uH _ _ _ | apply uT)) <;> fail) (by rfl) rfl (by (try simp only [List.length_cons, List.length_nil, Nat.zero_add, Nat.reduceAdd]); decide +kernel) ?_; clear hS; intro w hS; simp only [Act.put, spA, spZ, spS]) | (refine ck_load hS rfl rfl rfl (by (repeat (first | exact mH _ | apply mT)) <;> fail) rfl (by decide +kernel) ?_; simp only [Act.put, spA, spZ, spS]) | go_values | go_skip | go_guarded | go_step | go_upon | go_back | (simp only [Int.not_lt, Int.not_le] at *; go_simp)))
        refine bodyPost_ret (results_none rfl _ _ _) rfl ?_
        have j1 := (hS.bring (r := pts nb (pcV x) 263) (by (repeat (first | exact rH _ _ | apply rT)) <;> fail)).drop
        exact ⟨_, ⟨rfl, A, by rw [hrun']⟩, fin j1⟩
      · have hrun' : runP go [] ps = runP go (ps.take (k + 1)) (ps.drop (k + 1)) := by rw [hrun, runP, ← ht, if_pos hg]
        have hok' : okP go (ps.take (k + 1)) = true := by unfold okP; rw [hg]; simp
        rw [hg] at kY
        clear hrun hok hY hg hd ht hn
        (repeat (first | (refine ckI_region ?_; (repeat (first | (refine ckI_skip rfl ?_; simp only [Act.put, spA, spZ, spS]) | (apply ckI_pure rfl rfl; (intro _; go_simp; (try (go_ints; (try go_simp))); (first | (rw [decide_eq_true]; omega) | (rw [decide_eq_false]; omega) | rfl | rw [if_pos (by omega)])); simp only [Act.put, spA, spZ, spS]) | (refine ckI_load hS rfl rfl rfl (by (repeat (first | exact mH _ | apply mT)) <;> fail) rfl (by decide +kernel) ?_; simp only [Act.put, spA, spZ, spS]) | (refine ckI_loadAll hS rfl rfl rfl (by (repeat (first | exact mH _ | apply mT)) <;> fail) rfl (by (try simp only [List.length_cons, List.length_nil, Nat.zero_add, Nat.reduceAdd]); decide +kernel) ?_; simp only [Act.put, spA, spZ, spS]) | (refine ckI_yieldS hS rfl (kY) (by (repeat (first | exact rH _ _ | apply rT)) <;> fail) rfl rfl rfl ?_; clear hS; intro A w hS; simp only [Act.put, spA, spZ, spS]))); refine wpListIn_nil ?_) | go_skip | (refine ck_celN (vs := pcV x) (hS.celR (k := k * 9) (by (repeat (first | exact mH _ | apply mT)) <;> fail) (by omega) hc) rfl rfl rfl (by (try simp only [List.length_cons, List.length_nil, Nat.zero_add, Nat.reduceAdd]); decide +kernel) ?_; simp only [Act.put, spA, spZ, spS]) | (refine ck_alloc (t := 263) (v := .agg (List.toArray [.int .u64 0, .int .u64 0, .int .u64 0, .int .u64 0, .int .u64 0, .int .u64 0, .bool false, .bool false, .bool false])) (cs := [.int .u64 0, .int .u64 0, .int .u64 0, .int .u64 0, .int .u64 0, .int .u64 0, .bool false, .bool false, .bool false]) hS rfl rfl (by kernel_rfl) rfl ?_; clear hS; intro nb w hS; simp only [Act.put, spA, spZ, spS]) | (refine ck_storeAll hS rfl rfl rfl rfl (by (repeat (first | exact uH _ _ _ | apply uT)) <;> fail) (by rfl) rfl (by (try simp only [List.length_cons, List.length_nil, Nat.zero_add, Nat.reduceAdd]); decide +kernel) ?_; clear hS; intro w hS; simp only [Act.put, spA, spZ, spS]) | (refine ck_load hS rfl rfl rfl (by (repeat (first | exact mH _ | apply mT)) <;> fail) rfl (by decide +kernel) ?_; simp only [Act.put, spA, spZ, spS]) | go_values | go_skip | go_guarded | go_step | go_upon | go_back | (simp only [Int.not_lt, Int.not_le] at *; go_simp)))
        have j1 := (hS.bring (r := pts nb (pcV x) 263) (by (repeat (first | exact rH _ _ | apply rT)) <;> fail)).drop
        clear hS
        have hS := j1
        clear j1
        go_roundg (n - k)
        case rel => exact ⟨k + 1, A, by omega, by omega, by go_num, hok', hrun', hS⟩
        case measure => omega
    · have hkn' : k = n := by omega
      subst hkn'
      have e1 : ps.take k = ps := List.take_of_length_le (by omega)
      have e2 : ps.drop k = [] := List.drop_of_length_le (by omega)
      rw [e1, e2] at hrun
      rw [e1] at hS
      have hrun' : runP go [] ps = ps := by rw [hrun]; rfl
      clear hrun hY hn
      go_wp2_with (first | go_skip | (refine ck_load hS rfl rfl rfl (by (repeat (first | exact mH _ | apply mT)) <;> fail) rfl (by decide +kernel) ?_; simp only [Act.put, spA, spZ, spS]) | (refine ck_store hS rfl rfl rfl (by constructor) (by (repeat (first | exact uH _ _ _ | apply uT)) <;> fail) (by simp <;> omega) rfl (by decide +kernel) ?_; clear hS; intro w hS; simp only [Act.put, spA, spZ, spS] at hS ⊢) )
      refine bodyPost_end (results_none rfl _ _ _) rfl ?_
      exact ⟨_, ⟨rfl, C, by rw [hrun']⟩, fin hS⟩
def flP1 (p : PieceM) : Int := if flyB p then p.to - p.frm else 0
def flightZ (l : List PieceM) : Int := (l.map flP1).sum
def pieceOk (p : PieceM) : Prop := 0 ≤ p.frm ∧ p.frm ≤ p.to ∧ p.to ≤ 4611686018427387904
theorem flightZ_snoc (l : List PieceM) (x : PieceM) : flightZ (l ++ [x]) = flightZ l + flP1 x := by unfold flightZ; simp
theorem flightZ_app (l r : List PieceM) : flightZ (l ++ r) = flightZ l + flightZ r := by unfold flightZ; simp
theorem flP1_nn {x : PieceM} (h : pieceOk x) : 0 ≤ flP1 x := by obtain ⟨h1, h2, h3⟩ := h; unfold flP1; split <;> omega
theorem flightZ_nn {l : List PieceM} (h : ∀ p ∈ l, pieceOk p) : 0 ≤ flightZ l := by
  induction l with
  | nil => exact Int.le_refl _
  | cons x r ih =>
    have h1 := ih (fun p hp => h p (List.mem_cons_of_mem _ hp))
    have h2 := flP1_nn (h x (List.mem_cons_self))
    unfold flightZ at *
    simp only [List.map_cons, List.sum_cons]; omega
set_option maxHeartbeats 4000000 in
theorem brdFlight_ct (b : Nat) (ps : List PieceM) (e : Int) (A : BrdA) (hsm : ps.length ≤ 4096) (hok : ∀ p ∈ ps, pieceOk p) (hfl : flightZ ps ≤ 4611686018427387904) :
    Ct Tryz.prog 202 #[.pointer (some ⟨b, 0, none⟩)] [brdG b ps e A] (Gives (.int .u64 (flightZ ps)) [brdG b ps e A]) := by
  have hI := fun bx => brdIter bx b ps e A hsm
  have kF := flying_ct
  intro w0 F L w hS
  simp only [List.cons_append, List.nil_append] at hS
  refine calls_of_wpM Tryz.func202 rfl ?_
  simp only [Tryz.ntmps202, List.size_toArray, List.length_cons, List.length_nil, Nat.reduceAdd, Nat.reduceSub, Array.replicate_succ, Array.replicate_zero, List.push_toArray, List.append_toArray, List.nil_append, List.cons_append]
  go_wp2_with (first | go_skip  | (refine ck_load hS rfl rfl rfl (by (repeat (first | exact mH _ | apply mT)) <;> fail) rfl (by decide +kernel) ?_; simp only [Act.put, spA, spZ, spS]) | (refine ck_store hS rfl rfl rfl (by constructor) (by (repeat (first | exact uH _ _ _ | apply uT)) <;> fail) (by simp <;> omega) rfl (by decide +kernel) ?_; clear hS; intro w hS; simp only [Act.put, spA, spZ, spS] at hS ⊢) | (refine ck_alloc (t := 22) (v := .int .u64 0) (cs := [.int .u64 0]) hS rfl rfl (by kernel_rfl) rfl ?_; clear hS; intro x3 w hS; simp only [Act.put, spA, spZ, spS]) | (go_at_call 251; with_reducible refine Ct.callN (brdAll_ct _) hS ?_; clear hS; rintro _ _ w ⟨bx, rfl, rfl⟩ hS; simp only [List.cons_append, List.nil_append] at hS))
  have hS1 : Sep w0 F (pts x3 [.int .u64 (flightZ [])] 22 :: ([pts bx [.pointer (some ⟨b, 0, none⟩)] 185, brdG b ps e A] ++ L)) w := by
    have k1 := hS.bring (r := brdG b ps e A) (by (repeat (first | exact rH _ _ | apply rT)) <;> fail)
    have k2 := k1.bring (r := pts bx [.pointer (some ⟨b, 0, none⟩)] 185) (by (repeat (first | exact rH _ _ | apply rT)) <;> fail)
    exact k2.bring (r := pts x3 [.int .u64 0] 22) (by (repeat (first | exact rH _ _ | apply rT)) <;> fail)
  clear hS
  refine ck_rangeFunc (B := fun (_ : Unit) (p : List PieceM) => pts x3 [.int .u64 (flightZ p)] 22) (go := fun _ => true) (A0 := ()) hS1 (hI bx) rfl (fun _ => run_enter (P := Tryz.prog) (f := 284) (by kernel_rfl)) (fun _ => rfl) ?round ?fin
  case round =>
    intro l pre x suf hx _ _ w0 F L w hS
    have hb : 0 ≤ flightZ pre ∧ 0 ≤ flP1 x ∧ flightZ pre + flP1 x ≤ 4611686018427387904 := by
      have h1 := flightZ_nn (l := pre) (fun p hp => hok p (by rw [hx]; simp [hp]))
      have h2 := flightZ_nn (l := suf) (fun p hp => hok p (by rw [hx]; simp [hp]))
      have h3 := flP1_nn (hok x (by rw [hx]; simp))
      have h4 : flightZ ps = flightZ pre + (flP1 x + flightZ suf) := by rw [hx, flightZ_app, show x :: suf = [x] ++ suf from rfl, flightZ_app]; simp [flightZ]
      omega
    have hpo := hok x (by rw [hx]; simp)
    obtain ⟨p1, p2, p3⟩ := hpo
    rw [flightZ_snoc]
    have kx := kF x
    generalize flightZ pre = fz at *
    clear hx hI hS1 kF
    unfold flP1 at hb ⊢
    cases hf : flyB x
    all_goals
      rw [hf] at kx hb
      simp only [if_true, if_false, Bool.false_eq_true, Int.add_zero] at hb ⊢
      simp
      gi_wp2_with (first | (refine ckI_skip rfl ?_; simp only [Act.put, spA, spZ, spS]) | (refine ckI_alloc (t := 263) (v := .agg (List.toArray [.int .u64 0, .int .u64 0, .int .u64 0, .int .u64 0, .int .u64 0, .int .u64 0, .bool false, .bool false, .bool false])) (cs := [.int .u64 0, .int .u64 0, .int .u64 0, .int .u64 0, .int .u64 0, .int .u64 0, .bool false, .bool false, .bool false]) hS rfl rfl (by kernel_rfl) rfl ?_; clear hS; intro x4 w hS; simp only [Act.put, spA, spZ, spS]) | (refine ckI_storeAll hS rfl rfl rfl rfl (by (repeat (first | exact uH _ _ _ | apply uT)) <;> fail) (by rfl) rfl (by (try simp only [List.length_cons, List.length_nil, Nat.zero_add, Nat.reduceAdd]); decide +kernel) ?_; clear hS; intro w hS; simp only [Act.put, spA, spZ, spS]) | (refine ckI_load hS rfl rfl rfl (by (repeat (first | exact mH _ | apply mT)) <;> fail) rfl (by decide +kernel) ?_; simp only [Act.put, spA, spZ, spS]) | (refine ckI_store hS rfl rfl rfl (by constructor) (by (repeat (first | exact uH _ _ _ | apply uT)) <;> fail) (by simp <;> omega) rfl (by decide +kernel) ?_; clear hS; intro w hS; simp only [Act.put, spA, spZ, spS]) | (apply ckI_pure rfl rfl; (intro _; go_simp; (try (go_ints; (try go_simp))); (first | (rw [decide_eq_true]; omega) | (rw [decide_eq_false]; omega) | rfl | rw [if_pos (by omega)])); simp only [Act.put, spA, spZ, spS]))
      refine ⟨[pts x4 (pcV x) 263], hS, ?_⟩
      clear hS
      intro L w hS
      simp only [List.cons_append, List.nil_append] at hS
      (repeat (first | (refine ckI_loadAll hS rfl rfl rfl (by (repeat (first | exact mH _ | apply mT)) <;> fail) rfl (by (try simp only [List.length_cons, List.length_nil, Nat.zero_add, Nat.reduceAdd]); decide +kernel) ?_; simp only [Act.put, spA, spZ, spS]) | (refine ckI_load hS rfl rfl rfl (by (repeat (first | exact mH _ | apply mT)) <;> fail) rfl (by decide +kernel) ?_; simp only [Act.put, spA, spZ, spS]) | (refine ckI_store hS rfl rfl rfl (by constructor) (by (repeat (first | exact uH _ _ _ | apply uT)) <;> fail) (by simp <;> omega) rfl (by decide +kernel) ?_; clear hS; intro w hS; simp only [Act.put, spA, spZ, spS]) | (refine ckI_call0 hS rfl kx rfl (by kernel_rfl) rfl ?_; clear hS; intro w hS; simp only [Act.put, spA, spZ, spS]) | (refine ckI_skip rfl ?_; simp only [Act.put, spA, spZ, spS]) | (apply ckI_pure rfl rfl; (intro _; go_simp; (try (go_ints; (try go_simp))); (first | (rw [decide_eq_true]; omega) | (rw [decide_eq_false]; omega) | rfl | rw [if_pos (by omega)])); simp only [Act.put, spA, spZ, spS]) | go_values | gi_guarded | gi_step | gi_upon))
      exact ⟨rfl, hS.drop⟩
  case fin =>
    intro D _ w hS
    have e1 : runP (fun _ : List PieceM => true) [] ps = ps := runP_all _ _ (fun _ => rfl)
    rw [e1]
    rw [e1] at hS
    have e2 : okP (fun _ : List PieceM => true) ps = true := by unfold okP; simp
    rw [e2, if_pos rfl]
    simp only [List.cons_append, List.nil_append] at hS
    clear e1 e2 hI hS1 kF
    generalize flightZ ps = fz at *
    go_wp2_with (first | go_skip | (refine ck_load hS rfl rfl rfl (by (repeat (first | exact mH _ | apply mT)) <;> fail) rfl (by decide +kernel) ?_; simp only [Act.put, spA, spZ, spS]) | (refine ck_store hS rfl rfl rfl (by constructor) (by (repeat (first | exact uH _ _ _ | apply uT)) <;> fail) (by simp <;> omega) rfl (by decide +kernel) ?_; clear hS; intro w hS; simp only [Act.put, spA, spZ, spS] at hS ⊢) )
    exact ckM_end (.inr rfl) hS rfl (fun w hS => ⟨results_tmp rfl _ _ _, _, ⟨rfl, rfl⟩, hS.dropN 2⟩)
/-! ### Where none is lost -/
set_option maxHeartbeats 4000000 in
theorem brdLostNo_ct (b : Nat) (ps : List PieceM) (e : Int) (A : BrdA) (hsm : ps.length ≤ 4096) (hno : ∀ p ∈ ps, p.lost = false) :
    Ct Tryz.prog 203 #[.pointer (some ⟨b, 0, none⟩)] [brdG b ps e A] (Gives (.int .i64 (-1)) [brdG b ps e A]) := by
  have hI := fun bx => brdIter bx b ps e A hsm
  intro w0 F L w hS
  simp only [List.cons_append, List.nil_append] at hS
  refine calls_of_wpM Tryz.func203 rfl ?_
  simp only [Tryz.ntmps203, List.size_toArray, List.length_cons, List.length_nil, Nat.reduceAdd, Nat.reduceSub, Array.replicate_succ, Array.replicate_zero, List.push_toArray, List.append_toArray, List.nil_append, List.cons_append]
  go_wp2_with (first | go_skip  | (refine ck_load hS rfl rfl rfl (by (repeat (first | exact mH _ | apply mT)) <;> fail) rfl (by decide +kernel) ?_; simp only [Act.put, spA, spZ, spS]) | (refine ck_store hS rfl rfl rfl (by constructor) (by (repeat (first | exact uH _ _ _ | apply uT)) <;> fail) (by simp <;> omega) rfl (by decide +kernel) ?_; clear hS; intro w hS; simp only [Act.put, spA, spZ, spS] at hS ⊢) | (have h1 := x2; clear h1; (refine ck_alloc (t := 3) (v := .int .i64 0) (cs := [.int .i64 0]) hS rfl rfl (by kernel_rfl) rfl ?_; clear hS; intro x3 w hS; simp only [Act.put, spA, spZ, spS])) | (refine ck_alloc (t := 3) (v := .int .i64 0) (cs := [.int .i64 0]) hS rfl rfl (by kernel_rfl) rfl ?_; clear hS; intro x2 w hS; simp only [Act.put, spA, spZ, spS]) | (go_at_call 251; with_reducible refine Ct.callN (brdAll_ct _) hS ?_; clear hS; rintro _ _ w ⟨bx, rfl, rfl⟩ hS; simp only [List.cons_append, List.nil_append] at hS))
  have hS1 : Sep w0 F (pts x3 [.int .i64 (([] : List PieceM).length : Nat)] 3 :: ([pts bx [.pointer (some ⟨b, 0, none⟩)] 185, brdG b ps e A] ++ (pts x2 [.int .i64 0] 3 :: L))) w := by
    have k0 := hS.bring (r := pts x2 [.int .i64 0] 3) (by (repeat (first | exact rH _ _ | apply rT)) <;> fail)
    have k1 := k0.bring (r := brdG b ps e A) (by (repeat (first | exact rH _ _ | apply rT)) <;> fail)
    have k2 := k1.bring (r := pts bx [.pointer (some ⟨b, 0, none⟩)] 185) (by (repeat (first | exact rH _ _ | apply rT)) <;> fail)
    exact k2.bring (r := pts x3 [.int .i64 0] 3) (by (repeat (first | exact rH _ _ | apply rT)) <;> fail)
  clear hS
  refine ck_rangeFunc (B := fun (_ : Unit) (p : List PieceM) => pts x3 [.int .i64 (p.length : Nat)] 3) (go := fun _ => true) (A0 := ()) hS1 (hI bx) rfl (fun _ => run_enter (P := Tryz.prog) (f := 284) (by kernel_rfl)) (fun _ => rfl) ?round ?fin
  case round =>
    intro l pre x suf hx _ _ w0 F L w hS
    have hx0 := hno x (by rw [hx]; simp)
    have hpl : pre.length ≤ 4096 := by rw [hx] at hsm; simp at hsm; omega
    obtain ⟨frm, to, ⟨x1, x2, x3, x4, x5⟩, sacked, lost⟩ := x
    obtain rfl : lost = false := hx0
    rw [List.length_append, List.length_singleton]
    generalize pre.length = fz at *
    clear hx hI hS1
    simp
    gi_wp2_with (first | (refine ckI_skip rfl ?_; simp only [Act.put, spA, spZ, spS]) | (refine ckI_alloc (t := 263) (v := .agg (List.toArray [.int .u64 0, .int .u64 0, .int .u64 0, .int .u64 0, .int .u64 0, .int .u64 0, .bool false, .bool false, .bool false])) (cs := [.int .u64 0, .int .u64 0, .int .u64 0, .int .u64 0, .int .u64 0, .int .u64 0, .bool false, .bool false, .bool false]) hS rfl rfl (by kernel_rfl) rfl ?_; clear hS; intro x4 w hS; simp only [Act.put, spA, spZ, spS]) | (refine ckI_storeAll hS rfl rfl rfl rfl (by (repeat (first | exact uH _ _ _ | apply uT)) <;> fail) (by rfl) rfl (by (try simp only [List.length_cons, List.length_nil, Nat.zero_add, Nat.reduceAdd]); decide +kernel) ?_; clear hS; intro w hS; simp only [Act.put, spA, spZ, spS]) | (refine ckI_load hS rfl rfl rfl (by (repeat (first | exact mH _ | apply mT)) <;> fail) rfl (by decide +kernel) ?_; simp only [Act.put, spA, spZ, spS]) | (refine ckI_store hS rfl rfl rfl (by constructor) (by (repeat (first | exact uH _ _ _ | apply uT)) <;> fail) (by simp <;> omega) rfl (by decide +kernel) ?_; clear hS; intro w hS; simp only [Act.put, spA, spZ, spS]) | (apply ckI_pure rfl rfl; (intro _; go_simp; (try (go_ints; (try go_simp))); (first | (rw [decide_eq_true]; omega) | (rw [decide_eq_false]; omega) | rfl | rw [if_pos (by omega)])); simp only [Act.put, spA, spZ, spS]))
    refine ⟨[pts x4 (pcV _) 263], hS, ?_⟩
    clear hS
    intro L w hS
    simp only [List.cons_append, List.nil_append] at hS
    (repeat (first | (refine ckI_loadAll hS rfl rfl rfl (by (repeat (first | exact mH _ | apply mT)) <;> fail) rfl (by (try simp only [List.length_cons, List.length_nil, Nat.zero_add, Nat.reduceAdd]); decide +kernel) ?_; simp only [Act.put, spA, spZ, spS]) | (refine ckI_load hS rfl rfl rfl (by (repeat (first | exact mH _ | apply mT)) <;> fail) rfl (by decide +kernel) ?_; simp only [Act.put, spA, spZ, spS]) | (refine ckI_store hS rfl rfl rfl (by constructor) (by (repeat (first | exact uH _ _ _ | apply uT)) <;> fail) (by simp <;> omega) rfl (by decide +kernel) ?_; clear hS; intro w hS; simp only [Act.put, spA, spZ, spS]) | (refine ckI_skip rfl ?_; simp only [Act.put, spA, spZ, spS]) | (apply ckI_pure rfl rfl; (intro _; go_simp; (try (go_ints; (try go_simp))); (first | (rw [decide_eq_true]; omega) | (rw [decide_eq_false]; omega) | rfl | rw [if_pos (by omega)])); simp only [Act.put, spA, spZ, spS]) | go_values | gi_guarded | gi_step | gi_upon))
    exact ⟨rfl, hS.drop⟩
  case fin =>
    intro D _ w hS
    have e1 : runP (fun _ : List PieceM => true) [] ps = ps := runP_all _ _ (fun _ => rfl)
    rw [e1]
    rw [e1] at hS
    have e2 : okP (fun _ : List PieceM => true) ps = true := by unfold okP; simp
    rw [e2, if_pos rfl]
    simp only [List.cons_append, List.nil_append] at hS
    clear e1 e2 hI hS1
    go_wp2_with (first | go_skip | (refine ck_load hS rfl rfl rfl (by (repeat (first | exact mH _ | apply mT)) <;> fail) rfl (by decide +kernel) ?_; simp only [Act.put, spA, spZ, spS]) | (refine ck_store hS rfl rfl rfl (by constructor) (by (repeat (first | exact uH _ _ _ | apply uT)) <;> fail) (by simp <;> omega) rfl (by decide +kernel) ?_; clear hS; intro w hS; simp only [Act.put, spA, spZ, spS] at hS ⊢) )
    exact ckM_end (.inr rfl) hS rfl (fun w hS => ⟨ckRes_c1 (b := x2) (v := .int .i64 (-1)) (T := 3) hS (by (repeat (first | exact mH _ | apply mT)) <;> fail) rfl rfl (by decide +kernel), _, ⟨rfl, rfl⟩, ((hS.dropN 2).bring (r := pts x2 [.int .i64 (-1)] 3) (by (repeat (first | exact rH _ _ | apply rT)) <;> fail)).drop⟩)
theorem brdLostNone_ct (b : Nat) (ps : List PieceM) (e : Int) (A : BrdA) (hsm : ps.length ≤ 4096) (hno : ∀ p ∈ ps, p.lost = false) :
    Ct Tryz.prog 196 #[.pointer (some ⟨b, 0, none⟩)] [brdG b ps e A] (Gives (.tuple #[.agg #[.int .u64 0, .int .u64 0], .bool false]) [brdG b ps e A]) := by
  have kL := brdLostNo_ct b ps e A hsm hno
  clear hno hsm
  intro w0 F L w hS
  simp only [List.cons_append, List.nil_append] at hS
  go_enter Tryz.func196, Tryz.ntmps196
  go_wp2_with (first | go_skip | (refine ck_store hS rfl rfl rfl (by constructor) (by (repeat (first | exact uH _ _ _ | apply uT)) <;> fail) (by simp <;> omega) rfl (by decide +kernel) ?_; clear hS; intro w hS; simp only [Act.put, spA, spZ, spS] at hS ⊢) | (refine ck_alloc (t := 269) (v := .agg #[.int .u64 0, .int .u64 0]) (cs := [.int .u64 0, .int .u64 0]) hS rfl rfl (by kernel_rfl) rfl ?_; clear hS; intro r2 w hS; simp only [Act.put, spA, spZ, spS]) | (refine ck_storeAll hS rfl rfl rfl rfl (by (repeat (first | exact uH _ _ _ | apply uT)) <;> fail) (by rfl) rfl (by (try simp only [List.length_cons, List.length_nil, Nat.zero_add, Nat.reduceAdd]); decide +kernel) ?_; clear hS; intro w hS; simp only [Act.put, spA, spZ, spS]) | (go_at_call 203; (with_reducible refine Ct.callU (kL) (by (repeat (first | exact uH _ _ _ | apply uT)) <;> fail) hS ?_) <;> (first | (clear hS; intro w hS) | omega)) | (refine ck_region (fun _ => 0) (fun _ => []) [] hS (by kernel_rfl) (by decide +kernel) ?_ ?_; exact ⟨fun _ _ _ h => h.2, fun _ _ h => h⟩; clear hS; intro w hS _; (repeat (first | (apply wpT_pure rfl rfl; (intro _; go_simp; (try (go_ints; (try go_simp))); (first | (rw [decide_eq_true]; omega) | (rw [decide_eq_false]; omega) | rfl | rw [if_pos (by omega)])); simp only [Act.put, spA, spZ, spS]) | (refine ckT_load hS rfl rfl rfl (by simp <;> fail) (by (repeat (first | exact mH _ | apply mT)) <;> fail) rfl (by decide +kernel) ?_; simp only [Act.put, spA, spZ, spS]) | (refine ckT_store hS rfl rfl rfl (by constructor) (by (repeat (first | exact uH _ _ _ | apply uT)) <;> fail) (by simp <;> fail) rfl (by decide +kernel) (by simp <;> fail) ?_; clear hS; intro w hS; simp only [Act.put, spA, spZ, spS] at hS ⊢) )); refine wpT_nil ?_))
  refine bodyPost_ret (ckRes_cell_tmp hS (cs := [.int .u64 0, .int .u64 0]) (b := r2) (T := 269) (by (repeat (first | exact mH _ | apply mT)) <;> fail) rfl rfl rfl (by (try simp only [List.length_cons, List.length_nil, Nat.zero_add, Nat.reduceAdd]); decide +kernel)) rfl ?_
  exact ⟨_, ⟨rfl, rfl⟩, hS.drop⟩
theorem brdAgainNone_ct (b : Nat) (ps : List PieceM) (e : Int) (A : BrdA) (hsm : ps.length ≤ 4096) (hno : ∀ p ∈ ps, p.lost = false) (s : SentM) :
    Ct Tryz.prog 145 #[.pointer (some ⟨b, 0, none⟩), .agg (sntV s).toArray] [brdG b ps e A] (Gives (.tuple #[.agg #[.int .u64 0, .int .u64 0], .bool false]) [brdG b ps e A]) := by
  have kL := brdLostNone_ct b ps e A hsm hno
  clear hno hsm
  intro w0 F L w hS
  simp only [List.cons_append, List.nil_append] at hS
  go_enter Tryz.func145, Tryz.ntmps145
  go_wp2_with (first | go_skip | (refine ck_load hS rfl rfl rfl (by (repeat (first | exact mH _ | apply mT)) <;> fail) rfl (by decide +kernel) ?_; simp only [Act.put, spA, spZ, spS]) | (refine ck_store hS rfl rfl rfl (by constructor) (by (repeat (first | exact uH _ _ _ | apply uT)) <;> fail) (by simp <;> omega) rfl (by decide +kernel) ?_; clear hS; intro w hS; simp only [Act.put, spA, spZ, spS] at hS ⊢) | (refine ck_box hS rfl rfl (by constructor) ?_; clear hS; intro nb w hS; simp only [Act.put, spA, spZ, spS]) | (have h1 := r4; clear h1; refine ck_alloc (t := 269) (v := .agg #[.int .u64 0, .int .u64 0]) (cs := [.int .u64 0, .int .u64 0]) hS rfl rfl (by kernel_rfl) rfl ?_; clear hS; intro r6 w hS; simp only [Act.put, spA, spZ, spS]) | (refine ck_alloc (t := 269) (v := .agg #[.int .u64 0, .int .u64 0]) (cs := [.int .u64 0, .int .u64 0]) hS rfl rfl (by kernel_rfl) rfl ?_; clear hS; intro r4 w hS; simp only [Act.put, spA, spZ, spS]) | (refine ck_storeAll hS rfl rfl rfl rfl (by (repeat (first | exact uH _ _ _ | apply uT)) <;> fail) (by rfl) rfl (by (try simp only [List.length_cons, List.length_nil, Nat.zero_add, Nat.reduceAdd]); decide +kernel) ?_; clear hS; intro w hS; simp only [Act.put, spA, spZ, spS]) | (refine ck_loadAll hS rfl rfl rfl (by (repeat (first | exact mH _ | apply mT)) <;> fail) rfl (by (try simp only [List.length_cons, List.length_nil, Nat.zero_add, Nat.reduceAdd]); decide +kernel) ?_; simp only [Act.put, spA, spZ, spS]) | (go_at_call 196; (with_reducible refine Ct.callU (kL) (by (repeat (first | exact uH _ _ _ | apply uT)) <;> fail) hS ?_) <;> (first | (clear hS; intro w hS) | omega)) | (refine ck_region (fun _ => 0) (fun _ => []) [] hS (by kernel_rfl) (by decide +kernel) ?_ ?_; exact ⟨fun _ _ _ h => h.2, fun _ _ h => h⟩; clear hS; intro w hS _; (repeat (first | (apply wpT_pure rfl rfl; (intro _; go_simp; (try (go_ints; (try go_simp))); (first | (rw [decide_eq_true]; omega) | (rw [decide_eq_false]; omega) | rfl | rw [if_pos (by omega)])); simp only [Act.put, spA, spZ, spS]) | (refine ckT_load hS rfl rfl rfl (by simp <;> fail) (by (repeat (first | exact mH _ | apply mT)) <;> fail) rfl (by decide +kernel) ?_; simp only [Act.put, spA, spZ, spS]) | (refine ckT_store hS rfl rfl rfl (by constructor) (by (repeat (first | exact uH _ _ _ | apply uT)) <;> fail) (by simp <;> fail) rfl (by decide +kernel) (by simp <;> fail) ?_; clear hS; intro w hS; simp only [Act.put, spA, spZ, spS] at hS ⊢) )); refine wpT_nil ?_))
  refine bodyPost_ret (ckRes_cell_tmp hS (cs := [.int .u64 0, .int .u64 0]) (b := r4) (T := 269) (by (repeat (first | exact mH _ | apply mT)) <;> fail) rfl rfl rfl (by (try simp only [List.length_cons, List.length_nil, Nat.zero_add, Nat.reduceAdd]); decide +kernel)) rfl ?_
  exact ⟨_, ⟨rfl, rfl⟩, hS.dropN 3⟩
set_option maxRecDepth 20000 in
set_option maxHeartbeats 4000000 in
theorem brdSent_ct (b : Nat) (ps : List PieceM) (e to : Int) (A : BrdA) (s : SentM) (hsm : ps.length < 4096) (h1 : e < to) :
    Ct Tryz.prog 148 #[.pointer (some ⟨b, 0, none⟩), .int .u64 e, .int .u64 to, .agg (sntV s).toArray] [brdG b ps e A] (fun v L => v = .int .i64 0 ∧ ∃ A', L = [brdG b (ps ++ [⟨e, to, s, false, false⟩]) to A']) := by
  obtain ⟨a, cp⟩ := A
  obtain ⟨n, hn⟩ : ∃ n, ps.length = n := ⟨_, rfl⟩
  have hfin : ∀ {w0 w : World} {F : List Nat} {L : List Res} {a : Option Addr} {cp : Nat}, Sep w0 F (brdP b a (n + 1) cp to :: rowR a (n + 1) cp 263 9 (pcs ps ++ pcV ⟨e, to, s, false, false⟩) :: L) w → Sep w0 F ([brdG b (ps ++ [⟨e, to, s, false, false⟩]) to ⟨a, cp⟩] ++ L) w := fun {w0 w F L a cp} h => (brdOpen (n := n + 1) (by simp [hn])).2 (by rw [pcs_snoc]; exact h)
  intro w0 F L w hS
  have hS := (brdOpen hn).1 hS
  rw [hn] at hsm
  clear hn
  go_enter Tryz.func148, Tryz.ntmps148
  go_wp2_with (first | go_skip  | (refine ck_load hS rfl rfl rfl (by (repeat (first | exact mH _ | apply mT)) <;> fail) rfl (by decide +kernel) ?_; simp only [Act.put, spA, spZ, spS]) | (refine ck_store hS rfl rfl rfl (by constructor) (by (repeat (first | exact uH _ _ _ | apply uT)) <;> fail) (by simp <;> omega) rfl (by decide +kernel) ?_; clear hS; intro w hS; simp only [Act.put, spA, spZ, spS] at hS ⊢) | (refine ck_box hS rfl rfl (by constructor) ?_; clear hS; intro nb w hS; simp only [Act.put, spA, spZ, spS])  | (refine ck_region (fun _ => 0) (fun _ => []) [] hS (by kernel_rfl) (by decide +kernel) ?_ ?_; exact ⟨fun _ _ _ h => h.2, fun _ _ h => h⟩; clear hS; intro w hS _; (repeat (first | (apply wpT_pure rfl rfl; (intro _; go_simp; (try (go_ints; (try go_simp))); (first | (rw [decide_eq_true]; omega) | (rw [decide_eq_false]; omega) | rfl | rw [if_pos (by omega)])); simp only [Act.put, spA, spZ, spS]) | (refine ckT_load hS rfl rfl rfl (by simp <;> fail) (by (repeat (first | exact mH _ | apply mT)) <;> fail) rfl (by decide +kernel) ?_; simp only [Act.put, spA, spZ, spS]) | (refine ckT_store hS rfl rfl rfl (by constructor) (by (repeat (first | exact uH _ _ _ | apply uT)) <;> fail) (by simp <;> fail) rfl (by decide +kernel) (by simp <;> fail) ?_; clear hS; intro w hS; simp only [Act.put, spA, spZ, spS] at hS ⊢) )); refine wpT_nil ?_) | (refine ck_region (fun _ => b) (fun i => if i = 9 then [4] else []) ([4]) hS (by kernel_rfl) (by decide +kernel) ?_ ?_; exact ⟨fun _ _ _ h => h.2, fun _ _ h => h⟩; clear hS; intro w hS _; (repeat (first | (apply wpT_pure rfl rfl; (intro _; go_simp; (try (go_ints; (try go_simp))); (first | (rw [decide_eq_true]; omega) | (rw [decide_eq_false]; omega) | rfl | rw [if_pos (by omega)])); simp only [Act.put, spA, spZ, spS]) | (refine ckT_load hS rfl rfl rfl (by simp <;> fail) (by (repeat (first | exact mH _ | apply mT)) <;> fail) rfl (by decide +kernel) ?_; simp only [Act.put, spA, spZ, spS]) | (refine ckT_store hS rfl rfl rfl (by constructor) (by (repeat (first | exact uH _ _ _ | apply uT)) <;> fail) (by simp <;> fail) rfl (by decide +kernel) (by simp <;> fail) ?_; clear hS; intro w hS; simp only [Act.put, spA, spZ, spS] at hS ⊢) | (refine ckT_loadAll hS rfl rfl rfl (by simp <;> fail) (by (repeat (first | exact mH _ | apply mT)) <;> fail) rfl (by (try simp only [List.length_cons, List.length_nil, Nat.zero_add, Nat.reduceAdd]); decide +kernel) ?_; simp only [Act.put, spA, spZ, spS]) | (refine ckT_buildE (e := 263) (sz := 9) (news := pcV ⟨e, to, s, false, false⟩) hS rfl rfl rfl rfl (by omega) (by omega) (by decide +kernel) (by intro j hj; simp at hj <;> exact hS.ptsLt (cs := [.slice a n cp, .int .u64 e]) (T := 239) (by (repeat (first | exact mH _ | apply mT)) <;> fail)) ?_; clear hS; intro q w hS; simp only [Act.put, spA, spZ, spS]) | (refine ckT_appendA (e := 263) (sz := 9) (m := 1) (news := pcV ⟨e, to, s, false, false⟩) hS rfl rfl rfl rfl (by (repeat (first | exact rH _ _ | apply rT)) <;> fail) (pts_cells (hS.holds _ (by (repeat (first | exact mH _ | apply mT)) <;> fail))) rfl (by simp [Value.oneCell']) (by omega) (by omega) (by decide +kernel) rfl ?_; clear hS; intro g2 cp2 w hS; simp only [Act.put, spA, spZ, spS]))); refine wpT_nil ?_))
  go_ret
  have j1 := (hS.bring (r := pts nb (sntV s) 261) (by (repeat (first | exact rH _ _ | apply rT)) <;> fail)).drop
  have j2 := (j1.bring (r := pts q (pcV ⟨e, to, s, false, false⟩) 263) (by (repeat (first | exact rH _ _ | apply rT)) <;> fail)).drop
  exact ⟨_, ⟨rfl, ⟨some ⟨g2, 0, none⟩, cp2⟩, rfl⟩, hfin (j2.bring (r := brdP b (some ⟨g2, 0, none⟩) (n + 1) cp2 to) (by (repeat (first | exact rH _ _ | apply rT)) <;> fail))⟩
end Go.Proofs.YtcegknecikbbkaaGreat

/- What winmax's functions come to. -/
set_option linter.unusedVariables false
set_option linter.unusedSimpArgs false
set_option maxRecDepth 4000
namespace Go.Proofs.YtcegknecikbbkaaGreat
open Go.RowKit
abbrev smp (t v : Int) : Value := .agg #[.int .u64 t, .int .u64 v]
abbrev maxR (b : Nat) (win t0 v0 t1 v1 t2 v2 last : Int) : Res := pts b [.int .u64 win, .int .u64 t0, .int .u64 v0, .int .u64 t1, .int .u64 v1, .int .u64 t2, .int .u64 v2, .int .u64 last] 296
theorem maxNew_ct (n : Int) : Ct Tryz.prog 129 #[.int .u64 n] [] (fun v L => ∃ b, v = .pointer (some ⟨b, 0, none⟩) ∧ L = [maxR b n 0 0 0 0 0 0 0]) := by
  intro w0 F L w hS
  simp only [List.cons_append, List.nil_append] at hS
  go_enter Tryz.func129, Tryz.ntmps129
  go_wp2_with (first | go_skip | (refine ck_box hS rfl rfl (by constructor) ?_; clear hS; intro nb w hS; simp only [Act.put, spA, spZ, spS]) )
  go_ret
  exact ⟨_, ⟨_, rfl, rfl⟩, hS⟩
section
variable (b : Nat) (win t0 v0 t1 v1 t2 v2 last t v : Int)
theorem maxNear_ct (h0 : 0 ≤ t) (h1 : t ≤ 18446744073709551615) (h2 : 0 ≤ t0) : Ct Tryz.prog 289 #[.int .u64 t, smp t0 v0, .int .u64 win] [] (Gives (.bool (decide (t - min t t0 ≤ win))) []) := by
  intro w0 F L w hS
  simp only [List.cons_append, List.nil_append] at hS
  go_enter Tryz.func289, Tryz.ntmps289
  go_wp2_with (first | go_skip | (refine ck_load hS rfl rfl rfl (by (repeat (first | exact mH _ | apply mT)) <;> fail) rfl (by decide +kernel) ?_; simp only [Act.put, spA, spZ, spS]) | (refine ck_box hS rfl rfl (by constructor) ?_; clear hS; intro nb w hS; simp only [Act.put, spA, spZ, spS]) | (refine ck_max rfl rfl rfl rfl ?_; simp only [Act.put, spA, spZ, spS]) | (refine ck_min rfl rfl rfl rfl ?_; simp only [Act.put, spA, spZ, spS]) )
  go_ret
  exact ⟨_, ⟨rfl, rfl⟩, hS.drop⟩
theorem maxPush_ct : Ct Tryz.prog 292 #[.pointer (some ⟨b, 0, none⟩), smp t v] [maxR b win t0 v0 t1 v1 t2 v2 last] (Gives (.tuple #[]) [maxR b win t1 v1 t2 v2 t v last]) := by
  intro w0 F L w hS
  simp only [List.cons_append, List.nil_append] at hS
  go_enter Tryz.func292, Tryz.ntmps292
  go_wp2_with (first | go_skip | (refine ck_box hS rfl rfl (by constructor) ?_; clear hS; intro nb w hS; simp only [Act.put, spA, spZ, spS]) | (have hne := hS.ne (b := nb) (c := b) (by simp [pts]) (by simp [pts]); (refine ck_region (fun _ => nb) (fun i => if i = 17 then [13] else if i = 21 then [13] else []) ([13]) hS (by kernel_rfl) (by decide +kernel) ?_ ?_; exact ⟨fun _ _ _ h => h.2, fun _ _ h => h⟩; clear hS; intro w hS _; (repeat (first | (apply wpT_pure rfl rfl; (intro _; go_simp; (try (go_ints; (try go_simp))); (first | (rw [decide_eq_true]; omega) | (rw [decide_eq_false]; omega) | rfl | rw [if_pos (by omega)])); simp only [Act.put, spA, spZ, spS]) | (refine ckT_load hS rfl rfl rfl (by simp <;> fail) (by (repeat (first | exact mH _ | apply mT)) <;> fail) rfl (by decide +kernel) ?_; simp only [Act.put, spA, spZ, spS]) | (refine ckT_store hS rfl rfl rfl (by constructor) (by (repeat (first | exact uH _ _ _ | apply uT)) <;> fail) (by simp <;> fail) rfl (by decide +kernel) (by simp <;> fail) ?_; clear hS; intro w hS; simp only [Act.put, spA, spZ, spS] at hS ⊢) | (refine ckT_loadAll hS rfl rfl rfl (by simp <;> fail) (by (repeat (first | exact mH _ | apply mT)) <;> fail) rfl (by (try simp only [List.length_cons, List.length_nil, Nat.zero_add, Nat.reduceAdd]); decide +kernel) ?_; simp only [Act.put, spA, spZ, spS]) | (refine ckT_loadSub 2 hS rfl rfl rfl (by simp <;> fail) (by (repeat (first | exact mH _ | apply mT)) <;> fail) (by simp <;> fail) (by (try simp only [List.length_cons, List.length_nil, Nat.zero_add, Nat.reduceAdd]); decide +kernel) ?_; simp only [ckPut, List.take_succ_cons, List.take_zero, List.drop_succ_cons, List.drop_zero, List.length_cons, List.length_nil, Nat.reduceAdd, List.cons_append, List.nil_append, List.append_nil]; simp only [Act.put, spA, spZ, spS]) | (refine ckT_storeN hS rfl rfl rfl rfl (by (repeat (first | exact uH _ _ _ | apply uT)) <;> fail) (by simp <;> fail) rfl (by (try simp only [List.length_cons, List.length_nil, Nat.zero_add, Nat.reduceAdd]); decide +kernel) (by intro j hj; simp at hj <;> (first | (subst hj; exact hne) | (rcases hj with rfl | rfl <;> exact hne) | (rcases hj with rfl | rfl | rfl <;> exact hne) | (rcases hj with rfl | rfl | rfl | rfl <;> exact hne))) ?_; clear hS; intro w hS; simp only [ckPut, List.take_succ_cons, List.take_zero, List.drop_succ_cons, List.drop_zero, List.length_cons, List.length_nil, Nat.reduceAdd, List.cons_append, List.nil_append, List.append_nil] at hS; simp only [Act.put, spA, spZ, spS]) | (refine ckT_storeN hS rfl rfl rfl rfl (by (repeat (first | exact uH _ _ _ | apply uT)) <;> fail) (by simp <;> fail) rfl (by (try simp only [List.length_cons, List.length_nil, Nat.zero_add, Nat.reduceAdd]); decide +kernel) (by simp <;> fail) ?_; clear hS; intro w hS; simp only [ckPut, List.take_succ_cons, List.take_zero, List.drop_succ_cons, List.drop_zero, List.length_cons, List.length_nil, Nat.reduceAdd, List.cons_append, List.nil_append, List.append_nil] at hS; simp only [Act.put, spA, spZ, spS]))); refine wpT_nil ?_)) | (refine ck_region (fun _ => 0) (fun _ => []) [] hS (by kernel_rfl) (by decide +kernel) ?_ ?_; exact ⟨fun _ _ _ h => h.2, fun _ _ h => h⟩; clear hS; intro w hS _; (repeat (first | (apply wpT_pure rfl rfl; (intro _; go_simp; (try (go_ints; (try go_simp))); (first | (rw [decide_eq_true]; omega) | (rw [decide_eq_false]; omega) | rfl | rw [if_pos (by omega)])); simp only [Act.put, spA, spZ, spS]) | (refine ckT_load hS rfl rfl rfl (by simp <;> fail) (by (repeat (first | exact mH _ | apply mT)) <;> fail) rfl (by decide +kernel) ?_; simp only [Act.put, spA, spZ, spS]) | (refine ckT_store hS rfl rfl rfl (by constructor) (by (repeat (first | exact uH _ _ _ | apply uT)) <;> fail) (by simp <;> fail) rfl (by decide +kernel) (by simp <;> fail) ?_; clear hS; intro w hS; simp only [Act.put, spA, spZ, spS] at hS ⊢) )); refine wpT_nil ?_))
  refine bodyPost_end (results_none rfl _ _ _) rfl ?_
  exact ⟨_, ⟨rfl, rfl⟩, hS.drop⟩
theorem maxAll0_ct : Ct Tryz.prog 291 #[.pointer (some ⟨b, 0, none⟩), .int .i64 0, smp t v] [maxR b win t0 v0 t1 v1 t2 v2 last] (Gives (.tuple #[]) [maxR b win t v t v t v last]) := by
  intro w0 F L w hS
  simp only [List.cons_append, List.nil_append] at hS
  go_enter Tryz.func291, Tryz.ntmps291
  go_wp2_with (first | go_skip | (refine ck_box hS rfl rfl (by constructor) ?_; clear hS; intro nb w hS; simp only [Act.put, spA, spZ, spS])  | (refine ck_region (fun _ => 0) (fun _ => []) [] hS (by kernel_rfl) (by decide +kernel) ?_ ?_; exact ⟨fun _ _ _ h => h.2, fun _ _ h => h⟩; clear hS; intro w hS _; (repeat (first | (apply wpT_pure rfl rfl; (intro _; go_simp; (try (go_ints; (try go_simp))); (first | (rw [decide_eq_true]; omega) | (rw [decide_eq_false]; omega) | rfl | rw [if_pos (by omega)])); simp only [Act.put, spA, spZ, spS]) | (refine ckT_load hS rfl rfl rfl (by simp <;> fail) (by (repeat (first | exact mH _ | apply mT)) <;> fail) rfl (by decide +kernel) ?_; simp only [Act.put, spA, spZ, spS]) | (refine ckT_store hS rfl rfl rfl (by constructor) (by (repeat (first | exact uH _ _ _ | apply uT)) <;> fail) (by simp <;> fail) rfl (by decide +kernel) (by simp <;> fail) ?_; clear hS; intro w hS; simp only [Act.put, spA, spZ, spS] at hS ⊢) )); refine wpT_nil ?_))
  refine wp_loop_rounds 4 ?_; rw [rounds_succ]
  go_wp2_with (first | go_skip | (refine ck_box hS rfl rfl (by constructor) ?_; clear hS; intro nb w hS; simp only [Act.put, spA, spZ, spS]) | (with_reducible rw [rounds_succ]) | (refine ck_region (fun _ => 0) (fun _ => []) [] hS (by kernel_rfl) (by decide +kernel) ?_ ?_; exact ⟨fun _ _ _ h => h.2, fun _ _ h => h⟩; clear hS; intro w hS _; (repeat (first | (apply wpT_pure rfl rfl; (intro _; go_simp; (try (go_ints; (try go_simp))); (first | (rw [decide_eq_true]; omega) | (rw [decide_eq_false]; omega) | rfl | rw [if_pos (by omega)])); simp only [Act.put, spA, spZ, spS]) | (refine ckT_load hS rfl rfl rfl (by simp <;> fail) (by (repeat (first | exact mH _ | apply mT)) <;> fail) rfl (by decide +kernel) ?_; simp only [Act.put, spA, spZ, spS]) | (refine ckT_store hS rfl rfl rfl (by constructor) (by (repeat (first | exact uH _ _ _ | apply uT)) <;> fail) (by simp <;> fail) rfl (by decide +kernel) (by simp <;> fail) ?_; clear hS; intro w hS; simp only [Act.put, spA, spZ, spS] at hS ⊢) | (refine ckT_loadAll hS rfl rfl rfl (by simp <;> fail) (by (repeat (first | exact mH _ | apply mT)) <;> fail) rfl (by (try simp only [List.length_cons, List.length_nil, Nat.zero_add, Nat.reduceAdd]); decide +kernel) ?_; simp only [Act.put, spA, spZ, spS]) | (refine ckT_storeN hS rfl rfl rfl rfl (by (repeat (first | exact uH _ _ _ | apply uT)) <;> fail) (by simp <;> fail) rfl (by (try simp only [List.length_cons, List.length_nil, Nat.zero_add, Nat.reduceAdd]); decide +kernel) (by simp <;> fail) ?_; clear hS; intro w hS; simp only [ckPut, List.take_succ_cons, List.take_zero, List.drop_succ_cons, List.drop_zero, List.length_cons, List.length_nil, Nat.reduceAdd, List.cons_append, List.nil_append, List.append_nil] at hS; simp only [Act.put, spA, spZ, spS]))); refine wpT_nil ?_))
  refine bodyPost_end (results_none rfl _ _ _) rfl ?_
  exact ⟨_, ⟨rfl, rfl⟩, hS.drop⟩
theorem maxAll1_ct : Ct Tryz.prog 291 #[.pointer (some ⟨b, 0, none⟩), .int .i64 1, smp t v] [maxR b win t0 v0 t1 v1 t2 v2 last] (Gives (.tuple #[]) [maxR b win t0 v0 t v t v last]) := by
  intro w0 F L w hS
  simp only [List.cons_append, List.nil_append] at hS
  go_enter Tryz.func291, Tryz.ntmps291
  go_wp2_with (first | go_skip | (refine ck_box hS rfl rfl (by constructor) ?_; clear hS; intro nb w hS; simp only [Act.put, spA, spZ, spS])  | (refine ck_region (fun _ => 0) (fun _ => []) [] hS (by kernel_rfl) (by decide +kernel) ?_ ?_; exact ⟨fun _ _ _ h => h.2, fun _ _ h => h⟩; clear hS; intro w hS _; (repeat (first | (apply wpT_pure rfl rfl; (intro _; go_simp; (try (go_ints; (try go_simp))); (first | (rw [decide_eq_true]; omega) | (rw [decide_eq_false]; omega) | rfl | rw [if_pos (by omega)])); simp only [Act.put, spA, spZ, spS]) | (refine ckT_load hS rfl rfl rfl (by simp <;> fail) (by (repeat (first | exact mH _ | apply mT)) <;> fail) rfl (by decide +kernel) ?_; simp only [Act.put, spA, spZ, spS]) | (refine ckT_store hS rfl rfl rfl (by constructor) (by (repeat (first | exact uH _ _ _ | apply uT)) <;> fail) (by simp <;> fail) rfl (by decide +kernel) (by simp <;> fail) ?_; clear hS; intro w hS; simp only [Act.put, spA, spZ, spS] at hS ⊢) )); refine wpT_nil ?_))
  refine wp_loop_rounds 3 ?_; rw [rounds_succ]
  go_wp2_with (first | go_skip | (refine ck_box hS rfl rfl (by constructor) ?_; clear hS; intro nb w hS; simp only [Act.put, spA, spZ, spS]) | (with_reducible rw [rounds_succ]) | (refine ck_region (fun _ => 0) (fun _ => []) [] hS (by kernel_rfl) (by decide +kernel) ?_ ?_; exact ⟨fun _ _ _ h => h.2, fun _ _ h => h⟩; clear hS; intro w hS _; (repeat (first | (apply wpT_pure rfl rfl; (intro _; go_simp; (try (go_ints; (try go_simp))); (first | (rw [decide_eq_true]; omega) | (rw [decide_eq_false]; omega) | rfl | rw [if_pos (by omega)])); simp only [Act.put, spA, spZ, spS]) | (refine ckT_load hS rfl rfl rfl (by simp <;> fail) (by (repeat (first | exact mH _ | apply mT)) <;> fail) rfl (by decide +kernel) ?_; simp only [Act.put, spA, spZ, spS]) | (refine ckT_store hS rfl rfl rfl (by constructor) (by (repeat (first | exact uH _ _ _ | apply uT)) <;> fail) (by simp <;> fail) rfl (by decide +kernel) (by simp <;> fail) ?_; clear hS; intro w hS; simp only [Act.put, spA, spZ, spS] at hS ⊢) | (refine ckT_loadAll hS rfl rfl rfl (by simp <;> fail) (by (repeat (first | exact mH _ | apply mT)) <;> fail) rfl (by (try simp only [List.length_cons, List.length_nil, Nat.zero_add, Nat.reduceAdd]); decide +kernel) ?_; simp only [Act.put, spA, spZ, spS]) | (refine ckT_storeN hS rfl rfl rfl rfl (by (repeat (first | exact uH _ _ _ | apply uT)) <;> fail) (by simp <;> fail) rfl (by (try simp only [List.length_cons, List.length_nil, Nat.zero_add, Nat.reduceAdd]); decide +kernel) (by simp <;> fail) ?_; clear hS; intro w hS; simp only [ckPut, List.take_succ_cons, List.take_zero, List.drop_succ_cons, List.drop_zero, List.length_cons, List.length_nil, Nat.reduceAdd, List.cons_append, List.nil_append, List.append_nil] at hS; simp only [Act.put, spA, spZ, spS]))); refine wpT_nil ?_))
  refine bodyPost_end (results_none rfl _ _ _) rfl ?_
  exact ⟨_, ⟨rfl, rfl⟩, hS.drop⟩
theorem maxAll2_ct : Ct Tryz.prog 291 #[.pointer (some ⟨b, 0, none⟩), .int .i64 2, smp t v] [maxR b win t0 v0 t1 v1 t2 v2 last] (Gives (.tuple #[]) [maxR b win t0 v0 t1 v1 t v last]) := by
  intro w0 F L w hS
  simp only [List.cons_append, List.nil_append] at hS
  go_enter Tryz.func291, Tryz.ntmps291
  go_wp2_with (first | go_skip | (refine ck_box hS rfl rfl (by constructor) ?_; clear hS; intro nb w hS; simp only [Act.put, spA, spZ, spS])  | (refine ck_region (fun _ => 0) (fun _ => []) [] hS (by kernel_rfl) (by decide +kernel) ?_ ?_; exact ⟨fun _ _ _ h => h.2, fun _ _ h => h⟩; clear hS; intro w hS _; (repeat (first | (apply wpT_pure rfl rfl; (intro _; go_simp; (try (go_ints; (try go_simp))); (first | (rw [decide_eq_true]; omega) | (rw [decide_eq_false]; omega) | rfl | rw [if_pos (by omega)])); simp only [Act.put, spA, spZ, spS]) | (refine ckT_load hS rfl rfl rfl (by simp <;> fail) (by (repeat (first | exact mH _ | apply mT)) <;> fail) rfl (by decide +kernel) ?_; simp only [Act.put, spA, spZ, spS]) | (refine ckT_store hS rfl rfl rfl (by constructor) (by (repeat (first | exact uH _ _ _ | apply uT)) <;> fail) (by simp <;> fail) rfl (by decide +kernel) (by simp <;> fail) ?_; clear hS; intro w hS; simp only [Act.put, spA, spZ, spS] at hS ⊢) )); refine wpT_nil ?_))
  refine wp_loop_rounds 2 ?_; rw [rounds_succ]
  go_wp2_with (first | go_skip | (refine ck_box hS rfl rfl (by constructor) ?_; clear hS; intro nb w hS; simp only [Act.put, spA, spZ, spS]) | (with_reducible rw [rounds_succ]) | (refine ck_region (fun _ => 0) (fun _ => []) [] hS (by kernel_rfl) (by decide +kernel) ?_ ?_; exact ⟨fun _ _ _ h => h.2, fun _ _ h => h⟩; clear hS; intro w hS _; (repeat (first | (apply wpT_pure rfl rfl; (intro _; go_simp; (try (go_ints; (try go_simp))); (first | (rw [decide_eq_true]; omega) | (rw [decide_eq_false]; omega) | rfl | rw [if_pos (by omega)])); simp only [Act.put, spA, spZ, spS]) | (refine ckT_load hS rfl rfl rfl (by simp <;> fail) (by (repeat (first | exact mH _ | apply mT)) <;> fail) rfl (by decide +kernel) ?_; simp only [Act.put, spA, spZ, spS]) | (refine ckT_store hS rfl rfl rfl (by constructor) (by (repeat (first | exact uH _ _ _ | apply uT)) <;> fail) (by simp <;> fail) rfl (by decide +kernel) (by simp <;> fail) ?_; clear hS; intro w hS; simp only [Act.put, spA, spZ, spS] at hS ⊢) | (refine ckT_loadAll hS rfl rfl rfl (by simp <;> fail) (by (repeat (first | exact mH _ | apply mT)) <;> fail) rfl (by (try simp only [List.length_cons, List.length_nil, Nat.zero_add, Nat.reduceAdd]); decide +kernel) ?_; simp only [Act.put, spA, spZ, spS]) | (refine ckT_storeN hS rfl rfl rfl rfl (by (repeat (first | exact uH _ _ _ | apply uT)) <;> fail) (by simp <;> fail) rfl (by (try simp only [List.length_cons, List.length_nil, Nat.zero_add, Nat.reduceAdd]); decide +kernel) (by simp <;> fail) ?_; clear hS; intro w hS; simp only [ckPut, List.take_succ_cons, List.take_zero, List.drop_succ_cons, List.drop_zero, List.length_cons, List.length_nil, Nat.reduceAdd, List.cons_append, List.nil_append, List.append_nil] at hS; simp only [Act.put, spA, spZ, spS]))); refine wpT_nil ?_))
  refine bodyPost_end (results_none rfl _ _ _) rfl ?_
  exact ⟨_, ⟨rfl, rfl⟩, hS.drop⟩
theorem maxReset_ct (h0 : 0 ≤ last) (h1 : 0 ≤ t) : Ct Tryz.prog 290 #[.pointer (some ⟨b, 0, none⟩), .int .u64 t, .int .u64 v] [maxR b win t0 v0 t1 v1 t2 v2 last] (Gives (.tuple #[]) [maxR b win t v t v t v (max last t)]) := by
  intro w0 F L w hS
  simp only [List.cons_append, List.nil_append] at hS
  go_enter Tryz.func290, Tryz.ntmps290
  go_wp2_with (first | go_skip | (refine ck_load hS rfl rfl rfl (by (repeat (first | exact mH _ | apply mT)) <;> fail) rfl (by decide +kernel) ?_; simp only [Act.put, spA, spZ, spS]) | (refine ck_store hS rfl rfl rfl (by constructor) (by (repeat (first | exact uH _ _ _ | apply uT)) <;> fail) (by simp <;> omega) rfl (by decide +kernel) ?_; clear hS; intro w hS; simp only [Act.put, spA, spZ, spS] at hS ⊢) | (refine ck_max rfl rfl rfl rfl ?_; simp only [Act.put, spA, spZ, spS]) | (refine ck_min rfl rfl rfl rfl ?_; simp only [Act.put, spA, spZ, spS]) | (go_at_call 291; (with_reducible refine Ct.callU (maxAll0_ct _ _ _ _ _ _ _ _ _ _ _) (by (repeat (first | exact uH _ _ _ | apply uT)) <;> fail) hS ?_) <;> (first | (clear hS; intro w hS) | omega)))
  refine bodyPost_end (results_none rfl _ _ _) rfl ?_
  exact ⟨_, ⟨rfl, rfl⟩, hS⟩
theorem maxBest_ct : Ct Tryz.prog 234 #[.pointer (some ⟨b, 0, none⟩)] [maxR b win t0 v0 t1 v1 t2 v2 last] (Gives (.int .u64 v0) [maxR b win t0 v0 t1 v1 t2 v2 last]) := by
  intro w0 F L w hS
  simp only [List.cons_append, List.nil_append] at hS
  go_enter Tryz.func234, Tryz.ntmps234
  go_wp2_with (first | go_skip | (refine ck_load hS rfl rfl rfl (by (repeat (first | exact mH _ | apply mT)) <;> fail) rfl (by decide +kernel) ?_; simp only [Act.put, spA, spZ, spS]) )
  go_ret
  exact ⟨_, ⟨rfl, rfl⟩, hS⟩
end
end Go.Proofs.YtcegknecikbbkaaGreat
