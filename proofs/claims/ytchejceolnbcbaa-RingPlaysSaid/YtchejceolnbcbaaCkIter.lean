/- Functions that are ranged over: what an iterator gives, whoever its yield is; a range over one, as a step over resources. -/
import Derived.Test.YtchejceolnbcbaaCkRows
import Derived.RangeFuncRecord
import Derived.RangeFuncSeq
import Derived.TacticsInMore
import Derived.OwnWalkIn
import Derived.LoopIn
set_option linter.unusedVariables false
set_option linter.unusedSimpArgs false
namespace Go.Proofs.Ytchejceolnbcbaa
open Go.RowKit

section
variable {P : Program} {w0 w w' : World} {F : List Nat} {L L' L0 : List Res} {r r' : Res}
/-- A block that holds no cells. -/
def objR (b : Nat) (o : Obj) : Res := ⟨[b], fun w => w.heap[b]? = some o, fun w w' h hh => (h b (by simp)).trans hh⟩
theorem Sep.newObj (h : Sep w0 F L w) (o : Obj) : Sep w0 F (objR w.heap.size o :: L) (w.alloc o) := by
  refine h.new rfl rfl rfl (by simp) (fun i hi => Below.heap_alloc w _ i hi) (by simp [objR]) (fun b hb => ?_) ?_
  · have : b = w.heap.size := by simpa [objR] using hb
    subst this; simp
  · show (w.heap.push _)[w.heap.size]? = _
    simp
theorem Sep.putObj {b : Nat} {o o' : Obj} (h : Sep w0 F L w) (hu : Upd L (objR b o) (objR b o') L') : Sep w0 F L' (w.putObj b o') := by
  have hl : w.heap[b]? = some o := h.holds _ hu.mem
  refine h.upd hu rfl rfl rfl (by simp) (fun i hi hn => World.putObj_heap_other (by simpa [objR] using hn)) (by simp [objR]) (fun c hc => ?_) (World.putObj_heap_same (Array.getElem?_eq_some_iff.1 hl).1)
  have : c = b := by simpa [objR] using hc
  subst this
  exact ⟨by simp; exact (Array.getElem?_eq_some_iff.1 hl).1, .inl (by simp [objR])⟩

/-- A call of a function value: a function's, or the loop's round that 'yield' stands for. -/
def YCalls (P : Program) (y : Value) (args : Array Value) (w : World) (R : Ending → World → Prop) : Prop :=
  (∃ (g : Nat) (lb : Array Value), y = .func (.func g) #[] lb ∧ (∀ as w, (callFunc g as).run P w = .ok (.enter g as) w) ∧ Calls P g (args ++ lb) w R) ∨
  (∃ l : Nat, y = .func (.yield l) #[] #[] ∧ YieldAt Fence.wide 0 P l args w R)
theorem YCalls.mono {y : Value} {args : Array Value} {R R' : Ending → World → Prop} (h : YCalls P y args w R) (hr : ∀ e w, R e w → R' e w) : YCalls P y args w R' := by
  rcases h with ⟨g, lb, h1, h2, h3⟩ | ⟨l, h1, fn, tmps, assign, body, h2, h3⟩
  · exact .inl ⟨g, lb, h1, h2, h3.mono hr⟩
  · exact .inr ⟨l, h1, fn, tmps, assign, body, h2, h3.mono hr⟩
def YCt (P : Program) (y : Value) (args : Array Value) (pre : List Res) (post : Value → List Res → Prop) : Prop := ∀ w0 F L w, Sep w0 F (pre ++ L) w → YCalls P y args w (CkR post w0 F L)
theorem Ct.yct {g : Nat} {lb args : Array Value} {pre : List Res} {post : Value → List Res → Prop} (h : Ct P g (args ++ lb) pre post) (eg : ∀ as w, (callFunc g as).run P w = .ok (.enter g as) w) : YCt P (.func (.func g) #[] lb) args pre post :=
  fun w0 F L w hS => .inl ⟨g, lb, rfl, eg, h w0 F L w hS⟩

/-- What has come when it is over: till one says 'no more'. -/
def runP {α : Type} (go : List α → Bool) : List α → List α → List α
  | acc, [] => acc
  | acc, x :: r => if go (acc ++ [x]) then runP go (acc ++ [x]) r else acc ++ [x]
theorem runP_all {α : Type} {go : List α → Bool} : ∀ (r acc : List α), (∀ p, go p = true) → runP go acc r = acc ++ r
  | [], acc, h => by simp [runP]
  | x :: r, acc, h => by simp [runP, h, runP_all r (acc ++ [x]) h]
def okP {α : Type} (go : List α → Bool) (p : List α) : Bool := p.isEmpty || go p
/-- **An iterator**: its function, what it has captured, what it gives. -/
def IterCt {α : Type} (P : Program) (gf : Nat) (lb : Array Value) (encs : α → Array Value) (xs : List α) (It : List Res) : Prop :=
  ∀ (σ : Type) (y : Value) (S : σ → List α → Res) (go : List α → Bool), (∃ fn lb, y = .func fn #[] lb) →
    (∀ pre x suf, xs = pre ++ x :: suf → okP go pre = true → ∀ A, YCt P y (encs x) [S A pre] (fun v L => v = .bool (go (pre ++ [x])) ∧ ∃ A', L = [S A' (pre ++ [x])])) →
    ∀ A, Ct P gf (#[y] ++ lb) (S A [] :: It) (fun v L => v = .tuple #[] ∧ ∃ A', L = S A' (runP go [] xs) :: It)
end

/-! ### In the fenced walk -/
/-- The fence that lets all in: in a round, or in none. -/
abbrev wR (ro : Option Nat) : Fence := { Fence.wide with round := ro }
section
variable {ro : Option Nat} {n : Nat} {P : Program} {ops : Array Oper} {Q : Exit → Act → World → Prop} {rest : List Oper} {w w' w0 : World} {F : List Nat} {L L' L0 : List Res} {o : Oper} {a : Act} {b off : Nat} {cs vs : List Value} {T t : TypeId} {v : Value} {x y : Operand}
theorem ckI_val (hd : ∀ c, o.op ≠ .defer c) (hw : Region.wanted o (yielded ops a.tmps) = true) (hr : (execOp a.eval o).run P w = .ok (.value v) w') (h : wpListIn (wR ro) n P ops Q rest (a.put o.dst v) w') : wpListIn (wR ro) n P ops Q (o :: rest) a w := by
  unfold wpListIn
  rw [if_pos hw]
  refine ⟨fun _ _ => trivial, ?_⟩
  rw [Oper.semAt_eq _ _ _ hd, hr]
  exact h
theorem ckI_skp (hd : ∀ c, o.op ≠ .defer c) (hw : Region.wanted o (yielded ops a.tmps) = true) (hr : (execOp a.eval o).run P w = .ok .skip w') (h : wpListIn (wR ro) n P ops Q rest (a.put o.dst undef) w') : wpListIn (wR ro) n P ops Q (o :: rest) a w := by
  unfold wpListIn
  rw [if_pos hw]
  refine ⟨fun _ _ => trivial, ?_⟩
  rw [Oper.semAt_eq _ _ _ hd, hr]
  exact h
theorem ckI_skip (hw : Region.wanted o (yielded ops a.tmps) = false) (h : wpListIn (wR ro) n P ops Q rest (a.put o.dst undef) w) : wpListIn (wR ro) n P ops Q (o :: rest) a w := by
  unfold wpListIn
  rw [if_neg (by simp [hw])]
  exact ⟨fun _ _ => trivial, h⟩
theorem ckI_load (hS : Sep w0 F L w) (ho : o.op = .load t x) (hw : Region.wanted o (yielded ops a.tmps) = true) (hx : a.eval x = .pointer (some ⟨b, off, none⟩)) (hm : pts b cs T ∈ L) (hv : cs[off]? = some v) (ht : ckScalar P t = true)
    (h : wpListIn (wR ro) n P ops Q rest (a.put o.dst v) w) : wpListIn (wR ro) n P ops Q (o :: rest) a w :=
  ckI_val (by intro c; rw [ho]; simp) hw (exec_load ho hx (run_load1 ht (hS.holds _ hm) hv)) h
theorem ckI_loadRow {g i m cap sz : Nat} {e : TypeId} {xs : List Value} (hS : Sep w0 F L w) (ho : o.op = .load t x) (hw : Region.wanted o (yielded ops a.tmps) = true) (hx : a.eval x = .pointer (some ⟨g, i, none⟩)) (hm : rowR (some ⟨g, 0, none⟩) m cap e sz xs ∈ L) (hv : xs[i]? = some v) (ht : ckScalar P t = true)
    (h : wpListIn (wR ro) n P ops Q rest (a.put o.dst v) w) : wpListIn (wR ro) n P ops Q (o :: rest) a w := by
  obtain ⟨_, _, _, _, _, rest, _, hh⟩ := hS.holds _ hm
  refine ckI_val (by intro c; rw [ho]; simp) hw (exec_load ho hx (run_load1 (cs := xs ++ rest) ht hh ?_)) h
  rw [List.getElem?_append_left (List.getElem?_eq_some_iff.1 hv).1]; exact hv
theorem ckI_loadAll {m : Nat} (hS : Sep w0 F L w) (ho : o.op = .load t x) (hw : Region.wanted o (yielded ops a.tmps) = true) (hx : a.eval x = .pointer (some ⟨b, 0, none⟩)) (hm : pts b cs T ∈ L) (hn : cs.length = m) (ht : ckAgg P t m = true)
    (h : wpListIn (wR ro) n P ops Q rest (a.put o.dst (.agg cs.toArray)) w) : wpListIn (wR ro) n P ops Q (o :: rest) a w :=
  ckI_val (by intro c; rw [ho]; simp) hw (exec_load ho hx (run_loadN ht (hS.holds _ hm) hn (fun j _ => by rw [Nat.zero_add]))) h
theorem ckI_store (hS : Sep w0 F L w) (ho : o.op = .store t x y) (hw : Region.wanted o (yielded ops a.tmps) = true) (hx : a.eval x = .pointer (some ⟨b, off, none⟩)) (hy : Wh (a.eval y) v) (hu : Upd L (pts b cs T) (pts b (cs.set off v) T) L') (hl : off < cs.length) (hv : v.oneCell' = true) (ht : ckSize P t 1 = true)
    (h : ∀ w', Sep w0 F L' w' → wpListIn (wR ro) n P ops Q rest (a.put o.dst undef) w') : wpListIn (wR ro) n P ops Q (o :: rest) a w :=
  ckI_skp (by intro c; rw [ho]; simp) hw (exec_store ho hx hy.eq (run_store1 ht hv (hS.holds _ hu.mem) hl)) (h _ (hS.setCell v hu))
theorem ckI_storeAll (hS : Sep w0 F L w) (ho : o.op = .store t x y) (hw : Region.wanted o (yielded ops a.tmps) = true) (hx : a.eval x = .pointer (some ⟨b, 0, none⟩)) (hy : a.eval y = .agg vs.toArray) (hu : Upd L (pts b cs T) (pts b vs T) L') (hl : vs.length = cs.length) (hv : vs.all (·.oneCell') = true) (ht : ckSize P t vs.length = true)
    (h : ∀ w', Sep w0 F L' w' → wpListIn (wR ro) n P ops Q rest (a.put o.dst undef) w') : wpListIn (wR ro) n P ops Q (o :: rest) a w := by
  have hu' : Upd L (pts b cs T) (pts b (ckPut cs 0 vs) T) L' := by rw [ckPut_all hl]; exact hu
  exact ckI_skp (by intro c; rw [ho]; simp) hw (exec_store ho hx hy (run_storeN ht hv (hS.holds _ hu'.mem) (by omega))) (h _ (hS.setRow _ hu'))
theorem ckI_box (hS : Sep w0 F L w) (ho : o.op = .box t x) (hw : Region.wanted o (yielded ops a.tmps) = true) (hx : WhC (a.eval x) cs)
    (h : ∀ nb w', Sep w0 F (pts nb cs t :: L) w' → wpListIn (wR ro) n P ops Q rest (a.put o.dst (.pointer (some ⟨nb, 0, none⟩))) w') : wpListIn (wR ro) n P ops Q (o :: rest) a w :=
  ckI_val (by intro c; rw [ho]; simp) hw (exec_box ho hx) (h _ _ (hS.alloc _ _))
theorem ckI_pure (hc : ckCls o = 0) (hw : Region.wanted o (yielded ops a.tmps) = true) (hr : ∀ w', (execOp a.eval o).run P w' = .ok (.value v) w') (h : wpListIn (wR ro) n P ops Q rest (a.put o.dst v) w) : wpListIn (wR ro) n P ops Q (o :: rest) a w :=
  ckI_val (by intro c e; unfold ckCls at hc; rw [e] at hc; simp at hc) hw (hr w) h
theorem ckI_alloc (hS : Sep w0 F L w) (ho : o.op = .alloc t) (hw : Region.wanted o (yielded ops a.tmps) = true) (hz : (P.info? t).bind (·.zero) = some v) (hc : v.cells = cs.toArray)
    (h : ∀ nb w', Sep w0 F (pts nb cs t :: L) w' → wpListIn (wR ro) n P ops Q rest (a.put o.dst (.pointer (some ⟨nb, 0, none⟩))) w') : wpListIn (wR ro) n P ops Q (o :: rest) a w :=
  ckI_val (by intro c; rw [ho]; simp) hw (by have := exec_alloc (w := w) (a := a) ho hz; rw [hc] at this; exact this) (h _ _ (hS.alloc _ _))
theorem ckI_yield {x : Operand} {xs : Array Operand} {ts : Array TypeId} {args : Array Value} {y : Value} (ho : o.op = .call { callee := .value x, args := xs, argTypes := ts }) (hw : Region.wanted o (yielded ops a.tmps) = true) (hx : a.eval x = y) (hal : xs.toList.map a.eval = args.toList)
    (hY : YCalls P y args w (fun e w' => ∃ v, e = .returned v ∧ wpListIn (wR ro) n P ops Q rest (a.put o.dst v) w')) : wpListIn (wR ro) n P ops Q (o :: rest) a w := by
  have ha : xs.map a.eval = args := by rw [← Array.toList_inj, Array.toList_map]; exact hal
  unfold wpListIn
  rw [if_pos hw]
  refine ⟨fun _ _ => trivial, ?_⟩
  rw [Oper.semAt_eq _ _ _ (by intro c; rw [ho]; simp)]
  rcases hY with ⟨g, lb, rfl, eg, hc⟩ | ⟨l, rfl, fn, tmps, assign, body, h1, h2⟩
  · have hrun : (execOp a.eval o).run P w = .ok (.enter g (args ++ lb)) w := by
      unfold execOp
      simp only [ho, resolve, hx, ha]
      simp [invoke, go_sem, eg]
    rw [hrun]
    refine ⟨fun h => absurd h (by simp [Fence.wide]), ?_⟩
    refine (callsIn_wide.2 hc).mono ?_
    rintro e w' ⟨v, rfl, h⟩
    exact h
  · have hrun : (execOp a.eval o).run P w = .ok (.round l fn tmps assign body) w := by
      unfold execOp
      simp only [ho, resolve, hx, ha]
      simp [invoke, go_sem, h1]
    rw [hrun]
    refine ⟨fun h => absurd h (by simp [Fence.wide]), ?_⟩
    have h3 : RoundIn (wR ro) (n - 1) P l fn tmps assign body w _ := ⟨h2.1, fun c cs _ => h2.2 c cs (room_wide _)⟩
    refine h3.mono ?_
    rintro e w' ⟨v, rfl, h⟩
    exact h
/-- A call of yield, over resources. -/
theorem ckI_yieldS {σ : Type} {x : Operand} {xs : Array Operand} {ts : Array TypeId} {args : Array Value} {y : Value} {S0 : Res} {S1 : σ → Res} {g : Bool} (hS : Sep w0 F L w) (ho : o.op = .call { callee := .value x, args := xs, argTypes := ts })
    (hY : YCt P y args [S0] (fun v L => v = .bool g ∧ ∃ A', L = [S1 A'])) (hr : Rem L S0 L0) (hw : Region.wanted o (yielded ops a.tmps) = true) (hx : a.eval x = y) (ha : xs.toList.map a.eval = args.toList)
    (h : ∀ A' w', Sep w0 F (S1 A' :: L0) w' → wpListIn (wR ro) n P ops Q rest (a.put o.dst (.bool g)) w') : wpListIn (wR ro) n P ops Q (o :: rest) a w :=
  ckI_yield ho hw hx ha ((hY w0 F L0 w (hS.bring hr)).mono fun e w' hR => by
    cases e with
    | returned v =>
      obtain ⟨L', ⟨rfl, A', rfl⟩, hs⟩ := hR
      exact ⟨_, rfl, h A' w' hs⟩
    | panicked c => exact hR.elim
    | outgrown => exact hR.elim)
theorem ckI_region {id : Nat} {l : List Oper} (h : wpListIn (wR none) 0 P l.toArray Q l a w) : (Code.region id l.toArray false).wp P Q a w := wpIn_wide (n := 0).1 (wpIn_region_lit h)
end

/-! ### The statement -/
section
variable {P : Program} {w w0 : World} {F : List Nat} {L : List Res} {Q : Exit → Act → World → Prop} {a : Act}
theorem ck_rangeFunc {α σ : Type} {g : Operand} {ps : Array Tmp} {assign body : Code} {gf : Nat} {lb : Array Value} {encs : α → Array Value} {xs : List α} {It : List Res} (B : σ → List α → Res) (go : List α → Bool) {A0 : σ}
    (hS : Sep w0 F (B A0 [] :: It ++ L) w) (hI : IterCt P gf lb encs xs It) (hg : a.eval g = .func (.func gf) #[] lb) (eg : ∀ as w, (callFunc gf as).run P w = .ok (.enter gf as) w) (hps : ∀ x, (encs x).size = ps.size)
    (hround : ∀ (l : Nat) pre x suf, xs = pre ++ x :: suf → okP go pre = true → ∀ A w0 F L w, Sep w0 F (B A pre :: L) w →
      assign.wpIn (Fence.wide.inRound l) 0 P (Exit.then (fun a1 w1 => ∃ X : List Res, Sep w0 F (X ++ (B A pre :: L)) w1 ∧ ∀ (L : List Res) w2, Sep w0 F (X ++ (B A pre :: L)) w2 →
        body.wpIn (Fence.wide.inRound l) 0 P (fun e _ w' => (e = .normal ∧ go (pre ++ [x]) = true ∨ e = .ret ∧ go (pre ++ [x]) = false) ∧ ∃ A', Sep w0 F (B A' (pre ++ [x]) :: L) w') a1 w2) (fun _ _ _ => False))
        { tmps := (ps.zip (encs x)).foldl (fun t (p, v) => t.setIfInBounds p v) a.tmps, defers := [] } w)
    (hend : ∀ D A w', Sep w0 F (objR D (.deferred (some [])) :: B A (runP go [] xs) :: It ++ L) w' → Q (if okP go (runP go [] xs) = true then .normal else .ret) { a with defers := { target := .collected D, args := #[] } :: a.defers } w') :
    (Code.rangeFunc g ps assign body).wp P Q a w := by
  refine wpIn_wide (n := 0).1 (wpIn_rangeFunc ?_)
  intro fn _
  obtain ⟨D, hD⟩ : ∃ D, w.heap.size = D := ⟨_, rfl⟩
  obtain ⟨rec, hrec⟩ : ∃ rec : LoopState → Option Code → Loop, rec = fun st pe => { state := st, pending := pe, fn, tmps := a.tmps, params := ps, assign, body, defers := w.heap.size } := ⟨_, rfl⟩
  obtain ⟨W1, hW1⟩ : ∃ W1, (w.alloc (.deferred (some []))).alloc (.loop (rec .ready none)) = W1 := ⟨_, rfl⟩
  refine ⟨w.heap.size + 1, [{ target := .collected w.heap.size, args := #[] }], W1, { target := .fn (.func gf) lb, args := #[.func (.yield (w.heap.size + 1)) #[] #[]] }, W1, gf, #[.func (.yield (w.heap.size + 1)) #[] #[]] ++ lb, W1, ?_, ?_, fun _ _ => trivial, ?_, fun h => absurd h (by simp [Fence.wide]), ?_⟩
  · rw [← hW1, hrec]; exact run_enterLoop_outer _ _ _ _ _
  · simp only [resolve, hg]
    simp [go_sem]
  · simp [invoke, go_sem, eg]
  refine callsIn_wide.2 ?_
  have h1 := (hS.newObj (.deferred (some []))).newObj (.loop (rec .ready none))
  rw [World.size_alloc, hW1, hD] at h1
  rw [hD]
  let lp : List α → Res := fun p => objR (D + 1) (.loop (if okP go p = true then rec .ready none else rec .done (some .ret)))
  have h2 : Sep w0 F ((grpR [lp [], B A0 []] :: It) ++ (objR D (.deferred (some [])) :: L)) W1 := by
    refine Sep.grp.1 (h1.perm ?_)
    refine .cons _ ?_
    refine (List.Perm.swap _ _ _).trans (.cons _ ?_)
    exact List.perm_middle.symm
  refine (hI σ (.func (.yield (D + 1)) #[] #[]) (fun A p => grpR [lp p, B A p]) go ⟨_, _, rfl⟩ ?_ A0).call h2 ?_
  · -- one round
    intro pre x suf hx hok A w0 F L w hS
    have hS1 : Sep w0 F (lp pre :: B A pre :: L) w := Sep.grp.2 hS
    have hl : w.heap[D + 1]? = some (.loop (rec .ready none)) := by
      have := hS1.holds (lp pre) (by simp)
      simp only [lp, hok, if_true, objR] at this
      exact this
    have hy := run_yield (P := P) (args := encs x) hl (by rw [hrec]; exact hps x)
    rw [hrec] at hy
    have hS1' : Sep w0 F (B A pre :: (objR (D + 1) (.loop (rec .ready none)) :: L)) w := by
      have : lp pre = objR (D + 1) (.loop (rec .ready none)) := by simp only [lp, hok, if_true]
      rw [this] at hS1
      exact hS1.perm (.swap _ _ _)
    refine .inr ⟨D + 1, rfl, fn, _, assign, body, hy, roundIn_of_wpIn trivial (wpIn_mono (hround (D + 1) pre x suf hx hok A w0 F (objR (D + 1) (.loop (rec .ready none)) :: L) w hS1') ?_)⟩
    intro e1 a1 w1 h1
    cases e1 with
    | normal => ?_
    | ret => exact h1.elim
    | exit id => exact h1.elim
    | goto t => exact h1.elim
    | panic c => exact h1.elim
    | outgrown => exact h1.elim
    obtain ⟨X, hX, hb1⟩ := h1
    have pX : ∀ o : Res, List.Perm (X ++ (B A pre :: (o :: L))) (o :: (X ++ (B A pre :: L))) := fun o => (List.Perm.append_left X (.swap _ _ _)).trans List.perm_middle
    have hl1 : w1.heap[D + 1]? = some (.loop (rec .ready none)) := hX.holds (objR (D + 1) (.loop (rec .ready none))) (by simp)
    have hS2 : Sep w0 F (X ++ (B A pre :: (objR (D + 1) (.loop { rec .ready none with state := .busy }) :: L))) (w1.putObj (D + 1) (.loop { rec .ready none with state := .busy })) :=
      ((hX.perm (pX _)).putObj (o' := .loop { rec .ready none with state := .busy }) (.here _ _ _)).perm (pX _).symm
    refine ⟨_, run_beginRound hl1 (by rw [hrec]), ?_⟩
    refine wpIn_mono (hb1 _ _ hS2) ?_
    rintro e a3 W3 ⟨he, A', hS3⟩
    have hS4 := hS3.perm (.swap _ _ _)
    have hl3 : W3.heap[D + 1]? = some (.loop { rec .ready none with state := .busy }) := hS4.holds (objR _ _) (by simp)
    rcases he with ⟨rfl, hg⟩ | ⟨rfl, hg⟩
    · refine ⟨_, _, run_endRound none hl3, ?_⟩
      refine ⟨_, ⟨by rw [hg]; rfl, A', rfl⟩, ?_⟩
      have hS5 := hS4.putObj (o' := .loop { ({ rec .ready none with state := .busy } : Loop) with state := (if (none : Option Code).isNone then .ready else .done), pending := none }) (.here _ _ _)
      have e5 : lp (pre ++ [x]) = objR (D + 1) (.loop { ({ rec .ready none with state := .busy } : Loop) with state := (if (none : Option Code).isNone then .ready else .done), pending := none }) := by
        simp only [lp, okP, hg, Bool.or_true, if_true]
        rw [hrec]; rfl
      refine Sep.grp.1 ?_
      show Sep w0 F (lp (pre ++ [x]) :: B A' (pre ++ [x]) :: L) _
      rw [e5]; exact hS5
    · refine ⟨_, _, run_endRound (some .ret) hl3, ?_⟩
      refine ⟨_, ⟨by rw [hg]; rfl, A', rfl⟩, ?_⟩
      have hS5 := hS4.putObj (o' := .loop { ({ rec .ready none with state := .busy } : Loop) with state := (if (some Code.ret : Option Code).isNone then .ready else .done), pending := some .ret }) (.here _ _ _)
      have e5 : lp (pre ++ [x]) = objR (D + 1) (.loop { ({ rec .ready none with state := .busy } : Loop) with state := (if (some Code.ret : Option Code).isNone then .ready else .done), pending := some .ret }) := by
        have he : okP go (pre ++ [x]) = false := by simp [okP, hg]
        simp only [lp, he]
        rw [hrec]; rfl
      refine Sep.grp.1 ?_
      show Sep w0 F (lp (pre ++ [x]) :: B A' (pre ++ [x]) :: L) _
      rw [e5]; exact hS5
  · -- behind the iterator
    rintro v L' w' ⟨rfl, A', rfl⟩ hS5
    have hS6 : Sep w0 F (lp (runP go [] xs) :: B A' (runP go [] xs) :: (It ++ (objR D (.deferred (some [])) :: L))) w' := Sep.grp.2 hS5
    have hS7 : Sep w0 F (lp (runP go [] xs) :: objR D (.deferred (some [])) :: B A' (runP go [] xs) :: It ++ L) w' := by
      refine hS6.perm (.cons _ ?_)
      exact ((List.perm_middle (l₁ := It)).cons _).trans (.swap _ _ _)
    by_cases hok : okP go (runP go [] xs) = true
    · have e1 : lp (runP go [] xs) = objR (D + 1) (.loop (rec .ready none)) := by simp only [lp, hok, if_true]
      rw [e1] at hS7
      have hl : w'.heap[D + 1]? = some (.loop (rec .ready none)) := hS7.holds (objR _ _) (by simp)
      refine ⟨none, _, by have := run_endLoop (P := P) hl (by rw [hrec]; simp); rw [hrec] at this; exact this, ?_⟩
      have := hend D A' _ (Sep.drop (hS7.putObj (o' := .loop { rec .ready none with state := .exhausted }) (.here _ _ _)))
      rw [if_pos hok] at this
      rw [hrec] at this
      exact this
    · have e1 : lp (runP go [] xs) = objR (D + 1) (.loop (rec .done (some .ret))) := by simp only [lp, hok]; rfl
      rw [e1] at hS7
      have hl : w'.heap[D + 1]? = some (.loop (rec .done (some .ret))) := hS7.holds (objR _ _) (by simp)
      refine ⟨some .ret, _, by have := run_endLoop (P := P) hl (by rw [hrec]; simp); rw [hrec] at this; exact this, ?_⟩
      have := hend D A' _ (Sep.drop (hS7.putObj (o' := .loop { rec .done (some .ret) with state := .exhausted }) (.here _ _ _)))
      rw [if_neg hok] at this
      rw [hrec] at this
      exact wpIn_ret this

/-- A function that holds such a statement, from its body. -/
theorem calls_of_wpM {f : FuncId} {fn : Func} {c : Code} {args : Array Value} {R : Ending → World → Prop} (hf : P.funcs[f]? = some fn) (hb : fn.body = some c)
    (h : c.wp P (bodyPostM Fence.wide 0 P fn R) { tmps := args ++ Array.replicate (fn.ntmps - args.size) undef, defers := [] } w) : Calls P f args w R :=
  callsIn_wide (n := 0).1 (callsIn_of_wp_marks hf hb trivial (wpIn_wide.2 h))
/-- It ends behind the statement. -/
theorem ckM_end {fn : Func} {R : Ending → World → Prop} {D : Nat} {v : Value} {e : Exit} (he : e = .normal ∨ e = .ret) (hS : Sep w0 F (objR D (.deferred (some [])) :: L) w) (hd : a.defers = [{ target := .collected D, args := #[] }])
    (hr : ∀ w', Sep w0 F L w' → (results fn a.tmps).run P w' = .ok v w' ∧ R (.returned v) w') : bodyPostM Fence.wide 0 P fn R e a w := by
  have hK : w.heap[D]? = some (.deferred (some [])) := hS.holds (objR _ _) (by simp)
  have hS2 := (hS.putObj (o' := .deferred none) (.here _ _ _)).drop
  have : LeavesInM Fence.wide 0 P fn a.tmps R a.defers .returning w := by
    rw [hd]
    exact ⟨by simp, .inl ⟨D, _, rfl, run_takeDeferred hK, ⟨v, hr _ hS2⟩⟩⟩
  rcases he with rfl | rfl <;> exact this
theorem ckM_end0 {fn : Func} {R : Ending → World → Prop} {v : Value} {e : Exit} (he : e = .normal ∨ e = .ret) (hd : a.defers = []) (hr : (results fn a.tmps).run P w = .ok v w) (hR : R (.returned v) w) : bodyPostM Fence.wide 0 P fn R e a w := by
  have : LeavesInM Fence.wide 0 P fn a.tmps R a.defers .returning w := by
    rw [hd]
    exact ⟨v, hr, hR⟩
  rcases he with rfl | rfl <;> exact this
end
/-! ### Calls of function values; what is read -/
theorem set_two (f : Nat → Value) (u v : Value) : (((Array.range 2).map f).setIfInBounds 0 u).setIfInBounds 1 v = #[u, v] :=
  Array.ext (by simp) (fun i h1 h2 => by
    have h3 : i < 2 := by simpa using h2
    match i, h3 with
    | 0, _ => simp
    | 1, _ => simp)
section
variable {P : Program} {ops : Array Oper} {Q : Exit → Act → World → Prop} {rest : List Oper} {w w0 : World} {F : List Nat} {L L' L0 : List Res} {o : Oper} {a : Act} {x : Operand} {v : Value} {t : TypeId}
theorem ck_callV {gf : Nat} {lb : Array Value} {xs : Array Operand} {ts : Array TypeId} {args : Array Value} (ho : o.op = .call { callee := .value x, args := xs, argTypes := ts }) (hw : Region.wanted o (yielded ops a.tmps) = true) (hx : a.eval x = .func (.func gf) #[] lb) (hal : xs.toList.map a.eval = args.toList) (eg : ∀ u w, (callFunc gf u).run P w = .ok (.enter gf u) w)
    (hC : Calls P gf (args ++ lb) w (fun e w' => ∃ v, e = .returned v ∧ wpList P ops Q rest (a.put o.dst v) w')) : wpList P ops Q (o :: rest) a w := by
  have ha : xs.map a.eval = args := by rw [← Array.toList_inj, Array.toList_map]; exact hal
  unfold wpList
  rw [if_pos hw]
  refine .inl ?_
  have hrun : (execOp a.eval o).run P w = .ok (.enter gf (args ++ lb)) w := by
    unfold execOp
    simp only [ho, resolve, hx, ha]
    simp [invoke, go_sem, eg]
  unfold Oper.wp
  rw [hrun]
  refine hC.mono ?_
  rintro e w' ⟨v, rfl, h⟩
  exact h
/-- What a slice's elements are, whoever they belong to. -/
def Rd (w0 : World) (F : List Nat) (L : List Res) (A : Option Addr) (xs : List Value) : Prop :=
  ∀ w, Sep w0 F L w → ∀ i v, xs[i]? = some v → ∃ b off cs T fz, A = some ⟨b, off, none⟩ ∧ w.heap[b]? = some (.cells cs T fz) ∧ cs[off + i]? = some v
theorem Rd.row {A : Option Addr} {n cap : Nat} {e : TypeId} {xs : List Value} (hm : rowR A n cap e 1 xs ∈ L) : Rd w0 F L A xs := fun w hS i v hv => by
  have h := hS.holds _ hm
  cases A with
  | none => obtain ⟨_, _, rfl⟩ := h; simp at hv
  | some A =>
    obtain ⟨h1, h2, _, _, _, rest, _, hh⟩ := h
    obtain ⟨g, o, s⟩ := A
    obtain rfl : o = 0 := h1
    obtain rfl : s = none := h2
    refine ⟨g, 0, _, _, _, rfl, hh, ?_⟩
    rw [Nat.zero_add, List.getElem?_toArray, List.getElem?_append_left (List.getElem?_eq_some_iff.1 hv).1]; exact hv
theorem Rd.pts {q : Nat} {xs : List Value} {T : TypeId} (hm : pts q xs T ∈ L) : Rd w0 F L (some ⟨q, 0, none⟩) xs := fun w hS i v hv =>
  ⟨q, 0, _, _, _, rfl, hS.holds _ hm, by rw [Nat.zero_add, List.getElem?_toArray]; exact hv⟩
theorem Rd.old {b off : Nat} {cs : Array Value} {T : TypeId} {fz : Nat × Nat} {xs : List Value} (hb : b < w0.heap.size) (hh : w0.heap[b]? = some (.cells cs T fz)) (hv : ∀ i v, xs[i]? = some v → cs[off + i]? = some v) : Rd w0 [] L (some ⟨b, off, none⟩) xs := fun w hS i v hi =>
  ⟨b, off, cs, T, fz, rfl, hS.old hb hh, hv i v hi⟩
theorem ck_loadRd {A : Option Addr} {xs : List Value} {b off i : Nat} (hS : Sep w0 F L w) (hR : Rd w0 F L A xs) (ho : o.op = .load t x) (hw : Region.wanted o (yielded ops a.tmps) = true) (hA : A = some ⟨b, off, none⟩) (hx : a.eval x = .pointer (some ⟨b, off + i, none⟩)) (hv : xs[i]? = some v) (ht : ckScalar P t = true)
    (h : wpList P ops Q rest (a.put o.dst v) w) : wpList P ops Q (o :: rest) a w := by
  obtain ⟨b', off', cs, T, fz, e, hh, hc⟩ := hR w hS i v hv
  rw [hA] at e
  injection e with e; injection e with e1 e2 _; subst e1; subst e2
  exact wpList_val hw (exec_load ho hx (run_load1 (cs := cs.toList) ht (by simpa using hh) (by simpa using hc))) h
theorem ckT_loadRd {blk : Nat → Nat} {conf : Nat → List Nat} {flg : List Nat} {A : Option Addr} {xs : List Value} {b off i k : Nat} (hS : Sep w0 F L w) (hR : Rd w0 F L A xs) (ho : o.op = .load t x) (hw : Region.wanted o (yielded ops a.tmps) = true) (hA : A = some ⟨b, off, none⟩) (hx : a.eval x = .pointer (some ⟨b, off + i, none⟩)) (hb : k ∈ flg → b = blk k) (hv : xs[i]? = some v) (ht : ckScalar P t = true)
    (h : wpT P ops blk conf flg Q (k + 1) rest (a.put o.dst v) w) : wpT P ops blk conf flg Q k (o :: rest) a w := by
  obtain ⟨b', off', cs, T, fz, e, hh, hc⟩ := hR w hS i v hv
  rw [hA] at e
  injection e with e; injection e with e1 e2 _; subst e1; subst e2
  exact wpT_ld (A := ⟨b, off + i, none⟩) (by unfold ckCls; rw [ho]) hw hb (fun w' hw' => exec_load ho hx (run_load1 (cs := cs.toList) ht (by simpa using hw'.trans hh) (by simpa using hc))) h
def ckFuncTy (P : Program) (t : TypeId) : Bool := match P.underlying t with | some (.func ..) => true | _ => false
theorem equalIn_func {d : Nat} {f : Fn} {p c : Array Value} {ps rs : Array TypeId} {vr : Bool} (hu : P.underlying t = some (.func ps rs vr)) : (Op.equalIn (d + 1) t (.func f p c) .nilFunc).run P w = .ok false w := by
  rw [Op.equalIn]
  rw [Sem.run_bind, run_underlying hu w]
  rfl
theorem ck_funcNil {y : Operand} {z : TypeId} {f : Fn} {p c : Array Value} (ho : o.op = .binOp .eql t x y z) (hw : Region.wanted o (yielded ops a.tmps) = true) (hx : a.eval x = .func f p c) (hy : a.eval y = .nilFunc) (ht : ckFuncTy P t = true)
    (h : wpList P ops Q rest (a.put o.dst (.bool false)) w) : wpList P ops Q (o :: rest) a w := by
  refine wpList_val hw ?_ h
  unfold ckFuncTy at ht
  split at ht
  · rename_i hu
    have h1 : (Op.equal t (.func f p c) .nilFunc).run P w = .ok false w := equalIn_func (d := 9999) hu
    have h2 : (binOp .eql t (.func f p c) .nilFunc).run P w = .ok (.bool false) w := by
      show ((do pure (.bool (← Op.equal t (.func f p c) .nilFunc))) : Sem Value).run P w = _
      rw [Sem.run_bind, h1]; rfl
    have h3 : (eqGuard .eql t x y (.func f p c) .nilFunc).run P w = .ok () w := rfl
    unfold execOp
    simp only [ho, hx, hy, Sem.run_bind, h2, h3, Result.andThen_ok]
    rfl
  · cases ht
theorem ck_build2 {e : TypeId} {u : Value} {y z : Operand} (hS : Sep w0 F L w) (ho : o.op = .buildSlice t 2 #[(0, y), (1, z)]) (hw : Region.wanted o (yielded ops a.tmps) = true) (hy : Wh (a.eval y) u) (hz' : Wh (a.eval z) v) (h1 : u.oneCell' = true) (h2 : v.oneCell' = true) (ht : ckSlice P t e 1 = true)
    (h : ∀ (q : Nat) (w' : World), Sep w0 F (pts q [u, v] e :: L) w' → wpList P ops Q rest (a.put o.dst (.slice (some ⟨q, 0, none⟩) 2 2)) w') : wpList P ops Q (o :: rest) a w := by
  obtain ⟨hu, i, zz, hi, hz, hs, hb, hzs⟩ := ckSlice.out ht
  have hrun : (execOp a.eval o).run P w = .ok (.value (.slice (some ⟨w.heap.size, 0, none⟩) 2 2)) (w.alloc (.cells #[u, v] e)) := by
    have hvc : u.cells = #[u] := by cases u <;> first | rfl | simp [Value.oneCell'] at h1
    have hvd : v.cells = #[v] := by cases v <;> first | rfl | simp [Value.oneCell'] at h2
    unfold execOp
    simp [ho, Instr.buildSlice, run_underlying hu, sizeOf, typeInfo, hi, hs, zeroValue, hz, Instr.fill, hy.eq, hz'.eq, hvc, hvd, hzs, newRow, Result.andThen, Sem.run_bind, set_two]
  exact wpList_val hw hrun (h _ _ (hS.alloc [u, v] e))
end
end Go.Proofs.Ytchejceolnbcbaa
