/- The walk's steps over resources: loads, stores, new variables; in the order of a text, and in a region that draws its order. -/
import Derived.Test.YtchejceolnbcbaaCkRegion
import Derived.Test.YtchejceolnbcbaaCkSep
import Derived.Deep.MidRow
import Derived.Laws.CopyRow
set_option linter.unusedVariables false
set_option linter.unusedSimpArgs false
namespace Go.Proofs.Ytchejceolnbcbaa
open Go.RowKit

/-- A value, laid open as far as its head. -/
inductive Wh : Value → Value → Prop
  | int (k n) : Wh (.int k n) (.int k n)
  | bool (b) : Wh (.bool b) (.bool b)
  | pointer (a) : Wh (.pointer a) (.pointer a)
  | slice (a l c) : Wh (.slice a l c) (.slice a l c)
  | func (f x y) : Wh (.func f x y) (.func f x y)
  | nilFunc : Wh .nilFunc .nilFunc
  | iface (t v) : Wh (.iface t v) (.iface t v)
  | nilIface : Wh .nilIface .nilIface
  | string (s) : Wh (.string s) (.string s)
theorem Wh.eq {v v' : Value} (h : Wh v v') : v = v' := by cases h <;> rfl
/-- Its cells. -/
inductive WhC : Value → List Value → Prop
  | agg (l : List Value) : WhC (.agg l.toArray) l
  | int (k n) : WhC (.int k n) [.int k n]
  | bool (b) : WhC (.bool b) [.bool b]
  | pointer (a) : WhC (.pointer a) [.pointer a]
  | slice (a l c) : WhC (.slice a l c) [.slice a l c]
  | func (f x y) : WhC (.func f x y) [.func f x y]
  | nilFunc : WhC .nilFunc [.nilFunc]
  | iface (t v) : WhC (.iface t v) [.iface t v]
  | nilIface : WhC .nilIface [.nilIface]
  | string (s) : WhC (.string s) [.string s]
theorem WhC.eq {v : Value} {l : List Value} (h : WhC v l) : v.cells = l.toArray := by cases h <;> rfl

def ckScalar (P : Program) (t : TypeId) : Bool := match P.underlying t with | some (.struct _) | some (.array _ _) | none => false | _ => true
def ckAgg (P : Program) (t : TypeId) (n : Nat) : Bool := (match P.underlying t with | some d => d.isRow | none => false) && (P.info? t).map (·.size) == some n
def ckSize (P : Program) (t : TypeId) (n : Nat) : Bool := (P.info? t).map (·.size) == some n

section
variable {P : Program} {w w0 : World} {F : List Nat} {L L' : List Res} {o : Oper} {a : Act} {b off n : Nat} {cs vs : List Value} {T t : TypeId} {fz : Nat × Nat} {v : Value} {x y : Operand}

theorem run_loadVar_scalar (ht : ckScalar P t = true) {A : Addr} (hc : w.cell? A = some v) : (loadVar t A).run P w = .ok v w := by
  unfold ckScalar at ht
  cases hu : P.underlying t with
  | none => simp [hu] at ht
  | some d =>
    have hagg : (isAgg t).run P w = .ok false w := by
      unfold isAgg
      rw [Sem.run_bind, run_underlying hu w]
      cases d <;> simp_all
    simp [loadVar, Sem.run_bind, hagg, hc]

theorem exec_load {A : Addr} (ho : o.op = .load t x) (hx : a.eval x = .pointer (some A)) (h : (loadVar t A).run P w = .ok v w) : (execOp a.eval o).run P w = .ok (.value v) w := by
  unfold execOp
  simp only [ho, hx, Instr.loadAt, Instr.sureAddr, Sem.run_bind, Sem.run_pure, Result.andThen_ok, h]

theorem run_load1 (ht : ckScalar P t = true) (hb : w.heap[b]? = some (.cells cs.toArray T fz)) (hv : cs[off]? = some v) : (loadVar t ⟨b, off, none⟩).run P w = .ok v w :=
  run_loadVar_scalar ht (by unfold World.cell?; simp [hb, hv])

theorem run_loadN (ht : ckAgg P t n = true) (hb : w.heap[b]? = some (.cells cs.toArray T fz)) (hn : vs.length = n) (hv : ∀ j, j < n → cs[off + j]? = vs[j]?) : (loadVar t ⟨b, off, none⟩).run P w = .ok (.agg vs.toArray) w := by
  simp only [ckAgg, Bool.and_eq_true, beq_iff_eq] at ht
  cases hu : P.underlying t with
  | none => simp [hu] at ht
  | some d =>
    have := run_loadVar_mid (P := P) w b off t vs d (fun j u hj => by
      have hjn : j < n := by rw [← hn]; exact (List.getElem?_eq_some_iff.1 hj).1
      unfold World.cell?; simp only [hb, Option.isSome_none, Bool.false_eq_true, if_false]
      rw [List.getElem?_toArray, hv j hjn, ← hj]) hu (by have := ht.1; simpa [hu] using this) (by rw [ht.2, ← hn])
    simpa using this

/-- A block's cells, some of which are replaced. -/
def ckPut (cs : List Value) (off : Nat) (vs : List Value) : List Value := cs.take off ++ vs ++ cs.drop (off + vs.length)
theorem ckPut_length (h : off + vs.length ≤ cs.length) : (ckPut cs off vs).length = cs.length := by simp [ckPut]; omega

theorem run_store1 (ht : ckSize P t 1 = true) (hv : v.oneCell' = true) (hb : w.heap[b]? = some (.cells cs.toArray T (0, 0))) (ho : off < cs.length) : (storeVar t ⟨b, off, none⟩ v).run P w = .ok () (w.setCell ⟨b, off, none⟩ v) := by
  simp only [ckSize, beq_iff_eq] at ht
  cases hq : P.info? t with
  | none => simp [hq] at ht
  | some i =>
    have hs : i.size = 1 := by simpa [hq] using ht
    have hc : v.cells = #[v] := by cases v <;> first | rfl | simp [Value.oneCell'] at hv
    have hst : (store ((⟨b, off, none⟩ : Addr).add 0) v).run P w = .ok () (w.setCell ⟨b, off, none⟩ v) := by
      have hadd : (⟨b, off, none⟩ : Addr).add 0 = ⟨b, off, none⟩ := by simp [Addr.add]
      rw [hadd, run_store P w _ v _ hv]
      have hcell : w.cell? ⟨b, off, none⟩ = some cs[off] := by unfold World.cell?; simp [hb, ho]
      have hfro : w.frozen? ⟨b, off, none⟩ = false := by unfold World.frozen?; simp [hb]
      simp [hcell, hfro]
    simp [storeVar, sizeOf, typeInfo, hq, hc, hs, storeCells, hst]

theorem run_storeN (ht : ckSize P t vs.length = true) (hv : vs.all (·.oneCell') = true) (hb : w.heap[b]? = some (.cells cs.toArray T (0, 0))) (ho : off + vs.length ≤ cs.length) :
    (storeVar t ⟨b, off, none⟩ (.agg vs.toArray)).run P w = .ok () (w.setRow b (ckPut cs off vs).toArray) := by
  simp only [ckSize, beq_iff_eq] at ht
  cases hq : P.info? t with
  | none => simp [hq] at ht
  | some i =>
    have hs : i.size = vs.length := by simpa [hq] using ht
    have := run_storeCells_at P b off T vs 0 cs.toArray w hb (by simpa using ho) (fun u hu => (List.all_eq_true.1 hv) u hu)
    simp only [Nat.add_zero] at this
    simp [storeVar, sizeOf, typeInfo, hq, Value.cells, hs, this, ckPut]

theorem exec_store {A : Addr} {w' : World} (ho : o.op = .store t x y) (hx : a.eval x = .pointer (some A)) (hy : a.eval y = v) (h : (storeVar t A v).run P w = .ok () w') : (execOp a.eval o).run P w = .ok .skip w' := by
  unfold execOp
  simp only [ho, hx, hy, Instr.storeAt, Instr.sureAddr, Sem.run_bind, Sem.run_pure, Result.andThen_ok, h]

theorem exec_box (ho : o.op = .box t x) (hx : WhC (a.eval x) cs) : (execOp a.eval o).run P w = .ok (.value (.pointer (some ⟨w.heap.size, 0, none⟩))) (w.alloc (.cells cs.toArray t)) := by
  rw [← hx.eq]
  unfold execOp
  simp only [ho, Instr.box, newVar, newRow, newObj, Sem.run_bind, Sem.run_pure, Result.andThen_ok, Sem.run_map]
  rfl

theorem exec_alloc (ho : o.op = .alloc t) (hz : (P.info? t).bind (·.zero) = some v) : (execOp a.eval o).run P w = .ok (.value (.pointer (some ⟨w.heap.size, 0, none⟩))) (w.alloc (.cells v.cells t)) := by
  cases hq : P.info? t with
  | none => simp [hq] at hz
  | some i =>
    have hz' : i.zero = some v := by simpa [hq] using hz
    unfold execOp
    simp only [ho, Instr.alloc, zeroValue, typeInfo, newVar, newRow, newObj]
    simp [hq, hz']
    rfl

theorem Sep.setRow (h : Sep w0 F L w) (cs' : List Value) (hu : Upd L (pts b cs T) (pts b cs' T) L') : Sep w0 F L' (w.setRow b cs'.toArray) := by
  have h' : w.heap[b]? = some (.cells cs.toArray T (0, 0)) := h.holds _ hu.mem
  refine h.upd hu rfl rfl rfl (by simp [World.setRow]) (fun i hi hn => ?_) (by simp [pts]) (fun c hc => ?_) (setRow_heap w b cs.toArray cs'.toArray T (0, 0) h')
  · have hne : ¬ b = i := fun e => hn (by simp [pts, e])
    simp [World.setRow, Array.getElem?_modify, hne]
  · have : c = b := by simpa [pts] using hc
    subst this
    exact ⟨by simp [World.setRow]; exact (h.own c (List.mem_flatMap.2 ⟨_, hu.mem, by simp [pts]⟩)).1, .inl (by simp [pts])⟩

theorem run_index1 {e : TypeId} {m : Nat} {k : IntKind} {q : Int} {l : List Value} (hu : P.underlying t = some (.array m e)) (ho : o.op = .index t x y) (hx : a.eval x = .agg l.toArray) (hy : a.eval y = .int k q) (h0 : 0 ≤ q) (h1 : q < m) (hv : l[q.toNat]? = some v) (he : ckScalar P e = true) (hs : ckSize P e 1 = true) (w : World) : (execOp a.eval o).run P w = .ok (.value v) w := by
  unfold ckScalar at he
  simp only [ckSize, beq_iff_eq] at hs
  cases hue : P.underlying e with
  | none => simp [hue] at he
  | some d =>
    cases hq : P.info? e with
    | none => simp [hq] at hs
    | some i =>
      have hs' : i.size = 1 := by simpa [hq] using hs
      have hagg : ∀ w, (isAgg e).run P w = .ok false w := fun w => by
        unfold isAgg
        rw [Sem.run_bind, run_underlying hue w]
        cases d <;> simp_all
      have hsz : ∀ w, (sizeOf e).run P w = .ok 1 w := fun w => by simp [sizeOf, typeInfo, hq, hs']
      have hix : (Instr.index t (.agg l.toArray) (.int k q)).run P w = .ok v w := by
        simp only [Instr.index, asIntOf, Sem.run_bind, Sem.run_pure, Result.andThen_ok, run_underlying hu]
        rw [if_pos ⟨h0, h1⟩]
        simp only [Sem.run_bind, hsz, Result.andThen_ok, part, hagg, Nat.mul_one, List.getElem?_toArray, hv]
        rfl
      unfold execOp
      simp only [ho, hx, hy, Sem.run_bind, hix, Result.andThen_ok]
      rfl
theorem max_if (p q : Int) : (if q > p then q else p) = max p q := by split <;> omega
theorem min_if (p q : Int) : (if q < p then q else p) = min p q := by split <;> omega
theorem run_max2 {t u : TypeId} {k : IntKind} (p q : Int) (ho : o.op = .call { callee := .builtin .max, args := #[x, y], argTypes := #[t, u] }) (hx : a.eval x = .int k p) (hy : a.eval y = .int k q) (w : World) : (execOp a.eval o).run P w = .ok (.value (.int k (max p q))) w := by
  unfold execOp
  simp only [ho, resolve, invoke, builtin, Sem.run_bind, Sem.run_pure, Result.andThen_ok, List.map_toArray, List.map_cons, List.map_nil, hx, hy]
  have : (Builtin.max_ #[t, u] o.type #[.int k p, .int k q]).run P w = .ok (.int k (max p q)) w := by
    show (Builtin.max2 (.int k p) (.int k q) >>= fun b => List.foldlM Builtin.max2 b []).run P w = _
    simp only [Builtin.max2, List.foldlM_nil, Sem.run_bind, Sem.run_pure, Result.andThen_ok, max_if]
  rw [this]; rfl
theorem run_min2 {t u : TypeId} {k : IntKind} (p q : Int) (ho : o.op = .call { callee := .builtin .min, args := #[x, y], argTypes := #[t, u] }) (hx : a.eval x = .int k p) (hy : a.eval y = .int k q) (w : World) : (execOp a.eval o).run P w = .ok (.value (.int k (min p q))) w := by
  unfold execOp
  simp only [ho, resolve, invoke, builtin, Sem.run_bind, Sem.run_pure, Result.andThen_ok, List.map_toArray, List.map_cons, List.map_nil, hx, hy]
  have : (Builtin.min_ #[t, u] o.type #[.int k p, .int k q]).run P w = .ok (.int k (min p q)) w := by
    show (Builtin.min2 (.int k p) (.int k q) >>= fun b => List.foldlM Builtin.min2 b []).run P w = _
    simp only [Builtin.min2, List.foldlM_nil, Sem.run_bind, Sem.run_pure, Result.andThen_ok, min_if]
  rw [this]; rfl
end

/-! ### In the order of the text -/
section
variable {P : Program} {ops : Array Oper} {Q : Exit → Act → World → Prop} {rest : List Oper} {w w0 : World} {F : List Nat} {L L' : List Res} {o : Oper} {a : Act} {b off n : Nat} {cs vs : List Value} {T t : TypeId} {fz : Nat × Nat} {v : Value} {x y : Operand}

theorem wpList_val {w' : World} (hw : Region.wanted o (yielded ops a.tmps) = true) (hr : (execOp a.eval o).run P w = .ok (.value v) w') (h : wpList P ops Q rest (a.put o.dst v) w') : wpList P ops Q (o :: rest) a w := by
  unfold wpList
  rw [if_pos hw]
  exact .inl (by unfold Oper.wp; rw [hr]; exact h)
theorem wpList_skp {w' : World} (hw : Region.wanted o (yielded ops a.tmps) = true) (hr : (execOp a.eval o).run P w = .ok .skip w') (h : wpList P ops Q rest (a.put o.dst undef) w') : wpList P ops Q (o :: rest) a w := by
  unfold wpList
  rw [if_pos hw]
  exact .inl (by unfold Oper.wp; rw [hr]; exact h)

theorem ck_index {e : TypeId} {m : Nat} {k : IntKind} {q : Int} {l : List Value} (hu : P.underlying t = some (.array m e)) (ho : o.op = .index t x y) (hw : Region.wanted o (yielded ops a.tmps) = true) (hx : a.eval x = .agg l.toArray) (hy : a.eval y = .int k q) (h0 : 0 ≤ q) (h1 : q < m) (hv : l[q.toNat]? = some v) (he : ckScalar P e = true) (hs : ckSize P e 1 = true)
    (h : wpList P ops Q rest (a.put o.dst v) w) : wpList P ops Q (o :: rest) a w := wpList_val hw (run_index1 hu ho hx hy h0 h1 hv he hs w) h
theorem ck_max {u : TypeId} {k : IntKind} {p q : Int} (ho : o.op = .call { callee := .builtin .max, args := #[x, y], argTypes := #[t, u] }) (hw : Region.wanted o (yielded ops a.tmps) = true) (hx : a.eval x = .int k p) (hy : a.eval y = .int k q)
    (h : wpList P ops Q rest (a.put o.dst (.int k (max p q))) w) : wpList P ops Q (o :: rest) a w := wpList_val hw (run_max2 p q ho hx hy w) h
theorem ck_min {u : TypeId} {k : IntKind} {p q : Int} (ho : o.op = .call { callee := .builtin .min, args := #[x, y], argTypes := #[t, u] }) (hw : Region.wanted o (yielded ops a.tmps) = true) (hx : a.eval x = .int k p) (hy : a.eval y = .int k q)
    (h : wpList P ops Q rest (a.put o.dst (.int k (min p q))) w) : wpList P ops Q (o :: rest) a w := wpList_val hw (run_min2 p q ho hx hy w) h
theorem ck_load (hS : Sep w0 F L w) (ho : o.op = .load t x) (hw : Region.wanted o (yielded ops a.tmps) = true) (hx : a.eval x = .pointer (some ⟨b, off, none⟩)) (hm : pts b cs T ∈ L) (hv : cs[off]? = some v) (ht : ckScalar P t = true)
    (h : wpList P ops Q rest (a.put o.dst v) w) : wpList P ops Q (o :: rest) a w :=
  wpList_val hw (exec_load ho hx (run_load1 ht (hS.holds _ hm) hv)) h
theorem ck_loadN (hS : Sep w0 F L w) (ho : o.op = .load t x) (hw : Region.wanted o (yielded ops a.tmps) = true) (hx : a.eval x = .pointer (some ⟨b, off, none⟩)) (hm : pts b cs T ∈ L) (hv : ∀ j, j < n → cs[off + j]? = vs[j]?) (ht : ckAgg P t n = true) (hn : vs.length = n)
    (h : wpList P ops Q rest (a.put o.dst (.agg vs.toArray)) w) : wpList P ops Q (o :: rest) a w :=
  wpList_val hw (exec_load ho hx (run_loadN ht (hS.holds _ hm) hn hv)) h
/-- A block that was there before, and that nobody may touch. -/
theorem Sep.old {c : Array Value} (hS : Sep w0 [] L w) (hb : b < w0.heap.size) (h0 : w0.heap[b]? = some (.cells c T fz)) : w.heap[b]? = some (.cells c T fz) := (hS.frame b hb (by simp)).trans h0
theorem ck_loadOld {c : Array Value} (hS : Sep w0 [] L w) (ho : o.op = .load t x) (hw : Region.wanted o (yielded ops a.tmps) = true) (hx : a.eval x = .pointer (some ⟨b, off, none⟩)) (hb : b < w0.heap.size) (h0 : w0.heap[b]? = some (.cells c T fz)) (hv : c[off]? = some v) (ht : ckScalar P t = true)
    (h : wpList P ops Q rest (a.put o.dst v) w) : wpList P ops Q (o :: rest) a w :=
  wpList_val hw (exec_load ho hx (run_load1 (cs := c.toList) ht (by simpa using hS.old hb h0) (by simpa using hv))) h
theorem ck_loadOldN {c : Array Value} (hS : Sep w0 [] L w) (ho : o.op = .load t x) (hw : Region.wanted o (yielded ops a.tmps) = true) (hx : a.eval x = .pointer (some ⟨b, off, none⟩)) (hb : b < w0.heap.size) (h0 : w0.heap[b]? = some (.cells c T fz)) (hv : ∀ j, j < n → c[off + j]? = vs[j]?) (ht : ckAgg P t n = true) (hn : vs.length = n)
    (h : wpList P ops Q rest (a.put o.dst (.agg vs.toArray)) w) : wpList P ops Q (o :: rest) a w :=
  wpList_val hw (exec_load ho hx (run_loadN (cs := c.toList) ht (by simpa using hS.old hb h0) hn (by simpa using hv))) h
theorem ck_store (hS : Sep w0 F L w) (ho : o.op = .store t x y) (hw : Region.wanted o (yielded ops a.tmps) = true) (hx : a.eval x = .pointer (some ⟨b, off, none⟩)) (hy : Wh (a.eval y) v) (hu : Upd L (pts b cs T) (pts b (cs.set off v) T) L') (hl : off < cs.length) (hv : v.oneCell' = true) (ht : ckSize P t 1 = true)
    (h : ∀ w', Sep w0 F L' w' → wpList P ops Q rest (a.put o.dst undef) w') : wpList P ops Q (o :: rest) a w :=
  wpList_skp hw (exec_store ho hx hy.eq (run_store1 ht hv (hS.holds _ hu.mem) hl)) (h _ (hS.setCell v hu))
theorem ck_storeN (hS : Sep w0 F L w) (ho : o.op = .store t x y) (hw : Region.wanted o (yielded ops a.tmps) = true) (hx : a.eval x = .pointer (some ⟨b, off, none⟩)) (hy : a.eval y = .agg vs.toArray) (hu : Upd L (pts b cs T) (pts b (ckPut cs off vs) T) L') (hl : off + vs.length ≤ cs.length) (hv : vs.all (·.oneCell') = true) (ht : ckSize P t vs.length = true)
    (h : ∀ w', Sep w0 F L' w' → wpList P ops Q rest (a.put o.dst undef) w') : wpList P ops Q (o :: rest) a w :=
  wpList_skp hw (exec_store ho hx hy (run_storeN ht hv (hS.holds _ hu.mem) hl)) (h _ (hS.setRow _ hu))
theorem ck_loadAll (hS : Sep w0 F L w) (ho : o.op = .load t x) (hw : Region.wanted o (yielded ops a.tmps) = true) (hx : a.eval x = .pointer (some ⟨b, 0, none⟩)) (hm : pts b cs T ∈ L) (hn : cs.length = n) (ht : ckAgg P t n = true)
    (h : wpList P ops Q rest (a.put o.dst (.agg cs.toArray)) w) : wpList P ops Q (o :: rest) a w :=
  ck_loadN hS ho hw hx hm (fun j _ => by rw [Nat.zero_add]) ht hn h
/-- Some cells out of the middle. -/
theorem sub_at {off : Nat} (hl : off + n ≤ cs.length) : ∀ j, j < n → cs[off + j]? = ((cs.drop off).take n)[j]? := fun j hj => by
  rw [List.getElem?_take_of_lt hj, List.getElem?_drop]
theorem ck_loadSub (n : Nat) (hS : Sep w0 F L w) (ho : o.op = .load t x) (hw : Region.wanted o (yielded ops a.tmps) = true) (hx : a.eval x = .pointer (some ⟨b, off, none⟩)) (hm : pts b cs T ∈ L) (hl : off + n ≤ cs.length) (ht : ckAgg P t n = true)
    (h : wpList P ops Q rest (a.put o.dst (.agg ((cs.drop off).take n).toArray)) w) : wpList P ops Q (o :: rest) a w :=
  ck_loadN hS ho hw hx hm (sub_at hl) ht (by simp; omega) h
theorem ckPut_all (h : vs.length = cs.length) : ckPut cs 0 vs = vs := by simp [ckPut, h]
theorem ck_storeAll (hS : Sep w0 F L w) (ho : o.op = .store t x y) (hw : Region.wanted o (yielded ops a.tmps) = true) (hx : a.eval x = .pointer (some ⟨b, 0, none⟩)) (hy : a.eval y = .agg vs.toArray) (hu : Upd L (pts b cs T) (pts b vs T) L') (hl : vs.length = cs.length) (hv : vs.all (·.oneCell') = true) (ht : ckSize P t vs.length = true)
    (h : ∀ w', Sep w0 F L' w' → wpList P ops Q rest (a.put o.dst undef) w') : wpList P ops Q (o :: rest) a w :=
  ck_storeN hS ho hw hx hy (by rw [ckPut_all hl]; exact hu) (by omega) hv ht h
theorem ck_box (hS : Sep w0 F L w) (ho : o.op = .box t x) (hw : Region.wanted o (yielded ops a.tmps) = true) (hx : WhC (a.eval x) cs)
    (h : ∀ nb w', Sep w0 F (pts nb cs t :: L) w' → wpList P ops Q rest (a.put o.dst (.pointer (some ⟨nb, 0, none⟩))) w') : wpList P ops Q (o :: rest) a w :=
  wpList_val hw (exec_box ho hx) (h _ _ (hS.alloc _ _))
theorem ck_alloc (hS : Sep w0 F L w) (ho : o.op = .alloc t) (hw : Region.wanted o (yielded ops a.tmps) = true) (hz : (P.info? t).bind (·.zero) = some v) (hc : v.cells = cs.toArray)
    (h : ∀ nb w', Sep w0 F (pts nb cs t :: L) w' → wpList P ops Q rest (a.put o.dst (.pointer (some ⟨nb, 0, none⟩))) w') : wpList P ops Q (o :: rest) a w :=
  wpList_val hw (by have := exec_alloc (w := w) (a := a) ho hz; rw [hc] at this; exact this) (h _ _ (hS.alloc _ _))
end

/-! ### A result that is kept in a variable -/
section
variable {P : Program} {w w0 : World} {F : List Nat} {L : List Res} {a : Act} {b n : Nat} {cs : List Value} {T t : TypeId} {fn : Func} {x y : Tmp}
theorem run_loadAll (hS : Sep w0 F L w) (hm : pts b cs T ∈ L) (hn : cs.length = n) (ht : ckAgg P t n = true) : (loadVar t ⟨b, 0, none⟩).run P w = .ok (.agg cs.toArray) w :=
  run_loadN ht (hS.holds _ hm) hn (fun j _ => by rw [Nat.zero_add])
theorem ckRes_cell (hS : Sep w0 F L w) (hm : pts b cs T ∈ L) (hr : fn.results = #[.cell x t]) (hx : a.tmps.getD x undef = .pointer (some ⟨b, 0, none⟩)) (hn : cs.length = n) (ht : ckAgg P t n = true) : (results fn a.tmps).run P w = .ok (.agg cs.toArray) w := by
  have hx' := hx
  rw [Array.getD_eq_getD_getElem?] at hx'
  simp [results, hr, hx', asAddr, Sem.run_bind, run_loadAll hS hm hn ht]
theorem ckRes_cell_tmp (hS : Sep w0 F L w) (hm : pts b cs T ∈ L) (hr : fn.results = #[.cell x t, .tmp y]) (hx : a.tmps.getD x undef = .pointer (some ⟨b, 0, none⟩)) (hn : cs.length = n) (ht : ckAgg P t n = true) : (results fn a.tmps).run P w = .ok (.tuple #[.agg cs.toArray, a.tmps.getD y undef]) w := by
  have hx' := hx
  rw [Array.getD_eq_getD_getElem?] at hx'
  simp [results, hr, hx', asAddr, Sem.run_bind, run_loadAll hS hm hn ht]
theorem ckRes_tmp_cell (hS : Sep w0 F L w) (hm : pts b cs T ∈ L) (hr : fn.results = #[.tmp y, .cell x t]) (hx : a.tmps.getD x undef = .pointer (some ⟨b, 0, none⟩)) (hn : cs.length = n) (ht : ckAgg P t n = true) : (results fn a.tmps).run P w = .ok (.tuple #[a.tmps.getD y undef, .agg cs.toArray]) w := by
  have hx' := hx
  rw [Array.getD_eq_getD_getElem?] at hx'
  simp [results, hr, hx', asAddr, Sem.run_bind, run_loadAll hS hm hn ht]
end

/-! ### In a region that draws its order -/
section
variable {P : Program} {ops : Array Oper} {blk : Nat → Nat} {conf : Nat → List Nat} {flg : List Nat} {Q : Exit → Act → World → Prop} {rest : List Oper} {w w0 : World} {F : List Nat} {L L' : List Res} {o : Oper} {a : Act} {i b off n : Nat} {cs vs : List Value} {T t : TypeId} {fz : Nat × Nat} {v : Value} {x y : Operand}

def wpT (P : Program) (ops : Array Oper) (blk : Nat → Nat) (conf : Nat → List Nat) (flg : List Nat) (Q : Exit → Act → World → Prop) : Nat → List Oper → Act → World → Prop
  | _, [], a, w => Q .normal a w
  | i, o :: rest, a, w =>
    if ckCls o = 2 then (if Region.wanted o (yielded ops a.tmps) = true then o.wp P a w (fun a' w' => (∀ j ∈ conf i, w'.heap[blk j]? = w.heap[blk j]?) ∧ wpT P ops blk conf flg Q (i + 1) rest a' w') Q else wpT P ops blk conf flg Q (i + 1) rest (a.put o.dst undef) w)
    else ∃ v B, (ckCls o = 0 → B = none) ∧ (∀ b, B = some b → i ∈ flg → b = blk i) ∧ Quiet1 P ops o v B w a ∧ wpT P ops blk conf flg Q (i + 1) rest (a.put o.dst v) w

theorem wpX_of_T : ∀ (l : List Oper) (k : Nat) (a : Act) (w : World), (∀ j, l[j]? = ops[k + j]?) → wpT P ops blk conf flg Q k l a w → wpX P ops blk conf flg Q (List.range' k l.length) a w
  | [], k, a, w, _, h => h
  | o :: l, k, a, w, hl, h => by
    have h0 : ops[k]? = some o := by simpa using (hl 0).symm
    have hl' : ∀ j, l[j]? = ops[(k + 1) + j]? := fun j => by have := hl (j + 1); simpa [Nat.add_assoc, Nat.add_comm 1 j] using this
    simp only [List.length_cons, List.range'_succ, wpX]
    unfold wpT at h
    by_cases hc : ckCls o = 2
    · rw [if_pos hc] at h
      rw [xOp_act h0 hc]
      split
      · rename_i hw; rw [if_pos hw] at h; exact Oper.wp_mono (fun a w hk => ⟨hk.1, wpX_of_T l (k + 1) a w hl' hk.2⟩) h
      · rename_i hw; rw [if_neg hw] at h; exact wpX_of_T l (k + 1) _ _ hl' h
    · rw [if_neg hc] at h
      rw [xOp_quiet h0 hc]
      obtain ⟨v, B, h1, h2, h3, h4⟩ := h
      exact ⟨v, B, h1, h2, h3, wpX_of_T l (k + 1) _ _ hl' h4⟩

/-- **The region.** -/
theorem ck_region {id : Nat} {l : List Oper} (blk : Nat → Nat) (conf : Nat → List Nat) (flg : List Nat) (hS : Sep w0 F L w) (hm : P.follows .mixedOrders = true) (hok : okX l.toArray conf flg = true) (hQ : OnlyEnd Q)
    (h : ∀ w', Sep w0 F L w' → (∀ b : Nat, w'.heap[b]? = w.heap[b]?) → wpT P l.toArray blk conf flg Q 0 l a w') : (Code.region id l.toArray true).wp P Q a w :=
  wp_region_x blk conf flg hm hok hQ (by
    have := wpX_of_T (P := P) (ops := l.toArray) (blk := blk) (conf := conf) (flg := flg) (Q := Q) l 0 a w.drew (fun j => by simp) (h _ hS.drew (fun _ => rfl))
    simpa using this)

theorem wpT_nil (h : Q .normal a w) : wpT P ops blk conf flg Q i [] a w := h
theorem wpT_skip (hw : Region.wanted o (yielded ops a.tmps) = false) (h : wpT P ops blk conf flg Q (i + 1) rest (a.put o.dst undef) w) : wpT P ops blk conf flg Q i (o :: rest) a w := by
  unfold wpT
  split
  · rw [if_neg (by simp [hw])]; exact h
  · exact ⟨undef, none, fun _ => rfl, (fun b hb => by cases hb), .inl ⟨hw, rfl⟩, h⟩
theorem wpT_pure (hc : ckCls o = 0) (hw : Region.wanted o (yielded ops a.tmps) = true) (hr : ∀ w', (execOp a.eval o).run P w' = .ok (.value v) w') (h : wpT P ops blk conf flg Q (i + 1) rest (a.put o.dst v) w) : wpT P ops blk conf flg Q i (o :: rest) a w := by
  unfold wpT
  rw [if_neg (by omega)]
  exact ⟨v, none, fun _ => rfl, (fun b hb => by cases hb), .inr ⟨hw, fun w' _ => hr w'⟩, h⟩
theorem wpT_ld {A : Addr} (hc : ckCls o = 1) (hw : Region.wanted o (yielded ops a.tmps) = true) (hb : i ∈ flg → b = blk i) (hr : ∀ w', w'.heap[b]? = w.heap[b]? → (execOp a.eval o).run P w' = .ok (.value v) w') (h : wpT P ops blk conf flg Q (i + 1) rest (a.put o.dst v) w) : wpT P ops blk conf flg Q i (o :: rest) a w := by
  unfold wpT
  rw [if_neg (by omega)]
  exact ⟨v, some b, fun h0 => by omega, fun c hc hi => by cases hc; exact hb hi, .inr ⟨hw, fun w' hw' => hr w' (hw' b rfl)⟩, h⟩
theorem ckT_index {e : TypeId} {m : Nat} {k : IntKind} {q : Int} {l : List Value} (hu : P.underlying t = some (.array m e)) (ho : o.op = .index t x y) (hw : Region.wanted o (yielded ops a.tmps) = true) (hx : a.eval x = .agg l.toArray) (hy : a.eval y = .int k q) (h0 : 0 ≤ q) (h1 : q < m) (hv : l[q.toNat]? = some v) (he : ckScalar P e = true) (hs : ckSize P e 1 = true)
    (h : wpT P ops blk conf flg Q (i + 1) rest (a.put o.dst v) w) : wpT P ops blk conf flg Q i (o :: rest) a w := wpT_pure (by unfold ckCls; rw [ho]) hw (run_index1 hu ho hx hy h0 h1 hv he hs) h
theorem ckT_max {u : TypeId} {k : IntKind} {p q : Int} (ho : o.op = .call { callee := .builtin .max, args := #[x, y], argTypes := #[t, u] }) (hw : Region.wanted o (yielded ops a.tmps) = true) (hx : a.eval x = .int k p) (hy : a.eval y = .int k q)
    (h : wpT P ops blk conf flg Q (i + 1) rest (a.put o.dst (.int k (max p q))) w) : wpT P ops blk conf flg Q i (o :: rest) a w := wpT_pure (by unfold ckCls; rw [ho]) hw (run_max2 p q ho hx hy) h
theorem ckT_min {u : TypeId} {k : IntKind} {p q : Int} (ho : o.op = .call { callee := .builtin .min, args := #[x, y], argTypes := #[t, u] }) (hw : Region.wanted o (yielded ops a.tmps) = true) (hx : a.eval x = .int k p) (hy : a.eval y = .int k q)
    (h : wpT P ops blk conf flg Q (i + 1) rest (a.put o.dst (.int k (min p q))) w) : wpT P ops blk conf flg Q i (o :: rest) a w := wpT_pure (by unfold ckCls; rw [ho]) hw (run_min2 p q ho hx hy) h
theorem ckT_load (hS : Sep w0 F L w) (ho : o.op = .load t x) (hw : Region.wanted o (yielded ops a.tmps) = true) (hx : a.eval x = .pointer (some ⟨b, off, none⟩)) (hb : i ∈ flg → b = blk i) (hm : pts b cs T ∈ L) (hv : cs[off]? = some v) (ht : ckScalar P t = true)
    (h : wpT P ops blk conf flg Q (i + 1) rest (a.put o.dst v) w) : wpT P ops blk conf flg Q i (o :: rest) a w :=
  wpT_ld (A := ⟨b, off, none⟩) (by unfold ckCls; rw [ho]) hw hb (fun w' hw' => exec_load ho hx (run_load1 ht (hw'.trans (hS.holds _ hm)) hv)) h
theorem ckT_loadN (hS : Sep w0 F L w) (ho : o.op = .load t x) (hw : Region.wanted o (yielded ops a.tmps) = true) (hx : a.eval x = .pointer (some ⟨b, off, none⟩)) (hb : i ∈ flg → b = blk i) (hm : pts b cs T ∈ L) (hv : ∀ j, j < n → cs[off + j]? = vs[j]?) (ht : ckAgg P t n = true) (hn : vs.length = n)
    (h : wpT P ops blk conf flg Q (i + 1) rest (a.put o.dst (.agg vs.toArray)) w) : wpT P ops blk conf flg Q i (o :: rest) a w :=
  wpT_ld (A := ⟨b, off, none⟩) (by unfold ckCls; rw [ho]) hw hb (fun w' hw' => exec_load ho hx (run_loadN ht (hw'.trans (hS.holds _ hm)) hn hv)) h
theorem ckT_loadOld {c : Array Value} (hS : Sep w0 [] L w) (ho : o.op = .load t x) (hw : Region.wanted o (yielded ops a.tmps) = true) (hx : a.eval x = .pointer (some ⟨b, off, none⟩)) (hf : i ∈ flg → b = blk i) (hb : b < w0.heap.size) (h0 : w0.heap[b]? = some (.cells c T fz)) (hv : c[off]? = some v) (ht : ckScalar P t = true)
    (h : wpT P ops blk conf flg Q (i + 1) rest (a.put o.dst v) w) : wpT P ops blk conf flg Q i (o :: rest) a w :=
  wpT_ld (A := ⟨b, off, none⟩) (by unfold ckCls; rw [ho]) hw hf (fun w' hw' => exec_load ho hx (run_load1 (cs := c.toList) ht (by simpa using hw'.trans (hS.old hb h0)) (by simpa using hv))) h
theorem ckT_loadOldN {c : Array Value} (hS : Sep w0 [] L w) (ho : o.op = .load t x) (hw : Region.wanted o (yielded ops a.tmps) = true) (hx : a.eval x = .pointer (some ⟨b, off, none⟩)) (hf : i ∈ flg → b = blk i) (hb : b < w0.heap.size) (h0 : w0.heap[b]? = some (.cells c T fz)) (hv : ∀ j, j < n → c[off + j]? = vs[j]?) (ht : ckAgg P t n = true) (hn : vs.length = n)
    (h : wpT P ops blk conf flg Q (i + 1) rest (a.put o.dst (.agg vs.toArray)) w) : wpT P ops blk conf flg Q i (o :: rest) a w :=
  wpT_ld (A := ⟨b, off, none⟩) (by unfold ckCls; rw [ho]) hw hf (fun w' hw' => exec_load ho hx (run_loadN (cs := c.toList) ht (by simpa using hw'.trans (hS.old hb h0)) hn (by simpa using hv))) h
theorem wpT_act (hc : ckCls o = 2) (hw : Region.wanted o (yielded ops a.tmps) = true) (h : o.wp P a w (fun a' w' => (∀ j ∈ conf i, w'.heap[blk j]? = w.heap[blk j]?) ∧ wpT P ops blk conf flg Q (i + 1) rest a' w') Q) : wpT P ops blk conf flg Q i (o :: rest) a w := by
  unfold wpT
  rw [if_pos hc, if_pos hw]; exact h
theorem ckT_store (hS : Sep w0 F L w) (ho : o.op = .store t x y) (hw : Region.wanted o (yielded ops a.tmps) = true) (hx : a.eval x = .pointer (some ⟨b, off, none⟩)) (hy : Wh (a.eval y) v) (hu : Upd L (pts b cs T) (pts b (cs.set off v) T) L') (hl : off < cs.length) (hv : v.oneCell' = true) (ht : ckSize P t 1 = true)
    (hcf : ∀ j ∈ conf i, blk j ≠ b) (h : ∀ w', Sep w0 F L' w' → wpT P ops blk conf flg Q (i + 1) rest (a.put o.dst undef) w') : wpT P ops blk conf flg Q i (o :: rest) a w :=
  wpT_act (by unfold ckCls; rw [ho]) hw (by
    unfold Oper.wp
    rw [exec_store ho hx hy.eq (run_store1 ht hv (hS.holds _ hu.mem) hl)]
    exact ⟨fun j hj => Below.heap_setCell w _ v _ (hcf j hj), h _ (hS.setCell v hu)⟩)
theorem ckT_storeN (hS : Sep w0 F L w) (ho : o.op = .store t x y) (hw : Region.wanted o (yielded ops a.tmps) = true) (hx : a.eval x = .pointer (some ⟨b, off, none⟩)) (hy : a.eval y = .agg vs.toArray) (hu : Upd L (pts b cs T) (pts b (ckPut cs off vs) T) L') (hl : off + vs.length ≤ cs.length) (hv : vs.all (·.oneCell') = true) (ht : ckSize P t vs.length = true)
    (hcf : ∀ j ∈ conf i, blk j ≠ b) (h : ∀ w', Sep w0 F L' w' → wpT P ops blk conf flg Q (i + 1) rest (a.put o.dst undef) w') : wpT P ops blk conf flg Q i (o :: rest) a w :=
  wpT_act (by unfold ckCls; rw [ho]) hw (by
    unfold Oper.wp
    rw [exec_store ho hx hy (run_storeN ht hv (hS.holds _ hu.mem) hl)]
    refine ⟨fun j hj => ?_, h _ (hS.setRow _ hu)⟩
    simp [World.setRow, Array.getElem?_modify, Ne.symm (hcf j hj)])
theorem ckT_box (hS : Sep w0 F L w) (ho : o.op = .box t x) (hw : Region.wanted o (yielded ops a.tmps) = true) (hx : WhC (a.eval x) cs) (hcf : ∀ j ∈ conf i, blk j < w.heap.size)
    (h : ∀ nb w', Sep w0 F (pts nb cs t :: L) w' → wpT P ops blk conf flg Q (i + 1) rest (a.put o.dst (.pointer (some ⟨nb, 0, none⟩))) w') : wpT P ops blk conf flg Q i (o :: rest) a w :=
  wpT_act (by unfold ckCls; rw [ho]) hw (by
    unfold Oper.wp
    rw [exec_box ho hx]
    exact ⟨fun j hj => Below.heap_alloc w _ _ (hcf j hj), h _ _ (hS.alloc _ _)⟩)
theorem ckT_loadAll (hS : Sep w0 F L w) (ho : o.op = .load t x) (hw : Region.wanted o (yielded ops a.tmps) = true) (hx : a.eval x = .pointer (some ⟨b, 0, none⟩)) (hb : i ∈ flg → b = blk i) (hm : pts b cs T ∈ L) (hn : cs.length = n) (ht : ckAgg P t n = true)
    (h : wpT P ops blk conf flg Q (i + 1) rest (a.put o.dst (.agg cs.toArray)) w) : wpT P ops blk conf flg Q i (o :: rest) a w :=
  ckT_loadN hS ho hw hx hb hm (fun j _ => by rw [Nat.zero_add]) ht hn h
theorem ckT_storeAll (hS : Sep w0 F L w) (ho : o.op = .store t x y) (hw : Region.wanted o (yielded ops a.tmps) = true) (hx : a.eval x = .pointer (some ⟨b, 0, none⟩)) (hy : a.eval y = .agg vs.toArray) (hu : Upd L (pts b cs T) (pts b vs T) L') (hl : vs.length = cs.length) (hv : vs.all (·.oneCell') = true) (ht : ckSize P t vs.length = true)
    (hcf : ∀ j ∈ conf i, blk j ≠ b) (h : ∀ w', Sep w0 F L' w' → wpT P ops blk conf flg Q (i + 1) rest (a.put o.dst undef) w') : wpT P ops blk conf flg Q i (o :: rest) a w :=
  ckT_storeN hS ho hw hx hy (by rw [ckPut_all hl]; exact hu) (by omega) hv ht hcf h
theorem ckT_loadSub (n : Nat) (hS : Sep w0 F L w) (ho : o.op = .load t x) (hw : Region.wanted o (yielded ops a.tmps) = true) (hx : a.eval x = .pointer (some ⟨b, off, none⟩)) (hb : i ∈ flg → b = blk i) (hm : pts b cs T ∈ L) (hl : off + n ≤ cs.length) (ht : ckAgg P t n = true)
    (h : wpT P ops blk conf flg Q (i + 1) rest (a.put o.dst (.agg ((cs.drop off).take n).toArray)) w) : wpT P ops blk conf flg Q i (o :: rest) a w :=
  ckT_loadN hS ho hw hx hb hm (sub_at hl) ht (by simp; omega) h
theorem Sep.ptsLt (hS : Sep w0 F L w) (hm : pts b cs T ∈ L) : b < w.heap.size := (hS.own b (List.mem_flatMap.2 ⟨_, hm, by simp [pts]⟩)).1
theorem ckT_alloc (hS : Sep w0 F L w) (ho : o.op = .alloc t) (hw : Region.wanted o (yielded ops a.tmps) = true) (hz : (P.info? t).bind (·.zero) = some v) (hc : v.cells = cs.toArray) (hcf : ∀ j ∈ conf i, ∃ cs T, pts (blk j) cs T ∈ L)
    (h : ∀ nb w', Sep w0 F (pts nb cs t :: L) w' → wpT P ops blk conf flg Q (i + 1) rest (a.put o.dst (.pointer (some ⟨nb, 0, none⟩))) w') : wpT P ops blk conf flg Q i (o :: rest) a w :=
  wpT_act (by unfold ckCls; rw [ho]) hw (by
    unfold Oper.wp
    rw [exec_alloc ho hz, hc]
    refine ⟨fun j hj => ?_, h _ _ (hS.alloc _ _)⟩
    obtain ⟨cs, T, hm⟩ := hcf j hj
    exact Below.heap_alloc w _ _ (hS.ptsLt hm))
/-- A call of a function of the program, in a region that draws its order. -/
def ckEnter (P : Program) (f : FuncId) : Bool := match P.funcs[f]? with | some fn => !(fn.name == "runtime.NumGoroutine") && !fn.body.isNone | none => false
theorem run_enter {f : FuncId} {args : Array Value} (h : ckEnter P f = true) (w : World) : (callFunc f args).run P w = .ok (.enter f args) w := by
  unfold ckEnter at h
  cases hf : P.funcs[f]? with
  | none => simp [hf] at h
  | some fn =>
    simp only [hf, Bool.and_eq_true, Bool.not_eq_true'] at h
    obtain ⟨h1, h2⟩ := h
    unfold callFunc
    simp only [Sem.run_bind, run_program, Result.andThen_ok, hf, h1, h2, Bool.false_eq_true, ↓reduceIte, Sem.run_pure]
theorem ckT_enter {f : FuncId} {as : Array Operand} {ats : Array TypeId} {args : Array Value} (ho : o.op = .call { callee := .value (.func f), args := as, argTypes := ats }) (hw : Region.wanted o (yielded ops a.tmps) = true) (hen : ckEnter P f = true)
    (ha : as.toList.map a.eval = args.toList) (h : Calls P f args w (fun e w' => match e with
      | .returned u => (∀ j ∈ conf i, w'.heap[blk j]? = w.heap[blk j]?) ∧ wpT P ops blk conf flg Q (i + 1) rest (a.put o.dst u) w'
      | _ => False)) : wpT P ops blk conf flg Q i (o :: rest) a w :=
  wpT_act (by unfold ckCls; rw [ho]) hw (by
    have e : execOp a.eval o = callFunc f args := by
      have : as.map a.eval = args := by rw [← Array.toList_inj, Array.toList_map]; exact ha
      rw [← this]
      have ef : a.eval (.func f) = .func (.func f) #[] #[] := rfl
      unfold execOp
      simp [ho, resolve, Deferred.ofValue, invoke, ef]
    unfold Oper.wp
    rw [e, run_enter hen]
    simp only [Oper.upon]
    refine h.mono fun e w' he => ?_
    cases e with
    | returned u => exact he
    | panicked c => exact he.elim
    | outgrown => exact he.elim)
/-- What a call leaves as it was: a block that was there before, and that nobody owns; or one that is owned by somebody else. -/
def Keeps (w0 : World) (F : List Nat) (L L' : List Res) (c : Nat) : Prop := (c < w0.heap.size ∧ c ∉ F) ∨ ∃ cs T, pts c cs T ∈ L ∧ pts c cs T ∈ L'
theorem Keeps.out {w' : World} {c : Nat} (h : Keeps w0 F L L' c) (hS : Sep w0 F L w) (hS' : Sep w0 F L' w') : w'.heap[c]? = w.heap[c]? := by
  rcases h with ⟨h1, h2⟩ | ⟨cs, T, h1, h2⟩
  · exact (hS'.frame c h1 h2).trans (hS.frame c h1 h2).symm
  · exact Eq.trans (hS'.holds _ h2) (Eq.symm (hS.holds _ h1))
theorem ckT_call0 {f : FuncId} {as : Array Operand} {ats : Array TypeId} {args : Array Value} (hS : Sep w0 F L w) (ho : o.op = .call { callee := .value (.func f), args := as, argTypes := ats }) (hC : Ct P f args [] (Gives v [])) (hw : Region.wanted o (yielded ops a.tmps) = true) (hen : ckEnter P f = true)
    (ha : as.toList.map a.eval = args.toList) (hcf : ∀ j ∈ conf i, Keeps w0 F L L (blk j)) (h : ∀ w', Sep w0 F L w' → wpT P ops blk conf flg Q (i + 1) rest (a.put o.dst v) w') : wpT P ops blk conf flg Q i (o :: rest) a w :=
  ckT_enter ho hw hen ha (hC.call0 hS fun w' hS' => ⟨fun j hj => (hcf j hj).out hS hS', h w' hS'⟩)
theorem ckT_callU {f : FuncId} {as : Array Operand} {ats : Array TypeId} {args : Array Value} {r r' : Res} (hS : Sep w0 F L w) (ho : o.op = .call { callee := .value (.func f), args := as, argTypes := ats }) (hC : Ct P f args [r] (Gives v [r'])) (hu : Upd L r r' L') (hw : Region.wanted o (yielded ops a.tmps) = true) (hen : ckEnter P f = true)
    (ha : as.toList.map a.eval = args.toList) (hcf : ∀ j ∈ conf i, Keeps w0 F L L' (blk j)) (h : ∀ w', Sep w0 F L' w' → wpT P ops blk conf flg Q (i + 1) rest (a.put o.dst v) w') : wpT P ops blk conf flg Q i (o :: rest) a w :=
  ckT_enter ho hw hen ha (hC.callU hu hS fun w' hS' => ⟨fun j hj => (hcf j hj).out hS hS', h w' hS'⟩)
end
end Go.Proofs.Ytchejceolnbcbaa
