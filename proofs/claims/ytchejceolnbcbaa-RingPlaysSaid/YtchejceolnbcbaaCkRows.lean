/- Slices that somebody owns: their rows, what is appended to them. -/
import Derived.Test.YtchejceolnbcbaaCkWalk
import Derived.Laws.AppendOwn
set_option linter.unusedVariables false
set_option linter.unusedSimpArgs false
namespace Go.Proofs.Ytchejceolnbcbaa
open Go.RowKit

section
variable {w0 w w' : World} {F : List Nat} {L L' L0 : List Res} {r r' : Res} {P : Program}
/-- One resource, taken out of the list. -/
inductive Rem : List Res → Res → List Res → Prop
  | here (r : Res) (L : List Res) : Rem (r :: L) r L
  | there (s r : Res) (L L' : List Res) : Rem L r L' → Rem (s :: L) r (s :: L')
theorem Rem.perm (h : Rem L r L') : L.Perm (r :: L') := by
  induction h with
  | here r L => exact .refl _
  | there s r L L' _ ih => exact (ih.cons s).trans (.swap _ _ _)
theorem Sep.bring (h : Sep w0 F L w) (hr : Rem L r L') : Sep w0 F (r :: L') w := h.perm hr.perm
theorem Sep.alike (h : Sep w0 F (r :: L) w) (hf : r'.fp = r.fp) (hh : r.holds w → r'.holds w) : Sep w0 F (r' :: L) w := by
  have e : fps (r' :: L) = fps (r :: L) := by rw [fps_cons, fps_cons, hf]
  exact ⟨h.os, h.tape, h.output, h.size, h.frame, e ▸ h.nodup, fun b hb => h.own b (e ▸ hb), fun s hs => by
    rcases List.mem_cons.1 hs with rfl | hs
    · exact hh (h.holds r (by simp))
    · exact h.holds s (by simp [hs])⟩
theorem Sep.addNil (h : Sep w0 F L w) (hf : r.fp = []) (hh : r.holds w) : Sep w0 F (r :: L) w := by
  have e : fps (r :: L) = fps L := by rw [fps_cons, hf]; rfl
  exact ⟨h.os, h.tape, h.output, h.size, h.frame, e ▸ h.nodup, fun b hb => h.own b (e ▸ hb), fun s hs => by
    rcases List.mem_cons.1 hs with rfl | hs
    · exact hh
    · exact h.holds s hs⟩

/-- A slice's row: its elements, and room behind them. -/
def rowR (a : Option Addr) (n cap : Nat) (e : TypeId) (sz : Nat) (xs : List Value) : Res :=
  match a with
  | none => ⟨[], fun _ => n = 0 ∧ cap = 0 ∧ xs = [], fun _ _ _ h => h⟩
  | some A => ⟨[A.block], fun w => A.off = 0 ∧ A.spot = none ∧ xs.length = n * sz ∧ n ≤ cap ∧ cap ≤ maxLen ∧ ∃ rest : List Value, (xs ++ rest).length = cap * sz ∧ w.heap[A.block]? = some (.cells (xs ++ rest).toArray e (0, 0)),
    fun w w' h hh => by
      obtain ⟨h1, h2, h3, h4, h5, rest, h6, h7⟩ := hh
      exact ⟨h1, h2, h3, h4, h5, rest, h6, (h _ (by simp)).trans h7⟩⟩

theorem Sep.openRow {a : Option Addr} {n cap : Nat} {e : TypeId} {sz : Nat} {xs : List Value} (h : Sep w0 F (rowR a n cap e sz xs :: L) w) :
    (a = none ∧ n = 0 ∧ cap = 0 ∧ xs = [] ∧ Sep w0 F L w) ∨ ∃ (g : Nat) (rest : List Value), a = some ⟨g, 0, none⟩ ∧ xs.length = n * sz ∧ n ≤ cap ∧ cap ≤ maxLen ∧ (xs ++ rest).length = cap * sz ∧ Sep w0 F (pts g (xs ++ rest) e :: L) w := by
  cases a with
  | none =>
    obtain ⟨h1, h2, h3⟩ := h.holds _ (List.mem_cons_self ..)
    exact .inl ⟨rfl, h1, h2, h3, h.drop⟩
  | some A =>
    obtain ⟨h1, h2, h3, h4, h5, rest, h6, h7⟩ := h.holds _ (List.mem_cons_self ..)
    obtain ⟨g, o, s⟩ := A
    obtain rfl : o = 0 := h1
    obtain rfl : s = none := h2
    exact .inr ⟨g, rest, rfl, h3, h4, h5, h6, h.alike (r' := pts g (xs ++ rest) e) rfl fun _ => h7⟩
theorem Sep.shutRow {g n cap : Nat} {e : TypeId} {sz : Nat} {xs rest : List Value} (h : Sep w0 F (pts g (xs ++ rest) e :: L) w) (h3 : xs.length = n * sz) (h4 : n ≤ cap) (h5 : cap ≤ maxLen) (h6 : (xs ++ rest).length = cap * sz) :
    Sep w0 F (rowR (some ⟨g, 0, none⟩) n cap e sz xs :: L) w := h.alike (r' := rowR (some ⟨g, 0, none⟩) n cap e sz xs) rfl fun hh => ⟨rfl, rfl, h3, h4, h5, rest, h6, hh⟩
theorem Sep.shut {g n cap : Nat} {e : TypeId} {sz : Nat} {cs : List Value} (h : Sep w0 F (pts g cs e :: L) w) (xs rest : List Value) (hcs : cs = xs ++ rest) (h3 : xs.length = n * sz) (h4 : n ≤ cap) (h5 : cap ≤ maxLen) (h6 : cs.length = cap * sz) :
    Sep w0 F (rowR (some ⟨g, 0, none⟩) n cap e sz xs :: L) w := by subst hcs; exact h.shutRow h3 h4 h5 h6
theorem Sep.nilRow {e : TypeId} {sz : Nat} (h : Sep w0 F L w) : Sep w0 F (rowR none 0 0 e sz [] :: L) w := h.addNil rfl ⟨rfl, rfl, rfl⟩

/-! ### Some resources as one -/
def grpR (l : List Res) : Res := ⟨fps l, fun w => ∀ r ∈ l, r.holds w, fun w w' h hh r hr => r.loc w w' (fun b hb => h b (List.mem_flatMap.2 ⟨r, hr, hb⟩)) (hh r hr)⟩
theorem Sep.grp {l : List Res} : Sep w0 F (l ++ L) w ↔ Sep w0 F (grpR l :: L) w := by
  have e : fps (grpR l :: L) = fps (l ++ L) := by rw [fps_cons, fps_append]; rfl
  constructor
  · intro h
    exact ⟨h.os, h.tape, h.output, h.size, h.frame, e ▸ h.nodup, fun b hb => h.own b (e ▸ hb), fun s hs => by
      rcases List.mem_cons.1 hs with rfl | hs
      · exact fun r hr => h.holds r (by simp [hr])
      · exact h.holds s (by simp [hs])⟩
  · intro h
    exact ⟨h.os, h.tape, h.output, h.size, h.frame, e ▸ h.nodup, fun b hb => h.own b (e ▸ hb), fun s hs => by
      rcases List.mem_append.1 hs with hs | hs
      · exact h.holds (grpR l) (by simp) s hs
      · exact h.holds s (by simp [hs])⟩
theorem Ct.grp {α : Type} {f : FuncId} {args : Array Value} {pre : List Res} {v0 : Value} {l : α → List Res} (h : Ct P f args pre (fun v L => v = v0 ∧ ∃ A, L = l A)) : Ct P f args [grpR pre] (fun v L => v = v0 ∧ ∃ A, L = [grpR (l A)]) :=
  fun w0 F L w hS => (h w0 F L w (Sep.grp.2 hS)).mono fun e w' hr => by
    cases e with
    | returned v =>
      obtain ⟨L', ⟨hv, A, rfl⟩, hs⟩ := hr
      exact ⟨_, ⟨hv, A, rfl⟩, Sep.grp.1 hs⟩
    | panicked c => exact hr.elim
    | outgrown => exact hr.elim
/-- A call that owns one thing, and leaves one of a kind in its stead. -/
theorem Ct.callE {α : Type} {f : FuncId} {args : Array Value} {r : Res} {r' : α → Res} {v0 : Value} (h : Ct P f args [r] (fun v L => v = v0 ∧ ∃ A, L = [r' A])) (hr : Rem L r L0) (hS : Sep w0 F L w)
    {R : Ending → World → Prop} (hR : ∀ A w', Sep w0 F (r' A :: L0) w' → R (.returned v0) w') : Calls P f args w R :=
  Ct.call (L := L0) h (hS.bring hr) fun v L' w' hp hs => by
    obtain ⟨rfl, A, rfl⟩ := hp
    exact hR A w' hs

/-! ### append -/
def ckSlice (P : Program) (t e : TypeId) (sz : Nat) : Bool := match P.underlying t, P.info? e with
  | some (.slice e'), some i => e' == e && i.size == sz && decide (i.bytes ≤ 1024) && (match i.zero with | some z => z.cells.size == sz | none => false)
  | _, _ => false
theorem ckSlice.out {t e : TypeId} {sz : Nat} (h : ckSlice P t e sz = true) : P.underlying t = some (.slice e) ∧ ∃ i z, P.info? e = some i ∧ i.zero = some z ∧ i.size = sz ∧ i.bytes ≤ 1024 ∧ z.cells.size = sz := by
  unfold ckSlice at h
  cases hu : P.underlying t with
  | none => simp [hu] at h
  | some d =>
    cases d <;> simp [hu] at h
    cases hi : P.info? e with
    | none => simp [hi] at h
    | some i =>
      cases hz : i.zero with
      | none => simp [hi, hz] at h
      | some z =>
        simp [hi, hz] at h
        exact ⟨by rw [h.1.1.1], i, z, rfl, hz, h.1.1.2, h.1.2, h.2⟩

variable {t e : TypeId} {sz g q n m cap c : Nat} {xs news rest : List Value}
theorem pts_cells {cs : List Value} {T : TypeId} (h : (pts q cs T).holds w) : ∀ j u, cs[j]? = some u → w.cell? ((⟨q, 0, none⟩ : Addr).add j) = some u := fun j u hu => by
  have hadd : (⟨q, 0, none⟩ : Addr).add j = ⟨q, j, none⟩ := by unfold Addr.add; split <;> simp_all
  rw [hadd]; exact pts_cell h hu
theorem take_add {α : Type} (xs rest : List α) (k : Nat) (h : xs.length = k) : (xs ++ rest).take k = xs ∧ ∀ d, (xs ++ rest).drop (k + d) = rest.drop d := by
  subst h
  exact ⟨by simp, fun d => by simp [List.drop_append]⟩

/-- To nothing. -/
theorem append_nil (hS : Sep w0 F L w) (ht : ckSlice P t e sz = true) (hm : pts q news e ∈ L) (hl : news.length = m * sz) (h0 : 0 < m) (hsm : m ≤ 1000000000) (ty : TypeId) :
    ∃ (gr : Nat) (rest : List Value) (w' : World), (Builtin.append_ #[t, t] ty #[.slice none 0 0, .slice (some ⟨q, 0, none⟩) m c]).run P w = .ok (.slice (some ⟨w.heap.size, 0, none⟩) m gr) w' ∧ m ≤ gr ∧ gr ≤ maxLen ∧ (news ++ rest).length = gr * sz ∧ Sep w0 F (pts w.heap.size (news ++ rest) e :: L) w' := by
  obtain ⟨hu, i, z, hi, hz, hs, hb, hzs⟩ := ckSlice.out ht
  have hp : m * i.bytes ≤ 1000000000 * 1024 := Nat.mul_le_mul hsm hb
  refine ⟨_, (Builtin.zeroCells z.cells (grownCap w m 0 e - m)).toList, _, run_append_nil w t ty e i z hu hi hz ⟨q, 0, none⟩ m c news (by rw [hs]; exact hl) (pts_cells (hS.holds _ hm)) h0 (by omega) (by omega), grownCap_ge _ _ _ _, grownCap_le_maxLen _ _ _ _ (by unfold maxLen; omega), ?_, ?_⟩
  · have hge := grownCap_ge w m 0 e
    simp only [List.length_append, hl, Array.length_toList, size_zeroCells, hzs, ← Nat.add_mul]
    congr 1; omega
  · have := hS.drew.alloc (news ++ (Builtin.zeroCells z.cells (grownCap w m 0 e - m)).toList) e
    have e1 : (news ++ (Builtin.zeroCells z.cells (grownCap w m 0 e - m)).toList).toArray = news.toArray ++ Builtin.zeroCells z.cells (grownCap w m 0 e - m) := by
      apply Array.ext'; simp
    rw [e1] at this
    exact this

/-- To a row. -/
theorem append_row (hS : Sep w0 F L w) (hr : Rem L (pts g (xs ++ rest) e) L0) (ht : ckSlice P t e sz = true) (hm : pts q news e ∈ L0) (hl : news.length = m * sz) (h1 : ∀ u ∈ news, u.oneCell' = true) (hx : xs.length = n * sz) (hc : (xs ++ rest).length = cap * sz) (hn : n ≤ cap) (hcm : cap ≤ maxLen) (hsm : n + m ≤ 1000000000) (ty : TypeId) :
    ∃ (g' cap' : Nat) (rest' : List Value) (w' : World), (Builtin.append_ #[t, t] ty #[.slice (some ⟨g, 0, none⟩) n cap, .slice (some ⟨q, 0, none⟩) m c]).run P w = .ok (.slice (some ⟨g', 0, none⟩) (n + m) cap') w' ∧ n + m ≤ cap' ∧ cap' ≤ maxLen ∧ ((xs ++ news) ++ rest').length = cap' * sz ∧ Sep w0 F (pts g' ((xs ++ news) ++ rest') e :: L0) w' := by
  have hS1 := hS.bring hr
  obtain ⟨hu, i, z, hi, hz, hs, hb, hzs⟩ := ckSlice.out ht
  have hg : (pts g (xs ++ rest) e).holds w := hS1.holds _ (by simp)
  have hq : (pts q news e).holds w := hS1.holds _ (by simp [hm])
  by_cases hroom : n + m ≤ cap
  · have hle : n * sz + m * sz ≤ cap * sz := by rw [← Nat.add_mul]; exact Nat.mul_le_mul_right _ hroom
    refine ⟨g, cap, rest.drop (m * sz), _, run_append_room w t ty e i hu hi g n cap _ hg ⟨q, 0, none⟩ m c news (by rw [hs]; exact hl) (pts_cells hq) h1 hroom (by simp only [List.size_toArray]; rw [hc, hs, hl]; exact hle), hroom, hcm, ?_, ?_⟩
    · have hrl : xs.length + rest.length = cap * sz := by rw [← hc, List.length_append]
      simp only [List.length_append, List.length_drop, hl]; omega
    · have e1 : ((xs ++ rest).toArray.toList.take (n * i.size) ++ news ++ (xs ++ rest).toArray.toList.drop (n * i.size + news.length)) = (xs ++ news) ++ rest.drop (m * sz) := by
        obtain ⟨t1, t2⟩ := take_add xs rest (n * i.size) (by rw [hs]; exact hx)
        show (xs ++ rest).take (n * i.size) ++ news ++ (xs ++ rest).drop (n * i.size + news.length) = _
        rw [t1, t2, hl]
      rw [e1]
      exact hS1.setRow _ (.here _ _ _)
  · have hbig : Builtin.nextslicecap (n + m) cap * i.bytes ≤ 281474976710656 := by
      have h2 := nextslicecap_le (need := n + m) (old := cap) (by omega)
      have : Builtin.nextslicecap (n + m) cap * i.bytes ≤ (2 * 1000000000) * 1024 := Nat.mul_le_mul (by omega) hb
      omega
    refine ⟨w.heap.size, _, (Builtin.zeroCells z.cells (grownCap w (n + m) cap e - (n + m))).toList, _, run_append_grow w t ty e i z hu hi hz ⟨g, 0, none⟩ n cap xs (by rw [hs]; exact hx) (fun j v hv => pts_cells hg j v (by rw [List.getElem?_append_left (List.getElem?_eq_some_iff.1 hv).1]; exact hv)) ⟨q, 0, none⟩ m c news (by rw [hs]; exact hl) (pts_cells hq) (by omega) (by omega) hbig, grownCap_ge _ _ _ _, grownCap_le_maxLen _ _ _ _ (by unfold maxLen; omega), ?_, ?_⟩
    · have hge := grownCap_ge w (n + m) cap e
      simp only [List.length_append, hx, hl, Array.length_toList, size_zeroCells, hzs, ← Nat.add_mul]
      congr 1; omega
    · have h3 := hS1.drew.alloc ((xs ++ news) ++ (Builtin.zeroCells z.cells (grownCap w (n + m) cap e - (n + m))).toList) e
      have e1 : ((xs ++ news) ++ (Builtin.zeroCells z.cells (grownCap w (n + m) cap e - (n + m))).toList).toArray = xs.toArray ++ news.toArray ++ Builtin.zeroCells z.cells (grownCap w (n + m) cap e - (n + m)) := by
        apply Array.ext'; simp
      rw [e1] at h3
      exact (h3.perm (.swap _ _ _)).drop
end

section
variable {P : Program} {w w0 : World} {F : List Nat} {L L0 : List Res} {ops : Array Oper} {Q : Exit → Act → World → Prop} {restO : List Oper} {o : Oper} {a : Act} {t e : TypeId} {sz g q n m cap c : Nat} {xs news rest cs : List Value} {x y : Operand} {v : Value}
theorem exec_append (ho : o.op = .call { callee := .builtin .append, args := #[x, y], argTypes := #[t, t] }) {vx vy v : Value} {w' : World} (hx : a.eval x = vx) (hy : a.eval y = vy) (h : ∀ ty, (Builtin.append_ #[t, t] ty #[vx, vy]).run P w = .ok v w') : (execOp a.eval o).run P w = .ok (.value v) w' := by
  unfold execOp
  simp [ho, resolve, invoke, builtin, hx, hy, h, Result.andThen, Sem.run_bind]
theorem ck_append_nil (hS : Sep w0 F L w) (ho : o.op = .call { callee := .builtin .append, args := #[x, y], argTypes := #[t, t] }) (hw : Region.wanted o (yielded ops a.tmps) = true) (hx : a.eval x = .slice none 0 0) (hy : a.eval y = .slice (some ⟨q, 0, none⟩) m c)
    (hm : pts q news e ∈ L) (ht : ckSlice P t e sz = true) (hl : news.length = m * sz) (h0 : 0 < m) (hsm : m ≤ 1000000000)
    (h : ∀ (g cap : Nat) (rest : List Value) (w' : World), m ≤ cap → cap ≤ maxLen → (news ++ rest).length = cap * sz → Sep w0 F (pts g (news ++ rest) e :: L) w' → wpList P ops Q restO (a.put o.dst (.slice (some ⟨g, 0, none⟩) m cap)) w') : wpList P ops Q (o :: restO) a w := by
  obtain ⟨gr, rest, w', hrun, h1, h2, h3, h4⟩ := append_nil (c := c) hS ht hm hl h0 hsm 0
  have hrun' : ∀ ty, (Builtin.append_ #[t, t] ty #[.slice none 0 0, .slice (some ⟨q, 0, none⟩) m c]).run P w = .ok (.slice (some ⟨w.heap.size, 0, none⟩) m gr) w' := fun _ => hrun
  exact wpList_val hw (exec_append ho hx hy hrun') (h _ _ _ _ h1 h2 h3 h4)
theorem ck_append (hS : Sep w0 F L w) (ho : o.op = .call { callee := .builtin .append, args := #[x, y], argTypes := #[t, t] }) (hw : Region.wanted o (yielded ops a.tmps) = true) (hx : a.eval x = .slice (some ⟨g, 0, none⟩) n cap) (hy : a.eval y = .slice (some ⟨q, 0, none⟩) m c)
    (hr : Rem L (pts g (xs ++ rest) e) L0) (hm : pts q news e ∈ L0) (ht : ckSlice P t e sz = true) (hl : news.length = m * sz) (hone : news.all (·.oneCell') = true) (hxs : xs.length = n * sz) (hc : (xs ++ rest).length = cap * sz) (hn : n ≤ cap) (hcm : cap ≤ maxLen) (hsm : n + m ≤ 1000000000)
    (h : ∀ (g' cap' : Nat) (rest' : List Value) (w' : World), n + m ≤ cap' → cap' ≤ maxLen → ((xs ++ news) ++ rest').length = cap' * sz → Sep w0 F (pts g' ((xs ++ news) ++ rest') e :: L0) w' → wpList P ops Q restO (a.put o.dst (.slice (some ⟨g', 0, none⟩) (n + m) cap')) w') : wpList P ops Q (o :: restO) a w := by
  obtain ⟨g', cap', rest', w', hrun, h1, h2, h3, h4⟩ := append_row (c := c) hS hr ht hm hl (fun u hu => List.all_eq_true.1 hone u hu) hxs hc hn hcm hsm 0
  have hrun' : ∀ ty, (Builtin.append_ #[t, t] ty #[.slice (some ⟨g, 0, none⟩) n cap, .slice (some ⟨q, 0, none⟩) m c]).run P w = .ok (.slice (some ⟨g', 0, none⟩) (n + m) cap') w' := fun _ => hrun
  exact wpList_val hw (exec_append ho hx hy hrun') (h _ _ _ _ h1 h2 h3 h4)
/-! ### On a row, as it is -/
theorem Sep.rowSome {a : Option Addr} {n cap : Nat} (hS : Sep w0 F L w) (hm : rowR a n cap e sz xs ∈ L) (h0 : 0 < n) : ∃ g, a = some ⟨g, 0, none⟩ := by
  have h := hS.holds _ hm
  cases a with
  | none => obtain ⟨h1, _⟩ := h; omega
  | some A =>
    obtain ⟨h1, h2, _⟩ := h
    obtain ⟨g, o, s⟩ := A
    obtain rfl : o = 0 := h1
    obtain rfl : s = none := h2
    exact ⟨g, rfl⟩
theorem Sep.rowFacts {a : Option Addr} {n cap : Nat} (hS : Sep w0 F L w) (hm : rowR a n cap e sz xs ∈ L) : xs.length = n * sz ∧ n ≤ cap ∧ cap ≤ maxLen := by
  have h := hS.holds _ hm
  cases a with
  | none => obtain ⟨rfl, rfl, rfl⟩ := h; exact ⟨by simp, by omega, by unfold maxLen; omega⟩
  | some A => obtain ⟨_, _, h3, h4, h5, _⟩ := h; exact ⟨h3, h4, h5⟩
theorem ck_loadRow {i : Nat} (hS : Sep w0 F L w) (ho : o.op = .load t x) (hw : Region.wanted o (yielded ops a.tmps) = true) (hx : a.eval x = .pointer (some ⟨g, i, none⟩)) (hm : rowR (some ⟨g, 0, none⟩) n cap e sz xs ∈ L) (hv : xs[i]? = some v) (ht : ckScalar P t = true)
    (h : wpList P ops Q restO (a.put o.dst v) w) : wpList P ops Q (o :: restO) a w := by
  obtain ⟨_, _, _, _, _, rest, _, hh⟩ := hS.holds _ hm
  refine wpList_val hw (exec_load ho hx (run_load1 (cs := xs ++ rest) ht hh ?_)) h
  rw [List.getElem?_append_left (List.getElem?_eq_some_iff.1 hv).1]; exact hv
theorem ck_storeRow {i : Nat} {L' : List Res} (hS : Sep w0 F L w) (ho : o.op = .store t x y) (hw : Region.wanted o (yielded ops a.tmps) = true) (hx : a.eval x = .pointer (some ⟨g, i, none⟩)) (hy : Wh (a.eval y) v) (hu : Upd L (rowR (some ⟨g, 0, none⟩) n cap e sz xs) (rowR (some ⟨g, 0, none⟩) n cap e sz (xs.set i v)) L') (hl : i < xs.length) (hv : v.oneCell' = true) (ht : ckSize P t 1 = true)
    (h : ∀ w', Sep w0 F L' w' → wpList P ops Q restO (a.put o.dst undef) w') : wpList P ops Q (o :: restO) a w := by
  obtain ⟨A, B, rfl, rfl⟩ := hu.split
  have h1 : Sep w0 F (rowR (some ⟨g, 0, none⟩) n cap e sz xs :: (A ++ B)) w := hS.perm List.perm_middle
  rcases h1.openRow with ⟨h0, _⟩ | ⟨g', rest, h0, h3, h4, h5, h6, h7⟩
  · cases h0
  · injection h0 with h0; injection h0 with h0 _ _; subst h0
    have hp : (pts g (xs ++ rest) e).holds w := h7.holds _ (by simp)
    refine wpList_skp hw (exec_store ho hx hy.eq (run_store1 (cs := xs ++ rest) ht hv hp (by rw [List.length_append]; omega))) (h _ ?_)
    have h8 := h7.setCell (off := i) v (.here _ _ _)
    have h9 := h8.shut (n := n) (cap := cap) (sz := sz) (xs.set i v) rest (by rw [List.set_append_left _ _ hl]) (by simpa using h3) h4 h5 (by simpa using h6)
    exact h9.perm List.perm_middle.symm
theorem ck_appendRow {ad : Option Addr} (hS : Sep w0 F L w) (ho : o.op = .call { callee := .builtin .append, args := #[x, y], argTypes := #[t, t] }) (hw : Region.wanted o (yielded ops a.tmps) = true) (hx : a.eval x = .slice ad n cap) (hy : a.eval y = .slice (some ⟨q, 0, none⟩) m c)
    (hr : Rem L (rowR ad n cap e sz xs) L0) (hm : pts q news e ∈ L0) (ht : ckSlice P t e sz = true) (hl : news.length = m * sz) (hone : news.all (·.oneCell') = true) (h0 : 0 < m) (hsm : n + m ≤ 1000000000)
    (h : ∀ (g' cap' : Nat) (w' : World), Sep w0 F (rowR (some ⟨g', 0, none⟩) (n + m) cap' e sz (xs ++ news) :: L0) w' → wpList P ops Q restO (a.put o.dst (.slice (some ⟨g', 0, none⟩) (n + m) cap')) w') : wpList P ops Q (o :: restO) a w := by
  rcases (hS.bring hr).openRow with ⟨rfl, rfl, rfl, rfl, hS1⟩ | ⟨g', rest, rfl, h3, h4, h5, h6, hS1⟩
  · refine ck_append_nil hS1 ho hw hx hy hm ht hl h0 (by omega) fun g cap' rest w' k1 k2 k3 k4 => ?_
    have k5 := k4.shut (n := m) (cap := cap') (sz := sz) news rest rfl hl k1 k2 k3
    have := h g cap' w' (by rw [Nat.zero_add, List.nil_append]; exact k5)
    rw [Nat.zero_add] at this; exact this
  · refine ck_append hS1 ho hw hx hy (.here _ _) hm ht hl hone h3 h6 h4 h5 hsm fun g cap' rest' w' k1 k2 k3 k4 => ?_
    exact h g cap' w' (k4.shut (n := n + m) (cap := cap') (sz := sz) (xs ++ news) rest' rfl (by rw [List.length_append, h3, hl, Nat.add_mul]) k1 k2 k3)
theorem set_one (f : Nat → Value) (v : Value) : ((Array.range 1).map f).setIfInBounds 0 v = #[v] :=
  Array.ext (by simp) (fun i h1 h2 => by
    have : i = 0 := by simp at h2; omega
    subst this; simp)
/-- A slice of one element that is one cell. -/
theorem ck_build1 (hS : Sep w0 F L w) (ho : o.op = .buildSlice t 1 #[(0, y)]) (hw : Region.wanted o (yielded ops a.tmps) = true) (hy : Wh (a.eval y) v) (hv : v.oneCell' = true) (ht : ckSlice P t e 1 = true)
    (h : ∀ (q : Nat) (w' : World), Sep w0 F (pts q [v] e :: L) w' → wpList P ops Q restO (a.put o.dst (.slice (some ⟨q, 0, none⟩) 1 1)) w') : wpList P ops Q (o :: restO) a w := by
  obtain ⟨hu, i, z, hi, hz, hs, hb, hzs⟩ := ckSlice.out ht
  have hrun : (execOp a.eval o).run P w = .ok (.value (.slice (some ⟨w.heap.size, 0, none⟩) 1 1)) (w.alloc (.cells #[v] e)) := by
    have hvc : v.cells = #[v] := by cases v <;> first | rfl | simp [Value.oneCell'] at hv
    unfold execOp
    simp [ho, Instr.buildSlice, run_underlying hu, sizeOf, typeInfo, hi, hs, zeroValue, hz, Instr.fill, hy.eq, hvc, hzs, newRow, Result.andThen, Sem.run_bind, set_one]
  exact wpList_val hw hrun (h _ _ (hS.alloc [v] e))
end
end Go.Proofs.Ytchejceolnbcbaa
