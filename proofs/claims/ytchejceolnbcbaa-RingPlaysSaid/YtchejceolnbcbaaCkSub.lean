/- Slices that are only read, and lose their first element. -/
import Derived.Test.YtchejceolnbcbaaCkUnoApp
set_option linter.unusedVariables false
set_option linter.unusedSimpArgs false
namespace Go.Proofs.Ytchejceolnbcbaa
open Go.RowKit
/-- A slice of elements of one cell, that is only read. -/
def subR (a : Option Addr) (n cap : Nat) (xs : List Value) : Res :=
  match a with
  | none => ⟨[], fun _ => n = 0 ∧ cap = 0 ∧ xs = [], fun _ _ _ h => h⟩
  | some A => ⟨[A.block], fun w => A.spot = none ∧ xs.length = n ∧ n ≤ cap ∧ ∃ (cs : Array Value) (T : TypeId) (fz : Nat × Nat), w.heap[A.block]? = some (.cells cs T fz) ∧ ∀ (i : Nat) (v : Value), xs[i]? = some v → cs[A.off + i]? = some v,
    fun w w' h hh => by
      obtain ⟨h1, h2, h3, cs, T, fz, h4, h5⟩ := hh
      exact ⟨h1, h2, h3, cs, T, fz, (h _ (by simp)).trans h4, h5⟩⟩
section
variable {w0 w : World} {F : List Nat} {L L0 : List Res} {a : Option Addr} {n cap : Nat} {e : TypeId} {xs : List Value}
theorem Sep.subOf (h : Sep w0 F (rowR a n cap e 1 xs :: L) w) : Sep w0 F (subR a n cap xs :: L) w := by
  cases a with
  | none => exact h.alike (r' := subR none n cap xs) rfl fun hh => hh
  | some A =>
    refine h.alike (r' := subR (some A) n cap xs) rfl fun hh => ?_
    obtain ⟨h1, h2, h3, h4, h5, rest, h6, h7⟩ := hh
    refine ⟨h2, by omega, h4, _, _, _, h7, fun i v hv => ?_⟩
    rw [h1, Nat.zero_add, List.getElem?_toArray, List.getElem?_append_left (List.getElem?_eq_some_iff.1 hv).1]; exact hv
theorem Sep.subNil (h : Sep w0 F L w) : Sep w0 F (subR none 0 0 [] :: L) w := h.addNil rfl ⟨rfl, rfl, rfl⟩
theorem Sep.subSome (hS : Sep w0 F L w) (hm : subR a n cap xs ∈ L) (h0 : 0 < n) : ∃ g off, a = some ⟨g, off, none⟩ := by
  have h := hS.holds _ hm
  cases a with
  | none => obtain ⟨h1, _⟩ := h; omega
  | some A => obtain ⟨h1, _⟩ := h; obtain ⟨g, o, s⟩ := A; obtain rfl : s = none := h1; exact ⟨g, o, rfl⟩
theorem Sep.subLen (hS : Sep w0 F L w) (hm : subR a n cap xs ∈ L) : xs.length = n ∧ n ≤ cap := by
  have h := hS.holds _ hm
  cases a with
  | none => obtain ⟨rfl, rfl, rfl⟩ := h; simp
  | some A => obtain ⟨_, h2, h3, _⟩ := h; exact ⟨h2, h3⟩
theorem Rd.sub (hm : subR a n cap xs ∈ L) : Rd w0 F L a xs := fun w hS i v hv => by
  have h := hS.holds _ hm
  cases a with
  | none => obtain ⟨_, _, rfl⟩ := h; simp at hv
  | some A =>
    obtain ⟨h1, h2, h3, cs, T, fz, h4, h5⟩ := h
    obtain ⟨g, o, s⟩ := A
    obtain rfl : s = none := h1
    exact ⟨g, o, cs, T, fz, rfl, h4, h5 i v hv⟩
theorem cells_rd {A : Addr} (hS : Sep w0 F L w) (hR : Rd w0 F L (some A) xs) : ∀ (j : Nat) (u : Value), xs[j]? = some u → w.cell? (A.add j) = some u := fun j u hu => by
  obtain ⟨b, off, cs, T, fz, hA, hh, hc⟩ := hR w hS j u hu
  injection hA with hA
  subst hA
  have hadd : (⟨b, off, none⟩ : Addr).add j = ⟨b, off + j, none⟩ := by unfold Addr.add; split <;> simp_all
  rw [hadd]
  unfold World.cell?
  simp [hh, hc]
/-- Without its first element. -/
theorem Sep.subTail {g off : Nat} {v : Value} (h : Sep w0 F (subR (some ⟨g, off, none⟩) (n + 1) cap (v :: xs) :: L) w) : Sep w0 F (subR (some (if cap = 1 then ⟨g, off, none⟩ else ⟨g, off + 1, none⟩)) n (cap - 1) xs :: L) w := by
  refine h.alike (r' := subR (some (if cap = 1 then ⟨g, off, none⟩ else ⟨g, off + 1, none⟩)) n (cap - 1) xs) (by by_cases hc : cap = 1 <;> simp only [hc, if_true, if_false] <;> rfl) fun hh => ?_
  obtain ⟨h1, h2, h3, cs, T, fz, h4, h5⟩ := hh
  simp only [List.length_cons] at h2
  by_cases hc : cap = 1
  · rw [if_pos hc]
    refine ⟨rfl, by omega, by omega, cs, T, fz, h4, fun i v hv => ?_⟩
    have : xs = [] := List.eq_nil_of_length_eq_zero (by omega)
    subst this; simp at hv
  · rw [if_neg hc]
    refine ⟨rfl, by omega, by omega, cs, T, fz, h4, fun i v hv => ?_⟩
    have := h5 (i + 1) v (by simpa using hv)
    show cs[off + 1 + i]? = _
    rw [← this]; congr 1; show off + 1 + i = off + (i + 1); omega
end
theorem append_none {P : Program} {w : World} {t e : TypeId} {sz : Nat} (ht : ckSlice P t e sz = true) (x : Option Addr) (c : Nat) (ty : TypeId) : (Builtin.append_ #[t, t] ty #[.slice none 0 0, .slice x 0 c]).run P w = .ok (.slice none 0 0) w := by
  obtain ⟨hu, i, z, hi, hz, hs, hb, hzs⟩ := ckSlice.out ht
  cases x <;> simp [Builtin.append_, run_underlying hu, sizeOf, typeInfo, hi, Builtin.lenOf, Builtin.firstCells]
  rfl
section
variable {P : Program} {ops : Array Oper} {Q : Exit → Act → World → Prop} {rest : List Oper} {w w0 : World} {F : List Nat} {L L0 : List Res} {o : Oper} {a : Act} {i g off n cap c : Nat} {t e : TypeId} {xs : List Value} {x y : Operand} {v : Value}
theorem ck_tail (hS : Sep w0 F L w) (ho : o.op = .slice t x (some y) none none) (hw : Region.wanted o (yielded ops a.tmps) = true) (hx : a.eval x = .slice (some ⟨g, off, none⟩) (n + 1) cap) (hy : a.eval y = .int .i64 1) (hr : Rem L (subR (some ⟨g, off, none⟩) (n + 1) cap (v :: xs)) L0) (ht : ckSlice P t e 1 = true)
    (h : ∀ (ad' : Option Addr) (cap' : Nat), Sep w0 F (subR ad' n cap' xs :: L0) w → wpList P ops Q rest (a.put o.dst (.slice ad' n cap')) w) : wpList P ops Q (o :: rest) a w := by
  obtain ⟨hu, ii, z, hi, hz, hs, hb, hzs⟩ := ckSlice.out ht
  have he : P.elem t = e := by unfold Program.elem; simp [hu]
  have hA : (if cap = 1 then some (⟨g, off, none⟩ : Addr) else some ⟨g, off + 1, none⟩) = some (if cap = 1 then ⟨g, off, none⟩ else ⟨g, off + 1, none⟩) := by split <;> rfl
  have hadd : (⟨g, off, none⟩ : Addr).add 1 = ⟨g, off + 1, none⟩ := rfl
  refine wpList_val hw (v := .slice (some (if cap = 1 then ⟨g, off, none⟩ else ⟨g, off + 1, none⟩)) n (cap - 1)) ?_ (h _ _ (hS.bring hr).subTail)
  unfold execOp
  simp only [ho, hx, hy, Option.map_some, Option.map_none, Sem.run_bind]
  rw [run_sliceAt_slice _ t _ _ _ _ (by rw [he]; exact hu), run_slice_l _ t _ (n + 1) cap (by rw [he]; exact hu) .i64 1 (by omega) (by omega), he]
  simp [sizeOf, typeInfo, hi, hs, sliced, Result.andThen, Sem.run_bind, hadd]
  split <;> rfl
variable {blk : Nat → Nat} {conf : Nat → List Nat} {flg : List Nat} {restV : List (Nat × Oper)} {news : List Value} {ad : Option Addr} {A : Addr} {sz m b : Nat} {T : TypeId} {fz : Nat × Nat}
theorem ckV_loadOld {cs : Array Value} (hS : Sep w0 [] L w) (ho : o.op = .load t x) (hw : Region.wanted o (yielded ops a.tmps) = true) (hx : a.eval x = .pointer (some ⟨b, off, none⟩)) (hf : i ∈ flg → b = blk i) (hb : b < w0.heap.size) (h0 : w0.heap[b]? = some (.cells cs T fz)) (hv : cs[off]? = some v) (ht : ckScalar P t = true)
    (h : wpV P ops blk conf flg Q restV (a.put o.dst v) w) : wpV P ops blk conf flg Q ((i, o) :: restV) a w :=
  wpV_ld (A := ⟨b, off, none⟩) (by unfold ckCls; rw [ho]) hw hf (fun w' hw' => exec_load ho hx (run_load1 (cs := cs.toList) ht (by simpa using hw'.trans (hS.old hb h0)) (by simpa using hv))) h
theorem ckV_appendNone {ax : Option Addr} (ho : o.op = .call { callee := .builtin .append, args := #[x, y], argTypes := #[t, t] }) (hw : Region.wanted o (yielded ops a.tmps) = true) (hx : a.eval x = .slice none 0 0) (hy : a.eval y = .slice ax 0 c) (ht : ckSlice P t e sz = true)
    (h : wpV P ops blk conf flg Q restV (a.put o.dst (.slice none 0 0)) w) : wpV P ops blk conf flg Q ((i, o) :: restV) a w :=
  wpV_val (by unfold ckCls; rw [ho]) hw (exec_append ho hx hy (fun _ => append_none ht ax c 0)) (fun _ _ => rfl) h
theorem ckV_appendO (hS : Sep w0 [] L w) (ho : o.op = .call { callee := .builtin .append, args := #[x, y], argTypes := #[t, t] }) (hw : Region.wanted o (yielded ops a.tmps) = true) (hx : a.eval x = .slice ad n cap) (hy : a.eval y = .slice (some A) m c)
    (hr : Rem L (rowR ad n cap e sz xs) L0) (hA : ∀ j u, news[j]? = some u → w.cell? (A.add j) = some u) (hl : news.length = m * sz) (hone : ∀ u ∈ news, u.oneCell' = true) (h0 : 0 < m) (hsm : n + m ≤ 1000000000) (ht : ckSlice P t e sz = true) (hcf : ∀ j ∈ conf i, blk j < w0.heap.size) {n' : Nat} (hn' : n + m = n')
    (h : ∀ (ad' : Option Addr) (cap' : Nat) (w' : World), Sep w0 [] (rowR ad' n' cap' e sz (xs ++ news) :: L0) w' → wpV P ops blk conf flg Q restV (a.put o.dst (.slice ad' n' cap')) w') : wpV P ops blk conf flg Q ((i, o) :: restV) a w := by
  subst hn'
  obtain ⟨g', cap', w', hrun, h1⟩ := append_any (c := c) hS hr ht hA hl hone h0 hsm 0
  have hrun' : ∀ ty, (Builtin.append_ #[t, t] ty #[.slice ad n cap, .slice (some A) m c]).run P w = .ok (.slice (some ⟨g', 0, none⟩) (n + m) cap') w' := fun _ => hrun
  refine wpV_val (by unfold ckCls; rw [ho]) hw (exec_append ho hx hy hrun') (fun j hj => ?_) (h _ _ _ h1)
  exact (h1.frame _ (hcf j hj) (by simp)).trans (hS.frame _ (hcf j hj) (by simp)).symm
/-- A slice that is only read, copied to nothing. -/
theorem ckV_appendSub (hS : Sep w0 [] L w) (ho : o.op = .call { callee := .builtin .append, args := #[x, y], argTypes := #[t, t] }) (hw : Region.wanted o (yielded ops a.tmps) = true) (hx : a.eval x = .slice none 0 0) (hy : a.eval y = .slice ad m c)
    (hm : subR ad m c news ∈ L) (hone : ∀ u ∈ news, u.oneCell' = true) (hsm : m ≤ 1000000000) (ht : ckSlice P t e 1 = true) (hcf : ∀ j ∈ conf i, blk j < w0.heap.size)
    (h : ∀ (ad' : Option Addr) (cap' : Nat) (w' : World), Sep w0 [] (rowR ad' m cap' e 1 news :: L) w' → wpV P ops blk conf flg Q restV (a.put o.dst (.slice ad' m cap')) w') : wpV P ops blk conf flg Q ((i, o) :: restV) a w := by
  have hl := (hS.subLen hm).1
  by_cases h0 : 0 < m
  · obtain ⟨g, off, rfl⟩ := hS.subSome hm h0
    refine ckV_appendO (e := e) (sz := 1) (ad := none) (news := news) (n' := m) (hS.nilRow (e := e) (sz := 1)) ho hw hx hy (.here _ _) (cells_rd hS (Rd.sub hm)) (by omega) hone h0 (by omega) ht hcf (by omega) fun ad' cap' w' h1 => ?_
    rw [List.nil_append] at h1
    exact h ad' cap' w' h1
  · obtain rfl : m = 0 := by omega
    obtain rfl : news = [] := List.eq_nil_of_length_eq_zero hl
    exact ckV_appendNone (e := e) (sz := 1) ho hw hx hy ht (h none 0 w (hS.nilRow (e := e) (sz := 1)))
end
end Go.Proofs.Ytchejceolnbcbaa
