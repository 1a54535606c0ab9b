/- Steps in a region whose acts no edge orders: make, append, a new slice of one element; a fact as a resource. -/
import Derived.Test.YtchejceolnbcbaaCkUno
import Derived.Test.YtchejceolnbcbaaCkApp
import Derived.Deep.OwnRows
set_option linter.unusedVariables false
set_option linter.unusedSimpArgs false
namespace Go.Proofs.Ytchejceolnbcbaa
open Go.RowKit
section
variable {P : Program} {ops : Array Oper} {blk : Nat → Nat} {conf : Nat → List Nat} {flg : List Nat} {Q : Exit → Act → World → Prop} {rest : List (Nat × Oper)} {w w0 : World} {F : List Nat} {L L0 : List Res} {o : Oper} {a : Act} {i : Nat} {t e : TypeId} {sz n m cap c : Nat} {xs news : List Value} {x y : Operand} {v : Value} {ad : Option Addr} {A : Addr}
theorem exec_make {z : Value} {bytes : Nat} {kl kc : IntKind} {l k : Int} (ho : o.op = .makeSlice t x y) (hx : a.eval x = .int kl l) (hy : a.eval y = .int kc k) (hl : l = n) (hk : k = n) (ht : P.underlying t = some (.slice e)) (hinfo : (P.info? e).map (fun i => (i.zero, i.size, i.bytes)) = some (some z, 1, bytes)) (hz1 : z.cells = #[z]) (hbytes : bytes * n ≤ 281474976710656) (h63 : n ≤ 9223372036854775807) :
    (execOp a.eval o).run P w = .ok (.value (.slice (some ⟨w.heap.size, 0, none⟩) n n)) (w.alloc (.cells (List.replicate n z).toArray e)) := by
  subst hl hk
  have hr := run_make_row' t e z bytes ht hinfo hz1 kl kc n hbytes h63 w
  have hm : madeCells #[z] n = (List.replicate n z).toArray := by
    apply Array.ext
    · simp [madeCells]
    · intro i h1 h2; simp [madeCells, Nat.mod_one]
  rw [hm] at hr
  unfold execOp
  simp only [ho, hx, hy, Sem.run_bind, hr]
  rfl
theorem ckV_make {z : Value} {bytes : Nat} {kl kc : IntKind} {l k : Int} (n : Nat) (hS : Sep w0 F L w) (ho : o.op = .makeSlice t x y) (hw : Region.wanted o (yielded ops a.tmps) = true) (hx : a.eval x = .int kl l) (hy : a.eval y = .int kc k) (hl : l = n) (hk : k = n) (ht : P.underlying t = some (.slice e)) (hinfo : (P.info? e).map (fun i => (i.zero, i.size, i.bytes)) = some (some z, 1, bytes)) (hz1 : z.cells = #[z]) (hbytes : bytes * n ≤ 281474976710656) (h63 : n ≤ 1000000000)
    (hcf : ∀ j ∈ conf i, blk j < w.heap.size) (h : ∀ g w', Sep w0 F (pts g (List.replicate n z) e :: L) w' → wpV P ops blk conf flg Q rest (a.put o.dst (.slice (some ⟨g, 0, none⟩) n n)) w') : wpV P ops blk conf flg Q ((i, o) :: rest) a w :=
  wpV_val (by unfold ckCls; rw [ho]) hw (exec_make ho hx hy hl hk ht hinfo hz1 hbytes (by omega)) (fun j hj => Below.heap_alloc w _ _ (hcf j hj)) (h _ _ (hS.alloc _ e))
theorem ckV_build1R (hS : Sep w0 F L w) (ho : o.op = .buildSlice t 1 #[(0, y)]) (hw : Region.wanted o (yielded ops a.tmps) = true) (hy : Wh (a.eval y) v) (hv : v.oneCell' = true) (ht : ckSlice P t e 1 = true) (hcf : ∀ j ∈ conf i, blk j < w.heap.size)
    (h : ∀ (q : Nat) (w' : World), Sep w0 F (rowR (some ⟨q, 0, none⟩) 1 1 e 1 [v] :: L) w' → wpV P ops blk conf flg Q rest (a.put o.dst (.slice (some ⟨q, 0, none⟩) 1 1)) w') : wpV P ops blk conf flg Q ((i, o) :: rest) a w :=
  wpV_val (by unfold ckCls; rw [ho]) hw (exec_build1 ho hy hv ht) (fun j hj => Below.heap_alloc w _ _ (hcf j hj)) (h _ _ ((hS.alloc [v] e).shut [v] [] rfl rfl (Nat.le_refl _) (by unfold maxLen; omega) rfl))
theorem ckV_build1 (hS : Sep w0 F L w) (ho : o.op = .buildSlice t 1 #[(0, y)]) (hw : Region.wanted o (yielded ops a.tmps) = true) (hy : Wh (a.eval y) v) (hv : v.oneCell' = true) (ht : ckSlice P t e 1 = true) (hcf : ∀ j ∈ conf i, blk j < w.heap.size)
    (h : ∀ (q : Nat) (w' : World), Sep w0 F (pts q [v] e :: L) w' → wpV P ops blk conf flg Q rest (a.put o.dst (.slice (some ⟨q, 0, none⟩) 1 1)) w') : wpV P ops blk conf flg Q ((i, o) :: rest) a w :=
  wpV_val (by unfold ckCls; rw [ho]) hw (exec_build1 ho hy hv ht) (fun j hj => Below.heap_alloc w _ _ (hcf j hj)) (h _ _ (hS.alloc [v] e))
theorem ckV_appendA (hS : Sep w0 F L w) (ho : o.op = .call { callee := .builtin .append, args := #[x, y], argTypes := #[t, t] }) (hw : Region.wanted o (yielded ops a.tmps) = true) (hx : a.eval x = .slice ad n cap) (hy : a.eval y = .slice (some A) m c)
    (hr : Rem L (rowR ad n cap e sz xs) L0) (hA : ∀ j u, news[j]? = some u → w.cell? (A.add j) = some u) (hl : news.length = m * sz) (hone : ∀ u ∈ news, u.oneCell' = true) (h0 : 0 < m) (hsm : n + m ≤ 1000000000) (ht : ckSlice P t e sz = true) (hcf : ∀ j ∈ conf i, ∃ cs T, pts (blk j) cs T ∈ L0)
    (h : ∀ (g' cap' : Nat) (w' : World), Sep w0 F (rowR (some ⟨g', 0, none⟩) (n + m) cap' e sz (xs ++ news) :: L0) w' → wpV P ops blk conf flg Q rest (a.put o.dst (.slice (some ⟨g', 0, none⟩) (n + m) cap')) w') : wpV P ops blk conf flg Q ((i, o) :: rest) a w := by
  obtain ⟨g', cap', w', hrun, h1⟩ := append_any (c := c) hS hr ht hA hl hone h0 hsm 0
  have hrun' : ∀ ty, (Builtin.append_ #[t, t] ty #[.slice ad n cap, .slice (some A) m c]).run P w = .ok (.slice (some ⟨g', 0, none⟩) (n + m) cap') w' := fun _ => hrun
  refine wpV_val (by unfold ckCls; rw [ho]) hw (exec_append ho hx hy hrun') (fun j hj => ?_) (h _ _ _ h1)
  obtain ⟨cs, T, hm⟩ := hcf j hj
  exact Eq.trans (h1.holds _ (List.mem_cons_of_mem _ hm)) (Eq.symm ((hS.bring hr).holds _ (List.mem_cons_of_mem _ hm)))
end
section
variable {P : Program} {ops : Array Oper} {blk : Nat → Nat} {conf : Nat → List Nat} {flg : List Nat} {Q : Exit → Act → World → Prop} {restO : List Oper} {w w0 : World} {F : List Nat} {L L' : List Res} {o : Oper} {a : Act} {k i g n cap sz : Nat} {t e : TypeId} {xs : List Value} {x y : Operand} {v : Value}
theorem ckT_loadRow (hS : Sep w0 F L w) (ho : o.op = .load t x) (hw : Region.wanted o (yielded ops a.tmps) = true) (hx : a.eval x = .pointer (some ⟨g, i, none⟩)) (hb : k ∈ flg → g = blk k) (hm : rowR (some ⟨g, 0, none⟩) n cap e sz xs ∈ L) (hv : xs[i]? = some v) (ht : ckScalar P t = true)
    (h : wpT P ops blk conf flg Q (k + 1) restO (a.put o.dst v) w) : wpT P ops blk conf flg Q k (o :: restO) a w := by
  obtain ⟨_, _, _, _, _, rest, _, hh⟩ := hS.holds _ hm
  refine wpT_ld (A := ⟨g, i, none⟩) (by unfold ckCls; rw [ho]) hw hb (fun w' hw' => exec_load ho hx (run_load1 (cs := xs ++ rest) ht (hw'.trans hh) ?_)) h
  rw [List.getElem?_append_left (List.getElem?_eq_some_iff.1 hv).1]; exact hv
theorem ckT_storeRow (hS : Sep w0 F L w) (ho : o.op = .store t x y) (hw : Region.wanted o (yielded ops a.tmps) = true) (hx : a.eval x = .pointer (some ⟨g, i, none⟩)) (hy : Wh (a.eval y) v) (hu : Upd L (rowR (some ⟨g, 0, none⟩) n cap e sz xs) (rowR (some ⟨g, 0, none⟩) n cap e sz (xs.set i v)) L') (hl : i < xs.length) (hv : v.oneCell' = true) (ht : ckSize P t 1 = true) (hcf : conf k = [])
    (h : ∀ w', Sep w0 F L' w' → wpT P ops blk conf flg Q (k + 1) restO (a.put o.dst undef) w') : wpT P ops blk conf flg Q k (o :: restO) a w := by
  obtain ⟨A, B, rfl, rfl⟩ := hu.split
  have h1 : Sep w0 F (rowR (some ⟨g, 0, none⟩) n cap e sz xs :: (A ++ B)) w := hS.perm List.perm_middle
  rcases h1.openRow with ⟨h0, _⟩ | ⟨g', rest, h0, h3, h4, h5, h6, h7⟩
  · cases h0
  · injection h0 with h0; injection h0 with h0 _ _; subst h0
    have hp : (pts g (xs ++ rest) e).holds w := h7.holds _ (by simp)
    refine wpT_act (by unfold ckCls; rw [ho]) hw ?_
    unfold Oper.wp
    rw [exec_store ho hx hy.eq (run_store1 (cs := xs ++ rest) ht hv hp (by rw [List.length_append]; omega))]
    refine ⟨by rw [hcf]; simp, h _ ?_⟩
    have h8 := h7.setCell (off := i) v (.here _ _ _)
    have h9 := h8.shut (n := n) (cap := cap) (sz := sz) (xs.set i v) rest (by rw [List.set_append_left _ _ hl]) (by simpa using h3) h4 h5 (by simpa using h6)
    exact h9.perm List.perm_middle.symm
end
/-- A fact, as a resource. -/
def pureR (p : Prop) : Res := ⟨[], fun _ => p, fun _ _ _ h => h⟩
theorem Sep.fact {w0 w : World} {F : List Nat} {L : List Res} {p : Prop} (h : Sep w0 F L w) (hp : p) : Sep w0 F (pureR p :: L) w := h.addNil rfl hp
theorem Sep.factOf {w0 w : World} {F : List Nat} {L : List Res} {p : Prop} (h : Sep w0 F L w) (hm : pureR p ∈ L) : p := h.holds _ hm
end Go.Proofs.Ytchejceolnbcbaa
