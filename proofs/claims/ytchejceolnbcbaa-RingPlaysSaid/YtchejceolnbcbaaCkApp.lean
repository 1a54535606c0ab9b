/- append, of elements that lie anywhere. -/
import Derived.Test.YtchejceolnbcbaaCkIter
import Derived.Great.BuildSlice
set_option linter.unusedVariables false
set_option linter.unusedSimpArgs false
namespace Go.Proofs.Ytchejceolnbcbaa
open Go.RowKit
section
variable {P : Program} {w0 w : World} {F : List Nat} {L L0 : List Res} {t e : TypeId} {sz n cap m c : Nat} {xs news : List Value} {ad : Option Addr} {A : Addr}
theorem append_any (hS : Sep w0 F L w) (hr : Rem L (rowR ad n cap e sz xs) L0) (ht : ckSlice P t e sz = true) (hA : ∀ j u, news[j]? = some u → w.cell? (A.add j) = some u) (hl : news.length = m * sz) (h1 : ∀ u ∈ news, u.oneCell' = true) (h0 : 0 < m) (hsm : n + m ≤ 1000000000) (ty : TypeId) :
    ∃ (g' cap' : Nat) (w' : World), (Builtin.append_ #[t, t] ty #[.slice ad n cap, .slice (some A) m c]).run P w = .ok (.slice (some ⟨g', 0, none⟩) (n + m) cap') w' ∧ Sep w0 F (rowR (some ⟨g', 0, none⟩) (n + m) cap' e sz (xs ++ news) :: L0) w' := by
  obtain ⟨hu, i, z, hi, hz, hs, hb, hzs⟩ := ckSlice.out ht
  rcases (hS.bring hr).openRow with ⟨rfl, rfl, rfl, rfl, hS1⟩ | ⟨g, rest, rfl, hx, hn, hcm, hc, hS1⟩
  · have hp : m * i.bytes ≤ 1000000000 * 1024 := Nat.mul_le_mul (by omega) hb
    have h3 : (news ++ (Builtin.zeroCells z.cells (grownCap w m 0 e - m)).toList).length = grownCap w m 0 e * sz := by
      have hge := grownCap_ge w m 0 e
      simp only [List.length_append, hl, Array.length_toList, size_zeroCells, hzs, ← Nat.add_mul]
      congr 1; omega
    refine ⟨_, _, _, by rw [Nat.zero_add]; exact run_append_nil w t ty e i z hu hi hz A m c news (by rw [hs]; exact hl) hA h0 (by omega) (by omega), ?_⟩
    have h4 := hS1.drew.alloc (news ++ (Builtin.zeroCells z.cells (grownCap w m 0 e - m)).toList) e
    have e1 : (news ++ (Builtin.zeroCells z.cells (grownCap w m 0 e - m)).toList).toArray = news.toArray ++ Builtin.zeroCells z.cells (grownCap w m 0 e - m) := by
      apply Array.ext'; simp
    rw [e1] at h4
    have h5 := Sep.shut (n := m) (cap := grownCap w m 0 e) (sz := sz) (by rw [← e1] at h4; exact h4) news (Builtin.zeroCells z.cells (grownCap w m 0 e - m)).toList rfl hl (grownCap_ge _ _ _ _) (grownCap_le_maxLen _ _ _ _ (by unfold maxLen; omega)) h3
    rw [Nat.zero_add, List.nil_append, ← e1]
    exact h5
  · have hg : (pts g (xs ++ rest) e).holds w := hS1.holds _ (by simp)
    by_cases hroom : n + m ≤ cap
    · have hle : n * sz + m * sz ≤ cap * sz := by rw [← Nat.add_mul]; exact Nat.mul_le_mul_right _ hroom
      have hrl : xs.length + rest.length = cap * sz := by rw [← hc, List.length_append]
      refine ⟨g, cap, _, run_append_room w t ty e i hu hi g n cap _ hg A m c news (by rw [hs]; exact hl) hA h1 hroom (by simp only [List.size_toArray]; rw [hc, hs, hl]; exact hle), ?_⟩
      have e1 : ((xs ++ rest).toArray.toList.take (n * i.size) ++ news ++ (xs ++ rest).toArray.toList.drop (n * i.size + news.length)) = (xs ++ news) ++ rest.drop (m * sz) := by
        obtain ⟨t1, t2⟩ := take_add xs rest (n * i.size) (by rw [hs]; exact hx)
        show (xs ++ rest).take (n * i.size) ++ news ++ (xs ++ rest).drop (n * i.size + news.length) = _
        rw [t1, t2, hl]
      rw [e1]
      exact Sep.shut (n := n + m) (cap := cap) (sz := sz) (hS1.setRow ((xs ++ news) ++ rest.drop (m * sz)) (.here _ _ _)) (xs ++ news) (rest.drop (m * sz)) rfl (by rw [List.length_append, hx, hl, Nat.add_mul]) hroom hcm (by simp only [List.length_append, List.length_drop, hl]; omega)
    · have hbig : Builtin.nextslicecap (n + m) cap * i.bytes ≤ 281474976710656 := by
        have h2 := nextslicecap_le (need := n + m) (old := cap) (by omega)
        have : Builtin.nextslicecap (n + m) cap * i.bytes ≤ (2 * 1000000000) * 1024 := Nat.mul_le_mul (by omega) hb
        omega
      refine ⟨w.heap.size, _, _, run_append_grow w t ty e i z hu hi hz ⟨g, 0, none⟩ n cap xs (by rw [hs]; exact hx) (fun j v hv => pts_cells hg j v (by rw [List.getElem?_append_left (List.getElem?_eq_some_iff.1 hv).1]; exact hv)) A m c news (by rw [hs]; exact hl) hA (by omega) (by omega) hbig, ?_⟩
      have h3 := hS1.drew.alloc ((xs ++ news) ++ (Builtin.zeroCells z.cells (grownCap w (n + m) cap e - (n + m))).toList) e
      have e1 : ((xs ++ news) ++ (Builtin.zeroCells z.cells (grownCap w (n + m) cap e - (n + m))).toList).toArray = xs.toArray ++ news.toArray ++ Builtin.zeroCells z.cells (grownCap w (n + m) cap e - (n + m)) := by
        apply Array.ext'; simp
      have h4 := Sep.shut (n := n + m) (cap := grownCap w (n + m) cap e) (sz := sz) (h3.perm (.swap _ _ _)).drop (xs ++ news) (Builtin.zeroCells z.cells (grownCap w (n + m) cap e - (n + m))).toList rfl (by rw [List.length_append, hx, hl, Nat.add_mul]) (grownCap_ge _ _ _ _) (grownCap_le_maxLen _ _ _ _ (by unfold maxLen; omega)) (by
        have hge := grownCap_ge w (n + m) cap e
        simp only [List.length_append, hx, hl, Array.length_toList, size_zeroCells, hzs, ← Nat.add_mul]
        congr 1; omega)
      rw [e1] at h4
      exact h4
theorem cells_sub {b off : Nat} {cs : List Value} {T : TypeId} (hS : Sep w0 F L w) (hm : pts b cs T ∈ L) (hn : ∀ j u, news[j]? = some u → cs[off + j]? = some u) : ∀ j u, news[j]? = some u → w.cell? ((⟨b, off, none⟩ : Addr).add j) = some u := fun j u hu => by
  have hadd : (⟨b, off, none⟩ : Addr).add j = ⟨b, off + j, none⟩ := by unfold Addr.add; split <;> simp_all
  rw [hadd]; exact pts_cell (hS.holds _ hm) (hn j u hu)
theorem cells_row {g : Nat} {k kc : Nat} {T : TypeId} {ys : List Value} (hS : Sep w0 F L w) (hm : rowR (some ⟨g, 0, none⟩) k kc T 1 ys ∈ L) (hn : ∀ (j : Nat) (u : Value), news[j]? = some u → ys[j]? = some u) : ∀ (j : Nat) (u : Value), news[j]? = some u → w.cell? ((⟨g, 0, none⟩ : Addr).add j) = some u := fun j u hu => by
  obtain ⟨_, _, _, _, _, rest, _, hh⟩ := hS.holds _ hm
  have h1 := hn j u hu
  exact pts_cells (cs := ys ++ rest) (T := T) hh j u (by rw [List.getElem?_append_left (List.getElem?_eq_some_iff.1 h1).1]; exact h1)
end
section
variable {P : Program} {w w0 : World} {F : List Nat} {L L0 : List Res} {ops : Array Oper} {blk : Nat → Nat} {conf : Nat → List Nat} {flg : List Nat} {Q : Exit → Act → World → Prop} {restO : List Oper} {o : Oper} {a : Act} {i : Nat} {t e : TypeId} {sz n m cap c : Nat} {xs news : List Value} {x y : Operand} {v : Value} {ad : Option Addr} {A : Addr}
theorem wpT_valA {w' : World} (hc : ckCls o = 2) (hw : Region.wanted o (yielded ops a.tmps) = true) (hr : (execOp a.eval o).run P w = .ok (.value v) w') (hcf : ∀ j ∈ conf i, w'.heap[blk j]? = w.heap[blk j]?) (h : wpT P ops blk conf flg Q (i + 1) restO (a.put o.dst v) w') : wpT P ops blk conf flg Q i (o :: restO) a w :=
  wpT_act hc hw (by unfold Oper.wp; rw [hr]; exact ⟨hcf, h⟩)
theorem ck_appendA (hS : Sep w0 F L w) (ho : o.op = .call { callee := .builtin .append, args := #[x, y], argTypes := #[t, t] }) (hw : Region.wanted o (yielded ops a.tmps) = true) (hx : a.eval x = .slice ad n cap) (hy : a.eval y = .slice (some A) m c)
    (hr : Rem L (rowR ad n cap e sz xs) L0) (hA : ∀ j u, news[j]? = some u → w.cell? (A.add j) = some u) (hl : news.length = m * sz) (hone : ∀ u ∈ news, u.oneCell' = true) (h0 : 0 < m) (hsm : n + m ≤ 1000000000) (ht : ckSlice P t e sz = true)
    (h : ∀ (g' cap' : Nat) (w' : World), Sep w0 F (rowR (some ⟨g', 0, none⟩) (n + m) cap' e sz (xs ++ news) :: L0) w' → wpList P ops Q restO (a.put o.dst (.slice (some ⟨g', 0, none⟩) (n + m) cap')) w') : wpList P ops Q (o :: restO) a w := by
  obtain ⟨g', cap', w', hrun, h1⟩ := append_any (c := c) hS hr ht hA hl hone h0 hsm 0
  have hrun' : ∀ ty, (Builtin.append_ #[t, t] ty #[.slice ad n cap, .slice (some A) m c]).run P w = .ok (.slice (some ⟨g', 0, none⟩) (n + m) cap') w' := fun _ => hrun
  exact wpList_val hw (exec_append ho hx hy hrun') (h _ _ _ h1)
/-- In a region that draws its order, where nothing is in conflict with it. -/
theorem ckT_appendA (hS : Sep w0 F L w) (ho : o.op = .call { callee := .builtin .append, args := #[x, y], argTypes := #[t, t] }) (hw : Region.wanted o (yielded ops a.tmps) = true) (hx : a.eval x = .slice ad n cap) (hy : a.eval y = .slice (some A) m c)
    (hr : Rem L (rowR ad n cap e sz xs) L0) (hA : ∀ j u, news[j]? = some u → w.cell? (A.add j) = some u) (hl : news.length = m * sz) (hone : ∀ u ∈ news, u.oneCell' = true) (h0 : 0 < m) (hsm : n + m ≤ 1000000000) (ht : ckSlice P t e sz = true) (hcf : conf i = [])
    (h : ∀ (g' cap' : Nat) (w' : World), Sep w0 F (rowR (some ⟨g', 0, none⟩) (n + m) cap' e sz (xs ++ news) :: L0) w' → wpT P ops blk conf flg Q (i + 1) restO (a.put o.dst (.slice (some ⟨g', 0, none⟩) (n + m) cap')) w') : wpT P ops blk conf flg Q i (o :: restO) a w := by
  obtain ⟨g', cap', w', hrun, h1⟩ := append_any (c := c) hS hr ht hA hl hone h0 hsm 0
  have hrun' : ∀ ty, (Builtin.append_ #[t, t] ty #[.slice ad n cap, .slice (some A) m c]).run P w = .ok (.slice (some ⟨g', 0, none⟩) (n + m) cap') w' := fun _ => hrun
  exact wpT_valA (by unfold ckCls; rw [ho]) hw (exec_append ho hx hy hrun') (by rw [hcf]; simp) (h _ _ _ h1)
theorem exec_build1 {w : World} (ho : o.op = .buildSlice t 1 #[(0, y)]) (hy : Wh (a.eval y) v) (hv : v.oneCell' = true) (ht : ckSlice P t e 1 = true) : (execOp a.eval o).run P w = .ok (.value (.slice (some ⟨w.heap.size, 0, none⟩) 1 1)) (w.alloc (.cells #[v] e)) := by
  obtain ⟨hu, i, z, hi, hz, hs, hb, hzs⟩ := ckSlice.out ht
  have hvc : v.cells = #[v] := by cases v <;> first | rfl | simp [Value.oneCell'] at hv
  unfold execOp
  simp [ho, Instr.buildSlice, run_underlying hu, sizeOf, typeInfo, hi, hs, zeroValue, hz, Instr.fill, hy.eq, hvc, hzs, newRow, Result.andThen, Sem.run_bind, set_one]
theorem ckT_build1R (hS : Sep w0 F L w) (ho : o.op = .buildSlice t 1 #[(0, y)]) (hw : Region.wanted o (yielded ops a.tmps) = true) (hy : Wh (a.eval y) v) (hv : v.oneCell' = true) (ht : ckSlice P t e 1 = true) (hcf : conf i = [])
    (h : ∀ (q : Nat) (w' : World), Sep w0 F (rowR (some ⟨q, 0, none⟩) 1 1 e 1 [v] :: L) w' → wpT P ops blk conf flg Q (i + 1) restO (a.put o.dst (.slice (some ⟨q, 0, none⟩) 1 1)) w') : wpT P ops blk conf flg Q i (o :: restO) a w :=
  wpT_valA (by unfold ckCls; rw [ho]) hw (exec_build1 ho hy hv ht) (by rw [hcf]; simp) (h _ _ ((hS.alloc [v] e).shut [v] [] rfl rfl (Nat.le_refl _) (by unfold maxLen; omega) rfl))
/-- A slice of one element, of whatever cells. -/
theorem ck_buildE (hS : Sep w0 F L w) (ho : o.op = .buildSlice t 1 #[(0, y)]) (hw : Region.wanted o (yielded ops a.tmps) = true) (hy : a.eval y = .agg news.toArray) (hn : news.length = sz) (h0 : 0 < sz) (hsm : sz ≤ 1000) (ht : ckSlice P t e sz = true)
    (h : ∀ (q : Nat) (w' : World), Sep w0 F (pts q news e :: L) w' → wpList P ops Q restO (a.put o.dst (.slice (some ⟨q, 0, none⟩) 1 1)) w') : wpList P ops Q (o :: restO) a w := by
  obtain ⟨hu, i, z, hi, hz, hs, hb, hzs⟩ := ckSlice.out ht
  have hf : Instr.fill (fun i' => some (i' * i.size, i.size)) ((Array.range (1 * i.size)).map (z.cells[· % z.cells.size]!)) [(0, Value.agg news.toArray)] = some news.toArray := by
    have := Go.Great.fill_whole (s := i.size) (by omega) [Value.agg news.toArray] ((Array.range (1 * i.size)).map (z.cells[· % z.cells.size]!)) (fun u hu => by simp at hu; subst hu; simp [Value.cells, hn, hs]) (by simp)
    simpa [Value.cells] using this
  have hrun : (execOp a.eval o).run P w = .ok (.value (.slice (some ⟨w.heap.size, 0, none⟩) 1 1)) (w.alloc (.cells news.toArray e)) := by
    unfold execOp
    simp only [ho, Sem.run_bind]
    rw [Go.run_buildSlice w t e 1 _ news.toArray i z hu hi hz (by omega) (by omega) (by rw [show (Array.map (fun (x : Nat × Operand) => (x.1, a.eval x.2)) #[(0, y)]).toList = [(0, a.eval y)] from by simp, hy]; exact hf)]
    rfl
  exact wpList_val hw hrun (h _ _ (hS.alloc news e))
end
theorem Ct.call2 {P : Program} {f : FuncId} {args : Array Value} {r1 r2 : Res} {post : Value → List Res → Prop} {w0 w : World} {F : List Nat} {L L1 L0 : List Res} (h : Ct P f args [r1, r2] post) (hr1 : Rem L r1 L1) (hr2 : Rem L1 r2 L0) (hS : Sep w0 F L w)
    {R : Ending → World → Prop} (hR : ∀ v L' w', post v L' → Sep w0 F (L' ++ L0) w' → R (.returned v) w') : Calls P f args w R :=
  Ct.call (L := L0) h ((hS.perm hr1.perm).perm (.cons _ hr2.perm)) hR
end Go.Proofs.Ytchejceolnbcbaa
