/- What Plain and Same come to, over counts. -/
import Derived.Test.YtiellldikfobbaaLedgerRefAll
import Derived.WalkKit
import Derived.WalkSpells
import Derived.WalkLawsBesides
import Derived.WalkMore
import Derived.Deep.LoopGhost
set_option linter.unusedVariables false
set_option linter.unusedSimpArgs false
namespace Go.Proofs.Ytiellldikfobbaa
open Go.RowKit
theorem Ct.out {P : Program} {f : FuncId} {args : Array Value} {w w0 : World} {F : List Nat} {L : List Res} {v : Value} {R : Ending → World → Prop} (h : Calls P f args w (CkR (Gives v []) w0 F L)) (hR : ∀ w', Sep w0 F L w' → R (.returned v) w') : Calls P f args w R :=
  h.mono fun e w' hr => by
    cases e with
    | returned u => obtain ⟨L', ⟨rfl, rfl⟩, hs⟩ := hr; exact hR w' hs
    | panicked c => exact hr.elim
    | outgrown => exact hr.elim
theorem ckT_callV0 {P : Program} {ops : Array Oper} {blk : Nat → Nat} {conf : Nat → List Nat} {flg : List Nat} {Q : Exit → Act → World → Prop} {rest : List Oper} {w w0 : World} {F : List Nat} {L : List Res} {o : Oper} {a : Act} {i : Nat} {v : Value} {x : Operand}
    {gf : Nat} {lb : Array Value} {xs : Array Operand} {ts : Array TypeId} {args : Array Value} (hS : Sep w0 F L w) (ho : o.op = .call { callee := .value x, args := xs, argTypes := ts }) (hC : Ct P gf args [] (Gives v [])) (eg : ∀ u w, (callFunc gf u).run P w = .ok (.enter gf u) w) (hw : Region.wanted o (yielded ops a.tmps) = true) (hx : a.eval x = .func (.func gf) #[] lb) (ha : xs.toList.map a.eval ++ lb.toList = args.toList)
    (hcf : ∀ j ∈ conf i, Keeps w0 F L L (blk j)) (h : ∀ w', Sep w0 F L w' → wpT P ops blk conf flg Q (i + 1) rest (a.put o.dst v) w') : wpT P ops blk conf flg Q i (o :: rest) a w :=
  wpT_act (by unfold ckCls; rw [ho]) hw (by
    have e : xs.map a.eval ++ lb = args := by rw [← Array.toList_inj, Array.toList_append, Array.toList_map]; exact ha
    have hrun : (execOp a.eval o).run P w = .ok (.enter gf args) w := by
      unfold execOp
      simp only [ho, resolve, hx]
      simp [invoke, go_sem, eg, e]
    unfold Oper.wp
    rw [hrun]
    exact hC.call0 hS fun w' hS' => ⟨fun j hj => (hcf j hj).out hS hS', h w' hS'⟩)
section
variable {P : Program} {ops : Array Oper} {Q : Exit → Act → World → Prop} {rest : List Oper} {w w0 : World} {F : List Nat} {L : List Res} {o : Oper} {a : Act} {x : Operand} {t : TypeId}
theorem Rd.rowS {A : Option Addr} {n cap sz : Nat} {e : TypeId} {xs : List Value} (hm : rowR A n cap e sz xs ∈ L) : Rd w0 F L A xs := fun w hS i v hv => by
  have h := hS.holds _ hm
  cases A with
  | none => obtain ⟨_, _, rfl⟩ := h; simp at hv
  | some A =>
    obtain ⟨h1, h2, _, _, _, rest, _, hh⟩ := h
    obtain ⟨g, o, s⟩ := A
    obtain rfl : o = 0 := h1
    obtain rfl : s = none := h2
    refine ⟨g, 0, _, _, _, rfl, hh, ?_⟩
    rw [Nat.zero_add, List.getElem?_toArray, List.getElem?_append_left (List.getElem?_eq_some_iff.1 hv).1]; exact hv
theorem Rd.many {A : Option Addr} {xs : List Value} (hS : Sep w0 F L w) (hR : Rd w0 F L A xs) {b off i n : Nat} {vs : List Value} (hA : A = some ⟨b, off, none⟩) (h0 : 0 < n) (hn : vs.length = n) (hv : ∀ j, j < n → xs[i + j]? = vs[j]?) :
    ∃ cs T fz, w.heap[b]? = some (.cells cs T fz) ∧ ∀ j, j < n → cs.toList[off + i + j]? = vs[j]? := by
  subst hA
  have key : ∀ j, j < n → ∃ cs T fz, w.heap[b]? = some (.cells cs T fz) ∧ cs[off + (i + j)]? = vs[j]? := fun j hj => by
    have hj' : j < vs.length := by omega
    obtain ⟨b', off', cs, T, fz, e, hh, hc⟩ := hR w hS (i + j) vs[j] (by rw [hv j hj]; exact List.getElem?_eq_getElem hj')
    injection e with e; injection e with e1 e2 _; subst e1; subst e2
    exact ⟨cs, T, fz, hh, by rw [hc, List.getElem?_eq_getElem hj']⟩
  obtain ⟨cs, T, fz, hh, _⟩ := key 0 h0
  refine ⟨cs, T, fz, hh, fun j hj => ?_⟩
  obtain ⟨cs', T', fz', hh', hc⟩ := key j hj
  rw [hh] at hh'
  injection hh' with hh'; injection hh' with e1 _ _; subst e1
  rw [Nat.add_assoc, ← hc, Array.getElem?_toList]
theorem ckT_loadRdN {blk : Nat → Nat} {conf : Nat → List Nat} {flg : List Nat} {A : Option Addr} {xs vs : List Value} {b off i k n : Nat} (hS : Sep w0 F L w) (hR : Rd w0 F L A xs) (ho : o.op = .load t x) (hw : Region.wanted o (yielded ops a.tmps) = true) (hA : A = some ⟨b, off, none⟩) (hx : a.eval x = .pointer (some ⟨b, off + i, none⟩)) (hb : k ∈ flg → b = blk k)
    (h0 : 0 < n) (hn : vs.length = n) (hv : ∀ j, j < n → xs[i + j]? = vs[j]?) (ht : ckAgg P t n = true)
    (h : wpT P ops blk conf flg Q (k + 1) rest (a.put o.dst (.agg vs.toArray)) w) : wpT P ops blk conf flg Q k (o :: rest) a w := by
  obtain ⟨cs, T, fz, hh, hc⟩ := Rd.many hS hR hA h0 hn hv
  exact wpT_ld (A := ⟨b, off + i, none⟩) (by unfold ckCls; rw [ho]) hw hb (fun w' hw' => exec_load ho hx (run_loadN (cs := cs.toList) ht (by simpa using hw'.trans hh) hn hc)) h
end
theorem eqFates (w : World) (d : Nat) (a0 a1 a2 a3 a4 a5 b0 b1 b2 b3 b4 b5 : Int) : (Op.equalIn (d + 2) 26 (.agg #[.int .i64 a0, .int .i64 a1, .int .i64 a2, .int .i64 a3, .int .i64 a4, .int .i64 a5]) (.agg #[.int .i64 b0, .int .i64 b1, .int .i64 b2, .int .i64 b3, .int .i64 b4, .int .i64 b5])).run Try.prog w = .ok (decide ([a0, a1, a2, a3, a4, a5] = [b0, b1, b2, b3, b4, b5])) w := by
  have hu : Try.prog.underlying 3 = some (.int .i64) := by kernel_rfl
  have ha : Try.prog.underlying 26 = some (.array 6 3) := by kernel_rfl
  have hI := fun (x y : Int) => run_equalIn_int (P := Try.prog) w d 3 .i64 .i64 x y hu
  rw [Op.equalIn]
  simp only [Sem.run_bind, run_underlying ha, Result.andThen_ok]
  simp only [Std.Legacy.Range.forIn_eq_forIn_range', Std.Legacy.Range.size, Nat.sub_zero, Nat.add_sub_cancel, Nat.div_one, List.range'_succ, List.range'_zero, List.forIn_cons, List.forIn_nil]
  go_simp
  by_cases h0 : ¬ a0 = b0
  · simp [h0]
  rw [Decidable.not_not] at h0
  by_cases h1 : ¬ a1 = b1
  · simp [h0, h1]
  rw [Decidable.not_not] at h1
  by_cases h2 : ¬ a2 = b2
  · simp [h0, h1, h2]
  rw [Decidable.not_not] at h2
  by_cases h3 : ¬ a3 = b3
  · simp [h0, h1, h2, h3]
  rw [Decidable.not_not] at h3
  by_cases h4 : ¬ a4 = b4
  · simp [h0, h1, h2, h3, h4]
  rw [Decidable.not_not] at h4
  by_cases h5 : ¬ a5 = b5
  · simp [h0, h1, h2, h3, h4, h5]
  rw [Decidable.not_not] at h5
  simp [h0, h1, h2, h3, h4, h5]
@[go_sem] theorem eqCnt (w : World) (k a0 a1 a2 a3 a4 a5 q l b0 b1 b2 b3 b4 b5 r : Int) : (Op.equalIn 10000 28 (.agg #[.int .i64 k, .int .i64 a0, .int .i64 a1, .int .i64 a2, .int .i64 a3, .int .i64 a4, .int .i64 a5, .int .i64 q]) (.agg #[.int .i64 l, .int .i64 b0, .int .i64 b1, .int .i64 b2, .int .i64 b3, .int .i64 b4, .int .i64 b5, .int .i64 r])).run Try.prog w = .ok (decide ([k, a0, a1, a2, a3, a4, a5, q] = [l, b0, b1, b2, b3, b4, b5, r])) w := by
  have hu : Try.prog.underlying 3 = some (.int .i64) := by kernel_rfl
  have hS : Try.prog.underlying 28 = some (.struct (Try.prog.fieldsOf 28)) := by kernel_rfl
  have hp : Try.prog.stoodInHeld 28 = false := by kernel_rfl
  have hI := fun (x y : Int) => run_equalIn_int (P := Try.prog) w 9998 3 .i64 .i64 x y hu
  have hF := eqFates w 9997 a0 a1 a2 a3 a4 a5 b0 b1 b2 b3 b4 b5
  rw [show (10000 : Nat) = 9999 + 1 from rfl, run_equalIn_agg w 9999 28 _ _ hS hp]
  simp only [Program.fieldsOf, Try.underlying28]
  simp only [Op.eqFields]
  go_simp
  by_cases h0 : ¬ k = l
  · simp [h0]
  rw [Decidable.not_not] at h0
  by_cases h1 : ¬ a0 = b0
  · simp [h0, h1]
  rw [Decidable.not_not] at h1
  by_cases h2 : ¬ a1 = b1
  · simp [h0, h1, h2]
  rw [Decidable.not_not] at h2
  by_cases h3 : ¬ a2 = b2
  · simp [h0, h1, h2, h3]
  rw [Decidable.not_not] at h3
  by_cases h4 : ¬ a3 = b3
  · simp [h0, h1, h2, h3, h4]
  rw [Decidable.not_not] at h4
  by_cases h5 : ¬ a4 = b4
  · simp [h0, h1, h2, h3, h4, h5]
  rw [Decidable.not_not] at h5
  by_cases h6 : ¬ a5 = b5
  · simp [h0, h1, h2, h3, h4, h5, h6]
  rw [Decidable.not_not] at h6
  by_cases h7 : ¬ q = r
  · simp [h0, h1, h2, h3, h4, h5, h6, h7]
  rw [Decidable.not_not] at h7
  simp [h0, h1, h2, h3, h4, h5, h6, h7]
theorem eqFatesT (w : World) (a0 a1 a2 a3 a4 a5 : Int) : (Op.equalIn 9999 26 (.agg #[.int .i64 a0, .int .i64 a1, .int .i64 a2, .int .i64 a3, .int .i64 a4, .int .i64 a5]) (.agg #[.int .i64 a0, .int .i64 a1, .int .i64 a2, .int .i64 a3, .int .i64 a4, .int .i64 a5])).run Try.prog w = .ok true w :=
  (eqFates w 9997 a0 a1 a2 a3 a4 a5 a0 a1 a2 a3 a4 a5).trans (by rw [decide_eq_true rfl])
theorem eqCntT (w : World) (k a0 a1 a2 a3 a4 a5 q : Int) : (Op.equalIn 10000 28 (.agg #[.int .i64 k, .int .i64 a0, .int .i64 a1, .int .i64 a2, .int .i64 a3, .int .i64 a4, .int .i64 a5, .int .i64 q]) (.agg #[.int .i64 k, .int .i64 a0, .int .i64 a1, .int .i64 a2, .int .i64 a3, .int .i64 a4, .int .i64 a5, .int .i64 q])).run Try.prog w = .ok true w :=
  (eqCnt w k a0 a1 a2 a3 a4 a5 q k a0 a1 a2 a3 a4 a5 q).trans (by rw [decide_eq_true rfl])
theorem plainOneC_ct (k a0 a1 a2 a3 a4 a5 q l b0 b1 b2 b3 b4 b5 r : Int) : Ct Try.prog 19 #[.agg #[.int .i64 k, .int .i64 a0, .int .i64 a1, .int .i64 a2, .int .i64 a3, .int .i64 a4, .int .i64 a5, .int .i64 q], .agg #[.int .i64 l, .int .i64 b0, .int .i64 b1, .int .i64 b2, .int .i64 b3, .int .i64 b4, .int .i64 b5, .int .i64 r]] [] (Gives (.bool (decide ([k, a0, a1, a2, a3, a4, a5, q] = [l, b0, b1, b2, b3, b4, b5, r]))) []) := by
  obtain ⟨z, hz⟩ : ∃ z, decide ([k, a0, a1, a2, a3, a4, a5, q] = [l, b0, b1, b2, b3, b4, b5, r]) = z := ⟨_, rfl⟩
  have hE := fun w => eqCnt w k a0 a1 a2 a3 a4 a5 q l b0 b1 b2 b3 b4 b5 r
  rw [hz] at hE ⊢
  clear hz
  intro w0 F L w hS
  simp only [List.cons_append, List.nil_append] at hS
  go_enter Try.func19, Try.ntmps19
  go_wp2_with (first | go_skip | (refine ck_load hS rfl rfl rfl (by repeat (first | exact List.Mem.head _ | apply List.Mem.tail)) rfl (by decide +kernel) ?_; simp only [Act.put, List.setIfInBounds_toArray, List.set_cons_zero, List.set_cons_succ]) | (refine ck_store hS rfl rfl rfl (by constructor) (by repeat (first | exact Upd.here _ _ _ | apply Upd.there)) (by simp <;> omega) rfl (by decide +kernel) ?_; clear hS; intro w hS; simp only [Act.put, List.setIfInBounds_toArray, List.set_cons_zero, List.set_cons_succ] at hS ⊢) | (refine ck_box hS rfl rfl (by constructor) ?_; clear hS; intro nb w hS; simp only [Act.put, List.setIfInBounds_toArray, List.set_cons_zero, List.set_cons_succ]) | (refine ck_max rfl rfl rfl rfl ?_; simp only [Act.put, List.setIfInBounds_toArray, List.set_cons_zero, List.set_cons_succ]) | (refine ck_min rfl rfl rfl rfl ?_; simp only [Act.put, List.setIfInBounds_toArray, List.set_cons_zero, List.set_cons_succ]) | (refine ck_loadAll hS rfl rfl rfl (by repeat (first | exact List.Mem.head _ | apply List.Mem.tail)) rfl (by (try simp only [List.length_cons, List.length_nil, Nat.zero_add, Nat.reduceAdd]); decide +kernel) ?_; simp only [Act.put, List.setIfInBounds_toArray, List.set_cons_zero, List.set_cons_succ]) | (refine ck_region (fun _ => 0) (fun _ => []) [] hS (by kernel_rfl) (by decide +kernel) ?_ ?_; exact ⟨fun _ _ _ h => h.2, fun _ _ h => h⟩; clear hS; intro w hS _; (repeat (first | (refine ckT_max rfl rfl rfl rfl ?_; simp only [Act.put, List.setIfInBounds_toArray, List.set_cons_zero, List.set_cons_succ]) | (refine ckT_min rfl rfl rfl rfl ?_; simp only [Act.put, List.setIfInBounds_toArray, List.set_cons_zero, List.set_cons_succ]) | (apply wpT_pure rfl rfl; (intro _; go_simp; (try (go_ints; (try go_simp))); (first | (rw [decide_eq_true]; omega) | (rw [decide_eq_false]; omega) | rfl)); simp only [Act.put, List.setIfInBounds_toArray, List.set_cons_zero, List.set_cons_succ]) | (refine ckT_load hS rfl rfl rfl (by simp) (by repeat (first | exact List.Mem.head _ | apply List.Mem.tail)) rfl (by decide +kernel) ?_; simp only [Act.put, List.setIfInBounds_toArray, List.set_cons_zero, List.set_cons_succ]) | (refine ckT_store hS rfl rfl rfl (by constructor) (by repeat (first | exact Upd.here _ _ _ | apply Upd.there)) (by simp) rfl (by decide +kernel) (by simp) ?_; clear hS; intro w hS; simp only [Act.put, List.setIfInBounds_toArray, List.set_cons_zero, List.set_cons_succ] at hS ⊢) | (refine wpT_skip rfl ?_; simp only [Act.put, List.setIfInBounds_toArray, List.set_cons_zero, List.set_cons_succ]) )); refine wpT_nil ?_))
  go_ret
  exact ⟨_, ⟨rfl, rfl⟩, hS.dropN 2⟩
section
variable {w0 w : World} {F : List Nat} {L : List Res} {A1 A2 : Option Addr} {c1 c2 : Nat} {xs : List (List Int)}
set_option maxHeartbeats 1000000 in
theorem sameC_calls (hS : Sep w0 F L w) (h1 : Rd w0 F L A1 (flat xs)) (h2 : Rd w0 F L A2 (flat xs)) (h8 : Eights xs) (n : Nat) (hn : xs.length = n) (hl1 : n ≤ 1000000000) :
    Calls Try.prog 18 #[.slice A1 n c1, .slice A2 n c2, .func (.func 19) #[] #[]] w (CkR (Gives (.bool true) []) w0 F L) := by
  have eg : ∀ u w, (callFunc 19 u).run Try.prog w = .ok (.enter 19 u) w := fun _ => run_enter (by kernel_rfl)
  have hfl : (flat xs).length = xs.length * 8 := flat_len h8
  go_enter Try.func18, Try.ntmps18
  go_wp2_with (first | go_skip | (refine ck_load hS rfl rfl rfl (by repeat (first | exact List.Mem.head _ | apply List.Mem.tail)) rfl (by decide +kernel) ?_; simp only [Act.put, List.setIfInBounds_toArray, List.set_cons_zero, List.set_cons_succ]) | (refine ck_store hS rfl rfl rfl (by constructor) (by repeat (first | exact Upd.here _ _ _ | apply Upd.there)) (by simp <;> omega) rfl (by decide +kernel) ?_; clear hS; intro w hS; simp only [Act.put, List.setIfInBounds_toArray, List.set_cons_zero, List.set_cons_succ] at hS ⊢) | (refine ck_box hS rfl rfl (by constructor) ?_; clear hS; intro nb w hS; simp only [Act.put, List.setIfInBounds_toArray, List.set_cons_zero, List.set_cons_succ]) | (refine ck_max rfl rfl rfl rfl ?_; simp only [Act.put, List.setIfInBounds_toArray, List.set_cons_zero, List.set_cons_succ]) | (refine ck_min rfl rfl rfl rfl ?_; simp only [Act.put, List.setIfInBounds_toArray, List.set_cons_zero, List.set_cons_succ])  | (refine ck_region (fun _ => 0) (fun _ => []) [] hS (by kernel_rfl) (by decide +kernel) ?_ ?_; exact ⟨fun _ _ _ h => h.2, fun _ _ h => h⟩; clear hS; intro w hS _; (repeat (first | (refine ckT_max rfl rfl rfl rfl ?_; simp only [Act.put, List.setIfInBounds_toArray, List.set_cons_zero, List.set_cons_succ]) | (refine ckT_min rfl rfl rfl rfl ?_; simp only [Act.put, List.setIfInBounds_toArray, List.set_cons_zero, List.set_cons_succ]) | (apply wpT_pure rfl rfl; (intro _; go_simp; (try (go_ints; (try go_simp))); (first | (rw [decide_eq_true]; omega) | (rw [decide_eq_false]; omega) | rfl)); simp only [Act.put, List.setIfInBounds_toArray, List.set_cons_zero, List.set_cons_succ]) | (refine ckT_load hS rfl rfl rfl (by simp) (by repeat (first | exact List.Mem.head _ | apply List.Mem.tail)) rfl (by decide +kernel) ?_; simp only [Act.put, List.setIfInBounds_toArray, List.set_cons_zero, List.set_cons_succ]) | (refine ckT_store hS rfl rfl rfl (by constructor) (by repeat (first | exact Upd.here _ _ _ | apply Upd.there)) (by simp) rfl (by decide +kernel) (by simp) ?_; clear hS; intro w hS; simp only [Act.put, List.setIfInBounds_toArray, List.set_cons_zero, List.set_cons_succ] at hS ⊢) | (refine wpT_skip rfl ?_; simp only [Act.put, List.setIfInBounds_toArray, List.set_cons_zero, List.set_cons_succ]) )); refine wpT_nil ?_))
  go_loopg [7] (n + 1) (fun g s wx => ∃ k : Nat, k + g = n + 1 ∧ k ≤ n ∧ s = .int .i64 k ∧ Sep w0 F L wx)
  case atStart => exact ⟨0, by omega, by omega, rfl, hS⟩
  case round =>
    obtain ⟨k, hkg, hkn, rfl, hS⟩ := hrel
    generalize wr = w at hS ⊢
    by_cases hk : k < n
    · obtain ⟨c, hc⟩ : ∃ c, xs[k]? = some c := ⟨xs[k], List.getElem?_eq_getElem (by omega)⟩
      obtain ⟨x, a0, a1, a2, a3, a4, a5, q, rfl⟩ := eight (h8 c (List.mem_of_getElem? hc))
      have hb : ((flat xs).drop (k * 8)).take 8 = [.int .i64 x, .int .i64 a0, .int .i64 a1, .int .i64 a2, .int .i64 a3, .int .i64 a4, .int .i64 a5, .int .i64 q] := flat_sub h8 hc
      have hv : ∀ j, j < 8 → (flat xs)[k * 8 + j]? = ([.int .i64 x, .int .i64 a0, .int .i64 a1, .int .i64 a2, .int .i64 a3, .int .i64 a4, .int .i64 a5, .int .i64 q] : List Value)[j]? := by
        rw [← hb]; exact sub_at (by rw [hfl]; omega)
      have hv0 : (flat xs)[k * 8]? = some (.int .i64 x) := hv 0 (by omega)
      obtain ⟨b1, o1, _, _, _, rfl, _, _⟩ := h1 w hS (k * 8) _ hv0
      obtain ⟨b2, o2, _, _, _, rfl, _, _⟩ := h2 w hS (k * 8) _ hv0
      have kP := plainOneC_ct x a0 a1 a2 a3 a4 a5 q x a0 a1 a2 a3 a4 a5 q
      rw [decide_eq_true rfl] at kP
      clear hb hc hv0 hfl hn h8
      go_wp2_with (first | go_skip | (refine ck_load hS rfl rfl rfl (by repeat (first | exact List.Mem.head _ | apply List.Mem.tail)) rfl (by decide +kernel) ?_; simp only [Act.put, List.setIfInBounds_toArray, List.set_cons_zero, List.set_cons_succ]) | (refine ck_store hS rfl rfl rfl (by constructor) (by repeat (first | exact Upd.here _ _ _ | apply Upd.there)) (by simp <;> omega) rfl (by decide +kernel) ?_; clear hS; intro w hS; simp only [Act.put, List.setIfInBounds_toArray, List.set_cons_zero, List.set_cons_succ] at hS ⊢) | (refine ck_box hS rfl rfl (by constructor) ?_; clear hS; intro nb w hS; simp only [Act.put, List.setIfInBounds_toArray, List.set_cons_zero, List.set_cons_succ]) | (refine ck_max rfl rfl rfl rfl ?_; simp only [Act.put, List.setIfInBounds_toArray, List.set_cons_zero, List.set_cons_succ]) | (refine ck_min rfl rfl rfl rfl ?_; simp only [Act.put, List.setIfInBounds_toArray, List.set_cons_zero, List.set_cons_succ])  | (refine ck_region (fun _ => 0) (fun _ => []) [] hS (by kernel_rfl) (by decide +kernel) ?_ ?_; exact ⟨fun _ _ _ h => h.2, fun _ _ h => h⟩; clear hS; intro w hS _; (repeat (first | (refine ckT_max rfl rfl rfl rfl ?_; simp only [Act.put, List.setIfInBounds_toArray, List.set_cons_zero, List.set_cons_succ]) | (refine ckT_min rfl rfl rfl rfl ?_; simp only [Act.put, List.setIfInBounds_toArray, List.set_cons_zero, List.set_cons_succ]) | (apply wpT_pure rfl rfl; (intro _; go_simp; (try (go_ints; (try go_simp))); (first | (rw [decide_eq_true]; omega) | (rw [decide_eq_false]; omega) | rfl)); simp only [Act.put, List.setIfInBounds_toArray, List.set_cons_zero, List.set_cons_succ]) | (refine ckT_load hS rfl rfl rfl (by simp) (by repeat (first | exact List.Mem.head _ | apply List.Mem.tail)) rfl (by decide +kernel) ?_; simp only [Act.put, List.setIfInBounds_toArray, List.set_cons_zero, List.set_cons_succ]) | (refine ckT_store hS rfl rfl rfl (by constructor) (by repeat (first | exact Upd.here _ _ _ | apply Upd.there)) (by simp) rfl (by decide +kernel) (by simp) ?_; clear hS; intro w hS; simp only [Act.put, List.setIfInBounds_toArray, List.set_cons_zero, List.set_cons_succ] at hS ⊢) | (refine wpT_skip rfl ?_; simp only [Act.put, List.setIfInBounds_toArray, List.set_cons_zero, List.set_cons_succ]) | (refine ckT_loadRdN (n := 8) hS h1 rfl rfl rfl rfl (by simp) (by omega) (by rfl) hv (by (try simp only [List.length_cons, List.length_nil, Nat.zero_add, Nat.reduceAdd]); decide +kernel) ?_; simp only [Act.put, List.setIfInBounds_toArray, List.set_cons_zero, List.set_cons_succ]) | (refine ckT_loadRdN (n := 8) hS h2 rfl rfl rfl rfl (by simp) (by omega) (by rfl) hv (by (try simp only [List.length_cons, List.length_nil, Nat.zero_add, Nat.reduceAdd]); decide +kernel) ?_; simp only [Act.put, List.setIfInBounds_toArray, List.set_cons_zero, List.set_cons_succ]) | (refine ckT_callV0 hS rfl kP eg rfl rfl rfl (by simp) ?_; clear hS; intro w hS; simp only [Act.put, List.setIfInBounds_toArray, List.set_cons_zero, List.set_cons_succ]))); refine wpT_nil ?_))
      go_roundg (n - k)
      case rel => exact ⟨k + 1, by omega, by omega, by go_num, hS⟩
      case measure => omega
    · have hkn' : k = n := by omega
      subst hkn'
      clear hfl hn
      go_wp2_with (first | go_skip | (refine ck_load hS rfl rfl rfl (by repeat (first | exact List.Mem.head _ | apply List.Mem.tail)) rfl (by decide +kernel) ?_; simp only [Act.put, List.setIfInBounds_toArray, List.set_cons_zero, List.set_cons_succ]) | (refine ck_store hS rfl rfl rfl (by constructor) (by repeat (first | exact Upd.here _ _ _ | apply Upd.there)) (by simp <;> omega) rfl (by decide +kernel) ?_; clear hS; intro w hS; simp only [Act.put, List.setIfInBounds_toArray, List.set_cons_zero, List.set_cons_succ] at hS ⊢) | (refine ck_box hS rfl rfl (by constructor) ?_; clear hS; intro nb w hS; simp only [Act.put, List.setIfInBounds_toArray, List.set_cons_zero, List.set_cons_succ]) | (refine ck_max rfl rfl rfl rfl ?_; simp only [Act.put, List.setIfInBounds_toArray, List.set_cons_zero, List.set_cons_succ]) | (refine ck_min rfl rfl rfl rfl ?_; simp only [Act.put, List.setIfInBounds_toArray, List.set_cons_zero, List.set_cons_succ])  | (refine ck_region (fun _ => 0) (fun _ => []) [] hS (by kernel_rfl) (by decide +kernel) ?_ ?_; exact ⟨fun _ _ _ h => h.2, fun _ _ h => h⟩; clear hS; intro w hS _; (repeat (first | (refine ckT_max rfl rfl rfl rfl ?_; simp only [Act.put, List.setIfInBounds_toArray, List.set_cons_zero, List.set_cons_succ]) | (refine ckT_min rfl rfl rfl rfl ?_; simp only [Act.put, List.setIfInBounds_toArray, List.set_cons_zero, List.set_cons_succ]) | (apply wpT_pure rfl rfl; (intro _; go_simp; (try (go_ints; (try go_simp))); (first | (rw [decide_eq_true]; omega) | (rw [decide_eq_false]; omega) | rfl)); simp only [Act.put, List.setIfInBounds_toArray, List.set_cons_zero, List.set_cons_succ]) | (refine ckT_load hS rfl rfl rfl (by simp) (by repeat (first | exact List.Mem.head _ | apply List.Mem.tail)) rfl (by decide +kernel) ?_; simp only [Act.put, List.setIfInBounds_toArray, List.set_cons_zero, List.set_cons_succ]) | (refine ckT_store hS rfl rfl rfl (by constructor) (by repeat (first | exact Upd.here _ _ _ | apply Upd.there)) (by simp) rfl (by decide +kernel) (by simp) ?_; clear hS; intro w hS; simp only [Act.put, List.setIfInBounds_toArray, List.set_cons_zero, List.set_cons_succ] at hS ⊢) | (refine wpT_skip rfl ?_; simp only [Act.put, List.setIfInBounds_toArray, List.set_cons_zero, List.set_cons_succ]) )); refine wpT_nil ?_))
      go_ret
      exact ⟨_, ⟨rfl, rfl⟩, hS⟩
theorem plainC_calls (hS : Sep w0 F L w) (h1 : Rd w0 F L A1 (flat xs)) (h2 : Rd w0 F L A2 (flat xs)) (h8 : Eights xs) (n : Nat) (hn : xs.length = n) (hl1 : n ≤ 1000000000) :
    Calls Try.prog 13 #[.slice A1 n c1, .slice A2 n c2] w (CkR (Gives (.bool true) []) w0 F L) := by
  go_enter Try.func13, Try.ntmps13
  go_wp2_with (first | go_skip | (refine ck_load hS rfl rfl rfl (by repeat (first | exact List.Mem.head _ | apply List.Mem.tail)) rfl (by decide +kernel) ?_; simp only [Act.put, List.setIfInBounds_toArray, List.set_cons_zero, List.set_cons_succ]) | (refine ck_store hS rfl rfl rfl (by constructor) (by repeat (first | exact Upd.here _ _ _ | apply Upd.there)) (by simp <;> omega) rfl (by decide +kernel) ?_; clear hS; intro w hS; simp only [Act.put, List.setIfInBounds_toArray, List.set_cons_zero, List.set_cons_succ] at hS ⊢) | (refine ck_box hS rfl rfl (by constructor) ?_; clear hS; intro nb w hS; simp only [Act.put, List.setIfInBounds_toArray, List.set_cons_zero, List.set_cons_succ]) | (refine ck_max rfl rfl rfl rfl ?_; simp only [Act.put, List.setIfInBounds_toArray, List.set_cons_zero, List.set_cons_succ]) | (refine ck_min rfl rfl rfl rfl ?_; simp only [Act.put, List.setIfInBounds_toArray, List.set_cons_zero, List.set_cons_succ]) | (go_at_call 18; refine Ct.out (sameC_calls hS h1 h2 h8 n hn hl1) ?_; clear hS; intro w hS) | (refine ck_region (fun _ => 0) (fun _ => []) [] hS (by kernel_rfl) (by decide +kernel) ?_ ?_; exact ⟨fun _ _ _ h => h.2, fun _ _ h => h⟩; clear hS; intro w hS _; (repeat (first | (refine ckT_max rfl rfl rfl rfl ?_; simp only [Act.put, List.setIfInBounds_toArray, List.set_cons_zero, List.set_cons_succ]) | (refine ckT_min rfl rfl rfl rfl ?_; simp only [Act.put, List.setIfInBounds_toArray, List.set_cons_zero, List.set_cons_succ]) | (apply wpT_pure rfl rfl; (intro _; go_simp; (try (go_ints; (try go_simp))); (first | (rw [decide_eq_true]; omega) | (rw [decide_eq_false]; omega) | rfl)); simp only [Act.put, List.setIfInBounds_toArray, List.set_cons_zero, List.set_cons_succ]) | (refine ckT_load hS rfl rfl rfl (by simp) (by repeat (first | exact List.Mem.head _ | apply List.Mem.tail)) rfl (by decide +kernel) ?_; simp only [Act.put, List.setIfInBounds_toArray, List.set_cons_zero, List.set_cons_succ]) | (refine ckT_store hS rfl rfl rfl (by constructor) (by repeat (first | exact Upd.here _ _ _ | apply Upd.there)) (by simp) rfl (by decide +kernel) (by simp) ?_; clear hS; intro w hS; simp only [Act.put, List.setIfInBounds_toArray, List.set_cons_zero, List.set_cons_succ] at hS ⊢) | (refine wpT_skip rfl ?_; simp only [Act.put, List.setIfInBounds_toArray, List.set_cons_zero, List.set_cons_succ]) )); refine wpT_nil ?_))
  go_ret
  exact ⟨_, ⟨rfl, rfl⟩, hS⟩
end
end Go.Proofs.Ytiellldikfobbaa
