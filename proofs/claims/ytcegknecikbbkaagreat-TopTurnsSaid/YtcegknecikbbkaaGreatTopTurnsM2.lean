/- TopTurns: what functions of the program come to: part 2 of 6. -/
import Derived.WalkKit
import Derived.WalkSpells
import Derived.WalkLawsBesides
import Derived.WalkMore
import Derived.Deep.LoopGhost
import Derived.Test.YtcegknecikbbkaaGreatProg
import Derived.Lib.Mul64
import Derived.Laws.Bits64b
import Derived.Laws.Externs
import Derived.Test.YtcegknecikbbkaaGreatTopTurnsM1
/- What lists' functions come to. -/
set_option linter.unusedVariables false
set_option linter.unusedSimpArgs false
set_option maxRecDepth 4000
namespace Go.Proofs.YtcegknecikbbkaaGreat
open Go.RowKit
section
variable {P : Program} {ops : Array Oper} {blk : Nat → Nat} {conf : Nat → List Nat} {flg : List Nat} {Q : Exit → Act → World → Prop} {rest : List Oper} {w w0 : World} {F : List Nat} {L L0 L1 L2 : List Res} {o : Oper} {a : Act} {i : Nat} {t e : TypeId} {x y z : Operand} {u v : Value}
theorem ckT_call3 {f : FuncId} {xs : Array Operand} {ats : Array TypeId} {args : Array Value} {r1 r2 r3 : Res} {post : Value → List Res → Prop} (hS : Sep w0 F L w) (ho : o.op = .call { callee := .value (.func f), args := xs, argTypes := ats }) (hC : Ct P f args [r1, r2, r3] post) (h1 : Rem L r1 L1) (h2 : Rem L1 r2 L2) (h3 : Rem L2 r3 L0) (hw : Region.wanted o (yielded ops a.tmps) = true) (hen : ckEnter P f = true)
    (ha : xs.toList.map a.eval = args.toList) (hcf : conf i = []) (h : ∀ v L' w', post v L' → Sep w0 F (L' ++ L0) w' → wpT P ops blk conf flg Q (i + 1) rest (a.put o.dst v) w') : wpT P ops blk conf flg Q i (o :: rest) a w :=
  ckT_enter ho hw hen ha (hC.call (L := L0) (((hS.perm h1.perm).perm (.cons _ h2.perm)).perm (.cons _ (.cons _ h3.perm))) fun v L' w' hp hS' => ⟨by rw [hcf]; simp, h v L' w' hp hS'⟩)
theorem exec_build2 {w : World} (ho : o.op = .buildSlice t 2 #[(0, y), (1, z)]) (hy : Wh (a.eval y) u) (hz' : Wh (a.eval z) v) (h1 : u.oneCell' = true) (h2 : v.oneCell' = true) (ht : ckSlice P t e 1 = true) : (execOp a.eval o).run P w = .ok (.value (.slice (some ⟨w.heap.size, 0, none⟩) 2 2)) (w.alloc (.cells #[u, v] e)) := by
  obtain ⟨hu, i, zz, hi, hz, hs, hb, hzs⟩ := ckSlice.out ht
  have hvc : u.cells = #[u] := by cases u <;> first | rfl | simp [Value.oneCell'] at h1
  have hvc2 : v.cells = #[v] := by cases v <;> first | rfl | simp [Value.oneCell'] at h2
  unfold execOp
  simp [ho, Instr.buildSlice, run_underlying hu, sizeOf, typeInfo, hi, hs, zeroValue, hz, Instr.fill, hy.eq, hz'.eq, hvc, hvc2, hzs, newRow, Result.andThen, Sem.run_bind, set_two]
theorem ckT_build2 (hS : Sep w0 F L w) (ho : o.op = .buildSlice t 2 #[(0, y), (1, z)]) (hw : Region.wanted o (yielded ops a.tmps) = true) (hy : Wh (a.eval y) u) (hz' : Wh (a.eval z) v) (h1 : u.oneCell' = true) (h2 : v.oneCell' = true) (ht : ckSlice P t e 1 = true) (hcf : conf i = [])
    (h : ∀ (q : Nat) (w' : World), Sep w0 F (pts q [u, v] e :: L) w' → wpT P ops blk conf flg Q (i + 1) rest (a.put o.dst (.slice (some ⟨q, 0, none⟩) 2 2)) w') : wpT P ops blk conf flg Q i (o :: rest) a w :=
  wpT_valA (by unfold ckCls; rw [ho]) hw (exec_build2 ho hy hz' h1 h2 ht) (by rw [hcf]; simp) (h _ _ (hS.alloc [u, v] e))
end
abbrev LA := Option Addr × Nat × Option Addr × Nat
abbrev lstL (b : Nat) (fr ol : List Int) (A : LA) : List Res := [pts b [.slice A.1 fr.length A.2.1, .slice A.2.2.1 ol.length A.2.2.2] 155, rowR A.1 fr.length A.2.1 3 1 (vZ fr), rowR A.2.2.1 ol.length A.2.2.2 3 1 (vZ ol)]
def lstG (b : Nat) (fr ol : List Int) (A : LA) : Res := grpR (lstL b fr ol A)
theorem lstOpen {b n1 n2 c1 c2 : Nat} {fr ol : List Int} {a1 a2 : Option Addr} {w0 w : World} {F : List Nat} {L : List Res} (h1 : fr.length = n1) (h2 : ol.length = n2) :
    Sep w0 F (lstG b fr ol (a1, c1, a2, c2) :: L) w ↔ Sep w0 F (pts b [.slice a1 n1 c1, .slice a2 n2 c2] 155 :: rowR a1 n1 c1 3 1 (vZ fr) :: rowR a2 n2 c2 3 1 (vZ ol) :: L) w := by subst h1 h2; exact (Sep.grp (l := lstL b fr ol (a1, c1, a2, c2))).symm
theorem lstNew_ct : Ct Tryz.prog 41 #[] [] (fun v L => ∃ b A, v = .pointer (some ⟨b, 0, none⟩) ∧ L = [lstG b [] [] A]) := by
  intro w0 F L w hS
  simp only [List.cons_append, List.nil_append] at hS
  go_enter Tryz.func41, Tryz.ntmps41
  go_wp2_with (first | go_skip | (refine ck_box hS rfl rfl (by constructor) ?_; clear hS; intro nb w hS; simp only [Act.put, spA, spZ, spS]) )
  go_ret
  have h1 := (hS.nilRow (e := 3) (sz := 1)).nilRow (e := 3) (sz := 1)
  refine ⟨_, ⟨nb, (none, 0, none, 0), rfl, rfl⟩, (lstOpen rfl rfl).2 (h1.perm ?_)⟩
  exact (List.Perm.cons _ (.swap _ _ _)).trans (.swap _ _ _)
theorem lstAll_ct (b : Option Addr) : Ct Tryz.prog 83 #[.pointer b] [] (fun v L => ∃ bx, v = .func (.func 121) #[] #[.pointer (some ⟨bx, 0, none⟩)] ∧ L = [pts bx [.pointer b] 96]) := by
  intro w0 F L w hS
  simp only [List.cons_append, List.nil_append] at hS
  go_enter Tryz.func83, Tryz.ntmps83
  go_wp2_with (first | go_skip | (refine ck_box hS rfl rfl (by constructor) ?_; clear hS; intro nb w hS; simp only [Act.put, spA, spZ, spS]) )
  go_ret
  exact ⟨_, ⟨_, rfl, rfl⟩, hS⟩
/-- The sockets of both lists, and whether they are new. -/
def lsP (fr ol : List Int) : List (Int × Bool) := fr.map (fun x => (x, true)) ++ ol.map (fun x => (x, false))
abbrev encL (x : Int × Bool) : Array Value := #[.int .i64 x.1, .bool x.2]
theorem lsP_get {fr ol : List Int} {k n1 : Nat} {x : Int} (h1 : fr.length = n1) (h : (fr ++ ol)[k]? = some x) : (lsP fr ol)[k]? = some (x, decide (k < n1)) := by
  unfold lsP
  by_cases hk : k < n1
  · rw [List.getElem?_append_left (by omega)] at h
    rw [List.getElem?_append_left (by simp; omega), List.getElem?_map, h]; simp [hk]
  · rw [List.getElem?_append_right (by omega)] at h
    rw [List.getElem?_append_right (by simp; omega), List.length_map, List.getElem?_map, h]; simp [hk]
theorem lsP_len {fr ol : List Int} : (lsP fr ol).length = fr.length + ol.length := by simp [lsP]
set_option maxHeartbeats 4000000 in
theorem lstIter (bx b : Nat) (fr ol : List Int) (A : LA) (hsm : fr.length + ol.length ≤ 1000) : IterCt Tryz.prog 121 #[.pointer (some ⟨bx, 0, none⟩)] encL (lsP fr ol) [pts bx [.pointer (some ⟨b, 0, none⟩)] 96, lstG b fr ol A] := by
  obtain ⟨a1, c1, a2, c2⟩ := A
  intro σ y S go _ hY C w0 F L w hS0
  obtain ⟨n1, h1⟩ : ∃ n, fr.length = n := ⟨_, rfl⟩
  obtain ⟨n2, h2⟩ : ∃ n, ol.length = n := ⟨_, rfl⟩
  obtain ⟨n, hn⟩ : ∃ n, n1 + n2 = n := ⟨_, rfl⟩
  have kC := fun q => concat_ct q n1 c1 n2 c2 n a1 a2 fr ol h1 h2 hn (by omega)
  have hS := ((hS0.bring (r := lstG b fr ol (a1, c1, a2, c2)) (by apply Rem.there; apply Rem.there; exact Rem.here _ _)))
  have hS := (lstOpen h1 h2).1 hS
  clear hS0
  obtain ⟨ps, hps⟩ : ∃ ps, lsP fr ol = ps := ⟨_, rfl⟩
  rw [hps] at hY ⊢
  show Calls _ _ #[y, .pointer (some ⟨bx, 0, none⟩)] _ _
  go_enter Tryz.func121, Tryz.ntmps121
  go_wp2_with (first | go_skip | (refine ck_load hS rfl rfl rfl (by (repeat (first | exact mH _ | apply mT)) <;> fail) rfl (by decide +kernel) ?_; simp only [Act.put, spA, spZ, spS])  | (refine ck_region (fun _ => 0) (fun _ => []) [] hS (by kernel_rfl) (by decide +kernel) ?_ ?_; exact ⟨fun _ _ _ h => h.2, fun _ _ h => h⟩; clear hS; intro w hS _; (repeat (first | (apply wpT_pure rfl rfl; (intro _; go_simp; (try (go_ints; (try go_simp))); (first | (rw [decide_eq_true]; omega) | (rw [decide_eq_false]; omega) | rfl | rw [if_pos (by omega)])); simp only [Act.put, spA, spZ, spS]) | (refine ckT_load hS rfl rfl rfl (by simp <;> fail) (by (repeat (first | exact mH _ | apply mT)) <;> fail) rfl (by decide +kernel) ?_; simp only [Act.put, spA, spZ, spS]) | (refine ckT_build2 (e := 33) hS rfl rfl (by constructor) (by constructor) rfl rfl (by decide +kernel) rfl ?_; clear hS; intro q w hS; simp only [Act.put, spA, spZ, spS]) | (refine ckT_call3 hS rfl (kC _) (by (repeat (first | exact rH _ _ | apply rT)) <;> fail) (by (repeat (first | exact rH _ _ | apply rT)) <;> fail) (by (repeat (first | exact rH _ _ | apply rT)) <;> fail) rfl (by kernel_rfl) rfl rfl ?_; clear hS; rintro _ _ w ⟨ad, cp, rfl, rfl⟩ hS; simp only [List.cons_append, List.nil_append] at hS; simp only [Act.put, spA, spZ, spS]))); refine wpT_nil ?_))
  have hS := (hS.bring (r := pts q [.slice a1 n1 c1, .slice a2 n2 c2] 33) (by (repeat (first | exact rH _ _ | apply rT)) <;> fail)).drop
  have hpl : ps.length = n := by rw [← hps, lsP_len]; omega
  have hget : ∀ (k : Nat) (x : Int), (fr ++ ol)[k]? = some x → ps[k]? = some (x, decide (k < n1)) := fun k x h => by rw [← hps]; exact lsP_get h1 h
  have hvl : (fr ++ ol).length = n := by simp; omega
  have fin : ∀ {w : World} {r : Res}, Sep w0 F (r :: rowR ad n cp 3 1 (vZ (fr ++ ol)) :: rowR a1 n1 c1 3 1 (vZ fr) :: rowR a2 n2 c2 3 1 (vZ ol) :: pts b [.slice a1 n1 c1, .slice a2 n2 c2] 155 :: pts bx [.pointer (some ⟨b, 0, none⟩)] 96 :: L) w → Sep w0 F ((r :: [pts bx [.pointer (some ⟨b, 0, none⟩)] 96, lstG b fr ol (a1, c1, a2, c2)]) ++ L) w := fun h => by
    have j0 := (h.perm (.swap _ _ _)).drop
    have j1 := (j0.bring (r := pts b [.slice a1 n1 c1, .slice a2 n2 c2] 155) (by (repeat (first | exact rH _ _ | apply rT)) <;> fail))
    have j2 := (lstOpen h1 h2).2 (j1.perm (.cons _ ((List.Perm.swap _ _ _).trans (.cons _ (.swap _ _ _)))))
    exact j2.perm ((List.Perm.swap _ _ _).trans (.cons _ (.swap _ _ _)))
  have hn3 : n ≤ 1000 := by omega
  clear hps h1 h2 kC hsm
  go_loopg [24] (n + 1) (fun g s wx => ∃ (k : Nat) (C : σ), k + g = n + 1 ∧ k ≤ n ∧ s = .int .i64 k ∧ okP go (ps.take k) = true ∧ runP go [] ps = runP go (ps.take k) (ps.drop k) ∧
    Sep w0 F (S C (ps.take k) :: rowR ad n cp 3 1 (vZ (fr ++ ol)) :: rowR a1 n1 c1 3 1 (vZ fr) :: rowR a2 n2 c2 3 1 (vZ ol) :: pts b [.slice a1 n1 c1, .slice a2 n2 c2] 155 :: pts bx [.pointer (some ⟨b, 0, none⟩)] 96 :: L) wx)
  case atStart => exact ⟨0, C, by omega, by omega, rfl, rfl, rfl, hS.bring (by (repeat (first | exact rH _ _ | apply rT)) <;> fail)⟩
  case round =>
    obtain ⟨k, C, hkg, hkn, rfl, hok, hrun, hS⟩ := hrel
    generalize wr = w at hS ⊢
    by_cases hk : k < n
    · obtain ⟨x, hx⟩ : ∃ x, (fr ++ ol)[k]? = some x := ⟨(fr ++ ol)[k], List.getElem?_eq_getElem (by omega)⟩
      have hp := hget k x hx
      have hx' : (vZ (fr ++ ol))[k]? = some (.int .i64 x) := by rw [List.getElem?_map, hx]; rfl
      have hd : ps.drop k = (x, decide (k < n1)) :: ps.drop (k + 1) := by
        rw [List.drop_eq_getElem_cons (by omega)]
        rw [List.getElem?_eq_getElem (by omega)] at hp
        injection hp with hp
        rw [hp]
      have ht : ps.take (k + 1) = ps.take k ++ [(x, decide (k < n1))] := by rw [List.take_add_one, hp]; rfl
      have kY := hY (ps.take k) (x, decide (k < n1)) (ps.drop (k + 1)) (by rw [← hd, List.take_append_drop]) hok C
      rw [← ht] at kY
      rw [hd] at hrun
      obtain ⟨g1, rfl⟩ := hS.rowSome (a := ad) (n := n) (cap := cp) (e := 3) (sz := 1) (xs := vZ (fr ++ ol)) (by (repeat (first | exact mH _ | apply mT)) <;> fail) (by omega)
      cases hg : go (ps.take (k + 1))
      · have hrun' : runP go [] ps = ps.take (k + 1) := by rw [hrun, runP, ← ht, if_neg (by rw [hg]; simp)]
        rw [hg] at kY
        clear hrun hok hx hY hg hp hget hd ht hpl hvl
        by_cases hk1 : k < n1
        all_goals
          simp only [hk1, decide_true, decide_false] at kY
          (repeat (first | (refine ckI_region ?_; (repeat (first | (refine ckI_skip rfl ?_; simp only [Act.put, spA, spZ, spS]) | (apply ckI_pure rfl rfl; (intro _; go_simp; (try (go_ints; (try go_simp))); (first | (rw [decide_eq_true]; omega) | (rw [decide_eq_false]; omega) | rfl | rw [if_pos (by omega)])); simp only [Act.put, spA, spZ, spS]) | (refine ckI_load hS rfl rfl rfl (by (repeat (first | exact mH _ | apply mT)) <;> fail) rfl (by decide +kernel) ?_; simp only [Act.put, spA, spZ, spS]) | (refine ckI_loadRow hS rfl rfl rfl (by (repeat (first | exact mH _ | apply mT)) <;> fail) hx' (by decide +kernel) ?_; simp only [Act.put, spA, spZ, spS]) | (refine ckI_yieldS hS rfl (kY) (by (repeat (first | exact rH _ _ | apply rT)) <;> fail) rfl rfl rfl ?_; clear hS; intro A w hS; simp only [Act.put, spA, spZ, spS]))); refine wpListIn_nil ?_) | go_skip | (refine ck_loadRow hS rfl rfl rfl (by (repeat (first | exact mH _ | apply mT)) <;> fail) hx' (by decide +kernel) ?_; simp only [Act.put, spA, spZ, spS]) | go_values | go_skip | go_guarded | go_step | go_upon | go_back | (simp only [Int.not_lt, Int.not_le] at *; go_simp)))
          refine bodyPost_ret (results_none rfl _ _ _) rfl ?_
          exact ⟨_, ⟨rfl, A, by rw [hrun']⟩, fin hS⟩
      · have hrun' : runP go [] ps = runP go (ps.take (k + 1)) (ps.drop (k + 1)) := by rw [hrun, runP, ← ht, if_pos hg]
        have hok' : okP go (ps.take (k + 1)) = true := by unfold okP; rw [hg]; simp
        rw [hg] at kY
        clear hrun hok hx hY hg hp hget hd ht hpl hvl
        by_cases hk1 : k < n1
        all_goals
          simp only [hk1, decide_true, decide_false] at kY
          (repeat (first | (refine ckI_region ?_; (repeat (first | (refine ckI_skip rfl ?_; simp only [Act.put, spA, spZ, spS]) | (apply ckI_pure rfl rfl; (intro _; go_simp; (try (go_ints; (try go_simp))); (first | (rw [decide_eq_true]; omega) | (rw [decide_eq_false]; omega) | rfl | rw [if_pos (by omega)])); simp only [Act.put, spA, spZ, spS]) | (refine ckI_load hS rfl rfl rfl (by (repeat (first | exact mH _ | apply mT)) <;> fail) rfl (by decide +kernel) ?_; simp only [Act.put, spA, spZ, spS]) | (refine ckI_loadRow hS rfl rfl rfl (by (repeat (first | exact mH _ | apply mT)) <;> fail) hx' (by decide +kernel) ?_; simp only [Act.put, spA, spZ, spS]) | (refine ckI_yieldS hS rfl (kY) (by (repeat (first | exact rH _ _ | apply rT)) <;> fail) rfl rfl rfl ?_; clear hS; intro A w hS; simp only [Act.put, spA, spZ, spS]))); refine wpListIn_nil ?_) | go_skip | (refine ck_loadRow hS rfl rfl rfl (by (repeat (first | exact mH _ | apply mT)) <;> fail) hx' (by decide +kernel) ?_; simp only [Act.put, spA, spZ, spS]) | go_values | go_skip | go_guarded | go_step | go_upon | go_back | (simp only [Int.not_lt, Int.not_le] at *; go_simp)))
          go_roundg (n - k)
          case rel => exact ⟨k + 1, A, by omega, by omega, by go_num, hok', hrun', hS⟩
          case measure => omega
    · have hkn' : k = n := by omega
      subst hkn'
      have e1 : ps.take k = ps := List.take_of_length_le (by omega)
      have e2 : ps.drop k = [] := List.drop_of_length_le (by omega)
      have hrun' : runP go [] ps = ps := by rw [hrun, e1, e2]; rfl
      rw [e1] at hS
      clear hrun hY hn e1 e2 hget hpl hvl hok
      go_wp2_with (first | go_skip | (refine ck_load hS rfl rfl rfl (by (repeat (first | exact mH _ | apply mT)) <;> fail) rfl (by decide +kernel) ?_; simp only [Act.put, spA, spZ, spS])  | (refine ck_region (fun _ => 0) (fun _ => []) [] hS (by kernel_rfl) (by decide +kernel) ?_ ?_; exact ⟨fun _ _ _ h => h.2, fun _ _ h => h⟩; clear hS; intro w hS _; (repeat (first | (apply wpT_pure rfl rfl; (intro _; go_simp; (try (go_ints; (try go_simp))); (first | (rw [decide_eq_true]; omega) | (rw [decide_eq_false]; omega) | rfl | rw [if_pos (by omega)])); simp only [Act.put, spA, spZ, spS]) | (refine ckT_load hS rfl rfl rfl (by simp <;> fail) (by (repeat (first | exact mH _ | apply mT)) <;> fail) rfl (by decide +kernel) ?_; simp only [Act.put, spA, spZ, spS]) )); refine wpT_nil ?_))
      refine bodyPost_end (results_none rfl _ _ _) rfl ?_
      exact ⟨_, ⟨rfl, C, by rw [hrun']⟩, fin hS⟩
section
variable {P : Program} {w w0 : World} {F : List Nat} {L : List Res} {a : Act} {b c d : Nat} {u v z : Value} {T U V t r s : TypeId} {fn : Func} {x y q : Tmp}
theorem ckRes_c1 (hS : Sep w0 F L w) (hm : pts b [v] T ∈ L) (hr : fn.results = #[.cell x t]) (hx : a.tmps.getD x undef = .pointer (some ⟨b, 0, none⟩)) (ht : ckScalar P t = true) : (results fn a.tmps).run P w = .ok v w := by
  rw [Array.getD_eq_getD_getElem?] at hx
  simp [results, hr, hx, asAddr, Sem.run_bind, run_load1 (cs := [v]) (off := 0) (v := v) ht (hS.holds _ hm) rfl]
theorem ckRes_c3 (hS : Sep w0 F L w) (hm : pts b [u] T ∈ L) (hm2 : pts c [v] U ∈ L) (hm3 : pts d [z] V ∈ L) (hr : fn.results = #[.cell x t, .cell y r, .cell q s]) (hx : a.tmps.getD x undef = .pointer (some ⟨b, 0, none⟩)) (hy : a.tmps.getD y undef = .pointer (some ⟨c, 0, none⟩)) (hq : a.tmps.getD q undef = .pointer (some ⟨d, 0, none⟩))
    (ht : ckScalar P t = true) (ht2 : ckScalar P r = true) (ht3 : ckScalar P s = true) : (results fn a.tmps).run P w = .ok (.tuple #[u, v, z]) w := by
  rw [Array.getD_eq_getD_getElem?] at hx hy hq
  simp [results, hr, hx, hy, hq, asAddr, Sem.run_bind, run_load1 (cs := [u]) (off := 0) (v := u) ht (hS.holds _ hm) rfl, run_load1 (cs := [v]) (off := 0) (v := v) ht2 (hS.holds _ hm2) rfl, run_load1 (cs := [z]) (off := 0) (v := z) ht3 (hS.holds _ hm3) rfl]
end
def hdZ (fr ol : List Int) : Value := match lsP fr ol with
  | [] => .tuple #[.int .i64 0, .bool false, .bool false]
  | x :: _ => .tuple #[.int .i64 x.1, .bool x.2, .bool true]
def fd1 (p : List (Int × Bool)) : Int := match p with | [] => 0 | x :: _ => x.1
def fd2 (p : List (Int × Bool)) : Bool := match p with | [] => false | x :: _ => x.2
def fd3 (p : List (Int × Bool)) : Bool := match p with | [] => false | _ :: _ => true
theorem Sep.grp3 {w0 w : World} {F : List Nat} {L : List Res} {r r' r'' : Res} (h : Sep w0 F (r :: r' :: r'' :: L) w) : Sep w0 F (grpR [r, r', r''] :: L) w := (Sep.grp (l := [r, r', r''])).1 h
set_option maxHeartbeats 4000000 in
theorem lstHead_ct (b : Nat) (fr ol : List Int) (A : LA) (hsm : fr.length + ol.length ≤ 1000) : Ct Tryz.prog 51 #[.pointer (some ⟨b, 0, none⟩)] [lstG b fr ol A] (Gives (hdZ fr ol) [lstG b fr ol A]) := by
  have hI := fun bx => lstIter bx b fr ol A hsm
  obtain ⟨ps, hps⟩ : ∃ ps, lsP fr ol = ps := ⟨_, rfl⟩
  unfold hdZ
  rw [hps] at hI ⊢
  clear hps hsm
  intro w0 F L w hS
  simp only [List.cons_append, List.nil_append] at hS
  refine calls_of_wpM Tryz.func51 rfl ?_
  simp only [Tryz.ntmps51, List.size_toArray, List.length_cons, List.length_nil, Nat.reduceAdd, Nat.reduceSub, Array.replicate_succ, Array.replicate_zero, List.push_toArray, List.append_toArray, List.nil_append, List.cons_append]
  go_wp2_with (first | go_skip | (refine ck_store hS rfl rfl rfl (by constructor) (by (repeat (first | exact uH _ _ _ | apply uT)) <;> fail) (by simp <;> omega) rfl (by decide +kernel) ?_; clear hS; intro w hS; simp only [Act.put, spA, spZ, spS] at hS ⊢) | (have h2 := x2; clear h2; (refine ck_alloc (t := 4) (v := .bool false) (cs := [.bool false]) hS rfl rfl (by kernel_rfl) rfl ?_; clear hS; intro x3 w hS; simp only [Act.put, spA, spZ, spS])) | (have h1 := x1; clear h1; (refine ck_alloc (t := 4) (v := .bool false) (cs := [.bool false]) hS rfl rfl (by kernel_rfl) rfl ?_; clear hS; intro x2 w hS; simp only [Act.put, spA, spZ, spS])) | (refine ck_alloc (t := 3) (v := .int .i64 0) (cs := [.int .i64 0]) hS rfl rfl (by kernel_rfl) rfl ?_; clear hS; intro x1 w hS; simp only [Act.put, spA, spZ, spS]) | (go_at_call 83; with_reducible refine Ct.callN (lstAll_ct _) hS ?_; clear hS; rintro _ _ w ⟨bx, rfl, rfl⟩ hS; simp only [List.cons_append, List.nil_append] at hS))
  have hS1 : Sep w0 F (grpR [pts x1 [.int .i64 (fd1 [])] 3, pts x2 [.bool (fd2 [])] 4, pts x3 [.bool (fd3 [])] 4] :: ([pts bx [.pointer (some ⟨b, 0, none⟩)] 96, lstG b fr ol A] ++ L)) w := by
    have k1 := hS.bring (r := lstG b fr ol A) (by (repeat (first | exact rH _ _ | apply rT)) <;> fail)
    have k2 := k1.bring (r := pts bx [.pointer (some ⟨b, 0, none⟩)] 96) (by (repeat (first | exact rH _ _ | apply rT)) <;> fail)
    have k3 := k2.bring (r := pts x3 [.bool false] 4) (by (repeat (first | exact rH _ _ | apply rT)) <;> fail)
    have k4 := k3.bring (r := pts x2 [.bool false] 4) (by (repeat (first | exact rH _ _ | apply rT)) <;> fail)
    have k5 := k4.bring (r := pts x1 [.int .i64 0] 3) (by (repeat (first | exact rH _ _ | apply rT)) <;> fail)
    exact k5.grp3
  clear hS
  refine ck_rangeFunc (B := fun (_ : Unit) (p : List (Int × Bool)) => grpR [pts x1 [.int .i64 (fd1 p)] 3, pts x2 [.bool (fd2 p)] 4, pts x3 [.bool (fd3 p)] 4]) (go := fun _ => false) (A0 := ()) hS1 (hI bx) rfl (fun _ => run_enter (P := Tryz.prog) (f := 121) (by kernel_rfl)) (fun _ => rfl) ?round ?fin
  case round =>
    intro l pre x suf hx hok _ w0 F L w hS
    have hpre : pre = [] := by
      cases pre with
      | nil => rfl
      | cons y r => simp [okP] at hok
    subst hpre
    obtain ⟨x, f⟩ := x
    simp
    gi_wp2_with (first | (refine ckI_skip rfl ?_; simp only [Act.put, spA, spZ, spS]) | (refine ckI_load hS rfl rfl rfl (by (repeat (first | exact mH _ | apply mT)) <;> fail) rfl (by decide +kernel) ?_; simp only [Act.put, spA, spZ, spS]) | (refine ckI_store hS rfl rfl rfl (by constructor) (by (repeat (first | exact uH _ _ _ | apply uT)) <;> fail) (by simp <;> omega) rfl (by decide +kernel) ?_; clear hS; intro w hS; simp only [Act.put, spA, spZ, spS]) | (apply ckI_pure rfl rfl; (intro _; go_simp; (try (go_ints; (try go_simp))); (first | (rw [decide_eq_true]; omega) | (rw [decide_eq_false]; omega) | rfl | rw [if_pos (by omega)])); simp only [Act.put, spA, spZ, spS]))
    refine ⟨[], hS, ?_⟩
    clear hS
    intro L w hS1
    have hS := Sep.grp.2 hS1
    clear hS1 hx hok
    simp only [List.cons_append, List.nil_append] at hS
    (repeat (first | (refine ckI_load hS rfl rfl rfl (by (repeat (first | exact mH _ | apply mT)) <;> fail) rfl (by decide +kernel) ?_; simp only [Act.put, spA, spZ, spS]) | (refine ckI_store hS rfl rfl rfl (by constructor) (by (repeat (first | exact uH _ _ _ | apply uT)) <;> fail) (by simp <;> omega) rfl (by decide +kernel) ?_; clear hS; intro w hS; simp only [Act.put, spA, spZ, spS]) | (refine ckI_skip rfl ?_; simp only [Act.put, spA, spZ, spS]) | (apply ckI_pure rfl rfl; (intro _; go_simp; (try (go_ints; (try go_simp))); (first | (rw [decide_eq_true]; omega) | (rw [decide_eq_false]; omega) | rfl | rw [if_pos (by omega)])); simp only [Act.put, spA, spZ, spS]) | go_values | gi_guarded | gi_step | gi_upon))
    exact ⟨rfl, hS.grp3⟩
  case fin =>
    intro D _ w hS
    have hfin : ∀ {w : World} {L : List Res} {u v z : Value} {fn : Func} {a : Act}, Sep w0 F (pts x1 [u] 3 :: pts x2 [v] 4 :: pts x3 [z] 4 :: pts bx [.pointer (some ⟨b, 0, none⟩)] 96 :: lstG b fr ol A :: L) w → fn.results = #[.cell 2 3, .cell 3 4, .cell 4 4] → a.tmps.getD 2 undef = .pointer (some ⟨x1, 0, none⟩) → a.tmps.getD 3 undef = .pointer (some ⟨x2, 0, none⟩) → a.tmps.getD 4 undef = .pointer (some ⟨x3, 0, none⟩) →
        (results fn a.tmps).run Tryz.prog w = .ok (.tuple #[u, v, z]) w := fun h h1 h2 h3 h4 => ckRes_c3 h (by (repeat (first | exact mH _ | apply mT)) <;> fail) (by (repeat (first | exact mH _ | apply mT)) <;> fail) (by (repeat (first | exact mH _ | apply mT)) <;> fail) h1 h2 h3 h4 (by decide +kernel) (by decide +kernel) (by decide +kernel)
    cases ps with
    | nil =>
      simp only [runP, okP, List.isEmpty_nil, Bool.true_or, if_true, List.cons_append, List.nil_append] at hS ⊢
      have k1 := Sep.grp.2 (hS.bring (r := grpR [pts x1 [.int .i64 (fd1 [])] 3, pts x2 [.bool (fd2 [])] 4, pts x3 [.bool (fd3 [])] 4]) (by (repeat (first | exact rH _ _ | apply rT)) <;> fail))
      clear hS
      have hS := k1
      clear k1
      simp only [List.cons_append, List.nil_append] at hS
      go_wp2_with (first | go_skip | (refine ck_store hS rfl rfl rfl (by constructor) (by (repeat (first | exact uH _ _ _ | apply uT)) <;> fail) (by simp <;> omega) rfl (by decide +kernel) ?_; clear hS; intro w hS; simp only [Act.put, spA, spZ, spS] at hS ⊢) )
      exact ckM_end (.inr rfl) (hS.bring (r := objR D (.deferred (some []))) (by (repeat (first | exact rH _ _ | apply rT)) <;> fail)) rfl (fun w hS => ⟨hfin hS rfl rfl rfl rfl, _, ⟨rfl, rfl⟩, hS.dropN 4⟩)
    | cons x r =>
      obtain ⟨x, f⟩ := x
      have e : runP (fun _ : List (Int × Bool) => false) [] ((x, f) :: r) = [(x, f)] := by simp [runP]
      rw [e] at hS ⊢
      have e2 : okP (fun _ : List (Int × Bool) => false) [(x, f)] = false := rfl
      rw [e2]
      simp only [Bool.false_eq_true, if_false, List.cons_append, List.nil_append] at hS ⊢
      have k1 := Sep.grp.2 (hS.bring (r := grpR [pts x1 [.int .i64 (fd1 [(x, f)])] 3, pts x2 [.bool (fd2 [(x, f)])] 4, pts x3 [.bool (fd3 [(x, f)])] 4]) (by (repeat (first | exact rH _ _ | apply rT)) <;> fail))
      clear hS
      have hS := k1
      clear k1
      simp only [List.cons_append, List.nil_append] at hS
      go_wp2_with (first | go_skip | (refine ck_store hS rfl rfl rfl (by constructor) (by (repeat (first | exact uH _ _ _ | apply uT)) <;> fail) (by simp <;> omega) rfl (by decide +kernel) ?_; clear hS; intro w hS; simp only [Act.put, spA, spZ, spS] at hS ⊢) )
      exact ckM_end (.inr rfl) (hS.bring (r := objR D (.deferred (some []))) (by (repeat (first | exact rH _ _ | apply rT)) <;> fail)) rfl (fun w hS => ⟨hfin hS rfl rfl rfl rfl, _, ⟨rfl, rfl⟩, hS.dropN 4⟩)
end Go.Proofs.YtcegknecikbbkaaGreat

/- Where a socket is; pushing, removing, dropping, putting back. -/
set_option linter.unusedVariables false
set_option linter.unusedSimpArgs false
set_option maxRecDepth 4000
namespace Go.Proofs.YtcegknecikbbkaaGreat
open Go.RowKit
section
variable (s : Int)
def plF (p : List (Int × Bool)) : Option (Int × Bool) := p.find? fun x => x.1 == s
def plP (p : List (Int × Bool)) : Int := match plF s p with | none => 0 | some x => if x.2 then 1 else 2
abbrev plGo (p : List (Int × Bool)) : Bool := p.all fun x => !(x.1 == s)
variable {s : Int}
theorem plF_none {p : List (Int × Bool)} (h : plGo s p = true) : plF s p = none := by
  unfold plF
  rw [List.find?_eq_none]
  intro x hx
  have := List.all_eq_true.1 h x hx
  simpa using this
theorem plGo_snoc {p : List (Int × Bool)} {x : Int × Bool} (h : plGo s p = true) : plGo s (p ++ [x]) = !(x.1 == s) := by
  unfold plGo at *; rw [List.all_append, h]; simp
theorem okP_all {p : List (Int × Bool)} (h : okP (plGo s) p = true) : plGo s p = true := by
  cases p with
  | nil => rfl
  | cons x r => simpa [okP] using h
theorem plF_cons {x : Int × Bool} {r : List (Int × Bool)} : plF s (x :: r) = if (x.1 == s) = true then some x else plF s r := by
  unfold plF
  by_cases h : (x.1 == s) = true
  · rw [if_pos h]; simp [List.find?_cons, h]
  · rw [if_neg h]; simp [List.find?_cons, h]
theorem plF_snoc {p : List (Int × Bool)} {x : Int × Bool} (h : plGo s p = true) : plF s (p ++ [x]) = if (x.1 == s) = true then some x else none := by
  have h1 := plF_none h
  unfold plF at *
  rw [List.find?_append, h1]
  by_cases h : (x.1 == s) = true
  · rw [if_pos h]; simp [h]
  · rw [if_neg h]; simp [h]
theorem runP_pl : ∀ (ps acc : List (Int × Bool)), plGo s acc = true → plF s (runP (plGo s) acc ps) = plF s ps ∧ okP (plGo s) (runP (plGo s) acc ps) = (plF s ps).isNone
  | [], acc, h => ⟨by rw [show runP (plGo s) acc [] = acc from rfl, plF_none h]; rfl, by rw [show runP (plGo s) acc [] = acc from rfl]; unfold okP; rw [h]; simp [plF]⟩
  | x :: r, acc, h => by
    unfold runP
    by_cases hx : (x.1 == s) = true
    · have hg : plGo s (acc ++ [x]) = false := by rw [plGo_snoc h, hx]; rfl
      rw [if_neg (by rw [hg]; simp)]
      have h1 : plF s (x :: r) = some x := by rw [plF_cons, if_pos hx]
      have h2 : plF s (acc ++ [x]) = some x := by rw [plF_snoc h, if_pos hx]
      exact ⟨by rw [h1, h2], by rw [h1]; unfold okP; rw [hg]; cases acc <;> rfl⟩
    · have hx' : (x.1 == s) = false := by simpa using hx
      have hg : plGo s (acc ++ [x]) = true := by rw [plGo_snoc h, hx']; rfl
      rw [if_pos hg]
      have h1 : plF s (x :: r) = plF s r := by rw [plF_cons, if_neg hx]
      rw [h1]
      exact runP_pl r (acc ++ [x]) hg
/-- Where a socket is. -/
def plZ (fr ol : List Int) (s : Int) : Int := plP s (lsP fr ol)
theorem plZ_eq {fr ol : List Int} : plZ fr ol s = if s ∈ fr then 1 else if s ∈ ol then 2 else 0 := by
  have aux : ∀ (l : List Int) (f : Bool), (l.map fun x => (x, f)).find? (fun x : Int × Bool => x.1 == s) = if s ∈ l then some (s, f) else none := by
    intro l f
    induction l with
    | nil => rfl
    | cons x r ih =>
      rw [List.map_cons]
      by_cases hx : x = s
      · subst hx; rw [List.find?_cons_of_pos (by simp)]; simp
      · rw [List.find?_cons_of_neg (by simpa using hx), ih]
        have : s ≠ x := fun e => hx e.symm
        simp [this]
  unfold plZ plP plF lsP
  rw [List.find?_append, aux, aux]
  by_cases h1 : s ∈ fr
  · simp [h1]
  · by_cases h2 : s ∈ ol <;> simp [h1, h2]
end
theorem Sep.grp2 {w0 w : World} {F : List Nat} {L : List Res} {r r' : Res} (h : Sep w0 F (r :: r' :: L) w) : Sep w0 F (grpR [r, r'] :: L) w := (Sep.grp (l := [r, r'])).1 h
set_option maxHeartbeats 4000000 in
theorem lstPlace_ct (b : Nat) (fr ol : List Int) (A : LA) (s : Int) (hsm : fr.length + ol.length ≤ 1000) : Ct Tryz.prog 77 #[.pointer (some ⟨b, 0, none⟩), .int .i64 s] [lstG b fr ol A] (Gives (.int .i64 (plZ fr ol s)) [lstG b fr ol A]) := by
  have hI := fun bx => lstIter bx b fr ol A hsm
  obtain ⟨ps, hps⟩ : ∃ ps, lsP fr ol = ps := ⟨_, rfl⟩
  unfold plZ
  rw [hps] at hI ⊢
  clear hps hsm
  intro w0 F L w hS
  simp only [List.cons_append, List.nil_append] at hS
  refine calls_of_wpM Tryz.func77 rfl ?_
  simp only [Tryz.ntmps77, List.size_toArray, List.length_cons, List.length_nil, Nat.reduceAdd, Nat.reduceSub, Array.replicate_succ, Array.replicate_zero, List.push_toArray, List.append_toArray, List.nil_append, List.cons_append]
  go_wp2_with (first | go_skip | (refine ck_box hS rfl rfl (by constructor) ?_; clear hS; intro x3 w hS; simp only [Act.put, spA, spZ, spS]) | (refine ck_load hS rfl rfl rfl (by (repeat (first | exact mH _ | apply mT)) <;> fail) rfl (by decide +kernel) ?_; simp only [Act.put, spA, spZ, spS]) | (refine ck_store hS rfl rfl rfl (by constructor) (by (repeat (first | exact uH _ _ _ | apply uT)) <;> fail) (by simp <;> omega) rfl (by decide +kernel) ?_; clear hS; intro w hS; simp only [Act.put, spA, spZ, spS] at hS ⊢) | (refine ck_box hS rfl rfl (by constructor) ?_; clear hS; intro nb w hS; simp only [Act.put, spA, spZ, spS]) | (refine ck_alloc (t := 3) (v := .int .i64 0) (cs := [.int .i64 0]) hS rfl rfl (by kernel_rfl) rfl ?_; clear hS; intro x4 w hS; simp only [Act.put, spA, spZ, spS]) | (go_at_call 83; with_reducible refine Ct.callN (lstAll_ct _) hS ?_; clear hS; rintro _ _ w ⟨bx, rfl, rfl⟩ hS; simp only [List.cons_append, List.nil_append] at hS))
  have hS1 : Sep w0 F (grpR [pts x3 [.int .i64 s] 3, pts x4 [.int .i64 (plP s [])] 3] :: ([pts bx [.pointer (some ⟨b, 0, none⟩)] 96, lstG b fr ol A] ++ L)) w := by
    have k1 := hS.bring (r := lstG b fr ol A) (by (repeat (first | exact rH _ _ | apply rT)) <;> fail)
    have k2 := k1.bring (r := pts bx [.pointer (some ⟨b, 0, none⟩)] 96) (by (repeat (first | exact rH _ _ | apply rT)) <;> fail)
    have k3 := k2.bring (r := pts x4 [.int .i64 0] 3) (by (repeat (first | exact rH _ _ | apply rT)) <;> fail)
    have k5 := k3.bring (r := pts x3 [.int .i64 s] 3) (by (repeat (first | exact rH _ _ | apply rT)) <;> fail)
    exact k5.grp2
  clear hS
  refine ck_rangeFunc (B := fun (_ : Unit) (p : List (Int × Bool)) => grpR [pts x3 [.int .i64 s] 3, pts x4 [.int .i64 (plP s p)] 3]) (go := plGo s) (A0 := ()) hS1 (hI bx) rfl (fun _ => run_enter (P := Tryz.prog) (f := 121) (by kernel_rfl)) (fun _ => rfl) ?round ?fin
  case round =>
    intro l pre x suf hx hok _ w0 F L w hS
    have hpre := okP_all hok
    obtain ⟨x, f⟩ := x
    have hp0 : plP s pre = 0 := by unfold plP; rw [plF_none hpre]
    have hgo := plGo_snoc (x := (x, f)) hpre
    have hp1 : plP s (pre ++ [(x, f)]) = if (x == s) = true then (if f then 1 else 2) else 0 := by
      unfold plP
      rw [plF_snoc hpre]
      by_cases hxs : (x == s) = true
      · rw [if_pos hxs, if_pos hxs]
      · rw [if_neg hxs, if_neg hxs]
    rw [hp0] at hS ⊢
    rw [hgo, hp1]
    clear hx hok hpre hgo hp1 hp0
    by_cases hxs : x = s
    · have hxs' : (x == s) = true := by simpa using hxs
      cases f
      all_goals
        simp [hxs']
        gi_wp2_with (first | (refine ckI_skip rfl ?_; simp only [Act.put, spA, spZ, spS]) | (refine ckI_load hS rfl rfl rfl (by (repeat (first | exact mH _ | apply mT)) <;> fail) rfl (by decide +kernel) ?_; simp only [Act.put, spA, spZ, spS]) | (refine ckI_store hS rfl rfl rfl (by constructor) (by (repeat (first | exact uH _ _ _ | apply uT)) <;> fail) (by simp <;> omega) rfl (by decide +kernel) ?_; clear hS; intro w hS; simp only [Act.put, spA, spZ, spS]) | (apply ckI_pure rfl rfl; (intro _; go_simp; (try (go_ints; (try go_simp))); (first | (rw [decide_eq_true]; omega) | (rw [decide_eq_false]; omega) | rfl | rw [if_pos (by omega)])); simp only [Act.put, spA, spZ, spS]))
        refine ⟨[], hS, ?_⟩
        clear hS
        intro L w hS1
        have hS := Sep.grp.2 hS1
        clear hS1
        simp only [List.cons_append, List.nil_append] at hS
        clear hxs
        (repeat (first | (refine ckI_load hS rfl rfl rfl (by (repeat (first | exact mH _ | apply mT)) <;> fail) rfl (by decide +kernel) ?_; simp only [Act.put, spA, spZ, spS]) | (refine ckI_store hS rfl rfl rfl (by constructor) (by (repeat (first | exact uH _ _ _ | apply uT)) <;> fail) (by simp <;> omega) rfl (by decide +kernel) ?_; clear hS; intro w hS; simp only [Act.put, spA, spZ, spS]) | (refine ckI_skip rfl ?_; simp only [Act.put, spA, spZ, spS]) | (apply ckI_pure rfl rfl; (intro _; go_simp; (try (go_ints; (try go_simp))); (first | (rw [decide_eq_true]; omega) | (rw [decide_eq_false]; omega) | rfl | rw [if_pos (by omega)])); simp only [Act.put, spA, spZ, spS]) | go_values | gi_guarded | gi_step | gi_upon))
        exact ⟨rfl, hS.grp2⟩
    · have hxs' : (x == s) = false := by simpa using hxs
      simp [hxs']
      gi_wp2_with (first | (refine ckI_skip rfl ?_; simp only [Act.put, spA, spZ, spS]) | (refine ckI_load hS rfl rfl rfl (by (repeat (first | exact mH _ | apply mT)) <;> fail) rfl (by decide +kernel) ?_; simp only [Act.put, spA, spZ, spS]) | (refine ckI_store hS rfl rfl rfl (by constructor) (by (repeat (first | exact uH _ _ _ | apply uT)) <;> fail) (by simp <;> omega) rfl (by decide +kernel) ?_; clear hS; intro w hS; simp only [Act.put, spA, spZ, spS]) | (apply ckI_pure rfl rfl; (intro _; go_simp; (try (go_ints; (try go_simp))); (first | (rw [decide_eq_true]; omega) | (rw [decide_eq_false]; omega) | rfl | rw [if_pos (by omega)])); simp only [Act.put, spA, spZ, spS]))
      refine ⟨[], hS, ?_⟩
      clear hS
      intro L w hS1
      have hS := Sep.grp.2 hS1
      clear hS1
      simp only [List.cons_append, List.nil_append] at hS
      clear hxs
      (repeat (first | (refine ckI_load hS rfl rfl rfl (by (repeat (first | exact mH _ | apply mT)) <;> fail) rfl (by decide +kernel) ?_; simp only [Act.put, spA, spZ, spS]) | (refine ckI_store hS rfl rfl rfl (by constructor) (by (repeat (first | exact uH _ _ _ | apply uT)) <;> fail) (by simp <;> omega) rfl (by decide +kernel) ?_; clear hS; intro w hS; simp only [Act.put, spA, spZ, spS]) | (refine ckI_skip rfl ?_; simp only [Act.put, spA, spZ, spS]) | (apply ckI_pure rfl rfl; (intro _; go_simp; (try (go_ints; (try go_simp))); (first | (rw [decide_eq_true]; omega) | (rw [decide_eq_false]; omega) | rfl | rw [if_pos (by omega)])); simp only [Act.put, spA, spZ, spS]) | go_values | gi_guarded | gi_step | gi_upon))
      exact ⟨rfl, hS.grp2⟩
  case fin =>
    intro D _ w hS
    have hfin : ∀ {w : World} {L : List Res} {u : Value} {fn : Func} {a : Act}, Sep w0 F (pts x3 [.int .i64 s] 3 :: pts x4 [u] 3 :: pts bx [.pointer (some ⟨b, 0, none⟩)] 96 :: lstG b fr ol A :: L) w → fn.results = #[.cell 4 3] → a.tmps.getD 4 undef = .pointer (some ⟨x4, 0, none⟩) →
        (results fn a.tmps).run Tryz.prog w = .ok u w := fun h h1 h2 => ckRes_c1 h (by (repeat (first | exact mH _ | apply mT)) <;> fail) h1 h2 (by decide +kernel)
    obtain ⟨e1, e2⟩ := runP_pl (s := s) ps [] rfl
    have e3 : plP s (runP (plGo s) [] ps) = plP s ps := by unfold plP; rw [e1]
    rw [e3] at hS
    rw [e2]
    simp only [List.cons_append, List.nil_append] at hS ⊢
    have k1 := Sep.grp.2 (hS.bring (r := grpR [pts x3 [.int .i64 s] 3, pts x4 [.int .i64 (plP s ps)] 3]) (by (repeat (first | exact rH _ _ | apply rT)) <;> fail))
    clear hS
    have hS := k1
    clear k1
    simp only [List.cons_append, List.nil_append] at hS
    cases hf : plF s ps with
    | none =>
      have h0 : plP s ps = 0 := by unfold plP; rw [hf]
      rw [h0] at hS
      simp only [Option.isNone_none, if_true]
      go_wp2_with (first | go_skip | (refine ck_load hS rfl rfl rfl (by (repeat (first | exact mH _ | apply mT)) <;> fail) rfl (by decide +kernel) ?_; simp only [Act.put, spA, spZ, spS]) | (refine ck_store hS rfl rfl rfl (by constructor) (by (repeat (first | exact uH _ _ _ | apply uT)) <;> fail) (by simp <;> omega) rfl (by decide +kernel) ?_; clear hS; intro w hS; simp only [Act.put, spA, spZ, spS] at hS ⊢) | (refine ck_box hS rfl rfl (by constructor) ?_; clear hS; intro nb w hS; simp only [Act.put, spA, spZ, spS]) )
      exact ckM_end (.inr rfl) (hS.bring (r := objR D (.deferred (some []))) (by (repeat (first | exact rH _ _ | apply rT)) <;> fail)) rfl (fun w hS => ⟨hfin hS rfl rfl, _, ⟨by rw [h0], rfl⟩, hS.dropN 3⟩)
    | some y =>
      simp only [Option.isNone_some, Bool.false_eq_true, if_false]
      go_wp2_with (first | go_skip | (refine ck_load hS rfl rfl rfl (by (repeat (first | exact mH _ | apply mT)) <;> fail) rfl (by decide +kernel) ?_; simp only [Act.put, spA, spZ, spS]) | (refine ck_store hS rfl rfl rfl (by constructor) (by (repeat (first | exact uH _ _ _ | apply uT)) <;> fail) (by simp <;> omega) rfl (by decide +kernel) ?_; clear hS; intro w hS; simp only [Act.put, spA, spZ, spS] at hS ⊢) | (refine ck_box hS rfl rfl (by constructor) ?_; clear hS; intro nb w hS; simp only [Act.put, spA, spZ, spS]) )
      exact ckM_end (.inr rfl) (hS.bring (r := objR D (.deferred (some []))) (by (repeat (first | exact rH _ _ | apply rT)) <;> fail)) rfl (fun w hS => ⟨hfin hS rfl rfl, _, ⟨rfl, rfl⟩, hS.dropN 3⟩)
section
variable {P : Program} {ops : Array Oper} {blk : Nat → Nat} {conf : Nat → List Nat} {flg : List Nat} {Q : Exit → Act → World → Prop} {rest : List Oper} {w w0 : World} {F : List Nat} {L L0 L1 : List Res} {o : Oper} {a : Act} {i : Nat} {v : Value}
theorem ckT_call2G {f : FuncId} {xs : Array Operand} {ats : Array TypeId} {args : Array Value} {r1 r2 r3 r4 : Res} (hS : Sep w0 F L w) (ho : o.op = .call { callee := .value (.func f), args := xs, argTypes := ats }) (hC : Ct P f args [r1, r2] (Gives v [r3, r4])) (h1 : Rem L r1 L1) (h2 : Rem L1 r2 L0) (hw : Region.wanted o (yielded ops a.tmps) = true) (hen : ckEnter P f = true)
    (ha : xs.toList.map a.eval = args.toList) (hcf : ∀ j ∈ conf i, ∃ cs T, pts (blk j) cs T ∈ L0) (h : ∀ w', Sep w0 F (r3 :: r4 :: L0) w' → wpT P ops blk conf flg Q (i + 1) rest (a.put o.dst v) w') : wpT P ops blk conf flg Q i (o :: rest) a w :=
  ckT_enter ho hw hen ha (hC.callG (L := L0) ((hS.perm h1.perm).perm (.cons _ h2.perm)) fun w' hS' => ⟨fun j hj => by
    obtain ⟨cs, T, hm⟩ := hcf j hj
    have k1 := hS'.holds _ (show pts (blk j) cs T ∈ [r3, r4] ++ L0 by simp [hm])
    have k2 := ((hS.perm h1.perm).perm (.cons _ h2.perm)).holds _ (show pts (blk j) cs T ∈ r1 :: r2 :: L0 by simp [hm])
    exact Eq.trans k1 (Eq.symm k2), h w' hS'⟩)
end
theorem plZ_none {fr ol : List Int} {s : Int} (h : plZ fr ol s = 0) : s ∉ fr ∧ s ∉ ol := by
  rw [plZ_eq] at h
  by_cases h1 : s ∈ fr
  · simp [h1] at h
  · by_cases h2 : s ∈ ol
    · simp [h1, h2] at h
    · exact ⟨h1, h2⟩
set_option maxHeartbeats 4000000 in
theorem lstRemove_ct (b : Nat) (fr ol : List Int) (A : LA) (s : Int) (hsm : fr.length + ol.length ≤ 1000) (hp : plZ fr ol s ≠ 0) : Ct Tryz.prog 84 #[.pointer (some ⟨b, 0, none⟩), .int .i64 s] [lstG b fr ol A] (fun v L => v = .bool true ∧ ∃ A', L = [lstG b (fr.filter (· ≠ s)) (ol.filter (· ≠ s)) A']) := by
  have kP := lstPlace_ct b fr ol A s hsm
  have hp' : (plZ fr ol s == 0) = false := by simpa using hp
  obtain ⟨a1, c1, a2, c2⟩ := A
  obtain ⟨n1, h1⟩ : ∃ n, fr.length = n := ⟨_, rfl⟩
  obtain ⟨n2, h2⟩ : ∃ n, ol.length = n := ⟨_, rfl⟩
  obtain ⟨m1, hm1⟩ : ∃ n, (fr.filter (· ≠ s)).length = n := ⟨_, rfl⟩
  obtain ⟨m2, hm2⟩ : ∃ n, (ol.filter (· ≠ s)).length = n := ⟨_, rfl⟩
  have kD1 := fun x3 => deleteFunc_ct x3 n1 c1 a1 fr s h1 (by omega) m1 hm1
  have kD2 := fun x3 => deleteFunc_ct x3 n2 c2 a2 ol s h2 (by omega) m2 hm2
  generalize plZ fr ol s = pz at *
  clear hp
  intro w0 F L w hS
  simp only [List.cons_append, List.nil_append] at hS
  go_enter Tryz.func84, Tryz.ntmps84
  go_wp2_with (first | go_skip | (refine ck_box hS rfl rfl (by constructor) ?_; clear hS; intro x3 w hS; simp only [Act.put, spA, spZ, spS]) | (refine ck_load hS rfl rfl rfl (by (repeat (first | exact mH _ | apply mT)) <;> fail) rfl (by decide +kernel) ?_; simp only [Act.put, spA, spZ, spS]) | (refine ck_box hS rfl rfl (by constructor) ?_; clear hS; intro nb w hS; simp only [Act.put, spA, spZ, spS]) | (refine ck_region (fun _ => 0) (fun _ => []) [] hS (by kernel_rfl) (by decide +kernel) ?_ ?_; exact ⟨fun _ _ _ h => h.2, fun _ _ h => h⟩; clear hS; intro w hS _; (repeat (first | (apply wpT_pure rfl rfl; (intro _; go_simp; (try (go_ints; (try go_simp))); (first | (rw [decide_eq_true]; omega) | (rw [decide_eq_false]; omega) | rfl | rw [if_pos (by omega)])); simp only [Act.put, spA, spZ, spS]) | (refine ckT_load hS rfl rfl rfl (by simp <;> fail) (by (repeat (first | exact mH _ | apply mT)) <;> fail) rfl (by decide +kernel) ?_; simp only [Act.put, spA, spZ, spS]) | (refine ckT_store hS rfl rfl rfl (by constructor) (by (repeat (first | exact uH _ _ _ | apply uT)) <;> fail) (by simp <;> fail) rfl (by decide +kernel) (by simp <;> fail) ?_; clear hS; intro w hS; simp only [Act.put, spA, spZ, spS] at hS ⊢) )); refine wpT_nil ?_) | (go_at_call 77; (with_reducible refine Ct.callU (kP) (by (repeat (first | exact uH _ _ _ | apply uT)) <;> fail) hS ?_); clear hS; intro w hS; have hS := (lstOpen h1 h2).1 (hS.bring (r := lstG b fr ol (a1, c1, a2, c2)) (by (repeat (first | exact rH _ _ | apply rT)) <;> fail))))
  (refine ck_region (fun _ => b) (fun i => if i = 7 then [11] else []) ([11]) hS (by kernel_rfl) (by decide +kernel) ?_ ?_; exact ⟨fun _ _ _ h => h.2, fun _ _ h => h⟩; clear hS; intro w hS _; (repeat (first | (apply wpT_pure rfl rfl; (intro _; go_simp; (try (go_ints; (try go_simp))); (first | (rw [decide_eq_true]; omega) | (rw [decide_eq_false]; omega) | rfl | rw [if_pos (by omega)])); simp only [Act.put, spA, spZ, spS]) | (refine ckT_load hS rfl rfl rfl (by simp <;> fail) (by (repeat (first | exact mH _ | apply mT)) <;> fail) rfl (by decide +kernel) ?_; simp only [Act.put, spA, spZ, spS]) | (refine ckT_store hS rfl rfl rfl (by constructor) (by (repeat (first | exact uH _ _ _ | apply uT)) <;> fail) (by simp <;> fail) rfl (by decide +kernel) (by simp <;> fail) ?_; clear hS; intro w hS; simp only [Act.put, spA, spZ, spS] at hS ⊢) | (refine ckT_call2G hS rfl (kD1 _) (by (repeat (first | exact rH _ _ | apply rT)) <;> fail) (by (repeat (first | exact rH _ _ | apply rT)) <;> fail) rfl (by kernel_rfl) rfl (by intro j hj; simp at hj; first | exact ⟨_, 155, (by (repeat (first | exact mH _ | apply mT)) <;> fail)⟩ | (subst hj; exact ⟨_, 155, (by (repeat (first | exact mH _ | apply mT)) <;> fail)⟩)) ?_; clear hS; intro w hS; simp only [Act.put, spA, spZ, spS]) | (refine ckT_call2G hS rfl (kD2 _) (by (repeat (first | exact rH _ _ | apply rT)) <;> fail) (by (repeat (first | exact rH _ _ | apply rT)) <;> fail) rfl (by kernel_rfl) rfl (by intro j hj; simp at hj) ?_; clear hS; intro w hS; simp only [Act.put, spA, spZ, spS]))); refine wpT_nil ?_)
  go_wp2_with (first | go_skip | (refine ck_load hS rfl rfl rfl (by (repeat (first | exact mH _ | apply mT)) <;> fail) rfl (by decide +kernel) ?_; simp only [Act.put, spA, spZ, spS]) | (refine ck_box hS rfl rfl (by constructor) ?_; clear hS; intro nb w hS; simp only [Act.put, spA, spZ, spS])  | (refine ck_region (fun _ => 0) (fun _ => []) [] hS (by kernel_rfl) (by decide +kernel) ?_ ?_; exact ⟨fun _ _ _ h => h.2, fun _ _ h => h⟩; clear hS; intro w hS _; (repeat (first | (apply wpT_pure rfl rfl; (intro _; go_simp; (try (go_ints; (try go_simp))); (first | (rw [decide_eq_true]; omega) | (rw [decide_eq_false]; omega) | rfl | rw [if_pos (by omega)])); simp only [Act.put, spA, spZ, spS]) | (refine ckT_load hS rfl rfl rfl (by simp <;> fail) (by (repeat (first | exact mH _ | apply mT)) <;> fail) rfl (by decide +kernel) ?_; simp only [Act.put, spA, spZ, spS]) | (refine ckT_store hS rfl rfl rfl (by constructor) (by (repeat (first | exact uH _ _ _ | apply uT)) <;> fail) (by simp <;> fail) rfl (by decide +kernel) (by simp <;> fail) ?_; clear hS; intro w hS; simp only [Act.put, spA, spZ, spS] at hS ⊢) )); refine wpT_nil ?_))
  go_ret
  have j1 := (hS.bring (r := pts x3 [.int .i64 s] 3) (by (repeat (first | exact rH _ _ | apply rT)) <;> fail)).drop
  have j2 := j1.bring (r := rowR a2 m2 c2 3 1 (vZ (ol.filter (· ≠ s)))) (by (repeat (first | exact rH _ _ | apply rT)) <;> fail)
  have j3 := j2.bring (r := rowR a1 m1 c1 3 1 (vZ (fr.filter (· ≠ s)))) (by (repeat (first | exact rH _ _ | apply rT)) <;> fail)
  have j4 := j3.bring (r := pts b [.slice a1 m1 c1, .slice a2 m2 c2] 155) (by (repeat (first | exact rH _ _ | apply rT)) <;> fail)
  exact ⟨_, ⟨rfl, (a1, c1, a2, c2), rfl⟩, (lstOpen hm1 hm2).2 j4⟩
set_option maxHeartbeats 4000000 in
theorem lstPush_ct (b : Nat) (fr ol : List Int) (A : LA) (s : Int) (f : Bool) (hsm : fr.length + ol.length ≤ 1000) (h0 : 0 ≤ s) (h8 : s < 8) (hp : plZ fr ol s = 0) : Ct Tryz.prog 80 #[.pointer (some ⟨b, 0, none⟩), .int .i64 s, .bool f] [lstG b fr ol A] (fun v L => v = .int .i64 0 ∧ ∃ A', L = [lstG b (if f then fr ++ [s] else fr) (if f then ol else ol ++ [s]) A']) := by
  have kP := lstPlace_ct b fr ol A s hsm
  rw [hp] at kP
  obtain ⟨a1, c1, a2, c2⟩ := A
  obtain ⟨n1, h1⟩ : ∃ n, fr.length = n := ⟨_, rfl⟩
  obtain ⟨n2, h2⟩ : ∃ n, ol.length = n := ⟨_, rfl⟩
  have l1 : (fr ++ [s]).length = n1 + 1 := by simp [h1]
  have l2 : (ol ++ [s]).length = n2 + 1 := by simp [h2]
  have e1 : vZ (fr ++ [s]) = vZ fr ++ [.int .i64 s] := by simp
  have e2 : vZ (ol ++ [s]) = vZ ol ++ [.int .i64 s] := by simp
  have f0 : ¬ s < 0 := by omega
  intro w0 F L w hS
  simp only [List.cons_append, List.nil_append] at hS
  have fin1 : ∀ {w : World} {a1 : Option Addr} {c1 : Nat}, Sep w0 F (pts b [.slice a1 (n1 + 1) c1, .slice a2 n2 c2] 155 :: rowR a1 (n1 + 1) c1 3 1 (vZ fr ++ [.int .i64 s]) :: rowR a2 n2 c2 3 1 (vZ ol) :: L) w → Sep w0 F ([lstG b (fr ++ [s]) ol (a1, c1, a2, c2)] ++ L) w := fun h => (lstOpen l1 h2).2 (by rw [e1]; exact h)
  have fin2 : ∀ {w : World} {a2 : Option Addr} {c2 : Nat}, Sep w0 F (pts b [.slice a1 n1 c1, .slice a2 (n2 + 1) c2] 155 :: rowR a1 n1 c1 3 1 (vZ fr) :: rowR a2 (n2 + 1) c2 3 1 (vZ ol ++ [.int .i64 s]) :: L) w → Sep w0 F ([lstG b fr (ol ++ [s]) (a1, c1, a2, c2)] ++ L) w := fun h => (lstOpen h1 l2).2 (by rw [e2]; exact h)
  have open0 := fun {w : World} => (lstOpen (b := b) (a1 := a1) (a2 := a2) (c1 := c1) (c2 := c2) (w0 := w0) (w := w) (F := F) (L := L) h1 h2).1
  have hn : n1 + n2 ≤ 1000 := by omega
  clear hp h1 h2 l1 l2 e1 e2 hsm
  cases f
  · go_enter Tryz.func80, Tryz.ntmps80
    go_wp2_with (first | go_skip | (refine ck_load hS rfl rfl rfl (by (repeat (first | exact mH _ | apply mT)) <;> fail) rfl (by decide +kernel) ?_; simp only [Act.put, spA, spZ, spS]) | (refine ck_store hS rfl rfl rfl (by constructor) (by (repeat (first | exact uH _ _ _ | apply uT)) <;> fail) (by simp <;> omega) rfl (by decide +kernel) ?_; clear hS; intro w hS; simp only [Act.put, spA, spZ, spS] at hS ⊢) | (go_at_call 77; (with_reducible refine Ct.callU (kP) (by (repeat (first | exact uH _ _ _ | apply uT)) <;> fail) hS ?_); clear hS; intro w hS; have hS := open0 hS) | (refine ck_build1 (e := 3) hS rfl rfl (by constructor) rfl (by decide +kernel) ?_; clear hS; intro q w hS; simp only [Act.put, spA, spZ, spS]) | (refine ck_appendRow (e := 3) (sz := 1) hS rfl rfl rfl rfl (by (repeat (first | exact rH _ _ | apply rT)) <;> fail) (by (repeat (first | exact mH _ | apply mT)) <;> fail) (by decide +kernel) rfl rfl (by simp <;> fail) (by omega) ?_; clear hS; intro g' cap' w hS; simp only [Act.put, spA, spZ, spS]))
    go_ret
    have j1 := (hS.bring (r := pts q [.int .i64 s] 3) (by (repeat (first | exact rH _ _ | apply rT)) <;> fail)).drop
    have j2 := j1.bring (r := rowR (some ⟨g', 0, none⟩) (n2 + 1) cap' 3 1 (vZ ol ++ [.int .i64 s])) (by (repeat (first | exact rH _ _ | apply rT)) <;> fail)
    have j3 := j2.bring (r := rowR a1 n1 c1 3 1 (vZ fr)) (by (repeat (first | exact rH _ _ | apply rT)) <;> fail)
    have j4 := j3.bring (r := pts b [.slice a1 n1 c1, .slice (some ⟨g', 0, none⟩) (n2 + 1) cap'] 155) (by (repeat (first | exact rH _ _ | apply rT)) <;> fail)
    exact ⟨_, ⟨rfl, a1, c1, some ⟨g', 0, none⟩, cap', rfl⟩, fin2 j4⟩
  · go_enter Tryz.func80, Tryz.ntmps80
    go_wp2_with (first | go_skip | (refine ck_load hS rfl rfl rfl (by (repeat (first | exact mH _ | apply mT)) <;> fail) rfl (by decide +kernel) ?_; simp only [Act.put, spA, spZ, spS]) | (refine ck_store hS rfl rfl rfl (by constructor) (by (repeat (first | exact uH _ _ _ | apply uT)) <;> fail) (by simp <;> omega) rfl (by decide +kernel) ?_; clear hS; intro w hS; simp only [Act.put, spA, spZ, spS] at hS ⊢) | (go_at_call 77; (with_reducible refine Ct.callU (kP) (by (repeat (first | exact uH _ _ _ | apply uT)) <;> fail) hS ?_); clear hS; intro w hS; have hS := open0 hS) | (refine ck_build1 (e := 3) hS rfl rfl (by constructor) rfl (by decide +kernel) ?_; clear hS; intro q w hS; simp only [Act.put, spA, spZ, spS]) | (refine ck_appendRow (e := 3) (sz := 1) hS rfl rfl rfl rfl (by (repeat (first | exact rH _ _ | apply rT)) <;> fail) (by (repeat (first | exact mH _ | apply mT)) <;> fail) (by decide +kernel) rfl rfl (by simp <;> fail) (by omega) ?_; clear hS; intro g' cap' w hS; simp only [Act.put, spA, spZ, spS]))
    go_ret
    have j1 := (hS.bring (r := pts q [.int .i64 s] 3) (by (repeat (first | exact rH _ _ | apply rT)) <;> fail)).drop
    have j2 := j1.bring (r := rowR a2 n2 c2 3 1 (vZ ol)) (by (repeat (first | exact rH _ _ | apply rT)) <;> fail)
    have j3 := j2.bring (r := rowR (some ⟨g', 0, none⟩) (n1 + 1) cap' 3 1 (vZ fr ++ [.int .i64 s])) (by (repeat (first | exact rH _ _ | apply rT)) <;> fail)
    have j4 := j3.bring (r := pts b [.slice (some ⟨g', 0, none⟩) (n1 + 1) cap', .slice a2 n2 c2] 155) (by (repeat (first | exact rH _ _ | apply rT)) <;> fail)
    exact ⟨_, ⟨rfl, some ⟨g', 0, none⟩, cap', a2, c2, rfl⟩, fin1 j4⟩
theorem plZ_head {fr ol : List Int} {s : Int} {f : Bool} {r : List (Int × Bool)} (h : lsP fr ol = (s, f) :: r) : plZ fr ol s ≠ 0 := by
  unfold plZ plP
  rw [h, plF_cons, if_pos (by simp)]
  cases f <;> simp
theorem plZ_filter {fr ol : List Int} {s : Int} : plZ (fr.filter (· ≠ s)) (ol.filter (· ≠ s)) s = 0 := by
  rw [plZ_eq]; simp
set_option maxHeartbeats 1000000 in
theorem lstDrop_ct (b : Nat) (fr ol : List Int) (A : LA) (s : Int) (f : Bool) (r : List (Int × Bool)) (hsm : fr.length + ol.length ≤ 1000) (hp : lsP fr ol = (s, f) :: r) : Ct Tryz.prog 54 #[.pointer (some ⟨b, 0, none⟩)] [lstG b fr ol A] (fun v L => v = .bool true ∧ ∃ A', L = [lstG b (fr.filter (· ≠ s)) (ol.filter (· ≠ s)) A']) := by
  have kH := lstHead_ct b fr ol A hsm
  have kR := lstRemove_ct b fr ol A s hsm (plZ_head hp)
  rw [show hdZ fr ol = .tuple #[.int .i64 s, .bool f, .bool true] by unfold hdZ; rw [hp]] at kH
  clear hp
  intro w0 F L w hS
  simp only [List.cons_append, List.nil_append] at hS
  go_enter Tryz.func54, Tryz.ntmps54
  go_wp2_with (first | go_skip | (go_at_call 51; (with_reducible refine Ct.callU (kH) (by (repeat (first | exact uH _ _ _ | apply uT)) <;> fail) hS ?_) <;> (first | (clear hS; intro w hS) | omega)) | (go_at_call 84; (with_reducible refine Ct.callE (kR) (by (repeat (first | exact rH _ _ | apply rT)) <;> fail) hS ?_) <;> (first | (clear hS; intro A w hS) | omega)))
  go_ret
  exact ⟨_, ⟨rfl, _, rfl⟩, hS⟩
set_option maxHeartbeats 1000000 in
theorem lstBack_ct (b : Nat) (fr ol : List Int) (A : LA) (s : Int) (f : Bool) (r : List (Int × Bool)) (hsm : fr.length + ol.length ≤ 1000) (h0 : 0 ≤ s) (h8 : s < 8) (hp : lsP fr ol = (s, f) :: r) : Ct Tryz.prog 52 #[.pointer (some ⟨b, 0, none⟩)] [lstG b fr ol A] (fun v L => v = .bool true ∧ ∃ A', L = [lstG b (fr.filter (· ≠ s)) (ol.filter (· ≠ s) ++ [s]) A']) := by
  have kH := lstHead_ct b fr ol A hsm
  have kR := lstRemove_ct b fr ol A s hsm (plZ_head hp)
  have hf1 := List.length_filter_le (· ≠ s) fr
  have hf2 := List.length_filter_le (· ≠ s) ol
  have kP := fun A => lstPush_ct b (fr.filter (· ≠ s)) (ol.filter (· ≠ s)) A s false (by omega) h0 h8 plZ_filter
  simp only [Bool.false_eq_true, if_false] at kP
  rw [show hdZ fr ol = .tuple #[.int .i64 s, .bool f, .bool true] by unfold hdZ; rw [hp]] at kH
  clear hp hf1 hf2
  intro w0 F L w hS
  simp only [List.cons_append, List.nil_append] at hS
  go_enter Tryz.func52, Tryz.ntmps52
  go_wp2_with (first | go_skip | (go_at_call 51; (with_reducible refine Ct.callU (kH) (by (repeat (first | exact uH _ _ _ | apply uT)) <;> fail) hS ?_) <;> (first | (clear hS; intro w hS) | omega)) | (go_at_call 84; (with_reducible refine Ct.callE (kR) (by (repeat (first | exact rH _ _ | apply rT)) <;> fail) hS ?_) <;> (first | (clear hS; intro A w hS) | omega)) | (go_at_call 80; (with_reducible refine Ct.callE (kP _) (by (repeat (first | exact rH _ _ | apply rT)) <;> fail) hS ?_) <;> (first | (clear hS; intro A w hS) | omega)))
  go_ret
  exact ⟨_, ⟨rfl, _, rfl⟩, hS⟩
end Go.Proofs.YtcegknecikbbkaaGreat

/- What sums, products, and quotients of 64 and 128 bits come to. -/
set_option linter.unusedVariables false
set_option linter.unusedSimpArgs false
set_option maxRecDepth 4000
namespace Go.Proofs.YtcegknecikbbkaaGreat
open Go.RowKit
theorem add64_call (x y : Int) (h0 : 0 ≤ x) (h1 : 0 ≤ y) (w : World) :
    (callFunc 115 #[.int .u64 x, .int .u64 y, .int .u64 0]).run Tryz.prog w = .ok (.value (.tuple #[.int .u64 ((x + y) % 18446744073709551616), .int .u64 ((x + y) / 18446744073709551616)])) w := by
  rw [run_callFunc_extern Tryz.func115 (by kernel_rfl) (by kernel_rfl) (by kernel_rfl) (e := add64Entry) (by kernel_rfl), run_add64 x y 0 h0 h1 (by omega) (by omega)]
  simp [Result.andThen]
theorem mul64_mask (a : Nat) (ha : a < 18446744073709551616) : bits .and .u64 (a : Int) 4294967295 = ((a % 4294967296 : Nat) : Int) := by
  have h := bits_and_u64_nat a 4294967295 ha (by omega)
  have e : a &&& 4294967295 = a % 4294967296 := Nat.and_two_pow_sub_one_eq_mod a 32
  rw [e] at h
  exact h
theorem mul64_div (a : Nat) : (a : Int) / 4294967296 = ((a / 4294967296 : Nat) : Int) := by omega
theorem mul64_mul (a b : Nat) : (a : Int) * (b : Int) = ((a * b : Nat) : Int) := (Int.natCast_mul a b).symm
theorem mul64_add (a b : Nat) : (a : Int) + (b : Int) = ((a + b : Nat) : Int) := (Int.natCast_add a b).symm
theorem mul64_wrap (a : Nat) (ha : a < 18446744073709551616) : IntKind.u64.wrap (a : Int) = (a : Int) := by rw [IntKind.wrap_u64]; omega
theorem mul64_wrapM (a : Nat) : IntKind.u64.wrap (a : Int) = ((a % 18446744073709551616 : Nat) : Int) := by rw [IntKind.wrap_u64]; omega
def satAdd (a b : Int) : Int := min (a + b) 18446744073709551615
theorem satAdd_ct (a b : Int) (h0 : 0 ≤ a) (h1 : a ≤ 18446744073709551615) (h2 : 0 ≤ b) (h3 : b ≤ 18446744073709551615) : Ct Tryz.prog 79 #[.int .u64 a, .int .u64 b] [] (Gives (.int .u64 (satAdd a b)) []) := by
  unfold satAdd
  by_cases h : a + b ≤ 18446744073709551615
  · have e1 : (a + b) % 18446744073709551616 = a + b := by omega
    have e2 : (a + b) / 18446744073709551616 = 0 := by omega
    have e3 : min (a + b) 18446744073709551615 = a + b := by omega
    rw [e3]
    intro w0 F L w hS
    simp only [List.cons_append, List.nil_append] at hS
    go_enter Tryz.func79, Tryz.ntmps79
    go_wp2_with (first | go_skip | (simp only [add64_call a b h0 h2, e1, e2]))
    go_ret
    exact ⟨_, ⟨rfl, rfl⟩, hS⟩
  · have e2 : (a + b) / 18446744073709551616 = 1 := by omega
    have e3 : min (a + b) 18446744073709551615 = 18446744073709551615 := by omega
    rw [e3]
    intro w0 F L w hS
    simp only [List.cons_append, List.nil_append] at hS
    go_enter Tryz.func79, Tryz.ntmps79
    go_wp2_with (first | go_skip | (simp only [add64_call a b h0 h2, e2]))
    go_ret
    exact ⟨_, ⟨rfl, rfl⟩, hS⟩
theorem satSub_ct (a b : Int) (h0 : 0 ≤ a) (h1 : a ≤ 18446744073709551615) (h2 : 0 ≤ b) (h3 : b ≤ 18446744073709551615) : Ct Tryz.prog 192 #[.int .u64 a, .int .u64 b] [] (Gives (.int .u64 (a - min a b)) []) := by
  intro w0 F L w hS
  simp only [List.cons_append, List.nil_append] at hS
  go_enter Tryz.func192, Tryz.ntmps192
  go_wp2_with (first | go_skip | (refine ck_max rfl rfl rfl rfl ?_; simp only [Act.put, spA, spZ, spS]) | (refine ck_min rfl rfl rfl rfl ?_; simp only [Act.put, spA, spZ, spS]) )
  go_ret
  exact ⟨_, ⟨rfl, rfl⟩, hS⟩
theorem bitsMul_ct (x y : Nat) (hx : x < 18446744073709551616) (hy : y < 18446744073709551616) : Ct Tryz.prog 232 #[.int .u64 x, .int .u64 y] [] (Gives (.tuple #[.int .u64 ((x * y / 18446744073709551616 : Nat) : Int), .int .u64 ((x * y % 18446744073709551616 : Nat) : Int)]) []) := by
  obtain ⟨bd, bt, bw, hhi⟩ := Lib.mul64_hi x y hx hy
  have ba := Lib.half_mul_le (a := x / 4294967296) (b := y / 4294967296) (by omega) (by omega)
  have bb := Lib.half_mul_le (a := x / 4294967296) (b := y % 4294967296) (by omega) (by omega)
  have bc := Lib.half_mul_le (a := x % 4294967296) (b := y / 4294967296) (by omega) (by omega)
  have ba' : x / 4294967296 * (y / 4294967296) < 18446744073709551616 := by omega
  have bb' : x / 4294967296 * (y % 4294967296) < 18446744073709551616 := by omega
  have bc' : x % 4294967296 * (y / 4294967296) < 18446744073709551616 := by omega
  have bh1 : x / 4294967296 * (y / 4294967296) + (x / 4294967296 * (y % 4294967296) + x % 4294967296 * (y % 4294967296) / 4294967296) / 4294967296 < 18446744073709551616 := by omega
  have bh : x / 4294967296 * (y / 4294967296) + (x / 4294967296 * (y % 4294967296) + x % 4294967296 * (y % 4294967296) / 4294967296) / 4294967296 + ((x / 4294967296 * (y % 4294967296) + x % 4294967296 * (y % 4294967296) / 4294967296) % 4294967296 + x % 4294967296 * (y / 4294967296)) / 4294967296 < 18446744073709551616 := by omega
  intro w0 F L w hS
  simp only [List.cons_append, List.nil_append] at hS
  go_enter Tryz.func232, Tryz.ntmps232
  go_wp2
  simp only [mul64_mask x hx, mul64_mask y hy, mul64_div, mul64_mul, mul64_add, mul64_wrap _ bd, mul64_wrap _ bb', mul64_wrap _ bt, mul64_mask _ bt, mul64_wrap _ bc', mul64_wrap _ bw, mul64_wrap _ ba', mul64_wrap _ bh1, mul64_wrap _ bh, mul64_wrapM (x * y)]
  rw [hhi]
  go_ret2
  exact ⟨_, ⟨rfl, rfl⟩, hS⟩
theorem wideMul_ct (x y : Nat) (hx : x < 18446744073709551616) (hy : y < 18446744073709551616) : Ct Tryz.prog 178 #[.int .u64 x, .int .u64 y] [] (Gives (.tuple #[.int .u64 ((x * y / 18446744073709551616 : Nat) : Int), .int .u64 ((x * y % 18446744073709551616 : Nat) : Int)]) []) := by
  intro w0 F L w hS
  simp only [List.cons_append, List.nil_append] at hS
  go_enter Tryz.func178, Tryz.ntmps178
  go_wp2_with (first | go_skip | (go_at_call 232; with_reducible refine Ct.call0 (bitsMul_ct x y hx hy) hS ?_; clear hS; intro w hS))
  go_ret2
  exact ⟨_, ⟨rfl, rfl⟩, hS⟩
theorem orBit (a b : Nat) (ha : a % 2 = 0) (hb : b ≤ 1) (ha2 : a < 18446744073709551616) : bits .or .u64 (a : Int) (b : Int) = ((a + b : Nat) : Int) := by
  rw [bits_or_u64_nat a b ha2 (by omega)]
  obtain ⟨k, rfl⟩ : ∃ k, a = 2 ^ 1 * k := ⟨a / 2, by omega⟩
  rw [Nat.two_pow_add_eq_or_of_lt (i := 1) (by omega) k]
theorem div_step {c n h l q N h' q' : Nat} (hinv : (q * c + h) * 18446744073709551616 + l = N * 2 ^ n)
    (hq' : q' = 2 * q ∧ h' = 2 * h + l / 9223372036854775808 ∨ q' = 2 * q + 1 ∧ h' + c = 2 * h + l / 9223372036854775808) :
    (q' * c + h') * 18446744073709551616 + (l * 2 % 18446744073709551616) = N * 2 ^ (n + 1) := by
  rw [Nat.pow_succ, ← Nat.mul_assoc, ← hinv]
  clear hinv
  obtain ⟨k, hk⟩ : ∃ k, q * c = k := ⟨_, rfl⟩
  rcases hq' with ⟨rfl, rfl⟩ | ⟨rfl, h2⟩
  · have e : 2 * q * c = 2 * k := by rw [Nat.mul_assoc, hk]
    rw [e, hk]
    omega
  · have e : (2 * q + 1) * c = 2 * k + c := by rw [Nat.add_mul, Nat.mul_assoc, hk, Nat.one_mul]
    rw [e, hk]
    omega
theorem wideDiv_ct (h0 l0 c : Nat) (hh : h0 < c) (hl : l0 < 18446744073709551616) (hc : c < 18446744073709551616) : Ct Tryz.prog 179 #[.int .u64 h0, .int .u64 l0, .int .u64 c] [] (Gives (.tuple #[.int .u64 (((h0 * 18446744073709551616 + l0) / c : Nat) : Int), .int .i64 0]) []) := by
  have hc0 : ((c : Int) == 0) = false := by simp; omega
  have hh2 : ¬ c ≤ h0 := by omega
  intro w0 F L w hS
  simp only [List.cons_append, List.nil_append] at hS
  go_enter Tryz.func179, Tryz.ntmps179
  go_wp2_with (first | go_skip )
  go_step3
  go_wp2_with (first | go_skip )
  go_step3
  go_wp2_with (first | go_skip )
  go_loopg [0, 1, 8, 9] 65 (fun g s0 s1 s8 s9 wx => ∃ (n h l q : Nat), n + g = 65 ∧ n ≤ 64 ∧ s0 = .int .u64 h ∧ s1 = .int .u64 l ∧ s8 = .int .u64 q ∧ s9 = .int .i64 n ∧ h < c ∧ l < 18446744073709551616 ∧ q < 2 ^ n ∧ (q * c + h) * 18446744073709551616 + l = (h0 * 18446744073709551616 + l0) * 2 ^ n ∧ Sep w0 F L wx)
  case atStart => exact ⟨0, h0, l0, 0, by omega, by omega, rfl, rfl, rfl, rfl, hh, hl, by omega, by omega, hS⟩
  case round =>
    obtain ⟨n, h, l, q, hng, hn, rfl, rfl, rfl, rfl, hhc, hll, hqn, hinv, hS⟩ := hrel
    generalize wr = w at hS ⊢
    by_cases hn64 : n = 64
    · subst hn64
      have hfin : q = (h0 * 18446744073709551616 + l0) / c := by
        have hl0 : l = 0 := by omega
        have e : q * c + h = h0 * 18446744073709551616 + l0 := by omega
        rw [← e, Nat.mul_comm, Nat.mul_add_div (by omega), Nat.div_eq_of_lt hhc, Nat.add_zero]
      clear hinv hqn
      go_wp2_with (first | go_skip )
      rw [Exit.noGoto_ret]
      go_ret2
      subst hfin
      exact ⟨_, ⟨rfl, rfl⟩, hS⟩
    · have hn' : ¬ (n : Int) = 64 := by omega
      have hp : 2 ^ n ≤ 2 ^ 63 := Nat.pow_le_pow_right (by omega) (by omega)
      have hq2 : q < 9223372036854775808 := by omega
      have eq2 : IntKind.u64.wrap ((q : Int) * 2) = ((q * 2 : Nat) : Int) := by rw [IntKind.wrap_u64]; omega
      have eq3 : bits .or .u64 ((q * 2 : Nat) : Int) 1 = ((q * 2 + 1 : Nat) : Int) := orBit (q * 2) 1 (by omega) (by omega) (by omega)
      have el : (l : Int) / 9223372036854775808 = ((l / 9223372036854775808 : Nat) : Int) := by omega
      have ell : IntKind.u64.wrap ((l : Int) * 2) = ((l * 2 % 18446744073709551616 : Nat) : Int) := by rw [IntKind.wrap_u64]; omega
      have eh : IntKind.u64.wrap ((h : Int) * 2) = ((h * 2 % 18446744073709551616 : Nat) : Int) := by rw [IntKind.wrap_u64]; omega
      have eo : bits .or .u64 ((h * 2 % 18446744073709551616 : Nat) : Int) ((l / 9223372036854775808 : Nat) : Int) = ((h * 2 % 18446744073709551616 + l / 9223372036854775808 : Nat) : Int) := orBit _ _ (by omega) (by omega) (by omega)
      have hqs : q * 2 + 1 < 2 ^ (n + 1) := by rw [Nat.pow_succ]; omega
      have eq4 : bits .or .u64 ((q : Int) * 2) 1 = (q : Int) * 2 + 1 := by rw [show (q : Int) * 2 = ((q * 2 : Nat) : Int) by omega, eq3]; omega
      have ell2 : IntKind.u64.wrap ((l : Int) * 2) = ((l * 2 % 18446744073709551616 : Nat) : Int) := ell
      have eo4 : bits .or .u64 (IntKind.u64.wrap ((h : Int) * 2)) ((l : Int) / 9223372036854775808) = ((h * 2 % 18446744073709551616 + l / 9223372036854775808 : Nat) : Int) := by rw [eh, el, eo]
      by_cases ht : h < 9223372036854775808
      · have eo2 : bits .or .u64 ((h : Int) * 2) ((l : Int) / 9223372036854775808) = ((h * 2 + l / 9223372036854775808 : Nat) : Int) := by
          have eh2 : (h : Int) * 2 = ((h * 2 % 18446744073709551616 : Nat) : Int) := by omega
          rw [eh2, el, eo]; congr 2; omega
        clear eh eo eq2 eq3 el ell eo4
        have ht' : (h : Int) / 9223372036854775808 = 0 := by omega
        by_cases hx : h * 2 + l / 9223372036854775808 < c
        · have hi := div_step (q' := q * 2) (h' := h * 2 + l / 9223372036854775808) hinv (.inl ⟨by omega, by omega⟩)
          have hx' : (h : Int) * 2 + l / 9223372036854775808 < (c : Int) := by omega
          clear hinv
          go_wp2_with (first | go_skip )
          go_roundg (64 - n)
          case rel => exact ⟨n + 1, h * 2 + l / 9223372036854775808, l * 2 % 18446744073709551616, q * 2, by omega, by omega, by go_num, by go_num, by go_num, by go_num, hx, by omega, by omega, hi, hS⟩
          case measure => omega
        · have hi := div_step (q' := q * 2 + 1) (h' := h * 2 + l / 9223372036854775808 - c) hinv (.inr ⟨by omega, by omega⟩)
          have hx' : ¬ (h : Int) * 2 + l / 9223372036854775808 < (c : Int) := by omega
          clear hinv
          go_wp2_with (first | go_skip )
          go_roundg (64 - n)
          case rel => exact ⟨n + 1, h * 2 + l / 9223372036854775808 - c, l * 2 % 18446744073709551616, q * 2 + 1, by omega, by omega, congrArg (Value.int .u64) (by omega), by go_num, by go_num, by go_num, by omega, by omega, hqs, hi, hS⟩
          case measure => omega
      · have ht' : ¬ (h : Int) / 9223372036854775808 = 0 := by omega
        have hi := div_step (q' := q * 2 + 1) (h' := h * 2 + l / 9223372036854775808 - c) hinv (.inr ⟨by omega, by omega⟩)
        have hm2 : h * 2 % 18446744073709551616 + l / 9223372036854775808 = h * 2 + l / 9223372036854775808 - 18446744073709551616 := by omega
        rw [hm2] at eo4
        obtain ⟨x, hx⟩ : ∃ x : Nat, h * 2 + l / 9223372036854775808 - 18446744073709551616 = x := ⟨_, rfl⟩
        rw [hx] at eo4
        have hxw : ∀ _ : Unit, IntKind.u64.wrap ((x : Int) - c) = ((h * 2 + l / 9223372036854775808 - c : Nat) : Int) := fun _ => by rw [IntKind.wrap_u64]; omega
        clear hx
        clear hinv eh eo eq2 eq3 el ell hm2
        go_wp2_with (first | go_skip )
        go_roundg (64 - n)
        case rel => exact ⟨n + 1, h * 2 + l / 9223372036854775808 - c, l * 2 % 18446744073709551616, q * 2 + 1, by omega, by omega, congrArg (Value.int .u64) (hxw ()), by go_num, by go_num, by go_num, by omega, by omega, hqs, hi, hS⟩
        case measure => omega
def MX : Int := 18446744073709551615
/-- A product divided, rounded down, and held. -/
def mulDiv (a b c : Int) : Int := if a * b = 0 then 0 else if c = 0 then 18446744073709551615 else min (a * b / c) 18446744073709551615
theorem wideDiv0_ct (h l : Int) : Ct Tryz.prog 179 #[.int .u64 h, .int .u64 l, .int .u64 0] [] (Gives (.tuple #[.int .u64 0, .int .i64 1]) []) := by
  intro w0 F L w hS
  simp only [List.cons_append, List.nil_append] at hS
  go_enter Tryz.func179, Tryz.ntmps179
  go_wp2_with (first | go_skip )
  go_step3
  go_wp2_with (first | go_skip )
  rw [Exit.noGoto_ret]
  go_ret2
  exact ⟨_, ⟨rfl, rfl⟩, hS⟩
theorem wideDivO_ct (h l c : Int) (hc : c ≠ 0) (hh : c ≤ h) : Ct Tryz.prog 179 #[.int .u64 h, .int .u64 l, .int .u64 c] [] (Gives (.tuple #[.int .u64 0, .int .i64 3]) []) := by
  have hc0 : (c == 0) = false := by simpa using hc
  intro w0 F L w hS
  simp only [List.cons_append, List.nil_append] at hS
  go_enter Tryz.func179, Tryz.ntmps179
  go_wp2_with (first | go_skip )
  go_step3
  go_wp2_with (first | go_skip )
  rw [Exit.noGoto_ret]
  go_ret2
  exact ⟨_, ⟨rfl, rfl⟩, hS⟩
theorem mulDiv_ct (a b c : Int) (a0 : 0 ≤ a) (a1 : a ≤ 18446744073709551615) (b0 : 0 ≤ b) (b1 : b ≤ 18446744073709551615) (c0 : 0 ≤ c) (c1 : c ≤ 18446744073709551615) :
    Ct Tryz.prog 127 #[.int .u64 a, .int .u64 b, .int .u64 c] [] (Gives (.int .u64 (mulDiv a b c)) []) := by
  obtain ⟨x, rfl⟩ : ∃ x : Nat, a = x := ⟨a.toNat, by omega⟩
  obtain ⟨y, rfl⟩ : ∃ y : Nat, b = y := ⟨b.toNat, by omega⟩
  obtain ⟨z, rfl⟩ : ∃ z : Nat, c = z := ⟨c.toNat, by omega⟩
  have kM := wideMul_ct x y (by omega) (by omega)
  obtain ⟨m, hm⟩ : ∃ m, x * y = m := ⟨_, rfl⟩
  have hmi : (x : Int) * (y : Int) = m := by rw [← hm]; simp
  unfold mulDiv
  rw [hmi]
  rw [hm] at kM
  obtain ⟨h, hh⟩ : ∃ h, m / 18446744073709551616 = h := ⟨_, rfl⟩
  obtain ⟨l, hl⟩ : ∃ l, m % 18446744073709551616 = l := ⟨_, rfl⟩
  have hml : m = h * 18446744073709551616 + l := by omega
  rw [hh, hl] at kM
  by_cases m0 : m = 0
  · rw [if_pos (by omega)]
    obtain rfl : h = 0 := by omega
    obtain rfl : l = 0 := by omega
    clear hm hmi hh hl hml m0
    intro w0 F L w hS
    simp only [List.cons_append, List.nil_append] at hS
    go_enter Tryz.func127, Tryz.ntmps127
    go_wp2_with (first | go_skip | (go_at_call 178; with_reducible refine Ct.call0 (kM) hS ?_; clear hS; intro w hS))
    go_ret
    exact ⟨_, ⟨rfl, rfl⟩, hS⟩
  · rw [if_neg (by omega)]
    have hnz : ¬ ((h : Int) = 0 ∧ (l : Int) = 0) := by omega
    by_cases z0 : z = 0
    · rw [if_pos (by omega)]
      subst z0
      have kD := wideDiv0_ct h l
      by_cases h0 : (h : Int) = 0
      · have h0' : ((h : Int) == 0) = true := by simpa using h0
        have l0' : ((l : Int) == 0) = false := by simp; omega
        clear hm hmi hh hl hml m0 hnz h0
        intro w0 F L w hS
        simp only [List.cons_append, List.nil_append] at hS
        go_enter Tryz.func127, Tryz.ntmps127
        go_wp2_with (first | go_skip | (go_at_call 178; with_reducible refine Ct.call0 (kM) hS ?_; clear hS; intro w hS) | (go_at_call 179; with_reducible refine Ct.call0 (kD) hS ?_; clear hS; intro w hS))
        go_ret
        exact ⟨_, ⟨rfl, rfl⟩, hS⟩
      · have h0' : ((h : Int) == 0) = false := by simpa using h0
        clear hm hmi hh hl hml m0 hnz h0
        intro w0 F L w hS
        simp only [List.cons_append, List.nil_append] at hS
        go_enter Tryz.func127, Tryz.ntmps127
        go_wp2_with (first | go_skip | (go_at_call 178; with_reducible refine Ct.call0 (kM) hS ?_; clear hS; intro w hS) | (go_at_call 179; with_reducible refine Ct.call0 (kD) hS ?_; clear hS; intro w hS))
        go_ret
        exact ⟨_, ⟨rfl, rfl⟩, hS⟩
    · rw [if_neg (by omega)]
      have hl2 : l < 18446744073709551616 := by omega
      by_cases hc : z ≤ h
      · have hover : min ((m : Int) / z) 18446744073709551615 = 18446744073709551615 := by
          have : (18446744073709551616 : Int) ≤ (m : Int) / z := by
            rw [Int.le_ediv_iff_mul_le (by omega)]
            have : z * 18446744073709551616 ≤ h * 18446744073709551616 := Nat.mul_le_mul_right _ hc
            omega
          omega
        rw [hover]
        have kD := wideDivO_ct h l z (by omega) (by omega)
        have h0' : ((h : Int) == 0) = false := by simp; omega
        clear hm hmi hh hl hml m0 hnz hover
        intro w0 F L w hS
        simp only [List.cons_append, List.nil_append] at hS
        go_enter Tryz.func127, Tryz.ntmps127
        go_wp2_with (first | go_skip | (go_at_call 178; with_reducible refine Ct.call0 (kM) hS ?_; clear hS; intro w hS) | (go_at_call 179; with_reducible refine Ct.call0 (kD) hS ?_; clear hS; intro w hS))
        go_ret
        exact ⟨_, ⟨rfl, rfl⟩, hS⟩
      · have hin : min ((m : Int) / z) 18446744073709551615 = ((m / z : Nat) : Int) := by
          have : m / z < 18446744073709551616 := by
            rw [Nat.div_lt_iff_lt_mul (by omega)]
            have : (h + 1) * 18446744073709551616 ≤ z * 18446744073709551616 := Nat.mul_le_mul_right _ (by omega)
            omega
          omega
        rw [hin]
        have kD := wideDiv_ct h l z (by omega) hl2 (by omega)
        rw [← hml] at kD
        generalize m / z = r at *
        by_cases h0 : (h : Int) = 0
        · have h0' : ((h : Int) == 0) = true := by simpa using h0
          have l0' : ((l : Int) == 0) = false := by simp; omega
          clear hm hmi hh hl hml m0 hnz h0 hin
          intro w0 F L w hS
          simp only [List.cons_append, List.nil_append] at hS
          go_enter Tryz.func127, Tryz.ntmps127
          go_wp2_with (first | go_skip | (go_at_call 178; with_reducible refine Ct.call0 (kM) hS ?_; clear hS; intro w hS) | (go_at_call 179; with_reducible refine Ct.call0 (kD) hS ?_; clear hS; intro w hS))
          go_ret
          exact ⟨_, ⟨rfl, rfl⟩, hS⟩
        · have h0' : ((h : Int) == 0) = false := by simpa using h0
          clear hm hmi hh hl hml m0 hnz h0 hin
          intro w0 F L w hS
          simp only [List.cons_append, List.nil_append] at hS
          go_enter Tryz.func127, Tryz.ntmps127
          go_wp2_with (first | go_skip | (go_at_call 178; with_reducible refine Ct.call0 (kM) hS ?_; clear hS; intro w hS) | (go_at_call 179; with_reducible refine Ct.call0 (kD) hS ?_; clear hS; intro w hS))
          go_ret
          exact ⟨_, ⟨rfl, rfl⟩, hS⟩
end Go.Proofs.YtcegknecikbbkaaGreat

/- Delays, rates, the clock, and what may be. -/
set_option linter.unusedVariables false
set_option linter.unusedSimpArgs false
set_option maxRecDepth 4000
namespace Go.Proofs.YtcegknecikbbkaaGreat
open Go.RowKit
theorem mulDiv_bd (a b c : Int) (a0 : 0 ≤ a) (b0 : 0 ≤ b) (c0 : 0 ≤ c) : 0 ≤ mulDiv a b c ∧ mulDiv a b c ≤ 18446744073709551615 := by
  have h := Int.mul_nonneg a0 b0
  unfold mulDiv
  split
  · omega
  · split
    · omega
    · have := Int.ediv_nonneg h c0
      omega
def delayOf (size rate : Int) : Int := if size < 1 ∨ rate = 18446744073709551615 then 0 else min (mulDiv size 1000000000 rate) 1000000000
theorem delayOf_bd (size rate : Int) (h2 : 0 ≤ rate) : 0 ≤ delayOf size rate ∧ delayOf size rate ≤ 1000000000 := by
  unfold delayOf
  split
  · omega
  · have := mulDiv_bd size 1000000000 rate (by omega) (by omega) h2
    omega
theorem delayOf_ct (size rate : Int) (h0 : -9223372036854775808 ≤ size) (h1 : size ≤ 9223372036854775807) (h2 : 0 ≤ rate) (h3 : rate ≤ 18446744073709551615) : Ct Tryz.prog 89 #[.int .i64 size, .int .u64 rate] [] (Gives (.int .u64 (delayOf size rate)) []) := by
  unfold delayOf
  by_cases hs : size < 1
  · rw [if_pos (.inl hs)]
    intro w0 F L w hS
    simp only [List.cons_append, List.nil_append] at hS
    go_enter Tryz.func89, Tryz.ntmps89
    go_wp2_with (first | go_skip | (refine ck_max rfl rfl rfl rfl ?_; simp only [Act.put, spA, spZ, spS]) | (refine ck_min rfl rfl rfl rfl ?_; simp only [Act.put, spA, spZ, spS]) )
    go_ret
    exact ⟨_, ⟨rfl, rfl⟩, hS⟩
  · by_cases hr : rate = 18446744073709551615
    · rw [if_pos (.inr hr)]
      subst hr
      intro w0 F L w hS
      simp only [List.cons_append, List.nil_append] at hS
      go_enter Tryz.func89, Tryz.ntmps89
      go_wp2_with (first | go_skip | (refine ck_max rfl rfl rfl rfl ?_; simp only [Act.put, spA, spZ, spS]) | (refine ck_min rfl rfl rfl rfl ?_; simp only [Act.put, spA, spZ, spS]) )
      go_ret
      exact ⟨_, ⟨rfl, rfl⟩, hS⟩
    · rw [if_neg (by omega)]
      have kM := mulDiv_ct size 1000000000 rate (by omega) (by omega) (by omega) (by omega) h2 h3
      have hr' : (rate == 18446744073709551615) = false := by simpa using hr
      obtain ⟨m0, m1⟩ := mulDiv_bd size 1000000000 rate (by omega) (by omega) h2
      generalize mulDiv size 1000000000 rate = m at *
      clear hr
      intro w0 F L w hS
      simp only [List.cons_append, List.nil_append] at hS
      go_enter Tryz.func89, Tryz.ntmps89
      go_wp2_with (first | go_skip | (refine ck_max rfl rfl rfl rfl ?_; simp only [Act.put, spA, spZ, spS]) | (refine ck_min rfl rfl rfl rfl ?_; simp only [Act.put, spA, spZ, spS]) | (go_at_call 127; with_reducible refine Ct.call0 (kM) hS ?_; clear hS; intro w hS))
      go_ret
      exact ⟨_, ⟨rfl, rfl⟩, hS⟩
def lesser (a b : Int) : Int := if a = 0 then (if b = 0 then 18446744073709551615 else b) else if b = 0 then a else min a b
set_option maxHeartbeats 1000000 in
theorem lesser_ct (a b : Int) (h0 : 0 ≤ a) (h1 : a ≤ 18446744073709551615) (h2 : 0 ≤ b) (h3 : b ≤ 18446744073709551615) : Ct Tryz.prog 90 #[.int .u64 a, .int .u64 b] [] (Gives (.int .u64 (lesser a b)) []) := by
  intro w0 F L w hS
  simp only [List.cons_append, List.nil_append] at hS
  go_enter Tryz.func90, Tryz.ntmps90
  go_wp2_with (first | go_skip | (refine ck_max rfl rfl rfl rfl ?_; simp only [Act.put, spA, spZ, spS]) | (refine ck_min rfl rfl rfl rfl ?_; simp only [Act.put, spA, spZ, spS]) )
  go_step3
  go_wp2_with (first | go_skip | (refine ck_max rfl rfl rfl rfl ?_; simp only [Act.put, spA, spZ, spS]) | (refine ck_min rfl rfl rfl rfl ?_; simp only [Act.put, spA, spZ, spS]) )
  go_step3
  go_wp2_with (first | go_skip | (refine ck_max rfl rfl rfl rfl ?_; simp only [Act.put, spA, spZ, spS]) | (refine ck_min rfl rfl rfl rfl ?_; simp only [Act.put, spA, spZ, spS]) )
  refine wp_loop_rounds 3 ?_; rw [rounds_succ]
  go_wp2_with (first | go_skip | (refine ck_max rfl rfl rfl rfl ?_; simp only [Act.put, spA, spZ, spS]) | (refine ck_min rfl rfl rfl rfl ?_; simp only [Act.put, spA, spZ, spS]) | (refine ck_index Tryz.underlying235 rfl rfl rfl rfl (by decide) (by decide) rfl (by kernel_rfl) (by kernel_rfl) ?_; simp only [Act.put, spA, spZ, spS]) | (with_reducible rw [rounds_succ]))
  all_goals
    rw [Exit.noGoto_ret]
    go_ret
    exact ⟨_, ⟨congrArg (Value.int _) (by unfold lesser; simp_all <;> omega), rfl⟩, hS⟩
theorem within_ct (v lo hi : Int) : Ct Tryz.prog 46 #[.int .i64 v, .int .i64 lo, .int .i64 hi] [] (Gives (.bool (decide (lo ≤ v) && decide (v ≤ hi))) []) := by
  by_cases h : lo ≤ v
  · rw [decide_eq_true h, Bool.true_and]
    intro w0 F L w hS
    simp only [List.cons_append, List.nil_append] at hS
    go_enter Tryz.func46, Tryz.ntmps46
    go_wp2_with (first | go_skip )
    go_ret
    exact ⟨_, ⟨rfl, rfl⟩, hS⟩
  · rw [decide_eq_false h, Bool.false_and]
    intro w0 F L w hS
    simp only [List.cons_append, List.nil_append] at hS
    go_enter Tryz.func46, Tryz.ntmps46
    go_wp2_with (first | go_skip )
    go_ret
    exact ⟨_, ⟨rfl, rfl⟩, hS⟩
theorem egIs_ct (v : Int) : Ct Tryz.prog 64 #[.int .i64 v] [] (Gives (.bool (decide (0 ≤ v) && decide (v < 8))) []) := by
  by_cases h : 0 ≤ v
  · rw [decide_eq_true h, Bool.true_and]
    intro w0 F L w hS
    simp only [List.cons_append, List.nil_append] at hS
    go_enter Tryz.func64, Tryz.ntmps64
    go_wp2_with (first | go_skip )
    go_ret
    exact ⟨_, ⟨rfl, rfl⟩, hS⟩
  · rw [decide_eq_false h, Bool.false_and]
    intro w0 F L w hS
    simp only [List.cons_append, List.nil_append] at hS
    go_enter Tryz.func64, Tryz.ntmps64
    go_wp2_with (first | go_skip )
    go_ret
    exact ⟨_, ⟨rfl, rfl⟩, hS⟩
abbrev clkR (b : Nat) (now : Int) : Res := pts b [.int .u64 now] 123
theorem clkNow_ct (b : Nat) (now : Int) : Ct Tryz.prog 30 #[.pointer (some ⟨b, 0, none⟩)] [clkR b now] (Gives (.int .u64 now) [clkR b now]) := by
  intro w0 F L w hS
  simp only [List.cons_append, List.nil_append] at hS
  go_enter Tryz.func30, Tryz.ntmps30
  go_wp2_with (first | go_skip | (refine ck_load hS rfl rfl rfl (by (repeat (first | exact mH _ | apply mT)) <;> fail) rfl (by decide +kernel) ?_; simp only [Act.put, spA, spZ, spS]) )
  go_ret
  exact ⟨_, ⟨rfl, rfl⟩, hS⟩
theorem clkMoveOk_ct (b : Nat) (now x : Int) (h : x ≤ 4611686018427387904) (h2 : now ≤ x) : Ct Tryz.prog 26 #[.pointer (some ⟨b, 0, none⟩), .int .u64 x] [clkR b now] (Gives (.int .i64 0) [clkR b x]) := by
  intro w0 F L w hS
  simp only [List.cons_append, List.nil_append] at hS
  go_enter Tryz.func26, Tryz.ntmps26
  go_wp2_with (first | go_skip | (refine ck_load hS rfl rfl rfl (by (repeat (first | exact mH _ | apply mT)) <;> fail) rfl (by decide +kernel) ?_; simp only [Act.put, spA, spZ, spS]) | (refine ck_store hS rfl rfl rfl (by constructor) (by (repeat (first | exact uH _ _ _ | apply uT)) <;> fail) (by simp <;> omega) rfl (by decide +kernel) ?_; clear hS; intro w hS; simp only [Act.put, spA, spZ, spS] at hS ⊢) )
  go_ret
  exact ⟨_, ⟨rfl, rfl⟩, hS⟩
theorem clkMoveOver_ct (b : Nat) (now x : Int) (h : 4611686018427387904 < x) : Ct Tryz.prog 26 #[.pointer (some ⟨b, 0, none⟩), .int .u64 x] [clkR b now] (Gives (.int .i64 3) [clkR b now]) := by
  intro w0 F L w hS
  simp only [List.cons_append, List.nil_append] at hS
  go_enter Tryz.func26, Tryz.ntmps26
  go_wp2_with (first | go_skip | (refine ck_load hS rfl rfl rfl (by (repeat (first | exact mH _ | apply mT)) <;> fail) rfl (by decide +kernel) ?_; simp only [Act.put, spA, spZ, spS]) | (refine ck_store hS rfl rfl rfl (by constructor) (by (repeat (first | exact uH _ _ _ | apply uT)) <;> fail) (by simp <;> omega) rfl (by decide +kernel) ?_; clear hS; intro w hS; simp only [Act.put, spA, spZ, spS] at hS ⊢) )
  go_ret
  exact ⟨_, ⟨rfl, rfl⟩, hS⟩
theorem clkMoveBack_ct (b : Nat) (now x : Int) (h : x ≤ 4611686018427387904) (h2 : x < now) : Ct Tryz.prog 26 #[.pointer (some ⟨b, 0, none⟩), .int .u64 x] [clkR b now] (Gives (.int .i64 4) [clkR b now]) := by
  intro w0 F L w hS
  simp only [List.cons_append, List.nil_append] at hS
  go_enter Tryz.func26, Tryz.ntmps26
  go_wp2_with (first | go_skip | (refine ck_load hS rfl rfl rfl (by (repeat (first | exact mH _ | apply mT)) <;> fail) rfl (by decide +kernel) ?_; simp only [Act.put, spA, spZ, spS]) | (refine ck_store hS rfl rfl rfl (by constructor) (by (repeat (first | exact uH _ _ _ | apply uT)) <;> fail) (by simp <;> omega) rfl (by decide +kernel) ?_; clear hS; intro w hS; simp only [Act.put, spA, spZ, spS] at hS ⊢) )
  go_ret
  exact ⟨_, ⟨rfl, rfl⟩, hS⟩
theorem clkFirst0_ct (g c : Nat) (x : Int) : Ct Tryz.prog 59 #[.slice (some ⟨g, 0, none⟩) 1 1] [pts g [.int .u64 0] 22] (Gives (.int .u64 0) [pts g [.int .u64 0] 22]) := by
  intro w0 F L w hS
  simp only [List.cons_append, List.nil_append] at hS
  go_enter Tryz.func59, Tryz.ntmps59
  go_wp2_with (first | go_skip | (refine ck_load hS rfl rfl rfl (by (repeat (first | exact mH _ | apply mT)) <;> fail) rfl (by decide +kernel) ?_; simp only [Act.put, spA, spZ, spS]) )
  go_step3
  go_wp2_with (first | go_skip | (refine ck_load hS rfl rfl rfl (by (repeat (first | exact mH _ | apply mT)) <;> fail) rfl (by decide +kernel) ?_; simp only [Act.put, spA, spZ, spS]) )
  go_step3
  go_wp2_with (first | go_skip | (refine ck_load hS rfl rfl rfl (by (repeat (first | exact mH _ | apply mT)) <;> fail) rfl (by decide +kernel) ?_; simp only [Act.put, spA, spZ, spS]) )
  refine wp_loop_rounds 2 ?_; rw [rounds_succ]
  go_wp2_with (first | go_skip | (refine ck_load hS rfl rfl rfl (by (repeat (first | exact mH _ | apply mT)) <;> fail) rfl (by decide +kernel) ?_; simp only [Act.put, spA, spZ, spS]) | (with_reducible rw [rounds_succ]))
  rw [Exit.noGoto_ret]
  go_ret
  exact ⟨_, ⟨rfl, rfl⟩, hS⟩
theorem clkNew0_ct : Ct Tryz.prog 24 #[.int .u64 0] [] (fun v L => ∃ b, v = .pointer (some ⟨b, 0, none⟩) ∧ L = [clkR b 0]) := by
  intro w0 F L w hS
  simp only [List.cons_append, List.nil_append] at hS
  go_enter Tryz.func24, Tryz.ntmps24
  go_wp2_with (first | go_skip | (refine ck_box hS rfl rfl (by constructor) ?_; clear hS; intro nb w hS; simp only [Act.put, spA, spZ, spS]) | (refine ck_build1 (e := 22) hS rfl rfl (by constructor) rfl (by decide +kernel) ?_; clear hS; intro q w hS; simp only [Act.put, spA, spZ, spS]) | (go_at_call 59; (with_reducible refine Ct.callU (clkFirst0_ct _ 0 0) (by (repeat (first | exact uH _ _ _ | apply uT)) <;> fail) hS ?_) <;> (first | (clear hS; intro w hS) | omega)))
  go_ret
  exact ⟨_, ⟨_, rfl, rfl⟩, (hS.perm (.swap _ _ _)).drop⟩
end Go.Proofs.YtcegknecikbbkaaGreat

/- A queue: its words; has, place, idle, time. -/
set_option linter.unusedVariables false
set_option linter.unusedSimpArgs false
set_option maxRecDepth 4000
namespace Go.Proofs.YtcegknecikbbkaaGreat
open Go.RowKit
structure SegM where
  (sock frm len stamp : Int) (again : Bool)
abbrev segV (s : SegM) : List Value := [.int .i64 s.sock, .int .u64 s.frm, .int .i64 s.len, .int .u64 s.stamp, .bool s.again]
structure CfgM where
  (quantum first limit flowLimit horizon maxRate : Int) (dropH : Bool) (cap mss : Int)
abbrev cfgV (c : CfgM) : List Value := [.int .i64 c.quantum, .int .i64 c.first, .int .i64 c.limit, .int .i64 c.flowLimit, .int .u64 c.horizon, .int .u64 c.maxRate, .bool c.dropH, .int .i64 c.cap, .int .i64 c.mss]
structure FlowM where
  (credit next since : Int) (segs : List SegM)
/-- A flow, and where it lies. -/
structure FlowA where
  (b : Nat) (m : FlowM) (a : Option Addr) (cp : Nat)
def sgs (l : List SegM) : List Value := l.flatMap segV
theorem sgs_len (l : List SegM) : (sgs l).length = l.length * 5 := by
  induction l with
  | nil => rfl
  | cons x r ih => unfold sgs at *; rw [List.flatMap_cons, List.length_append, ih]; simp; omega
theorem sgs_cons (x : SegM) (l : List SegM) : sgs (x :: l) = segV x ++ sgs l := rfl
theorem sgs_snoc (x : SegM) (l : List SegM) : sgs (l ++ [x]) = sgs l ++ segV x := by unfold sgs; rw [List.flatMap_append]; simp
abbrev flP (b : Nat) (cr nx si : Int) (a : Option Addr) (n cp : Nat) : Res := pts b [.int .i64 cr, .int .u64 nx, .int .u64 si, .slice a n cp] 106
abbrev flRow (a : Option Addr) (n cp : Nat) (l : List SegM) : Res := rowO a n cp 44 5 (sgs l)
def flowR (f : FlowA) : Res := grpR [flP f.b f.m.credit f.m.next f.m.since f.a f.m.segs.length f.cp, flRow f.a f.m.segs.length f.cp f.m.segs]
def flowsR (fl : List (Option FlowA)) : Res := grpR (fl.filterMap fun o => o.map flowR)
def ptrOf : Option FlowA → Value
  | none => .pointer none
  | some f => .pointer (some ⟨f.b, 0, none⟩)
section
variable {w0 w : World} {F : List Nat} {L : List Res} {fl : List (Option FlowA)} {k : Nat} {f : FlowA}
theorem flowOpen {b : Nat} {cr nx si : Int} {l : List SegM} {a : Option Addr} {cp n : Nat} (hn : l.length = n) : Sep w0 F (flowR ⟨b, ⟨cr, nx, si, l⟩, a, cp⟩ :: L) w ↔ Sep w0 F (flP b cr nx si a n cp :: flRow a n cp l :: L) w := by
  subst hn; exact (Sep.grp (l := [flP b cr nx si a l.length cp, flRow a l.length cp l])).symm
theorem flowsTake (h : fl[k]? = some (some f)) : Sep w0 F (flowsR fl :: L) w ↔ Sep w0 F (flowR f :: flowsR (fl.set k none) :: L) w := by
  have hk := (List.getElem?_eq_some_iff.1 h).1
  have e : fl = fl.take k ++ some f :: fl.drop (k + 1) := by
    have := List.take_append_drop k fl
    rw [List.drop_eq_getElem_cons hk, (List.getElem?_eq_some_iff.1 h).2] at this
    exact this.symm
  have e2 : fl.set k none = fl.take k ++ none :: fl.drop (k + 1) := by rw [List.set_eq_take_append_cons_drop, if_pos hk]
  have f1 : (fl.filterMap fun o => o.map flowR) = (fl.take k).filterMap (fun o => o.map flowR) ++ flowR f :: (fl.drop (k + 1)).filterMap (fun o => o.map flowR) := by
    conv => lhs; rw [e]
    rw [List.filterMap_append]; rfl
  have f2 : ((fl.set k none).filterMap fun o => o.map flowR) = (fl.take k).filterMap (fun o => o.map flowR) ++ (fl.drop (k + 1)).filterMap (fun o => o.map flowR) := by
    rw [e2, List.filterMap_append]; rfl
  have pm : ((fl.filterMap fun o => o.map flowR) ++ L).Perm (((fl.set k none).filterMap fun o => o.map flowR) ++ (flowR f :: L)) := by
    rw [f1, f2, List.append_assoc, List.append_assoc, List.cons_append]
    exact List.Perm.append_left _ List.perm_middle.symm
  unfold flowsR
  constructor
  · intro hS
    exact (Sep.grp.1 ((Sep.grp.2 hS).perm pm)).perm (.swap _ _ _)
  · intro hS
    exact Sep.grp.1 ((Sep.grp.2 (hS.perm (.swap _ _ _))).perm pm.symm)
end
/-- A queue, and where it lies. -/
structure QA where
  (c : CfgM) (fl : List (Option FlowA)) (lb tb : Nat) (fr ol : List Int) (la : LA) (n : Int)
def qC (c : CfgM) (fl : List (Option FlowA)) (lb tb : Nat) (n : Int) : List Value := cfgV c ++ (fl.map ptrOf ++ [.pointer (some ⟨lb, 0, none⟩), .pointer (some ⟨tb, 0, none⟩), .int .i64 n])
abbrev qP (b : Nat) (c : CfgM) (fl : List (Option FlowA)) (lb tb : Nat) (n : Int) : Res := pts b (qC c fl lb tb n) 103
def queueG (b : Nat) (q : QA) : Res := grpR [qP b q.c q.fl q.lb q.tb q.n, flowsR q.fl, lstG q.lb q.fr q.ol q.la]
theorem queueOpen {b : Nat} {c : CfgM} {fl : List (Option FlowA)} {lb tb : Nat} {fr ol : List Int} {la : LA} {n : Int} {w0 w : World} {F : List Nat} {L : List Res} :
    Sep w0 F (queueG b ⟨c, fl, lb, tb, fr, ol, la, n⟩ :: L) w ↔ Sep w0 F (qP b c fl lb tb n :: flowsR fl :: lstG lb fr ol la :: L) w := (Sep.grp (l := [qP b c fl lb tb n, flowsR fl, lstG lb fr ol la])).symm
section
variable {c : CfgM} {fl : List (Option FlowA)} {lb tb k : Nat} {n n' : Int} {x : Option FlowA}
theorem qC_len (h8 : fl.length = 8) : (qC c fl lb tb n).length = 20 := by simp [qC, h8]
theorem qC_lb (h8 : fl.length = 8) : (qC c fl lb tb n)[17]? = some (.pointer (some ⟨lb, 0, none⟩)) := by
  unfold qC; rw [List.getElem?_append_right (by simp), List.getElem?_append_right (by simp [h8])]; simp [h8]
theorem qC_tb (h8 : fl.length = 8) : (qC c fl lb tb n)[18]? = some (.pointer (some ⟨tb, 0, none⟩)) := by
  unfold qC; rw [List.getElem?_append_right (by simp), List.getElem?_append_right (by simp [h8])]; simp [h8]
theorem qC_n (h8 : fl.length = 8) : (qC c fl lb tb n)[19]? = some (.int .i64 n) := by
  unfold qC; rw [List.getElem?_append_right (by simp), List.getElem?_append_right (by simp [h8])]; simp [h8]
theorem qC_f (h : fl[k]? = some x) : (qC c fl lb tb n)[9 + k]? = some (ptrOf x) := by
  have hk := (List.getElem?_eq_some_iff.1 h).1
  unfold qC; rw [List.getElem?_append_right (by simp), List.getElem?_append_left (by simp; omega)]; simp [h]
theorem qC_setn (h8 : fl.length = 8) : (qC c fl lb tb n).set 19 (.int .i64 n') = qC c fl lb tb n' := by
  unfold qC
  rw [List.set_append_right _ _ (by simp), List.set_append_right _ _ (by simp [h8])]
  simp [h8]
theorem qC_setf (h8 : fl.length = 8) (hk : k < 8) : (qC c fl lb tb n).set (9 + k) (ptrOf x) = qC c (fl.set k x) lb tb n := by
  unfold qC
  rw [List.set_append_right _ _ (by simp), List.set_append_left _ _ (by simp; omega)]
  simp [List.map_set]
end
theorem qhas_ct (b : Nat) (q : QA) (h8 : q.fl.length = 8) (s : Nat) (x : Option FlowA) (hx : q.fl[s]? = some x) : Ct Tryz.prog 43 #[.pointer (some ⟨b, 0, none⟩), .int .i64 s] [queueG b q] (Gives (.bool x.isSome) [queueG b q]) := by
  obtain ⟨c, fl, lb, tb, fr, ol, la, n⟩ := q
  have hs : s < 8 := by have := (List.getElem?_eq_some_iff.1 hx).1; omega
  have hf := qC_f (c := c) (lb := lb) (tb := tb) (n := n) hx
  have kW := within_ct (s : Int) 0 7
  rw [decide_eq_true (show (0 : Int) ≤ s by omega), decide_eq_true (show (s : Int) ≤ 7 by omega)] at kW
  intro w0 F L w hS
  have hS := queueOpen.1 hS
  go_enter Tryz.func43, Tryz.ntmps43
  cases x
  all_goals
    unfold ptrOf at hf
    go_wp2_with (first | go_skip | (refine ck_load hS rfl rfl rfl (by (repeat (first | exact mH _ | apply mT)) <;> fail) rfl (by decide +kernel) ?_; simp only [Act.put, spA, spZ, spS]) | (go_at_call 46; with_reducible refine Ct.call0 (kW) hS ?_; clear hS; intro w hS) | (refine ck_load hS rfl rfl rfl (by (repeat (first | exact mH _ | apply mT)) <;> fail) hf (by decide +kernel) ?_; simp only [Act.put, spA, spZ, spS]))
    go_ret
    exact ⟨_, ⟨rfl, rfl⟩, queueOpen.2 hS⟩
section
variable {b : Nat} {c : CfgM} {fl : List (Option FlowA)} {lb tb s fb fc m : Nat} {fr ol : List Int} {la : LA} {n cr nx si : Int} {l : List SegM} {fa : Option Addr} {w0 w : World} {F : List Nat} {L : List Res}
/-- A queue, one of its flows at hand. -/
theorem queueOpenF (hf : fl[s]? = some (some ⟨fb, ⟨cr, nx, si, l⟩, fa, fc⟩)) (hm : l.length = m) : Sep w0 F (queueG b ⟨c, fl, lb, tb, fr, ol, la, n⟩ :: L) w ↔ Sep w0 F (qP b c fl lb tb n :: flP fb cr nx si fa m fc :: flRow fa m fc l :: flowsR (fl.set s none) :: lstG lb fr ol la :: L) w := by
  rw [queueOpen]
  constructor
  · intro h
    have h1 := (flowsTake hf).1 (h.perm (.swap _ _ _))
    have h2 := (flowOpen hm).1 h1
    exact h2.perm (by
      refine ((List.Perm.cons _ (.cons _ (.swap _ _ _))).trans ((List.Perm.cons _ (.swap _ _ _)).trans (.swap _ _ _)))) |>.perm (.refl _)
  · intro h
    have h1 : Sep w0 F (flP fb cr nx si fa m fc :: flRow fa m fc l :: flowsR (fl.set s none) :: qP b c fl lb tb n :: lstG lb fr ol la :: L) w := h.perm ((List.Perm.swap _ _ _).trans ((List.Perm.cons _ (.swap _ _ _)).trans (.cons _ (.cons _ (.swap _ _ _)))))
    exact ((flowsTake hf).2 ((flowOpen hm).2 h1)).perm (.swap _ _ _)
end
def timeOf (nx : Int) (l : List SegM) : Int := max nx (match l with | [] => 0 | x :: _ => x.stamp)
set_option maxHeartbeats 1000000 in
theorem ftime_ct (fb fc m : Nat) (cr nx si : Int) (x : SegM) (r : List SegM) (fa : Option Addr) (hm : (x :: r).length = m) : Ct Tryz.prog 55 #[.pointer (some ⟨fb, 0, none⟩)] [flP fb cr nx si fa m fc, flRow fa m fc (x :: r)] (Gives (.int .u64 (timeOf nx (x :: r))) [flP fb cr nx si fa m fc, flRow fa m fc (x :: r)]) := by
  intro w0 F L w hS
  simp only [List.cons_append, List.nil_append] at hS
  have hm0 : 0 < m := by rw [← hm]; simp
  obtain ⟨g, off, rfl⟩ := hS.rowOSome (a := fa) (n := m) (cap := fc) (e := 44) (sz := 5) (xs := sgs (x :: r)) (by (repeat (first | exact mH _ | apply mT)) <;> fail) hm0
  have hm0' : ¬ m = 0 := by omega
  show Calls _ _ _ w (CkR (Gives (.int .u64 (max nx x.stamp)) _) w0 F L)
  clear hm
  go_enter Tryz.func55, Tryz.ntmps55
  go_wp2_with (first | go_skip  | (refine ck_region (fun _ => 0) (fun _ => []) [] hS (by kernel_rfl) (by decide +kernel) ?_ ?_; exact ⟨fun _ _ _ h => h.2, fun _ _ h => h⟩; clear hS; intro w hS _; (repeat (first | (refine ckT_max rfl rfl rfl rfl ?_; simp only [Act.put, spA, spZ, spS]) | (refine ckT_min rfl rfl rfl rfl ?_; simp only [Act.put, spA, spZ, spS]) | (apply wpT_pure rfl rfl; (intro _; go_simp; (try (go_ints; (try go_simp))); (first | (rw [decide_eq_true]; omega) | (rw [decide_eq_false]; omega) | rfl | rw [if_pos (by omega)])); simp only [Act.put, spA, spZ, spS]) | (refine ckT_load hS rfl rfl rfl (by simp <;> fail) (by (repeat (first | exact mH _ | apply mT)) <;> fail) rfl (by decide +kernel) ?_; simp only [Act.put, spA, spZ, spS]) | (refine ckT_cel1 (v := .int .u64 x.stamp) (hS.celO (k := 3) (by (repeat (first | exact mH _ | apply mT)) <;> fail) rfl (by intro j v hj; cases j <;> simp at hj; subst hj; rfl)) rfl rfl rfl (by simp) (by decide +kernel) ?_; simp only [Act.put, spA, spZ, spS]))); refine wpT_nil ?_))
  go_ret
  exact ⟨_, ⟨rfl, rfl⟩, hS⟩
end Go.Proofs.YtcegknecikbbkaaGreat

/- A queue: place, idle, collect. -/
set_option linter.unusedVariables false
set_option linter.unusedSimpArgs false
set_option maxRecDepth 4000
namespace Go.Proofs.YtcegknecikbbkaaGreat
open Go.RowKit
def segsOf (x : Option FlowA) : List SegM := match x with | none => [] | some f => f.m.segs
def placeZ (fr ol : List Int) (x : Option FlowA) (s : Int) : Int := if plZ fr ol s = 0 then (if (segsOf x).isEmpty then 0 else 3) else plZ fr ol s
set_option maxHeartbeats 2000000 in
theorem qplace_ct (b : Nat) (q : QA) (h8 : q.fl.length = 8) (s : Nat) (x : Option FlowA) (hx : q.fl[s]? = some x) (hsm : q.fr.length + q.ol.length ≤ 1000) : Ct Tryz.prog 44 #[.pointer (some ⟨b, 0, none⟩), .int .i64 s] [queueG b q] (Gives (.int .i64 (placeZ q.fr q.ol x s)) [queueG b q]) := by
  obtain ⟨c, fl, lb, tb, fr, ol, la, n⟩ := q
  have hs : s < 8 := by have := (List.getElem?_eq_some_iff.1 hx).1; omega
  have hf := qC_f (c := c) (lb := lb) (tb := tb) (n := n) hx
  have hlb := qC_lb (c := c) (lb := lb) (tb := tb) (n := n) h8
  have kP := lstPlace_ct lb fr ol la s hsm
  show Ct _ _ _ _ (Gives (.int .i64 (placeZ fr ol x s)) _)
  unfold placeZ
  by_cases hp : plZ fr ol s = 0
  · rw [if_pos hp]
    rw [hp] at kP
    cases x with
    | none =>
      rw [show (segsOf none).isEmpty = true from rfl, if_pos rfl]
      clear hp
      intro w0 F L w hS
      have hS := queueOpen.1 hS
      unfold ptrOf at hf
      go_enter Tryz.func44, Tryz.ntmps44
      go_wp2_with (first | go_skip | (refine ck_load hS rfl rfl rfl (by (repeat (first | exact mH _ | apply mT)) <;> fail) rfl (by decide +kernel) ?_; simp only [Act.put, spA, spZ, spS]) | (go_at_call 77; (with_reducible refine Ct.callU (kP) (by (repeat (first | exact uH _ _ _ | apply uT)) <;> fail) hS ?_) <;> (first | (clear hS; intro w hS) | omega)) | (refine ck_load hS rfl rfl rfl (by (repeat (first | exact mH _ | apply mT)) <;> fail) hf (by decide +kernel) ?_; simp only [Act.put, spA, spZ, spS]) | (refine ck_load hS rfl rfl rfl (by (repeat (first | exact mH _ | apply mT)) <;> fail) hlb (by decide +kernel) ?_; simp only [Act.put, spA, spZ, spS]))
      go_ret
      exact ⟨_, ⟨rfl, rfl⟩, queueOpen.2 hS⟩
    | some f =>
      obtain ⟨fb, ⟨cr, nx, si, l⟩, fa, fc⟩ := f
      obtain ⟨m, hm⟩ : ∃ m, l.length = m := ⟨_, rfl⟩
      rw [show (segsOf (some ⟨fb, ⟨cr, nx, si, l⟩, fa, fc⟩)).isEmpty = decide (m = 0) by rw [← hm]; cases l <;> simp [segsOf]]
      have oF := fun {w0 w : World} {F : List Nat} {L : List Res} => queueOpenF (b := b) (c := c) (lb := lb) (tb := tb) (fr := fr) (ol := ol) (la := la) (n := n) (w0 := w0) (w := w) (F := F) (L := L) hx hm
      by_cases h0 : m = 0
      · rw [decide_eq_true h0, if_pos rfl]
        subst h0
        intro w0 F L w hS
        have hS := oF.1 hS
        unfold ptrOf at hf
        clear hp hx hm
        go_enter Tryz.func44, Tryz.ntmps44
        go_wp2_with (first | go_skip | (refine ck_load hS rfl rfl rfl (by (repeat (first | exact mH _ | apply mT)) <;> fail) rfl (by decide +kernel) ?_; simp only [Act.put, spA, spZ, spS]) | (go_at_call 77; (with_reducible refine Ct.callU (kP) (by (repeat (first | exact uH _ _ _ | apply uT)) <;> fail) hS ?_) <;> (first | (clear hS; intro w hS) | omega)) | (refine ck_load hS rfl rfl rfl (by (repeat (first | exact mH _ | apply mT)) <;> fail) hf (by decide +kernel) ?_; simp only [Act.put, spA, spZ, spS]) | (refine ck_load hS rfl rfl rfl (by (repeat (first | exact mH _ | apply mT)) <;> fail) hlb (by decide +kernel) ?_; simp only [Act.put, spA, spZ, spS]))
        go_ret
        exact ⟨_, ⟨rfl, rfl⟩, oF.2 hS⟩
      · rw [decide_eq_false h0, if_neg (by simp)]
        have h0' : 0 < m := by omega
        intro w0 F L w hS
        have hS := oF.1 hS
        unfold ptrOf at hf
        clear hp hx hm
        go_enter Tryz.func44, Tryz.ntmps44
        go_wp2_with (first | go_skip | (refine ck_load hS rfl rfl rfl (by (repeat (first | exact mH _ | apply mT)) <;> fail) rfl (by decide +kernel) ?_; simp only [Act.put, spA, spZ, spS]) | (go_at_call 77; (with_reducible refine Ct.callU (kP) (by (repeat (first | exact uH _ _ _ | apply uT)) <;> fail) hS ?_) <;> (first | (clear hS; intro w hS) | omega)) | (refine ck_load hS rfl rfl rfl (by (repeat (first | exact mH _ | apply mT)) <;> fail) hf (by decide +kernel) ?_; simp only [Act.put, spA, spZ, spS]) | (refine ck_load hS rfl rfl rfl (by (repeat (first | exact mH _ | apply mT)) <;> fail) hlb (by decide +kernel) ?_; simp only [Act.put, spA, spZ, spS]))
        go_ret
        exact ⟨_, ⟨rfl, rfl⟩, oF.2 hS⟩
  · rw [if_neg hp]
    have hp' : (plZ fr ol s == 0) = false := by simpa using hp
    generalize plZ fr ol s = pz at *
    clear hp hf
    intro w0 F L w hS
    have hS := queueOpen.1 hS
    go_enter Tryz.func44, Tryz.ntmps44
    go_wp2_with (first | go_skip | (refine ck_load hS rfl rfl rfl (by (repeat (first | exact mH _ | apply mT)) <;> fail) rfl (by decide +kernel) ?_; simp only [Act.put, spA, spZ, spS]) | (go_at_call 77; (with_reducible refine Ct.callU (kP) (by (repeat (first | exact uH _ _ _ | apply uT)) <;> fail) hS ?_) <;> (first | (clear hS; intro w hS) | omega)) | (refine ck_load hS rfl rfl rfl (by (repeat (first | exact mH _ | apply mT)) <;> fail) hlb (by decide +kernel) ?_; simp only [Act.put, spA, spZ, spS]))
    go_ret
    exact ⟨_, ⟨rfl, rfl⟩, queueOpen.2 hS⟩
/-- Is it there, nowhere, and was so for so long? -/
def idleZ (fr ol : List Int) (x : Option FlowA) (s long now : Int) : Bool := match x with
  | none => false
  | some f => decide (placeZ fr ol (some f) s = 0) && decide (satAdd f.m.since long ≤ now)
set_option maxHeartbeats 2000000 in
theorem qidle_ct (b : Nat) (q : QA) (h8 : q.fl.length = 8) (s : Nat) (x : Option FlowA) (hx : q.fl[s]? = some x) (hsm : q.fr.length + q.ol.length ≤ 1000) (long now : Int) (l0 : 0 ≤ long) (l1 : long ≤ 18446744073709551615) (hsi : ∀ f, x = some f → 0 ≤ f.m.since ∧ f.m.since ≤ 18446744073709551615) :
    Ct Tryz.prog 78 #[.pointer (some ⟨b, 0, none⟩), .int .i64 s, .int .u64 long, .int .u64 now] [queueG b q] (Gives (.bool (idleZ q.fr q.ol x s long now)) [queueG b q]) := by
  have kP := qplace_ct b q h8 s x hx hsm
  obtain ⟨c, fl, lb, tb, fr, ol, la, n⟩ := q
  have hs : s < 8 := by have := (List.getElem?_eq_some_iff.1 hx).1; omega
  have hf := qC_f (c := c) (lb := lb) (tb := tb) (n := n) hx
  show Ct _ _ _ _ (Gives (.bool (idleZ fr ol x s long now)) _)
  cases x with
  | none =>
    clear kP
    intro w0 F L w hS
    have hS := queueOpen.1 hS
    unfold ptrOf at hf
    go_enter Tryz.func78, Tryz.ntmps78
    go_wp2_with (first | go_skip | (refine ck_load hS rfl rfl rfl (by (repeat (first | exact mH _ | apply mT)) <;> fail) rfl (by decide +kernel) ?_; simp only [Act.put, spA, spZ, spS]) | (refine ck_load hS rfl rfl rfl (by (repeat (first | exact mH _ | apply mT)) <;> fail) hf (by decide +kernel) ?_; simp only [Act.put, spA, spZ, spS]))
    go_ret
    exact ⟨_, ⟨rfl, rfl⟩, queueOpen.2 hS⟩
  | some f =>
    obtain ⟨fb, ⟨cr, nx, si, l⟩, fa, fc⟩ := f
    obtain ⟨m, hm⟩ : ∃ m, l.length = m := ⟨_, rfl⟩
    have oF := fun {w0 w : World} {F : List Nat} {L : List Res} => queueOpenF (b := b) (c := c) (lb := lb) (tb := tb) (fr := fr) (ol := ol) (la := la) (n := n) (w0 := w0) (w := w) (F := F) (L := L) hx hm
    obtain ⟨s0, s1⟩ := hsi _ rfl
    have kA := satAdd_ct si long s0 s1 l0 l1
    unfold idleZ
    show Ct _ _ _ _ (Gives (.bool (decide (placeZ fr ol _ s = 0) && decide (satAdd si long ≤ now))) _)
    dsimp only at kP
    generalize placeZ fr ol (some ⟨fb, ⟨cr, nx, si, l⟩, fa, fc⟩) s = pz at *
    generalize satAdd si long = sa at *
    intro w0 F L w hS
    have hS := queueOpen.1 hS
    unfold ptrOf at hf
    by_cases hp : pz = 0
    · rw [decide_eq_true hp, Bool.true_and]
      have hp' : (pz == 0) = true := by simpa using hp
      have aF := fun {w : World} (h : Sep w0 F (queueG b ⟨c, fl, lb, tb, fr, ol, la, n⟩ :: L) w) => oF.1 h
      clear hp hx hm
      go_enter Tryz.func78, Tryz.ntmps78
      go_wp2_with (first | go_skip | (refine ck_load hS rfl rfl rfl (by (repeat (first | exact mH _ | apply mT)) <;> fail) rfl (by decide +kernel) ?_; simp only [Act.put, spA, spZ, spS]) | (refine ck_load hS rfl rfl rfl (by (repeat (first | exact mH _ | apply mT)) <;> fail) hf (by decide +kernel) ?_; simp only [Act.put, spA, spZ, spS]) | (have hS0 := queueOpen.2 hS; go_at_call 44; (refine Ct.callG (kP) hS0 ?_); clear hS hS0; intro w hS0; have hS := aF hS0; clear hS0) | (go_at_call 79; with_reducible refine Ct.call0 (kA) hS ?_; clear hS; intro w hS))
      go_ret
      exact ⟨_, ⟨rfl, rfl⟩, oF.2 hS⟩
    · rw [decide_eq_false hp, Bool.false_and]
      have hp' : (pz == 0) = false := by simpa using hp
      clear hp hx hm
      go_enter Tryz.func78, Tryz.ntmps78
      go_wp2_with (first | go_skip | (refine ck_load hS rfl rfl rfl (by (repeat (first | exact mH _ | apply mT)) <;> fail) rfl (by decide +kernel) ?_; simp only [Act.put, spA, spZ, spS]) | (refine ck_load hS rfl rfl rfl (by (repeat (first | exact mH _ | apply mT)) <;> fail) hf (by decide +kernel) ?_; simp only [Act.put, spA, spZ, spS]) | (have hS0 := queueOpen.2 hS; go_at_call 44; (refine Ct.callG (kP) hS0 ?_); clear hS hS0; intro w hS0; have hS := queueOpen.1 hS0; clear hS0))
      go_ret
      exact ⟨_, ⟨rfl, rfl⟩, queueOpen.2 hS⟩
end Go.Proofs.YtcegknecikbbkaaGreat

/- A queue: collect, fate. -/
set_option linter.unusedVariables false
set_option linter.unusedSimpArgs false
set_option maxRecDepth 4000
namespace Go.Proofs.YtcegknecikbbkaaGreat
open Go.RowKit
/-- A flow that is nowhere for long goes. -/
def colOne (fr ol : List Int) (now : Int) (s : Nat) (x : Option FlowA) : Option FlowA := if idleZ fr ol x s 3000000000 now then none else x
def colN (fr ol : List Int) (now : Int) (k : Nat) (fl : List (Option FlowA)) : List (Option FlowA) := fl.mapIdx fun i x => if i < k then colOne fr ol now i x else x
theorem colN_zero {fr ol : List Int} {now : Int} {fl : List (Option FlowA)} : colN fr ol now 0 fl = fl := by unfold colN; apply List.ext_getElem? ; intro i; rw [List.getElem?_mapIdx]; cases fl[i]? <;> rfl
theorem colN_len {fr ol : List Int} {now : Int} {k : Nat} {fl : List (Option FlowA)} : (colN fr ol now k fl).length = fl.length := by unfold colN; simp
theorem colN_get {fr ol : List Int} {now : Int} {k : Nat} {fl : List (Option FlowA)} {x : Option FlowA} (h : fl[k]? = some x) : (colN fr ol now k fl)[k]? = some x := by unfold colN; rw [List.getElem?_mapIdx, h]; simp
theorem colN_succ {fr ol : List Int} {now : Int} {k : Nat} {fl : List (Option FlowA)} {x : Option FlowA} (h : fl[k]? = some x) : colN fr ol now (k + 1) fl = (colN fr ol now k fl).set k (colOne fr ol now k x) := by
  apply List.ext_getElem?
  intro i
  by_cases hi : i = k
  · subst hi
    have hl : i < (colN fr ol now i fl).length := by rw [colN_len]; exact (List.getElem?_eq_some_iff.1 h).1
    rw [List.getElem?_set_self hl]
    unfold colN; rw [List.getElem?_mapIdx, h]; simp
  · rw [List.getElem?_set_ne (Ne.symm hi)]
    unfold colN; rw [List.getElem?_mapIdx, List.getElem?_mapIdx]
    cases fl[i]? with
    | none => rfl
    | some y =>
      simp only [Option.map_some]
      by_cases h1 : i < k
      · rw [if_pos (by omega), if_pos h1]
      · rw [if_neg (by omega), if_neg h1]
/-- What is so of a queue's flows. -/
def flOk (fl : List (Option FlowA)) : Prop := fl.length = 8 ∧ ∀ (k : Nat) (f : FlowA), fl[k]? = some (some f) → 0 ≤ f.m.since ∧ f.m.since ≤ 18446744073709551615 ∧ 0 ≤ f.m.next ∧ f.m.next ≤ 18446744073709551615
theorem colN_some {fr ol : List Int} {now : Int} {k i : Nat} {fl : List (Option FlowA)} {f : FlowA} (h : (colN fr ol now k fl)[i]? = some (some f)) : fl[i]? = some (some f) := by
  unfold colN at h
  rw [List.getElem?_mapIdx] at h
  cases hx : fl[i]? with
  | none => rw [hx] at h; simp at h
  | some y =>
    rw [hx] at h
    simp only [Option.map_some, Option.some.injEq] at h
    by_cases h1 : i < k
    · rw [if_pos h1] at h
      unfold colOne at h
      by_cases h2 : idleZ fr ol y i 3000000000 now = true
      · rw [if_pos h2] at h; cases h
      · rw [if_neg h2] at h; rw [h]
    · rw [if_neg h1] at h; rw [h]
theorem colN_ok {fr ol : List Int} {now : Int} {k : Nat} {fl : List (Option FlowA)} (h : flOk fl) : flOk (colN fr ol now k fl) := ⟨by rw [colN_len]; exact h.1, fun i f hf => h.2 i f (colN_some hf)⟩
section
variable {b : Nat} {c : CfgM} {fl : List (Option FlowA)} {lb tb s : Nat} {fr ol : List Int} {la : LA} {n : Int} {w0 w : World} {F : List Nat} {L : List Res} {x : Option FlowA}
/-- A flow is let go. -/
theorem queueGone (hx : fl[s]? = some x) (h : Sep w0 F (qP b c (fl.set s none) lb tb n :: flowsR fl :: lstG lb fr ol la :: L) w) : Sep w0 F (queueG b ⟨c, fl.set s none, lb, tb, fr, ol, la, n⟩ :: L) w := by
  cases x with
  | none =>
    have e : fl.set s none = fl := by
      apply List.ext_getElem?
      intro i
      by_cases hi : i = s
      · subst hi
        rw [List.getElem?_set_self (List.getElem?_eq_some_iff.1 hx).1, hx]
      · rw [List.getElem?_set_ne (Ne.symm hi)]
    rw [e] at h ⊢
    exact queueOpen.2 h
  | some f =>
    have h1 := ((flowsTake hx).1 (h.perm (.swap _ _ _))).drop
    exact queueOpen.2 (h1.perm (.swap _ _ _))
end
set_option maxHeartbeats 2000000 in
theorem qcollect_ct (b : Nat) (c : CfgM) (fl : List (Option FlowA)) (lb tb : Nat) (fr ol : List Int) (la : LA) (n : Int) (hok : flOk fl) (hsm : fr.length + ol.length ≤ 1000) (now : Int) :
    Ct Tryz.prog 47 #[.pointer (some ⟨b, 0, none⟩), .int .u64 now] [queueG b ⟨c, fl, lb, tb, fr, ol, la, n⟩] (Gives (.tuple #[]) [queueG b ⟨c, colN fr ol now 8 fl, lb, tb, fr, ol, la, n⟩]) := by
  intro w0 F L w hS
  simp only [List.cons_append, List.nil_append] at hS
  go_enter Tryz.func47, Tryz.ntmps47
  go_wp2_with (first | go_skip | (refine ck_store hS rfl rfl rfl (by constructor) (by (repeat (first | exact uH _ _ _ | apply uT)) <;> fail) (by simp <;> omega) rfl (by decide +kernel) ?_; clear hS; intro w hS; simp only [Act.put, spA, spZ, spS] at hS ⊢) )
  go_loopg [5] 9 (fun g s5 wx => ∃ k : Nat, k + g = 9 ∧ k ≤ 8 ∧ s5 = .int .i64 k ∧ Sep w0 F (queueG b ⟨c, colN fr ol now k fl, lb, tb, fr, ol, la, n⟩ :: L) wx)
  case atStart => exact ⟨0, by omega, by omega, rfl, by rw [colN_zero]; exact hS⟩
  case round =>
    obtain ⟨k, hkg, hk8, rfl, hS⟩ := hrel
    generalize wr = w at hS ⊢
    by_cases hk : k < 8
    · obtain ⟨x, hx0⟩ : ∃ x, fl[k]? = some x := ⟨fl[k]'(by rw [hok.1]; exact hk), List.getElem?_eq_getElem _⟩
      have hx := colN_get (fr := fr) (ol := ol) (now := now) hx0
      have hs := colN_succ (fr := fr) (ol := ol) (now := now) hx0
      have hok2 := colN_ok (fr := fr) (ol := ol) (now := now) (k := k) hok
      have kI := qidle_ct b ⟨c, colN fr ol now k fl, lb, tb, fr, ol, la, n⟩ hok2.1 k x hx hsm 3000000000 now (by omega) (by omega) (fun f hf => ⟨(hok2.2 k f (by rw [hx, hf])).1, (hok2.2 k f (by rw [hx, hf])).2.1⟩)
      dsimp only at kI
      have hset := qC_setf (c := c) (lb := lb) (tb := tb) (n := n) (x := none) hok2.1 hk
      have hlen := qC_len (c := c) (lb := lb) (tb := tb) (n := n) hok2.1
      unfold ptrOf at hset
      unfold colOne at hs
      generalize colN fr ol now k fl = fl1 at *
      cases hi : idleZ fr ol x k 3000000000 now
      · rw [hi] at kI hs
        simp only [Bool.false_eq_true, if_false] at hs
        have hs2 : colN fr ol now (k + 1) fl = fl1 := by
          rw [hs]
          apply List.ext_getElem?
          intro i
          by_cases hik : i = k
          · subst hik; rw [List.getElem?_set_self (List.getElem?_eq_some_iff.1 hx).1, hx]
          · rw [List.getElem?_set_ne (Ne.symm hik)]
        clear hs hi hx0 hset hlen
        go_wp2_with (first | go_skip | (refine ck_store hS rfl rfl rfl (by constructor) (by (repeat (first | exact uH _ _ _ | apply uT)) <;> fail) (by simp <;> omega) rfl (by decide +kernel) ?_; clear hS; intro w hS; simp only [Act.put, spA, spZ, spS] at hS ⊢) | (go_at_call 78; (with_reducible refine Ct.callU (kI) (by (repeat (first | exact uH _ _ _ | apply uT)) <;> fail) hS ?_) <;> (first | (clear hS; intro w hS) | omega)))
        go_roundg (8 - k)
        case rel => exact ⟨k + 1, by omega, by omega, by go_num, by rw [hs2]; exact hS⟩
        case measure => omega
      · rw [hi] at kI hs
        simp only [if_true] at hs
        clear hi hx0
        go_wp2_with (first | go_skip | (refine ck_store hS rfl rfl rfl (by constructor) (by (repeat (first | exact uH _ _ _ | apply uT)) <;> fail) (by simp <;> omega) rfl (by decide +kernel) ?_; clear hS; intro w hS; simp only [Act.put, spA, spZ, spS] at hS ⊢) | (go_at_call 78; (with_reducible refine Ct.callU (kI) (by (repeat (first | exact uH _ _ _ | apply uT)) <;> fail) hS ?_); clear hS; intro w hS; have hS := queueOpen.1 hS) | (refine ck_store hS rfl rfl rfl (by constructor) (by (repeat (first | exact uH _ _ _ | apply uT)) <;> fail) (by rw [hlen]; omega) rfl (by decide +kernel) ?_; clear hS; intro w hS; rw [hset] at hS; simp only [Act.put, spA, spZ, spS]))
        go_roundg (8 - k)
        case rel => exact ⟨k + 1, by omega, by omega, by go_num, by rw [hs]; exact queueGone hx hS⟩
        case measure => omega
    · have hk' : k = 8 := by omega
      subst hk'
      go_wp2_with (first | go_skip | (refine ck_store hS rfl rfl rfl (by constructor) (by (repeat (first | exact uH _ _ _ | apply uT)) <;> fail) (by simp <;> omega) rfl (by decide +kernel) ?_; clear hS; intro w hS; simp only [Act.put, spA, spZ, spS] at hS ⊢) )
      refine bodyPost_end (results_none rfl _ _ _) rfl ?_
      exact ⟨_, ⟨rfl, rfl⟩, hS⟩
/-- A segment's fate. -/
def fateZ (c : CfgM) (x : Option FlowA) (n stamp now : Int) : Int :=
  if c.limit ≤ n then 2 else if x.isSome = true ∧ c.flowLimit ≤ (segsOf x).length then 3 else if satAdd now c.horizon < stamp ∧ c.dropH = true then 4 else 0
def fateSeg (c : CfgM) (x : Option FlowA) (n now : Int) (s : SegM) : SegM := if fateZ c x n s.stamp now = 0 then { s with stamp := min s.stamp (satAdd now c.horizon) } else s
set_option maxHeartbeats 4000000 in
theorem qfate_ct (b sp : Nat) (c : CfgM) (fl : List (Option FlowA)) (lb tb : Nat) (fr ol : List Int) (la : LA) (n : Int) (hok : flOk fl) (sg : SegM) (now : Int) (s : Nat) (hs : sg.sock = s) (x : Option FlowA) (hx : fl[s]? = some x) (n0 : 0 ≤ now) (n1 : now ≤ 18446744073709551615) (z0 : 0 ≤ c.horizon) (z1 : c.horizon ≤ 18446744073709551615) :
    Ct Tryz.prog 48 #[.pointer (some ⟨b, 0, none⟩), .pointer (some ⟨sp, 0, none⟩), .int .u64 now] [queueG b ⟨c, fl, lb, tb, fr, ol, la, n⟩, pts sp (segV sg) 44]
      (Gives (.int .i64 (fateZ c x n sg.stamp now)) [queueG b ⟨c, fl, lb, tb, fr, ol, la, n⟩, pts sp (segV (fateSeg c x n now sg)) 44]) := by
  obtain ⟨sock, frm, len, stamp, again⟩ := sg
  obtain rfl : sock = s := hs
  have h8 := hok.1
  have hs8 : s < 8 := by have := (List.getElem?_eq_some_iff.1 hx).1; omega
  have hf := qC_f (c := c) (lb := lb) (tb := tb) (n := n) hx
  have hn := qC_n (c := c) (lb := lb) (tb := tb) (n := n) h8
  have kA := satAdd_ct now c.horizon n0 n1 z0 z1
  obtain ⟨qn, fs, lim, flim, hz, mr, dh, cap, mss⟩ := c
  dsimp only at kA
  show Ct _ _ _ _ (Gives (.int .i64 (fateZ _ x n stamp now)) _)
  unfold fateSeg
  dsimp only
  unfold fateZ
  dsimp only
  generalize satAdd now hz = sa at *
  by_cases h1 : lim ≤ n
  · rw [if_pos h1, if_neg (by omega)]
    intro w0 F L w hS
    simp only [List.cons_append, List.nil_append] at hS
    have hS := queueOpen.1 hS
    go_enter Tryz.func48, Tryz.ntmps48
    go_wp2_with (first | go_skip | (refine ck_load hS rfl rfl rfl (by (repeat (first | exact mH _ | apply mT)) <;> fail) rfl (by decide +kernel) ?_; simp only [Act.put, spA, spZ, spS]) | (refine ck_store hS rfl rfl rfl (by constructor) (by (repeat (first | exact uH _ _ _ | apply uT)) <;> fail) (by simp <;> omega) rfl (by decide +kernel) ?_; clear hS; intro w hS; simp only [Act.put, spA, spZ, spS] at hS ⊢) | (refine ck_max rfl rfl rfl rfl ?_; simp only [Act.put, spA, spZ, spS]) | (refine ck_min rfl rfl rfl rfl ?_; simp only [Act.put, spA, spZ, spS]) | (go_at_call 79; with_reducible refine Ct.call0 (kA) hS ?_; clear hS; intro w hS) | (refine ck_load hS rfl rfl rfl (by (repeat (first | exact mH _ | apply mT)) <;> fail) hf (by decide +kernel) ?_; simp only [Act.put, spA, spZ, spS]) | (refine ck_load hS rfl rfl rfl (by (repeat (first | exact mH _ | apply mT)) <;> fail) hn (by decide +kernel) ?_; simp only [Act.put, spA, spZ, spS]) | (refine ck_region (fun _ => 0) (fun _ => []) [] hS (by kernel_rfl) (by decide +kernel) ?_ ?_; exact ⟨fun _ _ _ h => h.2, fun _ _ h => h⟩; clear hS; intro w hS _; (repeat (first | (apply wpT_pure rfl rfl; (intro _; go_simp; (try (go_ints; (try go_simp))); (first | (rw [decide_eq_true]; omega) | (rw [decide_eq_false]; omega) | rfl | rw [if_pos (by omega)])); simp only [Act.put, spA, spZ, spS]) | (refine ckT_load hS rfl rfl rfl (by simp <;> fail) (by (repeat (first | exact mH _ | apply mT)) <;> fail) rfl (by decide +kernel) ?_; simp only [Act.put, spA, spZ, spS]) | (refine wpT_skip rfl ?_; simp only [Act.put, spA, spZ, spS]) | (refine ckT_load hS rfl rfl rfl (by simp <;> fail) (by (repeat (first | exact mH _ | apply mT)) <;> fail) hf (by decide +kernel) ?_; simp only [Act.put, spA, spZ, spS]) | (refine ckT_load hS rfl rfl rfl (by simp <;> fail) (by (repeat (first | exact mH _ | apply mT)) <;> fail) hn (by decide +kernel) ?_; simp only [Act.put, spA, spZ, spS]))); refine wpT_nil ?_))
    go_ret
    exact ⟨_, ⟨rfl, rfl⟩, queueOpen.2 hS⟩
  · rw [if_neg h1]
    cases x with
    | none =>
      rw [if_neg (by simp)]
      unfold ptrOf at hf
      by_cases h3 : sa < stamp
      · cases dh
        · rw [if_neg (by simp), if_pos rfl]
          intro w0 F L w hS
          simp only [List.cons_append, List.nil_append] at hS
          have hS := queueOpen.1 hS
          go_enter Tryz.func48, Tryz.ntmps48
          go_wp2_with (first | go_skip | (refine ck_load hS rfl rfl rfl (by (repeat (first | exact mH _ | apply mT)) <;> fail) rfl (by decide +kernel) ?_; simp only [Act.put, spA, spZ, spS]) | (refine ck_store hS rfl rfl rfl (by constructor) (by (repeat (first | exact uH _ _ _ | apply uT)) <;> fail) (by simp <;> omega) rfl (by decide +kernel) ?_; clear hS; intro w hS; simp only [Act.put, spA, spZ, spS] at hS ⊢) | (refine ck_max rfl rfl rfl rfl ?_; simp only [Act.put, spA, spZ, spS]) | (refine ck_min rfl rfl rfl rfl ?_; simp only [Act.put, spA, spZ, spS]) | (go_at_call 79; with_reducible refine Ct.call0 (kA) hS ?_; clear hS; intro w hS) | (refine ck_load hS rfl rfl rfl (by (repeat (first | exact mH _ | apply mT)) <;> fail) hf (by decide +kernel) ?_; simp only [Act.put, spA, spZ, spS]) | (refine ck_load hS rfl rfl rfl (by (repeat (first | exact mH _ | apply mT)) <;> fail) hn (by decide +kernel) ?_; simp only [Act.put, spA, spZ, spS]) | (refine ck_region (fun _ => 0) (fun _ => []) [] hS (by kernel_rfl) (by decide +kernel) ?_ ?_; exact ⟨fun _ _ _ h => h.2, fun _ _ h => h⟩; clear hS; intro w hS _; (repeat (first | (apply wpT_pure rfl rfl; (intro _; go_simp; (try (go_ints; (try go_simp))); (first | (rw [decide_eq_true]; omega) | (rw [decide_eq_false]; omega) | rfl | rw [if_pos (by omega)])); simp only [Act.put, spA, spZ, spS]) | (refine ckT_load hS rfl rfl rfl (by simp <;> fail) (by (repeat (first | exact mH _ | apply mT)) <;> fail) rfl (by decide +kernel) ?_; simp only [Act.put, spA, spZ, spS]) | (refine wpT_skip rfl ?_; simp only [Act.put, spA, spZ, spS]) | (refine ckT_load hS rfl rfl rfl (by simp <;> fail) (by (repeat (first | exact mH _ | apply mT)) <;> fail) hf (by decide +kernel) ?_; simp only [Act.put, spA, spZ, spS]) | (refine ckT_load hS rfl rfl rfl (by simp <;> fail) (by (repeat (first | exact mH _ | apply mT)) <;> fail) hn (by decide +kernel) ?_; simp only [Act.put, spA, spZ, spS]))); refine wpT_nil ?_))
          go_ret
          exact ⟨_, ⟨rfl, rfl⟩, queueOpen.2 hS⟩
        · rw [if_pos ⟨h3, rfl⟩, if_neg (by omega)]
          intro w0 F L w hS
          simp only [List.cons_append, List.nil_append] at hS
          have hS := queueOpen.1 hS
          go_enter Tryz.func48, Tryz.ntmps48
          go_wp2_with (first | go_skip | (refine ck_load hS rfl rfl rfl (by (repeat (first | exact mH _ | apply mT)) <;> fail) rfl (by decide +kernel) ?_; simp only [Act.put, spA, spZ, spS]) | (refine ck_store hS rfl rfl rfl (by constructor) (by (repeat (first | exact uH _ _ _ | apply uT)) <;> fail) (by simp <;> omega) rfl (by decide +kernel) ?_; clear hS; intro w hS; simp only [Act.put, spA, spZ, spS] at hS ⊢) | (refine ck_max rfl rfl rfl rfl ?_; simp only [Act.put, spA, spZ, spS]) | (refine ck_min rfl rfl rfl rfl ?_; simp only [Act.put, spA, spZ, spS]) | (go_at_call 79; with_reducible refine Ct.call0 (kA) hS ?_; clear hS; intro w hS) | (refine ck_load hS rfl rfl rfl (by (repeat (first | exact mH _ | apply mT)) <;> fail) hf (by decide +kernel) ?_; simp only [Act.put, spA, spZ, spS]) | (refine ck_load hS rfl rfl rfl (by (repeat (first | exact mH _ | apply mT)) <;> fail) hn (by decide +kernel) ?_; simp only [Act.put, spA, spZ, spS]) | (refine ck_region (fun _ => 0) (fun _ => []) [] hS (by kernel_rfl) (by decide +kernel) ?_ ?_; exact ⟨fun _ _ _ h => h.2, fun _ _ h => h⟩; clear hS; intro w hS _; (repeat (first | (apply wpT_pure rfl rfl; (intro _; go_simp; (try (go_ints; (try go_simp))); (first | (rw [decide_eq_true]; omega) | (rw [decide_eq_false]; omega) | rfl | rw [if_pos (by omega)])); simp only [Act.put, spA, spZ, spS]) | (refine ckT_load hS rfl rfl rfl (by simp <;> fail) (by (repeat (first | exact mH _ | apply mT)) <;> fail) rfl (by decide +kernel) ?_; simp only [Act.put, spA, spZ, spS]) | (refine wpT_skip rfl ?_; simp only [Act.put, spA, spZ, spS]) | (refine ckT_load hS rfl rfl rfl (by simp <;> fail) (by (repeat (first | exact mH _ | apply mT)) <;> fail) hf (by decide +kernel) ?_; simp only [Act.put, spA, spZ, spS]) | (refine ckT_load hS rfl rfl rfl (by simp <;> fail) (by (repeat (first | exact mH _ | apply mT)) <;> fail) hn (by decide +kernel) ?_; simp only [Act.put, spA, spZ, spS]))); refine wpT_nil ?_))
          go_ret
          exact ⟨_, ⟨rfl, rfl⟩, queueOpen.2 hS⟩
      · rw [if_neg (fun h => h3 h.1), if_pos rfl]
        intro w0 F L w hS
        simp only [List.cons_append, List.nil_append] at hS
        have hS := queueOpen.1 hS
        go_enter Tryz.func48, Tryz.ntmps48
        go_wp2_with (first | go_skip | (refine ck_load hS rfl rfl rfl (by (repeat (first | exact mH _ | apply mT)) <;> fail) rfl (by decide +kernel) ?_; simp only [Act.put, spA, spZ, spS]) | (refine ck_store hS rfl rfl rfl (by constructor) (by (repeat (first | exact uH _ _ _ | apply uT)) <;> fail) (by simp <;> omega) rfl (by decide +kernel) ?_; clear hS; intro w hS; simp only [Act.put, spA, spZ, spS] at hS ⊢) | (refine ck_max rfl rfl rfl rfl ?_; simp only [Act.put, spA, spZ, spS]) | (refine ck_min rfl rfl rfl rfl ?_; simp only [Act.put, spA, spZ, spS]) | (go_at_call 79; with_reducible refine Ct.call0 (kA) hS ?_; clear hS; intro w hS) | (refine ck_load hS rfl rfl rfl (by (repeat (first | exact mH _ | apply mT)) <;> fail) hf (by decide +kernel) ?_; simp only [Act.put, spA, spZ, spS]) | (refine ck_load hS rfl rfl rfl (by (repeat (first | exact mH _ | apply mT)) <;> fail) hn (by decide +kernel) ?_; simp only [Act.put, spA, spZ, spS]) | (refine ck_region (fun _ => 0) (fun _ => []) [] hS (by kernel_rfl) (by decide +kernel) ?_ ?_; exact ⟨fun _ _ _ h => h.2, fun _ _ h => h⟩; clear hS; intro w hS _; (repeat (first | (apply wpT_pure rfl rfl; (intro _; go_simp; (try (go_ints; (try go_simp))); (first | (rw [decide_eq_true]; omega) | (rw [decide_eq_false]; omega) | rfl | rw [if_pos (by omega)])); simp only [Act.put, spA, spZ, spS]) | (refine ckT_load hS rfl rfl rfl (by simp <;> fail) (by (repeat (first | exact mH _ | apply mT)) <;> fail) rfl (by decide +kernel) ?_; simp only [Act.put, spA, spZ, spS]) | (refine wpT_skip rfl ?_; simp only [Act.put, spA, spZ, spS]) | (refine ckT_load hS rfl rfl rfl (by simp <;> fail) (by (repeat (first | exact mH _ | apply mT)) <;> fail) hf (by decide +kernel) ?_; simp only [Act.put, spA, spZ, spS]) | (refine ckT_load hS rfl rfl rfl (by simp <;> fail) (by (repeat (first | exact mH _ | apply mT)) <;> fail) hn (by decide +kernel) ?_; simp only [Act.put, spA, spZ, spS]))); refine wpT_nil ?_))
        go_ret
        exact ⟨_, ⟨rfl, rfl⟩, queueOpen.2 hS⟩
    | some f =>
      obtain ⟨fb, ⟨cr, nx, si, l⟩, fa, fc⟩ := f
      obtain ⟨m, hm⟩ : ∃ m, l.length = m := ⟨_, rfl⟩
      have oF := fun {w0 w : World} {F : List Nat} {L : List Res} => queueOpenF (b := b) (c := ⟨qn, fs, lim, flim, hz, mr, dh, cap, mss⟩) (lb := lb) (tb := tb) (fr := fr) (ol := ol) (la := la) (n := n) (w0 := w0) (w := w) (F := F) (L := L) hx hm
      rw [show (segsOf (some ⟨fb, ⟨cr, nx, si, l⟩, fa, fc⟩)).length = m from hm]
      unfold ptrOf at hf
      clear hx hm
      by_cases h2 : flim ≤ (m : Int)
      · rw [if_pos ⟨rfl, h2⟩, if_neg (by omega)]
        intro w0 F L w hS
        simp only [List.cons_append, List.nil_append] at hS
        have hS := oF.1 hS
        go_enter Tryz.func48, Tryz.ntmps48
        go_wp2_with (first | go_skip | (refine ck_load hS rfl rfl rfl (by (repeat (first | exact mH _ | apply mT)) <;> fail) rfl (by decide +kernel) ?_; simp only [Act.put, spA, spZ, spS]) | (refine ck_store hS rfl rfl rfl (by constructor) (by (repeat (first | exact uH _ _ _ | apply uT)) <;> fail) (by simp <;> omega) rfl (by decide +kernel) ?_; clear hS; intro w hS; simp only [Act.put, spA, spZ, spS] at hS ⊢) | (refine ck_max rfl rfl rfl rfl ?_; simp only [Act.put, spA, spZ, spS]) | (refine ck_min rfl rfl rfl rfl ?_; simp only [Act.put, spA, spZ, spS]) | (go_at_call 79; with_reducible refine Ct.call0 (kA) hS ?_; clear hS; intro w hS) | (refine ck_load hS rfl rfl rfl (by (repeat (first | exact mH _ | apply mT)) <;> fail) hf (by decide +kernel) ?_; simp only [Act.put, spA, spZ, spS]) | (refine ck_load hS rfl rfl rfl (by (repeat (first | exact mH _ | apply mT)) <;> fail) hn (by decide +kernel) ?_; simp only [Act.put, spA, spZ, spS]) | (refine ck_region (fun _ => 0) (fun _ => []) [] hS (by kernel_rfl) (by decide +kernel) ?_ ?_; exact ⟨fun _ _ _ h => h.2, fun _ _ h => h⟩; clear hS; intro w hS _; (repeat (first | (apply wpT_pure rfl rfl; (intro _; go_simp; (try (go_ints; (try go_simp))); (first | (rw [decide_eq_true]; omega) | (rw [decide_eq_false]; omega) | rfl | rw [if_pos (by omega)])); simp only [Act.put, spA, spZ, spS]) | (refine ckT_load hS rfl rfl rfl (by simp <;> fail) (by (repeat (first | exact mH _ | apply mT)) <;> fail) rfl (by decide +kernel) ?_; simp only [Act.put, spA, spZ, spS]) | (refine wpT_skip rfl ?_; simp only [Act.put, spA, spZ, spS]) | (refine ckT_load hS rfl rfl rfl (by simp <;> fail) (by (repeat (first | exact mH _ | apply mT)) <;> fail) hf (by decide +kernel) ?_; simp only [Act.put, spA, spZ, spS]) | (refine ckT_load hS rfl rfl rfl (by simp <;> fail) (by (repeat (first | exact mH _ | apply mT)) <;> fail) hn (by decide +kernel) ?_; simp only [Act.put, spA, spZ, spS]))); refine wpT_nil ?_))
        go_ret
        exact ⟨_, ⟨rfl, rfl⟩, oF.2 hS⟩
      · rw [if_neg (fun h => h2 h.2)]
        by_cases h3 : sa < stamp
        · cases dh
          · rw [if_neg (by simp), if_pos rfl]
            intro w0 F L w hS
            simp only [List.cons_append, List.nil_append] at hS
            have hS := oF.1 hS
            go_enter Tryz.func48, Tryz.ntmps48
            go_wp2_with (first | go_skip | (refine ck_load hS rfl rfl rfl (by (repeat (first | exact mH _ | apply mT)) <;> fail) rfl (by decide +kernel) ?_; simp only [Act.put, spA, spZ, spS]) | (refine ck_store hS rfl rfl rfl (by constructor) (by (repeat (first | exact uH _ _ _ | apply uT)) <;> fail) (by simp <;> omega) rfl (by decide +kernel) ?_; clear hS; intro w hS; simp only [Act.put, spA, spZ, spS] at hS ⊢) | (refine ck_max rfl rfl rfl rfl ?_; simp only [Act.put, spA, spZ, spS]) | (refine ck_min rfl rfl rfl rfl ?_; simp only [Act.put, spA, spZ, spS]) | (go_at_call 79; with_reducible refine Ct.call0 (kA) hS ?_; clear hS; intro w hS) | (refine ck_load hS rfl rfl rfl (by (repeat (first | exact mH _ | apply mT)) <;> fail) hf (by decide +kernel) ?_; simp only [Act.put, spA, spZ, spS]) | (refine ck_load hS rfl rfl rfl (by (repeat (first | exact mH _ | apply mT)) <;> fail) hn (by decide +kernel) ?_; simp only [Act.put, spA, spZ, spS]) | (refine ck_region (fun _ => 0) (fun _ => []) [] hS (by kernel_rfl) (by decide +kernel) ?_ ?_; exact ⟨fun _ _ _ h => h.2, fun _ _ h => h⟩; clear hS; intro w hS _; (repeat (first | (apply wpT_pure rfl rfl; (intro _; go_simp; (try (go_ints; (try go_simp))); (first | (rw [decide_eq_true]; omega) | (rw [decide_eq_false]; omega) | rfl | rw [if_pos (by omega)])); simp only [Act.put, spA, spZ, spS]) | (refine ckT_load hS rfl rfl rfl (by simp <;> fail) (by (repeat (first | exact mH _ | apply mT)) <;> fail) rfl (by decide +kernel) ?_; simp only [Act.put, spA, spZ, spS]) | (refine wpT_skip rfl ?_; simp only [Act.put, spA, spZ, spS]) | (refine ckT_load hS rfl rfl rfl (by simp <;> fail) (by (repeat (first | exact mH _ | apply mT)) <;> fail) hf (by decide +kernel) ?_; simp only [Act.put, spA, spZ, spS]) | (refine ckT_load hS rfl rfl rfl (by simp <;> fail) (by (repeat (first | exact mH _ | apply mT)) <;> fail) hn (by decide +kernel) ?_; simp only [Act.put, spA, spZ, spS]))); refine wpT_nil ?_))
            go_ret
            exact ⟨_, ⟨rfl, rfl⟩, oF.2 hS⟩
          · rw [if_pos ⟨h3, rfl⟩, if_neg (by omega)]
            intro w0 F L w hS
            simp only [List.cons_append, List.nil_append] at hS
            have hS := oF.1 hS
            go_enter Tryz.func48, Tryz.ntmps48
            go_wp2_with (first | go_skip | (refine ck_load hS rfl rfl rfl (by (repeat (first | exact mH _ | apply mT)) <;> fail) rfl (by decide +kernel) ?_; simp only [Act.put, spA, spZ, spS]) | (refine ck_store hS rfl rfl rfl (by constructor) (by (repeat (first | exact uH _ _ _ | apply uT)) <;> fail) (by simp <;> omega) rfl (by decide +kernel) ?_; clear hS; intro w hS; simp only [Act.put, spA, spZ, spS] at hS ⊢) | (refine ck_max rfl rfl rfl rfl ?_; simp only [Act.put, spA, spZ, spS]) | (refine ck_min rfl rfl rfl rfl ?_; simp only [Act.put, spA, spZ, spS]) | (go_at_call 79; with_reducible refine Ct.call0 (kA) hS ?_; clear hS; intro w hS) | (refine ck_load hS rfl rfl rfl (by (repeat (first | exact mH _ | apply mT)) <;> fail) hf (by decide +kernel) ?_; simp only [Act.put, spA, spZ, spS]) | (refine ck_load hS rfl rfl rfl (by (repeat (first | exact mH _ | apply mT)) <;> fail) hn (by decide +kernel) ?_; simp only [Act.put, spA, spZ, spS]) | (refine ck_region (fun _ => 0) (fun _ => []) [] hS (by kernel_rfl) (by decide +kernel) ?_ ?_; exact ⟨fun _ _ _ h => h.2, fun _ _ h => h⟩; clear hS; intro w hS _; (repeat (first | (apply wpT_pure rfl rfl; (intro _; go_simp; (try (go_ints; (try go_simp))); (first | (rw [decide_eq_true]; omega) | (rw [decide_eq_false]; omega) | rfl | rw [if_pos (by omega)])); simp only [Act.put, spA, spZ, spS]) | (refine ckT_load hS rfl rfl rfl (by simp <;> fail) (by (repeat (first | exact mH _ | apply mT)) <;> fail) rfl (by decide +kernel) ?_; simp only [Act.put, spA, spZ, spS]) | (refine wpT_skip rfl ?_; simp only [Act.put, spA, spZ, spS]) | (refine ckT_load hS rfl rfl rfl (by simp <;> fail) (by (repeat (first | exact mH _ | apply mT)) <;> fail) hf (by decide +kernel) ?_; simp only [Act.put, spA, spZ, spS]) | (refine ckT_load hS rfl rfl rfl (by simp <;> fail) (by (repeat (first | exact mH _ | apply mT)) <;> fail) hn (by decide +kernel) ?_; simp only [Act.put, spA, spZ, spS]))); refine wpT_nil ?_))
            go_ret
            exact ⟨_, ⟨rfl, rfl⟩, oF.2 hS⟩
        · rw [if_neg (fun h => h3 h.1), if_pos rfl]
          intro w0 F L w hS
          simp only [List.cons_append, List.nil_append] at hS
          have hS := oF.1 hS
          go_enter Tryz.func48, Tryz.ntmps48
          go_wp2_with (first | go_skip | (refine ck_load hS rfl rfl rfl (by (repeat (first | exact mH _ | apply mT)) <;> fail) rfl (by decide +kernel) ?_; simp only [Act.put, spA, spZ, spS]) | (refine ck_store hS rfl rfl rfl (by constructor) (by (repeat (first | exact uH _ _ _ | apply uT)) <;> fail) (by simp <;> omega) rfl (by decide +kernel) ?_; clear hS; intro w hS; simp only [Act.put, spA, spZ, spS] at hS ⊢) | (refine ck_max rfl rfl rfl rfl ?_; simp only [Act.put, spA, spZ, spS]) | (refine ck_min rfl rfl rfl rfl ?_; simp only [Act.put, spA, spZ, spS]) | (go_at_call 79; with_reducible refine Ct.call0 (kA) hS ?_; clear hS; intro w hS) | (refine ck_load hS rfl rfl rfl (by (repeat (first | exact mH _ | apply mT)) <;> fail) hf (by decide +kernel) ?_; simp only [Act.put, spA, spZ, spS]) | (refine ck_load hS rfl rfl rfl (by (repeat (first | exact mH _ | apply mT)) <;> fail) hn (by decide +kernel) ?_; simp only [Act.put, spA, spZ, spS]) | (refine ck_region (fun _ => 0) (fun _ => []) [] hS (by kernel_rfl) (by decide +kernel) ?_ ?_; exact ⟨fun _ _ _ h => h.2, fun _ _ h => h⟩; clear hS; intro w hS _; (repeat (first | (apply wpT_pure rfl rfl; (intro _; go_simp; (try (go_ints; (try go_simp))); (first | (rw [decide_eq_true]; omega) | (rw [decide_eq_false]; omega) | rfl | rw [if_pos (by omega)])); simp only [Act.put, spA, spZ, spS]) | (refine ckT_load hS rfl rfl rfl (by simp <;> fail) (by (repeat (first | exact mH _ | apply mT)) <;> fail) rfl (by decide +kernel) ?_; simp only [Act.put, spA, spZ, spS]) | (refine wpT_skip rfl ?_; simp only [Act.put, spA, spZ, spS]) | (refine ckT_load hS rfl rfl rfl (by simp <;> fail) (by (repeat (first | exact mH _ | apply mT)) <;> fail) hf (by decide +kernel) ?_; simp only [Act.put, spA, spZ, spS]) | (refine ckT_load hS rfl rfl rfl (by simp <;> fail) (by (repeat (first | exact mH _ | apply mT)) <;> fail) hn (by decide +kernel) ?_; simp only [Act.put, spA, spZ, spS]))); refine wpT_nil ?_))
          go_ret
          exact ⟨_, ⟨rfl, rfl⟩, oF.2 hS⟩
end Go.Proofs.YtcegknecikbbkaaGreat

/- A queue: wake, Enqueue. -/
set_option linter.unusedVariables false
set_option linter.unusedSimpArgs false
set_option maxRecDepth 4000
namespace Go.Proofs.YtcegknecikbbkaaGreat
open Go.RowKit
theorem Ct.call1 {P : Program} {f : FuncId} {args : Array Value} {r : Res} {post : Value → List Res → Prop} {w0 w : World} {F : List Nat} {L L0 : List Res} (h : Ct P f args [r] post) (hr : Rem L r L0) (hS : Sep w0 F L w)
    {R : Ending → World → Prop} (hR : ∀ v L' w', post v L' → Sep w0 F (L' ++ L0) w' → R (.returned v) w') : Calls P f args w R :=
  h.call (L := L0) (hS.bring hr) hR
/-- What a flow is when it was woken. -/
def wakeF (c : CfgM) (fr ol : List Int) (x : Option FlowA) (s : Nat) (now : Int) : FlowM := match x with
  | none => ⟨c.first, 0, 0, []⟩
  | some f => if placeZ fr ol (some f) s = 0 then ⟨if idleZ fr ol (some f) s 40000000 now then max f.m.credit c.quantum else f.m.credit, f.m.next, 0, f.m.segs⟩ else f.m
abbrev WakeP (b : Nat) (c : CfgM) (fl : List (Option FlowA)) (lb tb : Nat) (fr ol : List Int) (n : Int) (x : Option FlowA) (s : Nat) (now : Int) : Value → List Res → Prop := fun v L => v = .tuple #[] ∧ ∃ (f' : FlowA) (la' : LA), f'.m = wakeF c fr ol x s now ∧ L = [queueG b ⟨c, fl.set s (some f'), lb, tb, if placeZ fr ol x s = 0 then fr ++ [(s : Int)] else fr, ol, la', n⟩]
theorem Sep.put {w0 w : World} {F : List Nat} {L : List Res} {fl : List (Option FlowA)} {s : Nat} {f : FlowA} (hs : s < fl.length) (h : Sep w0 F (flowR f :: flowsR (fl.set s none) :: L) w) : Sep w0 F (flowsR (fl.set s (some f)) :: L) w := by
  refine (flowsTake (k := s) (f := f) (by rw [List.getElem?_set_self hs])).2 ?_
  rw [List.set_set]; exact h
theorem set_same {α : Type} {l : List α} {s : Nat} {x : α} (h : l[s]? = some x) : l.set s x = l := by
  apply List.ext_getElem?
  intro i
  by_cases hi : i = s
  · subst hi; rw [List.getElem?_set_self (List.getElem?_eq_some_iff.1 h).1, h]
  · rw [List.getElem?_set_ne (Ne.symm hi)]
section
variable {b : Nat} {c : CfgM} {fl : List (Option FlowA)} {lb tb s fb m fc fc0 : Nat} {fr ol : List Int} {la : LA} {n cr nx si : Int} {l : List SegM} {fa fa0 : Option Addr} {m0 : FlowM} {w0 w : World} {F : List Nat} {L : List Res}
theorem qC_same (hx : fl[s]? = some (some ⟨fb, m0, fa0, fc0⟩)) : qC c (fl.set s (some ⟨fb, ⟨cr, nx, si, l⟩, fa, fc⟩)) lb tb n = qC c fl lb tb n := by
  unfold qC
  rw [List.map_set, set_same (x := ptrOf (some ⟨fb, ⟨cr, nx, si, l⟩, fa, fc⟩)) (by rw [List.getElem?_map, hx]; rfl)]
/-- A flow of a queue is another one now. -/
theorem queueShutF (hx : fl[s]? = some (some ⟨fb, m0, fa0, fc0⟩)) (hm : l.length = m) (h : Sep w0 F (qP b c fl lb tb n :: flP fb cr nx si fa m fc :: flRow fa m fc l :: flowsR (fl.set s none) :: lstG lb fr ol la :: L) w) :
    Sep w0 F (queueG b ⟨c, fl.set s (some ⟨fb, ⟨cr, nx, si, l⟩, fa, fc⟩), lb, tb, fr, ol, la, n⟩ :: L) w := by
  refine (queueOpenF (s := s) (fb := fb) (fc := fc) (cr := cr) (nx := nx) (si := si) (l := l) (fa := fa) (by rw [List.getElem?_set_self (List.getElem?_eq_some_iff.1 hx).1]) hm).2 ?_
  rw [List.set_set]
  unfold qP
  rw [qC_same hx]
  exact h
theorem queueShutN (hx : fl[s]? = some none) (hm : l.length = m) (h : Sep w0 F (qP b c (fl.set s (some ⟨fb, ⟨cr, nx, si, l⟩, fa, fc⟩)) lb tb n :: flP fb cr nx si fa m fc :: flRow fa m fc l :: flowsR fl :: lstG lb fr ol la :: L) w) :
    Sep w0 F (queueG b ⟨c, fl.set s (some ⟨fb, ⟨cr, nx, si, l⟩, fa, fc⟩), lb, tb, fr, ol, la, n⟩ :: L) w := by
  refine (queueOpenF (s := s) (fb := fb) (fc := fc) (cr := cr) (nx := nx) (si := si) (l := l) (fa := fa) (by rw [List.getElem?_set_self (List.getElem?_eq_some_iff.1 hx).1]) hm).2 ?_
  rw [List.set_set, set_same hx]
  exact h
end
set_option maxHeartbeats 4000000 in
theorem qwake_ct (b : Nat) (c : CfgM) (fl : List (Option FlowA)) (lb tb : Nat) (fr ol : List Int) (la : LA) (n : Int) (hok : flOk fl) (hsm : fr.length + ol.length ≤ 1000) (now : Int) (s : Nat) (x : Option FlowA) (hx : fl[s]? = some x) (hno : x = none → plZ fr ol s = 0) :
    Ct Tryz.prog 49 #[.pointer (some ⟨b, 0, none⟩), .int .i64 s, .int .u64 now] [queueG b ⟨c, fl, lb, tb, fr, ol, la, n⟩] (WakeP b c fl lb tb fr ol n x s now) := by
  have h8 := hok.1
  have hs8 : s < 8 := by have := (List.getElem?_eq_some_iff.1 hx).1; omega
  have hf := qC_f (c := c) (lb := lb) (tb := tb) (n := n) hx
  have hlb := qC_lb (c := c) (lb := lb) (tb := tb) (n := n) h8
  have hlen := qC_len (c := c) (lb := lb) (tb := tb) (n := n) h8
  have kPl := qplace_ct b ⟨c, fl, lb, tb, fr, ol, la, n⟩ h8 s x hx hsm
  dsimp only at kPl
  cases x with
  | none =>
    have hp := hno rfl
    have hpl : placeZ fr ol none s = 0 := by unfold placeZ; rw [if_pos hp]; rfl
    have kP := lstPush_ct lb fr ol la s true hsm (by omega) (by omega) hp
    simp only [if_true] at kP
    rw [show WakeP b c fl lb tb fr ol n none s now = fun v L => v = .tuple #[] ∧ ∃ (f' : FlowA) (la' : LA), f'.m = ⟨c.first, 0, 0, []⟩ ∧ L = [queueG b ⟨c, fl.set s (some f'), lb, tb, fr ++ [(s : Int)], ol, la', n⟩] by unfold WakeP; simp only [hpl, if_true]; rfl]
    unfold ptrOf at hf
    clear hpl hp hno kPl
    intro w0 F L w hS
    simp only [List.cons_append, List.nil_append] at hS
    have hS := queueOpen.1 hS
    have hset : ∀ nb, (qC c fl lb tb n).set (9 + s) (.pointer (some ⟨nb, 0, none⟩)) = qC c (fl.set s (some ⟨nb, ⟨c.first, 0, 0, []⟩, none, 0⟩)) lb tb n := fun nb => qC_setf (c := c) (lb := lb) (tb := tb) (n := n) (x := some ⟨nb, ⟨c.first, 0, 0, []⟩, none, 0⟩) h8 hs8
    have hlb2 := fun nb => qC_lb (c := c) (lb := lb) (tb := tb) (n := n) (fl := fl.set s (some ⟨nb, ⟨c.first, 0, 0, []⟩, none, 0⟩)) (by simpa using h8)
    have hf2 : ∀ nb, (qC c (fl.set s (some ⟨nb, ⟨c.first, 0, 0, []⟩, none, 0⟩)) lb tb n)[9 + s]? = some (.pointer (some ⟨nb, 0, none⟩)) := fun nb => qC_f (c := c) (lb := lb) (tb := tb) (n := n) (fl := fl.set s (some ⟨nb, ⟨c.first, 0, 0, []⟩, none, 0⟩)) (k := s) (x := some ⟨nb, ⟨c.first, 0, 0, []⟩, none, 0⟩) (List.getElem?_set_self (by omega))
    go_enter Tryz.func49, Tryz.ntmps49
    go_wp2_with (first | go_skip | (refine ck_load hS rfl rfl rfl (by (repeat (first | exact mH _ | apply mT)) <;> fail) hf (by decide +kernel) ?_; simp only [Act.put, spA, spZ, spS]) | (refine ck_load hS rfl rfl rfl (by (repeat (first | exact mH _ | apply mT)) <;> fail) (hf2 nb) (by decide +kernel) ?_; simp only [Act.put, spA, spZ, spS]) | (refine ck_load hS rfl rfl rfl (by (repeat (first | exact mH _ | apply mT)) <;> fail) (hlb2 nb) (by decide +kernel) ?_; simp only [Act.put, spA, spZ, spS]) | (refine ck_load hS rfl rfl rfl (by (repeat (first | exact mH _ | apply mT)) <;> fail) rfl (by decide +kernel) ?_; simp only [Act.put, spA, spZ, spS]) | (refine ck_store hS rfl rfl rfl (by constructor) (by (repeat (first | exact uH _ _ _ | apply uT)) <;> fail) (by simp <;> omega) rfl (by decide +kernel) ?_; clear hS; intro w hS; simp only [Act.put, spA, spZ, spS] at hS ⊢) | (go_at_call 80; (with_reducible refine Ct.callE (kP) (by (repeat (first | exact rH _ _ | apply rT)) <;> fail) hS ?_) <;> (first | (clear hS; intro A w hS) | omega)) | (refine ck_region (fun _ => 0) (fun _ => []) [] hS (by kernel_rfl) (by decide +kernel) ?_ ?_; exact ⟨fun _ _ _ h => h.2, fun _ _ h => h⟩; clear hS; intro w hS _; (repeat (first | (refine ckT_max rfl rfl rfl rfl ?_; simp only [Act.put, spA, spZ, spS]) | (refine ckT_min rfl rfl rfl rfl ?_; simp only [Act.put, spA, spZ, spS]) | (apply wpT_pure rfl rfl; (intro _; go_simp; (try (go_ints; (try go_simp))); (first | (rw [decide_eq_true]; omega) | (rw [decide_eq_false]; omega) | rfl | rw [if_pos (by omega)])); simp only [Act.put, spA, spZ, spS]) | (refine ckT_load hS rfl rfl rfl (by simp <;> fail) (by (repeat (first | exact mH _ | apply mT)) <;> fail) rfl (by decide +kernel) ?_; simp only [Act.put, spA, spZ, spS]) | (refine ckT_store hS rfl rfl rfl (by constructor) (by (repeat (first | exact uH _ _ _ | apply uT)) <;> fail) (by simp <;> fail) rfl (by decide +kernel) (by simp <;> fail) ?_; clear hS; intro w hS; simp only [Act.put, spA, spZ, spS] at hS ⊢) | (refine ckT_box hS rfl rfl (by constructor) (by simp) ?_; clear hS; intro nb w hS; simp only [Act.put, spA, spZ, spS]) | (refine ckT_store hS rfl rfl rfl (by constructor) (by (repeat (first | exact uH _ _ _ | apply uT)) <;> fail) (by rw [hlen]; omega) rfl (by decide +kernel) (by simp <;> fail) ?_; clear hS; intro w hS; rw [hset _] at hS; simp only [Act.put, spA, spZ, spS]))); refine wpT_nil ?_))
    refine bodyPost_end (results_none rfl _ _ _) rfl ?_
    refine ⟨_, ⟨rfl, ⟨nb, ⟨c.first, 0, 0, []⟩, none, 0⟩, A, rfl, rfl⟩, queueShutN (m := 0) hx rfl ?_⟩
    have j1 := hS.nilO (e := 44) (sz := 5)
    have j2 := j1.bring (r := lstG lb (fr ++ [(s : Int)]) ol A) (by (repeat (first | exact rH _ _ | apply rT)) <;> fail)
    have j3 := j2.bring (r := flowsR fl) (by (repeat (first | exact rH _ _ | apply rT)) <;> fail)
    have j4 := j3.bring (r := rowO none 0 0 44 5 []) (by (repeat (first | exact rH _ _ | apply rT)) <;> fail)
    have j5 := j4.bring (r := pts nb [.int .i64 c.first, .int .u64 0, .int .u64 0, .slice none 0 0] 106) (by (repeat (first | exact rH _ _ | apply rT)) <;> fail)
    exact j5.bring (r := qP b c (fl.set s (some ⟨nb, ⟨c.first, 0, 0, []⟩, none, 0⟩)) lb tb n) (by (repeat (first | exact rH _ _ | apply rT)) <;> fail)
  | some f =>
    obtain ⟨fb, ⟨cr, nx, si, l⟩, fa, fc⟩ := f
    obtain ⟨m, hm⟩ : ∃ m, l.length = m := ⟨_, rfl⟩
    have oF := fun {w0 w : World} {F : List Nat} {L : List Res} => queueOpenF (b := b) (c := c) (lb := lb) (tb := tb) (fr := fr) (ol := ol) (la := la) (n := n) (w0 := w0) (w := w) (F := F) (L := L) hx hm
    obtain ⟨s0, s1, -, -⟩ := hok.2 s _ hx
    have kI := qidle_ct b ⟨c, fl, lb, tb, fr, ol, la, n⟩ h8 s _ hx hsm 40000000 now (by omega) (by omega) (fun f hf => by injection hf with hf; subst hf; exact ⟨s0, s1⟩)
    dsimp only at kI
    unfold ptrOf at hf
    by_cases hp : placeZ fr ol (some ⟨fb, ⟨cr, nx, si, l⟩, fa, fc⟩) s = 0
    · have hpl : plZ fr ol s = 0 := by
        unfold placeZ at hp
        by_cases h : plZ fr ol s = 0
        · exact h
        · rw [if_neg h] at hp; exact absurd hp h
      have kP := lstPush_ct lb fr ol la s true hsm (by omega) (by omega) hpl
      simp only [if_true] at kP
      rw [hp] at kPl
      cases hi : idleZ fr ol (some ⟨fb, ⟨cr, nx, si, l⟩, fa, fc⟩) s 40000000 now
      · rw [show WakeP b c fl lb tb fr ol n (some ⟨fb, ⟨cr, nx, si, l⟩, fa, fc⟩) s now = fun v L => v = .tuple #[] ∧ ∃ (f' : FlowA) (la' : LA), f'.m = ⟨cr, nx, 0, l⟩ ∧ L = [queueG b ⟨c, fl.set s (some f'), lb, tb, fr ++ [(s : Int)], ol, la', n⟩] by unfold WakeP wakeF; simp only [hp, hi, if_true, Bool.false_eq_true, if_false]]
        rw [hi] at kI
        clear hp hpl hi
        intro w0 F L w hS
        simp only [List.cons_append, List.nil_append] at hS
        have hS := oF.1 hS
        go_enter Tryz.func49, Tryz.ntmps49
        go_wp2_with (first | go_skip | (refine ck_load hS rfl rfl rfl (by (repeat (first | exact mH _ | apply mT)) <;> fail) hf (by decide +kernel) ?_; simp only [Act.put, spA, spZ, spS]) | (refine ck_load hS rfl rfl rfl (by (repeat (first | exact mH _ | apply mT)) <;> fail) hlb (by decide +kernel) ?_; simp only [Act.put, spA, spZ, spS]) | (refine ck_load hS rfl rfl rfl (by (repeat (first | exact mH _ | apply mT)) <;> fail) rfl (by decide +kernel) ?_; simp only [Act.put, spA, spZ, spS]) | (refine ck_store hS rfl rfl rfl (by constructor) (by (repeat (first | exact uH _ _ _ | apply uT)) <;> fail) (by simp <;> omega) rfl (by decide +kernel) ?_; clear hS; intro w hS; simp only [Act.put, spA, spZ, spS] at hS ⊢) | (have hS0 := oF.2 hS; go_at_call 44; (refine Ct.callG (kPl) hS0 ?_); clear hS hS0; intro w hS0; have hS := oF.1 hS0; clear hS0) | (have hS0 := oF.2 hS; go_at_call 78; (refine Ct.callG (kI) hS0 ?_); clear hS hS0; intro w hS0; have hS := oF.1 hS0; clear hS0) | (go_at_call 80; (with_reducible refine Ct.callE (kP) (by (repeat (first | exact rH _ _ | apply rT)) <;> fail) hS ?_) <;> (first | (clear hS; intro A w hS) | omega)) | (refine ck_region (fun _ => 0) (fun _ => []) [] hS (by kernel_rfl) (by decide +kernel) ?_ ?_; exact ⟨fun _ _ _ h => h.2, fun _ _ h => h⟩; clear hS; intro w hS _; (repeat (first | (refine ckT_max rfl rfl rfl rfl ?_; simp only [Act.put, spA, spZ, spS]) | (refine ckT_min rfl rfl rfl rfl ?_; simp only [Act.put, spA, spZ, spS]) | (apply wpT_pure rfl rfl; (intro _; go_simp; (try (go_ints; (try go_simp))); (first | (rw [decide_eq_true]; omega) | (rw [decide_eq_false]; omega) | rfl | rw [if_pos (by omega)])); simp only [Act.put, spA, spZ, spS]) | (refine ckT_load hS rfl rfl rfl (by simp <;> fail) (by (repeat (first | exact mH _ | apply mT)) <;> fail) rfl (by decide +kernel) ?_; simp only [Act.put, spA, spZ, spS]) | (refine ckT_store hS rfl rfl rfl (by constructor) (by (repeat (first | exact uH _ _ _ | apply uT)) <;> fail) (by simp <;> fail) rfl (by decide +kernel) (by simp <;> fail) ?_; clear hS; intro w hS; simp only [Act.put, spA, spZ, spS] at hS ⊢) )); refine wpT_nil ?_))
        refine bodyPost_end (results_none rfl _ _ _) rfl ?_
        refine ⟨_, ⟨rfl, ⟨fb, ⟨cr, nx, 0, l⟩, fa, fc⟩, A, rfl, rfl⟩, queueShutF hx hm ?_⟩
        exact hS.perm ((List.Perm.swap _ _ _).trans (.cons _ ((List.Perm.swap _ _ _).trans (.cons _ ((List.Perm.swap _ _ _).trans (.cons _ (.swap _ _ _)))))))
      · rw [show WakeP b c fl lb tb fr ol n (some ⟨fb, ⟨cr, nx, si, l⟩, fa, fc⟩) s now = fun v L => v = .tuple #[] ∧ ∃ (f' : FlowA) (la' : LA), f'.m = ⟨max cr c.quantum, nx, 0, l⟩ ∧ L = [queueG b ⟨c, fl.set s (some f'), lb, tb, fr ++ [(s : Int)], ol, la', n⟩] by unfold WakeP wakeF; simp only [hp, hi, if_true]]
        rw [hi] at kI
        clear hp hpl hi
        intro w0 F L w hS
        simp only [List.cons_append, List.nil_append] at hS
        have hS := oF.1 hS
        go_enter Tryz.func49, Tryz.ntmps49
        go_wp2_with (first | go_skip | (refine ck_load hS rfl rfl rfl (by (repeat (first | exact mH _ | apply mT)) <;> fail) hf (by decide +kernel) ?_; simp only [Act.put, spA, spZ, spS]) | (refine ck_load hS rfl rfl rfl (by (repeat (first | exact mH _ | apply mT)) <;> fail) hlb (by decide +kernel) ?_; simp only [Act.put, spA, spZ, spS]) | (refine ck_load hS rfl rfl rfl (by (repeat (first | exact mH _ | apply mT)) <;> fail) rfl (by decide +kernel) ?_; simp only [Act.put, spA, spZ, spS]) | (refine ck_store hS rfl rfl rfl (by constructor) (by (repeat (first | exact uH _ _ _ | apply uT)) <;> fail) (by simp <;> omega) rfl (by decide +kernel) ?_; clear hS; intro w hS; simp only [Act.put, spA, spZ, spS] at hS ⊢) | (have hS0 := oF.2 hS; go_at_call 44; (refine Ct.callG (kPl) hS0 ?_); clear hS hS0; intro w hS0; have hS := oF.1 hS0; clear hS0) | (have hS0 := oF.2 hS; go_at_call 78; (refine Ct.callG (kI) hS0 ?_); clear hS hS0; intro w hS0; have hS := oF.1 hS0; clear hS0) | (go_at_call 80; (with_reducible refine Ct.callE (kP) (by (repeat (first | exact rH _ _ | apply rT)) <;> fail) hS ?_) <;> (first | (clear hS; intro A w hS) | omega)) | (refine ck_region (fun _ => 0) (fun _ => []) [] hS (by kernel_rfl) (by decide +kernel) ?_ ?_; exact ⟨fun _ _ _ h => h.2, fun _ _ h => h⟩; clear hS; intro w hS _; (repeat (first | (refine ckT_max rfl rfl rfl rfl ?_; simp only [Act.put, spA, spZ, spS]) | (refine ckT_min rfl rfl rfl rfl ?_; simp only [Act.put, spA, spZ, spS]) | (apply wpT_pure rfl rfl; (intro _; go_simp; (try (go_ints; (try go_simp))); (first | (rw [decide_eq_true]; omega) | (rw [decide_eq_false]; omega) | rfl | rw [if_pos (by omega)])); simp only [Act.put, spA, spZ, spS]) | (refine ckT_load hS rfl rfl rfl (by simp <;> fail) (by (repeat (first | exact mH _ | apply mT)) <;> fail) rfl (by decide +kernel) ?_; simp only [Act.put, spA, spZ, spS]) | (refine ckT_store hS rfl rfl rfl (by constructor) (by (repeat (first | exact uH _ _ _ | apply uT)) <;> fail) (by simp <;> fail) rfl (by decide +kernel) (by simp <;> fail) ?_; clear hS; intro w hS; simp only [Act.put, spA, spZ, spS] at hS ⊢) )); refine wpT_nil ?_))
        refine bodyPost_end (results_none rfl _ _ _) rfl ?_
        refine ⟨_, ⟨rfl, ⟨fb, ⟨max cr c.quantum, nx, 0, l⟩, fa, fc⟩, A, rfl, rfl⟩, queueShutF hx hm ?_⟩
        exact hS.perm ((List.Perm.swap _ _ _).trans (.cons _ ((List.Perm.swap _ _ _).trans (.cons _ ((List.Perm.swap _ _ _).trans (.cons _ (.swap _ _ _)))))))
    · rw [show WakeP b c fl lb tb fr ol n (some ⟨fb, ⟨cr, nx, si, l⟩, fa, fc⟩) s now = fun v L => v = .tuple #[] ∧ ∃ (f' : FlowA) (la' : LA), f'.m = ⟨cr, nx, si, l⟩ ∧ L = [queueG b ⟨c, fl.set s (some f'), lb, tb, fr, ol, la', n⟩] by unfold WakeP wakeF; simp only [hp, if_false]]
      have hp' : (placeZ fr ol (some ⟨fb, ⟨cr, nx, si, l⟩, fa, fc⟩) s == 0) = false := by simpa using hp
      generalize placeZ fr ol (some ⟨fb, ⟨cr, nx, si, l⟩, fa, fc⟩) s = pz at *
      clear hp kI
      intro w0 F L w hS
      simp only [List.cons_append, List.nil_append] at hS
      have hS := oF.1 hS
      go_enter Tryz.func49, Tryz.ntmps49
      go_wp2_with (first | go_skip | (refine ck_load hS rfl rfl rfl (by (repeat (first | exact mH _ | apply mT)) <;> fail) hf (by decide +kernel) ?_; simp only [Act.put, spA, spZ, spS]) | (refine ck_load hS rfl rfl rfl (by (repeat (first | exact mH _ | apply mT)) <;> fail) hlb (by decide +kernel) ?_; simp only [Act.put, spA, spZ, spS]) | (refine ck_load hS rfl rfl rfl (by (repeat (first | exact mH _ | apply mT)) <;> fail) rfl (by decide +kernel) ?_; simp only [Act.put, spA, spZ, spS]) | (refine ck_store hS rfl rfl rfl (by constructor) (by (repeat (first | exact uH _ _ _ | apply uT)) <;> fail) (by simp <;> omega) rfl (by decide +kernel) ?_; clear hS; intro w hS; simp only [Act.put, spA, spZ, spS] at hS ⊢) | (have hS0 := oF.2 hS; go_at_call 44; (refine Ct.callG (kPl) hS0 ?_); clear hS hS0; intro w hS0; have hS := oF.1 hS0; clear hS0) | (refine ck_region (fun _ => 0) (fun _ => []) [] hS (by kernel_rfl) (by decide +kernel) ?_ ?_; exact ⟨fun _ _ _ h => h.2, fun _ _ h => h⟩; clear hS; intro w hS _; (repeat (first | (refine ckT_max rfl rfl rfl rfl ?_; simp only [Act.put, spA, spZ, spS]) | (refine ckT_min rfl rfl rfl rfl ?_; simp only [Act.put, spA, spZ, spS]) | (apply wpT_pure rfl rfl; (intro _; go_simp; (try (go_ints; (try go_simp))); (first | (rw [decide_eq_true]; omega) | (rw [decide_eq_false]; omega) | rfl | rw [if_pos (by omega)])); simp only [Act.put, spA, spZ, spS]) | (refine ckT_load hS rfl rfl rfl (by simp <;> fail) (by (repeat (first | exact mH _ | apply mT)) <;> fail) rfl (by decide +kernel) ?_; simp only [Act.put, spA, spZ, spS]) | (refine ckT_store hS rfl rfl rfl (by constructor) (by (repeat (first | exact uH _ _ _ | apply uT)) <;> fail) (by simp <;> fail) rfl (by decide +kernel) (by simp <;> fail) ?_; clear hS; intro w hS; simp only [Act.put, spA, spZ, spS] at hS ⊢) )); refine wpT_nil ?_))
      refine bodyPost_ret (results_none rfl _ _ _) rfl ?_
      refine ⟨_, ⟨rfl, ⟨fb, ⟨cr, nx, si, l⟩, fa, fc⟩, la, rfl, rfl⟩, queueShutF hx hm hS⟩
end Go.Proofs.YtcegknecikbbkaaGreat

/- A queue: Enqueue. -/
set_option linter.unusedVariables false
set_option linter.unusedSimpArgs false
set_option maxRecDepth 4000
namespace Go.Proofs.YtcegknecikbbkaaGreat
open Go.RowKit
abbrev segA (s : SegM) : Value := .agg (segV s).toArray
section
variable (b : Nat) (c : CfgM) (fl : List (Option FlowA)) (lb tb : Nat) (fr ol : List Int) (la : LA) (n : Int) (hok : flOk fl) (hsm : fr.length + ol.length ≤ 1000) (now : Int) (sg : SegM) (s : Nat) (hs : sg.sock = s) (hs8 : s < 8)
  (l0 : 1 ≤ sg.len) (l1 : sg.len ≤ 65536) (n0 : 0 ≤ now) (n1 : now ≤ 18446744073709551615) (z0 : 0 ≤ c.horizon) (z1 : c.horizon ≤ 18446744073709551615) (x : Option FlowA) (hx : (colN fr ol now 8 fl)[s]? = some x)
include hok hsm hs hs8 l0 l1 n0 n1 z0 z1 hx
set_option maxHeartbeats 4000000 in
theorem qenqNo_ct (hf : fateZ c x n sg.stamp now ≠ 0) :
    Ct Tryz.prog 22 #[.pointer (some ⟨b, 0, none⟩), segA sg, .int .u64 now] [queueG b ⟨c, fl, lb, tb, fr, ol, la, n⟩] (Gives (.tuple #[.int .i64 (fateZ c x n sg.stamp now), .int .i64 0]) [queueG b ⟨c, colN fr ol now 8 fl, lb, tb, fr, ol, la, n⟩]) := by
  have kC := qcollect_ct b c fl lb tb fr ol la n hok hsm now
  have kF := fun sp => qfate_ct b sp c (colN fr ol now 8 fl) lb tb fr ol la n (colN_ok hok) sg now s hs x hx n0 n1 z0 z1
  obtain ⟨sock, frm, len, stamp, again⟩ := sg
  obtain rfl : sock = s := hs
  have kW := within_ct (s : Int) 0 7
  rw [decide_eq_true (show (0 : Int) ≤ s by omega), decide_eq_true (show (s : Int) ≤ 7 by omega)] at kW
  have kW2 := within_ct len 1 65536
  rw [decide_eq_true (show 1 ≤ len from l0), decide_eq_true (show len ≤ 65536 from l1)] at kW2
  have hf' : (fateZ c x n stamp now == 0) = false := by simpa using hf
  dsimp only at kF
  show Ct _ _ _ _ (Gives (.tuple #[.int .i64 (fateZ c x n stamp now), _]) _)
  generalize fateZ c x n stamp now = fz at *
  generalize colN fr ol now 8 fl = fl1 at *
  clear hf
  intro w0 F L w hS
  simp only [List.cons_append, List.nil_append] at hS
  go_enter Tryz.func22, Tryz.ntmps22
  go_wp2_with (first | go_skip | (refine ck_box hS rfl rfl (by constructor) ?_; clear hS; intro sp w hS; simp only [Act.put, spA, spZ, spS]) | (refine ck_load hS rfl rfl rfl (by (repeat (first | exact mH _ | apply mT)) <;> fail) rfl (by decide +kernel) ?_; simp only [Act.put, spA, spZ, spS]) | (refine ck_store hS rfl rfl rfl (by constructor) (by (repeat (first | exact uH _ _ _ | apply uT)) <;> fail) (by simp <;> omega) rfl (by decide +kernel) ?_; clear hS; intro w hS; simp only [Act.put, spA, spZ, spS] at hS ⊢) | (refine ck_box hS rfl rfl (by constructor) ?_; clear hS; intro nb w hS; simp only [Act.put, spA, spZ, spS]) | (refine ck_region (fun _ => 0) (fun _ => []) [] hS (by kernel_rfl) (by decide +kernel) ?_ ?_; exact ⟨fun _ _ _ h => h.2, fun _ _ h => h⟩; clear hS; intro w hS _; (repeat (first | (apply wpT_pure rfl rfl; (intro _; go_simp; (try (go_ints; (try go_simp))); (first | (rw [decide_eq_true]; omega) | (rw [decide_eq_false]; omega) | rfl | rw [if_pos (by omega)])); simp only [Act.put, spA, spZ, spS]) | (refine ckT_load hS rfl rfl rfl (by simp <;> fail) (by (repeat (first | exact mH _ | apply mT)) <;> fail) rfl (by decide +kernel) ?_; simp only [Act.put, spA, spZ, spS]) | (refine ckT_store hS rfl rfl rfl (by constructor) (by (repeat (first | exact uH _ _ _ | apply uT)) <;> fail) (by simp <;> fail) rfl (by decide +kernel) (by simp <;> fail) ?_; clear hS; intro w hS; simp only [Act.put, spA, spZ, spS] at hS ⊢) )); refine wpT_nil ?_) | (go_at_call 46; with_reducible refine Ct.call0 (kW) hS ?_; clear hS; intro w hS) | (go_at_call 46; with_reducible refine Ct.call0 (kW2) hS ?_; clear hS; intro w hS) | (go_at_call 47; (with_reducible refine Ct.callU (kC) (by (repeat (first | exact uH _ _ _ | apply uT)) <;> fail) hS ?_) <;> (first | (clear hS; intro w hS) | omega)) | (go_at_call 48; (refine Ct.call2 (kF sp) (by (repeat (first | exact rH _ _ | apply rT)) <;> fail) (by (repeat (first | exact rH _ _ | apply rT)) <;> fail) hS ?_); clear hS; rintro _ _ w ⟨rfl, rfl⟩ hS; simp only [List.cons_append, List.nil_append] at hS))
  go_ret2
  exact ⟨_, ⟨rfl, rfl⟩, (hS.perm (.swap _ _ _)).drop⟩
set_option maxHeartbeats 8000000 in
theorem qenqOk_ct (hf : fateZ c x n sg.stamp now = 0) (hno : x = none → plZ fr ol s = 0) (hml : (segsOf x).length ≤ 100000) (hn0 : 0 ≤ n) (hn1 : n ≤ 100000) :
    Ct Tryz.prog 22 #[.pointer (some ⟨b, 0, none⟩), segA sg, .int .u64 now] [queueG b ⟨c, fl, lb, tb, fr, ol, la, n⟩]
      (fun v L => v = .tuple #[.int .i64 0, .int .i64 0] ∧ ∃ (f' : FlowA) (la' : LA), f'.m = { wakeF c fr ol x s now with segs := (wakeF c fr ol x s now).segs ++ [fateSeg c x n now sg] } ∧ L = [queueG b ⟨c, (colN fr ol now 8 fl).set s (some f'), lb, tb, if placeZ fr ol x s = 0 then fr ++ [(s : Int)] else fr, ol, la', n + 1⟩]) := by
  have kC := qcollect_ct b c fl lb tb fr ol la n hok hsm now
  have hok2 := colN_ok (fr := fr) (ol := ol) (now := now) (k := 8) hok
  have kF := fun sp => qfate_ct b sp c (colN fr ol now 8 fl) lb tb fr ol la n hok2 sg now s hs x hx n0 n1 z0 z1
  have kWk := qwake_ct b c (colN fr ol now 8 fl) lb tb fr ol la n hok2 hsm now s x hx hno
  have hsock : (fateSeg c x n now sg).sock = s := by unfold fateSeg; split <;> exact hs
  rw [hf] at kF
  obtain ⟨sg2, hsg2⟩ : ∃ y, fateSeg c x n now sg = y := ⟨_, rfl⟩
  rw [hsg2] at kF hsock ⊢
  obtain ⟨⟨cr, nx, si, l⟩, hwk⟩ : ∃ y, wakeF c fr ol x s now = y := ⟨_, rfl⟩
  have hwl : l.length ≤ 100000 := by
    have : l = segsOf x := by
      unfold wakeF at hwk
      cases x with
      | none => injection hwk with _ _ _ h; rw [← h]; rfl
      | some f =>
        simp only at hwk
        split at hwk
        · injection hwk with _ _ _ h; rw [← h]; rfl
        · unfold segsOf; simp only [hwk]
    rw [this]; exact hml
  unfold WakeP at kWk
  rw [hwk] at kWk ⊢
  show Ct _ _ _ _ (fun v L => v = .tuple #[.int .i64 0, .int .i64 0] ∧ ∃ (f' : FlowA) (la' : LA), f'.m = ⟨cr, nx, si, l ++ [sg2]⟩ ∧ L = [queueG b ⟨c, (colN fr ol now 8 fl).set s (some f'), lb, tb, if placeZ fr ol x s = 0 then fr ++ [(s : Int)] else fr, ol, la', n + 1⟩])
  obtain ⟨sock2, frm2, len2, stamp2, again2⟩ := sg2
  obtain rfl : sock2 = s := hsock
  obtain ⟨sock, frm, len, stamp, again⟩ := sg
  obtain rfl : sock = s := hs
  have kW := within_ct (s : Int) 0 7
  rw [decide_eq_true (show (0 : Int) ≤ s by omega), decide_eq_true (show (s : Int) ≤ 7 by omega)] at kW
  have kW2 := within_ct len 1 65536
  rw [decide_eq_true (show 1 ≤ len from l0), decide_eq_true (show len ≤ 65536 from l1)] at kW2
  generalize (if placeZ fr ol x s = 0 then fr ++ [(s : Int)] else fr) = fr2 at *
  have h8 := hok2.1
  generalize colN fr ol now 8 fl = fl1 at *
  clear hsg2 hwk hml hno hf hx hsm hok hok2
  intro w0 F L w hS
  simp only [List.cons_append, List.nil_append] at hS
  go_enter Tryz.func22, Tryz.ntmps22
  go_wp2_with (first | go_skip | (refine ck_box hS rfl rfl (by constructor) ?_; clear hS; intro sp w hS; simp only [Act.put, spA, spZ, spS]) | (refine ck_load hS rfl rfl rfl (by (repeat (first | exact mH _ | apply mT)) <;> fail) rfl (by decide +kernel) ?_; simp only [Act.put, spA, spZ, spS]) | (refine ck_store hS rfl rfl rfl (by constructor) (by (repeat (first | exact uH _ _ _ | apply uT)) <;> fail) (by simp <;> omega) rfl (by decide +kernel) ?_; clear hS; intro w hS; simp only [Act.put, spA, spZ, spS] at hS ⊢) | (refine ck_box hS rfl rfl (by constructor) ?_; clear hS; intro nb w hS; simp only [Act.put, spA, spZ, spS]) | (refine ck_region (fun _ => 0) (fun _ => []) [] hS (by kernel_rfl) (by decide +kernel) ?_ ?_; exact ⟨fun _ _ _ h => h.2, fun _ _ h => h⟩; clear hS; intro w hS _; (repeat (first | (apply wpT_pure rfl rfl; (intro _; go_simp; (try (go_ints; (try go_simp))); (first | (rw [decide_eq_true]; omega) | (rw [decide_eq_false]; omega) | rfl | rw [if_pos (by omega)])); simp only [Act.put, spA, spZ, spS]) | (refine ckT_load hS rfl rfl rfl (by simp <;> fail) (by (repeat (first | exact mH _ | apply mT)) <;> fail) rfl (by decide +kernel) ?_; simp only [Act.put, spA, spZ, spS]) | (refine ckT_store hS rfl rfl rfl (by constructor) (by (repeat (first | exact uH _ _ _ | apply uT)) <;> fail) (by simp <;> fail) rfl (by decide +kernel) (by simp <;> fail) ?_; clear hS; intro w hS; simp only [Act.put, spA, spZ, spS] at hS ⊢) )); refine wpT_nil ?_) | (go_at_call 46; with_reducible refine Ct.call0 (kW) hS ?_; clear hS; intro w hS) | (go_at_call 46; with_reducible refine Ct.call0 (kW2) hS ?_; clear hS; intro w hS) | (go_at_call 47; (with_reducible refine Ct.callU (kC) (by (repeat (first | exact uH _ _ _ | apply uT)) <;> fail) hS ?_) <;> (first | (clear hS; intro w hS) | omega)) | (go_at_call 48; (refine Ct.call2 (kF sp) (by (repeat (first | exact rH _ _ | apply rT)) <;> fail) (by (repeat (first | exact rH _ _ | apply rT)) <;> fail) hS ?_); clear hS; rintro _ _ w ⟨rfl, rfl⟩ hS; simp only [List.cons_append, List.nil_append] at hS))
  refine Ct.call1 kWk (by (repeat (first | exact rH _ _ | apply rT)) <;> fail) hS ?_
  clear hS
  rintro _ _ w ⟨rfl, ⟨fb, fm, fa, fc⟩, la', hfm, rfl⟩ hS
  obtain rfl : fm = ⟨cr, nx, si, l⟩ := hfm
  simp only [List.cons_append, List.nil_append] at hS
  obtain ⟨fl2, hfl2⟩ : ∃ y, fl1.set s (some ⟨fb, ⟨cr, nx, si, l⟩, fa, fc⟩) = y := ⟨_, rfl⟩
  rw [hfl2] at hS
  have hx2 : fl2[s]? = some (some ⟨fb, ⟨cr, nx, si, l⟩, fa, fc⟩) := by rw [← hfl2, List.getElem?_set_self (by omega)]
  have h82 : fl2.length = 8 := by rw [← hfl2]; simpa using h8
  obtain ⟨m, hm⟩ : ∃ m, l.length = m := ⟨_, rfl⟩
  have hS := (queueOpenF hx2 hm).1 hS
  have hfp : (qC c fl2 lb tb n)[9 + s]? = some (.pointer (some ⟨fb, 0, none⟩)) := qC_f (c := c) (lb := lb) (tb := tb) (n := n) hx2
  have hn := qC_n (c := c) (lb := lb) (tb := tb) (n := n) h82
  have hset := qC_setn (c := c) (lb := lb) (tb := tb) (n := n) (n' := n + 1) h82
  have hlen := qC_len (c := c) (lb := lb) (tb := tb) (n := n) h82
  have hm2 : (l ++ [(⟨s, frm2, len2, stamp2, again2⟩ : SegM)]).length = m + 1 := by simp [hm]
  have hsgs : sgs (l ++ [⟨s, frm2, len2, stamp2, again2⟩]) = sgs l ++ segV ⟨s, frm2, len2, stamp2, again2⟩ := sgs_snoc _ _
  have hfin : ∀ {w : World} {fa2 : Option Addr} {fc2 : Nat}, Sep w0 F (qP b c fl2 lb tb (n + 1) :: flP fb cr nx si fa2 (m + 1) fc2 :: rowO fa2 (m + 1) fc2 44 5 (sgs l ++ segV ⟨s, frm2, len2, stamp2, again2⟩) :: flowsR (fl2.set s none) :: lstG lb fr2 ol la' :: L) w → Sep w0 F ([queueG b ⟨c, fl1.set s (some ⟨fb, ⟨cr, nx, si, l ++ [⟨s, frm2, len2, stamp2, again2⟩]⟩, fa2, fc2⟩), lb, tb, fr2, ol, la', n + 1⟩] ++ L) w := fun h => by
    rw [← hsgs] at h
    have h2 := queueShutF hx2 hm2 h
    rw [← hfl2, List.set_set] at h2
    exact h2
  have hmb : m ≤ 100000 := by omega
  clear hfl2 hx2 hm hm2 hsgs h8 h82 hwl kWk kF kC kW kW2
  go_wp2_with (first | go_skip | (refine ck_load hS rfl rfl rfl (by (repeat (first | exact mH _ | apply mT)) <;> fail) hfp (by decide +kernel) ?_; simp only [Act.put, spA, spZ, spS]) | (refine ck_load hS rfl rfl rfl (by (repeat (first | exact mH _ | apply mT)) <;> fail) hn (by decide +kernel) ?_; simp only [Act.put, spA, spZ, spS]) | (refine ck_store hS rfl rfl rfl (by constructor) (by (repeat (first | exact uH _ _ _ | apply uT)) <;> fail) (by rw [hlen]; omega) rfl (by decide +kernel) ?_; clear hS; intro w hS; rw [hset] at hS; simp only [Act.put, spA, spZ, spS]) | (refine ck_load hS rfl rfl rfl (by (repeat (first | exact mH _ | apply mT)) <;> fail) rfl (by decide +kernel) ?_; simp only [Act.put, spA, spZ, spS]) | (refine ck_store hS rfl rfl rfl (by constructor) (by (repeat (first | exact uH _ _ _ | apply uT)) <;> fail) (by simp <;> omega) rfl (by decide +kernel) ?_; clear hS; intro w hS; simp only [Act.put, spA, spZ, spS] at hS ⊢) | (refine ck_box hS rfl rfl (by constructor) ?_; clear hS; intro nb w hS; simp only [Act.put, spA, spZ, spS]) | (refine ck_region (fun _ => fb) (fun i => if i = 6 then [4] else []) ([4]) hS (by kernel_rfl) (by decide +kernel) ?_ ?_; exact ⟨fun _ _ _ h => h.2, fun _ _ h => h⟩; clear hS; intro w hS _; (repeat (first | (apply wpT_pure rfl rfl; (intro _; go_simp; (try (go_ints; (try go_simp))); (first | (rw [decide_eq_true]; omega) | (rw [decide_eq_false]; omega) | rfl | rw [if_pos (by omega)])); simp only [Act.put, spA, spZ, spS]) | (refine ckT_load hS rfl rfl rfl (by simp <;> fail) (by (repeat (first | exact mH _ | apply mT)) <;> fail) rfl (by decide +kernel) ?_; simp only [Act.put, spA, spZ, spS]) | (refine ckT_store hS rfl rfl rfl (by constructor) (by (repeat (first | exact uH _ _ _ | apply uT)) <;> fail) (by simp <;> fail) rfl (by decide +kernel) (by simp <;> fail) ?_; clear hS; intro w hS; simp only [Act.put, spA, spZ, spS] at hS ⊢) | (refine ckT_loadAll hS rfl rfl rfl (by simp <;> fail) (by (repeat (first | exact mH _ | apply mT)) <;> fail) rfl (by (try simp only [List.length_cons, List.length_nil, Nat.zero_add, Nat.reduceAdd]); decide +kernel) ?_; simp only [Act.put, spA, spZ, spS]) | (refine ckT_buildE (e := 44) (sz := 5) (news := segV ⟨s, frm2, len2, stamp2, again2⟩) hS rfl rfl rfl rfl (by omega) (by omega) (by decide +kernel) (by intro j hj; simp at hj <;> exact hS.ptsLt (T := 106) (by (repeat (first | exact mH _ | apply mT)) <;> fail)) ?_; clear hS; intro q w hS; simp only [Act.put, spA, spZ, spS]) | (refine ckT_appendO (e := 44) (sz := 5) (n' := m + 1) (news := segV ⟨s, frm2, len2, stamp2, again2⟩) hS rfl rfl rfl rfl (by (repeat (first | exact rH _ _ | apply rT)) <;> fail) (pts_cells (hS.holds _ (by (repeat (first | exact mH _ | apply mT)) <;> fail))) rfl (by simp [Value.oneCell']) (by omega) (by omega) (by decide +kernel) rfl rfl ?_; clear hS; intro fa2 fc2 w hS; simp only [Act.put, spA, spZ, spS]))); refine wpT_nil ?_) | (refine ck_region (fun _ => 0) (fun _ => []) [] hS (by kernel_rfl) (by decide +kernel) ?_ ?_; exact ⟨fun _ _ _ h => h.2, fun _ _ h => h⟩; clear hS; intro w hS _; (repeat (first | (apply wpT_pure rfl rfl; (intro _; go_simp; (try (go_ints; (try go_simp))); (first | (rw [decide_eq_true]; omega) | (rw [decide_eq_false]; omega) | rfl | rw [if_pos (by omega)])); simp only [Act.put, spA, spZ, spS]) | (refine ckT_load hS rfl rfl rfl (by simp <;> fail) (by (repeat (first | exact mH _ | apply mT)) <;> fail) rfl (by decide +kernel) ?_; simp only [Act.put, spA, spZ, spS]) | (refine ckT_store hS rfl rfl rfl (by constructor) (by (repeat (first | exact uH _ _ _ | apply uT)) <;> fail) (by simp <;> fail) rfl (by decide +kernel) (by simp <;> fail) ?_; clear hS; intro w hS; simp only [Act.put, spA, spZ, spS] at hS ⊢) | (refine ckT_load hS rfl rfl rfl (by simp <;> fail) (by (repeat (first | exact mH _ | apply mT)) <;> fail) hfp (by decide +kernel) ?_; simp only [Act.put, spA, spZ, spS]))); refine wpT_nil ?_))
  go_ret2
  have j1 := (hS.bring (r := pts q (segV ⟨s, frm2, len2, stamp2, again2⟩) 44) (by (repeat (first | exact rH _ _ | apply rT)) <;> fail)).drop
  have j2 := (j1.bring (r := pts sp (segV ⟨s, frm2, len2, stamp2, again2⟩) 44) (by (repeat (first | exact rH _ _ | apply rT)) <;> fail)).drop
  have j3 := j2.bring (r := flP fb cr nx si fa2 (m + 1) fc2) (by (repeat (first | exact rH _ _ | apply rT)) <;> fail)
  have j4 := j3.bring (r := qP b c fl2 lb tb (n + 1)) (by (repeat (first | exact rH _ _ | apply rT)) <;> fail)
  exact ⟨_, ⟨rfl, ⟨fb, ⟨cr, nx, si, l ++ [⟨s, frm2, len2, stamp2, again2⟩]⟩, fa2, fc2⟩, la', rfl, rfl⟩, hfin j4⟩
end
end Go.Proofs.YtcegknecikbbkaaGreat

/- A queue: send. -/
set_option linter.unusedVariables false
set_option linter.unusedSimpArgs false
set_option maxRecDepth 4000
namespace Go.Proofs.YtcegknecikbbkaaGreat
open Go.RowKit
theorem sgs_head {x : SegM} {r : List SegM} : ∀ (j : Nat) (v : Value), (segV x)[j]? = some v → (segV x ++ sgs r)[0 + j]? = some v := fun j v h => by
  rw [Nat.zero_add, List.getElem?_append_left (List.getElem?_eq_some_iff.1 h).1]; exact h
theorem lesser_bd {a b : Int} (h0 : 0 ≤ a) (h1 : a ≤ 18446744073709551615) (h2 : 0 ≤ b) (h3 : b ≤ 18446744073709551615) : 0 ≤ lesser a b ∧ lesser a b ≤ 18446744073709551615 := by
  unfold lesser
  split <;> split <;> omega
set_option maxHeartbeats 8000000 in
theorem qsend_ct (b : Nat) (c : CfgM) (fl : List (Option FlowA)) (lb tb : Nat) (fr ol : List Int) (la : LA) (n : Int) (h8 : fl.length = 8) (now rate : Int) (s fb : Nat) (cr nx si : Int) (x : SegM) (r : List SegM) (fa : Option Addr) (fc : Nat) (hx : fl[s]? = some (some ⟨fb, ⟨cr, nx, si, x :: r⟩, fa, fc⟩))
    (n0 : 0 ≤ now) (n1 : now ≤ 18446744073709551615) (r0 : 0 ≤ rate) (r1 : rate ≤ 18446744073709551615) (m0 : 0 ≤ c.maxRate) (m1 : c.maxRate ≤ 18446744073709551615) (x0 : 0 ≤ x.len) (x1 : x.len ≤ 65536) (c0 : -1000000 ≤ cr) (c1 : cr ≤ 1000000) (k0 : -100000 ≤ n) (k1 : n ≤ 100000) :
    Ct Tryz.prog 58 #[.pointer (some ⟨b, 0, none⟩), .pointer (some ⟨fb, 0, none⟩), .int .u64 now, .int .u64 rate] [queueG b ⟨c, fl, lb, tb, fr, ol, la, n⟩]
      (fun v L => v = segA x ∧ ∃ f' : FlowA, f'.m = ⟨cr - x.len, satAdd now (delayOf x.len (lesser rate c.maxRate)), si, r⟩ ∧ L = [queueG b ⟨c, fl.set s (some f'), lb, tb, fr, ol, la, n - 1⟩]) := by
  have kL := lesser_ct rate c.maxRate r0 r1 m0 m1
  obtain ⟨q0, q1⟩ := lesser_bd r0 r1 m0 m1
  generalize lesser rate c.maxRate = rt at *
  have kD := delayOf_ct x.len rt (by omega) (by omega) q0 q1
  obtain ⟨d0, d1⟩ := delayOf_bd x.len rt q0
  generalize delayOf x.len rt = dl at *
  have kA := satAdd_ct now dl n0 n1 d0 (by omega)
  generalize satAdd now dl = nx2 at *
  obtain ⟨m, hm⟩ : ∃ m, r.length = m := ⟨_, rfl⟩
  have hm1 : (x :: r).length = m + 1 := by simp [hm]
  have hn := qC_n (c := c) (lb := lb) (tb := tb) (n := n) h8
  have hset := qC_setn (c := c) (lb := lb) (tb := tb) (n := n) (n' := n - 1) h8
  have hlen := qC_len (c := c) (lb := lb) (tb := tb) (n := n) h8
  obtain ⟨qn, fs, lim, flim, hz, mr, dh, cap, mss⟩ := c
  obtain ⟨sock, frm, len, stamp, again⟩ := x
  dsimp only at kD kL x0 x1
  intro w0 F L w hS
  simp only [List.cons_append, List.nil_append] at hS
  have hS := (queueOpenF hx hm1).1 hS
  have hfin : ∀ {w : World} {fa2 : Option Addr} {fc2 : Nat}, Sep w0 F (qP b ⟨qn, fs, lim, flim, hz, mr, dh, cap, mss⟩ fl lb tb (n - 1) :: flP fb (cr - len) nx2 si fa2 m fc2 :: flRow fa2 m fc2 r :: flowsR (fl.set s none) :: lstG lb fr ol la :: L) w → Sep w0 F ([queueG b ⟨⟨qn, fs, lim, flim, hz, mr, dh, cap, mss⟩, fl.set s (some ⟨fb, ⟨cr - len, nx2, si, r⟩, fa2, fc2⟩), lb, tb, fr, ol, la, n - 1⟩] ++ L) w := fun h => queueShutF hx hm h
  obtain ⟨g, off, rfl⟩ := hS.rowOSome (a := fa) (n := m + 1) (cap := fc) (e := 44) (sz := 5) (xs := sgs (⟨sock, frm, len, stamp, again⟩ :: r)) (by (repeat (first | exact mH _ | apply mT)) <;> fail) (by omega)
  simp only [flRow, sgs_cons] at hS
  clear hx hm hm1
  go_enter Tryz.func58, Tryz.ntmps58
  go_wp2_with (first | go_skip | (refine ck_load hS rfl rfl rfl (by (repeat (first | exact mH _ | apply mT)) <;> fail) hn (by decide +kernel) ?_; simp only [Act.put, spA, spZ, spS]) | (refine ck_store hS rfl rfl rfl (by constructor) (by (repeat (first | exact uH _ _ _ | apply uT)) <;> fail) (by rw [hlen]; omega) rfl (by decide +kernel) ?_; clear hS; intro w hS; rw [hset] at hS; simp only [Act.put, spA, spZ, spS]) | (refine ck_loadAll hS rfl rfl rfl (by (repeat (first | exact mH _ | apply mT)) <;> fail) rfl (by (try simp only [List.length_cons, List.length_nil, Nat.zero_add, Nat.reduceAdd]); decide +kernel) ?_; simp only [Act.put, spA, spZ, spS]) | (refine ck_storeAll hS rfl rfl rfl rfl (by (repeat (first | exact uH _ _ _ | apply uT)) <;> fail) (by rfl) rfl (by (try simp only [List.length_cons, List.length_nil, Nat.zero_add, Nat.reduceAdd]); decide +kernel) ?_; clear hS; intro w hS; simp only [Act.put, spA, spZ, spS]) | (refine ck_load hS rfl rfl rfl (by (repeat (first | exact mH _ | apply mT)) <;> fail) rfl (by decide +kernel) ?_; simp only [Act.put, spA, spZ, spS]) | (refine ck_store hS rfl rfl rfl (by constructor) (by (repeat (first | exact uH _ _ _ | apply uT)) <;> fail) (by simp <;> omega) rfl (by decide +kernel) ?_; clear hS; intro w hS; simp only [Act.put, spA, spZ, spS] at hS ⊢) | (have h1 := t8b; clear h1; refine ck_alloc (t := 44) (v := segA ⟨0, 0, 0, 0, false⟩) (cs := segV ⟨0, 0, 0, 0, false⟩) hS rfl rfl (by kernel_rfl) rfl ?_; clear hS; intro ts w hS; simp only [Act.put, spA, spZ, spS]) | (refine ck_alloc (t := 44) (v := segA ⟨0, 0, 0, 0, false⟩) (cs := segV ⟨0, 0, 0, 0, false⟩) hS rfl rfl (by kernel_rfl) rfl ?_; clear hS; intro t8b w hS; simp only [Act.put, spA, spZ, spS]) | (refine ck_celN (vs := segV ⟨sock, frm, len, stamp, again⟩) (hS.celO (k := 0) (n := m + 1) (cap := fc) (e := 44) (sz := 5) (xs := segV ⟨sock, frm, len, stamp, again⟩ ++ sgs r) (by (repeat (first | exact mH _ | apply mT)) <;> fail) rfl sgs_head) rfl rfl rfl (by (try simp only [List.length_cons, List.length_nil, Nat.zero_add, Nat.reduceAdd]); decide +kernel) ?_; simp only [Act.put, spA, spZ, spS]) | (refine ck_tailO (e := 44) (sz := 5) (ys := segV ⟨sock, frm, len, stamp, again⟩) hS rfl rfl rfl rfl (by (repeat (first | exact rH _ _ | apply rT)) <;> fail) rfl (by decide +kernel) ?_; clear hS; intro fa2 fc2 hS; simp only [Act.put, spA, spZ, spS]) | (refine ck_region (fun _ => 0) (fun _ => []) [] hS (by kernel_rfl) (by decide +kernel) ?_ ?_; exact ⟨fun _ _ _ h => h.2, fun _ _ h => h⟩; clear hS; intro w hS _; (repeat (first | (apply wpT_pure rfl rfl; (intro _; go_simp; (try (go_ints; (try go_simp))); (first | (rw [decide_eq_true]; omega) | (rw [decide_eq_false]; omega) | rfl | rw [if_pos (by omega)])); simp only [Act.put, spA, spZ, spS]) | (refine ckT_load hS rfl rfl rfl (by simp <;> fail) (by (repeat (first | exact mH _ | apply mT)) <;> fail) rfl (by decide +kernel) ?_; simp only [Act.put, spA, spZ, spS]) | (refine ckT_store hS rfl rfl rfl (by constructor) (by (repeat (first | exact uH _ _ _ | apply uT)) <;> fail) (by simp <;> fail) rfl (by decide +kernel) (by simp <;> fail) ?_; clear hS; intro w hS; simp only [Act.put, spA, spZ, spS] at hS ⊢) )); refine wpT_nil ?_) | (refine ck_region (fun _ => ts) (fun i => if i = 10 then [3] else []) ([3]) hS (by kernel_rfl) (by decide +kernel) ?_ ?_; exact ⟨fun _ _ _ h => h.2, fun _ _ h => h⟩; clear hS; intro w hS _; (repeat (first | (apply wpT_pure rfl rfl; (intro _; go_simp; (try (go_ints; (try go_simp))); (first | (rw [decide_eq_true]; omega) | (rw [decide_eq_false]; omega) | rfl | rw [if_pos (by omega)])); simp only [Act.put, spA, spZ, spS]) | (refine ckT_load hS rfl rfl rfl (by simp <;> fail) (by (repeat (first | exact mH _ | apply mT)) <;> fail) rfl (by decide +kernel) ?_; simp only [Act.put, spA, spZ, spS]) | (refine ckT_store hS rfl rfl rfl (by constructor) (by (repeat (first | exact uH _ _ _ | apply uT)) <;> fail) (by simp <;> fail) rfl (by decide +kernel) (by simp <;> fail) ?_; clear hS; intro w hS; simp only [Act.put, spA, spZ, spS] at hS ⊢) | (refine ckT_call0 hS rfl (kL) rfl (by kernel_rfl) rfl (by intro j hj; simp at hj <;> (first | (subst hj; exact Or.inr ⟨_, _, (by (repeat (first | exact mH _ | apply mT)) <;> fail), (by (repeat (first | exact mH _ | apply mT)) <;> fail)⟩) | (rcases hj with rfl | rfl <;> exact Or.inr ⟨_, _, (by (repeat (first | exact mH _ | apply mT)) <;> fail), (by (repeat (first | exact mH _ | apply mT)) <;> fail)⟩) | (rcases hj with rfl | rfl | rfl <;> exact Or.inr ⟨_, _, (by (repeat (first | exact mH _ | apply mT)) <;> fail), (by (repeat (first | exact mH _ | apply mT)) <;> fail)⟩) | (rcases hj with rfl | rfl | rfl | rfl <;> exact Or.inr ⟨_, _, (by (repeat (first | exact mH _ | apply mT)) <;> fail), (by (repeat (first | exact mH _ | apply mT)) <;> fail)⟩))) ?_; clear hS; intro w hS; simp only [Act.put, spA, spZ, spS]) | (refine ckT_call0 hS rfl (kD) rfl (by kernel_rfl) rfl (by simp <;> fail) ?_; clear hS; intro w hS; simp only [Act.put, spA, spZ, spS]) | (refine ckT_call0 hS rfl (kA) rfl (by kernel_rfl) rfl (by simp <;> fail) ?_; clear hS; intro w hS; simp only [Act.put, spA, spZ, spS]))); refine wpT_nil ?_))
  refine bodyPost_ret (ckRes_cell hS (cs := segV ⟨sock, frm, len, stamp, again⟩) (b := t8b) (T := 44) (by (repeat (first | exact mH _ | apply mT)) <;> fail) rfl rfl rfl (by (try simp only [List.length_cons, List.length_nil, Nat.zero_add, Nat.reduceAdd]); decide +kernel)) rfl ?_
  have j1 := (hS.bring (r := pts ts (segV ⟨sock, frm, len, stamp, again⟩) 44) (by (repeat (first | exact rH _ _ | apply rT)) <;> fail)).drop
  have j2 := (j1.bring (r := pts t8b (segV ⟨sock, frm, len, stamp, again⟩) 44) (by (repeat (first | exact rH _ _ | apply rT)) <;> fail)).drop
  have j3 := j2.bring (r := rowO fa2 m fc2 44 5 (sgs r)) (by (repeat (first | exact rH _ _ | apply rT)) <;> fail)
  have j4 := j3.bring (r := flP fb (cr - len) nx2 si fa2 m fc2) (by (repeat (first | exact rH _ _ | apply rT)) <;> fail)
  have j5 := j4.bring (r := qP b ⟨qn, fs, lim, flim, hz, mr, dh, cap, mss⟩ fl lb tb (n - 1)) (by (repeat (first | exact rH _ _ | apply rT)) <;> fail)
  exact ⟨_, ⟨rfl, ⟨fb, ⟨cr - len, nx2, si, r⟩, fa2, fc2⟩, rfl, rfl⟩, hfin j5⟩
/-- Is there an old one? -/
def olB (p : List (Int × Bool)) : Bool := p.any fun x => !x.2
abbrev olGo (p : List (Int × Bool)) : Bool := p.all fun x => x.2
theorem olB_go (p : List (Int × Bool)) : olB p = !olGo p := by
  unfold olB olGo
  induction p with
  | nil => rfl
  | cons x r ih => rw [List.any_cons, List.all_cons, ih]; cases x.2 <;> simp
theorem okP_ol {p : List (Int × Bool)} (h : okP olGo p = true) : olGo p = true := by
  cases p with
  | nil => rfl
  | cons x r => simpa [okP] using h
theorem runP_ol : ∀ (ps acc : List (Int × Bool)), olGo acc = true → olB (runP olGo acc ps) = olB ps ∧ okP olGo (runP olGo acc ps) = !olB ps
  | [], acc, h => by
    rw [show runP olGo acc [] = acc from rfl, olB_go acc, h]
    exact ⟨rfl, by unfold okP; rw [h]; simp [olB]⟩
  | x :: r, acc, h => by
    unfold runP
    have hg : olGo (acc ++ [x]) = x.2 := by unfold olGo at *; rw [List.all_append, h]; simp
    by_cases hx : x.2 = true
    · rw [if_pos (by rw [hg]; exact hx)]
      have h1 : olB (x :: r) = olB r := by unfold olB; rw [List.any_cons, hx]; rfl
      rw [h1]
      exact runP_ol r (acc ++ [x]) (by rw [hg]; exact hx)
    · have hx' : x.2 = false := by simpa using hx
      rw [if_neg (by rw [hg]; exact hx)]
      have h1 : olB (x :: r) = true := by unfold olB; rw [List.any_cons, hx']; rfl
      rw [h1, olB_go, hg, hx']
      exact ⟨rfl, by unfold okP; rw [hg, hx']; cases acc <;> rfl⟩
set_option maxHeartbeats 4000000 in
theorem qold_ct (b : Nat) (c : CfgM) (fl : List (Option FlowA)) (lb tb : Nat) (fr ol : List Int) (la : LA) (n : Int) (h8 : fl.length = 8) (hsm : fr.length + ol.length ≤ 1000) :
    Ct Tryz.prog 53 #[.pointer (some ⟨b, 0, none⟩)] [queueG b ⟨c, fl, lb, tb, fr, ol, la, n⟩] (Gives (.bool (olB (lsP fr ol))) [queueG b ⟨c, fl, lb, tb, fr, ol, la, n⟩]) := by
  have hI := fun bx => lstIter bx lb fr ol la hsm
  have hlb := qC_lb (c := c) (lb := lb) (tb := tb) (n := n) h8
  obtain ⟨ps, hps⟩ : ∃ ps, lsP fr ol = ps := ⟨_, rfl⟩
  rw [hps] at hI ⊢
  clear hps hsm
  intro w0 F L w hS
  simp only [List.cons_append, List.nil_append] at hS
  have hS := queueOpen.1 hS
  refine calls_of_wpM Tryz.func53 rfl ?_
  simp only [Tryz.ntmps53, List.size_toArray, List.length_cons, List.length_nil, Nat.reduceAdd, Nat.reduceSub, Array.replicate_succ, Array.replicate_zero, List.push_toArray, List.append_toArray, List.nil_append, List.cons_append]
  go_wp2_with (first | go_skip | (refine ck_load hS rfl rfl rfl (by (repeat (first | exact mH _ | apply mT)) <;> fail) hlb (by decide +kernel) ?_; simp only [Act.put, spA, spZ, spS]) | (refine ck_load hS rfl rfl rfl (by (repeat (first | exact mH _ | apply mT)) <;> fail) rfl (by decide +kernel) ?_; simp only [Act.put, spA, spZ, spS]) | (refine ck_store hS rfl rfl rfl (by constructor) (by (repeat (first | exact uH _ _ _ | apply uT)) <;> fail) (by simp <;> omega) rfl (by decide +kernel) ?_; clear hS; intro w hS; simp only [Act.put, spA, spZ, spS] at hS ⊢) | (refine ck_alloc (t := 4) (v := .bool false) (cs := [.bool false]) hS rfl rfl (by kernel_rfl) rfl ?_; clear hS; intro x4 w hS; simp only [Act.put, spA, spZ, spS]) | (go_at_call 83; with_reducible refine Ct.callN (lstAll_ct _) hS ?_; clear hS; rintro _ _ w ⟨bx, rfl, rfl⟩ hS; simp only [List.cons_append, List.nil_append] at hS))
  have hS1 : Sep w0 F (grpR [pts x4 [.bool (olB [])] 4, qP b c fl lb tb n] :: ([pts bx [.pointer (some ⟨lb, 0, none⟩)] 96, lstG lb fr ol la] ++ (flowsR fl :: L))) w := by
    have k0 := hS.bring (r := flowsR fl) (by (repeat (first | exact rH _ _ | apply rT)) <;> fail)
    have k1 := k0.bring (r := lstG lb fr ol la) (by (repeat (first | exact rH _ _ | apply rT)) <;> fail)
    have k2 := k1.bring (r := pts bx [.pointer (some ⟨lb, 0, none⟩)] 96) (by (repeat (first | exact rH _ _ | apply rT)) <;> fail)
    have k3 := k2.bring (r := qP b c fl lb tb n) (by (repeat (first | exact rH _ _ | apply rT)) <;> fail)
    have k5 := k3.bring (r := pts x4 [.bool false] 4) (by (repeat (first | exact rH _ _ | apply rT)) <;> fail)
    exact k5.grp2
  clear hS
  refine ck_rangeFunc (B := fun (_ : Unit) (p : List (Int × Bool)) => grpR [pts x4 [.bool (olB p)] 4, qP b c fl lb tb n]) (go := olGo) (A0 := ()) hS1 (hI bx) rfl (fun _ => run_enter (P := Tryz.prog) (f := 121) (by kernel_rfl)) (fun _ => rfl) ?round ?fin
  case round =>
    intro l pre x suf hx hok _ w0 F L w hS
    have hpre := okP_ol hok
    obtain ⟨x, f⟩ := x
    have hp0 : olB pre = false := by rw [olB_go, hpre]; rfl
    have hg : olGo (pre ++ [(x, f)]) = f := by unfold olGo at *; rw [List.all_append, hpre]; simp
    have hp1 : olB (pre ++ [(x, f)]) = !f := by rw [olB_go, hg]
    rw [hp0] at hS ⊢
    rw [hg, hp1]
    clear hx hok hpre hg hp1 hp0
    cases f
    all_goals
      simp
      gi_wp2_with (first | (refine ckI_skip rfl ?_; simp only [Act.put, spA, spZ, spS]) | (refine ckI_load hS rfl rfl rfl (by (repeat (first | exact mH _ | apply mT)) <;> fail) rfl (by decide +kernel) ?_; simp only [Act.put, spA, spZ, spS]) | (refine ckI_store hS rfl rfl rfl (by constructor) (by (repeat (first | exact uH _ _ _ | apply uT)) <;> fail) (by simp <;> omega) rfl (by decide +kernel) ?_; clear hS; intro w hS; simp only [Act.put, spA, spZ, spS]) | (apply ckI_pure rfl rfl; (intro _; go_simp; (try (go_ints; (try go_simp))); (first | (rw [decide_eq_true]; omega) | (rw [decide_eq_false]; omega) | rfl | rw [if_pos (by omega)])); simp only [Act.put, spA, spZ, spS]))
      refine ⟨[], hS, ?_⟩
      clear hS
      intro L w hS1
      have hS := Sep.grp.2 hS1
      clear hS1
      simp only [List.cons_append, List.nil_append] at hS
      (repeat (first | (refine ckI_load hS rfl rfl rfl (by (repeat (first | exact mH _ | apply mT)) <;> fail) rfl (by decide +kernel) ?_; simp only [Act.put, spA, spZ, spS]) | (refine ckI_store hS rfl rfl rfl (by constructor) (by (repeat (first | exact uH _ _ _ | apply uT)) <;> fail) (by simp <;> omega) rfl (by decide +kernel) ?_; clear hS; intro w hS; simp only [Act.put, spA, spZ, spS]) | (refine ckI_skip rfl ?_; simp only [Act.put, spA, spZ, spS]) | (apply ckI_pure rfl rfl; (intro _; go_simp; (try (go_ints; (try go_simp))); (first | (rw [decide_eq_true]; omega) | (rw [decide_eq_false]; omega) | rfl | rw [if_pos (by omega)])); simp only [Act.put, spA, spZ, spS]) | go_values | gi_guarded | gi_step | gi_upon))
      exact ⟨rfl, hS.grp2⟩
  case fin =>
    intro D _ w hS
    have hfin : ∀ {w : World} {L : List Res} {u : Value} {fn : Func} {a : Act}, Sep w0 F (pts x4 [u] 4 :: qP b c fl lb tb n :: pts bx [.pointer (some ⟨lb, 0, none⟩)] 96 :: lstG lb fr ol la :: flowsR fl :: L) w → fn.results = #[.cell 2 4] → a.tmps.getD 2 undef = .pointer (some ⟨x4, 0, none⟩) →
        (results fn a.tmps).run Tryz.prog w = .ok u w ∧ Sep w0 F ([queueG b ⟨c, fl, lb, tb, fr, ol, la, n⟩] ++ L) w := fun h h1 h2 => ⟨ckRes_c1 h (by (repeat (first | exact mH _ | apply mT)) <;> fail) h1 h2 (by decide +kernel), queueOpen.2 (by
          have k1 := h.drop
          have k2 := (k1.bring (r := pts bx [.pointer (some ⟨lb, 0, none⟩)] 96) (by (repeat (first | exact rH _ _ | apply rT)) <;> fail)).drop
          exact k2.perm (.cons _ (.swap _ _ _)))⟩
    obtain ⟨e1, e2⟩ := runP_ol ps [] rfl
    rw [e1] at hS
    rw [e2]
    simp only [List.cons_append, List.nil_append] at hS ⊢
    have k1 := Sep.grp.2 (hS.bring (r := grpR [pts x4 [.bool (olB ps)] 4, qP b c fl lb tb n]) (by (repeat (first | exact rH _ _ | apply rT)) <;> fail))
    clear hS
    have hS := k1
    clear k1 e1 e2
    simp only [List.cons_append, List.nil_append] at hS
    cases hf : olB ps
    · rw [hf] at hS
      simp only [Bool.not_false, if_true]
      go_wp2_with (first | go_skip | (refine ck_load hS rfl rfl rfl (by (repeat (first | exact mH _ | apply mT)) <;> fail) rfl (by decide +kernel) ?_; simp only [Act.put, spA, spZ, spS]) | (refine ck_store hS rfl rfl rfl (by constructor) (by (repeat (first | exact uH _ _ _ | apply uT)) <;> fail) (by simp <;> omega) rfl (by decide +kernel) ?_; clear hS; intro w hS; simp only [Act.put, spA, spZ, spS] at hS ⊢) )
      exact ckM_end (.inr rfl) (hS.bring (r := objR D (.deferred (some []))) (by (repeat (first | exact rH _ _ | apply rT)) <;> fail)) rfl (fun w hS => ⟨(hfin (u := .bool false) hS rfl rfl).1, _, ⟨by first | rfl | rw [hf], rfl⟩, (hfin (u := .bool false) (fn := Tryz.f53) (a := ⟨#[undef, undef, .pointer (some ⟨x4, 0, none⟩)], []⟩) hS rfl rfl).2⟩)
    · rw [hf] at hS
      simp only [Bool.not_true, Bool.false_eq_true, if_false]
      go_wp2_with (first | go_skip | (refine ck_load hS rfl rfl rfl (by (repeat (first | exact mH _ | apply mT)) <;> fail) rfl (by decide +kernel) ?_; simp only [Act.put, spA, spZ, spS]) | (refine ck_store hS rfl rfl rfl (by constructor) (by (repeat (first | exact uH _ _ _ | apply uT)) <;> fail) (by simp <;> omega) rfl (by decide +kernel) ?_; clear hS; intro w hS; simp only [Act.put, spA, spZ, spS] at hS ⊢) )
      exact ckM_end (.inr rfl) (hS.bring (r := objR D (.deferred (some []))) (by (repeat (first | exact rH _ _ | apply rT)) <;> fail)) rfl (fun w hS => ⟨(hfin (u := .bool true) hS rfl rfl).1, _, ⟨by first | rfl | rw [hf], rfl⟩, (hfin (u := .bool true) (fn := Tryz.f53) (a := ⟨#[undef, undef, .pointer (some ⟨x4, 0, none⟩)], []⟩) hS rfl rfl).2⟩)
end Go.Proofs.YtcegknecikbbkaaGreat

/- What arena's functions come to. -/
set_option linter.unusedVariables false
set_option linter.unusedSimpArgs false
set_option maxRecDepth 4000
namespace Go.Proofs.YtcegknecikbbkaaGreat
open Go.RowKit
abbrev vB (l : List Bool) : List Value := l.map .bool
abbrev vI (l : List Nat) : List Value := l.map fun n : Nat => Value.int .i64 (n : Int)
abbrev arenaP (b : Nat) (room : Int) (a1 : Option Addr) (n1 c1 : Nat) (a2 : Option Addr) (n2 c2 : Nat) : Res := pts b [.slice a1 n1 c1, .slice a2 n2 c2, .int .i64 room] 226
/-- An arena: which are out, which were freed. -/
def arenaL (b : Nat) (room : Int) (used : List Bool) (freed : List Nat) (a1 : Option Addr) (c1 : Nat) (a2 : Option Addr) (c2 : Nat) : List Res :=
  [arenaP b room a1 used.length c1 a2 freed.length c2, rowR a1 used.length c1 4 1 (vB used), rowR a2 freed.length c2 3 1 (vI freed)]
def ArenaAt (b : Nat) (room : Int) (used : List Bool) (freed : List Nat) (L : List Res) : Prop := ∃ a1 c1 a2 c2, L = arenaL b room used freed a1 c1 a2 c2
abbrev Arena (v : Value) (b : Nat) (room : Int) (used : List Bool) (freed : List Nat) : Value → List Res → Prop := fun v' L => v' = v ∧ ArenaAt b room used freed L
theorem arenaNew_ct (n : Int) : Ct Tryz.prog 76 #[.int .i64 n] [] (fun v L => ∃ b, v = .pointer (some ⟨b, 0, none⟩) ∧ ArenaAt b (min (max n 0) 4096) [] [] L) := by
  intro w0 F L w hS
  simp only [List.cons_append, List.nil_append] at hS
  go_enter Tryz.func76, Tryz.ntmps76
  go_wp2_with (first | go_skip | (refine ck_box hS rfl rfl (by constructor) ?_; clear hS; intro nb w hS; simp only [Act.put, spA, spZ, spS]) | (refine ck_max rfl rfl rfl rfl ?_; simp only [Act.put, spA, spZ, spS]) | (refine ck_min rfl rfl rfl rfl ?_; simp only [Act.put, spA, spZ, spS]) )
  go_ret
  have h1 := hS.nilRow (e := 3) (sz := 1)
  have h2 := h1.nilRow (e := 4) (sz := 1)
  have h3 := h2.bring (r := arenaP nb (min (max n 0) 4096) none 0 0 none 0 0) (by (repeat (first | exact rH _ _ | apply rT)) <;> fail)
  exact ⟨_, ⟨_, rfl, none, 0, none, 0, rfl⟩, h3⟩
section
variable (b : Nat) (room : Int) (used : List Bool) (freed : List Nat) (a1 : Option Addr) (c1 : Nat) (a2 : Option Addr) (c2 : Nat)
theorem arenaGetFull_ct (hr0 : 0 ≤ room) (hf : freed = []) (hu : room ≤ used.length) (hu2 : used.length ≤ 4096) : Ct Tryz.prog 87 #[.pointer (some ⟨b, 0, none⟩)] (arenaL b room used freed a1 c1 a2 c2) (Arena (.tuple #[.int .i64 0, .int .i64 5]) b room used freed) := by
  subst hf
  unfold arenaL
  intro w0 F L w hS
  simp only [List.cons_append, List.nil_append] at hS
  go_enter Tryz.func87, Tryz.ntmps87
  go_wp2_with (first | go_skip | (refine ck_load hS rfl rfl rfl (by (repeat (first | exact mH _ | apply mT)) <;> fail) rfl (by decide +kernel) ?_; simp only [Act.put, spA, spZ, spS]) | (refine ck_store hS rfl rfl rfl (by constructor) (by (repeat (first | exact uH _ _ _ | apply uT)) <;> fail) (by simp <;> omega) rfl (by decide +kernel) ?_; clear hS; intro w hS; simp only [Act.put, spA, spZ, spS] at hS ⊢)  | (refine ck_region (fun _ => 0) (fun _ => []) [] hS (by kernel_rfl) (by decide +kernel) ?_ ?_; exact ⟨fun _ _ _ h => h.2, fun _ _ h => h⟩; clear hS; intro w hS _; (repeat (first | (apply wpT_pure rfl rfl; (intro _; go_simp; (try (go_ints; (try go_simp))); (first | (rw [decide_eq_true]; omega) | (rw [decide_eq_false]; omega) | rfl | rw [if_pos (by omega)])); simp only [Act.put, spA, spZ, spS]) | (refine ckT_load hS rfl rfl rfl (by simp <;> fail) (by (repeat (first | exact mH _ | apply mT)) <;> fail) rfl (by decide +kernel) ?_; simp only [Act.put, spA, spZ, spS]) )); refine wpT_nil ?_))
  go_ret2
  exact ⟨_, ⟨rfl, _, _, _, _, rfl⟩, hS⟩
theorem arenaGetFreed_ct (fs : List Nat) (i : Nat) (hf : freed = fs ++ [i]) (hi : i < used.length) (hu2 : used.length ≤ 4096) (hf2 : fs.length ≤ 4096) : Ct Tryz.prog 87 #[.pointer (some ⟨b, 0, none⟩)] (arenaL b room used freed a1 c1 a2 c2) (Arena (.tuple #[.int .i64 i, .int .i64 0]) b room (used.set i true) fs) := by
  subst hf
  unfold arenaL
  intro w0 F L w hS
  simp only [List.cons_append, List.nil_append] at hS
  go_enter Tryz.func87, Tryz.ntmps87
  rcases (hS.bring (r := rowR a1 used.length c1 4 1 (vB used)) (by (repeat (first | exact rH _ _ | apply rT)) <;> fail)).openRow with ⟨_, h0, _⟩ | ⟨g1, r1, rfl, u1, u2, u3, u4, hS1⟩
  · omega
  rcases (hS1.bring (r := rowR a2 (fs ++ [i]).length c2 3 1 (vI (fs ++ [i]))) (by (repeat (first | exact rH _ _ | apply rT)) <;> fail)).openRow with ⟨_, h0, _⟩ | ⟨g2, r2, rfl, v1, v2, v3, v4, hS2⟩
  · simp at h0
  clear hS hS1
  obtain ⟨n, hn⟩ : ∃ n, fs.length = n := ⟨_, rfl⟩
  have hl : (fs ++ [i]).length = n + 1 := by simp [hn]
  rw [hl] at v1 v2 hS2
  have e1 : (vI (fs ++ [i]) ++ r2)[n]? = some (.int .i64 i) := by simp [← hn]
  have hS := hS2
  clear hS2
  go_wp2_with (first | go_skip | (refine ck_load hS rfl rfl rfl (by (repeat (first | exact mH _ | apply mT)) <;> fail) rfl (by decide +kernel) ?_; simp only [Act.put, spA, spZ, spS]) | (refine ck_store hS rfl rfl rfl (by constructor) (by (repeat (first | exact uH _ _ _ | apply uT)) <;> fail) (by simp <;> omega) rfl (by decide +kernel) ?_; clear hS; intro w hS; simp only [Act.put, spA, spZ, spS] at hS ⊢) | (refine ck_load hS rfl rfl rfl (by (repeat (first | exact mH _ | apply mT)) <;> fail) e1 (by decide +kernel) ?_; simp only [Act.put, spA, spZ, spS]) | (refine ck_region (fun _ => 0) (fun _ => []) [] hS (by kernel_rfl) (by decide +kernel) ?_ ?_; exact ⟨fun _ _ _ h => h.2, fun _ _ h => h⟩; clear hS; intro w hS _; (repeat (first | (apply wpT_pure rfl rfl; (intro _; go_simp; (try (go_ints; (try go_simp))); (first | (rw [decide_eq_true]; omega) | (rw [decide_eq_false]; omega) | rfl | rw [if_pos (by omega)])); simp only [Act.put, spA, spZ, spS]) | (refine ckT_load hS rfl rfl rfl (by simp <;> fail) (by (repeat (first | exact mH _ | apply mT)) <;> fail) rfl (by decide +kernel) ?_; simp only [Act.put, spA, spZ, spS]) )); refine wpT_nil ?_))
  go_ret2
  have k1 := hS.shut (n := n) (cap := c2) (sz := 1) (vI fs) (.int .i64 i :: r2) (by simp) (by simp [hn]) (by omega) v3 (by simpa using v4)
  have k2 := k1.bring (r := pts g1 ((vB used ++ r1).set i (.bool true)) 4) (by (repeat (first | exact rH _ _ | apply rT)) <;> fail)
  have k3 := k2.shut (n := used.length) (cap := c1) (sz := 1) (vB (used.set i true)) r1 (by rw [List.set_append_left _ _ (by simpa using hi)]; simp) (by simp) u2 u3 (by simpa using u4)
  have k4 := k3.bring (r := arenaP b room (some ⟨g1, 0, none⟩) used.length c1 (some ⟨g2, 0, none⟩) n c2) (by (repeat (first | exact rH _ _ | apply rT)) <;> fail)
  refine ⟨_, ⟨rfl, some ⟨g1, 0, none⟩, c1, some ⟨g2, 0, none⟩, c2, rfl⟩, ?_⟩
  unfold arenaL
  rw [List.length_set, hn]
  exact k4
theorem arenaGetNew_ct (hr0 : 0 ≤ room) (hr : room ≤ 4096) (hf : freed = []) (hu : used.length < room) : Ct Tryz.prog 87 #[.pointer (some ⟨b, 0, none⟩)] (arenaL b room used freed a1 c1 a2 c2) (Arena (.tuple #[.int .i64 used.length, .int .i64 0]) b room (used ++ [true]) []) := by
  subst hf
  unfold arenaL
  intro w0 F L w hS
  simp only [List.cons_append, List.nil_append] at hS
  go_enter Tryz.func87, Tryz.ntmps87
  rcases (hS.bring (r := rowR a1 used.length c1 4 1 (vB used)) (by (repeat (first | exact rH _ _ | apply rT)) <;> fail)).openRow with ⟨rfl, h0, h1, _, hS1⟩ | ⟨g1, r1, rfl, u1, u2, u3, u4, hS1⟩
  · clear hS
    have hS := hS1
    clear hS1
    obtain rfl : used = [] := List.eq_nil_of_length_eq_zero h0
    subst h1
    have h2 : 0 < room := by simpa using hu
    go_wp2_with (first | go_skip | (refine ck_load hS rfl rfl rfl (by (repeat (first | exact mH _ | apply mT)) <;> fail) rfl (by decide +kernel) ?_; simp only [Act.put, spA, spZ, spS]) | (refine ck_store hS rfl rfl rfl (by constructor) (by (repeat (first | exact uH _ _ _ | apply uT)) <;> fail) (by simp <;> omega) rfl (by decide +kernel) ?_; clear hS; intro w hS; simp only [Act.put, spA, spZ, spS] at hS ⊢) | (refine ck_build1 (e := 4) hS rfl rfl (by constructor) rfl (by decide +kernel) ?_; clear hS; intro q w hS; simp only [Act.put, spA, spZ, spS]) | (refine ck_append_nil (e := 4) (sz := 1) hS rfl rfl rfl rfl (by (repeat (first | exact mH _ | apply mT)) <;> fail) (by decide +kernel) rfl (by simp <;> fail) (by simp <;> fail) ?_; clear hS; intro g' cap' rest' w hm1 hm2 hm3 hS; simp only [Act.put, spA, spZ, spS]) | (refine ck_region (fun _ => 0) (fun _ => []) [] hS (by kernel_rfl) (by decide +kernel) ?_ ?_; exact ⟨fun _ _ _ h => h.2, fun _ _ h => h⟩; clear hS; intro w hS _; (repeat (first | (apply wpT_pure rfl rfl; (intro _; go_simp; (try (go_ints; (try go_simp))); (first | (rw [decide_eq_true]; omega) | (rw [decide_eq_false]; omega) | rfl | rw [if_pos (by omega)])); simp only [Act.put, spA, spZ, spS]) | (refine ckT_load hS rfl rfl rfl (by simp <;> fail) (by (repeat (first | exact mH _ | apply mT)) <;> fail) rfl (by decide +kernel) ?_; simp only [Act.put, spA, spZ, spS]) )); refine wpT_nil ?_))
    go_ret2
    have k1 := hS.shut (n := 1) (cap := cap') (sz := 1) (vB ([true])) rest' (by simp) (by simp) (by omega) hm2 (by simpa using hm3)
    have k2 := (k1.bring (r := pts q [.bool true] 4) (by (repeat (first | exact rH _ _ | apply rT)) <;> fail)).drop
    have k3 := k2.bring (r := arenaP b room (some ⟨g', 0, none⟩) (1) cap' a2 0 c2) (by (repeat (first | exact rH _ _ | apply rT)) <;> fail)
    refine ⟨_, ⟨rfl, some ⟨g', 0, none⟩, cap', a2, c2, rfl⟩, ?_⟩
    unfold arenaL
    exact k3
  · clear hS
    have hS := hS1
    clear hS1
    go_wp2_with (first | go_skip | (refine ck_load hS rfl rfl rfl (by (repeat (first | exact mH _ | apply mT)) <;> fail) rfl (by decide +kernel) ?_; simp only [Act.put, spA, spZ, spS]) | (refine ck_store hS rfl rfl rfl (by constructor) (by (repeat (first | exact uH _ _ _ | apply uT)) <;> fail) (by simp <;> omega) rfl (by decide +kernel) ?_; clear hS; intro w hS; simp only [Act.put, spA, spZ, spS] at hS ⊢) | (refine ck_build1 (e := 4) hS rfl rfl (by constructor) rfl (by decide +kernel) ?_; clear hS; intro q w hS; simp only [Act.put, spA, spZ, spS]) | (refine ck_append (e := 4) (sz := 1) hS rfl rfl rfl rfl (by (repeat (first | exact rH _ _ | apply rT)) <;> fail) (by (repeat (first | exact mH _ | apply mT)) <;> fail) (by decide +kernel) rfl rfl u1 (by simpa using u4) u2 u3 (by omega) ?_; clear hS; intro g' cap' rest' w hm1 hm2 hm3 hS; simp only [Act.put, spA, spZ, spS]) | (refine ck_region (fun _ => 0) (fun _ => []) [] hS (by kernel_rfl) (by decide +kernel) ?_ ?_; exact ⟨fun _ _ _ h => h.2, fun _ _ h => h⟩; clear hS; intro w hS _; (repeat (first | (apply wpT_pure rfl rfl; (intro _; go_simp; (try (go_ints; (try go_simp))); (first | (rw [decide_eq_true]; omega) | (rw [decide_eq_false]; omega) | rfl | rw [if_pos (by omega)])); simp only [Act.put, spA, spZ, spS]) | (refine ckT_load hS rfl rfl rfl (by simp <;> fail) (by (repeat (first | exact mH _ | apply mT)) <;> fail) rfl (by decide +kernel) ?_; simp only [Act.put, spA, spZ, spS]) )); refine wpT_nil ?_))
    go_ret2
    have k1 := hS.shut (n := used.length + 1) (cap := cap') (sz := 1) (vB (used ++ [true])) rest' (by simp) (by simp) (by omega) hm2 (by simpa using hm3)
    have k2 := (k1.bring (r := pts q [.bool true] 4) (by (repeat (first | exact rH _ _ | apply rT)) <;> fail)).drop
    have k3 := k2.bring (r := arenaP b room (some ⟨g', 0, none⟩) (used.length + 1) cap' a2 0 c2) (by (repeat (first | exact rH _ _ | apply rT)) <;> fail)
    refine ⟨_, ⟨rfl, some ⟨g', 0, none⟩, cap', a2, c2, rfl⟩, ?_⟩
    unfold arenaL
    rw [List.length_append]
    exact k3
theorem arenaGetZ_ct : Ct Tryz.prog 87 #[.pointer none] [] (Gives (.tuple #[.int .i64 0, .int .i64 2]) []) := by
  intro w0 F L w hS
  simp only [List.cons_append, List.nil_append] at hS
  go_enter Tryz.func87, Tryz.ntmps87
  go_wp2_with (first | go_skip | (refine ck_load hS rfl rfl rfl (by (repeat (first | exact mH _ | apply mT)) <;> fail) rfl (by decide +kernel) ?_; simp only [Act.put, spA, spZ, spS]) | (refine ck_store hS rfl rfl rfl (by constructor) (by (repeat (first | exact uH _ _ _ | apply uT)) <;> fail) (by simp <;> omega) rfl (by decide +kernel) ?_; clear hS; intro w hS; simp only [Act.put, spA, spZ, spS] at hS ⊢)  | (refine ck_region (fun _ => 0) (fun _ => []) [] hS (by kernel_rfl) (by decide +kernel) ?_ ?_; exact ⟨fun _ _ _ h => h.2, fun _ _ h => h⟩; clear hS; intro w hS _; (repeat (first | (apply wpT_pure rfl rfl; (intro _; go_simp; (try (go_ints; (try go_simp))); (first | (rw [decide_eq_true]; omega) | (rw [decide_eq_false]; omega) | rfl | rw [if_pos (by omega)])); simp only [Act.put, spA, spZ, spS]) | (refine ckT_load hS rfl rfl rfl (by simp <;> fail) (by (repeat (first | exact mH _ | apply mT)) <;> fail) rfl (by decide +kernel) ?_; simp only [Act.put, spA, spZ, spS]) )); refine wpT_nil ?_))
  go_ret2
  exact ⟨_, ⟨rfl, rfl⟩, hS⟩
/-- Is the place out? -/
def isOut (used : List Bool) (i : Int) : Bool := decide (0 ≤ i) && (used[i.toNat]?).getD false
theorem arenaHasZ_ct (i : Int) : Ct Tryz.prog 169 #[.pointer none, .int .i64 i] [] (Gives (.bool false) []) := by
  intro w0 F L w hS
  simp only [List.cons_append, List.nil_append] at hS
  go_enter Tryz.func169, Tryz.ntmps169
  go_wp2_with (first | go_skip | (refine ck_load hS rfl rfl rfl (by (repeat (first | exact mH _ | apply mT)) <;> fail) rfl (by decide +kernel) ?_; simp only [Act.put, spA, spZ, spS]) )
  go_ret
  exact ⟨_, ⟨rfl, rfl⟩, hS⟩
theorem arenaHasNo_ct (i : Int) (h : i < 0 ∨ used.length ≤ i) (hu2 : used.length ≤ 4096) : Ct Tryz.prog 169 #[.pointer (some ⟨b, 0, none⟩), .int .i64 i] (arenaL b room used freed a1 c1 a2 c2) (Gives (.bool false) (arenaL b room used freed a1 c1 a2 c2)) := by
  unfold arenaL
  by_cases h0 : i < 0
  · skip
    intro w0 F L w hS
    simp only [List.cons_append, List.nil_append] at hS
    go_enter Tryz.func169, Tryz.ntmps169
    go_wp2_with (first | go_skip | (refine ck_load hS rfl rfl rfl (by (repeat (first | exact mH _ | apply mT)) <;> fail) rfl (by decide +kernel) ?_; simp only [Act.put, spA, spZ, spS]) )
    go_ret
    exact ⟨_, ⟨rfl, rfl⟩, hS⟩
  · have h1 : used.length ≤ i := by omega
    intro w0 F L w hS
    simp only [List.cons_append, List.nil_append] at hS
    go_enter Tryz.func169, Tryz.ntmps169
    go_wp2_with (first | go_skip | (refine ck_load hS rfl rfl rfl (by (repeat (first | exact mH _ | apply mT)) <;> fail) rfl (by decide +kernel) ?_; simp only [Act.put, spA, spZ, spS]) )
    go_ret
    exact ⟨_, ⟨rfl, rfl⟩, hS⟩
theorem arenaHasIn_ct (i : Nat) (x : Bool) (hx : used[i]? = some x) (hu2 : used.length ≤ 4096) : Ct Tryz.prog 169 #[.pointer (some ⟨b, 0, none⟩), .int .i64 i] (arenaL b room used freed a1 c1 a2 c2) (Gives (.bool x) (arenaL b room used freed a1 c1 a2 c2)) := by
  have hi : i < used.length := (List.getElem?_eq_some_iff.1 hx).1
  unfold arenaL
  intro w0 F L w hS
  simp only [List.cons_append, List.nil_append] at hS
  go_enter Tryz.func169, Tryz.ntmps169
  rcases (hS.bring (r := rowR a1 used.length c1 4 1 (vB used)) (by (repeat (first | exact rH _ _ | apply rT)) <;> fail)).openRow with ⟨_, h0, _⟩ | ⟨g1, r1, rfl, u1, u2, u3, u4, hS1⟩
  · omega
  clear hS
  have hS := hS1
  clear hS1
  have e1 : (vB used ++ r1)[i]? = some (.bool x) := by rw [List.getElem?_append_left (by simpa using hi)]; simp [hx]
  go_wp2_with (first | go_skip | (refine ck_load hS rfl rfl rfl (by (repeat (first | exact mH _ | apply mT)) <;> fail) rfl (by decide +kernel) ?_; simp only [Act.put, spA, spZ, spS]) | (refine ck_load hS rfl rfl rfl (by (repeat (first | exact mH _ | apply mT)) <;> fail) e1 (by decide +kernel) ?_; simp only [Act.put, spA, spZ, spS]))
  go_ret
  have k1 := hS.shut (n := used.length) (cap := c1) (sz := 1) (vB used) r1 rfl u1 u2 u3 u4
  exact ⟨_, ⟨rfl, rfl⟩, k1.bring (by (repeat (first | exact rH _ _ | apply rT)) <;> fail)⟩
end
end Go.Proofs.YtcegknecikbbkaaGreat

/- Free, of arena. -/
set_option linter.unusedVariables false
set_option linter.unusedSimpArgs false
set_option maxRecDepth 4000
namespace Go.Proofs.YtcegknecikbbkaaGreat
open Go.RowKit
section
variable (b : Nat) (room : Int) (used : List Bool) (freed : List Nat) (a1 : Option Addr) (c1 : Nat) (a2 : Option Addr) (c2 : Nat)
theorem arenaFreeZ_ct (i : Int) : Ct Tryz.prog 120 #[.pointer none, .int .i64 i] [] (Gives (.int .i64 2) []) := by
  intro w0 F L w hS
  simp only [List.cons_append, List.nil_append] at hS
  go_enter Tryz.func120, Tryz.ntmps120
  go_wp2_with (first | go_skip | (refine ck_load hS rfl rfl rfl (by (repeat (first | exact mH _ | apply mT)) <;> fail) rfl (by decide +kernel) ?_; simp only [Act.put, spA, spZ, spS]) | (refine ck_store hS rfl rfl rfl (by constructor) (by (repeat (first | exact uH _ _ _ | apply uT)) <;> fail) (by simp <;> omega) rfl (by decide +kernel) ?_; clear hS; intro w hS; simp only [Act.put, spA, spZ, spS] at hS ⊢) )
  go_ret
  exact ⟨_, ⟨rfl, rfl⟩, hS⟩
theorem arenaFreeArg_ct (i : Int) (h : i < 0 ∨ room ≤ i) : Ct Tryz.prog 120 #[.pointer (some ⟨b, 0, none⟩), .int .i64 i] (arenaL b room used freed a1 c1 a2 c2) (Gives (.int .i64 1) (arenaL b room used freed a1 c1 a2 c2)) := by
  unfold arenaL
  by_cases h0 : i < 0
  · skip
    intro w0 F L w hS
    simp only [List.cons_append, List.nil_append] at hS
    go_enter Tryz.func120, Tryz.ntmps120
    go_wp2_with (first | go_skip | (refine ck_load hS rfl rfl rfl (by (repeat (first | exact mH _ | apply mT)) <;> fail) rfl (by decide +kernel) ?_; simp only [Act.put, spA, spZ, spS]) | (refine ck_store hS rfl rfl rfl (by constructor) (by (repeat (first | exact uH _ _ _ | apply uT)) <;> fail) (by simp <;> omega) rfl (by decide +kernel) ?_; clear hS; intro w hS; simp only [Act.put, spA, spZ, spS] at hS ⊢) )
    go_ret
    exact ⟨_, ⟨rfl, rfl⟩, hS⟩
  · have h1 : room ≤ i := by omega
    intro w0 F L w hS
    simp only [List.cons_append, List.nil_append] at hS
    go_enter Tryz.func120, Tryz.ntmps120
    go_wp2_with (first | go_skip | (refine ck_load hS rfl rfl rfl (by (repeat (first | exact mH _ | apply mT)) <;> fail) rfl (by decide +kernel) ?_; simp only [Act.put, spA, spZ, spS]) | (refine ck_store hS rfl rfl rfl (by constructor) (by (repeat (first | exact uH _ _ _ | apply uT)) <;> fail) (by simp <;> omega) rfl (by decide +kernel) ?_; clear hS; intro w hS; simp only [Act.put, spA, spZ, spS] at hS ⊢) )
    go_ret
    exact ⟨_, ⟨rfl, rfl⟩, hS⟩
theorem arenaFreeNone_ct (i : Int) (h0 : 0 ≤ i) (h1 : i < room) (hc : Ct Tryz.prog 169 #[.pointer (some ⟨b, 0, none⟩), .int .i64 i] (arenaL b room used freed a1 c1 a2 c2) (Gives (.bool false) (arenaL b room used freed a1 c1 a2 c2))) :
    Ct Tryz.prog 120 #[.pointer (some ⟨b, 0, none⟩), .int .i64 i] (arenaL b room used freed a1 c1 a2 c2) (Gives (.int .i64 7) (arenaL b room used freed a1 c1 a2 c2)) := by
  have f1 : ¬ i < 0 := by omega
  have f2 : ¬ room ≤ i := by omega
  unfold arenaL at *
  intro w0 F L w hS
  simp only [List.cons_append, List.nil_append] at hS
  go_enter Tryz.func120, Tryz.ntmps120
  go_wp2_with (first | go_skip | (refine ck_load hS rfl rfl rfl (by (repeat (first | exact mH _ | apply mT)) <;> fail) rfl (by decide +kernel) ?_; simp only [Act.put, spA, spZ, spS]) | (refine ck_store hS rfl rfl rfl (by constructor) (by (repeat (first | exact uH _ _ _ | apply uT)) <;> fail) (by simp <;> omega) rfl (by decide +kernel) ?_; clear hS; intro w hS; simp only [Act.put, spA, spZ, spS] at hS ⊢) | (go_at_call 169; (refine Ct.callG (hc) hS ?_) <;> (first | (clear hS; intro w hS; simp only [arenaL, List.cons_append, List.nil_append] at hS) | omega)))
  go_ret
  exact ⟨_, ⟨rfl, rfl⟩, hS⟩
theorem arenaFreeOk_ct (i : Nat) (h1 : i < room) (hx : used[i]? = some true) (hu2 : used.length ≤ 4096) (hf2 : freed.length ≤ 100000) :
    Ct Tryz.prog 120 #[.pointer (some ⟨b, 0, none⟩), .int .i64 i] (arenaL b room used freed a1 c1 a2 c2) (Arena (.int .i64 0) b room (used.set i false) (freed ++ [i])) := by
  have hi : i < used.length := (List.getElem?_eq_some_iff.1 hx).1
  have hc := arenaHasIn_ct b room used freed a1 c1 a2 c2 i true hx hu2
  unfold arenaL at *
  intro w0 F L w hS
  simp only [List.cons_append, List.nil_append] at hS
  go_enter Tryz.func120, Tryz.ntmps120
  obtain ⟨g1, rfl⟩ := hS.rowSome (a := a1) (n := used.length) (cap := c1) (e := 4) (sz := 1) (xs := vB used) (by (repeat (first | exact mH _ | apply mT)) <;> fail) (by omega)
  go_wp2_with (first | go_skip | (refine ck_load hS rfl rfl rfl (by (repeat (first | exact mH _ | apply mT)) <;> fail) rfl (by decide +kernel) ?_; simp only [Act.put, spA, spZ, spS]) | (refine ck_store hS rfl rfl rfl (by constructor) (by (repeat (first | exact uH _ _ _ | apply uT)) <;> fail) (by simp <;> omega) rfl (by decide +kernel) ?_; clear hS; intro w hS; simp only [Act.put, spA, spZ, spS] at hS ⊢) | (go_at_call 169; (refine Ct.callG (hc) hS ?_) <;> (first | (clear hS; intro w hS; simp only [arenaL, List.cons_append, List.nil_append] at hS) | omega)) | (refine ck_storeRow hS rfl rfl rfl (by constructor) (by (repeat (first | exact uH _ _ _ | apply uT)) <;> fail) (by simp; omega) rfl (by decide +kernel) ?_; clear hS; intro w hS; simp only [Act.put, spA, spZ, spS]) | (refine ck_build1 (e := 3) hS rfl rfl (by constructor) rfl (by decide +kernel) ?_; clear hS; intro q w hS; simp only [Act.put, spA, spZ, spS]) | (refine ck_appendRow (e := 3) (sz := 1) hS rfl rfl rfl rfl (by (repeat (first | exact rH _ _ | apply rT)) <;> fail) (by (repeat (first | exact mH _ | apply mT)) <;> fail) (by decide +kernel) rfl rfl (by simp <;> fail) (by omega) ?_; clear hS; intro g' cap' w hS; simp only [Act.put, spA, spZ, spS]))
  go_ret
  have k1 := (hS.bring (r := pts q [.int .i64 i] 3) (by (repeat (first | exact rH _ _ | apply rT)) <;> fail)).drop
  have k2 := k1.bring (r := rowR (some ⟨g1, 0, none⟩) used.length c1 4 1 ((vB used).set i (.bool false))) (by (repeat (first | exact rH _ _ | apply rT)) <;> fail)
  have k3 := k2.bring (r := arenaP b room (some ⟨g1, 0, none⟩) used.length c1 (some ⟨g', 0, none⟩) (freed.length + 1) cap') (by (repeat (first | exact rH _ _ | apply rT)) <;> fail)
  refine ⟨_, ⟨rfl, some ⟨g1, 0, none⟩, c1, some ⟨g', 0, none⟩, cap', rfl⟩, ?_⟩
  have e1 : vB (used.set i false) = (vB used).set i (.bool false) := by simp
  have e2 : vI (freed ++ [i]) = vI freed ++ [.int .i64 i] := by simp
  unfold arenaL
  rw [List.length_set, List.length_append, e1, e2]
  exact k3
end
end Go.Proofs.YtcegknecikbbkaaGreat

/- A tree that is empty; an arena as one thing. -/
set_option linter.unusedVariables false
set_option linter.unusedSimpArgs false
set_option maxRecDepth 4000
namespace Go.Proofs.YtcegknecikbbkaaGreat
open Go.RowKit
structure AA where
  a1 : Option Addr
  c1 : Nat
  a2 : Option Addr
  c2 : Nat
abbrev arenaG (b : Nat) (room : Int) (used : List Bool) (freed : List Nat) (A : AA) : Res := grpR (arenaL b room used freed A.a1 A.c1 A.a2 A.c2)
theorem toG {P : Program} {f : FuncId} {args : Array Value} {b : Nat} {room : Int} {used used' : List Bool} {freed freed' : List Nat} {A : AA} {v : Value} (h : Ct P f args (arenaL b room used freed A.a1 A.c1 A.a2 A.c2) (Arena v b room used' freed')) :
    Ct P f args [arenaG b room used freed A] (fun v' L => v' = v ∧ ∃ A' : AA, L = [arenaG b room used' freed' A']) :=
  Ct.grp (l := fun A' : AA => arenaL b room used' freed' A'.a1 A'.c1 A'.a2 A'.c2) (h.mono fun _ _ ⟨e, a1, c1, a2, c2, h⟩ => ⟨e, ⟨a1, c1, a2, c2⟩, h⟩)
theorem toGU {P : Program} {f : FuncId} {args : Array Value} {b : Nat} {room : Int} {used : List Bool} {freed : List Nat} {A : AA} {v : Value} (h : Ct P f args (arenaL b room used freed A.a1 A.c1 A.a2 A.c2) (Gives v (arenaL b room used freed A.a1 A.c1 A.a2 A.c2))) :
    Ct P f args [arenaG b room used freed A] (Gives v [arenaG b room used freed A]) :=
  fun w0 F L w hS => (h w0 F L w (Sep.grp.2 hS)).mono fun e w' hr => by
    cases e with
    | returned u => obtain ⟨L', ⟨rfl, rfl⟩, hs⟩ := hr; exact ⟨_, ⟨rfl, rfl⟩, Sep.grp.1 hs⟩
    | panicked c => exact hr.elim
    | outgrown => exact hr.elim
theorem arenaNewG_ct (n r : Int) (hr : min (max n 0) 4096 = r) : Ct Tryz.prog 76 #[.int .i64 n] [] (fun v L => ∃ b A, v = .pointer (some ⟨b, 0, none⟩) ∧ L = [arenaG b r [] [] A]) :=
  hr ▸ fun w0 F L w hS => (arenaNew_ct n w0 F L w hS).mono fun e w' hr => by
    cases e with
    | returned u => obtain ⟨L', ⟨b, rfl, a1, c1, a2, c2, rfl⟩, hs⟩ := hr; exact ⟨_, ⟨b, ⟨a1, c1, a2, c2⟩, rfl, rfl⟩, Sep.grp.1 hs⟩
    | panicked c => exact hr.elim
    | outgrown => exact hr.elim
/-- A node of a tree. -/
structure NodeM where
  (ka kb left right high : Int)
abbrev nodV (x : NodeM) : List Value := [.int .u64 x.ka, .int .u64 x.kb, .int .i64 x.left, .int .i64 x.right, .int .i64 x.high]
def nods (l : List NodeM) : List Value := l.flatMap nodV
/-- A tree as it lies. -/
structure TrA where
  (ab : Nat) (aa : AA) (a : Option Addr) (cp : Nat) (ns : List NodeM) (top size : Int) (used : List Bool) (freed : List Nat)
abbrev trP (tb ab : Nat) (a : Option Addr) (n cp : Nat) (top size : Int) : Res := pts tb [.pointer (some ⟨ab, 0, none⟩), .slice a n cp, .int .i64 top, .int .i64 size, .int .i64 8] 160
def treeG (tb : Nat) (t : TrA) : Res := grpR [trP tb t.ab t.a t.ns.length t.cp t.top t.size, arenaG t.ab 8 t.used t.freed t.aa, rowR t.a t.ns.length t.cp 173 5 (nods t.ns)]
theorem treeOpen {tb ab cp n : Nat} {aa : AA} {a : Option Addr} {ns : List NodeM} {top size : Int} {used : List Bool} {freed : List Nat} {w0 w : World} {F : List Nat} {L : List Res} (hn : ns.length = n) :
    Sep w0 F (treeG tb ⟨ab, aa, a, cp, ns, top, size, used, freed⟩ :: L) w ↔ Sep w0 F (trP tb ab a n cp top size :: arenaG ab 8 used freed aa :: rowR a n cp 173 5 (nods ns) :: L) w := by
  subst hn; exact (Sep.grp (l := [trP tb ab a ns.length cp top size, arenaG ab 8 used freed aa, rowR a ns.length cp 173 5 (nods ns)])).symm
theorem treeNew_ct : Ct Tryz.prog 42 #[.int .i64 8] [] (fun v L => ∃ tb ab aa, v = .pointer (some ⟨tb, 0, none⟩) ∧ L = [treeG tb ⟨ab, aa, none, 0, [], 0, 0, [], []⟩]) := by
  have kA := arenaNewG_ct (min (max 8 0) 4096) 8 (by rfl)
  intro w0 F L w hS
  simp only [List.cons_append, List.nil_append] at hS
  go_enter Tryz.func42, Tryz.ntmps42
  go_wp2_with (first | go_skip | (refine ck_box hS rfl rfl (by constructor) ?_; clear hS; intro nb w hS; simp only [Act.put, spA, spZ, spS]) | (refine ck_max rfl rfl rfl rfl ?_; simp only [Act.put, spA, spZ, spS]) | (refine ck_min rfl rfl rfl rfl ?_; simp only [Act.put, spA, spZ, spS]) | (go_at_call 76; with_reducible refine Ct.callN (kA) hS ?_; clear hS; rintro _ _ w ⟨ab, aa, rfl, rfl⟩ hS; simp only [List.cons_append, List.nil_append] at hS))
  rw [show (min (max (8 : Int) 0) 4096) = 8 from rfl] at hS
  go_ret
  refine ⟨_, ⟨nb, ab, aa, rfl, rfl⟩, (treeOpen rfl).2 ?_⟩
  have h1 := hS.nilRow (e := 173) (sz := 5)
  exact h1.perm ((List.Perm.swap _ _ _).trans (.cons _ (.swap _ _ _)))
section
variable (tb : Nat) (t : TrA)
theorem treeRoot_ct (h0 : 0 ≤ t.top) (h1 : t.top ≤ 100000) : Ct Tryz.prog 117 #[.pointer (some ⟨tb, 0, none⟩)] [treeG tb t] (Gives (.int .i64 (t.top - 1)) [treeG tb t]) := by
  obtain ⟨ab, aa, a, cp, ns, top, size, used, freed⟩ := t
  dsimp only at h0 h1
  intro w0 F L w hS
  have hS := (treeOpen rfl).1 hS
  go_enter Tryz.func117, Tryz.ntmps117
  go_wp2_with (first | go_skip | (refine ck_load hS rfl rfl rfl (by (repeat (first | exact mH _ | apply mT)) <;> fail) rfl (by decide +kernel) ?_; simp only [Act.put, spA, spZ, spS]) )
  go_ret
  exact ⟨_, ⟨rfl, rfl⟩, (treeOpen rfl).2 hS⟩
theorem treeAll_ct (b : Option Addr) : Ct Tryz.prog 81 #[.pointer b] [] (fun v L => ∃ bx, v = .func (.func 116) #[] #[.pointer (some ⟨bx, 0, none⟩)] ∧ L = [pts bx [.pointer b] 98]) := by
  intro w0 F L w hS
  simp only [List.cons_append, List.nil_append] at hS
  go_enter Tryz.func81, Tryz.ntmps81
  go_wp2_with (first | go_skip | (refine ck_box hS rfl rfl (by constructor) ?_; clear hS; intro nb w hS; simp only [Act.put, spA, spZ, spS]) )
  go_ret
  exact ⟨_, ⟨_, rfl, rfl⟩, hS⟩
abbrev encK (x : Int × Int) : Array Value := #[.agg #[.int .u64 x.1, .int .u64 x.2]]
set_option maxHeartbeats 1000000 in
theorem treeIter0 (bx : Nat) (h : t.top = 0) : IterCt Tryz.prog 116 #[.pointer (some ⟨bx, 0, none⟩)] encK [] [pts bx [.pointer (some ⟨tb, 0, none⟩)] 98, treeG tb t] := by
  have kR := treeRoot_ct tb t (by omega) (by omega)
  rw [h, show (0 : Int) - 1 = -1 by rfl] at kR
  intro σ y S go _ hY C w0 F L w hS
  simp only [List.cons_append, List.nil_append] at hS
  show Calls _ _ #[y, .pointer (some ⟨bx, 0, none⟩)] _ _
  clear hY
  go_enter Tryz.func116, Tryz.ntmps116
  go_wp2_with (first | go_skip | (refine ck_load hS rfl rfl rfl (by (repeat (first | exact mH _ | apply mT)) <;> fail) rfl (by decide +kernel) ?_; simp only [Act.put, spA, spZ, spS]) | (go_at_call 117; (with_reducible refine Ct.callU (kR) (by (repeat (first | exact uH _ _ _ | apply uT)) <;> fail) hS ?_) <;> (first | (clear hS; intro w hS) | omega)) | (refine ck_region (fun _ => 0) (fun _ => []) [] hS (by kernel_rfl) (by decide +kernel) ?_ ?_; exact ⟨fun _ _ _ h => h.2, fun _ _ h => h⟩; clear hS; intro w hS _; (repeat (first | (apply wpT_pure rfl rfl; (intro _; go_simp; (try (go_ints; (try go_simp))); (first | (rw [decide_eq_true]; omega) | (rw [decide_eq_false]; omega) | rfl | rw [if_pos (by omega)])); simp only [Act.put, spA, spZ, spS]) | (refine ckT_load hS rfl rfl rfl (by simp <;> fail) (by (repeat (first | exact mH _ | apply mT)) <;> fail) rfl (by decide +kernel) ?_; simp only [Act.put, spA, spZ, spS]) )); refine wpT_nil ?_))
  refine bodyPost_ret (results_none rfl _ _ _) rfl ?_
  exact ⟨_, ⟨rfl, C, rfl⟩, hS⟩
end
/-- May a config be? -/
def mayOk (c : CfgM) : Prop := 100 ≤ c.quantum ∧ c.quantum ≤ 65536 ∧ 100 ≤ c.first ∧ c.first ≤ 65536 ∧ 1 ≤ c.limit ∧ c.limit ≤ 512 ∧ 1 ≤ c.flowLimit ∧ c.flowLimit ≤ 512 ∧ c.horizon ≤ 4611686018427387904 ∧ 1 ≤ c.cap ∧ c.cap ≤ 1073741824 ∧ 100 ≤ c.mss ∧ c.mss ≤ 9000
abbrev cfgA (c : CfgM) : Value := .agg (cfgV c).toArray
theorem within_ok (v lo hi : Int) (h0 : lo ≤ v) (h1 : v ≤ hi) : Ct Tryz.prog 46 #[.int .i64 v, .int .i64 lo, .int .i64 hi] [] (Gives (.bool true) []) := by
  have := within_ct v lo hi
  rw [decide_eq_true h0, decide_eq_true h1] at this
  exact this
set_option maxHeartbeats 2000000 in
theorem mayOk_ct (c : CfgM) (h : mayOk c) : Ct Tryz.prog 40 #[cfgA c] [] (Gives (.bool true) []) := by
  obtain ⟨qn, fs, lim, flim, hz, mr, dh, cap, mss⟩ := c
  obtain ⟨h1, h2, h3, h4, h5, h6, h7, h8, h9, h10, h11, h12, h13⟩ := h
  dsimp only at h1 h2 h3 h4 h5 h6 h7 h8 h9 h10 h11 h12 h13
  have k1 := within_ok qn 100 65536 h1 h2
  have k2 := within_ok fs 100 65536 h3 h4
  have k3 := within_ok lim 1 512 h5 h6
  have k4 := within_ok flim 1 512 h7 h8
  have k5 := within_ok cap 1 1073741824 h10 h11
  have k6 := within_ok mss 100 9000 h12 h13
  intro w0 F L w hS
  simp only [List.cons_append, List.nil_append] at hS
  go_enter Tryz.func40, Tryz.ntmps40
  go_wp2_with (first | go_skip | (refine ck_load hS rfl rfl rfl (by (repeat (first | exact mH _ | apply mT)) <;> fail) rfl (by decide +kernel) ?_; simp only [Act.put, spA, spZ, spS]) | (refine ck_box hS rfl rfl (by constructor) ?_; clear hS; intro nb w hS; simp only [Act.put, spA, spZ, spS]) | (go_at_call 46; with_reducible refine Ct.call0 (k1) hS ?_; clear hS; intro w hS) | (go_at_call 46; with_reducible refine Ct.call0 (k2) hS ?_; clear hS; intro w hS) | (go_at_call 46; with_reducible refine Ct.call0 (k3) hS ?_; clear hS; intro w hS) | (go_at_call 46; with_reducible refine Ct.call0 (k4) hS ?_; clear hS; intro w hS) | (go_at_call 46; with_reducible refine Ct.call0 (k5) hS ?_; clear hS; intro w hS) | (go_at_call 46; with_reducible refine Ct.call0 (k6) hS ?_; clear hS; intro w hS))
  go_ret
  exact ⟨_, ⟨rfl, rfl⟩, hS.drop⟩
end Go.Proofs.YtcegknecikbbkaaGreat

/- A queue over a tree that is empty: due; New; Dequeue where none has to wait. -/
set_option linter.unusedVariables false
set_option linter.unusedSimpArgs false
set_option maxRecDepth 4000
namespace Go.Proofs.YtcegknecikbbkaaGreat
open Go.RowKit
set_option maxHeartbeats 2000000 in
theorem qdue0_ct (b : Nat) (c : CfgM) (fl : List (Option FlowA)) (lb tb : Nat) (fr ol : List Int) (la : LA) (n : Int) (h8 : fl.length = 8) (t : TrA) (ht : t.top = 0) (now : Int) :
    Ct Tryz.prog 50 #[.pointer (some ⟨b, 0, none⟩), .int .u64 now] [queueG b ⟨c, fl, lb, tb, fr, ol, la, n⟩, treeG tb t] (Gives (.tuple #[]) [queueG b ⟨c, fl, lb, tb, fr, ol, la, n⟩, treeG tb t]) := by
  have hI := fun bx => treeIter0 tb t bx ht
  have htb := qC_tb (c := c) (lb := lb) (tb := tb) (n := n) h8
  intro w0 F L w hS
  simp only [List.cons_append, List.nil_append] at hS
  have hS := queueOpen.1 hS
  refine calls_of_wpM Tryz.func50 rfl ?_
  simp only [Tryz.ntmps50, List.size_toArray, List.length_cons, List.length_nil, Nat.reduceAdd, Nat.reduceSub, Array.replicate_succ, Array.replicate_zero, List.push_toArray, List.append_toArray, List.nil_append, List.cons_append]
  go_wp2_with (first | go_skip | (refine ck_load hS rfl rfl rfl (by (repeat (first | exact mH _ | apply mT)) <;> fail) htb (by decide +kernel) ?_; simp only [Act.put, spA, spZ, spS]) | (refine ck_load hS rfl rfl rfl (by (repeat (first | exact mH _ | apply mT)) <;> fail) rfl (by decide +kernel) ?_; simp only [Act.put, spA, spZ, spS]) | (refine ck_store hS rfl rfl rfl (by constructor) (by (repeat (first | exact uH _ _ _ | apply uT)) <;> fail) (by simp <;> omega) rfl (by decide +kernel) ?_; clear hS; intro w hS; simp only [Act.put, spA, spZ, spS] at hS ⊢) | (refine ck_box hS rfl rfl (by constructor) ?_; clear hS; intro x3 w hS; simp only [Act.put, spA, spZ, spS]) | (refine ck_alloc (t := 164) (v := .slice none 0 0) (cs := [.slice none 0 0]) hS rfl rfl (by kernel_rfl) rfl ?_; clear hS; intro x4 w hS; simp only [Act.put, spA, spZ, spS]) | (go_at_call 81; with_reducible refine Ct.callN (treeAll_ct _) hS ?_; clear hS; rintro _ _ w ⟨bx, rfl, rfl⟩ hS; simp only [List.cons_append, List.nil_append] at hS) | (refine ck_region (fun _ => 0) (fun _ => []) [] hS (by kernel_rfl) (by decide +kernel) ?_ ?_; exact ⟨fun _ _ _ h => h.2, fun _ _ h => h⟩; clear hS; intro w hS _; (repeat (first | (apply wpT_pure rfl rfl; (intro _; go_simp; (try (go_ints; (try go_simp))); (first | (rw [decide_eq_true]; omega) | (rw [decide_eq_false]; omega) | rfl | rw [if_pos (by omega)])); simp only [Act.put, spA, spZ, spS]) | (refine ckT_load hS rfl rfl rfl (by simp <;> fail) (by (repeat (first | exact mH _ | apply mT)) <;> fail) rfl (by decide +kernel) ?_; simp only [Act.put, spA, spZ, spS]) )); refine wpT_nil ?_))
  have hS1 : Sep w0 F (pts x4 [.slice none 0 0] 164 :: ([pts bx [.pointer (some ⟨tb, 0, none⟩)] 98, treeG tb t] ++ (pts x3 [.int .u64 now] 22 :: qP b c fl lb tb n :: flowsR fl :: lstG lb fr ol la :: L))) w := by
    have k1 := hS.bring (r := lstG lb fr ol la) (by (repeat (first | exact rH _ _ | apply rT)) <;> fail)
    have k2 := k1.bring (r := flowsR fl) (by (repeat (first | exact rH _ _ | apply rT)) <;> fail)
    have k3 := k2.bring (r := qP b c fl lb tb n) (by (repeat (first | exact rH _ _ | apply rT)) <;> fail)
    have k4 := k3.bring (r := pts x3 [.int .u64 now] 22) (by (repeat (first | exact rH _ _ | apply rT)) <;> fail)
    have k5 := k4.bring (r := treeG tb t) (by (repeat (first | exact rH _ _ | apply rT)) <;> fail)
    have k6 := k5.bring (r := pts bx [.pointer (some ⟨tb, 0, none⟩)] 98) (by (repeat (first | exact rH _ _ | apply rT)) <;> fail)
    exact k6.bring (r := pts x4 [.slice none 0 0] 164) (by (repeat (first | exact rH _ _ | apply rT)) <;> fail)
  clear hS
  refine ck_rangeFunc (B := fun (_ : Unit) (_ : List (Int × Int)) => pts x4 [.slice none 0 0] 164) (go := fun _ => true) (A0 := ()) hS1 (hI bx) rfl (fun _ => run_enter (P := Tryz.prog) (f := 116) (by kernel_rfl)) (fun _ => rfl) ?round ?fin
  case round =>
    intro l pre x suf hx
    simp at hx
  case fin =>
    intro D _ w hS
    rw [show okP (fun _ : List (Int × Int) => true) (runP (fun _ : List (Int × Int) => true) [] []) = true from rfl]
    simp only [if_true, List.cons_append, List.nil_append] at hS ⊢
    go_wp2_with (first | go_skip | (refine ck_load hS rfl rfl rfl (by (repeat (first | exact mH _ | apply mT)) <;> fail) rfl (by decide +kernel) ?_; simp only [Act.put, spA, spZ, spS]) | (refine ck_store hS rfl rfl rfl (by constructor) (by (repeat (first | exact uH _ _ _ | apply uT)) <;> fail) (by simp <;> omega) rfl (by decide +kernel) ?_; clear hS; intro w hS; simp only [Act.put, spA, spZ, spS] at hS ⊢) | (refine ck_box hS rfl rfl (by constructor) ?_; clear hS; intro nb w hS; simp only [Act.put, spA, spZ, spS])  | (refine ck_region (fun _ => 0) (fun _ => []) [] hS (by kernel_rfl) (by decide +kernel) ?_ ?_; exact ⟨fun _ _ _ h => h.2, fun _ _ h => h⟩; clear hS; intro w hS _; (repeat (first | (apply wpT_pure rfl rfl; (intro _; go_simp; (try (go_ints; (try go_simp))); (first | (rw [decide_eq_true]; omega) | (rw [decide_eq_false]; omega) | rfl | rw [if_pos (by omega)])); simp only [Act.put, spA, spZ, spS]) | (refine ckT_load hS rfl rfl rfl (by simp <;> fail) (by (repeat (first | exact mH _ | apply mT)) <;> fail) rfl (by decide +kernel) ?_; simp only [Act.put, spA, spZ, spS]) )); refine wpT_nil ?_))
    refine wp_loop_rounds 1 ?_; rw [rounds_succ]
    go_wp2_with (first | go_skip | (refine ck_load hS rfl rfl rfl (by (repeat (first | exact mH _ | apply mT)) <;> fail) rfl (by decide +kernel) ?_; simp only [Act.put, spA, spZ, spS]) | (refine ck_store hS rfl rfl rfl (by constructor) (by (repeat (first | exact uH _ _ _ | apply uT)) <;> fail) (by simp <;> omega) rfl (by decide +kernel) ?_; clear hS; intro w hS; simp only [Act.put, spA, spZ, spS] at hS ⊢) | (refine ck_box hS rfl rfl (by constructor) ?_; clear hS; intro nb w hS; simp only [Act.put, spA, spZ, spS]) | (with_reducible rw [rounds_succ]) | (refine ck_region (fun _ => 0) (fun _ => []) [] hS (by kernel_rfl) (by decide +kernel) ?_ ?_; exact ⟨fun _ _ _ h => h.2, fun _ _ h => h⟩; clear hS; intro w hS _; (repeat (first | (apply wpT_pure rfl rfl; (intro _; go_simp; (try (go_ints; (try go_simp))); (first | (rw [decide_eq_true]; omega) | (rw [decide_eq_false]; omega) | rfl | rw [if_pos (by omega)])); simp only [Act.put, spA, spZ, spS]) | (refine ckT_load hS rfl rfl rfl (by simp <;> fail) (by (repeat (first | exact mH _ | apply mT)) <;> fail) rfl (by decide +kernel) ?_; simp only [Act.put, spA, spZ, spS]) )); refine wpT_nil ?_))
    have k1 := (hS.bring (r := pts x4 [.slice none 0 0] 164) (by (repeat (first | exact rH _ _ | apply rT)) <;> fail)).drop
    have k2 := (k1.bring (r := pts bx [.pointer (some ⟨tb, 0, none⟩)] 98) (by (repeat (first | exact rH _ _ | apply rT)) <;> fail)).drop
    have k3 := (k2.bring (r := pts x3 [.int .u64 now] 22) (by (repeat (first | exact rH _ _ | apply rT)) <;> fail)).drop
    have k4 := k3.bring (r := objR D (.deferred (some []))) (by (repeat (first | exact rH _ _ | apply rT)) <;> fail)
    exact ckM_end (.inl rfl) k4 rfl (fun w hS => ⟨results_none rfl _ _ _, _, ⟨rfl, rfl⟩, queueOpen.2 (hS.perm ((List.Perm.swap _ _ _).trans (.cons _ ((List.Perm.swap _ _ _).trans (.cons _ (.swap _ _ _))))))⟩)
section
variable {P : Program} {ops : Array Oper} {blk : Nat → Nat} {conf : Nat → List Nat} {flg : List Nat} {Q : Exit → Act → World → Prop} {rest : List Oper} {w w0 : World} {F : List Nat} {L : List Res} {o : Oper} {a : Act} {i : Nat}
theorem ckT_callN {f : FuncId} {xs : Array Operand} {ats : Array TypeId} {args : Array Value} {post : Value → List Res → Prop} (hS : Sep w0 F L w) (ho : o.op = .call { callee := .value (.func f), args := xs, argTypes := ats }) (hC : Ct P f args [] post) (hw : Region.wanted o (yielded ops a.tmps) = true) (hen : ckEnter P f = true)
    (ha : xs.toList.map a.eval = args.toList) (hcf : ∀ j ∈ conf i, ∃ cs T, pts (blk j) cs T ∈ L) (h : ∀ v L' w', post v L' → Sep w0 F (L' ++ L) w' → wpT P ops blk conf flg Q (i + 1) rest (a.put o.dst v) w') : wpT P ops blk conf flg Q i (o :: rest) a w :=
  ckT_enter ho hw hen ha (hC.call (L := L) hS fun v L' w' hp hS' => ⟨fun j hj => by
    obtain ⟨cs, T, hm⟩ := hcf j hj
    have k1 := hS'.holds _ (show pts (blk j) cs T ∈ L' ++ L by simp [hm])
    have k2 := hS.holds _ hm
    exact Eq.trans k1 (Eq.symm k2), h v L' w' hp hS'⟩)
end
set_option maxHeartbeats 4000000 in
theorem qnew_ct (c : CfgM) (h : mayOk c) : Ct Tryz.prog 19 #[cfgA c] [] (fun v L => ∃ b lb tb la ab aa, v = .tuple #[.pointer (some ⟨b, 0, none⟩), .int .i64 0] ∧ L = [queueG b ⟨c, List.replicate 8 none, lb, tb, [], [], la, 0⟩, treeG tb ⟨ab, aa, none, 0, [], 0, 0, [], []⟩]) := by
  have kM := mayOk_ct c h
  obtain ⟨qn, fs, lim, flim, hz, mr, dh, cap, mss⟩ := c
  clear h
  intro w0 F L w hS
  simp only [List.cons_append, List.nil_append] at hS
  go_enter Tryz.func19, Tryz.ntmps19
  go_wp2_with (first | go_skip | (refine ck_loadAll hS rfl rfl rfl (by (repeat (first | exact mH _ | apply mT)) <;> fail) rfl (by (try simp only [List.length_cons, List.length_nil, Nat.zero_add, Nat.reduceAdd]); decide +kernel) ?_; simp only [Act.put, spA, spZ, spS]) | (refine ck_load hS rfl rfl rfl (by (repeat (first | exact mH _ | apply mT)) <;> fail) rfl (by decide +kernel) ?_; simp only [Act.put, spA, spZ, spS]) | (refine ck_box hS rfl rfl (by constructor) ?_; clear hS; intro cb w hS; simp only [Act.put, spA, spZ, spS]) | (go_at_call 40; with_reducible refine Ct.call0 (kM) hS ?_; clear hS; intro w hS) | (refine ck_region (fun _ => cb) (fun i => if i = 1 then [0] else if i = 2 then [0] else []) ([0]) hS (by kernel_rfl) (by decide +kernel) ?_ ?_; exact ⟨fun _ _ _ h => h.2, fun _ _ h => h⟩; clear hS; intro w hS _; (repeat (first | (apply wpT_pure rfl rfl; (intro _; go_simp; (try (go_ints; (try go_simp))); (first | (rw [decide_eq_true]; omega) | (rw [decide_eq_false]; omega) | rfl | rw [if_pos (by omega)])); simp only [Act.put, spA, spZ, spS]) | (refine ckT_load hS rfl rfl rfl (by simp <;> fail) (by (repeat (first | exact mH _ | apply mT)) <;> fail) rfl (by decide +kernel) ?_; simp only [Act.put, spA, spZ, spS]) | (refine ckT_loadAll hS rfl rfl rfl (by simp <;> fail) (by (repeat (first | exact mH _ | apply mT)) <;> fail) rfl (by (try simp only [List.length_cons, List.length_nil, Nat.zero_add, Nat.reduceAdd]); decide +kernel) ?_; simp only [Act.put, spA, spZ, spS]) | (refine ckT_callN hS rfl (lstNew_ct) rfl (by kernel_rfl) rfl (by intro j hj; simp at hj; subst hj; exact ⟨_, 24, (by (repeat (first | exact mH _ | apply mT)) <;> fail)⟩) ?_; clear hS; rintro _ _ w ⟨lb, la, rfl, rfl⟩ hS; simp only [List.cons_append, List.nil_append] at hS; simp only [Act.put, spA, spZ, spS]) | (refine ckT_callN hS rfl (treeNew_ct) rfl (by kernel_rfl) rfl (by intro j hj; simp at hj; subst hj; exact ⟨_, 24, (by (repeat (first | exact mH _ | apply mT)) <;> fail)⟩) ?_; clear hS; rintro _ _ w ⟨tb, ab, aa, rfl, rfl⟩ hS; simp only [List.cons_append, List.nil_append] at hS; simp only [Act.put, spA, spZ, spS]) | (refine ckT_box hS rfl rfl (by constructor) (by simp <;> fail) ?_; clear hS; intro nb w hS; simp only [Act.put, spA, spZ, spS]))); refine wpT_nil ?_))
  go_ret2
  have j1 := (hS.bring (r := pts cb (cfgV ⟨qn, fs, lim, flim, hz, mr, dh, cap, mss⟩) 24) (by (repeat (first | exact rH _ _ | apply rT)) <;> fail)).drop
  have j2 : Sep w0 F (flowsR (List.replicate 8 none) :: _) w := (Sep.grp (l := [])).1 j1
  refine ⟨_, ⟨nb, lb, tb, la, ab, aa, rfl, rfl⟩, ?_⟩
  refine (queueOpen (c := ⟨qn, fs, lim, flim, hz, mr, dh, cap, mss⟩) (L := treeG tb ⟨ab, aa, none, 0, [], 0, 0, [], []⟩ :: L)).2 ?_
  exact j2.perm ((List.Perm.swap _ _ _).trans (.cons _ (.cons _ (.swap _ _ _))))
def idSeg : SegM := ⟨0, 0, 0, 0, false⟩
/-- A queue's flows and lists, wherever they lie. -/
structure DS where
  (fm : List (Option FlowM)) (fr ol : List Int) (n : Int)
def absQ (q : QA) : DS := ⟨q.fl.map (Option.map FlowA.m), q.fr, q.ol, q.n⟩
def rateAt (rs : List Int) (s : Nat) : Int := (rs[s]?).getD 18446744073709551615
/-- What Dequeue does, as long as no flow's time is ahead. -/
def deq (c : CfgM) (now : Int) (rs : List Int) : Nat → DS → Option (Option SegM × DS)
  | 0, _ => none
  | k + 1, ds => match lsP ds.fr ds.ol with
    | [] => some (none, ds)
    | (s, f) :: _ => match ds.fm[s.toNat]? with
      | some (some F) =>
        if F.credit ≤ 0 then deq c now rs k ⟨ds.fm.set s.toNat (some { F with credit := F.credit + c.quantum }), ds.fr.filter (· ≠ s), ds.ol.filter (· ≠ s) ++ [s], ds.n⟩
        else match F.segs with
          | [] => if f = true ∧ olB (lsP ds.fr ds.ol) = true then deq c now rs k ⟨ds.fm, ds.fr.filter (· ≠ s), ds.ol.filter (· ≠ s) ++ [s], ds.n⟩
              else deq c now rs k ⟨ds.fm.set s.toNat (some { F with since := now }), ds.fr.filter (· ≠ s), ds.ol.filter (· ≠ s), ds.n⟩
          | x :: r => if now < timeOf F.next F.segs then none
              else some (some x, ⟨ds.fm.set s.toNat (some ⟨F.credit - x.len, satAdd now (delayOf x.len (lesser (rateAt rs s.toNat) c.maxRate)), F.since, r⟩), ds.fr, ds.ol, ds.n - 1⟩)
      | _ => none
/-- What is so of a queue, for its steps to be safe. -/
structure dOk (ds : DS) : Prop where
  len : ds.fm.length = 8
  soc : ∀ s, s ∈ ds.fr ∨ s ∈ ds.ol → 0 ≤ s ∧ s < 8
  few : ds.fr.length + ds.ol.length ≤ 1000
  flo : ∀ (k : Nat) (F : FlowM), ds.fm[k]? = some (some F) → 0 ≤ F.since ∧ F.since ≤ 18446744073709551615 ∧ 0 ≤ F.next ∧ F.next ≤ 18446744073709551615 ∧ -1000000 ≤ F.credit ∧ F.credit ≤ 1000000 ∧ F.segs.length ≤ 100000 ∧ ∀ x ∈ F.segs, 0 ≤ x.len ∧ x.len ≤ 65536 ∧ 0 ≤ x.stamp ∧ x.stamp ≤ 18446744073709551615
  num : -100000 ≤ ds.n ∧ ds.n ≤ 100000
theorem dOk.flOk {q : QA} (h : dOk (absQ q)) : flOk q.fl := by
  have hl := h.len
  refine ⟨by simpa [absQ] using hl, fun k f hf => ?_⟩
  have := h.flo k f.m (by show (q.fl.map (Option.map FlowA.m))[k]? = _; rw [List.getElem?_map, hf]; rfl)
  exact ⟨this.1, this.2.1, this.2.2.1, this.2.2.2.1⟩
theorem lsP_mem {fr ol : List Int} {s : Int} {f : Bool} {r : List (Int × Bool)} (h : lsP fr ol = (s, f) :: r) : s ∈ fr ∨ s ∈ ol := by
  have hm : (s, f) ∈ lsP fr ol := by rw [h]; simp
  unfold lsP at hm
  rcases List.mem_append.1 hm with h1 | h1
  · obtain ⟨y, hy, e⟩ := List.mem_map.1 h1; injection e with e1 _; subst e1; exact .inl hy
  · obtain ⟨y, hy, e⟩ := List.mem_map.1 h1; injection e with e1 _; subst e1; exact .inr hy
theorem filter_few {fr ol : List Int} {s : Int} (h : s ∈ fr ∨ s ∈ ol) : (fr.filter (· ≠ s)).length + (ol.filter (· ≠ s)).length + 1 ≤ fr.length + ol.length := by
  have h1 := List.length_filter_le (· ≠ s) fr
  have h2 := List.length_filter_le (· ≠ s) ol
  rcases h with h | h
  · have : (fr.filter (· ≠ s)).length < fr.length := List.length_filter_lt_length_iff_exists.2 ⟨s, h, by simp⟩
    omega
  · have : (ol.filter (· ≠ s)).length < ol.length := List.length_filter_lt_length_iff_exists.2 ⟨s, h, by simp⟩
    omega
section
variable {ds : DS} {s : Int} {f : Bool} {r : List (Int × Bool)}
theorem dOk.step (h : dOk ds) (hp : lsP ds.fr ds.ol = (s, f) :: r) {fm : List (Option FlowM)} (hl : fm.length = 8) (hf : ∀ (k : Nat) (F : FlowM), fm[k]? = some (some F) → 0 ≤ F.since ∧ F.since ≤ 18446744073709551615 ∧ 0 ≤ F.next ∧ F.next ≤ 18446744073709551615 ∧ -1000000 ≤ F.credit ∧ F.credit ≤ 1000000 ∧ F.segs.length ≤ 100000 ∧ ∀ x ∈ F.segs, 0 ≤ x.len ∧ x.len ≤ 65536 ∧ 0 ≤ x.stamp ∧ x.stamp ≤ 18446744073709551615) (l : List Int) (hl2 : l = [] ∨ l = [s]) :
    dOk ⟨fm, ds.fr.filter (· ≠ s), ds.ol.filter (· ≠ s) ++ l, ds.n⟩ := by
  have hm := lsP_mem hp
  refine ⟨hl, fun t ht => ?_, ?_, hf, h.num⟩
  · simp only [List.mem_append, List.mem_filter] at ht
    rcases ht with ht | ht | ht
    · exact h.soc t (.inl ht.1)
    · exact h.soc t (.inr ht.1)
    · rcases hl2 with rfl | rfl
      · simp at ht
      · simp at ht; subst ht; exact h.soc t hm
  · have := filter_few hm
    have := h.few
    simp only [List.length_append]
    rcases hl2 with rfl | rfl
    · simp only [List.length_nil]; omega
    · simp only [List.length_cons, List.length_nil]; omega
theorem dOk.set (h : dOk ds) {k : Nat} {F : FlowM} (hF : 0 ≤ F.since ∧ F.since ≤ 18446744073709551615 ∧ 0 ≤ F.next ∧ F.next ≤ 18446744073709551615 ∧ -1000000 ≤ F.credit ∧ F.credit ≤ 1000000 ∧ F.segs.length ≤ 100000 ∧ ∀ x ∈ F.segs, 0 ≤ x.len ∧ x.len ≤ 65536 ∧ 0 ≤ x.stamp ∧ x.stamp ≤ 18446744073709551615) :
    ∀ (j : Nat) (G : FlowM), (ds.fm.set k (some F))[j]? = some (some G) → 0 ≤ G.since ∧ G.since ≤ 18446744073709551615 ∧ 0 ≤ G.next ∧ G.next ≤ 18446744073709551615 ∧ -1000000 ≤ G.credit ∧ G.credit ≤ 1000000 ∧ G.segs.length ≤ 100000 ∧ ∀ x ∈ G.segs, 0 ≤ x.len ∧ x.len ≤ 65536 ∧ 0 ≤ x.stamp ∧ x.stamp ≤ 18446744073709551615 := fun j G hG => by
  by_cases hj : k = j
  · subst hj
    by_cases hk : k < ds.fm.length
    · rw [List.getElem?_set_self hk] at hG
      injection hG with hG; injection hG with hG; subst hG; exact hF
    · rw [List.getElem?_eq_none (by simp; omega)] at hG; cases hG
  · rw [List.getElem?_set_ne hj] at hG
    exact h.flo j G hG
end
end Go.Proofs.YtcegknecikbbkaaGreat
