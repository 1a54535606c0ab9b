/- TopTurns: what functions of the program come to: part 5 of 6. -/
import Derived.WalkKit
import Derived.WalkSpells
import Derived.WalkLawsBesides
import Derived.WalkMore
import Derived.Deep.LoopGhost
import Derived.Test.YtcegknecikbbkaaGreatTopTurnsM1
import Derived.Test.YtcegknecikbbkaaGreatTopTurnsM2
import Derived.Test.YtcegknecikbbkaaGreatTopTurnsM3
import Derived.Test.YtcegknecikbbkaaGreatTopTurnsM4
/- A machine: rates, the watchdog, a pull. -/
set_option linter.unusedVariables false
set_option linter.unusedSimpArgs false
set_option maxRecDepth 4000
namespace Go.Proofs.YtcegknecikbbkaaGreat
open Go.RowKit
section
variable {P : Program} {w : World} {ops : Array Oper} {Q : Exit → Act → World → Prop} {rest : List Oper} {o : Oper} {a : Act} {t e : TypeId} {x : Operand} {k off : Nat} {l : List Value} {v : Value}
def ckField (P : Program) (t : TypeId) (k : Nat) (e : TypeId) (off : Nat) : Bool := match P.underlying t with
  | some (.struct fs) => (match fs[k]? with | some f => f.type == e && f.offset == off | none => false)
  | _ => false
theorem ck_field (e : TypeId) (off : Nat) (ho : o.op = .field t x k) (hw : Region.wanted o (yielded ops a.tmps) = true) (hx : a.eval x = .agg l.toArray) (hf : ckField P t k e off = true) (he : ckScalar P e = true) (hv : l[off]? = some v)
    (h : wpList P ops Q rest (a.put o.dst v) w) : wpList P ops Q (o :: rest) a w := by
  refine wpList_val hw (v := v) (w' := w) ?_ h
  unfold ckScalar at he
  unfold ckField at hf
  cases hue : P.underlying e with
  | none => simp [hue] at he
  | some d =>
    have hagg : ∀ w, (isAgg e).run P w = .ok false w := fun w => by
      unfold isAgg
      rw [Sem.run_bind, run_underlying hue w]
      cases d <;> simp_all
    cases hu : P.underlying t with
    | none => simp [hu] at hf
    | some dt =>
      cases dt with
      | struct fs =>
        cases hfk : fs[k]? with
        | none => simp [hu, hfk] at hf
        | some f =>
          simp only [hu, hfk, Bool.and_eq_true, beq_iff_eq] at hf
          obtain ⟨rfl, rfl⟩ := hf
          have hix : (Instr.field t (.agg l.toArray) k).run P w = .ok v w := by
            simp only [Instr.field, asAgg, Sem.run_bind, Sem.run_pure, Result.andThen_ok, run_underlying hu, hfk, part, hagg, List.getElem?_toArray, hv]
            rfl
          unfold execOp
          simp only [ho, hx, Sem.run_bind, hix, Result.andThen_ok]
          rfl
      | _ => simp [hu] at hf
end
def rateM (o : Option SkA) : Int := match o with | none => 18446744073709551615 | some s => s.k.mdl.rate
def ratesM (sl : List (Option SkA)) : List Int := sl.map rateM
theorem mC_sub {c : CfgM} {cb : Nat} {sl : List (Option SkA)} {qb lg : Nat} (h8 : sl.length = 8) : ((mC c cb sl qb lg).drop 10).take 8 = sl.map sptr := by
  unfold mC
  rw [List.drop_append, List.drop_eq_nil_of_le (by simp), List.nil_append, show 10 - (cfgV c).length = 1 by simp only [List.length_cons, List.length_nil], List.drop_succ_cons, List.drop_zero, List.take_append_of_le_length (by simp [h8]), List.take_of_length_le (by simp [h8])]
set_option maxHeartbeats 4000000 in
theorem rates_ct (b : Nat) (c : CfgM) (cb : Nat) (sl : List (Option SkA)) (h8 : sl.length = 8) (qb lg : Nat) : Ct Tryz.prog 60 #[.pointer (some ⟨b, 0, none⟩)] [mP b c cb sl qb lg, socksR sl] (fun v L => ∃ ad cp, v = .slice ad 8 cp ∧ L = [rowR ad 8 cp 22 1 (vU (ratesM sl)), mP b c cb sl qb lg, socksR sl]) := by
  have hlen := mC_len (c := c) (cb := cb) (qb := qb) (lg := lg) h8
  have hb := mC_sub (c := c) (cb := cb) (qb := qb) (lg := lg) h8
  have hle : 10 + 8 ≤ (mC c cb sl qb lg).length := by omega
  intro w0 F L w hS
  simp only [List.cons_append, List.nil_append] at hS
  go_enter Tryz.func60, Tryz.ntmps60
  go_wp2_with (first | go_skip | (refine ck_load hS rfl rfl rfl (by (repeat (first | exact mH _ | apply mT)) <;> fail) rfl (by decide +kernel) ?_; simp only [Act.put, spA, spZ, spS]) | (refine ck_loadSub 8 hS rfl rfl rfl (by (repeat (first | exact mH _ | apply mT)) <;> fail) (by exact hle) (by (try simp only [List.length_cons, List.length_nil, Nat.zero_add, Nat.reduceAdd]); decide +kernel) ?_; rw [hb]; simp only [Act.put, spA, spZ, spS]))
  go_loopg [3, 11] 9 (fun g s3 s11 wx => ∃ (n : Nat) (ad : Option Addr) (cp : Nat), n + g = 9 ∧ n ≤ 8 ∧ s3 = .slice ad n cp ∧ s11 = .int .i64 n ∧ Sep w0 F (rowR ad n cp 22 1 (vU ((ratesM sl).take n)) :: mP b c cb sl qb lg :: socksR sl :: L) wx)
  case atStart => exact ⟨0, none, 0, rfl, by omega, rfl, by go_num, hS.nilRow⟩
  case round =>
    clear hS
    obtain ⟨n, ad, cp, hng, hn8, rfl, rfl, hS⟩ := hrel
    generalize wr = w at hS ⊢
    by_cases hn : n < 8
    · obtain ⟨x, hx⟩ : ∃ x, sl[n]? = some x := ⟨_, List.getElem?_eq_getElem (by omega)⟩
      have hidx : (sl.map sptr)[((n : Int)).toNat]? = some (sptr x) := by rw [Int.toNat_natCast, List.getElem?_map, hx]; rfl
      have hrow : vU ((ratesM sl).take n) ++ [.int .u64 (rateM x)] = vU ((ratesM sl).take (n + 1)) := by
        have h1 : (ratesM sl)[n]? = some (rateM x) := by unfold ratesM; rw [List.getElem?_map, hx]; rfl
        rw [List.take_add_one, h1]; simp
      have hn7 : (n : Int) < 8 := by omega
      cases x with
      | none =>
        rw [show rateM none = 18446744073709551615 from rfl] at hrow
        rw [show sptr none = .pointer none from rfl] at hidx
        clear hx hb hlen hle h8
        go_wp2_with (first | go_skip | (refine ck_load hS rfl rfl rfl (by (repeat (first | exact mH _ | apply mT)) <;> fail) rfl (by decide +kernel) ?_; simp only [Act.put, spA, spZ, spS]) | (refine ck_index (l := sl.map sptr) Tryz.underlying75 rfl rfl rfl rfl (by omega) (by omega) hidx (by kernel_rfl) (by kernel_rfl) ?_; simp only [Act.put, spA, spZ, spS]) | (refine ck_build1 (e := 22) hS rfl rfl (by constructor) rfl (by decide +kernel) ?_; clear hS; intro q w hS; simp only [Act.put, spA, spZ, spS]) | (refine ck_appendRow (e := 22) (sz := 1) (ad := ad) hS rfl rfl rfl rfl (by (repeat (first | exact rH _ _ | apply rT)) <;> fail) (by (repeat (first | exact mH _ | apply mT)) <;> fail) (by decide +kernel) rfl rfl (by simp <;> fail) (by omega) ?_; clear hS; intro g2 cap' w hS; simp only [Act.put, spA, spZ, spS]))
        have j1 := (hS.bring (r := pts q [.int .u64 18446744073709551615] 22) (by (repeat (first | exact rH _ _ | apply rT)) <;> fail)).drop
        rw [hrow] at j1
        go_roundg (8 - n)
        case rel => exact ⟨n + 1, _, _, by omega, by omega, rfl, by go_num, j1⟩
        case measure => omega
      | some s =>
        have kM := sockModel_ct s.a s.k
        have oS := fun {w : World} {L : List Res} => socksTake (w0 := w0) (F := F) (L := L) (w := w) hx
        rw [show rateM (some s) = s.k.mdl.rate from rfl] at hrow
        rw [show sptr (some s) = .pointer (some ⟨s.a.b, 0, none⟩) from rfl] at hidx
        have hS0 := oS.1 (hS.bring (r := socksR sl) (by (repeat (first | exact rH _ _ | apply rT)) <;> fail))
        clear hS
        have hS := hS0
        clear hS0 hx hb hlen hle h8
        go_wp2_with (first | go_skip | (refine ck_load hS rfl rfl rfl (by (repeat (first | exact mH _ | apply mT)) <;> fail) rfl (by decide +kernel) ?_; simp only [Act.put, spA, spZ, spS]) | (refine ck_index (l := sl.map sptr) Tryz.underlying75 rfl rfl rfl rfl (by omega) (by omega) hidx (by kernel_rfl) (by kernel_rfl) ?_; simp only [Act.put, spA, spZ, spS]) | (refine ck_build1 (e := 22) hS rfl rfl (by constructor) rfl (by decide +kernel) ?_; clear hS; intro q w hS; simp only [Act.put, spA, spZ, spS]) | (refine ck_appendRow (e := 22) (sz := 1) (ad := ad) hS rfl rfl rfl rfl (by (repeat (first | exact rH _ _ | apply rT)) <;> fail) (by (repeat (first | exact mH _ | apply mT)) <;> fail) (by decide +kernel) rfl rfl (by simp <;> fail) (by omega) ?_; clear hS; intro g2 cap' w hS; simp only [Act.put, spA, spZ, spS]) | (go_at_call 91; (with_reducible refine Ct.callU (kM) (by (repeat (first | exact uH _ _ _ | apply uT)) <;> fail) hS ?_) <;> (first | (clear hS; intro w hS) | omega)) | (refine ck_field 22 2 (l := stV s.k.mdl) rfl rfl rfl (by kernel_rfl) (by kernel_rfl) rfl ?_; simp only [Act.put, spA, spZ, spS]))
        have j1 := (hS.bring (r := pts q [.int .u64 s.k.mdl.rate] 22) (by (repeat (first | exact rH _ _ | apply rT)) <;> fail)).drop
        rw [hrow] at j1
        have j2 := j1.pick (M := sockG s.a s.k :: socksR (sl.set n none) :: rowR (some ⟨g2, 0, none⟩) (n + 1) cap' 22 1 (vU ((ratesM sl).take (n + 1))) :: mP b c cb sl qb lg :: L) (by (repeat (first | exact Pick.refl _ | (apply Pick.take; ((repeat (first | exact rH _ _ | apply rT)) <;> fail)) | (apply Pick.drop))))
        have j3 := (oS.2 j2).pick (M := rowR (some ⟨g2, 0, none⟩) (n + 1) cap' 22 1 (vU ((ratesM sl).take (n + 1))) :: mP b c cb sl qb lg :: socksR sl :: L) (by (repeat (first | exact Pick.refl _ | (apply Pick.take; ((repeat (first | exact rH _ _ | apply rT)) <;> fail)) | (apply Pick.drop))))
        go_roundg (8 - n)
        case rel => exact ⟨n + 1, _, _, by omega, by omega, rfl, by go_num, j3⟩
        case measure => omega
    · obtain rfl : n = 8 := by omega
      rw [List.take_of_length_le (by unfold ratesM; simp [h8])] at hS
      clear hb hlen hle h8
      go_wp2_with (first | go_skip | (refine ck_load hS rfl rfl rfl (by (repeat (first | exact mH _ | apply mT)) <;> fail) rfl (by decide +kernel) ?_; simp only [Act.put, spA, spZ, spS]) )
      go_ret
      exact ⟨_, ⟨ad, cp, rfl, rfl⟩, hS⟩
section
variable {α β γ : Type} {P : Program} {w w0 : World} {F : List Nat} {L : List Res} {Q : Exit → Act → World → Prop} {a : Act}
/-- Behind all orders of a tree the same is known; three things were made. -/
def QM3 (A : α → β → γ → Act) (S : α → β → γ → World → Prop) : Exit → Act → World → Prop := fun e a w => e = .normal ∧ ∃ x y z, a = A x y z ∧ S x y z w
theorem QM3_only {A : α → β → γ → Act} {S : α → β → γ → World → Prop} : OnlyEnd (QM3 A S) := ⟨fun c a w h => (by have h1 := h.1; cases h1), fun a w h => (by have h1 := h.1; cases h1)⟩
theorem ck_treeM3 {id : Nat} {l : List Oper} (A : α → β → γ → Act) (S : α → β → γ → World → Prop) (t : OTree) (blk : Nat → Nat) (conf : Nat → List Nat) (flg : List Nat) (hS : Sep w0 F L w) (hm : P.follows .mixedOrders = true)
    (hok : (Region.noSelect l.toArray && masksOk l.toArray (Region.before l.toArray) && decide (t.depth = l.length) && okG l.toArray conf flg (Array.replicate l.length false) t) = true)
    (h : ∀ w', Sep w0 F L w' → (∀ b : Nat, w'.heap[b]? = w.heap[b]?) → wpG P l.toArray blk conf flg (QM3 A S) t a w') (hc : ∀ x y z w', S x y z w' → Q .normal (A x y z) w') : (Code.region id l.toArray true).wp P Q a w :=
  Code.wp_mono (fun e a w h => by obtain ⟨rfl, x, y, z, rfl, hs⟩ := h; exact hc x y z w hs) (ck_tree t blk conf flg hS hm hok QM3_only h)
end
/-- What a deed comes to. -/
structure OutA where
  (da : Option Addr) (dn dc : Nat) (pa : Option Addr) (pn pc : Nat) (fa : Option Addr) (fn fc : Nat) (wd : Int)
abbrev outV (o : OutA) : List Value := [.slice o.da o.dn o.dc, .slice o.pa o.pn o.pc, .slice o.fa o.fn o.fc, .int .u64 o.wd]
def outZ : OutA := ⟨none, 0, 0, none, 0, 0, none, 0, 0, 0⟩
abbrev outP (b : Nat) (o : OutA) : Res := pts b (outV o) 35
/-- What a pull leaves: the result's cell, a row of one segment, and the machine. -/
abbrev PullP (b : Nat) (c : CfgM) (cb : Nat) (now : Int) (sl : List (Option SkA)) (qb lg ob : Nat) (q : QA) (t : TrA) (B : List (List Int)) (r : Option SegM) (ds : DS) (wd : Int) : Value → List Res → Prop := fun v L => v = .tuple #[] ∧ ∃ q' : QA, absQ q' = ds ∧ q'.c = q.c ∧ q'.lb = q.lb ∧ q'.tb = q.tb ∧
  (match r with
    | some x => ∃ g, L = [outP ob { outZ with da := some ⟨g, 0, none⟩, dn := 1, dc := 1 }, rowR (some ⟨g, 0, none⟩) 1 1 44 5 (segV x), mP b c cb sl qb lg, clkR cb now, socksR sl, queueG qb q', treeG q.tb t, ledR lg (noteF B x.sock.toNat 1)]
    | none => L = [outP ob { outZ with wd := wd }, mP b c cb sl qb lg, clkR cb now, socksR sl, queueG qb q', treeG q.tb t, ledR lg B])
set_option maxHeartbeats 8000000 in
theorem pull_ct (b : Nat) (c : CfgM) (cb : Nat) (now : Int) (n0 : 0 ≤ now) (n1 : now ≤ 18446744073709551615) (q : QA) (m0 : 0 ≤ q.c.maxRate) (m1 : q.c.maxRate ≤ 18446744073709551615) (qn0 : 0 ≤ q.c.quantum) (qn1 : q.c.quantum ≤ 65536) (sl : List (Option SkA)) (h8 : sl.length = 8) (qb lg ob : Nat) (t : TrA) (ht : t.top = 0) (B : List (List Int)) (hB : bookOk B)
    (hrs : ∀ x ∈ ratesM sl, 0 ≤ x ∧ x ≤ 18446744073709551615) (fuel : Nat) (r : Option SegM) (ds' : DS) (hok : dOk (absQ q)) (hd : deq q.c now (ratesM sl) fuel (absQ q) = some (r, ds'))
    (hfl8 : ∀ q' : QA, absQ q' = ds' → q'.fl.length = 8) (hr : ∀ x, r = some x → 0 ≤ x.sock ∧ x.sock < 8 ∧ ∀ c, B[x.sock.toNat]? = some c → c[7]? ≠ some 0) :
    Ct Tryz.prog 27 #[.pointer (some ⟨b, 0, none⟩), .pointer (some ⟨ob, 0, none⟩)] [outP ob outZ, mP b c cb sl qb lg, clkR cb now, socksR sl, queueG qb q, treeG q.tb t, ledR lg B] (PullP b c cb now sl qb lg ob q t B r ds' 0) := by
  have kN := egNow_ct b c cb now sl qb lg
  have kR := rates_ct b c cb sl h8 qb lg
  have hmq := mC_q (c := c) (cb := cb) (qb := qb) (lg := lg) h8
  have hml := mC_l (c := c) (cb := cb) (qb := qb) (lg := lg) h8
  have hrl : (ratesM sl).length = 8 := by unfold ratesM; simp [h8]
  have kD := fun ra rc => qdeq_ct qb q.c q.lb q.tb t ht now n0 n1 m0 m1 qn0 qn1 ra 8 rc (ratesM sl) hrl hrs (by omega) fuel r ds' q rfl rfl rfl hok hd
  have kW := fun (q' : QA) (h : q'.tb = q.tb) (h8' : q'.fl.length = 8) => qdog_ct qb q' t h8' [] (fun bx => by rw [h]; exact treeIter0 q.tb t bx ht)
  have hdk : ∀ q' : QA, absQ q' = ds' → q'.fl.length = 8 := hfl8
  clear h8 hrl hfl8 hd hok hrs
  intro w0 F L w hS
  simp only [List.cons_append, List.nil_append] at hS
  go_enter Tryz.func27, Tryz.ntmps27
  go_wp2_with (first | go_skip  | (refine ck_load hS rfl rfl rfl (by (repeat (first | exact mH _ | apply mT)) <;> fail) rfl (by decide +kernel) ?_; simp only [Act.put, spA, spZ, spS]) | (refine ck_store hS rfl rfl rfl (by constructor) (by (repeat (first | exact uH _ _ _ | apply uT)) <;> fail) (by simp <;> omega) rfl (by decide +kernel) ?_; clear hS; intro w hS; simp only [Act.put, spA, spZ, spS] at hS ⊢) | (refine ck_max rfl rfl rfl rfl ?_; simp only [Act.put, spA, spZ, spS]) | (refine ck_min rfl rfl rfl rfl ?_; simp only [Act.put, spA, spZ, spS])  | (refine ck_region (fun _ => 0) (fun _ => []) [] hS (by kernel_rfl) (by decide +kernel) ?_ ?_; exact ⟨fun _ _ _ h => h.2, fun _ _ h => h⟩; clear hS; intro w hS _; (repeat (first | (apply wpT_pure rfl rfl; (intro _; go_simp; (try (go_ints; (try go_simp))); (first | (rw [decide_eq_true]; omega) | (rw [decide_eq_false]; omega) | rfl | rw [if_pos (by omega)])); simp only [Act.put, spA, spZ, spS]) | (refine ckT_load hS rfl rfl rfl (by simp <;> fail) (by (repeat (first | exact mH _ | apply mT)) <;> fail) rfl (by decide +kernel) ?_; simp only [Act.put, spA, spZ, spS]) | (refine ckT_store hS rfl rfl rfl (by constructor) (by (repeat (first | exact uH _ _ _ | apply uT)) <;> fail) (by simp <;> fail) rfl (by decide +kernel) (by simp <;> fail) ?_; clear hS; intro w hS; simp only [Act.put, spA, spZ, spS] at hS ⊢) )); refine wpT_nil ?_) )
  cases r with
  | none =>
    unfold DeqP dRes at kD
    dsimp only at kD
    apply ck_treeM3 (α := Nat) (β := Option Addr) (γ := Nat) _ (fun x4 ra rc w => ∃ q' : QA, absQ q' = ds' ∧ q'.c = q.c ∧ q'.lb = q.lb ∧ q'.tb = q.tb ∧ Sep w0 F (pts x4 (segV idSeg) 44 :: outP ob outZ :: mP b c cb sl qb lg :: clkR cb now :: socksR sl :: queueG qb q' :: treeG q.tb t :: ledR lg B :: L) w)
      (.seg [0, 1, 2, 3, 4, 6] (.br 5 (.br 7 (.br 8 (.seg [9, 10, 11, 12, 13, 14] .done) 12 (.seg [8, 9, 10, 11, 13, 14] .done)) 12 (.seg [7, 8, 9, 10, 11, 13, 14] .done)) 12 (.seg [5, 7, 8, 9, 10, 11, 13, 14] .done))) (fun _ => b) (fun i => if i = 5 then [3] else if i = 7 then [3] else if i = 12 then [3] else []) [3] hS (by kernel_rfl) (by decide +kernel)
    case h =>
      intro w hS _
      (repeat' (first | (refine wpG_opL rfl ?_) | (refine wpG_nil ?_) | (refine wpG_brL rfl rfl ?_ ?_) | (refine wpG_done ?_) | (apply wpT_pure rfl rfl; (intro _; go_simp; (try (go_ints; (try go_simp))); (first | (rw [decide_eq_true]; omega) | (rw [decide_eq_false]; omega) | rfl | rw [if_pos (by omega)])); simp only [Act.put, spA, spZ, spS]) | (refine ckT_load hS rfl rfl rfl (by simp <;> fail) (by (repeat (first | exact mH _ | apply mT)) <;> fail) hmq (by decide +kernel) ?_; simp only [Act.put, spA, spZ, spS]) | (refine ckT_storeAll hS rfl rfl rfl rfl (by (repeat (first | exact uH _ _ _ | apply uT)) <;> fail) (by rfl) rfl (by (try simp only [List.length_cons, List.length_nil, Nat.zero_add, Nat.reduceAdd]); decide +kernel) (by simp <;> fail) ?_; clear hS; intro w hS; simp only [Act.put, spA, spZ, spS]) | (refine ckT_callP hS rfl (kN) (by (repeat (first | exact Takes.nil _ | (apply Takes.cons; ((repeat (first | exact rH _ _ | apply rT)) <;> fail))))) rfl (by kernel_rfl) rfl ((by intro j hj; simp at hj; (first | subst hj | (rcases hj with rfl | rfl) | (rcases hj with rfl | rfl | rfl) | (rcases hj with rfl | rfl | rfl | rfl) | (rcases hj with rfl | rfl | rfl | rfl | rfl)) <;> exact .inr ⟨_, _, (by (repeat (first | exact mH _ | apply mT)) <;> fail), (by rintro _ _ ⟨rfl, rfl⟩; exact (by (repeat (first | exact mH _ | apply mT)) <;> fail))⟩)) ?_; clear hS; rintro _ _ w ⟨rfl, rfl⟩ hS; simp only [List.cons_append, List.nil_append] at hS; simp only [Act.put, spA, spZ, spS]) | (refine ckT_callP hS rfl (kR) (by (repeat (first | exact Takes.nil _ | (apply Takes.cons; ((repeat (first | exact rH _ _ | apply rT)) <;> fail))))) rfl (by kernel_rfl) rfl ((by intro j hj; simp at hj; (first | subst hj | (rcases hj with rfl | rfl) | (rcases hj with rfl | rfl | rfl) | (rcases hj with rfl | rfl | rfl | rfl) | (rcases hj with rfl | rfl | rfl | rfl | rfl)) <;> exact .inr ⟨_, _, (by (repeat (first | exact mH _ | apply mT)) <;> fail), (by rintro _ _ ⟨_, _, rfl, rfl⟩; exact (by (repeat (first | exact mH _ | apply mT)) <;> fail))⟩)) ?_; clear hS; rintro _ _ w ⟨ad, cp, rfl, rfl⟩ hS; simp only [List.cons_append, List.nil_append] at hS; simp only [Act.put, spA, spZ, spS]) | (refine ckT_callP hS rfl (kD _ _) (by (repeat (first | exact Takes.nil _ | (apply Takes.cons; ((repeat (first | exact rH _ _ | apply rT)) <;> fail))))) rfl (by kernel_rfl) rfl ((by intro j hj; simp at hj)) ?_; clear hS; rintro _ _ w ⟨rfl, q', hq', hc', hlb', htb', rfl⟩ hS; simp only [List.cons_append, List.nil_append] at hS; simp only [Act.put, spA, spZ, spS]) | (refine ckT_alloc (t := 44) (v := segA ⟨0, 0, 0, 0, false⟩) (cs := segV ⟨0, 0, 0, 0, false⟩) hS rfl rfl (by kernel_rfl) rfl (fun j hj => ⟨_, _, ((by (repeat (first | exact mH _ | apply mT)) <;> fail) : mP b c cb sl qb lg ∈ _)⟩) ?_; clear hS; intro x4 w hS; simp only [Act.put, spA, spZ, spS]))) <;> exact ⟨rfl, x4, ad, cp, rfl, q', hq', hc', hlb', htb', hS.pick (by (repeat (first | exact Pick.refl _ | (apply Pick.take; ((repeat (first | exact rH _ _ | apply rT)) <;> fail)) | (apply Pick.drop))))⟩
    case hc =>
      rintro x4 ra rc w ⟨q', hq', hc', hlb', htb', hS⟩
      have kW := kW q' htb' (hdk q' hq')
      rw [htb'] at kW
      simp only [mnA, mnI] at kW
      go_wp2_with (first | go_skip | (refine ck_load hS rfl rfl rfl (by (repeat (first | exact mH _ | apply mT)) <;> fail) hmq (by decide +kernel) ?_; simp only [Act.put, spA, spZ, spS]) | (refine ck_load hS rfl rfl rfl (by (repeat (first | exact mH _ | apply mT)) <;> fail) rfl (by decide +kernel) ?_; simp only [Act.put, spA, spZ, spS]) | (refine ck_store hS rfl rfl rfl (by constructor) (by (repeat (first | exact uH _ _ _ | apply uT)) <;> fail) (by simp <;> omega) rfl (by decide +kernel) ?_; clear hS; intro w hS; simp only [Act.put, spA, spZ, spS] at hS ⊢) | (refine ck_max rfl rfl rfl rfl ?_; simp only [Act.put, spA, spZ, spS]) | (refine ck_min rfl rfl rfl rfl ?_; simp only [Act.put, spA, spZ, spS]) | (go_at_call 62; refine Ct.callP (kW) (by (repeat (first | exact Takes.nil _ | (apply Takes.cons; ((repeat (first | exact rH _ _ | apply rT)) <;> fail))))) hS ?_; clear hS; rintro _ _ w ⟨rfl, rfl⟩ hS; simp only [List.cons_append, List.nil_append] at hS) | (refine ck_region (fun _ => 0) (fun _ => []) [] hS (by kernel_rfl) (by decide +kernel) ?_ ?_; exact ⟨fun _ _ _ h => h.2, fun _ _ h => h⟩; clear hS; intro w hS _; (repeat (first | (apply wpT_pure rfl rfl; (intro _; go_simp; (try (go_ints; (try go_simp))); (first | (rw [decide_eq_true]; omega) | (rw [decide_eq_false]; omega) | rfl | rw [if_pos (by omega)])); simp only [Act.put, spA, spZ, spS]) | (refine ckT_load hS rfl rfl rfl (by simp <;> fail) (by (repeat (first | exact mH _ | apply mT)) <;> fail) rfl (by decide +kernel) ?_; simp only [Act.put, spA, spZ, spS]) | (refine ckT_store hS rfl rfl rfl (by constructor) (by (repeat (first | exact uH _ _ _ | apply uT)) <;> fail) (by simp <;> fail) rfl (by decide +kernel) (by simp <;> fail) ?_; clear hS; intro w hS; simp only [Act.put, spA, spZ, spS] at hS ⊢) )); refine wpT_nil ?_) )
      refine bodyPost_end (results_none rfl _ _ _) rfl ?_
      exact ⟨_, ⟨rfl, q', hq', hc', hlb', htb', rfl⟩, (by simp only [List.cons_append, List.nil_append]; exact hS.pick (by (repeat (first | exact Pick.refl _ | (apply Pick.take; ((repeat (first | exact rH _ _ | apply rT)) <;> fail)) | (apply Pick.drop)))))⟩
  | some x =>
    unfold DeqP dRes at kD
    dsimp only at kD
    apply ck_treeM3 (α := Nat) (β := Option Addr) (γ := Nat) _ (fun x4 ra rc w => ∃ q' : QA, absQ q' = ds' ∧ q'.c = q.c ∧ q'.lb = q.lb ∧ q'.tb = q.tb ∧ Sep w0 F (pts x4 (segV x) 44 :: outP ob outZ :: mP b c cb sl qb lg :: clkR cb now :: socksR sl :: queueG qb q' :: treeG q.tb t :: ledR lg B :: L) w)
      (.seg [0, 1, 2, 3, 4, 6] (.br 5 (.br 7 (.br 8 (.seg [9, 10, 11, 12, 13, 14] .done) 12 (.seg [8, 9, 10, 11, 13, 14] .done)) 12 (.seg [7, 8, 9, 10, 11, 13, 14] .done)) 12 (.seg [5, 7, 8, 9, 10, 11, 13, 14] .done))) (fun _ => b) (fun i => if i = 5 then [3] else if i = 7 then [3] else if i = 12 then [3] else []) [3] hS (by kernel_rfl) (by decide +kernel)
    case h =>
      intro w hS _
      (repeat' (first | (refine wpG_opL rfl ?_) | (refine wpG_nil ?_) | (refine wpG_brL rfl rfl ?_ ?_) | (refine wpG_done ?_) | (apply wpT_pure rfl rfl; (intro _; go_simp; (try (go_ints; (try go_simp))); (first | (rw [decide_eq_true]; omega) | (rw [decide_eq_false]; omega) | rfl | rw [if_pos (by omega)])); simp only [Act.put, spA, spZ, spS]) | (refine ckT_load hS rfl rfl rfl (by simp <;> fail) (by (repeat (first | exact mH _ | apply mT)) <;> fail) hmq (by decide +kernel) ?_; simp only [Act.put, spA, spZ, spS]) | (refine ckT_storeAll hS rfl rfl rfl rfl (by (repeat (first | exact uH _ _ _ | apply uT)) <;> fail) (by rfl) rfl (by (try simp only [List.length_cons, List.length_nil, Nat.zero_add, Nat.reduceAdd]); decide +kernel) (by simp <;> fail) ?_; clear hS; intro w hS; simp only [Act.put, spA, spZ, spS]) | (refine ckT_callP hS rfl (kN) (by (repeat (first | exact Takes.nil _ | (apply Takes.cons; ((repeat (first | exact rH _ _ | apply rT)) <;> fail))))) rfl (by kernel_rfl) rfl ((by intro j hj; simp at hj; (first | subst hj | (rcases hj with rfl | rfl) | (rcases hj with rfl | rfl | rfl) | (rcases hj with rfl | rfl | rfl | rfl) | (rcases hj with rfl | rfl | rfl | rfl | rfl)) <;> exact .inr ⟨_, _, (by (repeat (first | exact mH _ | apply mT)) <;> fail), (by rintro _ _ ⟨rfl, rfl⟩; exact (by (repeat (first | exact mH _ | apply mT)) <;> fail))⟩)) ?_; clear hS; rintro _ _ w ⟨rfl, rfl⟩ hS; simp only [List.cons_append, List.nil_append] at hS; simp only [Act.put, spA, spZ, spS]) | (refine ckT_callP hS rfl (kR) (by (repeat (first | exact Takes.nil _ | (apply Takes.cons; ((repeat (first | exact rH _ _ | apply rT)) <;> fail))))) rfl (by kernel_rfl) rfl ((by intro j hj; simp at hj; (first | subst hj | (rcases hj with rfl | rfl) | (rcases hj with rfl | rfl | rfl) | (rcases hj with rfl | rfl | rfl | rfl) | (rcases hj with rfl | rfl | rfl | rfl | rfl)) <;> exact .inr ⟨_, _, (by (repeat (first | exact mH _ | apply mT)) <;> fail), (by rintro _ _ ⟨_, _, rfl, rfl⟩; exact (by (repeat (first | exact mH _ | apply mT)) <;> fail))⟩)) ?_; clear hS; rintro _ _ w ⟨ad, cp, rfl, rfl⟩ hS; simp only [List.cons_append, List.nil_append] at hS; simp only [Act.put, spA, spZ, spS]) | (refine ckT_callP hS rfl (kD _ _) (by (repeat (first | exact Takes.nil _ | (apply Takes.cons; ((repeat (first | exact rH _ _ | apply rT)) <;> fail))))) rfl (by kernel_rfl) rfl ((by intro j hj; simp at hj)) ?_; clear hS; rintro _ _ w ⟨rfl, q', hq', hc', hlb', htb', rfl⟩ hS; simp only [List.cons_append, List.nil_append] at hS; simp only [Act.put, spA, spZ, spS]) | (refine ckT_alloc (t := 44) (v := segA ⟨0, 0, 0, 0, false⟩) (cs := segV ⟨0, 0, 0, 0, false⟩) hS rfl rfl (by kernel_rfl) rfl (fun j hj => ⟨_, _, ((by (repeat (first | exact mH _ | apply mT)) <;> fail) : mP b c cb sl qb lg ∈ _)⟩) ?_; clear hS; intro x4 w hS; simp only [Act.put, spA, spZ, spS]))) <;> exact ⟨rfl, x4, ad, cp, rfl, q', hq', hc', hlb', htb', hS.pick (by (repeat (first | exact Pick.refl _ | (apply Pick.take; ((repeat (first | exact rH _ _ | apply rT)) <;> fail)) | (apply Pick.drop))))⟩
    case hc =>
      rintro x4 ra rc w ⟨q', hq', hc', hlb', htb', hS⟩
      obtain ⟨s0, s8, hn7⟩ := hr x rfl
      obtain ⟨s, hs⟩ : ∃ s : Nat, x.sock = s := ⟨x.sock.toNat, by omega⟩
      have kL := noteF_ct lg B hB s 1 (by omega) (by omega) (by omega) (by rw [← Int.toNat_natCast s, ← hs]; exact hn7)
      rw [show ((1 : Nat) : Int) = 1 from rfl, ← hs] at kL
      have hs2 : s = x.sock.toNat := by omega
      rw [hs2] at kL
      clear hs hs2
      go_wp2_with (first | go_skip | (refine ck_loadAll hS rfl rfl rfl (by (repeat (first | exact mH _ | apply mT)) <;> fail) rfl (by (try simp only [List.length_cons, List.length_nil, Nat.zero_add, Nat.reduceAdd]); decide +kernel) ?_; simp only [Act.put, spA, spZ, spS]) | (refine ck_load hS rfl rfl rfl (by (repeat (first | exact mH _ | apply mT)) <;> fail) rfl (by decide +kernel) ?_; simp only [Act.put, spA, spZ, spS]) | (refine ck_store hS rfl rfl rfl (by constructor) (by (repeat (first | exact uH _ _ _ | apply uT)) <;> fail) (by simp <;> omega) rfl (by decide +kernel) ?_; clear hS; intro w hS; simp only [Act.put, spA, spZ, spS] at hS ⊢) | (refine ck_max rfl rfl rfl rfl ?_; simp only [Act.put, spA, spZ, spS]) | (refine ck_min rfl rfl rfl rfl ?_; simp only [Act.put, spA, spZ, spS])  | (refine ck_region (fun _ => 0) (fun _ => []) [] hS (by kernel_rfl) (by decide +kernel) ?_ ?_; exact ⟨fun _ _ _ h => h.2, fun _ _ h => h⟩; clear hS; intro w hS _; (repeat (first | (apply wpT_pure rfl rfl; (intro _; go_simp; (try (go_ints; (try go_simp))); (first | (rw [decide_eq_true]; omega) | (rw [decide_eq_false]; omega) | rfl | rw [if_pos (by omega)])); simp only [Act.put, spA, spZ, spS]) | (refine ckT_load hS rfl rfl rfl (by simp <;> fail) (by (repeat (first | exact mH _ | apply mT)) <;> fail) rfl (by decide +kernel) ?_; simp only [Act.put, spA, spZ, spS]) | (refine ckT_store hS rfl rfl rfl (by constructor) (by (repeat (first | exact uH _ _ _ | apply uT)) <;> fail) (by simp <;> fail) rfl (by decide +kernel) (by simp <;> fail) ?_; clear hS; intro w hS; simp only [Act.put, spA, spZ, spS] at hS ⊢) | (refine ckT_load hS rfl rfl rfl (by simp <;> fail) (by (repeat (first | exact mH _ | apply mT)) <;> fail) hml (by decide +kernel) ?_; simp only [Act.put, spA, spZ, spS]))); refine wpT_nil ?_) | (refine ck_buildE (e := 44) (sz := 5) (news := segV x) hS rfl rfl rfl rfl (by omega) (by omega) (by decide +kernel) ?_; clear hS; intro g w hS; simp only [Act.put, spA, spZ, spS]) | (refine ck_region (fun _ => 0) (fun _ => []) ([]) hS (by kernel_rfl) (by decide +kernel) ?_ ?_; exact ⟨fun _ _ _ h => h.2, fun _ _ h => h⟩; clear hS; intro w hS _; (repeat (first | (apply wpT_pure rfl rfl; (intro _; go_simp; (try (go_ints; (try go_simp))); (first | (rw [decide_eq_true]; omega) | (rw [decide_eq_false]; omega) | rfl | rw [if_pos (by omega)])); simp only [Act.put, spA, spZ, spS]) | (refine ckT_load hS rfl rfl rfl (by simp <;> fail) (by (repeat (first | exact mH _ | apply mT)) <;> fail) rfl (by decide +kernel) ?_; simp only [Act.put, spA, spZ, spS]) | (refine ckT_store hS rfl rfl rfl (by constructor) (by (repeat (first | exact uH _ _ _ | apply uT)) <;> fail) (by simp <;> fail) rfl (by decide +kernel) (by simp <;> fail) ?_; clear hS; intro w hS; simp only [Act.put, spA, spZ, spS] at hS ⊢) | (refine ckT_load hS rfl rfl rfl (by simp <;> fail) (by (repeat (first | exact mH _ | apply mT)) <;> fail) hml (by decide +kernel) ?_; simp only [Act.put, spA, spZ, spS]) | (refine ckT_callP hS rfl (kL) (by (repeat (first | exact Takes.nil _ | (apply Takes.cons; ((repeat (first | exact rH _ _ | apply rT)) <;> fail))))) rfl (by kernel_rfl) rfl ((by intro j hj; simp at hj)) ?_; clear hS; rintro _ _ w ⟨rfl, rfl⟩ hS; simp only [List.cons_append, List.nil_append] at hS; simp only [Act.put, spA, spZ, spS]))); refine wpT_nil ?_))
      refine bodyPost_ret (results_none rfl _ _ _) rfl ?_
      have j1 := (hS.bring (r := pts g (segV x) 44) (by (repeat (first | exact rH _ _ | apply rT)) <;> fail)).shut (n := 1) (cap := 1) (sz := 5) (segV x) [] (by simp) (by simp) (by omega) (by unfold maxLen; omega) (by simp)
      clear hS
      have hS := j1
      exact ⟨_, ⟨rfl, q', hq', hc', hlb', htb', g, rfl⟩, (by simp only [List.cons_append, List.nil_append]; exact hS.pick (by (repeat (first | exact Pick.refl _ | (apply Pick.take; ((repeat (first | exact rH _ _ | apply rT)) <;> fail)) | (apply Pick.drop)))))⟩
end Go.Proofs.YtcegknecikbbkaaGreat

/- A machine: one deed. -/
set_option linter.unusedVariables false
set_option linter.unusedSimpArgs false
set_option maxRecDepth 4000
namespace Go.Proofs.YtcegknecikbbkaaGreat
open Go.RowKit
section
variable (b : Nat) (c : CfgM) (cb : Nat) (now : Int) (sl : List (Option SkA)) (h8 : sl.length = 8) (qb lg ob : Nat) (q : QA) (t : TrA) (B : List (List Int)) (d : DeedM) (o : OutA)
include h8 in
set_option maxHeartbeats 8000000 in
theorem oneOpen_ct (hk : d.kind = 1) (s : Nat) (hs : d.sock = s) (s8 : s < 8) (hx : sl[s]? = some none) :
    Ct Tryz.prog 29 #[.pointer (some ⟨b, 0, none⟩), deedA d, .pointer (some ⟨ob, 0, none⟩)] [mP b c cb sl qb lg, socksR sl]
      (fun v L => v = .int .i64 0 ∧ ∃ A : SockA, L = [mP b c cb (sl.set s (some ⟨A, sockZ s c⟩)) qb lg, socksR (sl.set s (some ⟨A, sockZ s c⟩))]) := by
  have kI := egIs_ct s
  rw [decide_eq_true (show (0 : Int) ≤ s by omega), decide_eq_true (show (s : Int) < 8 by omega)] at kI
  have kN := sockNew_ct s c
  have hms : (mC c cb sl qb lg)[10 + s]? = some (.pointer none) := mC_s (c := c) (cb := cb) (qb := qb) (lg := lg) hx
  have hset : ∀ (A : SockA) (z : SockM), (mC c cb sl qb lg).set (10 + s) (.pointer (some ⟨A.b, 0, none⟩)) = mC c cb (sl.set s (some ⟨A, z⟩)) qb lg := fun A z => mC_setS (c := c) (cb := cb) (qb := qb) (lg := lg) (x := some ⟨A, z⟩) h8 s8
  have hlen := mC_len (c := c) (cb := cb) (qb := qb) (lg := lg) h8
  have hput : ∀ {w0 w : World} {F : List Nat} {L : List Res} {A : SockA}, Sep w0 F (sockG A (sockZ s c) :: socksR sl :: L) w → Sep w0 F (socksR (sl.set s (some ⟨A, sockZ s c⟩)) :: L) w := fun {w0 w F L A} h => socksPut (s := ⟨A, sockZ s c⟩) (by omega) (by rw [set_same hx]; exact h)
  have hcfg : ∀ j, j < 9 → (mC c cb sl qb lg)[0 + j]? = (cfgV c)[j]? := fun j hj => by unfold mC; rw [Nat.zero_add, List.getElem?_append_left (by simpa using hj)]
  generalize sockZ s c = z0 at *
  obtain ⟨kind, sock, len, upto, at', sa, sn, sc, dcfg⟩ := d
  dsimp only at hk hs
  subst hk hs
  clear hx h8
  intro w0 F L w hS
  simp only [List.cons_append, List.nil_append] at hS
  go_enter Tryz.func29, Tryz.ntmps29
  go_wp2_with (first | go_skip | (refine ck_load hS rfl rfl rfl (by (repeat (first | exact mH _ | apply mT)) <;> fail) hms (by decide +kernel) ?_; simp only [Act.put, spA, spZ, spS]) | (refine ck_load hS rfl rfl rfl (by (repeat (first | exact mH _ | apply mT)) <;> fail) rfl (by decide +kernel) ?_; simp only [Act.put, spA, spZ, spS]) | (refine ck_box hS rfl rfl (by constructor) ?_; clear hS; intro nb w hS; simp only [Act.put, spA, spZ, spS]) | (go_at_call 64; with_reducible refine Ct.call0 (kI) hS ?_; clear hS; intro w hS) | (refine ck_region (fun _ => 0) (fun _ => []) [] hS (by kernel_rfl) (by decide +kernel) ?_ ?_; exact ⟨fun _ _ _ h => h.2, fun _ _ h => h⟩; clear hS; intro w hS _; (repeat (first | (apply wpT_pure rfl rfl; (intro _; go_simp; (try (go_ints; (try go_simp))); (first | (rw [decide_eq_true]; omega) | (rw [decide_eq_false]; omega) | rfl | rw [if_pos (by omega)])); simp only [Act.put, spA, spZ, spS]) | (refine ckT_load hS rfl rfl rfl (by simp <;> fail) (by (repeat (first | exact mH _ | apply mT)) <;> fail) rfl (by decide +kernel) ?_; simp only [Act.put, spA, spZ, spS]) | (refine ckT_store hS rfl rfl rfl (by constructor) (by (repeat (first | exact uH _ _ _ | apply uT)) <;> fail) (by simp <;> fail) rfl (by decide +kernel) (by simp <;> fail) ?_; clear hS; intro w hS; simp only [Act.put, spA, spZ, spS] at hS ⊢) | (refine ckT_load hS rfl rfl rfl (by simp <;> fail) (by (repeat (first | exact mH _ | apply mT)) <;> fail) hms (by decide +kernel) ?_; simp only [Act.put, spA, spZ, spS]))); refine wpT_nil ?_) | (refine ck_region (fun _ => nb) (fun i => if i = 9 then [2] else []) ([2]) hS (by kernel_rfl) (by decide +kernel) ?_ ?_; exact ⟨fun _ _ _ h => h.2, fun _ _ h => h⟩; clear hS; intro w hS _; (repeat (first | (apply wpT_pure rfl rfl; (intro _; go_simp; (try (go_ints; (try go_simp))); (first | (rw [decide_eq_true]; omega) | (rw [decide_eq_false]; omega) | rfl | rw [if_pos (by omega)])); simp only [Act.put, spA, spZ, spS]) | (refine ckT_load hS rfl rfl rfl (by simp <;> fail) (by (repeat (first | exact mH _ | apply mT)) <;> fail) rfl (by decide +kernel) ?_; simp only [Act.put, spA, spZ, spS]) | (refine ckT_store hS rfl rfl rfl (by constructor) (by (repeat (first | exact uH _ _ _ | apply uT)) <;> fail) (by simp <;> fail) rfl (by decide +kernel) (by simp <;> fail) ?_; clear hS; intro w hS; simp only [Act.put, spA, spZ, spS] at hS ⊢) | (refine ckT_loadN (n := 9) (vs := cfgV c) hS rfl rfl rfl (by simp <;> fail) (by (repeat (first | exact mH _ | apply mT)) <;> fail) hcfg (by decide +kernel) rfl ?_; simp only [Act.put, spA, spZ, spS]) | (refine ckT_callP hS rfl (kN) (by (repeat (first | exact Takes.nil _ | (apply Takes.cons; ((repeat (first | exact rH _ _ | apply rT)) <;> fail))))) rfl (by kernel_rfl) rfl ((by intro j hj; simp at hj; (first | subst hj | (rcases hj with rfl | rfl) | (rcases hj with rfl | rfl | rfl) | (rcases hj with rfl | rfl | rfl | rfl) | (rcases hj with rfl | rfl | rfl | rfl | rfl)) <;> exact .inr ⟨_, _, (by (repeat (first | exact mH _ | apply mT)) <;> fail), (by rintro _ _ ⟨A, rfl, rfl⟩; exact (by (repeat (first | exact mH _ | apply mT)) <;> fail))⟩)) ?_; clear hS; rintro _ _ w ⟨A, rfl, rfl⟩ hS; simp only [List.cons_append, List.nil_append] at hS; simp only [Act.put, spA, spZ, spS]) | (refine ckT_store hS rfl rfl rfl (by constructor) (by (repeat (first | exact uH _ _ _ | apply uT)) <;> fail) (by rw [hlen]; omega) rfl (by decide +kernel) (by simp <;> fail) ?_; clear hS; intro w hS; rw [hset A z0] at hS; simp only [Act.put, spA, spZ, spS]))); refine wpT_nil ?_))
  go_ret
  have hS2 := hput (hS.pick (M := sockG A z0 :: socksR sl :: mP b c cb (sl.set s (some ⟨A, z0⟩)) qb lg :: L) (by (repeat (first | exact Pick.refl _ | (apply Pick.take; ((repeat (first | exact rH _ _ | apply rT)) <;> fail)) | (apply Pick.drop)))))
  clear hS
  have hS := hS2
  exact ⟨_, ⟨rfl, A, rfl⟩, (by simp only [List.cons_append, List.nil_append]; exact hS.pick (by (repeat (first | exact Pick.refl _ | (apply Pick.take; ((repeat (first | exact rH _ _ | apply rT)) <;> fail)) | (apply Pick.drop)))))⟩
end
section
variable (b : Nat) (c : CfgM) (cb : Nat) (now : Int) (sl : List (Option SkA)) (h8 : sl.length = 8) (qb lg ob : Nat) (q : QA) (B : List (List Int)) (d : DeedM)
abbrev TellP (b : Nat) (c : CfgM) (cb : Nat) (now : Int) (sl : List (Option SkA)) (qb lg s : Nat) (q : QA) (e : Int) (k' : SockM) (ds' : DS) (B' : List (List Int)) : Value → List Res → Prop := fun v L => v = .int .i64 e ∧ ∃ (A' : SockA) (q' : QA), absQ q' = ds' ∧ q'.c = q.c ∧ q'.lb = q.lb ∧ q'.tb = q.tb ∧ L = [mP b c cb (sl.set s (some ⟨A', k'⟩)) qb lg, clkR cb now, socksR (sl.set s (some ⟨A', k'⟩)), queueG qb q', ledR lg B']
include h8 in
set_option maxHeartbeats 8000000 in
theorem oneTold_ct (hk : d.kind = 2 ∨ d.kind = 3 ∨ d.kind = 4 ∨ d.kind = 7) (s : Nat) (hs : d.sock = s) (s8 : s < 8) (A : SockA) (k : SockM) (hx : sl[s]? = some (some ⟨A, k⟩)) (k1 k' : SockM) (ds' : DS) (B' : List (List Int))
    (hT : Ct Tryz.prog 67 #[.pointer (some ⟨A.b, 0, none⟩), deedA d, .int .u64 now] [sockG A k] (fun v L => v = .int .i64 0 ∧ ∃ A' : SockA, A'.b = A.b ∧ L = [sockG A' k1]))
    (hP : ∀ A' : SockA, A'.b = A.b → Ct Tryz.prog 68 #[.pointer (some ⟨b, 0, none⟩), .int .i64 s, .pointer (some ⟨ob, 0, none⟩)] [mP b c cb sl qb lg, clkR cb now, sockG A' k1, queueG qb q, ledR lg B]
      (fun v L => v = .tuple #[] ∧ ∃ (A'' : SockA) (q' : QA), A''.b = A.b ∧ absQ q' = ds' ∧ q'.c = q.c ∧ q'.lb = q.lb ∧ q'.tb = q.tb ∧ L = [mP b c cb sl qb lg, clkR cb now, sockG A'' k', queueG qb q', ledR lg B'])) :
    Ct Tryz.prog 29 #[.pointer (some ⟨b, 0, none⟩), deedA d, .pointer (some ⟨ob, 0, none⟩)] [mP b c cb sl qb lg, clkR cb now, socksR sl, queueG qb q, ledR lg B] (TellP b c cb now sl qb lg s q 0 k' ds' B') := by
  have kI := egIs_ct s
  rw [decide_eq_true (show (0 : Int) ≤ s by omega), decide_eq_true (show (s : Int) < 8 by omega)] at kI
  have kN := egNow_ct b c cb now sl qb lg
  have hms : (mC c cb sl qb lg)[10 + s]? = some (.pointer (some ⟨A.b, 0, none⟩)) := mC_s (c := c) (cb := cb) (qb := qb) (lg := lg) hx
  have hlen := mC_len (c := c) (cb := cb) (qb := qb) (lg := lg) h8
  have hfin : ∀ {w0 w : World} {F : List Nat} {L : List Res} {A'' : SockA} {q' : QA}, A''.b = A.b → Sep w0 F (sockG A'' k' :: socksR (sl.set s none) :: mP b c cb sl qb lg :: clkR cb now :: queueG qb q' :: ledR lg B' :: L) w → Sep w0 F (mP b c cb (sl.set s (some ⟨A'', k'⟩)) qb lg :: clkR cb now :: socksR (sl.set s (some ⟨A'', k'⟩)) :: queueG qb q' :: ledR lg B' :: L) w := fun {w0 w F L A'' q'} hb h => by
    have e : mC c cb (sl.set s (some ⟨A'', k'⟩)) qb lg = mC c cb sl qb lg := mC_same hx (by show Value.pointer _ = Value.pointer _; rw [hb])
    have h2 := socksPut (sl := sl) (i := s) (s := ⟨A'', k'⟩) (by omega) h
    show Sep w0 F (pts b (mC c cb (sl.set s (some ⟨A'', k'⟩)) qb lg) _ :: _) w
    rw [e]
    exact h2.pick (by (repeat (first | exact Pick.refl _ | (apply Pick.take; ((repeat (first | exact rH _ _ | apply rT)) <;> fail)) | (apply Pick.drop))))
  have hop := fun {w0 w : World} {F : List Nat} {L : List Res} => (socksTake (w0 := w0) (w := w) (F := F) (L := L) hx).1
  obtain ⟨kind, sock, len, upto, at', sa, sn, sc, dcfg⟩ := d
  dsimp only at hk hs
  subst hs
  clear hx h8
  intro w0 F L w hS
  simp only [List.cons_append, List.nil_append] at hS
  have hS0 := hop (hS.bring (r := socksR sl) (by (repeat (first | exact rH _ _ | apply rT)) <;> fail))
  clear hS
  have hS := hS0
  clear hS0 hop
  rcases hk with rfl | rfl | rfl | rfl
  all_goals
    go_enter Tryz.func29, Tryz.ntmps29
    go_wp2_with (first | go_skip | (refine ck_load hS rfl rfl rfl (by (repeat (first | exact mH _ | apply mT)) <;> fail) hms (by decide +kernel) ?_; simp only [Act.put, spA, spZ, spS]) | (refine ck_load hS rfl rfl rfl (by (repeat (first | exact mH _ | apply mT)) <;> fail) rfl (by decide +kernel) ?_; simp only [Act.put, spA, spZ, spS]) | (refine ck_box hS rfl rfl (by constructor) ?_; clear hS; intro nb w hS; simp only [Act.put, spA, spZ, spS]) | (go_at_call 64; with_reducible refine Ct.call0 (kI) hS ?_; clear hS; intro w hS) | (go_at_call 68; refine Ct.callP (hP A' hA') (by (repeat (first | exact Takes.nil _ | (apply Takes.cons; ((repeat (first | exact rH _ _ | apply rT)) <;> fail))))) hS ?_; clear hS; rintro _ _ w ⟨rfl, A'', q', hA'', hq', hc', hlb', htb', rfl⟩ hS; simp only [List.cons_append, List.nil_append] at hS) | (refine ck_region (fun _ => 0) (fun _ => []) [] hS (by kernel_rfl) (by decide +kernel) ?_ ?_; exact ⟨fun _ _ _ h => h.2, fun _ _ h => h⟩; clear hS; intro w hS _; (repeat (first | (apply wpT_pure rfl rfl; (intro _; go_simp; (try (go_ints; (try go_simp))); (first | (rw [decide_eq_true]; omega) | (rw [decide_eq_false]; omega) | rfl | rw [if_pos (by omega)])); simp only [Act.put, spA, spZ, spS]) | (refine ckT_load hS rfl rfl rfl (by simp <;> fail) (by (repeat (first | exact mH _ | apply mT)) <;> fail) rfl (by decide +kernel) ?_; simp only [Act.put, spA, spZ, spS]) | (refine ckT_store hS rfl rfl rfl (by constructor) (by (repeat (first | exact uH _ _ _ | apply uT)) <;> fail) (by simp <;> fail) rfl (by decide +kernel) (by simp <;> fail) ?_; clear hS; intro w hS; simp only [Act.put, spA, spZ, spS] at hS ⊢) | (refine ckT_load hS rfl rfl rfl (by simp <;> fail) (by (repeat (first | exact mH _ | apply mT)) <;> fail) hms (by decide +kernel) ?_; simp only [Act.put, spA, spZ, spS]))); refine wpT_nil ?_) | (refine ck_region (fun _ => nb) (fun i => if i = 3 then [1] else []) ([1]) hS (by kernel_rfl) (by decide +kernel) ?_ ?_; exact ⟨fun _ _ _ h => h.2, fun _ _ h => h⟩; clear hS; intro w hS _; (repeat (first | (apply wpT_pure rfl rfl; (intro _; go_simp; (try (go_ints; (try go_simp))); (first | (rw [decide_eq_true]; omega) | (rw [decide_eq_false]; omega) | rfl | rw [if_pos (by omega)])); simp only [Act.put, spA, spZ, spS]) | (refine ckT_load hS rfl rfl rfl (by simp <;> fail) (by (repeat (first | exact mH _ | apply mT)) <;> fail) rfl (by decide +kernel) ?_; simp only [Act.put, spA, spZ, spS]) | (refine ckT_store hS rfl rfl rfl (by constructor) (by (repeat (first | exact uH _ _ _ | apply uT)) <;> fail) (by simp <;> fail) rfl (by decide +kernel) (by simp <;> fail) ?_; clear hS; intro w hS; simp only [Act.put, spA, spZ, spS] at hS ⊢) | (refine ckT_loadAll hS rfl rfl rfl (by simp <;> fail) (by (repeat (first | exact mH _ | apply mT)) <;> fail) rfl (by (try simp only [List.length_cons, List.length_nil, Nat.zero_add, Nat.reduceAdd]); decide +kernel) ?_; simp only [Act.put, spA, spZ, spS]) | (refine ckT_callP hS rfl (kN) (by (repeat (first | exact Takes.nil _ | (apply Takes.cons; ((repeat (first | exact rH _ _ | apply rT)) <;> fail))))) rfl (by kernel_rfl) rfl ((by intro j hj; simp at hj; (first | subst hj | (rcases hj with rfl | rfl) | (rcases hj with rfl | rfl | rfl) | (rcases hj with rfl | rfl | rfl | rfl) | (rcases hj with rfl | rfl | rfl | rfl | rfl)) <;> exact .inr ⟨_, _, (by (repeat (first | exact mH _ | apply mT)) <;> fail), (by rintro _ _ ⟨rfl, rfl⟩; exact (by (repeat (first | exact mH _ | apply mT)) <;> fail))⟩)) ?_; clear hS; rintro _ _ w ⟨rfl, rfl⟩ hS; simp only [List.cons_append, List.nil_append] at hS; simp only [Act.put, spA, spZ, spS]) | (refine ckT_callP hS rfl (hT) (by (repeat (first | exact Takes.nil _ | (apply Takes.cons; ((repeat (first | exact rH _ _ | apply rT)) <;> fail))))) rfl (by kernel_rfl) rfl ((by intro j hj; simp at hj)) ?_; clear hS; rintro _ _ w ⟨rfl, A', hA', rfl⟩ hS; simp only [List.cons_append, List.nil_append] at hS; simp only [Act.put, spA, spZ, spS]))); refine wpT_nil ?_))
    go_ret
    have hS2 := hfin hA'' (hS.pick (M := sockG A'' k' :: socksR (sl.set s none) :: mP b c cb sl qb lg :: clkR cb now :: queueG qb q' :: ledR lg B' :: L) (by (repeat (first | exact Pick.refl _ | (apply Pick.take; ((repeat (first | exact rH _ _ | apply rT)) <;> fail)) | (apply Pick.drop)))))
    exact ⟨_, ⟨rfl, A'', q', hq', hc', hlb', htb', rfl⟩, hS2⟩
end
end Go.Proofs.YtcegknecikbbkaaGreat

/- A machine: Do, over what one and pull come to. -/
set_option linter.unusedVariables false
set_option linter.unusedSimpArgs false
set_option maxRecDepth 4000
namespace Go.Proofs.YtcegknecikbbkaaGreat
open Go.RowKit
theorem perm2 {y z : Res} {A L : List Res} : (y :: z :: (A ++ L)).Perm (A ++ (y :: z :: L)) := List.perm_append_comm_assoc [y, z] A L
theorem Sep.tail2 {w0 w : World} {F : List Nat} {A L : List Res} {x y z : Res} (h : Sep w0 F (x :: y :: z :: (A ++ L)) w) : Sep w0 F ((x :: A) ++ (y :: z :: L)) w := h.perm (perm2.cons x)
theorem Sep.untail2 {w0 w : World} {F : List Nat} {A L : List Res} {x y z : Res} (h : Sep w0 F (x :: (A ++ (y :: z :: L))) w) : Sep w0 F (x :: y :: z :: (A ++ L)) w := h.perm (perm2.symm.cons x)
abbrev outA (o : OutA) : Value := .agg (outV o).toArray
section
variable (b : Nat) (d : DeedM) (pre : List Res) (Post : OutA → List Res → Prop)
set_option maxHeartbeats 8000000 in
theorem doOne_ct (hk : d.kind = 1 ∨ d.kind = 2 ∨ d.kind = 3 ∨ d.kind = 4 ∨ d.kind = 7 ∨ d.kind = 9) (hC : ∀ ob, Ct Tryz.prog 29 #[.pointer (some ⟨b, 0, none⟩), deedA d, .pointer (some ⟨ob, 0, none⟩)] (outP ob outZ :: pre) (fun v L => v = .int .i64 0 ∧ ∃ o L', Post o L' ∧ L = outP ob o :: L')) :
    Ct Tryz.prog 9 #[.pointer (some ⟨b, 0, none⟩), deedA d] pre (fun v L => ∃ o, v = .tuple #[outA o, .int .i64 0] ∧ Post o L) := by
  obtain ⟨kind, sock, len, upto, at', sa, sn, sc, dcfg⟩ := d
  dsimp only at hk
  intro w0 F L w hS
  rcases hk with rfl | rfl | rfl | rfl | rfl | rfl
  all_goals
    go_enter Tryz.func9, Tryz.ntmps9
    go_wp2_with (first | go_skip | (refine ck_loadAll hS rfl rfl rfl (by (repeat (first | exact mH _ | apply mT)) <;> fail) rfl (by (try simp only [List.length_cons, List.length_nil, Nat.zero_add, Nat.reduceAdd]); decide +kernel) ?_; simp only [Act.put, spA, spZ, spS]) | (refine ck_storeAll hS rfl rfl rfl rfl (by (repeat (first | exact uH _ _ _ | apply uT)) <;> fail) (by rfl) rfl (by (try simp only [List.length_cons, List.length_nil, Nat.zero_add, Nat.reduceAdd]); decide +kernel) ?_; clear hS; intro w hS; simp only [Act.put, spA, spZ, spS]) | (refine ck_load hS rfl rfl rfl (by (repeat (first | exact mH _ | apply mT)) <;> fail) rfl (by decide +kernel) ?_; simp only [Act.put, spA, spZ, spS]) | (refine ck_store hS rfl rfl rfl (by constructor) (by (repeat (first | exact uH _ _ _ | apply uT)) <;> fail) (by simp <;> omega) rfl (by decide +kernel) ?_; clear hS; intro w hS; simp only [Act.put, spA, spZ, spS] at hS ⊢) | (refine ck_box hS rfl rfl (by constructor) ?_; clear hS; intro nb w hS; simp only [Act.put, spA, spZ, spS]) | (have h1 := x4; clear h1; refine ck_alloc (t := 35) (v := outA outZ) (cs := outV outZ) hS rfl rfl (by kernel_rfl) rfl ?_; clear hS; intro x6 w hS; simp only [Act.put, spA, spZ, spS]) | (refine ck_alloc (t := 35) (v := outA outZ) (cs := outV outZ) hS rfl rfl (by kernel_rfl) rfl ?_; clear hS; intro x4 w hS; simp only [Act.put, spA, spZ, spS]) | (go_at_call 29; refine Ct.call (hC x6) hS.tail2 ?_; clear hS; rintro _ _ w ⟨rfl, o, L', hp, rfl⟩ hS; simp only [List.cons_append] at hS; have hS0 := hS.untail2; clear hS; have hS := hS0; clear hS0) | (refine ck_region (fun _ => 0) (fun _ => []) [] hS (by kernel_rfl) (by decide +kernel) ?_ ?_; exact ⟨fun _ _ _ h => h.2, fun _ _ h => h⟩; clear hS; intro w hS _; (repeat (first | (apply wpT_pure rfl rfl; (intro _; go_simp; (try (go_ints; (try go_simp))); (first | (rw [decide_eq_true]; omega) | (rw [decide_eq_false]; omega) | rfl | rw [if_pos (by omega)])); simp only [Act.put, spA, spZ, spS]) | (refine ckT_load hS rfl rfl rfl (by simp <;> fail) (by (repeat (first | exact mH _ | apply mT)) <;> fail) rfl (by decide +kernel) ?_; simp only [Act.put, spA, spZ, spS]) )); refine wpT_nil ?_) )
    refine bodyPost_ret (ckRes_cell_tmp hS (cs := outV o) (b := x4) (T := 35) (by (repeat (first | exact mH _ | apply mT)) <;> fail) rfl rfl rfl (by (try simp only [List.length_cons, List.length_nil, Nat.zero_add, Nat.reduceAdd]); decide +kernel)) rfl ?_
    exact ⟨L', ⟨o, rfl, hp⟩, hS.dropN 3⟩
set_option maxHeartbeats 8000000 in
theorem doPull_ct (hk : d.kind = 6) (hC : ∀ ob, Ct Tryz.prog 27 #[.pointer (some ⟨b, 0, none⟩), .pointer (some ⟨ob, 0, none⟩)] (outP ob outZ :: pre) (fun v L => v = .tuple #[] ∧ ∃ o L', Post o L' ∧ L = outP ob o :: L')) :
    Ct Tryz.prog 9 #[.pointer (some ⟨b, 0, none⟩), deedA d] pre (fun v L => ∃ o, v = .tuple #[outA o, .int .i64 0] ∧ Post o L) := by
  obtain ⟨kind, sock, len, upto, at', sa, sn, sc, dcfg⟩ := d
  dsimp only at hk
  intro w0 F L w hS
  subst hk
  go_enter Tryz.func9, Tryz.ntmps9
  go_wp2_with (first | go_skip | (refine ck_loadAll hS rfl rfl rfl (by (repeat (first | exact mH _ | apply mT)) <;> fail) rfl (by (try simp only [List.length_cons, List.length_nil, Nat.zero_add, Nat.reduceAdd]); decide +kernel) ?_; simp only [Act.put, spA, spZ, spS]) | (refine ck_storeAll hS rfl rfl rfl rfl (by (repeat (first | exact uH _ _ _ | apply uT)) <;> fail) (by rfl) rfl (by (try simp only [List.length_cons, List.length_nil, Nat.zero_add, Nat.reduceAdd]); decide +kernel) ?_; clear hS; intro w hS; simp only [Act.put, spA, spZ, spS]) | (refine ck_load hS rfl rfl rfl (by (repeat (first | exact mH _ | apply mT)) <;> fail) rfl (by decide +kernel) ?_; simp only [Act.put, spA, spZ, spS]) | (refine ck_store hS rfl rfl rfl (by constructor) (by (repeat (first | exact uH _ _ _ | apply uT)) <;> fail) (by simp <;> omega) rfl (by decide +kernel) ?_; clear hS; intro w hS; simp only [Act.put, spA, spZ, spS] at hS ⊢) | (refine ck_box hS rfl rfl (by constructor) ?_; clear hS; intro nb w hS; simp only [Act.put, spA, spZ, spS]) | (have h1 := x4; clear h1; refine ck_alloc (t := 35) (v := outA outZ) (cs := outV outZ) hS rfl rfl (by kernel_rfl) rfl ?_; clear hS; intro x6 w hS; simp only [Act.put, spA, spZ, spS]) | (refine ck_alloc (t := 35) (v := outA outZ) (cs := outV outZ) hS rfl rfl (by kernel_rfl) rfl ?_; clear hS; intro x4 w hS; simp only [Act.put, spA, spZ, spS]) | (go_at_call 27; refine Ct.call (hC x6) hS.tail2 ?_; clear hS; rintro _ _ w ⟨rfl, o, L', hp, rfl⟩ hS; simp only [List.cons_append] at hS; have hS0 := hS.untail2; clear hS; have hS := hS0; clear hS0) | (refine ck_region (fun _ => 0) (fun _ => []) [] hS (by kernel_rfl) (by decide +kernel) ?_ ?_; exact ⟨fun _ _ _ h => h.2, fun _ _ h => h⟩; clear hS; intro w hS _; (repeat (first | (apply wpT_pure rfl rfl; (intro _; go_simp; (try (go_ints; (try go_simp))); (first | (rw [decide_eq_true]; omega) | (rw [decide_eq_false]; omega) | rfl | rw [if_pos (by omega)])); simp only [Act.put, spA, spZ, spS]) | (refine ckT_load hS rfl rfl rfl (by simp <;> fail) (by (repeat (first | exact mH _ | apply mT)) <;> fail) rfl (by decide +kernel) ?_; simp only [Act.put, spA, spZ, spS]) )); refine wpT_nil ?_) )
  refine bodyPost_ret (ckRes_cell_tmp hS (cs := outV o) (b := x4) (T := 35) (by (repeat (first | exact mH _ | apply mT)) <;> fail) rfl rfl rfl (by (try simp only [List.length_cons, List.length_nil, Nat.zero_add, Nat.reduceAdd]); decide +kernel)) rfl ?_
  exact ⟨L', ⟨o, rfl, hp⟩, hS.dropN 3⟩
end
end Go.Proofs.YtcegknecikbbkaaGreat

/- Deeds, one behind the other. -/
set_option linter.unusedVariables false
set_option linter.unusedSimpArgs false
set_option maxRecDepth 4000
namespace Go.Proofs.YtcegknecikbbkaaGreat
open Go.RowKit
def dds (l : List DeedM) : List Value := l.flatMap deedV
def ots (l : List OutA) : List Value := l.flatMap outV
def ers (l : List Int) : List Value := l.map fun n : Int => Value.int .i64 n
theorem ots_snoc (l : List OutA) (o : OutA) : ots (l ++ [o]) = ots l ++ outV o := by unfold ots; rw [List.flatMap_append]; simp
theorem ers_snoc (l : List Int) (e : Int) : ers (l ++ [e]) = ers l ++ [.int .i64 e] := by unfold ers; rw [List.map_append]; rfl
theorem dds_get {l : List DeedM} {i : Nat} {d : DeedM} (h : l[i]? = some d) : ∀ (j : Nat) (v : Value), (deedV d)[j]? = some v → (dds l)[i * 15 + j]? = some v := by
  induction l generalizing i with
  | nil => cases h
  | cons x r ih =>
    intro j v hj
    have hx : (deedV x).length = 15 := rfl
    show (deedV x ++ dds r)[i * 15 + j]? = some v
    cases i with
    | zero =>
      injection h with h; subst h
      have hj2 := (List.getElem?_eq_some_iff.1 hj).1
      rw [Nat.zero_mul, Nat.zero_add, List.getElem?_append_left hj2]; exact hj
    | succ i =>
      rw [List.getElem?_append_right (by omega), hx, show (i + 1) * 15 + j - 15 = i * 15 + j by omega]
      exact ih h j v hj
theorem Sep.cal4 {w0 w : World} {F : List Nat} {A L : List Res} {a b c d : Res} : Sep w0 F (a :: b :: c :: d :: (A ++ L)) w ↔ Sep w0 F (A ++ (a :: b :: c :: d :: L)) w := ⟨fun h => h.perm (List.perm_append_comm_assoc [a, b, c, d] A L), fun h => h.perm (List.perm_append_comm_assoc [a, b, c, d] A L).symm⟩
set_option maxHeartbeats 8000000 in
theorem run_ct (c : CfgM) (hc : mayOk c) (ad : Option Addr) (n cp : Nat) (dl : List DeedM) (hn : dl.length = n) (hn3 : n ≤ 1000) (J : Nat → Nat → List Res → List OutA → List Int → Prop)
    (hJ0 : ∀ b cb qb lb tb lg ab la aa, J b 0 [machG b (startM c cb qb lb tb lg ab la aa)] [] [])
    (hstep : ∀ b i d L outs errs, dl[i]? = some d → J b i L outs errs → Ct Tryz.prog 9 #[.pointer (some ⟨b, 0, none⟩), deedA d] L (fun v L' => ∃ o e, v = .tuple #[outA o, .int .i64 e] ∧ J b (i + 1) L' (outs ++ [o]) (errs ++ [e]))) :
    Ct Tryz.prog 14 #[cfgA c, .slice ad n cp] [rowO ad n cp 40 15 (dds dl)]
      (fun v L => ∃ b outs errs a1 c1 a2 c2 L', J b n L' outs errs ∧ outs.length = n ∧ errs.length = n ∧ v = .tuple #[.slice a1 n c1, .slice a2 n c2] ∧ L = rowR a1 n c1 35 4 (ots outs) :: rowR a2 n c2 28 1 (ers errs) :: rowO ad n cp 40 15 (dds dl) :: L') := by
  have kE := egNew_ct c hc
  clear hc
  intro w0 F L w hS
  simp only [List.cons_append, List.nil_append] at hS
  go_enter Tryz.func14, Tryz.ntmps14
  go_wp2_with (first | go_skip | (refine ck_loadAll hS rfl rfl rfl (by (repeat (first | exact mH _ | apply mT)) <;> fail) rfl (by (try simp only [List.length_cons, List.length_nil, Nat.zero_add, Nat.reduceAdd]); decide +kernel) ?_; simp only [Act.put, spA, spZ, spS]) | (refine ck_load hS rfl rfl rfl (by (repeat (first | exact mH _ | apply mT)) <;> fail) rfl (by decide +kernel) ?_; simp only [Act.put, spA, spZ, spS]) | (refine ck_store hS rfl rfl rfl (by constructor) (by (repeat (first | exact uH _ _ _ | apply uT)) <;> fail) (by simp <;> omega) rfl (by decide +kernel) ?_; clear hS; intro w hS; simp only [Act.put, spA, spZ, spS] at hS ⊢) | (refine ck_box hS rfl rfl (by constructor) ?_; clear hS; intro nb w hS; simp only [Act.put, spA, spZ, spS]) | (go_at_call 7; with_reducible refine Ct.callN (kE) hS ?_; clear hS; rintro _ _ w ⟨b, cb, qb, lb, tb, lg, ab, la, aa, rfl, rfl⟩ hS; simp only [List.cons_append, List.nil_append] at hS) )
  have hS1 : Sep w0 F (rowR none 0 0 35 4 [] :: rowR none 0 0 28 1 [] :: rowO ad n cp 40 15 (dds dl) :: ([machG b (startM c cb qb lb tb lg ab la aa)] ++ L)) w := (hS.pick (M := rowO ad n cp 40 15 (dds dl) :: machG b (startM c cb qb lb tb lg ab la aa) :: L) (by (repeat (first | exact Pick.refl _ | (apply Pick.take; ((repeat (first | exact rH _ _ | apply rT)) <;> fail)) | (apply Pick.drop))))).nilRow.nilRow
  have hJ0 := hJ0 b cb qb lb tb lg ab la aa
  go_loopg [8, 9, 25] (n + 1) (fun g s8 s9 s25 wx => ∃ (i : Nat) (a1 a2 : Option Addr) (c1 c2 : Nat) (outs : List OutA) (errs : List Int) (Li : List Res), i + g = n + 1 ∧ i ≤ n ∧ outs.length = i ∧ errs.length = i ∧ J b i Li outs errs ∧ s8 = .slice a1 i c1 ∧ s9 = .slice a2 i c2 ∧ s25 = .int .i64 i ∧ Sep w0 F (rowR a1 i c1 35 4 (ots outs) :: rowR a2 i c2 28 1 (ers errs) :: rowO ad n cp 40 15 (dds dl) :: (Li ++ L)) wx)
  case atStart => exact ⟨0, none, none, 0, 0, [], [], _, by omega, by omega, rfl, rfl, hJ0, rfl, rfl, by go_num, hS1⟩
  case round =>
    clear hS hS1 hJ0
    obtain ⟨i, a1, a2, c1, c2, outs, errs, Li, hig, hin, ho, he, hJ, rfl, rfl, rfl, hS⟩ := hrel
    generalize wr = w at hS ⊢
    by_cases hi : i < n
    · obtain ⟨d, hd⟩ : ∃ d, dl[i]? = some d := ⟨_, List.getElem?_eq_getElem (by omega)⟩
      obtain ⟨g, off, rfl⟩ := hS.rowOSome (a := ad) (n := n) (cap := cp) (e := 40) (sz := 15) (xs := dds dl) (by (repeat (first | exact mH _ | apply mT)) <;> fail) (by omega)
      have hdv := dds_get hd
      have kD := hstep b i d Li outs errs hd hJ
      have hi' : (i : Int) < n := by omega
      have hos : ∀ o, ots outs ++ outV o = ots (outs ++ [o]) := fun o => (ots_snoc outs o).symm
      have hes : ∀ e, ers errs ++ [Value.int .i64 e] = ers (errs ++ [e]) := fun e => (ers_snoc errs e).symm
      clear hstep hJ hd hn
      go_wp2_with (first | go_skip  | (refine ck_load hS rfl rfl rfl (by (repeat (first | exact mH _ | apply mT)) <;> fail) rfl (by decide +kernel) ?_; simp only [Act.put, spA, spZ, spS]) | (refine ck_store hS rfl rfl rfl (by constructor) (by (repeat (first | exact uH _ _ _ | apply uT)) <;> fail) (by simp <;> omega) rfl (by decide +kernel) ?_; clear hS; intro w hS; simp only [Act.put, spA, spZ, spS] at hS ⊢) | (refine ck_box hS rfl rfl (by constructor) ?_; clear hS; intro nb w hS; simp only [Act.put, spA, spZ, spS]) | (refine ck_celN (vs := deedV d) (hS.celO (k := i * 15) (by (repeat (first | exact mH _ | apply mT)) <;> fail) (by omega) hdv) rfl rfl rfl (show ckAgg Tryz.prog 40 15 = true by decide +kernel) ?_; simp only [Act.put, spA, spZ, spS]) | (refine ck_alloc (t := 40) (v := .agg (List.toArray [.int .i64 0, .int .i64 0, .int .i64 0, .int .u64 0, .int .u64 0, .slice none 0 0, .int .i64 0, .int .i64 0, .int .i64 0, .int .i64 0, .int .u64 0, .int .u64 0, .bool false, .int .i64 0, .int .i64 0])) (cs := [.int .i64 0, .int .i64 0, .int .i64 0, .int .u64 0, .int .u64 0, .slice none 0 0, .int .i64 0, .int .i64 0, .int .i64 0, .int .i64 0, .int .u64 0, .int .u64 0, .bool false, .int .i64 0, .int .i64 0]) hS rfl rfl (by kernel_rfl) rfl ?_; clear hS; intro x11 w hS; simp only [Act.put, spA, spZ, spS]) | (refine ck_storeAll hS rfl rfl rfl rfl (by (repeat (first | exact uH _ _ _ | apply uT)) <;> fail) (by rfl) rfl (by (try simp only [List.length_cons, List.length_nil, Nat.zero_add, Nat.reduceAdd]); decide +kernel) ?_; clear hS; intro w hS; simp only [Act.put, spA, spZ, spS]) | (refine ck_loadAll hS rfl rfl rfl (by (repeat (first | exact mH _ | apply mT)) <;> fail) rfl (by (try simp only [List.length_cons, List.length_nil, Nat.zero_add, Nat.reduceAdd]); decide +kernel) ?_; simp only [Act.put, spA, spZ, spS]) | (refine ck_alloc (t := 35) (v := outA outZ) (cs := outV outZ) hS rfl rfl (by kernel_rfl) rfl ?_; clear hS; intro x12 w hS; simp only [Act.put, spA, spZ, spS]) | (go_at_call 9; refine Ct.call kD (Sep.cal4.1 hS) ?_; clear hS; rintro _ L' w ⟨o, e, rfl, hJ'⟩ hS; have hS0 := Sep.cal4.2 hS; clear hS; have hS := hS0; clear hS0) | (refine ck_buildE (e := 35) (sz := 4) (news := outV o) hS rfl rfl rfl rfl (by omega) (by omega) (by decide +kernel) ?_; clear hS; intro q1 w hS; simp only [Act.put, spA, spZ, spS]) | (refine ck_appendRow (e := 35) (sz := 4) (ad := a1) hS rfl rfl rfl rfl (by (repeat (first | exact rH _ _ | apply rT)) <;> fail) (by (repeat (first | exact mH _ | apply mT)) <;> fail) (by decide +kernel) rfl rfl (by simp <;> fail) (by omega) ?_; clear hS; intro g1 k1 w hS; simp only [Act.put, spA, spZ, spS]) | (refine ck_build1 (e := 28) hS rfl rfl (by constructor) rfl (by decide +kernel) ?_; clear hS; intro q w hS; simp only [Act.put, spA, spZ, spS]) | (refine ck_appendRow (e := 28) (sz := 1) (ad := a2) hS rfl rfl rfl rfl (by (repeat (first | exact rH _ _ | apply rT)) <;> fail) (by (repeat (first | exact mH _ | apply mT)) <;> fail) (by decide +kernel) rfl rfl (by simp <;> fail) (by omega) ?_; clear hS; intro g2 k2 w hS; simp only [Act.put, spA, spZ, spS]))
      rw [hos, hes] at hS
      go_roundg (n - i)
      case rel => exact ⟨i + 1, _, _, _, _, outs ++ [o], errs ++ [e], L', by omega, by omega, by simp [ho], by simp [he], hJ', rfl, rfl, by go_num, hS.pick (by (repeat (first | exact Pick.refl _ | (apply Pick.take; ((repeat (first | exact rH _ _ | apply rT)) <;> fail)) | (apply Pick.drop))))⟩
      case measure => omega
    · obtain rfl : i = n := by omega
      clear hstep hn
      go_wp2_with (first | go_skip | (refine ck_load hS rfl rfl rfl (by (repeat (first | exact mH _ | apply mT)) <;> fail) rfl (by decide +kernel) ?_; simp only [Act.put, spA, spZ, spS]) | (refine ck_store hS rfl rfl rfl (by constructor) (by (repeat (first | exact uH _ _ _ | apply uT)) <;> fail) (by simp <;> omega) rfl (by decide +kernel) ?_; clear hS; intro w hS; simp only [Act.put, spA, spZ, spS] at hS ⊢) | (refine ck_box hS rfl rfl (by constructor) ?_; clear hS; intro nb w hS; simp only [Act.put, spA, spZ, spS]) )
      go_ret2
      exact ⟨_, ⟨b, outs, errs, a1, c1, a2, c2, Li, hJ, ho, he, rfl, rfl⟩, hS⟩
end Go.Proofs.YtcegknecikbbkaaGreat

/- One socket that sends once, and is never acknowledged: what Emit, pump and Dequeue come to. No program in sight. -/
set_option linter.unusedVariables false
set_option linter.unusedSimpArgs false
set_option maxRecDepth 4000
namespace Go.Proofs.YtcegknecikbbkaaGreat
open Go.RowKit
structure sceOk (c : CfgM) (n : Int) : Prop where
  may : mayOk c
  z0 : 0 ≤ c.horizon
  ms0 : 500 ≤ c.mss
  ms1 : c.mss ≤ 1499
  n0 : 1 ≤ n
  n1 : n ≤ 40000
  r0 : 0 ≤ c.maxRate
  r1 : c.maxRate ≤ 18446744073709551615
section
variable {c : CfgM} {n : Int} (h : sceOk c n)
abbrev sRate (c : CfgM) : Int := mulDiv (10 * (min (max c.mss 100) 9000) * 1000) 739 256
include h
theorem sce_z : min (max c.mss 100) 9000 = c.mss := by have := h.ms0; have := h.ms1; omega
theorem sce_rate : 28672 * c.mss ≤ sRate c ∧ sRate c < 29696 * c.mss := by
  have h0 := h.ms0
  have h1 := h.ms1
  unfold sRate mulDiv
  rw [sce_z h, if_neg (by omega), if_neg (by omega)]
  omega
theorem sce_tso : tsoS (sRate c) c.mss = 28 * c.mss := by
  have h0 := h.ms0
  have h1 := h.ms1
  obtain ⟨r0, r1⟩ := sce_rate h
  have hm : tsoM c.mss = c.mss := by unfold tsoM; omega
  unfold tsoS tsoN
  rw [hm]
  have a1 : 28 ≤ sRate c / 1024 / c.mss := Int.le_ediv_of_mul_le (by omega) (by omega)
  have a2 : sRate c / 1024 / c.mss < 29 := Int.ediv_lt_of_lt_mul (by omega) (by omega)
  have a3 : 28 ≤ 65536 / c.mss := Int.le_ediv_of_mul_le (by omega) (by omega)
  rw [show max 2 (min (sRate c / 1024 / c.mss) (65536 / c.mss)) = 28 by omega]
end
/-- The socket behind the writing. -/
def sceK1 (c : CfgM) (n : Int) : SockM := { sockZ 0 c with buf := { (sockZ 0 c).buf with w := (sockZ 0 c).buf.w + n } }
abbrev sceN (c : CfgM) (n : Int) : Int := min (28 * c.mss) n
/-- Nothing may be handed down, whatever is below. -/
structure Blk (k : SockM) : Prop where
  so : sockOk k
  no : k.buf.w - k.buf.t = 0 ∨ k.mdl.cwnd ≤ flightZ k.ps
theorem Blk.may {k : SockM} (h : Blk k) : mayZ k ≠ 0 := by
  unfold mayZ
  rcases h.no with h1 | h1
  · rw [if_pos h1]; omega
  · split
    · omega
    · rw [if_neg (by omega)]; omega
theorem sockOk.mark {k : SockM} (h : sockOk k) (x : Int) : sockOk { k with smp := { k.smp with mark := x } } := ⟨h.len, h.ok, h.fl, h.no, h.buf, h.rate, h.mss, h.most, h.del, h.out, h.at', h.en⟩
theorem mayK_out {k : SockM} : (mayK k).out = k.out := by unfold mayK; split <;> (try split) <;> rfl
theorem mayK_mdl {k : SockM} : (mayK k).mdl = k.mdl := by unfold mayK; split <;> (try split) <;> rfl
theorem mayK_id {k : SockM} : (mayK k).id = k.id := by unfold mayK; split <;> (try split) <;> rfl
theorem Blk.mayK {k : SockM} (h : Blk k) : Blk (mayK k) := by
  have hs := h.so
  unfold Go.Proofs.YtcegknecikbbkaaGreat.mayK
  split
  · split
    · exact ⟨hs.mark _, h.no⟩
    · exact h
  · exact h
theorem Blk.out {k : SockM} (h : Blk k) : Blk { k with out := 0 } := by
  have hs := h.so
  exact ⟨⟨hs.len, hs.ok, hs.fl, hs.no, hs.buf, hs.rate, hs.mss, hs.most, hs.del, ⟨Int.le_refl _, (by show (0 : Int) ≤ 4611686018427387904; omega)⟩, hs.at', hs.en⟩, h.no⟩
section
variable {c : CfgM} {n : Int} (h : sceOk c n)
include h
theorem sce_k1 : sockOk (sceK1 c n) := by
  obtain ⟨r0, r1⟩ := sce_rate h
  have h0 := h.ms0
  have h1 := h.ms1
  have n0 := h.n0
  have n1 := h.n1
  obtain ⟨-, -, -, -, -, -, -, -, -, c0, c1, -, -⟩ := h.may
  refine ⟨?_, ?_, ?_, ?_, ?_, ?_, ?_, ?_, ?_, ?_, ?_, ?_⟩
  · show 0 ≤ 4096; omega
  · intro p hp; cases hp
  · show (0 : Int) ≤ _; omega
  · intro p hp; cases hp
  · show (0 : Int) ≤ 0 ∧ (0 : Int) ≤ 0 + n ∧ 0 + n < 4611686018427387904; omega
  · show 0 ≤ sRate c ∧ sRate c ≤ 18446744073709551615; omega
  · show 100 ≤ min (max c.mss 100) 9000 ∧ min (max c.mss 100) 9000 ≤ 9000; omega
  · show -9223372036854775808 ≤ c.cap ∧ c.cap ≤ 9223372036854775807; omega
  · show (0 : Int) ≤ 0 ∧ (0 : Int) ≤ 18446744073709551615; omega
  · show (0 : Int) ≤ 0 ∧ (0 : Int) ≤ 4611686018427387904; omega
  · show (0 : Int) ≤ 0 ∧ (0 : Int) ≤ 18446744073709551615; omega
  · rfl
theorem sce_tsoK : tsoK (sceK1 c n) = 28 * c.mss := by
  show tsoS (sRate c) (min (max c.mss 100) 9000) = _
  rw [sce_z h]; exact sce_tso h
theorem sce_may : mayZ (sceK1 c n) = 0 := by
  have ht := sce_tsoK h
  have h0 := h.ms0
  have n0 := h.n0
  have hq : (0 : Int) < tsqL (sceK1 c n).mdl.rate (tsoK (sceK1 c n)) (sceK1 c n).most := by
    rw [ht]
    unfold tsqL
    omega
  show (if 0 + n - 0 = 0 then (7 : Int) else if (0 : Int) < 10 * (min (max c.mss 100) 9000) then (if (0 : Int) < tsqL (sceK1 c n).mdl.rate (tsoK (sceK1 c n)) (sceK1 c n).most then (if 4096 ≤ (sceK1 c n).ps.length then 5 else 0) else 5) else 5) = 0
  rw [if_neg (show ¬ (0 + n - 0 = 0) by omega), if_pos (show (0 : Int) < 10 * (min (max c.mss 100) 9000) by omega), if_pos hq, if_neg (show ¬ 4096 ≤ (sceK1 c n).ps.length from (by show ¬ 4096 ≤ 0; omega))]
theorem sce_N : emitN (sceK1 c n) = sceN c n := by
  show min (tsoK (sceK1 c n)) (0 + n - 0) = _
  rw [sce_tsoK h]; unfold sceN; omega
theorem sce_blk : Blk (emitK (sceK1 c n) 0) := by
  have hN := sce_N h
  have hso := sce_k1 h
  obtain ⟨r0, r1⟩ := sce_rate h
  have h0 := h.ms0
  have h1 := h.ms1
  have n0 := h.n0
  have n1 := h.n1
  have hc := sce_z h
  have d0 := delayOf_bd (emitN (sceK1 c n)) (sceK1 c n).mdl.rate hso.rate.1
  have hNb : 1 ≤ sceN c n ∧ sceN c n ≤ 40000 := by unfold sceN; omega
  have hfl : flightZ (emitK (sceK1 c n) 0).ps = sceN c n := by
    show flightZ ([] ++ [emitP (sceK1 c n) 0]) = _
    rw [flightZ_snoc]
    show (0 : Int) + (0 + emitN (sceK1 c n) - 0) = _
    rw [hN]; omega
  refine ⟨⟨?_, ?_, ?_, ?_, ?_, ?_, ?_, ?_, ?_, ?_, ?_, ?_⟩, ?_⟩
  · show 1 ≤ 4096; omega
  · intro p hp
    have hp' : p ∈ ([] ++ [emitP (sceK1 c n) 0] : List PieceM) := hp
    rw [List.nil_append, List.mem_singleton] at hp'
    subst hp'
    show (0 : Int) ≤ 0 ∧ (0 : Int) ≤ 0 + emitN (sceK1 c n) ∧ 0 + emitN (sceK1 c n) ≤ 4611686018427387904
    rw [hN]; omega
  · rw [hfl]; omega
  · intro p hp
    have hp' : p ∈ ([] ++ [emitP (sceK1 c n) 0] : List PieceM) := hp
    rw [List.nil_append, List.mem_singleton] at hp'
    subst hp'
    rfl
  · show (0 : Int) ≤ 0 + emitN (sceK1 c n) ∧ 0 + emitN (sceK1 c n) ≤ 0 + n ∧ 0 + n < 4611686018427387904
    rw [hN]; unfold sceN at *; omega
  · exact hso.rate
  · exact hso.mss
  · exact hso.most
  · show 0 ≤ (smpSentM smpZ 0 _).del ∧ (smpSentM smpZ 0 _).del ≤ _
    unfold smpSentM; split <;> exact hso.del
  · show (0 : Int) ≤ 0 + emitN (sceK1 c n) ∧ 0 + emitN (sceK1 c n) ≤ 4611686018427387904
    rw [hN]; omega
  · show 0 ≤ satAdd (max 0 0) (delayOf (emitN (sceK1 c n)) _) ∧ satAdd (max 0 0) (delayOf (emitN (sceK1 c n)) _) ≤ _
    unfold satAdd; omega
  · rfl
  · rw [hfl]
    show 0 + n - (0 + emitN (sceK1 c n)) = 0 ∨ 10 * (min (max c.mss 100) 9000) ≤ sceN c n
    rw [hN]; unfold sceN; omega
end
/-! ### The queue -/
abbrev none8 : List (Option FlowM) := List.replicate 8 none
def sceD0 : DS := ⟨none8, [], [], 0⟩
abbrev sceSeg (c : CfgM) (n : Int) : SegM := ⟨0, 0, sceN c n, 0, false⟩
def sceD1 (c : CfgM) (n : Int) : DS := ⟨none8.set 0 (some ⟨c.first, 0, 0, [sceSeg c n]⟩), [0], [], 1⟩
abbrev sceNx (c : CfgM) (n : Int) : Int := satAdd 0 (delayOf (sceN c n) (lesser (sRate c) c.maxRate))
def sceD2 (c : CfgM) (n cr : Int) : DS := ⟨none8.set 0 (some ⟨cr, sceNx c n, 0, []⟩), [0], [], 0⟩
theorem one8_get {F G : FlowM} {k : Nat} (h : (none8.set 0 (some F))[k]? = some (some G)) : k = 0 ∧ G = F := by
  cases k with
  | zero => exact ⟨rfl, by injection h with h; injection h with h; exact h.symm⟩
  | succ k =>
    rw [List.getElem?_set_ne (by omega), List.getElem?_replicate] at h
    split at h
    · injection h with h; cases h
    · cases h
theorem dOk0 : dOk sceD0 := ⟨rfl, (by rintro s (h | h) <;> cases h), (by show 0 ≤ 1000; omega), fun k F h => (by
  have h' : (List.replicate 8 (none : Option FlowM))[k]? = some (some F) := h
  rw [List.getElem?_replicate] at h'
  split at h'
  · injection h' with h'; cases h'
  · cases h'), (by show (-100000 : Int) ≤ 0 ∧ (0 : Int) ≤ 100000; omega)⟩
theorem dIn0 : dIn sceD0 := by rintro s (h | h) <;> cases h
theorem dOk1 {F : FlowM} {fr ol : List Int} {m : Int} (hF : 0 ≤ F.since ∧ F.since ≤ 18446744073709551615 ∧ 0 ≤ F.next ∧ F.next ≤ 18446744073709551615 ∧ -1000000 ≤ F.credit ∧ F.credit ≤ 1000000 ∧ F.segs.length ≤ 100000 ∧ ∀ x ∈ F.segs, 0 ≤ x.len ∧ x.len ≤ 65536 ∧ 0 ≤ x.stamp ∧ x.stamp ≤ 18446744073709551615) (hl : ∀ s, s ∈ fr ∨ s ∈ ol → s = 0) (hn : fr.length + ol.length ≤ 1000) (m0 : 0 ≤ m) (m1 : m ≤ 100000) : dOk ⟨none8.set 0 (some F), fr, ol, m⟩ :=
  ⟨rfl, fun s hs => by rw [hl s hs]; omega, hn, fun k G hG => by obtain ⟨_, rfl⟩ := one8_get hG; exact hF, by show -100000 ≤ m ∧ m ≤ 100000; omega⟩
theorem dIn1 {F : FlowM} {fr ol : List Int} {m : Int} (hl : ∀ s, s ∈ fr ∨ s ∈ ol → s = 0) : dIn ⟨none8.set 0 (some F), fr, ol, m⟩ := fun s hs => by rw [hl s hs]; exact ⟨F, rfl⟩
theorem sce_dIn1 {c : CfgM} {n : Int} : dIn (sceD1 c n) := dIn1 (by rintro s (h | h); exact List.mem_singleton.1 h; cases h)
theorem bookOk_zero : bookOk zeroB := by
  refine ⟨by unfold Eights zeroB; decide, rfl, ?_⟩
  intro c hc x hx
  unfold zeroB at hc
  have := List.eq_of_mem_replicate hc
  subst this
  have : x = 0 := by simpa using hx
  omega
theorem bookOk_noteA {B : List (List Int)} (h : bookOk B) (hb : ∀ c ∈ B, ∀ x ∈ c, x ≤ 999999) (s : Nat) : bookOk (noteA B s) := by
  unfold noteA
  cases hs : B[s]? with
  | none => exact h
  | some c =>
    have hm := List.mem_of_getElem? hs
    have h8 := h.ei c hm
    refine ⟨h.ei.set (by simp [h8]), by simp [h.len], ?_⟩
    have key : ∀ (i : Nat), 0 ≤ (c[i]?).getD 0 ∧ (c[i]?).getD 0 ≤ 999999 := fun i => by
      cases hi : c[i]? with
      | none => simp
      | some x => have hx := List.mem_of_getElem? hi; exact ⟨(h.bd c hm x hx).1, hb c hm x hx⟩
    intro d hd x hx
    rcases List.mem_or_eq_of_mem_set hd with hd | rfl
    · exact h.bd d hd x hx
    · rcases List.mem_or_eq_of_mem_set hx with hx | rfl
      · rcases List.mem_or_eq_of_mem_set hx with hx | rfl
        · exact h.bd c hm x hx
        · have := key 7; omega
      · have := key 1; omega
section
variable {c : CfgM} {n : Int} (h : sceOk c n)
include h
theorem sce_enq : enqM c sceD0 (emitS (sceK1 c n) 0) 0 = (0, sceD1 c n) := by
  have hN := sce_N h
  have hs : emitS (sceK1 c n) 0 = sceSeg c n := by
    show (⟨0, 0, emitN (sceK1 c n), max 0 0, false⟩ : SegM) = _
    rw [hN]; rfl
  have z0 := h.z0
  obtain ⟨-, -, -, -, l0, -⟩ := h.may
  rw [hs]
  have hc : colM [] [] 0 none8 = none8 := rfl
  have hst : min (0 : Int) (satAdd 0 c.horizon) = 0 := by unfold satAdd; omega
  have hf : fateM c none 0 0 0 = 0 := by
    unfold fateM
    rw [if_neg (by omega), if_neg (by simp), if_neg (by unfold satAdd; omega)]
  unfold enqM sceD0
  simp only [hc]
  show (if fateM c none 0 0 0 = 0 then _ else _) = _
  rw [if_pos hf]
  unfold sceD1
  show (0, DS.mk (none8.set 0 (some { wakeM c [] [] none 0 0 with segs := [{ sceSeg c n with stamp := min 0 (satAdd 0 c.horizon) }] })) _ _ _) = _
  rw [hst]
  rfl
theorem sce_pumpOk (hN : sceN c n ≤ 65536) : pumpOk c 0 0 (sceK1 c n) sceD0 zeroB := ⟨sce_k1 h, dOk0, dIn0, Int.le_refl _, bookOk_zero, rfl, fun _ => by
  have h0 := h.ms0
  have n0 := h.n0
  refine ⟨Int.le_refl _, by show (0 : Int) < 8; omega, ?_, ?_⟩
  · show 1 ≤ emitN (sceK1 c n); rw [sce_N h]; unfold sceN; omega
  · show emitN (sceK1 c n) ≤ 65536; rw [sce_N h]; exact hN⟩
theorem sce_Nb : 1 ≤ sceN c n ∧ sceN c n ≤ 40000 := by
  have h0 := h.ms0
  have n0 := h.n0
  have n1 := h.n1
  unfold sceN; omega
theorem sce_flow (cr nx : Int) (c0 : -1000000 ≤ cr) (c1 : cr ≤ 1000000) (x0 : 0 ≤ nx) (x1 : nx ≤ 18446744073709551615) (l : List SegM) (hl : l = [] ∨ l = [sceSeg c n]) : 0 ≤ (⟨cr, nx, 0, l⟩ : FlowM).since ∧ (⟨cr, nx, 0, l⟩ : FlowM).since ≤ 18446744073709551615 ∧ 0 ≤ (⟨cr, nx, 0, l⟩ : FlowM).next ∧ (⟨cr, nx, 0, l⟩ : FlowM).next ≤ 18446744073709551615 ∧ -1000000 ≤ (⟨cr, nx, 0, l⟩ : FlowM).credit ∧ (⟨cr, nx, 0, l⟩ : FlowM).credit ≤ 1000000 ∧ (⟨cr, nx, 0, l⟩ : FlowM).segs.length ≤ 100000 ∧ ∀ x ∈ (⟨cr, nx, 0, l⟩ : FlowM).segs, 0 ≤ x.len ∧ x.len ≤ 65536 ∧ 0 ≤ x.stamp ∧ x.stamp ≤ 18446744073709551615 := by
  have hb := sce_Nb h
  refine ⟨Int.le_refl _, by show (0 : Int) ≤ _; omega, x0, x1, c0, c1, ?_, ?_⟩
  · rcases hl with rfl | rfl
    · exact Nat.zero_le _
    · show 1 ≤ 100000; omega
  · intro x hx
    rcases hl with rfl | rfl
    · cases hx
    · obtain rfl := List.mem_singleton.1 hx
      show 0 ≤ sceN c n ∧ sceN c n ≤ 65536 ∧ (0 : Int) ≤ 0 ∧ (0 : Int) ≤ 18446744073709551615
      omega
theorem sce_dOk1 : dOk (sceD1 c n) := by
  obtain ⟨-, -, f0, f1, -⟩ := h.may
  exact dOk1 (sce_flow h _ _ (by omega) (by omega) (by omega) (by omega) _ (.inr rfl)) (by rintro s (h | h); exact List.mem_singleton.1 h; cases h) (by show 1 ≤ 1000; omega) (by omega) (by omega)
/-- The first pump: one segment goes down. -/
theorem sce_pump1 : pumpM c 0 0 2 (sceK1 c n) sceD0 zeroB = some (mayK (emitK (sceK1 c n) 0), sceD1 c n, noteA zeroB 0) := by
  have hNb := sce_Nb h
  have hp := sce_pumpOk h (by omega)
  have hm := sce_may h
  have he : emitM (sceK1 c n) 0 = (emitK (sceK1 c n) 0, 0, emitS (sceK1 c n) 0) := by unfold emitM; rw [if_pos hm]
  have hb := sce_blk h
  have hm2 := hb.may
  have he2 : emitM (emitK (sceK1 c n) 0) 0 = (mayK (emitK (sceK1 c n) 0), mayZ (emitK (sceK1 c n) 0), idSeg) := by unfold emitM; rw [if_neg hm2]
  have hbk : bookOk (noteA zeroB 0) := bookOk_noteA bookOk_zero (by
    intro c hc x hx
    have := List.eq_of_mem_replicate hc
    subst this
    have : x = 0 := by simpa using hx
    omega) 0
  have hp2 : pumpOk c 0 0 (emitK (sceK1 c n) 0) (sceD1 c n) (noteA zeroB 0) := ⟨hb.so, sce_dOk1 h, sce_dIn1, by show (0 : Int) ≤ 1; omega, hbk, rfl, fun h0 => absurd h0 hm2⟩
  unfold pumpM
  rw [if_pos hp, he]
  dsimp only
  rw [if_pos rfl, sce_enq h]
  dsimp only
  rw [if_pos rfl]
  unfold pumpM
  rw [if_pos hp2, he2]
  dsimp only
  rw [if_neg hm2]
end
/-- A pump that has nothing to do. -/
theorem blk_pump {c : CfgM} {k : SockM} {ds : DS} {B : List (List Int)} (h : Blk k) (hd : dOk ds) (hi : dIn ds) (hn : 0 ≤ ds.n) (hB : bookOk B) (hid : k.id = 0) : pumpM c 0 0 1 k ds B = some (mayK k, ds, B) := by
  have hm := h.may
  have hp : pumpOk c 0 0 k ds B := ⟨h.so, hd, hi, hn, hB, hid, fun h0 => absurd h0 hm⟩
  have he : emitM k 0 = (mayK k, mayZ k, idSeg) := by unfold emitM; rw [if_neg hm]
  unfold pumpM
  rw [if_pos hp, he]
  simp only []
  rw [if_neg hm]
section
variable {c : CfgM} {n : Int}
/-- The segment departs. -/
theorem sce_deq (h : sceOk c n) (rs : List Int) (hr : rateAt rs 0 = sRate c) : deq c 0 rs 1 (sceD1 c n) = some (some (sceSeg c n), sceD2 c n (c.first - sceN c n)) := by
  obtain ⟨-, -, f0, f1, -⟩ := h.may
  unfold deq sceD1
  show (if c.first ≤ 0 then _ else if (0 : Int) < timeOf 0 [sceSeg c n] then none else some (some (sceSeg c n), DS.mk ((none8.set 0 (some ⟨c.first, 0, 0, [sceSeg c n]⟩)).set 0 (some ⟨c.first - sceN c n, satAdd 0 (delayOf (sceN c n) (lesser (rateAt rs 0) c.maxRate)), 0, []⟩)) [0] [] (1 - 1))) = _
  rw [if_neg (by omega), if_neg (by unfold timeOf; show ¬ (0 : Int) < max 0 0; omega), hr, List.set_set]
  rfl
theorem sce_drain (q0 : 100 ≤ c.quantum) (rs : List Int) (nx : Int) : ∀ (m : Nat) (cr : Int) (fr ol : List Int), (fr = [0] ∧ ol = [] ∨ fr = [] ∧ ol = [0]) → -cr < m * 100 + 1 → ∃ fuel ds', deq c 0 rs fuel ⟨none8.set 0 (some ⟨cr, nx, 0, []⟩), fr, ol, 0⟩ = some (none, ds') ∧ ds'.fm.length = 8 := by
  have step0 : ∀ (cr : Int) (fr ol : List Int), (fr = [0] ∧ ol = [] ∨ fr = [] ∧ ol = [0]) → ¬ cr ≤ 0 → ∃ fuel ds', deq c 0 rs fuel ⟨none8.set 0 (some ⟨cr, nx, 0, []⟩), fr, ol, 0⟩ = some (none, ds') ∧ ds'.fm.length = 8 := by
    intro cr fr ol hl hc
    refine ⟨2, ⟨(none8.set 0 (some ⟨cr, nx, 0, []⟩)).set 0 (some ⟨cr, nx, 0, []⟩), [], [], 0⟩, ?_, rfl⟩
    rcases hl with ⟨rfl, rfl⟩ | ⟨rfl, rfl⟩
    · unfold deq
      show (if cr ≤ 0 then _ else if true = true ∧ olB (lsP [0] []) = true then _ else deq c 0 rs 1 ⟨(none8.set 0 (some ⟨cr, nx, 0, []⟩)).set 0 (some ⟨cr, nx, 0, []⟩), [], [], 0⟩) = _
      rw [if_neg hc, if_neg (by decide)]
      rfl
    · unfold deq
      show (if cr ≤ 0 then _ else if false = true ∧ olB (lsP [] [0]) = true then _ else deq c 0 rs 1 ⟨(none8.set 0 (some ⟨cr, nx, 0, []⟩)).set 0 (some ⟨cr, nx, 0, []⟩), [], [], 0⟩) = _
      rw [if_neg hc, if_neg (by simp)]
      rfl
  intro m
  induction m with
  | zero =>
    intro cr fr ol hl hc
    by_cases h0 : cr ≤ 0
    · obtain rfl : cr = 0 := by omega
      obtain ⟨fuel, ds', h1, h2⟩ := step0 (0 + c.quantum) [] [0] (.inr ⟨rfl, rfl⟩) (by omega)
      refine ⟨fuel + 1, ds', ?_, h2⟩
      rw [← h1]
      rcases hl with ⟨rfl, rfl⟩ | ⟨rfl, rfl⟩
      all_goals
        conv => lhs; unfold deq
        show (if (0 : Int) ≤ 0 then deq c 0 rs fuel ⟨(none8.set 0 (some ⟨0, nx, 0, []⟩)).set 0 (some ⟨0 + c.quantum, nx, 0, []⟩), [], [0], 0⟩ else _) = _
        rw [if_pos (by omega), List.set_set]
    · exact step0 cr fr ol hl h0
  | succ m ih =>
    intro cr fr ol hl hc
    by_cases h0 : cr ≤ 0
    · obtain ⟨fuel, ds', h1, h2⟩ := ih (cr + c.quantum) [] [0] (.inr ⟨rfl, rfl⟩) (by omega)
      refine ⟨fuel + 1, ds', ?_, h2⟩
      rw [← h1]
      rcases hl with ⟨rfl, rfl⟩ | ⟨rfl, rfl⟩
      all_goals
        conv => lhs; unfold deq
        show (if cr ≤ 0 then deq c 0 rs fuel ⟨(none8.set 0 (some ⟨cr, nx, 0, []⟩)).set 0 (some ⟨cr + c.quantum, nx, 0, []⟩), [], [0], 0⟩ else _) = _
        rw [if_pos h0, List.set_set]
    · exact step0 cr fr ol hl h0
end
end Go.Proofs.YtcegknecikbbkaaGreat

/- One socket that sends once: the machine's deeds. -/
set_option linter.unusedVariables false
set_option linter.unusedSimpArgs false
set_option maxRecDepth 4000
namespace Go.Proofs.YtcegknecikbbkaaGreat
open Go.RowKit
theorem Ct.conv {P : Program} {f : FuncId} {args : Array Value} {pre pre' : List Res} {post post' : Value → List Res → Prop} (h : Ct P f args pre post) (R : List Res)
    (hpre : ∀ {w0 w : World} {F : List Nat} {L : List Res}, Sep w0 F (pre' ++ L) w → Sep w0 F (pre ++ (R ++ L)) w)
    (hpost : ∀ v L1, post v L1 → ∃ L2, post' v L2 ∧ ∀ {w0 w : World} {F : List Nat} {L : List Res}, Sep w0 F (L1 ++ (R ++ L)) w → Sep w0 F (L2 ++ L) w) : Ct P f args pre' post' :=
  fun w0 F L w hS => (h w0 F (R ++ L) w (hpre hS)).mono fun e w' hr => by
    cases e with
    | returned v =>
      obtain ⟨L1, hp, hs⟩ := hr
      obtain ⟨L2, hp2, hf⟩ := hpost v L1 hp
      exact ⟨L2, hp2, hf hs⟩
    | panicked c => exact hr.elim
    | outgrown => exact hr.elim
/-- A machine of which the first socket alone is open. -/
def ScM (c : CfgM) (k : SockM) (ds : DS) (B : List (List Int)) (m : MachA) : Prop := m.c = c ∧ m.q.c = c ∧ m.now = 0 ∧ (∃ A : SockA, m.sl = (List.replicate 8 none).set 0 (some ⟨A, k⟩)) ∧ absQ m.q = ds ∧ m.t.top = 0 ∧ m.B = B
section
variable {c : CfgM} {n : Int} (b : Nat)
theorem sceOpen_ct (c : CfgM) (cb qb lb tb lg ab : Nat) (la : LA) (aa : AA) (d : DeedM) (hk : d.kind = 1) (hs : d.sock = 0) :
    Ct Tryz.prog 9 #[.pointer (some ⟨b, 0, none⟩), deedA d] [machG b (startM c cb qb lb tb lg ab la aa)] (fun v L => v = .tuple #[outA outZ, .int .i64 0] ∧ ∃ m, ScM c (sockZ 0 c) sceD0 zeroB m ∧ L = [machG b m]) := by
  refine (doOne_ct b d [machG b (startM c cb qb lb tb lg ab la aa)] (fun o L => o = outZ ∧ ∃ m, ScM c (sockZ 0 c) sceD0 zeroB m ∧ L = [machG b m]) (.inl hk) (fun ob => ?_)).mono (fun v L ⟨o, hv, ho, hm⟩ => ⟨by rw [hv, ho], hm⟩)
  have kO := oneOpen_ct b c cb (List.replicate 8 none) rfl qb lg ob d hk 0 hs (by omega) rfl
  refine kO.conv [outP ob outZ, clkR cb 0, queueG qb ⟨c, List.replicate 8 none, lb, tb, [], [], la, 0⟩, treeG tb ⟨ab, aa, none, 0, [], 0, 0, [], []⟩, ledR lg zeroB] (fun {w0 w F L} hS => ?_) ?_
  · have hS := machOpen.1 (hS.perm (.swap _ _ _))
    exact (by simp only [List.cons_append, List.nil_append]; exact hS.pick (by (repeat (first | exact Pick.refl _ | (apply Pick.take; ((repeat (first | exact rH _ _ | apply rT)) <;> fail)) | (apply Pick.drop)))))
  · rintro v L1 ⟨rfl, A, rfl⟩
    refine ⟨_, ⟨rfl, outZ, _, ⟨rfl, ⟨c, cb, 0, (List.replicate 8 none).set 0 (some ⟨A, sockZ 0 c⟩), qb, ⟨c, List.replicate 8 none, lb, tb, [], [], la, 0⟩, ⟨ab, aa, none, 0, [], 0, 0, [], []⟩, lg, zeroB⟩, ⟨rfl, rfl, rfl, ⟨A, rfl⟩, rfl, rfl, rfl⟩, rfl⟩, rfl⟩, fun {w0 w F L} hS => ?_⟩
    have h1 : Sep w0 F (mP b c cb ((List.replicate 8 none).set 0 (some ⟨A, sockZ 0 c⟩)) qb lg :: clkR cb 0 :: socksR ((List.replicate 8 none).set 0 (some ⟨A, sockZ 0 c⟩)) :: queueG qb ⟨c, List.replicate 8 none, lb, tb, [], [], la, 0⟩ :: treeG tb ⟨ab, aa, none, 0, [], 0, 0, [], []⟩ :: ledR lg zeroB :: outP ob outZ :: L) w := by
      simp only [List.cons_append, List.nil_append] at hS
      exact hS.pick (by (repeat (first | exact Pick.refl _ | (apply Pick.take; ((repeat (first | exact rH _ _ | apply rT)) <;> fail)) | (apply Pick.drop))))
    exact ((machOpen (q := ⟨c, List.replicate 8 none, lb, tb, [], [], la, 0⟩)).2 h1).perm (.swap _ _ _)
/-- A deed that is told to the socket; then its pump. -/
theorem sceTell_ct (z0 : 0 ≤ c.horizon) (z1 : c.horizon ≤ 18446744073709551615) (d : DeedM) (hk : d.kind = 2 ∨ d.kind = 3 ∨ d.kind = 4 ∨ d.kind = 7) (hs : d.sock = 0) (k k1 k' : SockM) (ds ds' : DS) (B B' : List (List Int)) (fuel : Nat)
    (hT : ∀ A : SockA, Ct Tryz.prog 67 #[.pointer (some ⟨A.b, 0, none⟩), deedA d, .int .u64 0] [sockG A k] (Gives (.int .i64 0) [sockG A k1])) (hp : pumpM c 0 0 fuel k1 ds B = some (k', ds', B')) (m : MachA) (hm : ScM c k ds B m) :
    Ct Tryz.prog 9 #[.pointer (some ⟨b, 0, none⟩), deedA d] [machG b m] (fun v L => v = .tuple #[outA outZ, .int .i64 0] ∧ ∃ m, ScM c k' ds' B' m ∧ L = [machG b m]) := by
  obtain ⟨mc, cb, now, sl, qb, q, t, lg, MB⟩ := m
  obtain ⟨rfl, hqc, rfl, ⟨A, rfl⟩, rfl, ht, rfl⟩ := hm
  dsimp only at *
  refine (doOne_ct b d [machG b _] (fun o L => o = outZ ∧ ∃ m, ScM mc k' ds' B' m ∧ L = [machG b m]) (by omega) (fun ob => ?_)).mono (fun v L ⟨o, hv, ho, hm⟩ => ⟨by rw [hv, ho], hm⟩)
  have kO := oneTold_ct b mc cb 0 ((List.replicate 8 none).set 0 (some ⟨A, k⟩)) rfl qb lg ob q MB d hk 0 hs (by omega) A k rfl k1 k' ds' B'
    ((hT A).mono fun v L ⟨h1, h2⟩ => ⟨h1, A, rfl, h2⟩)
    (fun A' hA' => (pump_ct b mc cb 0 (by omega) (by omega) z0 z1 ((List.replicate 8 none).set 0 (some ⟨A', k⟩)) rfl qb lg 0 (by omega) A' k rfl ob k1 k' ds' MB B' fuel q hqc hp).conv []
      (fun {w0 w F L} hS => by
        have e : mC mc cb ((List.replicate 8 none).set 0 (some ⟨A', k⟩)) qb lg = mC mc cb ((List.replicate 8 none).set 0 (some ⟨A, k⟩)) qb lg := by
          show mC mc cb (((List.replicate 8 none).set 0 (some ⟨A, k⟩)).set 0 (some ⟨A', k⟩)) qb lg = _
          exact mC_same (i := 0) (y := some ⟨A, k⟩) rfl (by show Value.pointer _ = Value.pointer _; rw [hA'])
        show Sep w0 F ((pts b (mC mc cb ((List.replicate 8 none).set 0 (some ⟨A', k⟩)) qb lg) _ :: _) ++ ([] ++ L)) w
        rw [e]; exact hS)
      (fun v L1 ⟨h1, A'', q', h2, h3, h4, h5, h6, h7⟩ => ⟨_, ⟨h1, A'', q', h2.trans hA', h3, h4.trans hqc.symm, h5, h6, rfl⟩, fun {w0 w F L} hS => by
        have e : mC mc cb ((List.replicate 8 none).set 0 (some ⟨A', k⟩)) qb lg = mC mc cb ((List.replicate 8 none).set 0 (some ⟨A, k⟩)) qb lg := by
          show mC mc cb (((List.replicate 8 none).set 0 (some ⟨A, k⟩)).set 0 (some ⟨A', k⟩)) qb lg = _
          exact mC_same (i := 0) (y := some ⟨A, k⟩) rfl (by show Value.pointer _ = Value.pointer _; rw [hA'])
        rw [h7] at hS
        show Sep w0 F ((pts b (mC mc cb ((List.replicate 8 none).set 0 (some ⟨A, k⟩)) qb lg) _ :: _) ++ L) w
        rw [← e]; exact hS⟩))
  refine kO.conv [outP ob outZ, treeG q.tb t] (fun {w0 w F L} hS => ?_) ?_
  · have hS := machOpen.1 (hS.perm (.swap _ _ _))
    exact (by simp only [List.cons_append, List.nil_append]; exact hS.pick (by (repeat (first | exact Pick.refl _ | (apply Pick.take; ((repeat (first | exact rH _ _ | apply rT)) <;> fail)) | (apply Pick.drop)))))
  · rintro v L1 ⟨rfl, A', q', h1, h2, h3, h4, rfl⟩
    refine ⟨_, ⟨rfl, outZ, _, ⟨rfl, ⟨mc, cb, 0, (List.replicate 8 none).set 0 (some ⟨A', k'⟩), qb, q', t, lg, B'⟩, ⟨rfl, h2.trans hqc, rfl, ⟨A', rfl⟩, h1, ht, rfl⟩, rfl⟩, rfl⟩, fun {w0 w F L} hS => ?_⟩
    have h1 : Sep w0 F (mP b mc cb ((List.replicate 8 none).set 0 (some ⟨A', k'⟩)) qb lg :: clkR cb 0 :: socksR ((List.replicate 8 none).set 0 (some ⟨A', k'⟩)) :: queueG qb q' :: treeG q'.tb t :: ledR lg B' :: outP ob outZ :: L) w := by
      simp only [List.cons_append, List.nil_append] at hS
      rw [h4]
      exact hS.pick (by (repeat (first | exact Pick.refl _ | (apply Pick.take; ((repeat (first | exact rH _ _ | apply rT)) <;> fail)) | (apply Pick.drop))))
    exact (machOpen.2 h1).perm (.swap _ _ _)
/-- A pull. -/
theorem scePull_ct (hc : mayOk c) (m0 : 0 ≤ c.maxRate) (m1 : c.maxRate ≤ 18446744073709551615) (d : DeedM) (hk : d.kind = 6) (k : SockM) (hr0 : 0 ≤ k.mdl.rate) (hr1 : k.mdl.rate ≤ 18446744073709551615) (ds ds' : DS) (B : List (List Int)) (hB : bookOk B) (fuel : Nat) (r : Option SegM)
    (hok : dOk ds) (hd : deq c 0 (k.mdl.rate :: List.replicate 7 18446744073709551615) fuel ds = some (r, ds')) (h8 : ds'.fm.length = 8) (hr : ∀ x, r = some x → x.sock = 0 ∧ ∀ c, B[0]? = some c → c[7]? ≠ some 0) (m : MachA) (hm : ScM c k ds B m) :
    Ct Tryz.prog 9 #[.pointer (some ⟨b, 0, none⟩), deedA d] [machG b m] (fun v L => match r with
      | some x => ∃ g, v = .tuple #[outA { outZ with da := some ⟨g, 0, none⟩, dn := 1, dc := 1 }, .int .i64 0] ∧ ∃ m, ScM c k ds' (noteF B 0 1) m ∧ L = [rowR (some ⟨g, 0, none⟩) 1 1 44 5 (segV x), machG b m]
      | none => v = .tuple #[outA outZ, .int .i64 0] ∧ ∃ m, ScM c k ds' B m ∧ L = [machG b m]) := by
  obtain ⟨q0, q1, -⟩ := hc
  obtain ⟨mc, cb, now, sl, qb, q, t, lg, MB⟩ := m
  obtain ⟨rfl, hqc, rfl, ⟨A, rfl⟩, rfl, ht, rfl⟩ := hm
  dsimp only at *
  have hrt : ratesM ((List.replicate 8 none).set 0 (some ⟨A, k⟩)) = k.mdl.rate :: List.replicate 7 18446744073709551615 := rfl
  have kP := fun ob => pull_ct b mc cb 0 (by omega) (by omega) q (by rw [hqc]; exact m0) (by rw [hqc]; exact m1) (by rw [hqc]; omega) (by rw [hqc]; omega) ((List.replicate 8 none).set 0 (some ⟨A, k⟩)) rfl qb lg ob t ht MB hB
    (by rw [hrt]; intro x hx; rcases List.mem_cons.1 hx with rfl | hx; exact ⟨hr0, hr1⟩; rw [List.eq_of_mem_replicate hx]; omega) fuel r ds' hok (by rw [hqc, hrt]; exact hd)
    (fun q' h => by have : (absQ q').fm.length = 8 := by rw [h]; exact h8
                    simpa [absQ] using this) (fun x hx => by obtain ⟨h1, h2⟩ := hr x hx; rw [h1]; exact ⟨by omega, by omega, h2⟩)
  cases r with
  | none =>
    refine (doPull_ct b d [machG b _] (fun o L => o = outZ ∧ ∃ m, ScM mc k ds' MB m ∧ L = [machG b m]) hk (fun ob => ?_)).mono (fun v L ⟨o, hv, ho, hm⟩ => ⟨by rw [hv, ho], hm⟩)
    refine (kP ob).conv [] (fun {w0 w F L} hS => ?_) ?_
    · have hS := machOpen.1 (hS.perm (.swap _ _ _))
      exact (by simp only [List.cons_append, List.nil_append]; exact hS.pick (by (repeat (first | exact Pick.refl _ | (apply Pick.take; ((repeat (first | exact rH _ _ | apply rT)) <;> fail)) | (apply Pick.drop)))))
    · rintro v L1 ⟨rfl, q', h1, h2, h3, h4, rfl⟩
      refine ⟨_, ⟨rfl, outZ, _, ⟨rfl, ⟨mc, cb, 0, (List.replicate 8 none).set 0 (some ⟨A, k⟩), qb, q', t, lg, MB⟩, ⟨rfl, h2.trans hqc, rfl, ⟨A, rfl⟩, h1, ht, rfl⟩, rfl⟩, rfl⟩, fun {w0 w F L} hS => ?_⟩
      have h1 : Sep w0 F (mP b mc cb ((List.replicate 8 none).set 0 (some ⟨A, k⟩)) qb lg :: clkR cb 0 :: socksR ((List.replicate 8 none).set 0 (some ⟨A, k⟩)) :: queueG qb q' :: treeG q'.tb t :: ledR lg MB :: outP ob outZ :: L) w := by
        simp only [List.cons_append, List.nil_append] at hS
        rw [h4]
        exact hS.pick (by (repeat (first | exact Pick.refl _ | (apply Pick.take; ((repeat (first | exact rH _ _ | apply rT)) <;> fail)) | (apply Pick.drop))))
      exact (machOpen.2 h1).perm (.swap _ _ _)
  | some x =>
    obtain ⟨hx0, -⟩ := hr x rfl
    refine (doPull_ct b d [machG b _] (fun o L => ∃ g, o = { outZ with da := some ⟨g, 0, none⟩, dn := 1, dc := 1 } ∧ ∃ m, ScM mc k ds' (noteF MB 0 1) m ∧ L = [rowR (some ⟨g, 0, none⟩) 1 1 44 5 (segV x), machG b m]) hk (fun ob => ?_)).mono (fun v L ⟨o, hv, g, ho, hm⟩ => ⟨g, by rw [hv, ho], hm⟩)
    refine (kP ob).conv [] (fun {w0 w F L} hS => ?_) ?_
    · have hS := machOpen.1 (hS.perm (.swap _ _ _))
      exact (by simp only [List.cons_append, List.nil_append]; exact hS.pick (by (repeat (first | exact Pick.refl _ | (apply Pick.take; ((repeat (first | exact rH _ _ | apply rT)) <;> fail)) | (apply Pick.drop)))))
    · rintro v L1 ⟨rfl, q', h1, h2, h3, h4, g, rfl⟩
      rw [hx0, show (0 : Int).toNat = 0 from rfl]
      refine ⟨_, ⟨rfl, _, _, ⟨g, rfl, ⟨mc, cb, 0, (List.replicate 8 none).set 0 (some ⟨A, k⟩), qb, q', t, lg, noteF MB 0 1⟩, ⟨rfl, h2.trans hqc, rfl, ⟨A, rfl⟩, h1, ht, rfl⟩, rfl⟩, rfl⟩, fun {w0 w F L} hS => ?_⟩
      have h1 : Sep w0 F (mP b mc cb ((List.replicate 8 none).set 0 (some ⟨A, k⟩)) qb lg :: clkR cb 0 :: socksR ((List.replicate 8 none).set 0 (some ⟨A, k⟩)) :: queueG qb q' :: treeG q'.tb t :: ledR lg (noteF MB 0 1) :: outP ob { outZ with da := some ⟨g, 0, none⟩, dn := 1, dc := 1 } :: rowR (some ⟨g, 0, none⟩) 1 1 44 5 (segV x) :: L) w := by
        simp only [List.cons_append, List.nil_append] at hS
        rw [h4]
        exact hS.pick (by (repeat (first | exact Pick.refl _ | (apply Pick.take; ((repeat (first | exact rH _ _ | apply rT)) <;> fail)) | (apply Pick.drop))))
      have h2 := machOpen.2 h1
      exact h2.perm ((List.Perm.swap _ _ _).trans (.cons _ (.swap _ _ _)))
end
end Go.Proofs.YtcegknecikbbkaaGreat
