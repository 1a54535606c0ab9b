/- TopTurns: what functions of the program come to: part 3 of 6. -/
import Derived.WalkKit
import Derived.WalkSpells
import Derived.WalkLawsBesides
import Derived.WalkMore
import Derived.Deep.LoopGhost
import Derived.Test.YtcegknecikbbkaaGreatProg
import Derived.Test.YtcegknecikbbkaaGreatTopTurnsM1
import Derived.Test.YtcegknecikbbkaaGreatTopTurnsM2
/- Dequeue, where no flow has to wait. -/
set_option linter.unusedVariables false
set_option linter.unusedSimpArgs false
set_option maxRecDepth 4000
namespace Go.Proofs.YtcegknecikbbkaaGreat
open Go.RowKit
abbrev vU (l : List Int) : List Value := l.map fun n : Int => Value.int .u64 n
def dRes (r : Option SegM) : Value := match r with | none => .tuple #[segA idSeg, .bool false] | some x => .tuple #[segA x, .bool true]
abbrev DeqP (b : Nat) (c : CfgM) (lb tb : Nat) (t : TrA) (rr : Res) (r : Option SegM) (ds : DS) : Value → List Res → Prop := fun v L => v = dRes r ∧ ∃ q : QA, absQ q = ds ∧ q.c = c ∧ q.lb = lb ∧ q.tb = tb ∧ L = [queueG b q, treeG tb t, rr]
theorem absQ_get {q : QA} {s : Nat} {x : Option FlowM} (h : (absQ q).fm[s]? = some x) : ∃ y, q.fl[s]? = some y ∧ y.map FlowA.m = x := by
  have h' : (q.fl.map (Option.map FlowA.m))[s]? = some x := h
  rw [List.getElem?_map] at h'
  cases hq : q.fl[s]? with
  | none => rw [hq] at h'; cases h'
  | some y => rw [hq] at h'; injection h' with h'; exact ⟨y, rfl, h'⟩
theorem map_set_m {fl : List (Option FlowA)} {s : Nat} {f : FlowA} : (fl.set s (some f)).map (Option.map FlowA.m) = (fl.map (Option.map FlowA.m)).set s (some f.m) := by rw [List.map_set]; rfl
set_option maxRecDepth 10000 in
set_option maxHeartbeats 16000000 in
theorem qdeq_ct (b : Nat) (c : CfgM) (lb tb : Nat) (t : TrA) (ht : t.top = 0) (now : Int) (n0 : 0 ≤ now) (n1 : now ≤ 18446744073709551615) (m0 : 0 ≤ c.maxRate) (m1 : c.maxRate ≤ 18446744073709551615) (qn0 : 0 ≤ c.quantum) (qn1 : c.quantum ≤ 65536)
    (ra : Option Addr) (rn rc : Nat) (rs : List Int) (hrn : rs.length = rn) (hrs : ∀ x ∈ rs, 0 ≤ x ∧ x ≤ 18446744073709551615) (hr8 : rn ≤ 1000) (fuel : Nat) (r : Option SegM) (ds' : DS) (q : QA) (hqc : q.c = c) (hql : q.lb = lb) (hqt : q.tb = tb) (hok : dOk (absQ q)) (hd : deq c now rs fuel (absQ q) = some (r, ds')) :
    Ct Tryz.prog 23 #[.pointer (some ⟨b, 0, none⟩), .int .u64 now, .slice ra rn rc] [queueG b q, treeG tb t, rowR ra rn rc 22 1 (vU rs)] (DeqP b c lb tb t (rowR ra rn rc 22 1 (vU rs)) r ds') := by
  have kD : ∀ q : QA, q.c = c → q.lb = lb → q.tb = tb → dOk (absQ q) → Ct Tryz.prog 50 #[.pointer (some ⟨b, 0, none⟩), .int .u64 now] [queueG b q, treeG tb t] (Gives (.tuple #[]) [queueG b q, treeG tb t]) := by
    rintro ⟨c, fl, lb, tb, fr, ol, la, n⟩ rfl rfl rfl hok
    exact qdue0_ct b c fl lb tb fr ol la n hok.flOk.1 t ht now
  have kD0 := kD q hqc hql hqt hok
  clear kD
  intro w0 F L w hS
  simp only [List.cons_append, List.nil_append] at hS
  go_enter Tryz.func23, Tryz.ntmps23
  go_wp2_with (first | go_skip | (refine ck_load hS rfl rfl rfl (by (repeat (first | exact mH _ | apply mT)) <;> fail) rfl (by decide +kernel) ?_; simp only [Act.put, spA, spZ, spS]) | (refine ck_store hS rfl rfl rfl (by constructor) (by (repeat (first | exact uH _ _ _ | apply uT)) <;> fail) (by simp <;> omega) rfl (by decide +kernel) ?_; clear hS; intro w hS; simp only [Act.put, spA, spZ, spS] at hS ⊢) | (refine ck_alloc (t := 44) (v := segA ⟨0, 0, 0, 0, false⟩) (cs := segV ⟨0, 0, 0, 0, false⟩) hS rfl rfl (by kernel_rfl) rfl ?_; clear hS; intro t6 w hS; simp only [Act.put, spA, spZ, spS]) | (go_at_call 50; (refine Ct.call2 (kD0) (by (repeat (first | exact rH _ _ | apply rT)) <;> fail) (by (repeat (first | exact rH _ _ | apply rT)) <;> fail) hS ?_); clear hS; rintro _ _ w ⟨rfl, rfl⟩ hS; simp only [List.cons_append, List.nil_append] at hS) | (refine ck_region (fun _ => 0) (fun _ => []) [] hS (by kernel_rfl) (by decide +kernel) ?_ ?_; exact ⟨fun _ _ _ h => h.2, fun _ _ h => h⟩; clear hS; intro w hS _; (repeat (first | (apply wpT_pure rfl rfl; (intro _; go_simp; (try (go_ints; (try go_simp))); (first | (rw [decide_eq_true]; omega) | (rw [decide_eq_false]; omega) | rfl | rw [if_pos (by omega)])); simp only [Act.put, spA, spZ, spS]) | (refine ckT_load hS rfl rfl rfl (by simp <;> fail) (by (repeat (first | exact mH _ | apply mT)) <;> fail) rfl (by decide +kernel) ?_; simp only [Act.put, spA, spZ, spS]) | (refine ckT_store hS rfl rfl rfl (by constructor) (by (repeat (first | exact uH _ _ _ | apply uT)) <;> fail) (by simp <;> fail) rfl (by decide +kernel) (by simp <;> fail) ?_; clear hS; intro w hS; simp only [Act.put, spA, spZ, spS] at hS ⊢) )); refine wpT_nil ?_))
  go_step3
  go_wp2_with (first | go_skip | (refine ck_load hS rfl rfl rfl (by (repeat (first | exact mH _ | apply mT)) <;> fail) rfl (by decide +kernel) ?_; simp only [Act.put, spA, spZ, spS]) | (refine ck_store hS rfl rfl rfl (by constructor) (by (repeat (first | exact uH _ _ _ | apply uT)) <;> fail) (by simp <;> omega) rfl (by decide +kernel) ?_; clear hS; intro w hS; simp only [Act.put, spA, spZ, spS] at hS ⊢) | (refine ck_alloc (t := 44) (v := segA ⟨0, 0, 0, 0, false⟩) (cs := segV ⟨0, 0, 0, 0, false⟩) hS rfl rfl (by kernel_rfl) rfl ?_; clear hS; intro t6 w hS; simp only [Act.put, spA, spZ, spS]) | (go_at_call 50; (refine Ct.call2 (kD0) (by (repeat (first | exact rH _ _ | apply rT)) <;> fail) (by (repeat (first | exact rH _ _ | apply rT)) <;> fail) hS ?_); clear hS; rintro _ _ w ⟨rfl, rfl⟩ hS; simp only [List.cons_append, List.nil_append] at hS) | (refine ck_region (fun _ => 0) (fun _ => []) [] hS (by kernel_rfl) (by decide +kernel) ?_ ?_; exact ⟨fun _ _ _ h => h.2, fun _ _ h => h⟩; clear hS; intro w hS _; (repeat (first | (apply wpT_pure rfl rfl; (intro _; go_simp; (try (go_ints; (try go_simp))); (first | (rw [decide_eq_true]; omega) | (rw [decide_eq_false]; omega) | rfl | rw [if_pos (by omega)])); simp only [Act.put, spA, spZ, spS]) | (refine ckT_load hS rfl rfl rfl (by simp <;> fail) (by (repeat (first | exact mH _ | apply mT)) <;> fail) rfl (by decide +kernel) ?_; simp only [Act.put, spA, spZ, spS]) | (refine ckT_store hS rfl rfl rfl (by constructor) (by (repeat (first | exact uH _ _ _ | apply uT)) <;> fail) (by simp <;> fail) rfl (by decide +kernel) (by simp <;> fail) ?_; clear hS; intro w hS; simp only [Act.put, spA, spZ, spS] at hS ⊢) )); refine wpT_nil ?_))
  go_step3
  go_wp2_with (first | go_skip | (refine ck_load hS rfl rfl rfl (by (repeat (first | exact mH _ | apply mT)) <;> fail) rfl (by decide +kernel) ?_; simp only [Act.put, spA, spZ, spS]) | (refine ck_store hS rfl rfl rfl (by constructor) (by (repeat (first | exact uH _ _ _ | apply uT)) <;> fail) (by simp <;> omega) rfl (by decide +kernel) ?_; clear hS; intro w hS; simp only [Act.put, spA, spZ, spS] at hS ⊢) | (refine ck_alloc (t := 44) (v := segA ⟨0, 0, 0, 0, false⟩) (cs := segV ⟨0, 0, 0, 0, false⟩) hS rfl rfl (by kernel_rfl) rfl ?_; clear hS; intro t6 w hS; simp only [Act.put, spA, spZ, spS]) | (go_at_call 50; (refine Ct.call2 (kD0) (by (repeat (first | exact rH _ _ | apply rT)) <;> fail) (by (repeat (first | exact rH _ _ | apply rT)) <;> fail) hS ?_); clear hS; rintro _ _ w ⟨rfl, rfl⟩ hS; simp only [List.cons_append, List.nil_append] at hS) | (refine ck_region (fun _ => 0) (fun _ => []) [] hS (by kernel_rfl) (by decide +kernel) ?_ ?_; exact ⟨fun _ _ _ h => h.2, fun _ _ h => h⟩; clear hS; intro w hS _; (repeat (first | (apply wpT_pure rfl rfl; (intro _; go_simp; (try (go_ints; (try go_simp))); (first | (rw [decide_eq_true]; omega) | (rw [decide_eq_false]; omega) | rfl | rw [if_pos (by omega)])); simp only [Act.put, spA, spZ, spS]) | (refine ckT_load hS rfl rfl rfl (by simp <;> fail) (by (repeat (first | exact mH _ | apply mT)) <;> fail) rfl (by decide +kernel) ?_; simp only [Act.put, spA, spZ, spS]) | (refine ckT_store hS rfl rfl rfl (by constructor) (by (repeat (first | exact uH _ _ _ | apply uT)) <;> fail) (by simp <;> fail) rfl (by decide +kernel) (by simp <;> fail) ?_; clear hS; intro w hS; simp only [Act.put, spA, spZ, spS] at hS ⊢) )); refine wpT_nil ?_))
  clear kD0
  go_loopg [8] fuel (fun g s8 wx => ∃ q : QA, q.c = c ∧ q.lb = lb ∧ q.tb = tb ∧ dOk (absQ q) ∧ deq c now rs g (absQ q) = some (r, ds') ∧ Sep w0 F (queueG b q :: treeG tb t :: pts t6 (segV ⟨0, 0, 0, 0, false⟩) 44 :: rowR ra rn rc 22 1 (vU rs) :: L) wx)
  case atStart => exact ⟨q, hqc, hql, hqt, hok, hd, hS⟩
  case round =>
    clear hok hqc hql hqt hd
    obtain ⟨⟨c, fl, lb, tb, fr, ol, la, n⟩, rfl, rfl, rfl, hok, hd, hS⟩ := hrel
    generalize wr = w at hS ⊢
    have h8 : fl.length = 8 := hok.flOk.1
    have hsm : fr.length + ol.length ≤ 1000 := hok.few
    have hlb := qC_lb (c := c) (lb := lb) (tb := tb) (n := n) h8
    have kH := lstHead_ct lb fr ol la hsm
    dsimp only at *
    cases gk with
    | zero => cases hd
    | succ gk =>
      unfold deq at hd
      cases hlp : lsP fr ol with
      | nil =>
        have hd' : some (none, absQ ⟨c, fl, lb, tb, fr, ol, la, n⟩) = some (r, ds') := by
          have : lsP (absQ ⟨c, fl, lb, tb, fr, ol, la, n⟩).fr (absQ ⟨c, fl, lb, tb, fr, ol, la, n⟩).ol = [] := hlp
          rw [this] at hd; exact hd
        injection hd' with hd'; injection hd' with e1 e2
        subst e1 e2
        rw [show hdZ fr ol = .tuple #[.int .i64 0, .bool false, .bool false] by unfold hdZ; rw [hlp]] at kH
        clear hd hlp hok
        have hS := queueOpen.1 hS
        go_wp2_with (first | go_skip | (refine ck_load hS rfl rfl rfl (by (repeat (first | exact mH _ | apply mT)) <;> fail) hlb (by decide +kernel) ?_; simp only [Act.put, spA, spZ, spS]) | (refine ck_load hS rfl rfl rfl (by (repeat (first | exact mH _ | apply mT)) <;> fail) rfl (by decide +kernel) ?_; simp only [Act.put, spA, spZ, spS]) | (refine ck_store hS rfl rfl rfl (by constructor) (by (repeat (first | exact uH _ _ _ | apply uT)) <;> fail) (by simp <;> omega) rfl (by decide +kernel) ?_; clear hS; intro w hS; simp only [Act.put, spA, spZ, spS] at hS ⊢) | (go_at_call 51; (with_reducible refine Ct.callU (kH) (by (repeat (first | exact uH _ _ _ | apply uT)) <;> fail) hS ?_) <;> (first | (clear hS; intro w hS) | omega)) | (refine ck_storeAll hS rfl rfl rfl rfl (by (repeat (first | exact uH _ _ _ | apply uT)) <;> fail) (by rfl) rfl (by (try simp only [List.length_cons, List.length_nil, Nat.zero_add, Nat.reduceAdd]); decide +kernel) ?_; clear hS; intro w hS; simp only [Act.put, spA, spZ, spS]) | (refine ck_region (fun _ => 0) (fun _ => []) [] hS (by kernel_rfl) (by decide +kernel) ?_ ?_; exact ⟨fun _ _ _ h => h.2, fun _ _ h => h⟩; clear hS; intro w hS _; (repeat (first | (apply wpT_pure rfl rfl; (intro _; go_simp; (try (go_ints; (try go_simp))); (first | (rw [decide_eq_true]; omega) | (rw [decide_eq_false]; omega) | rfl | rw [if_pos (by omega)])); simp only [Act.put, spA, spZ, spS]) | (refine ckT_load hS rfl rfl rfl (by simp <;> fail) (by (repeat (first | exact mH _ | apply mT)) <;> fail) rfl (by decide +kernel) ?_; simp only [Act.put, spA, spZ, spS]) | (refine ckT_store hS rfl rfl rfl (by constructor) (by (repeat (first | exact uH _ _ _ | apply uT)) <;> fail) (by simp <;> fail) rfl (by decide +kernel) (by simp <;> fail) ?_; clear hS; intro w hS; simp only [Act.put, spA, spZ, spS] at hS ⊢) )); refine wpT_nil ?_))
        rw [Exit.noGoto_ret]
        refine bodyPost_ret (ckRes_cell_tmp hS (cs := segV ⟨0, 0, 0, 0, false⟩) (b := t6) (T := 44) (by (repeat (first | exact mH _ | apply mT)) <;> fail) rfl rfl rfl (by (try simp only [List.length_cons, List.length_nil, Nat.zero_add, Nat.reduceAdd]); decide +kernel)) rfl ?_
        have j1 := (hS.bring (r := pts t6 (segV ⟨0, 0, 0, 0, false⟩) 44) (by (repeat (first | exact rH _ _ | apply rT)) <;> fail)).drop
        exact ⟨_, ⟨rfl, ⟨c, fl, lb, tb, fr, ol, la, n⟩, rfl, rfl, rfl, rfl, rfl⟩, queueOpen.2 j1⟩
      | cons p rest =>
        obtain ⟨s, f⟩ := p
        have hlp' : lsP (absQ ⟨c, fl, lb, tb, fr, ol, la, n⟩).fr (absQ ⟨c, fl, lb, tb, fr, ol, la, n⟩).ol = (s, f) :: rest := hlp
        rw [hlp'] at hd
        dsimp only at hd
        obtain ⟨hs0, hs8⟩ := hok.soc s (lsP_mem hlp)
        obtain ⟨k, rfl⟩ : ∃ k : Nat, s = k := ⟨s.toNat, by omega⟩
        rw [show ((k : Int)).toNat = k from rfl] at hd
        cases hF : (absQ ⟨c, fl, lb, tb, fr, ol, la, n⟩).fm[k]? with
        | none => rw [hF] at hd; cases hd
        | some o =>
          cases o with
          | none => rw [hF] at hd; cases hd
          | some G =>
            rw [hF] at hd
            dsimp only at hd
            obtain ⟨y, hx, hy⟩ := absQ_get hF
            cases y with
            | none => cases hy
            | some fa0 =>
              obtain ⟨fb, ⟨cr, nx, si, l⟩, fa, fc⟩ := fa0
              injection hy with hy
              subst hy
              have hfl := hok.flo k _ hF
              dsimp only at hd hfl hx
              obtain ⟨g1, g2, g3, g4, g5, g6, g7, g8⟩ := hfl
              obtain ⟨m, hm⟩ : ∃ m, l.length = m := ⟨_, rfl⟩
              have oF := fun {w0 w : World} {F : List Nat} {L : List Res} => queueOpenF (b := b) (c := c) (lb := lb) (tb := tb) (fr := fr) (ol := ol) (la := la) (n := n) (w0 := w0) (w := w) (F := F) (L := L) hx hm
              have hfp : (qC c fl lb tb n)[9 + k]? = some (.pointer (some ⟨fb, 0, none⟩)) := qC_f (c := c) (lb := lb) (tb := tb) (n := n) hx
              rw [show hdZ fr ol = .tuple #[.int .i64 k, .bool f, .bool true] by unfold hdZ; rw [hlp]] at kH
              have hk8 : k < 8 := by omega
              by_cases hcr : cr ≤ 0
              · rw [if_pos hcr] at hd
                have kB := lstBack_ct lb fr ol la k f rest hsm (by omega) (by omega) hlp
                have hok2 := hok.step hlp' (fm := (absQ ⟨c, fl, lb, tb, fr, ol, la, n⟩).fm.set k (some ⟨cr + c.quantum, nx, si, l⟩)) (by rw [List.length_set]; exact hok.len) (hok.set ⟨g1, g2, g3, g4, by simp only; omega, by simp only; omega, g7, g8⟩) [(k : Int)] (.inr rfl)
                have hS := oF.1 hS
                clear hlp hlp' hF hok
                go_wp2_with (first | go_skip | (refine ck_load hS rfl rfl rfl (by (repeat (first | exact mH _ | apply mT)) <;> fail) hlb (by decide +kernel) ?_; simp only [Act.put, spA, spZ, spS]) | (refine ck_load hS rfl rfl rfl (by (repeat (first | exact mH _ | apply mT)) <;> fail) hfp (by decide +kernel) ?_; simp only [Act.put, spA, spZ, spS]) | (refine ck_load hS rfl rfl rfl (by (repeat (first | exact mH _ | apply mT)) <;> fail) rfl (by decide +kernel) ?_; simp only [Act.put, spA, spZ, spS]) | (refine ck_store hS rfl rfl rfl (by constructor) (by (repeat (first | exact uH _ _ _ | apply uT)) <;> fail) (by simp <;> omega) rfl (by decide +kernel) ?_; clear hS; intro w hS; simp only [Act.put, spA, spZ, spS] at hS ⊢) | (go_at_call 51; (with_reducible refine Ct.callU (kH) (by (repeat (first | exact uH _ _ _ | apply uT)) <;> fail) hS ?_) <;> (first | (clear hS; intro w hS) | omega)) | (go_at_call 52; (with_reducible refine Ct.callE (kB) (by (repeat (first | exact rH _ _ | apply rT)) <;> fail) hS ?_) <;> (first | (clear hS; intro A w hS) | omega)) | (refine ck_region (fun _ => 0) (fun _ => []) [] hS (by kernel_rfl) (by decide +kernel) ?_ ?_; exact ⟨fun _ _ _ h => h.2, fun _ _ h => h⟩; clear hS; intro w hS _; (repeat (first | (apply wpT_pure rfl rfl; (intro _; go_simp; (try (go_ints; (try go_simp))); (first | (rw [decide_eq_true]; omega) | (rw [decide_eq_false]; omega) | rfl | rw [if_pos (by omega)])); simp only [Act.put, spA, spZ, spS]) | (refine ckT_load hS rfl rfl rfl (by simp <;> fail) (by (repeat (first | exact mH _ | apply mT)) <;> fail) rfl (by decide +kernel) ?_; simp only [Act.put, spA, spZ, spS]) | (refine ckT_store hS rfl rfl rfl (by constructor) (by (repeat (first | exact uH _ _ _ | apply uT)) <;> fail) (by simp <;> fail) rfl (by decide +kernel) (by simp <;> fail) ?_; clear hS; intro w hS; simp only [Act.put, spA, spZ, spS] at hS ⊢) )); refine wpT_nil ?_))
                have j1 := hS.bring (r := flowsR (fl.set k none)) (by (repeat (first | exact rH _ _ | apply rT)) <;> fail)
                have j2 := j1.bring (r := flRow fa m fc l) (by (repeat (first | exact rH _ _ | apply rT)) <;> fail)
                have j3 := j2.bring (r := flP fb (cr + c.quantum) nx si fa m fc) (by (repeat (first | exact rH _ _ | apply rT)) <;> fail)
                have j4 := j3.bring (r := qP b c fl lb tb n) (by (repeat (first | exact rH _ _ | apply rT)) <;> fail)
                have j5 := queueShutF hx hm j4
                go_roundg gk
                case rel =>
                  refine ⟨_, rfl, rfl, rfl, ?_, ?_, j5⟩
                  · show dOk ⟨(fl.set k _).map (Option.map FlowA.m), _, _, _⟩
                    rw [map_set_m]; exact hok2
                  · show deq c now rs gk ⟨(fl.set k _).map (Option.map FlowA.m), _, _, _⟩ = _
                    rw [map_set_m]; exact hd
                case measure => omega
              · rw [if_neg hcr] at hd
                cases l with
                | nil =>
                  obtain rfl : m = 0 := hm.symm
                  dsimp only at hd
                  by_cases hfo : f = true ∧ olB (((k : Int), f) :: rest) = true
                  · rw [if_pos hfo] at hd
                    obtain ⟨rfl, ho⟩ := hfo
                    have kO := qold_ct b c fl lb tb fr ol la n h8 hsm
                    rw [hlp, ho] at kO
                    have kB := lstBack_ct lb fr ol la k true rest hsm (by omega) (by omega) hlp
                    have hok2 := hok.step hlp' (fm := (absQ ⟨c, fl, lb, tb, fr, ol, la, n⟩).fm) hok.len hok.flo [(k : Int)] (.inr rfl)
                    have hS := oF.1 hS
                    clear hlp hlp' hF hok ho
                    go_wp2_with (first | go_skip | (refine ck_load hS rfl rfl rfl (by (repeat (first | exact mH _ | apply mT)) <;> fail) hlb (by decide +kernel) ?_; simp only [Act.put, spA, spZ, spS]) | (refine ck_load hS rfl rfl rfl (by (repeat (first | exact mH _ | apply mT)) <;> fail) hfp (by decide +kernel) ?_; simp only [Act.put, spA, spZ, spS]) | (refine ck_load hS rfl rfl rfl (by (repeat (first | exact mH _ | apply mT)) <;> fail) rfl (by decide +kernel) ?_; simp only [Act.put, spA, spZ, spS]) | (refine ck_store hS rfl rfl rfl (by constructor) (by (repeat (first | exact uH _ _ _ | apply uT)) <;> fail) (by simp <;> omega) rfl (by decide +kernel) ?_; clear hS; intro w hS; simp only [Act.put, spA, spZ, spS] at hS ⊢) | (go_at_call 51; (with_reducible refine Ct.callU (kH) (by (repeat (first | exact uH _ _ _ | apply uT)) <;> fail) hS ?_) <;> (first | (clear hS; intro w hS) | omega)) | (go_at_call 52; (with_reducible refine Ct.callE (kB) (by (repeat (first | exact rH _ _ | apply rT)) <;> fail) hS ?_) <;> (first | (clear hS; intro A w hS) | omega)) | (have hS0 := oF.2 hS; go_at_call 53; (refine Ct.callG (kO) hS0 ?_); clear hS hS0; intro w hS0; have hS := oF.1 hS0; clear hS0) | (refine ck_region (fun _ => 0) (fun _ => []) [] hS (by kernel_rfl) (by decide +kernel) ?_ ?_; exact ⟨fun _ _ _ h => h.2, fun _ _ h => h⟩; clear hS; intro w hS _; (repeat (first | (apply wpT_pure rfl rfl; (intro _; go_simp; (try (go_ints; (try go_simp))); (first | (rw [decide_eq_true]; omega) | (rw [decide_eq_false]; omega) | rfl | rw [if_pos (by omega)])); simp only [Act.put, spA, spZ, spS]) | (refine ckT_load hS rfl rfl rfl (by simp <;> fail) (by (repeat (first | exact mH _ | apply mT)) <;> fail) rfl (by decide +kernel) ?_; simp only [Act.put, spA, spZ, spS]) | (refine ckT_store hS rfl rfl rfl (by constructor) (by (repeat (first | exact uH _ _ _ | apply uT)) <;> fail) (by simp <;> fail) rfl (by decide +kernel) (by simp <;> fail) ?_; clear hS; intro w hS; simp only [Act.put, spA, spZ, spS] at hS ⊢) )); refine wpT_nil ?_))
                    have j1 := hS.bring (r := flowsR (fl.set k none)) (by (repeat (first | exact rH _ _ | apply rT)) <;> fail)
                    have j2 := j1.bring (r := flRow fa 0 fc []) (by (repeat (first | exact rH _ _ | apply rT)) <;> fail)
                    have j3 := j2.bring (r := flP fb cr nx si fa 0 fc) (by (repeat (first | exact rH _ _ | apply rT)) <;> fail)
                    have j4 := j3.bring (r := qP b c fl lb tb n) (by (repeat (first | exact rH _ _ | apply rT)) <;> fail)
                    have j5 := (queueOpenF (fr := fr.filter (· ≠ (k : Int))) (ol := ol.filter (· ≠ (k : Int)) ++ [(k : Int)]) (la := A) hx rfl).2 j4
                    go_roundg gk
                    case rel => exact ⟨_, rfl, rfl, rfl, hok2, hd, j5⟩
                    case measure => omega
                  · rw [if_neg hfo] at hd
                    have kD := lstDrop_ct lb fr ol la k f rest hsm hlp
                    have hok2 := hok.step hlp' (fm := (absQ ⟨c, fl, lb, tb, fr, ol, la, n⟩).fm.set k (some ⟨cr, nx, now, []⟩)) (by rw [List.length_set]; exact hok.len) (hok.set ⟨n0, n1, g3, g4, g5, g6, g7, g8⟩) [] (.inl rfl)
                    rw [List.append_nil] at hok2
                    have hS := oF.1 hS
                    cases f
                    · clear hlp hlp' hF hok hfo
                      go_wp2_with (first | go_skip | (refine ck_load hS rfl rfl rfl (by (repeat (first | exact mH _ | apply mT)) <;> fail) hlb (by decide +kernel) ?_; simp only [Act.put, spA, spZ, spS]) | (refine ck_load hS rfl rfl rfl (by (repeat (first | exact mH _ | apply mT)) <;> fail) hfp (by decide +kernel) ?_; simp only [Act.put, spA, spZ, spS]) | (refine ck_load hS rfl rfl rfl (by (repeat (first | exact mH _ | apply mT)) <;> fail) rfl (by decide +kernel) ?_; simp only [Act.put, spA, spZ, spS]) | (refine ck_store hS rfl rfl rfl (by constructor) (by (repeat (first | exact uH _ _ _ | apply uT)) <;> fail) (by simp <;> omega) rfl (by decide +kernel) ?_; clear hS; intro w hS; simp only [Act.put, spA, spZ, spS] at hS ⊢) | (go_at_call 51; (with_reducible refine Ct.callU (kH) (by (repeat (first | exact uH _ _ _ | apply uT)) <;> fail) hS ?_) <;> (first | (clear hS; intro w hS) | omega)) | (go_at_call 54; (with_reducible refine Ct.callE (kD) (by (repeat (first | exact rH _ _ | apply rT)) <;> fail) hS ?_) <;> (first | (clear hS; intro A w hS) | omega)) | (refine ck_region (fun _ => 0) (fun _ => []) [] hS (by kernel_rfl) (by decide +kernel) ?_ ?_; exact ⟨fun _ _ _ h => h.2, fun _ _ h => h⟩; clear hS; intro w hS _; (repeat (first | (apply wpT_pure rfl rfl; (intro _; go_simp; (try (go_ints; (try go_simp))); (first | (rw [decide_eq_true]; omega) | (rw [decide_eq_false]; omega) | rfl | rw [if_pos (by omega)])); simp only [Act.put, spA, spZ, spS]) | (refine ckT_load hS rfl rfl rfl (by simp <;> fail) (by (repeat (first | exact mH _ | apply mT)) <;> fail) rfl (by decide +kernel) ?_; simp only [Act.put, spA, spZ, spS]) | (refine ckT_store hS rfl rfl rfl (by constructor) (by (repeat (first | exact uH _ _ _ | apply uT)) <;> fail) (by simp <;> fail) rfl (by decide +kernel) (by simp <;> fail) ?_; clear hS; intro w hS; simp only [Act.put, spA, spZ, spS] at hS ⊢) )); refine wpT_nil ?_))
                      have j1 := hS.bring (r := flowsR (fl.set k none)) (by (repeat (first | exact rH _ _ | apply rT)) <;> fail)
                      have j2 := j1.bring (r := flRow fa 0 fc []) (by (repeat (first | exact rH _ _ | apply rT)) <;> fail)
                      have j3 := j2.bring (r := flP fb cr nx now fa 0 fc) (by (repeat (first | exact rH _ _ | apply rT)) <;> fail)
                      have j4 := j3.bring (r := qP b c fl lb tb n) (by (repeat (first | exact rH _ _ | apply rT)) <;> fail)
                      have j5 := queueShutF (l := []) (m := 0) hx rfl j4
                      go_roundg gk
                      case rel =>
                        refine ⟨_, rfl, rfl, rfl, ?_, ?_, j5⟩
                        · show dOk ⟨(fl.set k _).map (Option.map FlowA.m), _, _, _⟩
                          rw [map_set_m]; exact hok2
                        · show deq c now rs gk ⟨(fl.set k _).map (Option.map FlowA.m), _, _, _⟩ = _
                          rw [map_set_m]; exact hd
                      case measure => omega
                    · have ho : olB (((k : Int), true) :: rest) = false := by
                        cases h : olB (((k : Int), true) :: rest)
                        · rfl
                        · exact absurd ⟨rfl, h⟩ hfo
                      have kO := qold_ct b c fl lb tb fr ol la n h8 hsm
                      rw [hlp, ho] at kO
                      clear hlp hlp' hF hok hfo ho
                      go_wp2_with (first | go_skip | (refine ck_load hS rfl rfl rfl (by (repeat (first | exact mH _ | apply mT)) <;> fail) hlb (by decide +kernel) ?_; simp only [Act.put, spA, spZ, spS]) | (refine ck_load hS rfl rfl rfl (by (repeat (first | exact mH _ | apply mT)) <;> fail) hfp (by decide +kernel) ?_; simp only [Act.put, spA, spZ, spS]) | (refine ck_load hS rfl rfl rfl (by (repeat (first | exact mH _ | apply mT)) <;> fail) rfl (by decide +kernel) ?_; simp only [Act.put, spA, spZ, spS]) | (refine ck_store hS rfl rfl rfl (by constructor) (by (repeat (first | exact uH _ _ _ | apply uT)) <;> fail) (by simp <;> omega) rfl (by decide +kernel) ?_; clear hS; intro w hS; simp only [Act.put, spA, spZ, spS] at hS ⊢) | (go_at_call 51; (with_reducible refine Ct.callU (kH) (by (repeat (first | exact uH _ _ _ | apply uT)) <;> fail) hS ?_) <;> (first | (clear hS; intro w hS) | omega)) | (go_at_call 54; (with_reducible refine Ct.callE (kD) (by (repeat (first | exact rH _ _ | apply rT)) <;> fail) hS ?_) <;> (first | (clear hS; intro A w hS) | omega)) | (have hS0 := oF.2 hS; go_at_call 53; (refine Ct.callG (kO) hS0 ?_); clear hS hS0; intro w hS0; have hS := oF.1 hS0; clear hS0) | (refine ck_region (fun _ => 0) (fun _ => []) [] hS (by kernel_rfl) (by decide +kernel) ?_ ?_; exact ⟨fun _ _ _ h => h.2, fun _ _ h => h⟩; clear hS; intro w hS _; (repeat (first | (apply wpT_pure rfl rfl; (intro _; go_simp; (try (go_ints; (try go_simp))); (first | (rw [decide_eq_true]; omega) | (rw [decide_eq_false]; omega) | rfl | rw [if_pos (by omega)])); simp only [Act.put, spA, spZ, spS]) | (refine ckT_load hS rfl rfl rfl (by simp <;> fail) (by (repeat (first | exact mH _ | apply mT)) <;> fail) rfl (by decide +kernel) ?_; simp only [Act.put, spA, spZ, spS]) | (refine ckT_store hS rfl rfl rfl (by constructor) (by (repeat (first | exact uH _ _ _ | apply uT)) <;> fail) (by simp <;> fail) rfl (by decide +kernel) (by simp <;> fail) ?_; clear hS; intro w hS; simp only [Act.put, spA, spZ, spS] at hS ⊢) )); refine wpT_nil ?_))
                      have j1 := hS.bring (r := flowsR (fl.set k none)) (by (repeat (first | exact rH _ _ | apply rT)) <;> fail)
                      have j2 := j1.bring (r := flRow fa 0 fc []) (by (repeat (first | exact rH _ _ | apply rT)) <;> fail)
                      have j3 := j2.bring (r := flP fb cr nx now fa 0 fc) (by (repeat (first | exact rH _ _ | apply rT)) <;> fail)
                      have j4 := j3.bring (r := qP b c fl lb tb n) (by (repeat (first | exact rH _ _ | apply rT)) <;> fail)
                      have j5 := queueShutF (l := []) (m := 0) hx rfl j4
                      go_roundg gk
                      case rel =>
                        refine ⟨_, rfl, rfl, rfl, ?_, ?_, j5⟩
                        · show dOk ⟨(fl.set k _).map (Option.map FlowA.m), _, _, _⟩
                          rw [map_set_m]; exact hok2
                        · show deq c now rs gk ⟨(fl.set k _).map (Option.map FlowA.m), _, _, _⟩ = _
                          rw [map_set_m]; exact hd
                      case measure => omega
                | cons x l =>
                  dsimp only at hd
                  by_cases htm : now < timeOf nx (x :: l)
                  · rw [if_pos htm] at hd; cases hd
                  · rw [if_neg htm] at hd
                    injection hd with hd; injection hd with e1 e2
                    subst e1 e2
                    obtain ⟨x0, x1, x2, x3⟩ := g8 x (by simp)
                    obtain ⟨m', rfl⟩ : ∃ m', m = m' + 1 := ⟨l.length, by rw [← hm]; simp⟩
                    have hn := hok.num
                    dsimp only [absQ] at hn
                    obtain ⟨rt, hrt⟩ : ∃ rt, rateAt rs k = rt := ⟨_, rfl⟩
                    have hrb : 0 ≤ rt ∧ rt ≤ 18446744073709551615 := by
                      rw [← hrt]; unfold rateAt
                      cases h : rs[k]? with
                      | none => exact ⟨by simp, by simp⟩
                      | some v => exact hrs v (List.mem_of_getElem? h)
                    have kT := ftime_ct fb fc (m' + 1) cr nx si x l fa hm
                    have kS := qsend_ct b c fl lb tb fr ol la n h8 now rt k fb cr nx si x l fa fc hx n0 n1 hrb.1 hrb.2 m0 m1 x0 x1 g5 g6 hn.1 hn.2
                    rw [hrt]
                    generalize timeOf nx (x :: l) = tm at *
                    have hS := oF.1 hS
                    clear hlp hlp' hF hok hrb
                    by_cases hkr : k < rn
                    · obtain ⟨ga, rfl⟩ := hS.rowSome (a := ra) (n := rn) (cap := rc) (e := 22) (sz := 1) (xs := vU rs) (by (repeat (first | exact mH _ | apply mT)) <;> fail) (by omega)
                      have hv : (vU rs)[k]? = some (.int .u64 rt) := by
                        unfold rateAt at hrt
                        rw [List.getElem?_eq_getElem (by omega)] at hrt
                        rw [List.getElem?_map, List.getElem?_eq_getElem (by omega), ← hrt]; rfl
                      clear hrt
                      go_wp2_with (first | go_skip | (refine ck_load hS rfl rfl rfl (by (repeat (first | exact mH _ | apply mT)) <;> fail) hlb (by decide +kernel) ?_; simp only [Act.put, spA, spZ, spS]) | (refine ck_load hS rfl rfl rfl (by (repeat (first | exact mH _ | apply mT)) <;> fail) hfp (by decide +kernel) ?_; simp only [Act.put, spA, spZ, spS]) | (refine ck_loadRow hS rfl rfl rfl (by (repeat (first | exact mH _ | apply mT)) <;> fail) hv (by decide +kernel) ?_; simp only [Act.put, spA, spZ, spS]) | (refine ck_load hS rfl rfl rfl (by (repeat (first | exact mH _ | apply mT)) <;> fail) rfl (by decide +kernel) ?_; simp only [Act.put, spA, spZ, spS]) | (refine ck_store hS rfl rfl rfl (by constructor) (by (repeat (first | exact uH _ _ _ | apply uT)) <;> fail) (by simp <;> omega) rfl (by decide +kernel) ?_; clear hS; intro w hS; simp only [Act.put, spA, spZ, spS] at hS ⊢) | (go_at_call 51; (with_reducible refine Ct.callU (kH) (by (repeat (first | exact uH _ _ _ | apply uT)) <;> fail) hS ?_) <;> (first | (clear hS; intro w hS) | omega)) | (go_at_call 55; (refine Ct.call2 (kT) (by (repeat (first | exact rH _ _ | apply rT)) <;> fail) (by (repeat (first | exact rH _ _ | apply rT)) <;> fail) hS ?_); clear hS; rintro _ _ w ⟨rfl, rfl⟩ hS; simp only [List.cons_append, List.nil_append] at hS; have hS := hS.perm ((List.Perm.cons _ (List.Perm.swap _ _ _)).trans (.swap _ _ _))) | (have hS0 := oF.2 hS; go_at_call 58; refine Ct.call1 (kS) (by (repeat (first | exact rH _ _ | apply rT)) <;> fail) hS0 ?_; clear hS hS0; rintro _ _ w ⟨rfl, f', hf', rfl⟩ hS; simp only [List.cons_append, List.nil_append] at hS) | (refine ck_storeAll hS rfl rfl rfl rfl (by (repeat (first | exact uH _ _ _ | apply uT)) <;> fail) (by rfl) rfl (by (try simp only [List.length_cons, List.length_nil, Nat.zero_add, Nat.reduceAdd]); decide +kernel) ?_; clear hS; intro w hS; simp only [Act.put, spA, spZ, spS]) | (refine ck_region (fun _ => 0) (fun _ => []) [] hS (by kernel_rfl) (by decide +kernel) ?_ ?_; exact ⟨fun _ _ _ h => h.2, fun _ _ h => h⟩; clear hS; intro w hS _; (repeat (first | (apply wpT_pure rfl rfl; (intro _; go_simp; (try (go_ints; (try go_simp))); (first | (rw [decide_eq_true]; omega) | (rw [decide_eq_false]; omega) | rfl | rw [if_pos (by omega)])); simp only [Act.put, spA, spZ, spS]) | (refine ckT_load hS rfl rfl rfl (by simp <;> fail) (by (repeat (first | exact mH _ | apply mT)) <;> fail) rfl (by decide +kernel) ?_; simp only [Act.put, spA, spZ, spS]) | (refine ckT_store hS rfl rfl rfl (by constructor) (by (repeat (first | exact uH _ _ _ | apply uT)) <;> fail) (by simp <;> fail) rfl (by decide +kernel) (by simp <;> fail) ?_; clear hS; intro w hS; simp only [Act.put, spA, spZ, spS] at hS ⊢) )); refine wpT_nil ?_))
                      rw [Exit.noGoto_ret]
                      refine bodyPost_ret (ckRes_cell_tmp hS (cs := segV x) (b := t6) (T := 44) (by (repeat (first | exact mH _ | apply mT)) <;> fail) rfl rfl rfl (by (try simp only [List.length_cons, List.length_nil, Nat.zero_add, Nat.reduceAdd]); decide +kernel)) rfl ?_
                      have j1 := (hS.bring (r := pts t6 (segV x) 44) (by (repeat (first | exact rH _ _ | apply rT)) <;> fail)).drop
                      refine ⟨_, ⟨rfl, ⟨c, fl.set k (some f'), lb, tb, fr, ol, la, n - 1⟩, ?_, rfl, rfl, rfl, rfl⟩, j1⟩
                      show DS.mk ((fl.set k _).map (Option.map FlowA.m)) _ _ _ = _
                      rw [map_set_m, hf']; rfl
                    · obtain rfl : rt = 18446744073709551615 := by
                        rw [← hrt]; unfold rateAt; rw [List.getElem?_eq_none (by omega)]; rfl
                      clear hrt
                      go_wp2_with (first | go_skip | (refine ck_load hS rfl rfl rfl (by (repeat (first | exact mH _ | apply mT)) <;> fail) hlb (by decide +kernel) ?_; simp only [Act.put, spA, spZ, spS]) | (refine ck_load hS rfl rfl rfl (by (repeat (first | exact mH _ | apply mT)) <;> fail) hfp (by decide +kernel) ?_; simp only [Act.put, spA, spZ, spS]) | (refine ck_load hS rfl rfl rfl (by (repeat (first | exact mH _ | apply mT)) <;> fail) rfl (by decide +kernel) ?_; simp only [Act.put, spA, spZ, spS]) | (refine ck_store hS rfl rfl rfl (by constructor) (by (repeat (first | exact uH _ _ _ | apply uT)) <;> fail) (by simp <;> omega) rfl (by decide +kernel) ?_; clear hS; intro w hS; simp only [Act.put, spA, spZ, spS] at hS ⊢) | (go_at_call 51; (with_reducible refine Ct.callU (kH) (by (repeat (first | exact uH _ _ _ | apply uT)) <;> fail) hS ?_) <;> (first | (clear hS; intro w hS) | omega)) | (go_at_call 55; (refine Ct.call2 (kT) (by (repeat (first | exact rH _ _ | apply rT)) <;> fail) (by (repeat (first | exact rH _ _ | apply rT)) <;> fail) hS ?_); clear hS; rintro _ _ w ⟨rfl, rfl⟩ hS; simp only [List.cons_append, List.nil_append] at hS; have hS := hS.perm ((List.Perm.cons _ (List.Perm.swap _ _ _)).trans (.swap _ _ _))) | (have hS0 := oF.2 hS; go_at_call 58; refine Ct.call1 (kS) (by (repeat (first | exact rH _ _ | apply rT)) <;> fail) hS0 ?_; clear hS hS0; rintro _ _ w ⟨rfl, f', hf', rfl⟩ hS; simp only [List.cons_append, List.nil_append] at hS) | (refine ck_storeAll hS rfl rfl rfl rfl (by (repeat (first | exact uH _ _ _ | apply uT)) <;> fail) (by rfl) rfl (by (try simp only [List.length_cons, List.length_nil, Nat.zero_add, Nat.reduceAdd]); decide +kernel) ?_; clear hS; intro w hS; simp only [Act.put, spA, spZ, spS]) | (refine ck_region (fun _ => 0) (fun _ => []) [] hS (by kernel_rfl) (by decide +kernel) ?_ ?_; exact ⟨fun _ _ _ h => h.2, fun _ _ h => h⟩; clear hS; intro w hS _; (repeat (first | (apply wpT_pure rfl rfl; (intro _; go_simp; (try (go_ints; (try go_simp))); (first | (rw [decide_eq_true]; omega) | (rw [decide_eq_false]; omega) | rfl | rw [if_pos (by omega)])); simp only [Act.put, spA, spZ, spS]) | (refine ckT_load hS rfl rfl rfl (by simp <;> fail) (by (repeat (first | exact mH _ | apply mT)) <;> fail) rfl (by decide +kernel) ?_; simp only [Act.put, spA, spZ, spS]) | (refine ckT_store hS rfl rfl rfl (by constructor) (by (repeat (first | exact uH _ _ _ | apply uT)) <;> fail) (by simp <;> fail) rfl (by decide +kernel) (by simp <;> fail) ?_; clear hS; intro w hS; simp only [Act.put, spA, spZ, spS] at hS ⊢) )); refine wpT_nil ?_))
                      rw [Exit.noGoto_ret]
                      refine bodyPost_ret (ckRes_cell_tmp hS (cs := segV x) (b := t6) (T := 44) (by (repeat (first | exact mH _ | apply mT)) <;> fail) rfl rfl rfl (by (try simp only [List.length_cons, List.length_nil, Nat.zero_add, Nat.reduceAdd]); decide +kernel)) rfl ?_
                      have j1 := (hS.bring (r := pts t6 (segV x) 44) (by (repeat (first | exact rH _ _ | apply rT)) <;> fail)).drop
                      refine ⟨_, ⟨rfl, ⟨c, fl.set k (some f'), lb, tb, fr, ol, la, n - 1⟩, ?_, rfl, rfl, rfl, rfl⟩, j1⟩
                      show DS.mk ((fl.set k _).map (Option.map FlowA.m)) _ _ _ = _
                      rw [map_set_m, hf']; rfl
end Go.Proofs.YtcegknecikbbkaaGreat

/- A queue: a flow told. -/
set_option linter.unusedVariables false
set_option linter.unusedSimpArgs false
set_option maxRecDepth 4000
namespace Go.Proofs.YtcegknecikbbkaaGreat
open Go.RowKit
section
variable {P : Program} {w w0 : World} {F : List Nat} {L L0 : List Res} {ops : Array Oper} {Q : Exit → Act → World → Prop} {rest : List Oper} {o : Oper} {a : Act} {t e : TypeId} {x y : Operand} {n m c cap sz : Nat} {xs news : List Value} {ad ax : Option Addr} {v : Value} {blk : Nat → Nat} {conf : Nat → List Nat} {flg : List Nat} {i : Nat}
theorem ckT_callG {f : FuncId} {as' : Array Operand} {ats : Array TypeId} {args : Array Value} {pre post : List Res} (hS : Sep w0 F (pre ++ L) w) (ho : o.op = .call { callee := .value (.func f), args := as', argTypes := ats }) (hC : Ct P f args pre (Gives v post)) (hw : Region.wanted o (yielded ops a.tmps) = true) (hen : ckEnter P f = true)
    (ha : as'.toList.map a.eval = args.toList) (hcf : ∀ j ∈ conf i, ∀ w2, Sep w0 F (post ++ L) w2 → w2.heap[blk j]? = w.heap[blk j]?) (h : ∀ w', Sep w0 F (post ++ L) w' → wpT P ops blk conf flg Q (i + 1) rest (a.put o.dst v) w') : wpT P ops blk conf flg Q i (o :: rest) a w :=
  ckT_enter ho hw hen ha (hC.callG (L := L) hS fun w' hS' => ⟨fun j hj => hcf j hj w' hS', h w' hS'⟩)
theorem ckT_call1N {f : FuncId} {as' : Array Operand} {ats : Array TypeId} {args : Array Value} {r : Res} {post : Value → List Res → Prop} (hS : Sep w0 F L w) (ho : o.op = .call { callee := .value (.func f), args := as', argTypes := ats }) (hC : Ct P f args [r] post) (hr : Rem L r L0) (hw : Region.wanted o (yielded ops a.tmps) = true) (hen : ckEnter P f = true)
    (ha : as'.toList.map a.eval = args.toList) (hcf : ∀ j ∈ conf i, ∃ cs T, pts (blk j) cs T ∈ L0) (h : ∀ v L' w', post v L' → Sep w0 F (L' ++ L0) w' → wpT P ops blk conf flg Q (i + 1) rest (a.put o.dst v) w') : wpT P ops blk conf flg Q i (o :: rest) a w :=
  ckT_enter ho hw hen ha (hC.call (L := L0) (hS.bring hr) fun v L' w' hp hS' => ⟨fun j hj => by
    obtain ⟨cs, T, hm⟩ := hcf j hj
    have k1 := hS'.holds _ (show pts (blk j) cs T ∈ L' ++ L0 by simp [hm])
    have k2 := (hS.bring hr).holds _ (show pts (blk j) cs T ∈ r :: L0 by simp [hm])
    exact Eq.trans k1 (Eq.symm k2), h v L' w' hp hS'⟩)
/-- Of a row that begins anywhere, all, to a row. -/
theorem ck_appO (hS : Sep w0 F L w) (ho : o.op = .call { callee := .builtin .append, args := #[x, y], argTypes := #[t, t] }) (hw : Region.wanted o (yielded ops a.tmps) = true) (hx : a.eval x = .slice ad n cap) (hy : a.eval y = .slice ax m c)
    (hr : Rem L (rowR ad n cap e sz xs) L0) (hm : rowO ax m c e sz news ∈ L) (hone : ∀ u ∈ news, u.oneCell' = true) (hsm : n + m ≤ 1000000000) (ht : ckSlice P t e sz = true) (hsz : 0 < sz) {n' : Nat} (hn' : n + m = n')
    (h : ∀ (ad' : Option Addr) (cap' : Nat) (w' : World), Sep w0 F (rowR ad' n' cap' e sz (xs ++ news) :: L0) w' → wpList P ops Q rest (a.put o.dst (.slice ad' n' cap')) w') : wpList P ops Q (o :: rest) a w := by
  subst hn'
  obtain ⟨hl, -, -⟩ := hS.rowOLen hm
  by_cases h0 : 0 < m
  · obtain ⟨b, off, rfl⟩ := hS.rowOSome hm h0
    have hc : Cel w b off news := hS.celO (k := 0) hm rfl (fun j v hj => by rw [Nat.zero_add]; exact hj)
    obtain ⟨g', cap', w', hrun, h1⟩ := append_any (c := c) hS hr ht hc.cell hl hone h0 hsm 0
    have hrun' : ∀ ty, (Builtin.append_ #[t, t] ty #[.slice ad n cap, .slice (some ⟨b, off, none⟩) m c]).run P w = .ok (.slice (some ⟨g', 0, none⟩) (n + m) cap') w' := fun _ => hrun
    exact wpList_val hw (exec_append ho hx hy hrun') (h _ _ _ h1)
  · obtain rfl : m = 0 := by omega
    obtain rfl : news = [] := List.eq_nil_of_length_eq_zero (by omega)
    have h1 := hS.bring hr
    have hle : n ≤ cap := by
      rcases h1.openRow with ⟨_, rfl, rfl, _⟩ | ⟨_, _, _, _, hle, _⟩
      · omega
      · exact hle
    refine wpList_val hw (exec_append ho hx hy (fun ty => run_appendNo ht hle ty)) (h _ _ _ ?_)
    rw [List.append_nil]; exact h1
theorem ck_build0 (hS : Sep w0 F L w) (ho : o.op = .buildSlice t 0 #[]) (hw : Region.wanted o (yielded ops a.tmps) = true) (ht : ckSlice P t e sz = true)
    (h : ∀ (q : Nat) (w' : World), Sep w0 F (rowR (some ⟨q, 0, none⟩) 0 0 e sz [] :: L) w' → wpList P ops Q rest (a.put o.dst (.slice (some ⟨q, 0, none⟩) 0 0)) w') : wpList P ops Q (o :: rest) a w := by
  obtain ⟨hu, i, z, hi, hz, hs, hb, hzs⟩ := ckSlice.out ht
  have hrun : (execOp a.eval o).run P w = .ok (.value (.slice (some ⟨w.heap.size, 0, none⟩) 0 0)) (w.alloc (.cells #[] e)) := by
    unfold execOp
    simp [ho, Instr.buildSlice, run_underlying hu, sizeOf, typeInfo, hi, hs, zeroValue, hz, Instr.fill, newRow, Result.andThen, Sem.run_bind]
    congr 2
    apply Array.ext <;> simp
  exact wpList_val hw hrun (h _ _ ((hS.alloc [] e).shut [] [] rfl (by simp) (Nat.le_refl _) (by unfold maxLen; omega) (by simp)))
theorem sliceNil_run {d : Nat} {a' : Option Addr} {n' c' : Nat} (hu : P.underlying t = some (.slice e)) : (binOp .eql t (.slice a' n' c') (.slice none 0 0)).run P w = .ok (.bool a'.isNone) w := Lib.run_eql_slice_nil w t e a' n' c' 0 0 hu
theorem ck_sliceNil {a' : Option Addr} {n' c' : Nat} {z : TypeId} (ho : o.op = .binOp .eql t x y z) (hw : Region.wanted o (yielded ops a.tmps) = true) (hx : a.eval x = .slice a' n' c') (hy : a.eval y = .slice none 0 0) (hu : P.underlying t = some (.slice e))
    (h : wpList P ops Q rest (a.put o.dst (.bool a'.isNone)) w) : wpList P ops Q (o :: rest) a w := by
  refine wpList_val hw (v := .bool a'.isNone) (w' := w) ?_ h
  have h3 : (eqGuard .eql t x y (.slice a' n' c') (.slice none 0 0)).run P w = .ok () w := rfl
  have h2 := sliceNil_run (d := 0) (P := P) (w := w) (a' := a') (n' := n') (c' := c') hu
  unfold execOp
  simp only [ho, hx, hy, Sem.run_bind, h2, h3, Result.andThen_ok]
  rfl
end
theorem clone_ct (fa : Option Addr) (m fc : Nat) (l : List SegM) (hm : m ≤ 100000) : Ct Tryz.prog 45 #[.slice fa m fc] [flRow fa m fc l] (fun v L => ∃ ad cp, v = .slice ad m cp ∧ L = [rowR ad m cp 44 5 (sgs l), flRow fa m fc l]) := by
  intro w0 F L w hS
  simp only [List.cons_append, List.nil_append] at hS
  cases fa with
  | none =>
    obtain ⟨rfl, rfl, hl⟩ := hS.holds (flRow none m fc l) (by simp)
    have hnil : ∀ W, (binOp .eql 32 (.slice none 0 0) (.slice none 0 0)).run Tryz.prog W = .ok (.bool true) W := fun W => sliceNil_run (d := 0) (e := 44) (by kernel_rfl)
    go_enter Tryz.func45, Tryz.ntmps45
    go_wp2_with (first | go_skip | (refine ck_sliceNil rfl rfl rfl rfl (by kernel_rfl) ?_; simp only [Act.put, spA, spZ, spS]))
    go_ret
    refine ⟨_, ⟨none, 0, rfl, rfl⟩, ?_⟩
    rw [hl]; exact hS.nilRow
  | some A =>
    have hone : ∀ u ∈ sgs l, u.oneCell' = true := fun u hu => by
      unfold sgs at hu
      obtain ⟨s, _, hs⟩ := List.mem_flatMap.1 hu
      simp at hs
      rcases hs with rfl | rfl | rfl | rfl | rfl <;> rfl
    have hnil : ∀ W, (binOp .eql 32 (.slice (some A) m fc) (.slice none 0 0)).run Tryz.prog W = .ok (.bool false) W := fun W => sliceNil_run (d := 0) (e := 44) (by kernel_rfl)
    go_enter Tryz.func45, Tryz.ntmps45
    go_wp2_with (first | go_skip | (refine ck_build0 (e := 44) (sz := 5) hS rfl rfl (by decide +kernel) ?_; clear hS; intro q w hS; simp only [Act.put, spA, spZ, spS]) | (refine ck_appO (e := 44) (sz := 5) (n' := m) (news := sgs l) hS rfl rfl rfl rfl (by (repeat (first | exact rH _ _ | apply rT)) <;> fail) (by (repeat (first | exact mH _ | apply mT)) <;> fail) hone (by omega) (by decide +kernel) (by omega) (by omega) ?_; clear hS; intro ad cp w hS; rw [List.nil_append] at hS; simp only [Act.put, spA, spZ, spS]))
    go_ret
    exact ⟨_, ⟨ad, cp, rfl, rfl⟩, hS⟩
/-- A flow, as it is told. -/
abbrev tolV (s : Int) (cr pl nx si : Int) (a : Option Addr) (n cp : Nat) : List Value := [.int .i64 s, .int .i64 cr, .int .i64 pl, .int .u64 nx, .int .u64 si, .slice a n cp]
set_option maxHeartbeats 4000000 in
theorem qflowNo_ct (b : Nat) (q : QA) (h8 : q.fl.length = 8) (s : Nat) (hx : q.fl[s]? = some none) : Ct Tryz.prog 21 #[.pointer (some ⟨b, 0, none⟩), .int .i64 s] [queueG b q] (Gives (.tuple #[.agg (tolV 0 0 0 0 0 none 0 0).toArray, .bool false]) [queueG b q]) := by
  have kH := qhas_ct b q h8 s none hx
  rw [show (none : Option FlowA).isSome = false from rfl] at kH
  intro w0 F L w hS
  simp only [List.cons_append, List.nil_append] at hS
  clear hx h8
  go_enter Tryz.func21, Tryz.ntmps21
  go_wp2_with (first | go_skip | (refine ck_storeAll hS rfl rfl rfl rfl (by (repeat (first | exact uH _ _ _ | apply uT)) <;> fail) (by rfl) rfl (by (try simp only [List.length_cons, List.length_nil, Nat.zero_add, Nat.reduceAdd]); decide +kernel) ?_; clear hS; intro w hS; simp only [Act.put, spA, spZ, spS]) | (refine ck_load hS rfl rfl rfl (by (repeat (first | exact mH _ | apply mT)) <;> fail) rfl (by decide +kernel) ?_; simp only [Act.put, spA, spZ, spS]) | (refine ck_store hS rfl rfl rfl (by constructor) (by (repeat (first | exact uH _ _ _ | apply uT)) <;> fail) (by simp <;> omega) rfl (by decide +kernel) ?_; clear hS; intro w hS; simp only [Act.put, spA, spZ, spS] at hS ⊢) | (go_at_call 43; (with_reducible refine Ct.callU (kH) (by (repeat (first | exact uH _ _ _ | apply uT)) <;> fail) hS ?_) <;> (first | (clear hS; intro w hS) | omega)) | (refine ck_alloc (t := 62) (v := .agg (tolV 0 0 0 0 0 none 0 0).toArray) (cs := tolV 0 0 0 0 0 none 0 0) hS rfl rfl (by kernel_rfl) rfl ?_; clear hS; intro r4 w hS; simp only [Act.put, spA, spZ, spS]) | (refine ck_region (fun _ => 0) (fun _ => []) [] hS (by kernel_rfl) (by decide +kernel) ?_ ?_; exact ⟨fun _ _ _ h => h.2, fun _ _ h => h⟩; clear hS; intro w hS _; (repeat (first | (apply wpT_pure rfl rfl; (intro _; go_simp; (try (go_ints; (try go_simp))); (first | (rw [decide_eq_true]; omega) | (rw [decide_eq_false]; omega) | rfl | rw [if_pos (by omega)])); simp only [Act.put, spA, spZ, spS]) | (refine ckT_load hS rfl rfl rfl (by simp <;> fail) (by (repeat (first | exact mH _ | apply mT)) <;> fail) rfl (by decide +kernel) ?_; simp only [Act.put, spA, spZ, spS]) | (refine ckT_store hS rfl rfl rfl (by constructor) (by (repeat (first | exact uH _ _ _ | apply uT)) <;> fail) (by simp <;> fail) rfl (by decide +kernel) (by simp <;> fail) ?_; clear hS; intro w hS; simp only [Act.put, spA, spZ, spS] at hS ⊢) )); refine wpT_nil ?_))
  refine bodyPost_ret (ckRes_cell_tmp hS (cs := tolV 0 0 0 0 0 none 0 0) (b := r4) (T := 62) (by (repeat (first | exact mH _ | apply mT)) <;> fail) rfl rfl rfl (by (try simp only [List.length_cons, List.length_nil, Nat.zero_add, Nat.reduceAdd]); decide +kernel)) rfl ?_
  have j1 := (hS.bring (r := pts r4 (tolV 0 0 0 0 0 none 0 0) 62) (by (repeat (first | exact rH _ _ | apply rT)) <;> fail)).drop
  exact ⟨_, ⟨rfl, rfl⟩, j1⟩
set_option maxHeartbeats 8000000 in
theorem qflowOk_ct (b : Nat) (q : QA) (h8 : q.fl.length = 8) (s fb fc : Nat) (cr nx si : Int) (l : List SegM) (fa : Option Addr) (hx : q.fl[s]? = some (some ⟨fb, ⟨cr, nx, si, l⟩, fa, fc⟩)) (hsm : q.fr.length + q.ol.length ≤ 1000) (hm5 : l.length ≤ 100000) :
    Ct Tryz.prog 21 #[.pointer (some ⟨b, 0, none⟩), .int .i64 s] [queueG b q]
      (fun v L => ∃ ad cp, v = .tuple #[.agg (tolV s cr (placeZ q.fr q.ol (some ⟨fb, ⟨cr, nx, si, l⟩, fa, fc⟩) s) nx si ad l.length cp).toArray, .bool true] ∧ L = [rowR ad l.length cp 44 5 (sgs l), queueG b q]) := by
  have kH := qhas_ct b q h8 s _ hx
  have kP := qplace_ct b q h8 s _ hx hsm
  rw [show (some (⟨fb, ⟨cr, nx, si, l⟩, fa, fc⟩ : FlowA)).isSome = true from rfl] at kH
  generalize placeZ q.fr q.ol (some ⟨fb, ⟨cr, nx, si, l⟩, fa, fc⟩) s = pz at *
  obtain ⟨c, fl, lb, tb, fr, ol, la, n⟩ := q
  dsimp only at *
  have hs : s < 8 := by have := (List.getElem?_eq_some_iff.1 hx).1; omega
  have hfp : (qC c fl lb tb n)[9 + s]? = some (.pointer (some ⟨fb, 0, none⟩)) := qC_f (c := c) (lb := lb) (tb := tb) (n := n) hx
  obtain ⟨m, hm⟩ : ∃ m, l.length = m := ⟨_, rfl⟩
  rw [hm] at hm5 ⊢
  have kC := clone_ct fa m fc l hm5
  have oF := fun {w0 w : World} {F : List Nat} {L : List Res} => queueOpenF (b := b) (c := c) (lb := lb) (tb := tb) (fr := fr) (ol := ol) (la := la) (n := n) (w0 := w0) (w := w) (F := F) (L := L) hx hm
  intro w0 F L w hS
  simp only [List.cons_append, List.nil_append] at hS
  clear hx hm
  go_enter Tryz.func21, Tryz.ntmps21
  go_wp2_with (first | go_skip | (refine ck_load hS rfl rfl rfl (by (repeat (first | exact mH _ | apply mT)) <;> fail) hfp (by decide +kernel) ?_; simp only [Act.put, spA, spZ, spS]) | (refine ck_storeAll hS rfl rfl rfl rfl (by (repeat (first | exact uH _ _ _ | apply uT)) <;> fail) (by rfl) rfl (by (try simp only [List.length_cons, List.length_nil, Nat.zero_add, Nat.reduceAdd]); decide +kernel) ?_; clear hS; intro w hS; simp only [Act.put, spA, spZ, spS]) | (refine ck_load hS rfl rfl rfl (by (repeat (first | exact mH _ | apply mT)) <;> fail) rfl (by decide +kernel) ?_; simp only [Act.put, spA, spZ, spS]) | (refine ck_store hS rfl rfl rfl (by constructor) (by (repeat (first | exact uH _ _ _ | apply uT)) <;> fail) (by simp <;> omega) rfl (by decide +kernel) ?_; clear hS; intro w hS; simp only [Act.put, spA, spZ, spS] at hS ⊢) | (go_at_call 43; (refine Ct.callU (kH) (by (repeat (first | exact uH _ _ _ | apply uT)) <;> fail) hS ?_); clear hS; intro w hS0; have hS := oF.1 (hS0.bring (r := queueG b ⟨c, fl, lb, tb, fr, ol, la, n⟩) (by (repeat (first | exact rH _ _ | apply rT)) <;> fail)); clear hS0) | (refine ck_alloc (t := 62) (v := .agg (tolV 0 0 0 0 0 none 0 0).toArray) (cs := tolV 0 0 0 0 0 none 0 0) hS rfl rfl (by kernel_rfl) rfl ?_; clear hS; intro r4 w hS; simp only [Act.put, spA, spZ, spS]) | (refine ck_region (fun _ => 0) (fun _ => []) [] hS (by kernel_rfl) (by decide +kernel) ?_ ?_; exact ⟨fun _ _ _ h => h.2, fun _ _ h => h⟩; clear hS; intro w hS _; (repeat (first | (apply wpT_pure rfl rfl; (intro _; go_simp; (try (go_ints; (try go_simp))); (first | (rw [decide_eq_true]; omega) | (rw [decide_eq_false]; omega) | rfl | rw [if_pos (by omega)])); simp only [Act.put, spA, spZ, spS]) | (refine ckT_load hS rfl rfl rfl (by simp <;> fail) (by (repeat (first | exact mH _ | apply mT)) <;> fail) rfl (by decide +kernel) ?_; simp only [Act.put, spA, spZ, spS]) | (refine ckT_store hS rfl rfl rfl (by constructor) (by (repeat (first | exact uH _ _ _ | apply uT)) <;> fail) (by simp <;> fail) rfl (by decide +kernel) (by simp <;> fail) ?_; clear hS; intro w hS; simp only [Act.put, spA, spZ, spS] at hS ⊢) )); refine wpT_nil ?_) | (refine ck_region (fun _ => fb) (fun i => if i = 7 then [4, 11, 15, 19] else if i = 20 then [4, 11, 15] else []) ([4, 11, 15, 19]) hS (by kernel_rfl) (by decide +kernel) ?_ ?_; exact ⟨fun _ _ _ h => h.2, fun _ _ h => h⟩; clear hS; intro w hS _; (repeat (first | (apply wpT_pure rfl rfl; (intro _; go_simp; (try (go_ints; (try go_simp))); (first | (rw [decide_eq_true]; omega) | (rw [decide_eq_false]; omega) | rfl | rw [if_pos (by omega)])); simp only [Act.put, spA, spZ, spS]) | (refine ckT_load hS rfl rfl rfl (by simp <;> fail) (by (repeat (first | exact mH _ | apply mT)) <;> fail) rfl (by decide +kernel) ?_; simp only [Act.put, spA, spZ, spS]) | (refine ckT_store hS rfl rfl rfl (by constructor) (by (repeat (first | exact uH _ _ _ | apply uT)) <;> fail) (by simp <;> fail) rfl (by decide +kernel) (by simp <;> fail) ?_; clear hS; intro w hS; simp only [Act.put, spA, spZ, spS] at hS ⊢) | (refine ckT_callG (oF.2 hS) rfl kP rfl (by kernel_rfl) rfl (fun j _ w2 h2 => ((oF.1 h2).holds (flP fb cr nx si fa m fc) (by (repeat (first | exact mH _ | apply mT)) <;> fail)).trans (hS.holds (flP fb cr nx si fa m fc) (by (repeat (first | exact mH _ | apply mT)) <;> fail)).symm) ?_; clear hS; intro w hS0; have hS := oF.1 hS0; clear hS0; simp only [Act.put, spA, spZ, spS]) | (refine ckT_call1N hS rfl kC (by (repeat (first | exact rH _ _ | apply rT)) <;> fail) rfl (by kernel_rfl) rfl (fun j _ => ⟨_, _, ((by (repeat (first | exact mH _ | apply mT)) <;> fail) : flP fb cr nx si fa m fc ∈ _)⟩) ?_; clear hS; rintro _ _ w ⟨ad, cp, rfl, rfl⟩ hS; simp only [List.cons_append, List.nil_append] at hS; simp only [Act.put, spA, spZ, spS]) | (refine ckT_storeAll hS rfl rfl rfl rfl (by (repeat (first | exact uH _ _ _ | apply uT)) <;> fail) (by rfl) rfl (by (try simp only [List.length_cons, List.length_nil, Nat.zero_add, Nat.reduceAdd]); decide +kernel) (by simp <;> fail) ?_; clear hS; intro w hS; simp only [Act.put, spA, spZ, spS]))); refine wpT_nil ?_))
  refine bodyPost_ret (ckRes_cell_tmp hS (cs := tolV s cr pz nx si ad m cp) (b := r4) (T := 62) (by (repeat (first | exact mH _ | apply mT)) <;> fail) rfl rfl rfl (by (try simp only [List.length_cons, List.length_nil, Nat.zero_add, Nat.reduceAdd]); decide +kernel)) rfl ?_
  have j1 := (hS.bring (r := pts r4 (tolV s cr pz nx si ad m cp) 62) (by (repeat (first | exact rH _ _ | apply rT)) <;> fail)).drop
  have j2 := j1.bring (r := lstG lb fr ol la) (by (repeat (first | exact rH _ _ | apply rT)) <;> fail)
  have j3 := j2.bring (r := flowsR (fl.set s none)) (by (repeat (first | exact rH _ _ | apply rT)) <;> fail)
  have j4 := j3.bring (r := flRow fa m fc l) (by (repeat (first | exact rH _ _ | apply rT)) <;> fail)
  have j5 := j4.bring (r := flP fb cr nx si fa m fc) (by (repeat (first | exact rH _ _ | apply rT)) <;> fail)
  have j6 := j5.bring (r := qP b c fl lb tb n) (by (repeat (first | exact rH _ _ | apply rT)) <;> fail)
  exact ⟨_, ⟨ad, cp, rfl, rfl⟩, (oF.2 j6).perm (.swap _ _ _)⟩
end Go.Proofs.YtcegknecikbbkaaGreat

/- A region that draws its order, and some of whose acts no edge orders (calls among them): a tree of orders suffices. -/
set_option linter.unusedVariables false
set_option linter.unusedSimpArgs false
namespace Go.Proofs.YtcegknecikbbkaaGreat
open Go.RowKit
section
variable {P : Program} {ops : Array Oper} {Q : Exit → Act → World → Prop} {blk : Nat → Nat} {conf : Nat → List Nat} {flg : List Nat}
inductive OTree where
  | done
  | op (i : Nat) (t : OTree)
  | br (i : Nat) (t : OTree) (j : Nat) (u : OTree)
def OTree.depth : OTree → Nat
  | .done => 0
  | .op _ t => t.depth + 1
  | .br _ t _ _ => t.depth + 1
def OTree.seg : List Nat → OTree → OTree
  | [], t => t
  | i :: l, t => .op i (OTree.seg l t)
def wpG (P : Program) (ops : Array Oper) (blk : Nat → Nat) (conf : Nat → List Nat) (flg : List Nat) (Q : Exit → Act → World → Prop) : OTree → Act → World → Prop
  | .done, a, w => Q .normal a w
  | .op i t, a, w => xOp P ops blk conf flg Q i (wpG P ops blk conf flg Q t) a w
  | .br i t j u, a, w => xOp P ops blk conf flg Q i (wpG P ops blk conf flg Q t) a w ∧ xOp P ops blk conf flg Q j (wpG P ops blk conf flg Q u) a w
def okG (ops : Array Oper) (conf : Nat → List Nat) (flg : List Nat) : Array Bool → OTree → Bool
  | listed, .done => (Region.ready .any ops listed).isEmpty
  | listed, .op i t => (Region.ready .any ops listed).contains i && ((List.range ops.size).all fun j => listed.getD j true || j == i || ((Region.before ops).getD j 0).testBit i || pairOk ops conf flg i j) && okG ops conf flg (listed.setIfInBounds i true) t
  | listed, .br i t j u => (Region.ready .any ops listed).contains i && ((Region.ready .any ops listed).all fun k => k == i || k == j) && decide (t.depth = u.depth) && okG ops conf flg (listed.setIfInBounds i true) t && okG ops conf flg (listed.setIfInBounds j true) u
theorem anyX_firstG {i : Nat} (hQ : OnlyEnd Q) (hsel : Region.noSelect ops = true) (hms : masksOk ops (Region.before ops) = true) : ∀ (fuel : Nat) (listed : Array Bool) (a : Act) (w : World),
    Closed ops listed → i ∈ Region.ready .any ops listed → (∀ j, j < ops.size → listed.getD j true = false → j ≠ i → ((Region.before ops).getD j 0).testBit i = true ∨ pairOk ops conf flg i j = true) →
    xOp P ops blk conf flg Q i (anyX P ops blk conf flg Q fuel (listed.setIfInBounds i true)) a w → anyX P ops blk conf flg Q (fuel + 1) listed a w := by
  intro fuel
  induction fuel with
  | zero =>
    intro listed a w _ hr _ h
    refine ⟨fun h0 => (by rw [h0] at hr; cases hr), fun j hj => ?_⟩
    by_cases hji : j = i
    · subst hji; exact h
    · obtain ⟨a', w', h1, _⟩ := xOp_some hQ h
      have := ready_mono hj hji
      rw [h1] at this; cases this
  | succ fuel ih =>
    intro listed a w hcl hr hpair h
    refine ⟨fun h0 => (by rw [h0] at hr; cases hr), fun j hj => ?_⟩
    by_cases hji : j = i
    · subst hji; exact h
    · obtain ⟨hjun, oj, hoj, _⟩ := mem_ready.1 hj
      obtain ⟨hiun, oi, hoi, _⟩ := mem_ready.1 hr
      have hjs : j < ops.size := (Array.getElem?_eq_some_iff.1 hoj).1
      have hp : pairOk ops conf flg i j = true := by
        rcases hpair j hjs hjun hji with h2 | h2
        · have := ready_bit hms hcl hj h2
          have his : i < listed.size := by
            rcases Nat.lt_or_ge i listed.size with h' | h'
            · exact h'
            · simp [Array.getElem?_eq_none h'] at this
          simp [his] at this hiun
          rw [hiun] at this; cases this
        · exact h2
      have h1 : xOp P ops blk conf flg Q i (fun a' w' => xOp P ops blk conf flg Q j (anyX P ops blk conf flg Q fuel ((listed.setIfInBounds i true).setIfInBounds j true)) a' w') a w :=
        xOp_mono (fun a' w' h' => h'.2 j (ready_mono hj hji)) h
      have h2 := xOp_swap hoi hoj (fun cs b => Region.noSelect_spec hsel i oi cs b hoi) (fun cs b => Region.noSelect_spec hsel j oj cs b hoj) hQ hp h1
      refine xOp_mono (fun a' w' h' => ?_) h2
      refine ih (listed.setIfInBounds j true) a' w' (hcl.step hj) (ready_mono hr (Ne.symm hji)) (fun k hks hk hki => ?_) ?_
      · by_cases hjk : j = k
        · subst hjk
          exact .inr hp
        · rw [getD_set_ne true hjk] at hk; exact hpair k hks hk hki
      · rw [Array.setIfInBounds_comm _ _ hji]; exact h'
theorem anyX_tree (hQ : OnlyEnd Q) (hsel : Region.noSelect ops = true) (hms : masksOk ops (Region.before ops) = true) : ∀ (t : OTree) (listed : Array Bool) (a : Act) (w : World), Closed ops listed → okG ops conf flg listed t = true →
    wpG P ops blk conf flg Q t a w → anyX P ops blk conf flg Q t.depth listed a w
  | .done, listed, a, w, _, hok, h => ⟨List.isEmpty_iff.1 hok, h⟩
  | .op i t, listed, a, w, hcl, hok, h => by
    unfold okG at hok
    simp only [Bool.and_eq_true, List.all_eq_true, List.mem_range, Bool.or_eq_true, beq_iff_eq, List.contains_iff_mem] at hok
    obtain ⟨⟨h1, h2⟩, h3⟩ := hok
    refine anyX_firstG hQ hsel hms _ listed a w hcl h1 (fun j hj hl hne => ?_) (xOp_mono (fun a w h => anyX_tree hQ hsel hms t _ a w (hcl.step h1) h3 h) h)
    rcases h2 j hj with ((h | h) | h) | h
    · rw [hl] at h; cases h
    · exact absurd h hne
    · exact .inl h
    · exact .inr h
  | .br i t j u, listed, a, w, hcl, hok, h => by
    unfold okG at hok
    simp only [Bool.and_eq_true, List.all_eq_true, Bool.or_eq_true, beq_iff_eq, List.contains_iff_mem, decide_eq_true_eq] at hok
    obtain ⟨⟨⟨⟨h1, h2⟩, hd⟩, h3⟩, h4⟩ := hok
    refine ⟨fun h0 => (by rw [h0] at h1; cases h1), fun k hk => ?_⟩
    rcases h2 k hk with rfl | rfl
    · exact xOp_mono (fun a w h => anyX_tree hQ hsel hms t _ a w (hcl.step hk) h3 h) h.1
    · have e : t.depth = u.depth := hd
      show xOp P ops blk conf flg Q k (anyX P ops blk conf flg Q t.depth _) a w
      rw [e]
      exact xOp_mono (fun a w h => anyX_tree hQ hsel hms u _ a w (hcl.step hk) h4 h) h.2
/-- What goes on behind one operation. -/
def QK (K : Act → World → Prop) : Exit → Act → World → Prop := fun e a w => match e with | .normal => K a w | _ => False
theorem xOp_of_T {i : Nat} {o : Oper} (ho : ops[i]? = some o) {K : Act → World → Prop} {a : Act} {w : World} (h : wpT P ops blk conf flg (QK K) i [o] a w) : xOp P ops blk conf flg Q i K a w := by
  unfold wpT at h
  by_cases hc : ckCls o = 2
  · rw [if_pos hc] at h
    rw [xOp_act ho hc]
    split
    · rename_i hw
      rw [if_pos hw] at h
      unfold Oper.wp at *
      generalize (execOp a.eval o).run P w = r at *
      cases r with
      | ok n w' =>
        cases n with
        | enter f args =>
          refine Calls.mono (R := fun e w'' => match e, w'' with
            | .returned v, w'' => (fun a' w' => (∀ j ∈ conf i, w'.heap[blk j]? = w.heap[blk j]?) ∧ wpT P ops blk conf flg (QK K) (i + 1) [] a' w') (a.put o.dst v) w''
            | .panicked chain, w'' => QK K (.panic chain) a w''
            | .outgrown, _ => LetsOut (QK K)) h ?_
          intro e w2 he
          cases e with
          | returned v => exact he
          | panicked c => exact False.elim he
          | outgrown => obtain ⟨_, _, h⟩ := he; exact False.elim h
        | row r args => exact h
        | value v => exact h
        | skip => exact h
        | defer d => exact h
        | _ => exact h
      | halt x w' =>
        cases x with
        | panic v => exact False.elim h
        | _ => exact h
    · rename_i hw
      rw [if_neg hw] at h
      exact h
  · rw [if_neg hc] at h
    rw [xOp_quiet ho hc]
    exact h
variable {w0 w : World} {F : List Nat} {L : List Res} {a : Act}
theorem wpG_op {i : Nat} {o : Oper} {t : OTree} (ho : ops[i]? = some o) (h : wpT P ops blk conf flg (QK (wpG P ops blk conf flg Q t)) i [o] a w) : wpG P ops blk conf flg Q (.op i t) a w := xOp_of_T ho h
theorem wpG_br {i j : Nat} {oi oj : Oper} {t u : OTree} (hi : ops[i]? = some oi) (hj : ops[j]? = some oj) (h1 : wpT P ops blk conf flg (QK (wpG P ops blk conf flg Q t)) i [oi] a w) (h2 : wpT P ops blk conf flg (QK (wpG P ops blk conf flg Q u)) j [oj] a w) : wpG P ops blk conf flg Q (.br i t j u) a w := ⟨xOp_of_T hi h1, xOp_of_T hj h2⟩
theorem wpG_opL {l : List Oper} {i : Nat} {o : Oper} {t : OTree} (ho : l[i]? = some o) (h : wpT P l.toArray blk conf flg (QK (wpG P l.toArray blk conf flg Q t)) i [o] a w) : wpG P l.toArray blk conf flg Q (.op i t) a w := xOp_of_T (by simpa using ho) h
theorem wpG_brL {l : List Oper} {i j : Nat} {oi oj : Oper} {t u : OTree} (hi : l[i]? = some oi) (hj : l[j]? = some oj) (h1 : wpT P l.toArray blk conf flg (QK (wpG P l.toArray blk conf flg Q t)) i [oi] a w) (h2 : wpT P l.toArray blk conf flg (QK (wpG P l.toArray blk conf flg Q u)) j [oj] a w) : wpG P l.toArray blk conf flg Q (.br i t j u) a w := ⟨xOp_of_T (by simpa using hi) h1, xOp_of_T (by simpa using hj) h2⟩
theorem wpG_nil {t : OTree} {i : Nat} (h : wpG P ops blk conf flg Q t a w) : wpT P ops blk conf flg (QK (wpG P ops blk conf flg Q t)) i [] a w := h
theorem wpG_done (h : Q .normal a w) : wpG P ops blk conf flg Q .done a w := h
theorem closed_none : Closed ops (Array.replicate ops.size false) := by
  intro j o ho hl
  rw [Array.getD_eq_getD_getElem?] at hl
  by_cases h : j < ops.size
  · simp [h] at hl
  · simp [h] at hl
theorem ck_tree {id : Nat} {l : List Oper} (t : OTree) (blk : Nat → Nat) (conf : Nat → List Nat) (flg : List Nat) (hS : Sep w0 F L w) (hm : P.follows .mixedOrders = true)
    (hok : (Region.noSelect l.toArray && masksOk l.toArray (Region.before l.toArray) && decide (t.depth = l.length) && okG l.toArray conf flg (Array.replicate l.length false) t) = true) (hQ : OnlyEnd Q)
    (h : ∀ w', Sep w0 F L w' → (∀ b : Nat, w'.heap[b]? = w.heap[b]?) → wpG P l.toArray blk conf flg Q t a w') : (Code.region id l.toArray true).wp P Q a w := by
  simp only [Bool.and_eq_true, decide_eq_true_eq] at hok
  obtain ⟨⟨⟨h1, h2⟩, h3⟩, h4⟩ := hok
  refine wp_region_any hm (wpAny_of_anyX (blk := blk) (conf := conf) (flg := flg) _ _ _ _ ?_)
  have h5 := anyX_tree (P := P) (Q := Q) (blk := blk) (conf := conf) (flg := flg) hQ h1 h2 t (Array.replicate l.length false) a w.drew (by have := closed_none (ops := l.toArray); simpa using this) h4 (h _ hS.drew (fun _ => rfl))
  rw [h3] at h5
  simpa using h5
end
end Go.Proofs.YtcegknecikbbkaaGreat

/- Resources, picked out of a list in any order; groups laid open. -/
set_option linter.unusedVariables false
set_option linter.unusedSimpArgs false
namespace Go.Proofs.YtcegknecikbbkaaGreat
open Go.RowKit
section
variable {w0 w : World} {F : List Nat} {L L' L0 M : List Res} {r r' : Res} {P : Program}
/-- All of the second list stands in the first one; what is left over is dropped. -/
inductive Pick : List Res → List Res → Prop
  | refl (L : List Res) : Pick L L
  | take {S S' M : List Res} {r : Res} : Rem S r S' → Pick S' M → Pick S (r :: M)
  | drop {S M : List Res} {r : Res} : Pick S M → Pick (r :: S) M
theorem Sep.pick {S M : List Res} (h : Sep w0 F S w) (p : Pick S M) : Sep w0 F M w := by
  induction p generalizing F with
  | refl => exact h
  | take hr _ ih => 
    rename_i S S' M r hp
    have h1 := h.bring hr
    -- r is kept aside az a frame of its own
    have key : ∀ (A : List Res), Sep w0 F (A ++ S') w → Sep w0 F (A ++ M) w := by
      clear h h1 hr ih
      induction hp with
      | refl => intro A h; exact h
      | take hr _ ih2 =>
        rename_i S S' M r hp2
        intro A h
        have h2 : Sep w0 F ((A ++ [r]) ++ S') w := by
          rw [List.append_assoc]; exact h.perm (List.Perm.append_left _ hr.perm)
        have h3 := ih2 (A ++ [r]) h2
        rw [List.append_assoc] at h3
        exact h3
      | drop _ ih2 =>
        rename_i S M r hp2
        intro A h
        exact ih2 A ((h.perm (List.perm_middle (l₁ := A) (a := r) (l₂ := S))).drop)
    exact key [r] h1
  | drop _ ih => exact ih h.drop
/-- A list of resources taken out of another one. -/
inductive Takes : List Res → List Res → List Res → Prop
  | nil (L : List Res) : Takes L [] L
  | cons {L L1 L2 : List Res} {r : Res} {pre : List Res} : Rem L r L1 → Takes L1 pre L2 → Takes L (r :: pre) L2
theorem Takes.perm {pre : List Res} (h : Takes L pre L') : L.Perm (pre ++ L') := by
  induction h with
  | nil => exact .refl _
  | cons hr _ ih => exact hr.perm.trans (ih.cons _)
theorem Ct.callP {f : FuncId} {args : Array Value} {pre : List Res} {post : Value → List Res → Prop} (h : Ct P f args pre post) (ht : Takes L pre L0) (hS : Sep w0 F L w)
    {R : Ending → World → Prop} (hR : ∀ v L' w', post v L' → Sep w0 F (L' ++ L0) w' → R (.returned v) w') : Calls P f args w R :=
  h.call (hS.perm ht.perm) hR
/-- With a group laid open. -/
theorem Ct.open {f : FuncId} {args : Array Value} {l pre : List Res} {post : Value → List Res → Prop} (h : Ct P f args (grpR l :: pre) post) : Ct P f args (l ++ pre) post :=
  fun w0 F L w hS => h w0 F L w (by rw [List.append_assoc] at hS; exact Sep.grp.1 hS)
theorem Ct.shut {f : FuncId} {args : Array Value} {l pre : List Res} {post : Value → List Res → Prop} (h : Ct P f args (l ++ pre) post) : Ct P f args (grpR l :: pre) post :=
  fun w0 F L w hS => h w0 F L w (by rw [List.append_assoc]; exact Sep.grp.2 hS)
theorem Ct.post {f : FuncId} {args : Array Value} {pre : List Res} {v0 : Value} {l l' : List Res} (h : Ct P f args pre (Gives v0 l)) (hp : ∀ {w0 w : World} {F : List Nat} {L : List Res}, Sep w0 F (l ++ L) w → Sep w0 F (l' ++ L) w) : Ct P f args pre (Gives v0 l') :=
  fun w0 F L w hS => (h w0 F L w hS).mono fun e w' hr => by
    cases e with
    | returned v =>
      obtain ⟨L', ⟨hv, rfl⟩, hs⟩ := hr
      exact ⟨_, ⟨hv, rfl⟩, hp hs⟩
    | panicked c => exact hr.elim
    | outgrown => exact hr.elim
theorem Ct.pre {f : FuncId} {args : Array Value} {pre pre' : List Res} {post : Value → List Res → Prop} (h : Ct P f args pre post) (hp : ∀ {w0 w : World} {F : List Nat} {L : List Res}, Sep w0 F (pre' ++ L) w → Sep w0 F (pre ++ L) w) : Ct P f args pre' post :=
  fun w0 F L w hS => h w0 F L w (hp hS)
section
variable {ops : Array Oper} {Q : Exit → Act → World → Prop} {rest : List Oper} {o : Oper} {a : Act} {v : Value} {blk : Nat → Nat} {conf : Nat → List Nat} {flg : List Nat} {i : Nat}
/-- A call in a region that draws its order: what it owns is taken out of the list; the blocks of its conflicts stand in what is left, or are given back as they were. -/
theorem ckT_callP {f : FuncId} {as' : Array Operand} {ats : Array TypeId} {args : Array Value} {pre : List Res} {post : Value → List Res → Prop} (hS : Sep w0 F L w) (ho : o.op = .call { callee := .value (.func f), args := as', argTypes := ats }) (hC : Ct P f args pre post) (ht : Takes L pre L0) (hw : Region.wanted o (yielded ops a.tmps) = true) (hen : ckEnter P f = true)
    (ha : as'.toList.map a.eval = args.toList) (hcf : ∀ j ∈ conf i, (blk j < w0.heap.size ∧ blk j ∉ F) ∨ ∃ cs T, pts (blk j) cs T ∈ L ∧ ∀ v L', post v L' → pts (blk j) cs T ∈ L' ++ L0) (h : ∀ v L' w', post v L' → Sep w0 F (L' ++ L0) w' → wpT P ops blk conf flg Q (i + 1) rest (a.put o.dst v) w') : wpT P ops blk conf flg Q i (o :: rest) a w :=
  ckT_enter ho hw hen ha (hC.callP ht hS fun v L' w' hp hS' => ⟨fun j hj => by
    rcases hcf j hj with ⟨h1, h2⟩ | ⟨cs, T, h1, h2⟩
    · exact (hS'.frame _ h1 h2).trans (hS.frame _ h1 h2).symm
    · exact Eq.trans (hS'.holds _ (h2 v L' hp)) (Eq.symm (hS.holds _ h1)), h v L' w' hp hS'⟩)
/-- Behind all orders of a tree the same is known. -/
def QM (A : Nat → Act) (S : Nat → World → Prop) : Exit → Act → World → Prop := fun e a w => e = .normal ∧ ∃ r, a = A r ∧ S r w
theorem QM_only {A : Nat → Act} {S : Nat → World → Prop} : OnlyEnd (QM A S) := ⟨fun c a w h => (by have h1 := h.1; cases h1), fun a w h => (by have h1 := h.1; cases h1)⟩
theorem ck_treeM {id : Nat} {l : List Oper} (A : Nat → Act) (S : Nat → World → Prop) (t : OTree) (blk : Nat → Nat) (conf : Nat → List Nat) (flg : List Nat) (hS : Sep w0 F L w) (hm : P.follows .mixedOrders = true)
    (hok : (Region.noSelect l.toArray && masksOk l.toArray (Region.before l.toArray) && decide (t.depth = l.length) && okG l.toArray conf flg (Array.replicate l.length false) t) = true)
    (h : ∀ w', Sep w0 F L w' → (∀ b : Nat, w'.heap[b]? = w.heap[b]?) → wpG P l.toArray blk conf flg (QM A S) t a w') (hc : ∀ r w', S r w' → Q .normal (A r) w') : (Code.region id l.toArray true).wp P Q a w :=
  Code.wp_mono (fun e a w h => by obtain ⟨rfl, r, rfl, hs⟩ := h; exact hc r w hs) (ck_tree t blk conf flg hS hm hok QM_only h)
end
end
end Go.Proofs.YtcegknecikbbkaaGreat

/- Enqueue, told by what a queue holds alone. -/
set_option linter.unusedVariables false
set_option linter.unusedSimpArgs false
set_option maxRecDepth 4000
namespace Go.Proofs.YtcegknecikbbkaaGreat
open Go.RowKit
def segsM (x : Option FlowM) : List SegM := match x with | none => [] | some f => f.segs
def placeM (fr ol : List Int) (x : Option FlowM) (s : Int) : Int := if plZ fr ol s = 0 then (if (segsM x).isEmpty then 0 else 3) else plZ fr ol s
def idleM (fr ol : List Int) (x : Option FlowM) (s long now : Int) : Bool := match x with
  | none => false
  | some f => decide (placeM fr ol (some f) s = 0) && decide (satAdd f.since long ≤ now)
def colM (fr ol : List Int) (now : Int) (fm : List (Option FlowM)) : List (Option FlowM) := fm.mapIdx fun i x => if idleM fr ol x i 3000000000 now then none else x
def fateM (c : CfgM) (x : Option FlowM) (n stamp now : Int) : Int :=
  if c.limit ≤ n then 2 else if x.isSome ∧ c.flowLimit ≤ ((segsM x).length : Int) then 3 else if satAdd now c.horizon < stamp ∧ c.dropH = true then 4 else 0
def wakeM (c : CfgM) (fr ol : List Int) (x : Option FlowM) (s : Int) (now : Int) : FlowM := match x with
  | none => ⟨c.first, 0, 0, []⟩
  | some f => if placeM fr ol (some f) s = 0 then { f with credit := if idleM fr ol (some f) s 40000000 now then max f.credit c.quantum else f.credit, since := 0 } else f
def enqM (c : CfgM) (ds : DS) (sg : SegM) (now : Int) : Int × DS :=
  let fm := colM ds.fr ds.ol now ds.fm
  let x := (fm[sg.sock.toNat]?).getD none
  if fateM c x ds.n sg.stamp now = 0 then
    let f := wakeM c ds.fr ds.ol x sg.sock now
    (0, ⟨fm.set sg.sock.toNat (some { f with segs := f.segs ++ [{ sg with stamp := min sg.stamp (satAdd now c.horizon) }] }), if placeM ds.fr ds.ol x sg.sock = 0 then ds.fr ++ [sg.sock] else ds.fr, ds.ol, ds.n + 1⟩)
  else (fateM c x ds.n sg.stamp now, ⟨fm, ds.fr, ds.ol, ds.n⟩)
theorem placeZ_m {fr ol : List Int} {x : Option FlowA} {s : Int} : placeZ fr ol x s = placeM fr ol (x.map FlowA.m) s := by cases x <;> rfl
theorem idleZ_m {fr ol : List Int} {x : Option FlowA} {s long now : Int} : idleZ fr ol x s long now = idleM fr ol (x.map FlowA.m) s long now := by
  cases x with
  | none => rfl
  | some f => show (decide (placeZ fr ol (some f) s = 0) && _) = _; rw [placeZ_m]; rfl
theorem fateZ_m {c : CfgM} {x : Option FlowA} {n stamp now : Int} : fateZ c x n stamp now = fateM c (x.map FlowA.m) n stamp now := by cases x <;> rfl
theorem wakeF_m {c : CfgM} {fr ol : List Int} {x : Option FlowA} {s : Nat} {now : Int} : wakeF c fr ol x s now = wakeM c fr ol (x.map FlowA.m) s now := by
  cases x with
  | none => rfl
  | some f =>
    show (if placeZ fr ol (some f) s = 0 then (⟨if idleZ fr ol (some f) s 40000000 now then max f.m.credit c.quantum else f.m.credit, f.m.next, 0, f.m.segs⟩ : FlowM) else f.m) = _
    rw [placeZ_m, idleZ_m]; rfl
theorem colN_m {fr ol : List Int} {now : Int} {fl : List (Option FlowA)} (h : fl.length = 8) : (colN fr ol now 8 fl).map (Option.map FlowA.m) = colM fr ol now (fl.map (Option.map FlowA.m)) := by
  unfold colN colM
  apply List.ext_getElem?
  intro i
  simp only [List.getElem?_map, List.getElem?_mapIdx]
  cases hx : fl[i]? with
  | none => rfl
  | some x =>
    have hi : i < 8 := by have := (List.getElem?_eq_some_iff.1 hx).1; omega
    simp only [Option.map_some, if_pos hi]
    unfold colOne
    rw [idleZ_m]
    split <;> rfl
/-- Whoever is in a list is a flow. -/
def dIn (ds : DS) : Prop := ∀ s, s ∈ ds.fr ∨ s ∈ ds.ol → ∃ F, ds.fm[s.toNat]? = some (some F)
structure segOk (s : SegM) : Prop where
  k0 : 0 ≤ s.sock
  k8 : s.sock < 8
  l0 : 1 ≤ s.len
  l1 : s.len ≤ 65536
set_option maxHeartbeats 1000000 in
theorem qenq_ct (b : Nat) (q : QA) (sg : SegM) (now : Int) (hok : dOk (absQ q)) (hin : dIn (absQ q)) (hsg : segOk sg) (n0 : 0 ≤ now) (n1 : now ≤ 18446744073709551615) (z0 : 0 ≤ q.c.horizon) (z1 : q.c.horizon ≤ 18446744073709551615) (hn0 : 0 ≤ q.n) :
    Ct Tryz.prog 22 #[.pointer (some ⟨b, 0, none⟩), segA sg, .int .u64 now] [queueG b q]
      (fun v L => v = .tuple #[.int .i64 (enqM q.c (absQ q) sg now).1, .int .i64 0] ∧ ∃ q' : QA, absQ q' = (enqM q.c (absQ q) sg now).2 ∧ q'.c = q.c ∧ q'.lb = q.lb ∧ q'.tb = q.tb ∧ L = [queueG b q']) := by
  obtain ⟨c, fl, lb, tb, fr, ol, la, n⟩ := q
  obtain ⟨sock, frm, len, stamp, again⟩ := sg
  obtain ⟨k0, k8, l0, l1⟩ := hsg
  dsimp only at *
  obtain ⟨s, rfl⟩ : ∃ s : Nat, sock = s := ⟨sock.toNat, by omega⟩
  have hfl := hok.flOk
  have h8 : fl.length = 8 := hfl.1
  have hnum := hok.num
  have hnum1 : n ≤ 100000 := hnum.2
  have hfew : fr.length + ol.length ≤ 1000 := hok.few
  obtain ⟨x, hx⟩ : ∃ x, (colN fr ol now 8 fl)[s]? = some x := ⟨_, List.getElem?_eq_getElem (by rw [colN_len]; omega)⟩
  have hcm := colN_m (fr := fr) (ol := ol) (now := now) h8
  have hxm : ((colM fr ol now (fl.map (Option.map FlowA.m)))[s]?).getD none = x.map FlowA.m := by
    rw [← hcm, List.getElem?_map, hx]; rfl
  have e1 : enqM c (absQ ⟨c, fl, lb, tb, fr, ol, la, n⟩) ⟨s, frm, len, stamp, again⟩ now = if fateZ c x n stamp now = 0 then (0, ⟨(colM fr ol now (fl.map (Option.map FlowA.m))).set s (some { wakeF c fr ol x s now with segs := (wakeF c fr ol x s now).segs ++ [⟨s, frm, len, min stamp (satAdd now c.horizon), again⟩] }), if placeZ fr ol x s = 0 then fr ++ [(s : Int)] else fr, ol, n + 1⟩) else (fateZ c x n stamp now, ⟨colM fr ol now (fl.map (Option.map FlowA.m)), fr, ol, n⟩) := by
    unfold enqM absQ
    simp only [Int.toNat_natCast, hxm, fateZ_m, wakeF_m, placeZ_m]
  rw [e1]
  by_cases hf : fateZ c x n stamp now = 0
  · rw [if_pos hf]
    have hno : x = none → plZ fr ol s = 0 := by
      intro hn
      subst hn
      unfold colN at hx
      rw [List.getElem?_mapIdx] at hx
      cases hy : fl[s]? with
      | none => rw [hy] at hx; cases hx
      | some y =>
        rw [hy] at hx
        simp only [Option.map_some, Option.some.injEq] at hx
        cases y with
        | none =>
          rw [plZ_eq]
          have hnot : ¬ ((s : Int) ∈ fr ∨ (s : Int) ∈ ol) := by
            intro hh
            obtain ⟨F, hF⟩ := hin s hh
            have : ((fl.map (Option.map FlowA.m))[((s : Int)).toNat]?) = some (some F) := hF
            rw [Int.toNat_natCast, List.getElem?_map, hy] at this
            cases this
          rw [if_neg (fun h => hnot (.inl h)), if_neg (fun h => hnot (.inr h))]
        | some f =>
          rw [if_pos (by omega)] at hx
          unfold colOne at hx
          cases hi : idleZ fr ol (some f) s 3000000000 now
          · rw [hi] at hx; cases hx
          · unfold idleZ at hi
            simp only [Bool.and_eq_true, decide_eq_true_eq] at hi
            have := hi.1
            unfold placeZ at this
            by_cases hp : plZ fr ol s = 0
            · exact hp
            · rw [if_neg hp] at this; exact absurd this hp
    have hml : (segsOf x).length ≤ 100000 := by
      cases x with
      | none => exact Nat.zero_le _
      | some f =>
        have hf0 := colN_some hx
        have := hok.flo s f.m (by show (fl.map (Option.map FlowA.m))[s]? = _; rw [List.getElem?_map, hf0]; rfl)
        exact this.2.2.2.2.2.2.1
    refine (qenqOk_ct b c fl lb tb fr ol la n hfl hfew now ⟨s, frm, len, stamp, again⟩ s rfl (by omega) l0 l1 n0 n1 z0 z1 x hx hf hno hml hn0 hnum1).mono ?_
    rintro v L ⟨rfl, f', la', hf', rfl⟩
    refine ⟨rfl, ⟨c, (colN fr ol now 8 fl).set s (some f'), lb, tb, if placeZ fr ol x s = 0 then fr ++ [(s : Int)] else fr, ol, la', n + 1⟩, ?_, rfl, rfl, rfl, rfl⟩
    unfold absQ
    simp only
    rw [map_set_m, hcm, hf']
    have : fateSeg c x n now ⟨s, frm, len, stamp, again⟩ = ⟨s, frm, len, min stamp (satAdd now c.horizon), again⟩ := by unfold fateSeg; rw [if_pos hf]
    rw [this]
  · rw [if_neg hf]
    refine (qenqNo_ct b c fl lb tb fr ol la n hfl hfew now ⟨s, frm, len, stamp, again⟩ s rfl (by omega) l0 l1 n0 n1 z0 z1 x hx hf).mono ?_
    rintro v L ⟨rfl, rfl⟩
    refine ⟨rfl, ⟨c, colN fr ol now 8 fl, lb, tb, fr, ol, la, n⟩, ?_, rfl, rfl, rfl, rfl⟩
    unfold absQ
    simp only
    rw [hcm]
end Go.Proofs.YtcegknecikbbkaaGreat

/- What was sent: a board. -/
set_option linter.unusedVariables false
set_option linter.unusedSimpArgs false
set_option maxRecDepth 4000
namespace Go.Proofs.YtcegknecikbbkaaGreat
open Go.RowKit
section
variable {P : Program} {w w0 : World} {F : List Nat} {L L0 : List Res} {e : TypeId} {sz n cap g : Nat} {xs vs : List Value}
theorem Sep.celR {p k : Nat} (hS : Sep w0 F L w) (hm : rowR (some ⟨g, 0, none⟩) n cap e sz xs ∈ L) (hp : p = k) (hv : ∀ (j : Nat) (v : Value), vs[j]? = some v → xs[k + j]? = some v) : Cel w g p vs := by
  obtain ⟨_, _, h2, h3, h4, rest, h7, h8⟩ := hS.holds _ hm
  subst hp
  refine ⟨_, _, _, h8, fun j v hj => ?_⟩
  have h9 := hv j v hj
  rw [List.getElem?_toArray, List.getElem?_append_left (List.getElem?_eq_some_iff.1 h9).1]
  exact h9
end
section
variable {ro : Option Nat} {n : Nat} {P : Program} {ops : Array Oper} {Q : Exit → Act → World → Prop} {rest : List Oper} {w w0 : World} {F : List Nat} {L L' L0 : List Res} {o : Oper} {a : Act} {v : Value}
/-- A call of a function of the program, in the body of a range over a function. -/
theorem ckI_enter {f : FuncId} {as' : Array Operand} {ats : Array TypeId} {args : Array Value} (ho : o.op = .call { callee := .value (.func f), args := as', argTypes := ats }) (hw : Region.wanted o (yielded ops a.tmps) = true) (hen : ckEnter P f = true)
    (ha : as'.toList.map a.eval = args.toList) (h : Calls P f args w (fun e w' => ∃ v, e = .returned v ∧ wpListIn (wR ro) n P ops Q rest (a.put o.dst v) w')) : wpListIn (wR ro) n P ops Q (o :: rest) a w := by
  unfold wpListIn
  rw [if_pos hw]
  refine ⟨fun _ _ => trivial, ?_⟩
  rw [Oper.semAt_eq _ _ _ (by intro c; rw [ho]; simp)]
  have e : execOp a.eval o = callFunc f args := by
    have : as'.map a.eval = args := by rw [← Array.toList_inj, Array.toList_map]; exact ha
    rw [← this]
    have ef : a.eval (.func f) = .func (.func f) #[] #[] := rfl
    unfold execOp
    simp [ho, resolve, Deferred.ofValue, invoke, ef]
  rw [e, run_enter hen]
  refine ⟨fun h => absurd h (by simp [Fence.wide]), ?_⟩
  refine (callsIn_wide.2 h).mono ?_
  rintro e w' ⟨v, rfl, h⟩
  exact h
theorem ckI_call0 {f : FuncId} {as' : Array Operand} {ats : Array TypeId} {args : Array Value} (hS : Sep w0 F L w) (ho : o.op = .call { callee := .value (.func f), args := as', argTypes := ats }) (hC : Ct P f args [] (Gives v [])) (hw : Region.wanted o (yielded ops a.tmps) = true) (hen : ckEnter P f = true)
    (ha : as'.toList.map a.eval = args.toList) (h : ∀ w', Sep w0 F L w' → wpListIn (wR ro) n P ops Q rest (a.put o.dst v) w') : wpListIn (wR ro) n P ops Q (o :: rest) a w :=
  ckI_enter ho hw hen ha (hC.call0 hS fun w' hS' => ⟨_, rfl, h w' hS'⟩)
end
structure SentM where
  (at' del delAt firstAt : Int) (lim : Bool)
abbrev sntV (s : SentM) : List Value := [.int .u64 s.at', .int .u64 s.del, .int .u64 s.delAt, .int .u64 s.firstAt, .bool s.lim]
structure PieceM where
  (frm to : Int) (sent : SentM) (sacked lost : Bool)
abbrev pcV (p : PieceM) : List Value := [.int .u64 p.frm, .int .u64 p.to, .int .u64 p.sent.at', .int .u64 p.sent.del, .int .u64 p.sent.delAt, .int .u64 p.sent.firstAt, .bool p.sent.lim, .bool p.sacked, .bool p.lost]
def pcs (l : List PieceM) : List Value := l.flatMap pcV
theorem pcs_len (l : List PieceM) : (pcs l).length = l.length * 9 := by
  induction l with
  | nil => rfl
  | cons x r ih => unfold pcs at *; rw [List.flatMap_cons, List.length_append, ih]; simp; omega
theorem pcs_snoc (x : PieceM) (l : List PieceM) : pcs (l ++ [x]) = pcs l ++ pcV x := by unfold pcs; rw [List.flatMap_append]; simp
theorem pcs_get {l : List PieceM} {k : Nat} {x : PieceM} (h : l[k]? = some x) : ∀ (j : Nat) (v : Value), (pcV x)[j]? = some v → (pcs l)[k * 9 + j]? = some v := by
  induction l generalizing k with
  | nil => simp at h
  | cons y r ih =>
    intro j v hj
    have e : pcs (y :: r) = pcV y ++ pcs r := rfl
    rw [e]
    cases k with
    | zero =>
      simp at h
      subst h
      rw [Nat.zero_mul, Nat.zero_add, List.getElem?_append_left (List.getElem?_eq_some_iff.1 hj).1]; exact hj
    | succ k =>
      simp at h
      have := ih h j v hj
      rw [List.getElem?_append_right (by simp; omega)]
      rw [show (k + 1) * 9 + j - (pcV y).length = k * 9 + j by simp; omega]; exact this
structure BrdA where
  (a : Option Addr) (cp : Nat)
abbrev brdP (b : Nat) (a : Option Addr) (n cp : Nat) (e : Int) : Res := pts b [.slice a n cp, .int .u64 e] 239
def brdG (b : Nat) (l : List PieceM) (e : Int) (A : BrdA) : Res := grpR [brdP b A.a l.length A.cp e, rowR A.a l.length A.cp 263 9 (pcs l)]
theorem brdOpen {b n : Nat} {l : List PieceM} {e : Int} {a : Option Addr} {cp : Nat} {w0 w : World} {F : List Nat} {L : List Res} (hn : l.length = n) : Sep w0 F (brdG b l e ⟨a, cp⟩ :: L) w ↔ Sep w0 F (brdP b a n cp e :: rowR a n cp 263 9 (pcs l) :: L) w := by
  subst hn; exact (Sep.grp (l := [brdP b a l.length cp e, rowR a l.length cp 263 9 (pcs l)])).symm
theorem brdNew_ct : Ct Tryz.prog 95 #[] [] (fun v L => ∃ b A, v = .pointer (some ⟨b, 0, none⟩) ∧ L = [brdG b [] 0 A]) := by
  intro w0 F L w hS
  simp only [List.cons_append, List.nil_append] at hS
  go_enter Tryz.func95, Tryz.ntmps95
  go_wp2_with (first | go_skip | (refine ck_box hS rfl rfl (by constructor) ?_; clear hS; intro nb w hS; simp only [Act.put, spA, spZ, spS]) )
  go_ret
  refine ⟨_, ⟨nb, ⟨none, 0⟩, rfl, rfl⟩, (brdOpen rfl).2 ?_⟩
  exact (hS.nilRow (e := 263) (sz := 9)).perm (.swap _ _ _)
theorem brdLen_ct (b : Nat) (l : List PieceM) (e : Int) (A : BrdA) : Ct Tryz.prog 201 #[.pointer (some ⟨b, 0, none⟩)] [brdG b l e A] (Gives (.int .i64 l.length) [brdG b l e A]) := by
  obtain ⟨a, cp⟩ := A
  obtain ⟨n, hn⟩ : ∃ n, l.length = n := ⟨_, rfl⟩
  rw [hn]
  intro w0 F L w hS
  have hS := (brdOpen hn).1 hS
  go_enter Tryz.func201, Tryz.ntmps201
  go_wp2_with (first | go_skip | (refine ck_load hS rfl rfl rfl (by (repeat (first | exact mH _ | apply mT)) <;> fail) rfl (by decide +kernel) ?_; simp only [Act.put, spA, spZ, spS]) )
  go_ret
  exact ⟨_, ⟨rfl, rfl⟩, (brdOpen hn).2 hS⟩
def flyB (p : PieceM) : Bool := !p.sacked && !p.lost
theorem flying_ct (p : PieceM) : Ct Tryz.prog 195 #[.agg (pcV p).toArray] [] (Gives (.bool (flyB p)) []) := by
  obtain ⟨frm, to, ⟨x1, x2, x3, x4, x5⟩, sacked, lost⟩ := p
  cases sacked <;> cases lost
  all_goals
    intro w0 F L w hS
    simp only [List.cons_append, List.nil_append] at hS
    go_enter Tryz.func195, Tryz.ntmps195
    go_wp2_with (first | go_skip | (refine ck_load hS rfl rfl rfl (by (repeat (first | exact mH _ | apply mT)) <;> fail) rfl (by decide +kernel) ?_; simp only [Act.put, spA, spZ, spS]) | (refine ck_box hS rfl rfl (by constructor) ?_; clear hS; intro nb w hS; simp only [Act.put, spA, spZ, spS]) )
    go_ret
    exact ⟨_, ⟨rfl, rfl⟩, hS.drop⟩
theorem brdAll_ct (b : Option Addr) : Ct Tryz.prog 251 #[.pointer b] [] (fun v L => ∃ bx, v = .func (.func 284) #[] #[.pointer (some ⟨bx, 0, none⟩)] ∧ L = [pts bx [.pointer b] 185]) := by
  intro w0 F L w hS
  simp only [List.cons_append, List.nil_append] at hS
  go_enter Tryz.func251, Tryz.ntmps251
  go_wp2_with (first | go_skip | (refine ck_box hS rfl rfl (by constructor) ?_; clear hS; intro nb w hS; simp only [Act.put, spA, spZ, spS]) )
  go_ret
  exact ⟨_, ⟨_, rfl, rfl⟩, hS⟩
abbrev encB (p : PieceM) : Array Value := #[.agg (pcV p).toArray]
set_option maxHeartbeats 4000000 in
theorem brdIter (bx b : Nat) (ps : List PieceM) (e : Int) (A : BrdA) (hsm : ps.length ≤ 4096) : IterCt Tryz.prog 284 #[.pointer (some ⟨bx, 0, none⟩)] encB ps [pts bx [.pointer (some ⟨b, 0, none⟩)] 185, brdG b ps e A] := by
  obtain ⟨ad, cp⟩ := A
  intro σ y S go _ hY C w0 F L w hS0
  obtain ⟨n, hn⟩ : ∃ n, ps.length = n := ⟨_, rfl⟩
  have hS := ((hS0.bring (r := brdG b ps e ⟨ad, cp⟩) (by apply Rem.there; apply Rem.there; exact Rem.here _ _)))
  have hS := (brdOpen hn).1 hS
  clear hS0
  show Calls _ _ #[y, .pointer (some ⟨bx, 0, none⟩)] _ _
  have fin : ∀ {w : World} {r : Res}, Sep w0 F (r :: brdP b ad n cp e :: rowR ad n cp 263 9 (pcs ps) :: pts bx [.pointer (some ⟨b, 0, none⟩)] 185 :: L) w → Sep w0 F ((r :: [pts bx [.pointer (some ⟨b, 0, none⟩)] 185, brdG b ps e ⟨ad, cp⟩]) ++ L) w := fun {w r} h => by
    have j1 := (h.bring (r := rowR ad n cp 263 9 (pcs ps)) (by (repeat (first | exact rH _ _ | apply rT)) <;> fail)).bring (r := brdP b ad n cp e) (by (repeat (first | exact rH _ _ | apply rT)) <;> fail)
    have j2 := (brdOpen hn).2 j1
    exact (j2.bring (r := pts bx [.pointer (some ⟨b, 0, none⟩)] 185) (by (repeat (first | exact rH _ _ | apply rT)) <;> fail)).bring (r := r) (by (repeat (first | exact rH _ _ | apply rT)) <;> fail)
  rw [hn] at hsm
  go_enter Tryz.func284, Tryz.ntmps284
  go_wp2_with (first | go_skip | (refine ck_load hS rfl rfl rfl (by (repeat (first | exact mH _ | apply mT)) <;> fail) rfl (by decide +kernel) ?_; simp only [Act.put, spA, spZ, spS]) | (refine ck_store hS rfl rfl rfl (by constructor) (by (repeat (first | exact uH _ _ _ | apply uT)) <;> fail) (by simp <;> omega) rfl (by decide +kernel) ?_; clear hS; intro w hS; simp only [Act.put, spA, spZ, spS] at hS ⊢) )
  go_loopg [12] (n + 1) (fun g s wx => ∃ (k : Nat) (C : σ), k + g = n + 1 ∧ k ≤ n ∧ s = .int .i64 k ∧ okP go (ps.take k) = true ∧ runP go [] ps = runP go (ps.take k) (ps.drop k) ∧
    Sep w0 F (S C (ps.take k) :: brdP b ad n cp e :: rowR ad n cp 263 9 (pcs ps) :: pts bx [.pointer (some ⟨b, 0, none⟩)] 185 :: L) wx)
  case atStart => exact ⟨0, C, by omega, by omega, rfl, rfl, rfl, hS.bring (by (repeat (first | exact rH _ _ | apply rT)) <;> fail)⟩
  case round =>
    obtain ⟨k, C, hkg, hkn, rfl, hok, hrun, hS⟩ := hrel
    generalize wr = w at hS ⊢
    by_cases hk : k < n
    · obtain ⟨x, hx⟩ : ∃ x, ps[k]? = some x := ⟨ps[k], List.getElem?_eq_getElem (by omega)⟩
      have hc := pcs_get hx
      have hd : ps.drop k = x :: ps.drop (k + 1) := by
        rw [List.drop_eq_getElem_cons (by omega)]
        rw [List.getElem?_eq_getElem (by omega)] at hx
        injection hx with hx
        rw [hx]
      have ht : ps.take (k + 1) = ps.take k ++ [x] := by rw [List.take_add_one, hx]; rfl
      have kY := hY (ps.take k) x (ps.drop (k + 1)) (by rw [← hd, List.take_append_drop]) hok C
      rw [← ht] at kY
      rw [hd] at hrun
      obtain ⟨g1, rfl⟩ := hS.rowSome (a := ad) (n := n) (cap := cp) (e := 263) (sz := 9) (xs := pcs ps) (by (repeat (first | exact mH _ | apply mT)) <;> fail) (by omega)
      cases hg : go (ps.take (k + 1))
      · have hrun' : runP go [] ps = ps.take (k + 1) := by rw [hrun, runP, ← ht, if_neg (by rw [hg]; simp)]
        rw [hg] at kY
        clear hrun hok hY hg hd ht hn
        (repeat (first | (refine ckI_region ?_; (repeat (first | (refine ckI_skip rfl ?_; simp only [Act.put, spA, spZ, spS]) | (apply ckI_pure rfl rfl; (intro _; go_simp; (try (go_ints; (try go_simp))); (first | (rw [decide_eq_true]; omega) | (rw [decide_eq_false]; omega) | rfl | rw [if_pos (by omega)])); simp only [Act.put, spA, spZ, spS]) | (refine ckI_load hS rfl rfl rfl (by (repeat (first | exact mH _ | apply mT)) <;> fail) rfl (by decide +kernel) ?_; simp only [Act.put, spA, spZ, spS]) | (refine ckI_loadAll hS rfl rfl rfl (by (repeat (first | exact mH _ | apply mT)) <;> fail) rfl (by (try simp only [List.length_cons, List.length_nil, Nat.zero_add, Nat.reduceAdd]); decide +kernel) ?_; simp only [Act.put, spA, spZ, spS]) | (refine ckI_yieldS hS rfl (kY) (by (repeat (first | exact rH _ _ | apply rT)) <;> fail) rfl rfl rfl ?_; clear hS; intro A w hS; simp only [Act.put, spA, spZ, spS]))); refine wpListIn_nil ?_) | go_skip | (refine ck_celN (vs := pcV x) (hS.celR (k := k * 9) (by (repeat (first | exact mH _ | apply mT)) <;> fail) (by omega) hc) rfl rfl rfl (by (try simp only [List.length_cons, List.length_nil, Nat.zero_add, Nat.reduceAdd]); decide +kernel) ?_; simp only [Act.put, spA, spZ, spS]) | (refine ck_alloc (t := 263) (v := .agg (List.toArray [.int .u64 0, .int .u64 0, .int .u64 0, .int .u64 0, .int .u64 0, .int .u64 0, .bool false, .bool false, .bool false])) (cs := [.int .u64 0, .int .u64 0, .int .u64 0, .int .u64 0, .int .u64 0, .int .u64 0, .bool false, .bool false, .bool false]) hS rfl rfl (by kernel_rfl) rfl ?_; clear hS; intro nb w hS; simp only [Act.put, spA, spZ, spS]) | (refine ck_storeAll hS rfl rfl rfl rfl (by (repeat (first | exact uH _ _ _ | apply uT)) <;> fail) (by rfl) rfl (by (try simp only [List.length_cons, List.length_nil, Nat.zero_add, Nat.reduceAdd]); decide +kernel) ?_; clear hS; intro w hS; simp only [Act.put, spA, spZ, spS]) | (refine ck_load hS rfl rfl rfl (by (repeat (first | exact mH _ | apply mT)) <;> fail) rfl (by decide +kernel) ?_; simp only [Act.put, spA, spZ, spS]) | go_values | go_skip | go_guarded | go_step | go_upon | go_back | (simp only [Int.not_lt, Int.not_le] at *; go_simp)))
        refine bodyPost_ret (results_none rfl _ _ _) rfl ?_
        have j1 := (hS.bring (r := pts nb (pcV x) 263) (by (repeat (first | exact rH _ _ | apply rT)) <;> fail)).drop
        exact ⟨_, ⟨rfl, A, by rw [hrun']⟩, fin j1⟩
      · have hrun' : runP go [] ps = runP go (ps.take (k + 1)) (ps.drop (k + 1)) := by rw [hrun, runP, ← ht, if_pos hg]
        have hok' : okP go (ps.take (k + 1)) = true := by unfold okP; rw [hg]; simp
        rw [hg] at kY
        clear hrun hok hY hg hd ht hn
        (repeat (first | (refine ckI_region ?_; (repeat (first | (refine ckI_skip rfl ?_; simp only [Act.put, spA, spZ, spS]) | (apply ckI_pure rfl rfl; (intro _; go_simp; (try (go_ints; (try go_simp))); (first | (rw [decide_eq_true]; omega) | (rw [decide_eq_false]; omega) | rfl | rw [if_pos (by omega)])); simp only [Act.put, spA, spZ, spS]) | (refine ckI_load hS rfl rfl rfl (by (repeat (first | exact mH _ | apply mT)) <;> fail) rfl (by decide +kernel) ?_; simp only [Act.put, spA, spZ, spS]) | (refine ckI_loadAll hS rfl rfl rfl (by (repeat (first | exact mH _ | apply mT)) <;> fail) rfl (by (try simp only [List.length_cons, List.length_nil, Nat.zero_add, Nat.reduceAdd]); decide +kernel) ?_; simp only [Act.put, spA, spZ, spS]) | (refine ckI_yieldS hS rfl (kY) (by (repeat (first | exact rH _ _ | apply rT)) <;> fail) rfl rfl rfl ?_; clear hS; intro A w hS; simp only [Act.put, spA, spZ, spS]))); refine wpListIn_nil ?_) | go_skip | (refine ck_celN (vs := pcV x) (hS.celR (k := k * 9) (by (repeat (first | exact mH _ | apply mT)) <;> fail) (by omega) hc) rfl rfl rfl (by (try simp only [List.length_cons, List.length_nil, Nat.zero_add, Nat.reduceAdd]); decide +kernel) ?_; simp only [Act.put, spA, spZ, spS]) | (refine ck_alloc (t := 263) (v := .agg (List.toArray [.int .u64 0, .int .u64 0, .int .u64 0, .int .u64 0, .int .u64 0, .int .u64 0, .bool false, .bool false, .bool false])) (cs := [.int .u64 0, .int .u64 0, .int .u64 0, .int .u64 0, .int .u64 0, .int .u64 0, .bool false, .bool false, .bool false]) hS rfl rfl (by kernel_rfl) rfl ?_; clear hS; intro nb w hS; simp only [Act.put, spA, spZ, spS]) | (refine ck_storeAll hS rfl rfl rfl rfl (by (repeat (first | exact uH _ _ _ | apply uT)) <;> fail) (by rfl) rfl (by (try simp only [List.length_cons, List.length_nil, Nat.zero_add, Nat.reduceAdd]); decide +kernel) ?_; clear hS; intro w hS; simp only [Act.put, spA, spZ, spS]) | (refine ck_load hS rfl rfl rfl (by (repeat (first | exact mH _ | apply mT)) <;> fail) rfl (by decide +kernel) ?_; simp only [Act.put, spA, spZ, spS]) | go_values | go_skip | go_guarded | go_step | go_upon | go_back | (simp only [Int.not_lt, Int.not_le] at *; go_simp)))
        have j1 := (hS.bring (r := pts nb (pcV x) 263) (by (repeat (first | exact rH _ _ | apply rT)) <;> fail)).drop
        clear hS
        have hS := j1
        clear j1
        go_roundg (n - k)
        case rel => exact ⟨k + 1, A, by omega, by omega, by go_num, hok', hrun', hS⟩
        case measure => omega
    · have hkn' : k = n := by omega
      subst hkn'
      have e1 : ps.take k = ps := List.take_of_length_le (by omega)
      have e2 : ps.drop k = [] := List.drop_of_length_le (by omega)
      rw [e1, e2] at hrun
      rw [e1] at hS
      have hrun' : runP go [] ps = ps := by rw [hrun]; rfl
      clear hrun hY hn
      go_wp2_with (first | go_skip | (refine ck_load hS rfl rfl rfl (by (repeat (first | exact mH _ | apply mT)) <;> fail) rfl (by decide +kernel) ?_; simp only [Act.put, spA, spZ, spS]) | (refine ck_store hS rfl rfl rfl (by constructor) (by (repeat (first | exact uH _ _ _ | apply uT)) <;> fail) (by simp <;> omega) rfl (by decide +kernel) ?_; clear hS; intro w hS; simp only [Act.put, spA, spZ, spS] at hS ⊢) )
      refine bodyPost_end (results_none rfl _ _ _) rfl ?_
      exact ⟨_, ⟨rfl, C, by rw [hrun']⟩, fin hS⟩
def flP1 (p : PieceM) : Int := if flyB p then p.to - p.frm else 0
def flightZ (l : List PieceM) : Int := (l.map flP1).sum
def pieceOk (p : PieceM) : Prop := 0 ≤ p.frm ∧ p.frm ≤ p.to ∧ p.to ≤ 4611686018427387904
theorem flightZ_snoc (l : List PieceM) (x : PieceM) : flightZ (l ++ [x]) = flightZ l + flP1 x := by unfold flightZ; simp
theorem flightZ_app (l r : List PieceM) : flightZ (l ++ r) = flightZ l + flightZ r := by unfold flightZ; simp
theorem flP1_nn {x : PieceM} (h : pieceOk x) : 0 ≤ flP1 x := by obtain ⟨h1, h2, h3⟩ := h; unfold flP1; split <;> omega
theorem flightZ_nn {l : List PieceM} (h : ∀ p ∈ l, pieceOk p) : 0 ≤ flightZ l := by
  induction l with
  | nil => exact Int.le_refl _
  | cons x r ih =>
    have h1 := ih (fun p hp => h p (List.mem_cons_of_mem _ hp))
    have h2 := flP1_nn (h x (List.mem_cons_self))
    unfold flightZ at *
    simp only [List.map_cons, List.sum_cons]; omega
set_option maxHeartbeats 4000000 in
theorem brdFlight_ct (b : Nat) (ps : List PieceM) (e : Int) (A : BrdA) (hsm : ps.length ≤ 4096) (hok : ∀ p ∈ ps, pieceOk p) (hfl : flightZ ps ≤ 4611686018427387904) :
    Ct Tryz.prog 202 #[.pointer (some ⟨b, 0, none⟩)] [brdG b ps e A] (Gives (.int .u64 (flightZ ps)) [brdG b ps e A]) := by
  have hI := fun bx => brdIter bx b ps e A hsm
  have kF := flying_ct
  intro w0 F L w hS
  simp only [List.cons_append, List.nil_append] at hS
  refine calls_of_wpM Tryz.func202 rfl ?_
  simp only [Tryz.ntmps202, List.size_toArray, List.length_cons, List.length_nil, Nat.reduceAdd, Nat.reduceSub, Array.replicate_succ, Array.replicate_zero, List.push_toArray, List.append_toArray, List.nil_append, List.cons_append]
  go_wp2_with (first | go_skip  | (refine ck_load hS rfl rfl rfl (by (repeat (first | exact mH _ | apply mT)) <;> fail) rfl (by decide +kernel) ?_; simp only [Act.put, spA, spZ, spS]) | (refine ck_store hS rfl rfl rfl (by constructor) (by (repeat (first | exact uH _ _ _ | apply uT)) <;> fail) (by simp <;> omega) rfl (by decide +kernel) ?_; clear hS; intro w hS; simp only [Act.put, spA, spZ, spS] at hS ⊢) | (refine ck_alloc (t := 22) (v := .int .u64 0) (cs := [.int .u64 0]) hS rfl rfl (by kernel_rfl) rfl ?_; clear hS; intro x3 w hS; simp only [Act.put, spA, spZ, spS]) | (go_at_call 251; with_reducible refine Ct.callN (brdAll_ct _) hS ?_; clear hS; rintro _ _ w ⟨bx, rfl, rfl⟩ hS; simp only [List.cons_append, List.nil_append] at hS))
  have hS1 : Sep w0 F (pts x3 [.int .u64 (flightZ [])] 22 :: ([pts bx [.pointer (some ⟨b, 0, none⟩)] 185, brdG b ps e A] ++ L)) w := by
    have k1 := hS.bring (r := brdG b ps e A) (by (repeat (first | exact rH _ _ | apply rT)) <;> fail)
    have k2 := k1.bring (r := pts bx [.pointer (some ⟨b, 0, none⟩)] 185) (by (repeat (first | exact rH _ _ | apply rT)) <;> fail)
    exact k2.bring (r := pts x3 [.int .u64 0] 22) (by (repeat (first | exact rH _ _ | apply rT)) <;> fail)
  clear hS
  refine ck_rangeFunc (B := fun (_ : Unit) (p : List PieceM) => pts x3 [.int .u64 (flightZ p)] 22) (go := fun _ => true) (A0 := ()) hS1 (hI bx) rfl (fun _ => run_enter (P := Tryz.prog) (f := 284) (by kernel_rfl)) (fun _ => rfl) ?round ?fin
  case round =>
    intro l pre x suf hx _ _ w0 F L w hS
    have hb : 0 ≤ flightZ pre ∧ 0 ≤ flP1 x ∧ flightZ pre + flP1 x ≤ 4611686018427387904 := by
      have h1 := flightZ_nn (l := pre) (fun p hp => hok p (by rw [hx]; simp [hp]))
      have h2 := flightZ_nn (l := suf) (fun p hp => hok p (by rw [hx]; simp [hp]))
      have h3 := flP1_nn (hok x (by rw [hx]; simp))
      have h4 : flightZ ps = flightZ pre + (flP1 x + flightZ suf) := by rw [hx, flightZ_app, show x :: suf = [x] ++ suf from rfl, flightZ_app]; simp [flightZ]
      omega
    have hpo := hok x (by rw [hx]; simp)
    obtain ⟨p1, p2, p3⟩ := hpo
    rw [flightZ_snoc]
    have kx := kF x
    generalize flightZ pre = fz at *
    clear hx hI hS1 kF
    unfold flP1 at hb ⊢
    cases hf : flyB x
    all_goals
      rw [hf] at kx hb
      simp only [if_true, if_false, Bool.false_eq_true, Int.add_zero] at hb ⊢
      simp
      gi_wp2_with (first | (refine ckI_skip rfl ?_; simp only [Act.put, spA, spZ, spS]) | (refine ckI_alloc (t := 263) (v := .agg (List.toArray [.int .u64 0, .int .u64 0, .int .u64 0, .int .u64 0, .int .u64 0, .int .u64 0, .bool false, .bool false, .bool false])) (cs := [.int .u64 0, .int .u64 0, .int .u64 0, .int .u64 0, .int .u64 0, .int .u64 0, .bool false, .bool false, .bool false]) hS rfl rfl (by kernel_rfl) rfl ?_; clear hS; intro x4 w hS; simp only [Act.put, spA, spZ, spS]) | (refine ckI_storeAll hS rfl rfl rfl rfl (by (repeat (first | exact uH _ _ _ | apply uT)) <;> fail) (by rfl) rfl (by (try simp only [List.length_cons, List.length_nil, Nat.zero_add, Nat.reduceAdd]); decide +kernel) ?_; clear hS; intro w hS; simp only [Act.put, spA, spZ, spS]) | (refine ckI_load hS rfl rfl rfl (by (repeat (first | exact mH _ | apply mT)) <;> fail) rfl (by decide +kernel) ?_; simp only [Act.put, spA, spZ, spS]) | (refine ckI_store hS rfl rfl rfl (by constructor) (by (repeat (first | exact uH _ _ _ | apply uT)) <;> fail) (by simp <;> omega) rfl (by decide +kernel) ?_; clear hS; intro w hS; simp only [Act.put, spA, spZ, spS]) | (apply ckI_pure rfl rfl; (intro _; go_simp; (try (go_ints; (try go_simp))); (first | (rw [decide_eq_true]; omega) | (rw [decide_eq_false]; omega) | rfl | rw [if_pos (by omega)])); simp only [Act.put, spA, spZ, spS]))
      refine ⟨[pts x4 (pcV x) 263], hS, ?_⟩
      clear hS
      intro L w hS
      simp only [List.cons_append, List.nil_append] at hS
      (repeat (first | (refine ckI_loadAll hS rfl rfl rfl (by (repeat (first | exact mH _ | apply mT)) <;> fail) rfl (by (try simp only [List.length_cons, List.length_nil, Nat.zero_add, Nat.reduceAdd]); decide +kernel) ?_; simp only [Act.put, spA, spZ, spS]) | (refine ckI_load hS rfl rfl rfl (by (repeat (first | exact mH _ | apply mT)) <;> fail) rfl (by decide +kernel) ?_; simp only [Act.put, spA, spZ, spS]) | (refine ckI_store hS rfl rfl rfl (by constructor) (by (repeat (first | exact uH _ _ _ | apply uT)) <;> fail) (by simp <;> omega) rfl (by decide +kernel) ?_; clear hS; intro w hS; simp only [Act.put, spA, spZ, spS]) | (refine ckI_call0 hS rfl kx rfl (by kernel_rfl) rfl ?_; clear hS; intro w hS; simp only [Act.put, spA, spZ, spS]) | (refine ckI_skip rfl ?_; simp only [Act.put, spA, spZ, spS]) | (apply ckI_pure rfl rfl; (intro _; go_simp; (try (go_ints; (try go_simp))); (first | (rw [decide_eq_true]; omega) | (rw [decide_eq_false]; omega) | rfl | rw [if_pos (by omega)])); simp only [Act.put, spA, spZ, spS]) | go_values | gi_guarded | gi_step | gi_upon))
      exact ⟨rfl, hS.drop⟩
  case fin =>
    intro D _ w hS
    have e1 : runP (fun _ : List PieceM => true) [] ps = ps := runP_all _ _ (fun _ => rfl)
    rw [e1]
    rw [e1] at hS
    have e2 : okP (fun _ : List PieceM => true) ps = true := by unfold okP; simp
    rw [e2, if_pos rfl]
    simp only [List.cons_append, List.nil_append] at hS
    clear e1 e2 hI hS1 kF
    generalize flightZ ps = fz at *
    go_wp2_with (first | go_skip | (refine ck_load hS rfl rfl rfl (by (repeat (first | exact mH _ | apply mT)) <;> fail) rfl (by decide +kernel) ?_; simp only [Act.put, spA, spZ, spS]) | (refine ck_store hS rfl rfl rfl (by constructor) (by (repeat (first | exact uH _ _ _ | apply uT)) <;> fail) (by simp <;> omega) rfl (by decide +kernel) ?_; clear hS; intro w hS; simp only [Act.put, spA, spZ, spS] at hS ⊢) )
    exact ckM_end (.inr rfl) hS rfl (fun w hS => ⟨results_tmp rfl _ _ _, _, ⟨rfl, rfl⟩, hS.dropN 2⟩)
/-! ### Where none is lost -/
set_option maxHeartbeats 4000000 in
theorem brdLostNo_ct (b : Nat) (ps : List PieceM) (e : Int) (A : BrdA) (hsm : ps.length ≤ 4096) (hno : ∀ p ∈ ps, p.lost = false) :
    Ct Tryz.prog 203 #[.pointer (some ⟨b, 0, none⟩)] [brdG b ps e A] (Gives (.int .i64 (-1)) [brdG b ps e A]) := by
  have hI := fun bx => brdIter bx b ps e A hsm
  intro w0 F L w hS
  simp only [List.cons_append, List.nil_append] at hS
  refine calls_of_wpM Tryz.func203 rfl ?_
  simp only [Tryz.ntmps203, List.size_toArray, List.length_cons, List.length_nil, Nat.reduceAdd, Nat.reduceSub, Array.replicate_succ, Array.replicate_zero, List.push_toArray, List.append_toArray, List.nil_append, List.cons_append]
  go_wp2_with (first | go_skip  | (refine ck_load hS rfl rfl rfl (by (repeat (first | exact mH _ | apply mT)) <;> fail) rfl (by decide +kernel) ?_; simp only [Act.put, spA, spZ, spS]) | (refine ck_store hS rfl rfl rfl (by constructor) (by (repeat (first | exact uH _ _ _ | apply uT)) <;> fail) (by simp <;> omega) rfl (by decide +kernel) ?_; clear hS; intro w hS; simp only [Act.put, spA, spZ, spS] at hS ⊢) | (have h1 := x2; clear h1; (refine ck_alloc (t := 3) (v := .int .i64 0) (cs := [.int .i64 0]) hS rfl rfl (by kernel_rfl) rfl ?_; clear hS; intro x3 w hS; simp only [Act.put, spA, spZ, spS])) | (refine ck_alloc (t := 3) (v := .int .i64 0) (cs := [.int .i64 0]) hS rfl rfl (by kernel_rfl) rfl ?_; clear hS; intro x2 w hS; simp only [Act.put, spA, spZ, spS]) | (go_at_call 251; with_reducible refine Ct.callN (brdAll_ct _) hS ?_; clear hS; rintro _ _ w ⟨bx, rfl, rfl⟩ hS; simp only [List.cons_append, List.nil_append] at hS))
  have hS1 : Sep w0 F (pts x3 [.int .i64 (([] : List PieceM).length : Nat)] 3 :: ([pts bx [.pointer (some ⟨b, 0, none⟩)] 185, brdG b ps e A] ++ (pts x2 [.int .i64 0] 3 :: L))) w := by
    have k0 := hS.bring (r := pts x2 [.int .i64 0] 3) (by (repeat (first | exact rH _ _ | apply rT)) <;> fail)
    have k1 := k0.bring (r := brdG b ps e A) (by (repeat (first | exact rH _ _ | apply rT)) <;> fail)
    have k2 := k1.bring (r := pts bx [.pointer (some ⟨b, 0, none⟩)] 185) (by (repeat (first | exact rH _ _ | apply rT)) <;> fail)
    exact k2.bring (r := pts x3 [.int .i64 0] 3) (by (repeat (first | exact rH _ _ | apply rT)) <;> fail)
  clear hS
  refine ck_rangeFunc (B := fun (_ : Unit) (p : List PieceM) => pts x3 [.int .i64 (p.length : Nat)] 3) (go := fun _ => true) (A0 := ()) hS1 (hI bx) rfl (fun _ => run_enter (P := Tryz.prog) (f := 284) (by kernel_rfl)) (fun _ => rfl) ?round ?fin
  case round =>
    intro l pre x suf hx _ _ w0 F L w hS
    have hx0 := hno x (by rw [hx]; simp)
    have hpl : pre.length ≤ 4096 := by rw [hx] at hsm; simp at hsm; omega
    obtain ⟨frm, to, ⟨x1, x2, x3, x4, x5⟩, sacked, lost⟩ := x
    obtain rfl : lost = false := hx0
    rw [List.length_append, List.length_singleton]
    generalize pre.length = fz at *
    clear hx hI hS1
    simp
    gi_wp2_with (first | (refine ckI_skip rfl ?_; simp only [Act.put, spA, spZ, spS]) | (refine ckI_alloc (t := 263) (v := .agg (List.toArray [.int .u64 0, .int .u64 0, .int .u64 0, .int .u64 0, .int .u64 0, .int .u64 0, .bool false, .bool false, .bool false])) (cs := [.int .u64 0, .int .u64 0, .int .u64 0, .int .u64 0, .int .u64 0, .int .u64 0, .bool false, .bool false, .bool false]) hS rfl rfl (by kernel_rfl) rfl ?_; clear hS; intro x4 w hS; simp only [Act.put, spA, spZ, spS]) | (refine ckI_storeAll hS rfl rfl rfl rfl (by (repeat (first | exact uH _ _ _ | apply uT)) <;> fail) (by rfl) rfl (by (try simp only [List.length_cons, List.length_nil, Nat.zero_add, Nat.reduceAdd]); decide +kernel) ?_; clear hS; intro w hS; simp only [Act.put, spA, spZ, spS]) | (refine ckI_load hS rfl rfl rfl (by (repeat (first | exact mH _ | apply mT)) <;> fail) rfl (by decide +kernel) ?_; simp only [Act.put, spA, spZ, spS]) | (refine ckI_store hS rfl rfl rfl (by constructor) (by (repeat (first | exact uH _ _ _ | apply uT)) <;> fail) (by simp <;> omega) rfl (by decide +kernel) ?_; clear hS; intro w hS; simp only [Act.put, spA, spZ, spS]) | (apply ckI_pure rfl rfl; (intro _; go_simp; (try (go_ints; (try go_simp))); (first | (rw [decide_eq_true]; omega) | (rw [decide_eq_false]; omega) | rfl | rw [if_pos (by omega)])); simp only [Act.put, spA, spZ, spS]))
    refine ⟨[pts x4 (pcV _) 263], hS, ?_⟩
    clear hS
    intro L w hS
    simp only [List.cons_append, List.nil_append] at hS
    (repeat (first | (refine ckI_loadAll hS rfl rfl rfl (by (repeat (first | exact mH _ | apply mT)) <;> fail) rfl (by (try simp only [List.length_cons, List.length_nil, Nat.zero_add, Nat.reduceAdd]); decide +kernel) ?_; simp only [Act.put, spA, spZ, spS]) | (refine ckI_load hS rfl rfl rfl (by (repeat (first | exact mH _ | apply mT)) <;> fail) rfl (by decide +kernel) ?_; simp only [Act.put, spA, spZ, spS]) | (refine ckI_store hS rfl rfl rfl (by constructor) (by (repeat (first | exact uH _ _ _ | apply uT)) <;> fail) (by simp <;> omega) rfl (by decide +kernel) ?_; clear hS; intro w hS; simp only [Act.put, spA, spZ, spS]) | (refine ckI_skip rfl ?_; simp only [Act.put, spA, spZ, spS]) | (apply ckI_pure rfl rfl; (intro _; go_simp; (try (go_ints; (try go_simp))); (first | (rw [decide_eq_true]; omega) | (rw [decide_eq_false]; omega) | rfl | rw [if_pos (by omega)])); simp only [Act.put, spA, spZ, spS]) | go_values | gi_guarded | gi_step | gi_upon))
    exact ⟨rfl, hS.drop⟩
  case fin =>
    intro D _ w hS
    have e1 : runP (fun _ : List PieceM => true) [] ps = ps := runP_all _ _ (fun _ => rfl)
    rw [e1]
    rw [e1] at hS
    have e2 : okP (fun _ : List PieceM => true) ps = true := by unfold okP; simp
    rw [e2, if_pos rfl]
    simp only [List.cons_append, List.nil_append] at hS
    clear e1 e2 hI hS1
    go_wp2_with (first | go_skip | (refine ck_load hS rfl rfl rfl (by (repeat (first | exact mH _ | apply mT)) <;> fail) rfl (by decide +kernel) ?_; simp only [Act.put, spA, spZ, spS]) | (refine ck_store hS rfl rfl rfl (by constructor) (by (repeat (first | exact uH _ _ _ | apply uT)) <;> fail) (by simp <;> omega) rfl (by decide +kernel) ?_; clear hS; intro w hS; simp only [Act.put, spA, spZ, spS] at hS ⊢) )
    exact ckM_end (.inr rfl) hS rfl (fun w hS => ⟨ckRes_c1 (b := x2) (v := .int .i64 (-1)) (T := 3) hS (by (repeat (first | exact mH _ | apply mT)) <;> fail) rfl rfl (by decide +kernel), _, ⟨rfl, rfl⟩, ((hS.dropN 2).bring (r := pts x2 [.int .i64 (-1)] 3) (by (repeat (first | exact rH _ _ | apply rT)) <;> fail)).drop⟩)
theorem brdLostNone_ct (b : Nat) (ps : List PieceM) (e : Int) (A : BrdA) (hsm : ps.length ≤ 4096) (hno : ∀ p ∈ ps, p.lost = false) :
    Ct Tryz.prog 196 #[.pointer (some ⟨b, 0, none⟩)] [brdG b ps e A] (Gives (.tuple #[.agg #[.int .u64 0, .int .u64 0], .bool false]) [brdG b ps e A]) := by
  have kL := brdLostNo_ct b ps e A hsm hno
  clear hno hsm
  intro w0 F L w hS
  simp only [List.cons_append, List.nil_append] at hS
  go_enter Tryz.func196, Tryz.ntmps196
  go_wp2_with (first | go_skip | (refine ck_store hS rfl rfl rfl (by constructor) (by (repeat (first | exact uH _ _ _ | apply uT)) <;> fail) (by simp <;> omega) rfl (by decide +kernel) ?_; clear hS; intro w hS; simp only [Act.put, spA, spZ, spS] at hS ⊢) | (refine ck_alloc (t := 269) (v := .agg #[.int .u64 0, .int .u64 0]) (cs := [.int .u64 0, .int .u64 0]) hS rfl rfl (by kernel_rfl) rfl ?_; clear hS; intro r2 w hS; simp only [Act.put, spA, spZ, spS]) | (refine ck_storeAll hS rfl rfl rfl rfl (by (repeat (first | exact uH _ _ _ | apply uT)) <;> fail) (by rfl) rfl (by (try simp only [List.length_cons, List.length_nil, Nat.zero_add, Nat.reduceAdd]); decide +kernel) ?_; clear hS; intro w hS; simp only [Act.put, spA, spZ, spS]) | (go_at_call 203; (with_reducible refine Ct.callU (kL) (by (repeat (first | exact uH _ _ _ | apply uT)) <;> fail) hS ?_) <;> (first | (clear hS; intro w hS) | omega)) | (refine ck_region (fun _ => 0) (fun _ => []) [] hS (by kernel_rfl) (by decide +kernel) ?_ ?_; exact ⟨fun _ _ _ h => h.2, fun _ _ h => h⟩; clear hS; intro w hS _; (repeat (first | (apply wpT_pure rfl rfl; (intro _; go_simp; (try (go_ints; (try go_simp))); (first | (rw [decide_eq_true]; omega) | (rw [decide_eq_false]; omega) | rfl | rw [if_pos (by omega)])); simp only [Act.put, spA, spZ, spS]) | (refine ckT_load hS rfl rfl rfl (by simp <;> fail) (by (repeat (first | exact mH _ | apply mT)) <;> fail) rfl (by decide +kernel) ?_; simp only [Act.put, spA, spZ, spS]) | (refine ckT_store hS rfl rfl rfl (by constructor) (by (repeat (first | exact uH _ _ _ | apply uT)) <;> fail) (by simp <;> fail) rfl (by decide +kernel) (by simp <;> fail) ?_; clear hS; intro w hS; simp only [Act.put, spA, spZ, spS] at hS ⊢) )); refine wpT_nil ?_))
  refine bodyPost_ret (ckRes_cell_tmp hS (cs := [.int .u64 0, .int .u64 0]) (b := r2) (T := 269) (by (repeat (first | exact mH _ | apply mT)) <;> fail) rfl rfl rfl (by (try simp only [List.length_cons, List.length_nil, Nat.zero_add, Nat.reduceAdd]); decide +kernel)) rfl ?_
  exact ⟨_, ⟨rfl, rfl⟩, hS.drop⟩
theorem brdAgainNone_ct (b : Nat) (ps : List PieceM) (e : Int) (A : BrdA) (hsm : ps.length ≤ 4096) (hno : ∀ p ∈ ps, p.lost = false) (s : SentM) :
    Ct Tryz.prog 145 #[.pointer (some ⟨b, 0, none⟩), .agg (sntV s).toArray] [brdG b ps e A] (Gives (.tuple #[.agg #[.int .u64 0, .int .u64 0], .bool false]) [brdG b ps e A]) := by
  have kL := brdLostNone_ct b ps e A hsm hno
  clear hno hsm
  intro w0 F L w hS
  simp only [List.cons_append, List.nil_append] at hS
  go_enter Tryz.func145, Tryz.ntmps145
  go_wp2_with (first | go_skip | (refine ck_load hS rfl rfl rfl (by (repeat (first | exact mH _ | apply mT)) <;> fail) rfl (by decide +kernel) ?_; simp only [Act.put, spA, spZ, spS]) | (refine ck_store hS rfl rfl rfl (by constructor) (by (repeat (first | exact uH _ _ _ | apply uT)) <;> fail) (by simp <;> omega) rfl (by decide +kernel) ?_; clear hS; intro w hS; simp only [Act.put, spA, spZ, spS] at hS ⊢) | (refine ck_box hS rfl rfl (by constructor) ?_; clear hS; intro nb w hS; simp only [Act.put, spA, spZ, spS]) | (have h1 := r4; clear h1; refine ck_alloc (t := 269) (v := .agg #[.int .u64 0, .int .u64 0]) (cs := [.int .u64 0, .int .u64 0]) hS rfl rfl (by kernel_rfl) rfl ?_; clear hS; intro r6 w hS; simp only [Act.put, spA, spZ, spS]) | (refine ck_alloc (t := 269) (v := .agg #[.int .u64 0, .int .u64 0]) (cs := [.int .u64 0, .int .u64 0]) hS rfl rfl (by kernel_rfl) rfl ?_; clear hS; intro r4 w hS; simp only [Act.put, spA, spZ, spS]) | (refine ck_storeAll hS rfl rfl rfl rfl (by (repeat (first | exact uH _ _ _ | apply uT)) <;> fail) (by rfl) rfl (by (try simp only [List.length_cons, List.length_nil, Nat.zero_add, Nat.reduceAdd]); decide +kernel) ?_; clear hS; intro w hS; simp only [Act.put, spA, spZ, spS]) | (refine ck_loadAll hS rfl rfl rfl (by (repeat (first | exact mH _ | apply mT)) <;> fail) rfl (by (try simp only [List.length_cons, List.length_nil, Nat.zero_add, Nat.reduceAdd]); decide +kernel) ?_; simp only [Act.put, spA, spZ, spS]) | (go_at_call 196; (with_reducible refine Ct.callU (kL) (by (repeat (first | exact uH _ _ _ | apply uT)) <;> fail) hS ?_) <;> (first | (clear hS; intro w hS) | omega)) | (refine ck_region (fun _ => 0) (fun _ => []) [] hS (by kernel_rfl) (by decide +kernel) ?_ ?_; exact ⟨fun _ _ _ h => h.2, fun _ _ h => h⟩; clear hS; intro w hS _; (repeat (first | (apply wpT_pure rfl rfl; (intro _; go_simp; (try (go_ints; (try go_simp))); (first | (rw [decide_eq_true]; omega) | (rw [decide_eq_false]; omega) | rfl | rw [if_pos (by omega)])); simp only [Act.put, spA, spZ, spS]) | (refine ckT_load hS rfl rfl rfl (by simp <;> fail) (by (repeat (first | exact mH _ | apply mT)) <;> fail) rfl (by decide +kernel) ?_; simp only [Act.put, spA, spZ, spS]) | (refine ckT_store hS rfl rfl rfl (by constructor) (by (repeat (first | exact uH _ _ _ | apply uT)) <;> fail) (by simp <;> fail) rfl (by decide +kernel) (by simp <;> fail) ?_; clear hS; intro w hS; simp only [Act.put, spA, spZ, spS] at hS ⊢) )); refine wpT_nil ?_))
  refine bodyPost_ret (ckRes_cell_tmp hS (cs := [.int .u64 0, .int .u64 0]) (b := r4) (T := 269) (by (repeat (first | exact mH _ | apply mT)) <;> fail) rfl rfl rfl (by (try simp only [List.length_cons, List.length_nil, Nat.zero_add, Nat.reduceAdd]); decide +kernel)) rfl ?_
  exact ⟨_, ⟨rfl, rfl⟩, hS.dropN 3⟩
set_option maxRecDepth 20000 in
set_option maxHeartbeats 4000000 in
theorem brdSent_ct (b : Nat) (ps : List PieceM) (e to : Int) (A : BrdA) (s : SentM) (hsm : ps.length < 4096) (h1 : e < to) :
    Ct Tryz.prog 148 #[.pointer (some ⟨b, 0, none⟩), .int .u64 e, .int .u64 to, .agg (sntV s).toArray] [brdG b ps e A] (fun v L => v = .int .i64 0 ∧ ∃ A', L = [brdG b (ps ++ [⟨e, to, s, false, false⟩]) to A']) := by
  obtain ⟨a, cp⟩ := A
  obtain ⟨n, hn⟩ : ∃ n, ps.length = n := ⟨_, rfl⟩
  have hfin : ∀ {w0 w : World} {F : List Nat} {L : List Res} {a : Option Addr} {cp : Nat}, Sep w0 F (brdP b a (n + 1) cp to :: rowR a (n + 1) cp 263 9 (pcs ps ++ pcV ⟨e, to, s, false, false⟩) :: L) w → Sep w0 F ([brdG b (ps ++ [⟨e, to, s, false, false⟩]) to ⟨a, cp⟩] ++ L) w := fun {w0 w F L a cp} h => (brdOpen (n := n + 1) (by simp [hn])).2 (by rw [pcs_snoc]; exact h)
  intro w0 F L w hS
  have hS := (brdOpen hn).1 hS
  rw [hn] at hsm
  clear hn
  go_enter Tryz.func148, Tryz.ntmps148
  go_wp2_with (first | go_skip  | (refine ck_load hS rfl rfl rfl (by (repeat (first | exact mH _ | apply mT)) <;> fail) rfl (by decide +kernel) ?_; simp only [Act.put, spA, spZ, spS]) | (refine ck_store hS rfl rfl rfl (by constructor) (by (repeat (first | exact uH _ _ _ | apply uT)) <;> fail) (by simp <;> omega) rfl (by decide +kernel) ?_; clear hS; intro w hS; simp only [Act.put, spA, spZ, spS] at hS ⊢) | (refine ck_box hS rfl rfl (by constructor) ?_; clear hS; intro nb w hS; simp only [Act.put, spA, spZ, spS])  | (refine ck_region (fun _ => 0) (fun _ => []) [] hS (by kernel_rfl) (by decide +kernel) ?_ ?_; exact ⟨fun _ _ _ h => h.2, fun _ _ h => h⟩; clear hS; intro w hS _; (repeat (first | (apply wpT_pure rfl rfl; (intro _; go_simp; (try (go_ints; (try go_simp))); (first | (rw [decide_eq_true]; omega) | (rw [decide_eq_false]; omega) | rfl | rw [if_pos (by omega)])); simp only [Act.put, spA, spZ, spS]) | (refine ckT_load hS rfl rfl rfl (by simp <;> fail) (by (repeat (first | exact mH _ | apply mT)) <;> fail) rfl (by decide +kernel) ?_; simp only [Act.put, spA, spZ, spS]) | (refine ckT_store hS rfl rfl rfl (by constructor) (by (repeat (first | exact uH _ _ _ | apply uT)) <;> fail) (by simp <;> fail) rfl (by decide +kernel) (by simp <;> fail) ?_; clear hS; intro w hS; simp only [Act.put, spA, spZ, spS] at hS ⊢) )); refine wpT_nil ?_) | (refine ck_region (fun _ => b) (fun i => if i = 9 then [4] else []) ([4]) hS (by kernel_rfl) (by decide +kernel) ?_ ?_; exact ⟨fun _ _ _ h => h.2, fun _ _ h => h⟩; clear hS; intro w hS _; (repeat (first | (apply wpT_pure rfl rfl; (intro _; go_simp; (try (go_ints; (try go_simp))); (first | (rw [decide_eq_true]; omega) | (rw [decide_eq_false]; omega) | rfl | rw [if_pos (by omega)])); simp only [Act.put, spA, spZ, spS]) | (refine ckT_load hS rfl rfl rfl (by simp <;> fail) (by (repeat (first | exact mH _ | apply mT)) <;> fail) rfl (by decide +kernel) ?_; simp only [Act.put, spA, spZ, spS]) | (refine ckT_store hS rfl rfl rfl (by constructor) (by (repeat (first | exact uH _ _ _ | apply uT)) <;> fail) (by simp <;> fail) rfl (by decide +kernel) (by simp <;> fail) ?_; clear hS; intro w hS; simp only [Act.put, spA, spZ, spS] at hS ⊢) | (refine ckT_loadAll hS rfl rfl rfl (by simp <;> fail) (by (repeat (first | exact mH _ | apply mT)) <;> fail) rfl (by (try simp only [List.length_cons, List.length_nil, Nat.zero_add, Nat.reduceAdd]); decide +kernel) ?_; simp only [Act.put, spA, spZ, spS]) | (refine ckT_buildE (e := 263) (sz := 9) (news := pcV ⟨e, to, s, false, false⟩) hS rfl rfl rfl rfl (by omega) (by omega) (by decide +kernel) (by intro j hj; simp at hj <;> exact hS.ptsLt (cs := [.slice a n cp, .int .u64 e]) (T := 239) (by (repeat (first | exact mH _ | apply mT)) <;> fail)) ?_; clear hS; intro q w hS; simp only [Act.put, spA, spZ, spS]) | (refine ckT_appendA (e := 263) (sz := 9) (m := 1) (news := pcV ⟨e, to, s, false, false⟩) hS rfl rfl rfl rfl (by (repeat (first | exact rH _ _ | apply rT)) <;> fail) (pts_cells (hS.holds _ (by (repeat (first | exact mH _ | apply mT)) <;> fail))) rfl (by simp [Value.oneCell']) (by omega) (by omega) (by decide +kernel) rfl ?_; clear hS; intro g2 cp2 w hS; simp only [Act.put, spA, spZ, spS]))); refine wpT_nil ?_))
  go_ret
  have j1 := (hS.bring (r := pts nb (sntV s) 261) (by (repeat (first | exact rH _ _ | apply rT)) <;> fail)).drop
  have j2 := (j1.bring (r := pts q (pcV ⟨e, to, s, false, false⟩) 263) (by (repeat (first | exact rH _ _ | apply rT)) <;> fail)).drop
  exact ⟨_, ⟨rfl, ⟨some ⟨g2, 0, none⟩, cp2⟩, rfl⟩, hfin (j2.bring (r := brdP b (some ⟨g2, 0, none⟩) (n + 1) cp2 to) (by (repeat (first | exact rH _ _ | apply rT)) <;> fail))⟩
end Go.Proofs.YtcegknecikbbkaaGreat

/- What winmax's functions come to. -/
set_option linter.unusedVariables false
set_option linter.unusedSimpArgs false
set_option maxRecDepth 4000
namespace Go.Proofs.YtcegknecikbbkaaGreat
open Go.RowKit
abbrev smp (t v : Int) : Value := .agg #[.int .u64 t, .int .u64 v]
abbrev maxR (b : Nat) (win t0 v0 t1 v1 t2 v2 last : Int) : Res := pts b [.int .u64 win, .int .u64 t0, .int .u64 v0, .int .u64 t1, .int .u64 v1, .int .u64 t2, .int .u64 v2, .int .u64 last] 296
theorem maxNew_ct (n : Int) : Ct Tryz.prog 129 #[.int .u64 n] [] (fun v L => ∃ b, v = .pointer (some ⟨b, 0, none⟩) ∧ L = [maxR b n 0 0 0 0 0 0 0]) := by
  intro w0 F L w hS
  simp only [List.cons_append, List.nil_append] at hS
  go_enter Tryz.func129, Tryz.ntmps129
  go_wp2_with (first | go_skip | (refine ck_box hS rfl rfl (by constructor) ?_; clear hS; intro nb w hS; simp only [Act.put, spA, spZ, spS]) )
  go_ret
  exact ⟨_, ⟨_, rfl, rfl⟩, hS⟩
section
variable (b : Nat) (win t0 v0 t1 v1 t2 v2 last t v : Int)
theorem maxNear_ct (h0 : 0 ≤ t) (h1 : t ≤ 18446744073709551615) (h2 : 0 ≤ t0) : Ct Tryz.prog 289 #[.int .u64 t, smp t0 v0, .int .u64 win] [] (Gives (.bool (decide (t - min t t0 ≤ win))) []) := by
  intro w0 F L w hS
  simp only [List.cons_append, List.nil_append] at hS
  go_enter Tryz.func289, Tryz.ntmps289
  go_wp2_with (first | go_skip | (refine ck_load hS rfl rfl rfl (by (repeat (first | exact mH _ | apply mT)) <;> fail) rfl (by decide +kernel) ?_; simp only [Act.put, spA, spZ, spS]) | (refine ck_box hS rfl rfl (by constructor) ?_; clear hS; intro nb w hS; simp only [Act.put, spA, spZ, spS]) | (refine ck_max rfl rfl rfl rfl ?_; simp only [Act.put, spA, spZ, spS]) | (refine ck_min rfl rfl rfl rfl ?_; simp only [Act.put, spA, spZ, spS]) )
  go_ret
  exact ⟨_, ⟨rfl, rfl⟩, hS.drop⟩
theorem maxPush_ct : Ct Tryz.prog 292 #[.pointer (some ⟨b, 0, none⟩), smp t v] [maxR b win t0 v0 t1 v1 t2 v2 last] (Gives (.tuple #[]) [maxR b win t1 v1 t2 v2 t v last]) := by
  intro w0 F L w hS
  simp only [List.cons_append, List.nil_append] at hS
  go_enter Tryz.func292, Tryz.ntmps292
  go_wp2_with (first | go_skip | (refine ck_box hS rfl rfl (by constructor) ?_; clear hS; intro nb w hS; simp only [Act.put, spA, spZ, spS]) | (have hne := hS.ne (b := nb) (c := b) (by simp [pts]) (by simp [pts]); (refine ck_region (fun _ => nb) (fun i => if i = 17 then [13] else if i = 21 then [13] else []) ([13]) hS (by kernel_rfl) (by decide +kernel) ?_ ?_; exact ⟨fun _ _ _ h => h.2, fun _ _ h => h⟩; clear hS; intro w hS _; (repeat (first | (apply wpT_pure rfl rfl; (intro _; go_simp; (try (go_ints; (try go_simp))); (first | (rw [decide_eq_true]; omega) | (rw [decide_eq_false]; omega) | rfl | rw [if_pos (by omega)])); simp only [Act.put, spA, spZ, spS]) | (refine ckT_load hS rfl rfl rfl (by simp <;> fail) (by (repeat (first | exact mH _ | apply mT)) <;> fail) rfl (by decide +kernel) ?_; simp only [Act.put, spA, spZ, spS]) | (refine ckT_store hS rfl rfl rfl (by constructor) (by (repeat (first | exact uH _ _ _ | apply uT)) <;> fail) (by simp <;> fail) rfl (by decide +kernel) (by simp <;> fail) ?_; clear hS; intro w hS; simp only [Act.put, spA, spZ, spS] at hS ⊢) | (refine ckT_loadAll hS rfl rfl rfl (by simp <;> fail) (by (repeat (first | exact mH _ | apply mT)) <;> fail) rfl (by (try simp only [List.length_cons, List.length_nil, Nat.zero_add, Nat.reduceAdd]); decide +kernel) ?_; simp only [Act.put, spA, spZ, spS]) | (refine ckT_loadSub 2 hS rfl rfl rfl (by simp <;> fail) (by (repeat (first | exact mH _ | apply mT)) <;> fail) (by simp <;> fail) (by (try simp only [List.length_cons, List.length_nil, Nat.zero_add, Nat.reduceAdd]); decide +kernel) ?_; simp only [ckPut, List.take_succ_cons, List.take_zero, List.drop_succ_cons, List.drop_zero, List.length_cons, List.length_nil, Nat.reduceAdd, List.cons_append, List.nil_append, List.append_nil]; simp only [Act.put, spA, spZ, spS]) | (refine ckT_storeN hS rfl rfl rfl rfl (by (repeat (first | exact uH _ _ _ | apply uT)) <;> fail) (by simp <;> fail) rfl (by (try simp only [List.length_cons, List.length_nil, Nat.zero_add, Nat.reduceAdd]); decide +kernel) (by intro j hj; simp at hj <;> (first | (subst hj; exact hne) | (rcases hj with rfl | rfl <;> exact hne) | (rcases hj with rfl | rfl | rfl <;> exact hne) | (rcases hj with rfl | rfl | rfl | rfl <;> exact hne))) ?_; clear hS; intro w hS; simp only [ckPut, List.take_succ_cons, List.take_zero, List.drop_succ_cons, List.drop_zero, List.length_cons, List.length_nil, Nat.reduceAdd, List.cons_append, List.nil_append, List.append_nil] at hS; simp only [Act.put, spA, spZ, spS]) | (refine ckT_storeN hS rfl rfl rfl rfl (by (repeat (first | exact uH _ _ _ | apply uT)) <;> fail) (by simp <;> fail) rfl (by (try simp only [List.length_cons, List.length_nil, Nat.zero_add, Nat.reduceAdd]); decide +kernel) (by simp <;> fail) ?_; clear hS; intro w hS; simp only [ckPut, List.take_succ_cons, List.take_zero, List.drop_succ_cons, List.drop_zero, List.length_cons, List.length_nil, Nat.reduceAdd, List.cons_append, List.nil_append, List.append_nil] at hS; simp only [Act.put, spA, spZ, spS]))); refine wpT_nil ?_)) | (refine ck_region (fun _ => 0) (fun _ => []) [] hS (by kernel_rfl) (by decide +kernel) ?_ ?_; exact ⟨fun _ _ _ h => h.2, fun _ _ h => h⟩; clear hS; intro w hS _; (repeat (first | (apply wpT_pure rfl rfl; (intro _; go_simp; (try (go_ints; (try go_simp))); (first | (rw [decide_eq_true]; omega) | (rw [decide_eq_false]; omega) | rfl | rw [if_pos (by omega)])); simp only [Act.put, spA, spZ, spS]) | (refine ckT_load hS rfl rfl rfl (by simp <;> fail) (by (repeat (first | exact mH _ | apply mT)) <;> fail) rfl (by decide +kernel) ?_; simp only [Act.put, spA, spZ, spS]) | (refine ckT_store hS rfl rfl rfl (by constructor) (by (repeat (first | exact uH _ _ _ | apply uT)) <;> fail) (by simp <;> fail) rfl (by decide +kernel) (by simp <;> fail) ?_; clear hS; intro w hS; simp only [Act.put, spA, spZ, spS] at hS ⊢) )); refine wpT_nil ?_))
  refine bodyPost_end (results_none rfl _ _ _) rfl ?_
  exact ⟨_, ⟨rfl, rfl⟩, hS.drop⟩
theorem maxAll0_ct : Ct Tryz.prog 291 #[.pointer (some ⟨b, 0, none⟩), .int .i64 0, smp t v] [maxR b win t0 v0 t1 v1 t2 v2 last] (Gives (.tuple #[]) [maxR b win t v t v t v last]) := by
  intro w0 F L w hS
  simp only [List.cons_append, List.nil_append] at hS
  go_enter Tryz.func291, Tryz.ntmps291
  go_wp2_with (first | go_skip | (refine ck_box hS rfl rfl (by constructor) ?_; clear hS; intro nb w hS; simp only [Act.put, spA, spZ, spS])  | (refine ck_region (fun _ => 0) (fun _ => []) [] hS (by kernel_rfl) (by decide +kernel) ?_ ?_; exact ⟨fun _ _ _ h => h.2, fun _ _ h => h⟩; clear hS; intro w hS _; (repeat (first | (apply wpT_pure rfl rfl; (intro _; go_simp; (try (go_ints; (try go_simp))); (first | (rw [decide_eq_true]; omega) | (rw [decide_eq_false]; omega) | rfl | rw [if_pos (by omega)])); simp only [Act.put, spA, spZ, spS]) | (refine ckT_load hS rfl rfl rfl (by simp <;> fail) (by (repeat (first | exact mH _ | apply mT)) <;> fail) rfl (by decide +kernel) ?_; simp only [Act.put, spA, spZ, spS]) | (refine ckT_store hS rfl rfl rfl (by constructor) (by (repeat (first | exact uH _ _ _ | apply uT)) <;> fail) (by simp <;> fail) rfl (by decide +kernel) (by simp <;> fail) ?_; clear hS; intro w hS; simp only [Act.put, spA, spZ, spS] at hS ⊢) )); refine wpT_nil ?_))
  refine wp_loop_rounds 4 ?_; rw [rounds_succ]
  go_wp2_with (first | go_skip | (refine ck_box hS rfl rfl (by constructor) ?_; clear hS; intro nb w hS; simp only [Act.put, spA, spZ, spS]) | (with_reducible rw [rounds_succ]) | (refine ck_region (fun _ => 0) (fun _ => []) [] hS (by kernel_rfl) (by decide +kernel) ?_ ?_; exact ⟨fun _ _ _ h => h.2, fun _ _ h => h⟩; clear hS; intro w hS _; (repeat (first | (apply wpT_pure rfl rfl; (intro _; go_simp; (try (go_ints; (try go_simp))); (first | (rw [decide_eq_true]; omega) | (rw [decide_eq_false]; omega) | rfl | rw [if_pos (by omega)])); simp only [Act.put, spA, spZ, spS]) | (refine ckT_load hS rfl rfl rfl (by simp <;> fail) (by (repeat (first | exact mH _ | apply mT)) <;> fail) rfl (by decide +kernel) ?_; simp only [Act.put, spA, spZ, spS]) | (refine ckT_store hS rfl rfl rfl (by constructor) (by (repeat (first | exact uH _ _ _ | apply uT)) <;> fail) (by simp <;> fail) rfl (by decide +kernel) (by simp <;> fail) ?_; clear hS; intro w hS; simp only [Act.put, spA, spZ, spS] at hS ⊢) | (refine ckT_loadAll hS rfl rfl rfl (by simp <;> fail) (by (repeat (first | exact mH _ | apply mT)) <;> fail) rfl (by (try simp only [List.length_cons, List.length_nil, Nat.zero_add, Nat.reduceAdd]); decide +kernel) ?_; simp only [Act.put, spA, spZ, spS]) | (refine ckT_storeN hS rfl rfl rfl rfl (by (repeat (first | exact uH _ _ _ | apply uT)) <;> fail) (by simp <;> fail) rfl (by (try simp only [List.length_cons, List.length_nil, Nat.zero_add, Nat.reduceAdd]); decide +kernel) (by simp <;> fail) ?_; clear hS; intro w hS; simp only [ckPut, List.take_succ_cons, List.take_zero, List.drop_succ_cons, List.drop_zero, List.length_cons, List.length_nil, Nat.reduceAdd, List.cons_append, List.nil_append, List.append_nil] at hS; simp only [Act.put, spA, spZ, spS]))); refine wpT_nil ?_))
  refine bodyPost_end (results_none rfl _ _ _) rfl ?_
  exact ⟨_, ⟨rfl, rfl⟩, hS.drop⟩
theorem maxAll1_ct : Ct Tryz.prog 291 #[.pointer (some ⟨b, 0, none⟩), .int .i64 1, smp t v] [maxR b win t0 v0 t1 v1 t2 v2 last] (Gives (.tuple #[]) [maxR b win t0 v0 t v t v last]) := by
  intro w0 F L w hS
  simp only [List.cons_append, List.nil_append] at hS
  go_enter Tryz.func291, Tryz.ntmps291
  go_wp2_with (first | go_skip | (refine ck_box hS rfl rfl (by constructor) ?_; clear hS; intro nb w hS; simp only [Act.put, spA, spZ, spS])  | (refine ck_region (fun _ => 0) (fun _ => []) [] hS (by kernel_rfl) (by decide +kernel) ?_ ?_; exact ⟨fun _ _ _ h => h.2, fun _ _ h => h⟩; clear hS; intro w hS _; (repeat (first | (apply wpT_pure rfl rfl; (intro _; go_simp; (try (go_ints; (try go_simp))); (first | (rw [decide_eq_true]; omega) | (rw [decide_eq_false]; omega) | rfl | rw [if_pos (by omega)])); simp only [Act.put, spA, spZ, spS]) | (refine ckT_load hS rfl rfl rfl (by simp <;> fail) (by (repeat (first | exact mH _ | apply mT)) <;> fail) rfl (by decide +kernel) ?_; simp only [Act.put, spA, spZ, spS]) | (refine ckT_store hS rfl rfl rfl (by constructor) (by (repeat (first | exact uH _ _ _ | apply uT)) <;> fail) (by simp <;> fail) rfl (by decide +kernel) (by simp <;> fail) ?_; clear hS; intro w hS; simp only [Act.put, spA, spZ, spS] at hS ⊢) )); refine wpT_nil ?_))
  refine wp_loop_rounds 3 ?_; rw [rounds_succ]
  go_wp2_with (first | go_skip | (refine ck_box hS rfl rfl (by constructor) ?_; clear hS; intro nb w hS; simp only [Act.put, spA, spZ, spS]) | (with_reducible rw [rounds_succ]) | (refine ck_region (fun _ => 0) (fun _ => []) [] hS (by kernel_rfl) (by decide +kernel) ?_ ?_; exact ⟨fun _ _ _ h => h.2, fun _ _ h => h⟩; clear hS; intro w hS _; (repeat (first | (apply wpT_pure rfl rfl; (intro _; go_simp; (try (go_ints; (try go_simp))); (first | (rw [decide_eq_true]; omega) | (rw [decide_eq_false]; omega) | rfl | rw [if_pos (by omega)])); simp only [Act.put, spA, spZ, spS]) | (refine ckT_load hS rfl rfl rfl (by simp <;> fail) (by (repeat (first | exact mH _ | apply mT)) <;> fail) rfl (by decide +kernel) ?_; simp only [Act.put, spA, spZ, spS]) | (refine ckT_store hS rfl rfl rfl (by constructor) (by (repeat (first | exact uH _ _ _ | apply uT)) <;> fail) (by simp <;> fail) rfl (by decide +kernel) (by simp <;> fail) ?_; clear hS; intro w hS; simp only [Act.put, spA, spZ, spS] at hS ⊢) | (refine ckT_loadAll hS rfl rfl rfl (by simp <;> fail) (by (repeat (first | exact mH _ | apply mT)) <;> fail) rfl (by (try simp only [List.length_cons, List.length_nil, Nat.zero_add, Nat.reduceAdd]); decide +kernel) ?_; simp only [Act.put, spA, spZ, spS]) | (refine ckT_storeN hS rfl rfl rfl rfl (by (repeat (first | exact uH _ _ _ | apply uT)) <;> fail) (by simp <;> fail) rfl (by (try simp only [List.length_cons, List.length_nil, Nat.zero_add, Nat.reduceAdd]); decide +kernel) (by simp <;> fail) ?_; clear hS; intro w hS; simp only [ckPut, List.take_succ_cons, List.take_zero, List.drop_succ_cons, List.drop_zero, List.length_cons, List.length_nil, Nat.reduceAdd, List.cons_append, List.nil_append, List.append_nil] at hS; simp only [Act.put, spA, spZ, spS]))); refine wpT_nil ?_))
  refine bodyPost_end (results_none rfl _ _ _) rfl ?_
  exact ⟨_, ⟨rfl, rfl⟩, hS.drop⟩
theorem maxAll2_ct : Ct Tryz.prog 291 #[.pointer (some ⟨b, 0, none⟩), .int .i64 2, smp t v] [maxR b win t0 v0 t1 v1 t2 v2 last] (Gives (.tuple #[]) [maxR b win t0 v0 t1 v1 t v last]) := by
  intro w0 F L w hS
  simp only [List.cons_append, List.nil_append] at hS
  go_enter Tryz.func291, Tryz.ntmps291
  go_wp2_with (first | go_skip | (refine ck_box hS rfl rfl (by constructor) ?_; clear hS; intro nb w hS; simp only [Act.put, spA, spZ, spS])  | (refine ck_region (fun _ => 0) (fun _ => []) [] hS (by kernel_rfl) (by decide +kernel) ?_ ?_; exact ⟨fun _ _ _ h => h.2, fun _ _ h => h⟩; clear hS; intro w hS _; (repeat (first | (apply wpT_pure rfl rfl; (intro _; go_simp; (try (go_ints; (try go_simp))); (first | (rw [decide_eq_true]; omega) | (rw [decide_eq_false]; omega) | rfl | rw [if_pos (by omega)])); simp only [Act.put, spA, spZ, spS]) | (refine ckT_load hS rfl rfl rfl (by simp <;> fail) (by (repeat (first | exact mH _ | apply mT)) <;> fail) rfl (by decide +kernel) ?_; simp only [Act.put, spA, spZ, spS]) | (refine ckT_store hS rfl rfl rfl (by constructor) (by (repeat (first | exact uH _ _ _ | apply uT)) <;> fail) (by simp <;> fail) rfl (by decide +kernel) (by simp <;> fail) ?_; clear hS; intro w hS; simp only [Act.put, spA, spZ, spS] at hS ⊢) )); refine wpT_nil ?_))
  refine wp_loop_rounds 2 ?_; rw [rounds_succ]
  go_wp2_with (first | go_skip | (refine ck_box hS rfl rfl (by constructor) ?_; clear hS; intro nb w hS; simp only [Act.put, spA, spZ, spS]) | (with_reducible rw [rounds_succ]) | (refine ck_region (fun _ => 0) (fun _ => []) [] hS (by kernel_rfl) (by decide +kernel) ?_ ?_; exact ⟨fun _ _ _ h => h.2, fun _ _ h => h⟩; clear hS; intro w hS _; (repeat (first | (apply wpT_pure rfl rfl; (intro _; go_simp; (try (go_ints; (try go_simp))); (first | (rw [decide_eq_true]; omega) | (rw [decide_eq_false]; omega) | rfl | rw [if_pos (by omega)])); simp only [Act.put, spA, spZ, spS]) | (refine ckT_load hS rfl rfl rfl (by simp <;> fail) (by (repeat (first | exact mH _ | apply mT)) <;> fail) rfl (by decide +kernel) ?_; simp only [Act.put, spA, spZ, spS]) | (refine ckT_store hS rfl rfl rfl (by constructor) (by (repeat (first | exact uH _ _ _ | apply uT)) <;> fail) (by simp <;> fail) rfl (by decide +kernel) (by simp <;> fail) ?_; clear hS; intro w hS; simp only [Act.put, spA, spZ, spS] at hS ⊢) | (refine ckT_loadAll hS rfl rfl rfl (by simp <;> fail) (by (repeat (first | exact mH _ | apply mT)) <;> fail) rfl (by (try simp only [List.length_cons, List.length_nil, Nat.zero_add, Nat.reduceAdd]); decide +kernel) ?_; simp only [Act.put, spA, spZ, spS]) | (refine ckT_storeN hS rfl rfl rfl rfl (by (repeat (first | exact uH _ _ _ | apply uT)) <;> fail) (by simp <;> fail) rfl (by (try simp only [List.length_cons, List.length_nil, Nat.zero_add, Nat.reduceAdd]); decide +kernel) (by simp <;> fail) ?_; clear hS; intro w hS; simp only [ckPut, List.take_succ_cons, List.take_zero, List.drop_succ_cons, List.drop_zero, List.length_cons, List.length_nil, Nat.reduceAdd, List.cons_append, List.nil_append, List.append_nil] at hS; simp only [Act.put, spA, spZ, spS]))); refine wpT_nil ?_))
  refine bodyPost_end (results_none rfl _ _ _) rfl ?_
  exact ⟨_, ⟨rfl, rfl⟩, hS.drop⟩
theorem maxReset_ct (h0 : 0 ≤ last) (h1 : 0 ≤ t) : Ct Tryz.prog 290 #[.pointer (some ⟨b, 0, none⟩), .int .u64 t, .int .u64 v] [maxR b win t0 v0 t1 v1 t2 v2 last] (Gives (.tuple #[]) [maxR b win t v t v t v (max last t)]) := by
  intro w0 F L w hS
  simp only [List.cons_append, List.nil_append] at hS
  go_enter Tryz.func290, Tryz.ntmps290
  go_wp2_with (first | go_skip | (refine ck_load hS rfl rfl rfl (by (repeat (first | exact mH _ | apply mT)) <;> fail) rfl (by decide +kernel) ?_; simp only [Act.put, spA, spZ, spS]) | (refine ck_store hS rfl rfl rfl (by constructor) (by (repeat (first | exact uH _ _ _ | apply uT)) <;> fail) (by simp <;> omega) rfl (by decide +kernel) ?_; clear hS; intro w hS; simp only [Act.put, spA, spZ, spS] at hS ⊢) | (refine ck_max rfl rfl rfl rfl ?_; simp only [Act.put, spA, spZ, spS]) | (refine ck_min rfl rfl rfl rfl ?_; simp only [Act.put, spA, spZ, spS]) | (go_at_call 291; (with_reducible refine Ct.callU (maxAll0_ct _ _ _ _ _ _ _ _ _ _ _) (by (repeat (first | exact uH _ _ _ | apply uT)) <;> fail) hS ?_) <;> (first | (clear hS; intro w hS) | omega)))
  refine bodyPost_end (results_none rfl _ _ _) rfl ?_
  exact ⟨_, ⟨rfl, rfl⟩, hS⟩
theorem maxBest_ct : Ct Tryz.prog 234 #[.pointer (some ⟨b, 0, none⟩)] [maxR b win t0 v0 t1 v1 t2 v2 last] (Gives (.int .u64 v0) [maxR b win t0 v0 t1 v1 t2 v2 last]) := by
  intro w0 F L w hS
  simp only [List.cons_append, List.nil_append] at hS
  go_enter Tryz.func234, Tryz.ntmps234
  go_wp2_with (first | go_skip | (refine ck_load hS rfl rfl rfl (by (repeat (first | exact mH _ | apply mT)) <;> fail) rfl (by decide +kernel) ?_; simp only [Act.put, spA, spZ, spS]) )
  go_ret
  exact ⟨_, ⟨rfl, rfl⟩, hS⟩
end
end Go.Proofs.YtcegknecikbbkaaGreat

/- What rounds and its reference come to. -/
set_option linter.unusedVariables false
set_option linter.unusedSimpArgs false
set_option maxRecDepth 4000
namespace Go.Proofs.YtcegknecikbbkaaGreat
open Go.RowKit
abbrev smpV (a0 a1 a2 a3 a4 a5 a6 a7 : Int) (a8 : Bool) : Value := .agg #[.int .u64 a0, .int .u64 a1, .int .u64 a2, .int .u64 a3, .int .u64 a4, .int .u64 a5, .int .u64 a6, .int .u64 a7, .bool a8]
abbrev rndR (b : Nat) (n nx : Int) : Res := pts b [.int .u64 n, .int .u64 nx] 298
abbrev refRndR (b : Nat) (n nx : Int) : Res := pts b [.int .u64 n, .int .u64 nx] 213
theorem rndNew_ct : Ct Tryz.prog 130 #[] [] (fun v L => ∃ b, v = .pointer (some ⟨b, 0, none⟩) ∧ L = [rndR b 0 0]) := by
  intro w0 F L w hS
  simp only [List.cons_append, List.nil_append] at hS
  go_enter Tryz.func130, Tryz.ntmps130
  go_wp2_with (first | go_skip | (refine ck_box hS rfl rfl (by constructor) ?_; clear hS; intro nb w hS; simp only [Act.put, spA, spZ, spS]) )
  go_ret
  exact ⟨_, ⟨_, rfl, rfl⟩, hS⟩
section
variable (b : Nat) (n nx a0 a1 a2 a3 a4 a5 a6 a7 : Int) (a8 : Bool)
theorem rndCount_ct : Ct Tryz.prog 183 #[.pointer (some ⟨b, 0, none⟩)] [rndR b n nx] (Gives (.int .u64 n) [rndR b n nx]) := by
  intro w0 F L w hS
  simp only [List.cons_append, List.nil_append] at hS
  go_enter Tryz.func183, Tryz.ntmps183
  go_wp2_with (first | go_skip | (refine ck_load hS rfl rfl rfl (by (repeat (first | exact mH _ | apply mT)) <;> fail) rfl (by decide +kernel) ?_; simp only [Act.put, spA, spZ, spS]) )
  go_ret
  exact ⟨_, ⟨rfl, rfl⟩, hS⟩
theorem rndCountZ_ct : Ct Tryz.prog 183 #[.pointer none] [] (Gives (.int .u64 0) []) := by
  intro w0 F L w hS
  simp only [List.cons_append, List.nil_append] at hS
  go_enter Tryz.func183, Tryz.ntmps183
  go_wp2_with (first | go_skip | (refine ck_load hS rfl rfl rfl (by (repeat (first | exact mH _ | apply mT)) <;> fail) rfl (by decide +kernel) ?_; simp only [Act.put, spA, spZ, spS]) )
  go_ret
  exact ⟨_, ⟨rfl, rfl⟩, hS⟩
theorem rndUpdZ_ct : Ct Tryz.prog 239 #[.pointer none, smpV a0 a1 a2 a3 a4 a5 a6 a7 a8] [] (Gives (.bool false) []) := by
  intro w0 F L w hS
  simp only [List.cons_append, List.nil_append] at hS
  go_enter Tryz.func239, Tryz.ntmps239
  go_wp2_with (first | go_skip | (refine ck_load hS rfl rfl rfl (by (repeat (first | exact mH _ | apply mT)) <;> fail) rfl (by decide +kernel) ?_; simp only [Act.put, spA, spZ, spS]) | (refine ck_store hS rfl rfl rfl (by constructor) (by (repeat (first | exact uH _ _ _ | apply uT)) <;> fail) (by simp <;> omega) rfl (by decide +kernel) ?_; clear hS; intro w hS; simp only [Act.put, spA, spZ, spS] at hS ⊢) | (refine ck_box hS rfl rfl (by constructor) ?_; clear hS; intro nb w hS; simp only [Act.put, spA, spZ, spS])  | (refine ck_region (fun _ => 0) (fun _ => []) [] hS (by kernel_rfl) (by decide +kernel) ?_ ?_; exact ⟨fun _ _ _ h => h.2, fun _ _ h => h⟩; clear hS; intro w hS _; (repeat (first | (apply wpT_pure rfl rfl; (intro _; go_simp; (try (go_ints; (try go_simp))); (first | (rw [decide_eq_true]; omega) | (rw [decide_eq_false]; omega) | rfl | rw [if_pos (by omega)])); simp only [Act.put, spA, spZ, spS]) | (refine ckT_load hS rfl rfl rfl (by simp <;> fail) (by (repeat (first | exact mH _ | apply mT)) <;> fail) rfl (by decide +kernel) ?_; simp only [Act.put, spA, spZ, spS]) )); refine wpT_nil ?_))
  go_step3
  go_wp2_with (first | go_skip | (refine ck_load hS rfl rfl rfl (by (repeat (first | exact mH _ | apply mT)) <;> fail) rfl (by decide +kernel) ?_; simp only [Act.put, spA, spZ, spS]) | (refine ck_store hS rfl rfl rfl (by constructor) (by (repeat (first | exact uH _ _ _ | apply uT)) <;> fail) (by simp <;> omega) rfl (by decide +kernel) ?_; clear hS; intro w hS; simp only [Act.put, spA, spZ, spS] at hS ⊢) | (refine ck_box hS rfl rfl (by constructor) ?_; clear hS; intro nb w hS; simp only [Act.put, spA, spZ, spS])  | (refine ck_region (fun _ => 0) (fun _ => []) [] hS (by kernel_rfl) (by decide +kernel) ?_ ?_; exact ⟨fun _ _ _ h => h.2, fun _ _ h => h⟩; clear hS; intro w hS _; (repeat (first | (apply wpT_pure rfl rfl; (intro _; go_simp; (try (go_ints; (try go_simp))); (first | (rw [decide_eq_true]; omega) | (rw [decide_eq_false]; omega) | rfl | rw [if_pos (by omega)])); simp only [Act.put, spA, spZ, spS]) | (refine ckT_load hS rfl rfl rfl (by simp <;> fail) (by (repeat (first | exact mH _ | apply mT)) <;> fail) rfl (by decide +kernel) ?_; simp only [Act.put, spA, spZ, spS]) )); refine wpT_nil ?_))
  go_step3
  go_wp2_with (first | go_skip | (refine ck_load hS rfl rfl rfl (by (repeat (first | exact mH _ | apply mT)) <;> fail) rfl (by decide +kernel) ?_; simp only [Act.put, spA, spZ, spS]) | (refine ck_store hS rfl rfl rfl (by constructor) (by (repeat (first | exact uH _ _ _ | apply uT)) <;> fail) (by simp <;> omega) rfl (by decide +kernel) ?_; clear hS; intro w hS; simp only [Act.put, spA, spZ, spS] at hS ⊢) | (refine ck_box hS rfl rfl (by constructor) ?_; clear hS; intro nb w hS; simp only [Act.put, spA, spZ, spS])  | (refine ck_region (fun _ => 0) (fun _ => []) [] hS (by kernel_rfl) (by decide +kernel) ?_ ?_; exact ⟨fun _ _ _ h => h.2, fun _ _ h => h⟩; clear hS; intro w hS _; (repeat (first | (apply wpT_pure rfl rfl; (intro _; go_simp; (try (go_ints; (try go_simp))); (first | (rw [decide_eq_true]; omega) | (rw [decide_eq_false]; omega) | rfl | rw [if_pos (by omega)])); simp only [Act.put, spA, spZ, spS]) | (refine ckT_load hS rfl rfl rfl (by simp <;> fail) (by (repeat (first | exact mH _ | apply mT)) <;> fail) rfl (by decide +kernel) ?_; simp only [Act.put, spA, spZ, spS]) )); refine wpT_nil ?_))
  refine wp_loop_once ?_
  go_wp2_with (first | go_skip | (refine ck_load hS rfl rfl rfl (by (repeat (first | exact mH _ | apply mT)) <;> fail) rfl (by decide +kernel) ?_; simp only [Act.put, spA, spZ, spS]) | (refine ck_store hS rfl rfl rfl (by constructor) (by (repeat (first | exact uH _ _ _ | apply uT)) <;> fail) (by simp <;> omega) rfl (by decide +kernel) ?_; clear hS; intro w hS; simp only [Act.put, spA, spZ, spS] at hS ⊢) | (refine ck_box hS rfl rfl (by constructor) ?_; clear hS; intro nb w hS; simp only [Act.put, spA, spZ, spS])  | (refine ck_region (fun _ => 0) (fun _ => []) [] hS (by kernel_rfl) (by decide +kernel) ?_ ?_; exact ⟨fun _ _ _ h => h.2, fun _ _ h => h⟩; clear hS; intro w hS _; (repeat (first | (apply wpT_pure rfl rfl; (intro _; go_simp; (try (go_ints; (try go_simp))); (first | (rw [decide_eq_true]; omega) | (rw [decide_eq_false]; omega) | rfl | rw [if_pos (by omega)])); simp only [Act.put, spA, spZ, spS]) | (refine ckT_load hS rfl rfl rfl (by simp <;> fail) (by (repeat (first | exact mH _ | apply mT)) <;> fail) rfl (by decide +kernel) ?_; simp only [Act.put, spA, spZ, spS]) )); refine wpT_nil ?_))
  rw [Exit.noGoto_ret]
  go_ret
  exact ⟨_, ⟨rfl, rfl⟩, hS.drop⟩
theorem rndHit_ct (h5 : 0 < a5) (h2 : nx ≤ a2) (hn0 : 0 ≤ n) (hn1 : n < 1000000000000) : Ct Tryz.prog 239 #[.pointer (some ⟨b, 0, none⟩), smpV a0 a1 a2 a3 a4 a5 a6 a7 a8] [rndR b n nx] (Gives (.bool true) [rndR b (n + 1) a1]) := by
  intro w0 F L w hS
  simp only [List.cons_append, List.nil_append] at hS
  go_enter Tryz.func239, Tryz.ntmps239
  go_wp2_with (first | go_skip | (refine ck_load hS rfl rfl rfl (by (repeat (first | exact mH _ | apply mT)) <;> fail) rfl (by decide +kernel) ?_; simp only [Act.put, spA, spZ, spS]) | (refine ck_store hS rfl rfl rfl (by constructor) (by (repeat (first | exact uH _ _ _ | apply uT)) <;> fail) (by simp <;> omega) rfl (by decide +kernel) ?_; clear hS; intro w hS; simp only [Act.put, spA, spZ, spS] at hS ⊢) | (refine ck_box hS rfl rfl (by constructor) ?_; clear hS; intro nb w hS; simp only [Act.put, spA, spZ, spS])  | (refine ck_region (fun _ => 0) (fun _ => []) [] hS (by kernel_rfl) (by decide +kernel) ?_ ?_; exact ⟨fun _ _ _ h => h.2, fun _ _ h => h⟩; clear hS; intro w hS _; (repeat (first | (apply wpT_pure rfl rfl; (intro _; go_simp; (try (go_ints; (try go_simp))); (first | (rw [decide_eq_true]; omega) | (rw [decide_eq_false]; omega) | rfl | rw [if_pos (by omega)])); simp only [Act.put, spA, spZ, spS]) | (refine ckT_load hS rfl rfl rfl (by simp <;> fail) (by (repeat (first | exact mH _ | apply mT)) <;> fail) rfl (by decide +kernel) ?_; simp only [Act.put, spA, spZ, spS]) )); refine wpT_nil ?_))
  go_step3
  go_wp2_with (first | go_skip | (refine ck_load hS rfl rfl rfl (by (repeat (first | exact mH _ | apply mT)) <;> fail) rfl (by decide +kernel) ?_; simp only [Act.put, spA, spZ, spS]) | (refine ck_store hS rfl rfl rfl (by constructor) (by (repeat (first | exact uH _ _ _ | apply uT)) <;> fail) (by simp <;> omega) rfl (by decide +kernel) ?_; clear hS; intro w hS; simp only [Act.put, spA, spZ, spS] at hS ⊢) | (refine ck_box hS rfl rfl (by constructor) ?_; clear hS; intro nb w hS; simp only [Act.put, spA, spZ, spS])  | (refine ck_region (fun _ => 0) (fun _ => []) [] hS (by kernel_rfl) (by decide +kernel) ?_ ?_; exact ⟨fun _ _ _ h => h.2, fun _ _ h => h⟩; clear hS; intro w hS _; (repeat (first | (apply wpT_pure rfl rfl; (intro _; go_simp; (try (go_ints; (try go_simp))); (first | (rw [decide_eq_true]; omega) | (rw [decide_eq_false]; omega) | rfl | rw [if_pos (by omega)])); simp only [Act.put, spA, spZ, spS]) | (refine ckT_load hS rfl rfl rfl (by simp <;> fail) (by (repeat (first | exact mH _ | apply mT)) <;> fail) rfl (by decide +kernel) ?_; simp only [Act.put, spA, spZ, spS]) )); refine wpT_nil ?_))
  go_step3
  go_wp2_with (first | go_skip | (refine ck_load hS rfl rfl rfl (by (repeat (first | exact mH _ | apply mT)) <;> fail) rfl (by decide +kernel) ?_; simp only [Act.put, spA, spZ, spS]) | (refine ck_store hS rfl rfl rfl (by constructor) (by (repeat (first | exact uH _ _ _ | apply uT)) <;> fail) (by simp <;> omega) rfl (by decide +kernel) ?_; clear hS; intro w hS; simp only [Act.put, spA, spZ, spS] at hS ⊢) | (refine ck_box hS rfl rfl (by constructor) ?_; clear hS; intro nb w hS; simp only [Act.put, spA, spZ, spS])  | (refine ck_region (fun _ => 0) (fun _ => []) [] hS (by kernel_rfl) (by decide +kernel) ?_ ?_; exact ⟨fun _ _ _ h => h.2, fun _ _ h => h⟩; clear hS; intro w hS _; (repeat (first | (apply wpT_pure rfl rfl; (intro _; go_simp; (try (go_ints; (try go_simp))); (first | (rw [decide_eq_true]; omega) | (rw [decide_eq_false]; omega) | rfl | rw [if_pos (by omega)])); simp only [Act.put, spA, spZ, spS]) | (refine ckT_load hS rfl rfl rfl (by simp <;> fail) (by (repeat (first | exact mH _ | apply mT)) <;> fail) rfl (by decide +kernel) ?_; simp only [Act.put, spA, spZ, spS]) )); refine wpT_nil ?_))
  refine wp_loop_once ?_
  go_wp2_with (first | go_skip | (refine ck_load hS rfl rfl rfl (by (repeat (first | exact mH _ | apply mT)) <;> fail) rfl (by decide +kernel) ?_; simp only [Act.put, spA, spZ, spS]) | (refine ck_store hS rfl rfl rfl (by constructor) (by (repeat (first | exact uH _ _ _ | apply uT)) <;> fail) (by simp <;> omega) rfl (by decide +kernel) ?_; clear hS; intro w hS; simp only [Act.put, spA, spZ, spS] at hS ⊢) | (refine ck_box hS rfl rfl (by constructor) ?_; clear hS; intro nb w hS; simp only [Act.put, spA, spZ, spS])  | (refine ck_region (fun _ => 0) (fun _ => []) [] hS (by kernel_rfl) (by decide +kernel) ?_ ?_; exact ⟨fun _ _ _ h => h.2, fun _ _ h => h⟩; clear hS; intro w hS _; (repeat (first | (apply wpT_pure rfl rfl; (intro _; go_simp; (try (go_ints; (try go_simp))); (first | (rw [decide_eq_true]; omega) | (rw [decide_eq_false]; omega) | rfl | rw [if_pos (by omega)])); simp only [Act.put, spA, spZ, spS]) | (refine ckT_load hS rfl rfl rfl (by simp <;> fail) (by (repeat (first | exact mH _ | apply mT)) <;> fail) rfl (by decide +kernel) ?_; simp only [Act.put, spA, spZ, spS]) )); refine wpT_nil ?_))
  rw [Exit.noGoto_ret]
  go_ret
  exact ⟨_, ⟨rfl, rfl⟩, hS.drop⟩
theorem rndMiss1_ct (h5 : a5 ≤ 0) : Ct Tryz.prog 239 #[.pointer (some ⟨b, 0, none⟩), smpV a0 a1 a2 a3 a4 a5 a6 a7 a8] [rndR b n nx] (Gives (.bool false) [rndR b n nx]) := by
  intro w0 F L w hS
  simp only [List.cons_append, List.nil_append] at hS
  go_enter Tryz.func239, Tryz.ntmps239
  go_wp2_with (first | go_skip | (refine ck_load hS rfl rfl rfl (by (repeat (first | exact mH _ | apply mT)) <;> fail) rfl (by decide +kernel) ?_; simp only [Act.put, spA, spZ, spS]) | (refine ck_store hS rfl rfl rfl (by constructor) (by (repeat (first | exact uH _ _ _ | apply uT)) <;> fail) (by simp <;> omega) rfl (by decide +kernel) ?_; clear hS; intro w hS; simp only [Act.put, spA, spZ, spS] at hS ⊢) | (refine ck_box hS rfl rfl (by constructor) ?_; clear hS; intro nb w hS; simp only [Act.put, spA, spZ, spS])  | (refine ck_region (fun _ => 0) (fun _ => []) [] hS (by kernel_rfl) (by decide +kernel) ?_ ?_; exact ⟨fun _ _ _ h => h.2, fun _ _ h => h⟩; clear hS; intro w hS _; (repeat (first | (apply wpT_pure rfl rfl; (intro _; go_simp; (try (go_ints; (try go_simp))); (first | (rw [decide_eq_true]; omega) | (rw [decide_eq_false]; omega) | rfl | rw [if_pos (by omega)])); simp only [Act.put, spA, spZ, spS]) | (refine ckT_load hS rfl rfl rfl (by simp <;> fail) (by (repeat (first | exact mH _ | apply mT)) <;> fail) rfl (by decide +kernel) ?_; simp only [Act.put, spA, spZ, spS]) )); refine wpT_nil ?_))
  go_step3
  go_wp2_with (first | go_skip | (refine ck_load hS rfl rfl rfl (by (repeat (first | exact mH _ | apply mT)) <;> fail) rfl (by decide +kernel) ?_; simp only [Act.put, spA, spZ, spS]) | (refine ck_store hS rfl rfl rfl (by constructor) (by (repeat (first | exact uH _ _ _ | apply uT)) <;> fail) (by simp <;> omega) rfl (by decide +kernel) ?_; clear hS; intro w hS; simp only [Act.put, spA, spZ, spS] at hS ⊢) | (refine ck_box hS rfl rfl (by constructor) ?_; clear hS; intro nb w hS; simp only [Act.put, spA, spZ, spS])  | (refine ck_region (fun _ => 0) (fun _ => []) [] hS (by kernel_rfl) (by decide +kernel) ?_ ?_; exact ⟨fun _ _ _ h => h.2, fun _ _ h => h⟩; clear hS; intro w hS _; (repeat (first | (apply wpT_pure rfl rfl; (intro _; go_simp; (try (go_ints; (try go_simp))); (first | (rw [decide_eq_true]; omega) | (rw [decide_eq_false]; omega) | rfl | rw [if_pos (by omega)])); simp only [Act.put, spA, spZ, spS]) | (refine ckT_load hS rfl rfl rfl (by simp <;> fail) (by (repeat (first | exact mH _ | apply mT)) <;> fail) rfl (by decide +kernel) ?_; simp only [Act.put, spA, spZ, spS]) )); refine wpT_nil ?_))
  go_step3
  go_wp2_with (first | go_skip | (refine ck_load hS rfl rfl rfl (by (repeat (first | exact mH _ | apply mT)) <;> fail) rfl (by decide +kernel) ?_; simp only [Act.put, spA, spZ, spS]) | (refine ck_store hS rfl rfl rfl (by constructor) (by (repeat (first | exact uH _ _ _ | apply uT)) <;> fail) (by simp <;> omega) rfl (by decide +kernel) ?_; clear hS; intro w hS; simp only [Act.put, spA, spZ, spS] at hS ⊢) | (refine ck_box hS rfl rfl (by constructor) ?_; clear hS; intro nb w hS; simp only [Act.put, spA, spZ, spS])  | (refine ck_region (fun _ => 0) (fun _ => []) [] hS (by kernel_rfl) (by decide +kernel) ?_ ?_; exact ⟨fun _ _ _ h => h.2, fun _ _ h => h⟩; clear hS; intro w hS _; (repeat (first | (apply wpT_pure rfl rfl; (intro _; go_simp; (try (go_ints; (try go_simp))); (first | (rw [decide_eq_true]; omega) | (rw [decide_eq_false]; omega) | rfl | rw [if_pos (by omega)])); simp only [Act.put, spA, spZ, spS]) | (refine ckT_load hS rfl rfl rfl (by simp <;> fail) (by (repeat (first | exact mH _ | apply mT)) <;> fail) rfl (by decide +kernel) ?_; simp only [Act.put, spA, spZ, spS]) )); refine wpT_nil ?_))
  refine wp_loop_once ?_
  go_wp2_with (first | go_skip | (refine ck_load hS rfl rfl rfl (by (repeat (first | exact mH _ | apply mT)) <;> fail) rfl (by decide +kernel) ?_; simp only [Act.put, spA, spZ, spS]) | (refine ck_store hS rfl rfl rfl (by constructor) (by (repeat (first | exact uH _ _ _ | apply uT)) <;> fail) (by simp <;> omega) rfl (by decide +kernel) ?_; clear hS; intro w hS; simp only [Act.put, spA, spZ, spS] at hS ⊢) | (refine ck_box hS rfl rfl (by constructor) ?_; clear hS; intro nb w hS; simp only [Act.put, spA, spZ, spS])  | (refine ck_region (fun _ => 0) (fun _ => []) [] hS (by kernel_rfl) (by decide +kernel) ?_ ?_; exact ⟨fun _ _ _ h => h.2, fun _ _ h => h⟩; clear hS; intro w hS _; (repeat (first | (apply wpT_pure rfl rfl; (intro _; go_simp; (try (go_ints; (try go_simp))); (first | (rw [decide_eq_true]; omega) | (rw [decide_eq_false]; omega) | rfl | rw [if_pos (by omega)])); simp only [Act.put, spA, spZ, spS]) | (refine ckT_load hS rfl rfl rfl (by simp <;> fail) (by (repeat (first | exact mH _ | apply mT)) <;> fail) rfl (by decide +kernel) ?_; simp only [Act.put, spA, spZ, spS]) )); refine wpT_nil ?_))
  rw [Exit.noGoto_ret]
  go_ret
  exact ⟨_, ⟨rfl, rfl⟩, hS.drop⟩
theorem rndMiss2_ct (h5 : 0 < a5) (h2 : a2 < nx) : Ct Tryz.prog 239 #[.pointer (some ⟨b, 0, none⟩), smpV a0 a1 a2 a3 a4 a5 a6 a7 a8] [rndR b n nx] (Gives (.bool false) [rndR b n nx]) := by
  intro w0 F L w hS
  simp only [List.cons_append, List.nil_append] at hS
  go_enter Tryz.func239, Tryz.ntmps239
  go_wp2_with (first | go_skip | (refine ck_load hS rfl rfl rfl (by (repeat (first | exact mH _ | apply mT)) <;> fail) rfl (by decide +kernel) ?_; simp only [Act.put, spA, spZ, spS]) | (refine ck_store hS rfl rfl rfl (by constructor) (by (repeat (first | exact uH _ _ _ | apply uT)) <;> fail) (by simp <;> omega) rfl (by decide +kernel) ?_; clear hS; intro w hS; simp only [Act.put, spA, spZ, spS] at hS ⊢) | (refine ck_box hS rfl rfl (by constructor) ?_; clear hS; intro nb w hS; simp only [Act.put, spA, spZ, spS])  | (refine ck_region (fun _ => 0) (fun _ => []) [] hS (by kernel_rfl) (by decide +kernel) ?_ ?_; exact ⟨fun _ _ _ h => h.2, fun _ _ h => h⟩; clear hS; intro w hS _; (repeat (first | (apply wpT_pure rfl rfl; (intro _; go_simp; (try (go_ints; (try go_simp))); (first | (rw [decide_eq_true]; omega) | (rw [decide_eq_false]; omega) | rfl | rw [if_pos (by omega)])); simp only [Act.put, spA, spZ, spS]) | (refine ckT_load hS rfl rfl rfl (by simp <;> fail) (by (repeat (first | exact mH _ | apply mT)) <;> fail) rfl (by decide +kernel) ?_; simp only [Act.put, spA, spZ, spS]) )); refine wpT_nil ?_))
  go_step3
  go_wp2_with (first | go_skip | (refine ck_load hS rfl rfl rfl (by (repeat (first | exact mH _ | apply mT)) <;> fail) rfl (by decide +kernel) ?_; simp only [Act.put, spA, spZ, spS]) | (refine ck_store hS rfl rfl rfl (by constructor) (by (repeat (first | exact uH _ _ _ | apply uT)) <;> fail) (by simp <;> omega) rfl (by decide +kernel) ?_; clear hS; intro w hS; simp only [Act.put, spA, spZ, spS] at hS ⊢) | (refine ck_box hS rfl rfl (by constructor) ?_; clear hS; intro nb w hS; simp only [Act.put, spA, spZ, spS])  | (refine ck_region (fun _ => 0) (fun _ => []) [] hS (by kernel_rfl) (by decide +kernel) ?_ ?_; exact ⟨fun _ _ _ h => h.2, fun _ _ h => h⟩; clear hS; intro w hS _; (repeat (first | (apply wpT_pure rfl rfl; (intro _; go_simp; (try (go_ints; (try go_simp))); (first | (rw [decide_eq_true]; omega) | (rw [decide_eq_false]; omega) | rfl | rw [if_pos (by omega)])); simp only [Act.put, spA, spZ, spS]) | (refine ckT_load hS rfl rfl rfl (by simp <;> fail) (by (repeat (first | exact mH _ | apply mT)) <;> fail) rfl (by decide +kernel) ?_; simp only [Act.put, spA, spZ, spS]) )); refine wpT_nil ?_))
  go_step3
  go_wp2_with (first | go_skip | (refine ck_load hS rfl rfl rfl (by (repeat (first | exact mH _ | apply mT)) <;> fail) rfl (by decide +kernel) ?_; simp only [Act.put, spA, spZ, spS]) | (refine ck_store hS rfl rfl rfl (by constructor) (by (repeat (first | exact uH _ _ _ | apply uT)) <;> fail) (by simp <;> omega) rfl (by decide +kernel) ?_; clear hS; intro w hS; simp only [Act.put, spA, spZ, spS] at hS ⊢) | (refine ck_box hS rfl rfl (by constructor) ?_; clear hS; intro nb w hS; simp only [Act.put, spA, spZ, spS])  | (refine ck_region (fun _ => 0) (fun _ => []) [] hS (by kernel_rfl) (by decide +kernel) ?_ ?_; exact ⟨fun _ _ _ h => h.2, fun _ _ h => h⟩; clear hS; intro w hS _; (repeat (first | (apply wpT_pure rfl rfl; (intro _; go_simp; (try (go_ints; (try go_simp))); (first | (rw [decide_eq_true]; omega) | (rw [decide_eq_false]; omega) | rfl | rw [if_pos (by omega)])); simp only [Act.put, spA, spZ, spS]) | (refine ckT_load hS rfl rfl rfl (by simp <;> fail) (by (repeat (first | exact mH _ | apply mT)) <;> fail) rfl (by decide +kernel) ?_; simp only [Act.put, spA, spZ, spS]) )); refine wpT_nil ?_))
  refine wp_loop_once ?_
  go_wp2_with (first | go_skip | (refine ck_load hS rfl rfl rfl (by (repeat (first | exact mH _ | apply mT)) <;> fail) rfl (by decide +kernel) ?_; simp only [Act.put, spA, spZ, spS]) | (refine ck_store hS rfl rfl rfl (by constructor) (by (repeat (first | exact uH _ _ _ | apply uT)) <;> fail) (by simp <;> omega) rfl (by decide +kernel) ?_; clear hS; intro w hS; simp only [Act.put, spA, spZ, spS] at hS ⊢) | (refine ck_box hS rfl rfl (by constructor) ?_; clear hS; intro nb w hS; simp only [Act.put, spA, spZ, spS])  | (refine ck_region (fun _ => 0) (fun _ => []) [] hS (by kernel_rfl) (by decide +kernel) ?_ ?_; exact ⟨fun _ _ _ h => h.2, fun _ _ h => h⟩; clear hS; intro w hS _; (repeat (first | (apply wpT_pure rfl rfl; (intro _; go_simp; (try (go_ints; (try go_simp))); (first | (rw [decide_eq_true]; omega) | (rw [decide_eq_false]; omega) | rfl | rw [if_pos (by omega)])); simp only [Act.put, spA, spZ, spS]) | (refine ckT_load hS rfl rfl rfl (by simp <;> fail) (by (repeat (first | exact mH _ | apply mT)) <;> fail) rfl (by decide +kernel) ?_; simp only [Act.put, spA, spZ, spS]) )); refine wpT_nil ?_))
  rw [Exit.noGoto_ret]
  go_ret
  exact ⟨_, ⟨rfl, rfl⟩, hS.drop⟩
/-- Whether a round begins. -/
def rndB (a2 a5 nx : Int) : Bool := decide (0 < a5 ∧ nx ≤ a2)
def rndN (a2 a5 n nx : Int) : Int := bif rndB a2 a5 nx then n + 1 else n
def rndX (a1 a2 a5 nx : Int) : Int := bif rndB a2 a5 nx then a1 else nx
theorem rndUpd_ct (hn0 : 0 ≤ n) (hn1 : n < 1000000000000) : Ct Tryz.prog 239 #[.pointer (some ⟨b, 0, none⟩), smpV a0 a1 a2 a3 a4 a5 a6 a7 a8] [rndR b n nx] (Gives (.bool (rndB a2 a5 nx)) [rndR b (rndN a2 a5 n nx) (rndX a1 a2 a5 nx)]) := by
  unfold rndN rndX
  by_cases h5 : 0 < a5
  · by_cases h2 : nx ≤ a2
    · rw [show rndB a2 a5 nx = true by simp [rndB, h5, h2]]; exact rndHit_ct _ _ _ _ _ _ _ _ _ _ _ _ h5 h2 hn0 hn1
    · rw [show rndB a2 a5 nx = false by simp [rndB, h5, h2]]; exact rndMiss2_ct _ _ _ _ _ _ _ _ _ _ _ _ h5 (by omega)
  · rw [show rndB a2 a5 nx = false by simp [rndB, h5]]; exact rndMiss1_ct _ _ _ _ _ _ _ _ _ _ _ _ (by omega)
theorem refRndHit_ct (h5 : 0 < a5) (h2 : nx ≤ a2) (hn0 : 0 ≤ n) (hn1 : n < 1000000000000) : Ct Tryz.prog 210 #[.pointer (some ⟨b, 0, none⟩), smpV a0 a1 a2 a3 a4 a5 a6 a7 a8] [refRndR b n nx] (Gives (.bool true) [refRndR b (n + 1) a1]) := by
  have h5' : (a5 == 0) = false := by simp; omega
  intro w0 F L w hS
  simp only [List.cons_append, List.nil_append] at hS
  go_enter Tryz.func210, Tryz.ntmps210
  go_wp2_with (first | go_skip | (refine ck_load hS rfl rfl rfl (by (repeat (first | exact mH _ | apply mT)) <;> fail) rfl (by decide +kernel) ?_; simp only [Act.put, spA, spZ, spS]) | (refine ck_store hS rfl rfl rfl (by constructor) (by (repeat (first | exact uH _ _ _ | apply uT)) <;> fail) (by simp <;> omega) rfl (by decide +kernel) ?_; clear hS; intro w hS; simp only [Act.put, spA, spZ, spS] at hS ⊢) | (refine ck_box hS rfl rfl (by constructor) ?_; clear hS; intro nb w hS; simp only [Act.put, spA, spZ, spS])  | (refine ck_region (fun _ => 0) (fun _ => []) [] hS (by kernel_rfl) (by decide +kernel) ?_ ?_; exact ⟨fun _ _ _ h => h.2, fun _ _ h => h⟩; clear hS; intro w hS _; (repeat (first | (apply wpT_pure rfl rfl; (intro _; go_simp; (try (go_ints; (try go_simp))); (first | (rw [decide_eq_true]; omega) | (rw [decide_eq_false]; omega) | rfl | rw [if_pos (by omega)])); simp only [Act.put, spA, spZ, spS]) | (refine ckT_load hS rfl rfl rfl (by simp <;> fail) (by (repeat (first | exact mH _ | apply mT)) <;> fail) rfl (by decide +kernel) ?_; simp only [Act.put, spA, spZ, spS]) | (refine wpT_skip rfl ?_; simp only [Act.put, spA, spZ, spS]) )); refine wpT_nil ?_))
  go_ret
  exact ⟨_, ⟨rfl, rfl⟩, hS.drop⟩
theorem refRndMiss1_ct (h5 : a5 = 0) : Ct Tryz.prog 210 #[.pointer (some ⟨b, 0, none⟩), smpV a0 a1 a2 a3 a4 a5 a6 a7 a8] [refRndR b n nx] (Gives (.bool false) [refRndR b n nx]) := by
  subst h5
  intro w0 F L w hS
  simp only [List.cons_append, List.nil_append] at hS
  go_enter Tryz.func210, Tryz.ntmps210
  go_wp2_with (first | go_skip | (refine ck_load hS rfl rfl rfl (by (repeat (first | exact mH _ | apply mT)) <;> fail) rfl (by decide +kernel) ?_; simp only [Act.put, spA, spZ, spS]) | (refine ck_store hS rfl rfl rfl (by constructor) (by (repeat (first | exact uH _ _ _ | apply uT)) <;> fail) (by simp <;> omega) rfl (by decide +kernel) ?_; clear hS; intro w hS; simp only [Act.put, spA, spZ, spS] at hS ⊢) | (refine ck_box hS rfl rfl (by constructor) ?_; clear hS; intro nb w hS; simp only [Act.put, spA, spZ, spS])  | (refine ck_region (fun _ => 0) (fun _ => []) [] hS (by kernel_rfl) (by decide +kernel) ?_ ?_; exact ⟨fun _ _ _ h => h.2, fun _ _ h => h⟩; clear hS; intro w hS _; (repeat (first | (apply wpT_pure rfl rfl; (intro _; go_simp; (try (go_ints; (try go_simp))); (first | (rw [decide_eq_true]; omega) | (rw [decide_eq_false]; omega) | rfl | rw [if_pos (by omega)])); simp only [Act.put, spA, spZ, spS]) | (refine ckT_load hS rfl rfl rfl (by simp <;> fail) (by (repeat (first | exact mH _ | apply mT)) <;> fail) rfl (by decide +kernel) ?_; simp only [Act.put, spA, spZ, spS]) | (refine wpT_skip rfl ?_; simp only [Act.put, spA, spZ, spS]) )); refine wpT_nil ?_))
  go_ret
  exact ⟨_, ⟨rfl, rfl⟩, hS.drop⟩
theorem refRndMiss2_ct (h5 : 0 < a5) (h2 : a2 < nx) : Ct Tryz.prog 210 #[.pointer (some ⟨b, 0, none⟩), smpV a0 a1 a2 a3 a4 a5 a6 a7 a8] [refRndR b n nx] (Gives (.bool false) [refRndR b n nx]) := by
  have h5' : (a5 == 0) = false := by simp; omega
  intro w0 F L w hS
  simp only [List.cons_append, List.nil_append] at hS
  go_enter Tryz.func210, Tryz.ntmps210
  go_wp2_with (first | go_skip | (refine ck_load hS rfl rfl rfl (by (repeat (first | exact mH _ | apply mT)) <;> fail) rfl (by decide +kernel) ?_; simp only [Act.put, spA, spZ, spS]) | (refine ck_store hS rfl rfl rfl (by constructor) (by (repeat (first | exact uH _ _ _ | apply uT)) <;> fail) (by simp <;> omega) rfl (by decide +kernel) ?_; clear hS; intro w hS; simp only [Act.put, spA, spZ, spS] at hS ⊢) | (refine ck_box hS rfl rfl (by constructor) ?_; clear hS; intro nb w hS; simp only [Act.put, spA, spZ, spS])  | (refine ck_region (fun _ => 0) (fun _ => []) [] hS (by kernel_rfl) (by decide +kernel) ?_ ?_; exact ⟨fun _ _ _ h => h.2, fun _ _ h => h⟩; clear hS; intro w hS _; (repeat (first | (apply wpT_pure rfl rfl; (intro _; go_simp; (try (go_ints; (try go_simp))); (first | (rw [decide_eq_true]; omega) | (rw [decide_eq_false]; omega) | rfl | rw [if_pos (by omega)])); simp only [Act.put, spA, spZ, spS]) | (refine ckT_load hS rfl rfl rfl (by simp <;> fail) (by (repeat (first | exact mH _ | apply mT)) <;> fail) rfl (by decide +kernel) ?_; simp only [Act.put, spA, spZ, spS]) | (refine wpT_skip rfl ?_; simp only [Act.put, spA, spZ, spS]) )); refine wpT_nil ?_))
  go_ret
  exact ⟨_, ⟨rfl, rfl⟩, hS.drop⟩
theorem refRndUpd_ct (h5 : 0 ≤ a5) (hn0 : 0 ≤ n) (hn1 : n < 1000000000000) : Ct Tryz.prog 210 #[.pointer (some ⟨b, 0, none⟩), smpV a0 a1 a2 a3 a4 a5 a6 a7 a8] [refRndR b n nx] (Gives (.bool (rndB a2 a5 nx)) [refRndR b (rndN a2 a5 n nx) (rndX a1 a2 a5 nx)]) := by
  unfold rndN rndX
  by_cases h5 : 0 < a5
  · by_cases h2 : nx ≤ a2
    · rw [show rndB a2 a5 nx = true by simp [rndB, h5, h2]]; exact refRndHit_ct _ _ _ _ _ _ _ _ _ _ _ _ h5 h2 hn0 hn1
    · rw [show rndB a2 a5 nx = false by simp [rndB, h5, h2]]; exact refRndMiss2_ct _ _ _ _ _ _ _ _ _ _ _ _ h5 (by omega)
  · rw [show rndB a2 a5 nx = false by simp [rndB, h5]]; exact refRndMiss1_ct _ _ _ _ _ _ _ _ _ _ _ _ (by omega)
end
end Go.Proofs.YtcegknecikbbkaaGreat

/- A model: what it is, what it tells. -/
set_option linter.unusedVariables false
set_option linter.unusedSimpArgs false
set_option maxRecDepth 4000
namespace Go.Proofs.YtcegknecikbbkaaGreat
open Go.RowKit
section
variable {P : Program} {w w0 : World} {F : List Nat} {L L0 : List Res} {ops : Array Oper} {Q : Exit → Act → World → Prop} {rest : List Oper} {o : Oper} {a : Act} {v : Value} {blk : Nat → Nat} {conf : Nat → List Nat} {flg : List Nat} {i : Nat}
/-- A call that leaves what it owns as it was. -/
theorem ckT_callS {f : FuncId} {as' : Array Operand} {ats : Array TypeId} {args : Array Value} {r : Res} (hS : Sep w0 F L w) (ho : o.op = .call { callee := .value (.func f), args := as', argTypes := ats }) (hC : Ct P f args [r] (Gives v [r])) (hu : Upd L r r L) (hw : Region.wanted o (yielded ops a.tmps) = true) (hen : ckEnter P f = true)
    (ha : as'.toList.map a.eval = args.toList) (hcf : ∀ j ∈ conf i, ∃ cs T, pts (blk j) cs T ∈ L) (h : ∀ w', Sep w0 F L w' → wpT P ops blk conf flg Q (i + 1) rest (a.put o.dst v) w') : wpT P ops blk conf flg Q i (o :: rest) a w :=
  ckT_enter ho hw hen ha (hC.callU hu hS fun w' hS' => ⟨fun j hj => by
    obtain ⟨cs, T, hm⟩ := hcf j hj
    exact Eq.trans (hS'.holds _ hm) (Eq.symm (hS.holds _ hm)), h w' hS'⟩)
theorem ckT_callG' {f : FuncId} {as' : Array Operand} {ats : Array TypeId} {args : Array Value} {pre post : List Res} (hS : Sep w0 F (pre ++ L) w) (ho : o.op = .call { callee := .value (.func f), args := as', argTypes := ats }) (hC : Ct P f args pre (Gives v post)) (hw : Region.wanted o (yielded ops a.tmps) = true) (hen : ckEnter P f = true)
    (ha : as'.toList.map a.eval = args.toList) (hcf : ∀ j ∈ conf i, ∀ w2, Sep w0 F (post ++ L) w2 → w2.heap[blk j]? = w.heap[blk j]?) (h : ∀ w', Sep w0 F (post ++ L) w' → wpT P ops blk conf flg Q (i + 1) rest (a.put o.dst v) w') : wpT P ops blk conf flg Q i (o :: rest) a w :=
  ckT_enter ho hw hen ha (hC.callG (L := L) hS fun w' hS' => ⟨fun j hj => hcf j hj w' hS', h w' hS'⟩)
end
structure WinS where
  (t0 v0 t1 v1 t2 v2 last : Int)
structure RndS where
  (n nx : Int)
structure PipeS where
  (best n : Int) (full : Bool)
structure CycS where
  (phase since : Int)
structure PrbS where
  (best stamp : Int) (inn : Bool) (till : Int) (round : Bool)
structure PolS where
  (use samples : Bool) (bw rounds lost now del los : Int)
structure MdlM where
  (mss mode rate cwnd was : Int) (rcv cns : Bool) (upto : Int) (win : WinS) (rnd : RndS) (pipe : PipeS) (cyc : CycS) (prb : PrbS) (pol : PolS)
structure MdlA where
  (b w r p c q o : Nat)
abbrev winR (b : Nat) (s : WinS) : Res := maxR b 10 s.t0 s.v0 s.t1 s.v1 s.t2 s.v2 s.last
abbrev pipeR (b : Nat) (s : PipeS) : Res := pts b [.int .u64 s.best, .int .i64 s.n, .bool s.full] 300
abbrev cycR (b : Nat) (s : CycS) : Res := pts b [.int .i64 s.phase, .int .u64 s.since] 302
abbrev prbR (b : Nat) (s : PrbS) : Res := pts b [.int .u64 s.best, .int .u64 s.stamp, .bool s.inn, .int .u64 s.till, .bool s.round] 304
abbrev polR (b : Nat) (s : PolS) : Res := pts b [.bool s.use, .bool s.samples, .int .u64 s.bw, .int .i64 s.rounds, .int .u64 s.lost, .int .u64 s.now, .int .u64 s.del, .int .u64 s.los] 308
abbrev mdlP (A : MdlA) (m : MdlM) : Res := pts A.b [.pointer (some ⟨A.w, 0, none⟩), .pointer (some ⟨A.r, 0, none⟩), .pointer (some ⟨A.p, 0, none⟩), .pointer (some ⟨A.c, 0, none⟩), .pointer (some ⟨A.q, 0, none⟩), .pointer (some ⟨A.o, 0, none⟩), .int .u64 m.mss, .int .i64 m.mode, .int .u64 m.rate, .int .u64 m.cwnd, .int .u64 m.was, .bool m.rcv, .bool m.cns, .int .u64 m.upto] 257
def mdlG (A : MdlA) (m : MdlM) : Res := grpR [mdlP A m, winR A.w m.win, rndR A.r m.rnd.n m.rnd.nx, pipeR A.p m.pipe, cycR A.c m.cyc, prbR A.q m.prb, polR A.o m.pol]
theorem mdlOpen {A : MdlA} {m : MdlM} {w0 w : World} {F : List Nat} {L : List Res} : Sep w0 F (mdlG A m :: L) w ↔ Sep w0 F (mdlP A m :: winR A.w m.win :: rndR A.r m.rnd.n m.rnd.nx :: pipeR A.p m.pipe :: cycR A.c m.cyc :: prbR A.q m.prb :: polR A.o m.pol :: L) w := (Sep.grp (l := [mdlP A m, winR A.w m.win, rndR A.r m.rnd.n m.rnd.nx, pipeR A.p m.pipe, cycR A.c m.cyc, prbR A.q m.prb, polR A.o m.pol])).symm
/-! ### Its parts -/
theorem pipeNew_ct : Ct Tryz.prog 131 #[] [] (fun v L => ∃ b, v = .pointer (some ⟨b, 0, none⟩) ∧ L = [pipeR b ⟨0, 0, false⟩]) := by
  intro w0 F L w hS
  simp only [List.cons_append, List.nil_append] at hS
  go_enter Tryz.func131, Tryz.ntmps131
  go_wp2_with (first | go_skip | (refine ck_box hS rfl rfl (by constructor) ?_; clear hS; intro nb w hS; simp only [Act.put, spA, spZ, spS]) )
  go_ret
  exact ⟨_, ⟨_, rfl, rfl⟩, hS⟩
theorem cycNew_ct : Ct Tryz.prog 132 #[] [] (fun v L => ∃ b, v = .pointer (some ⟨b, 0, none⟩) ∧ L = [cycR b ⟨0, 0⟩]) := by
  intro w0 F L w hS
  simp only [List.cons_append, List.nil_append] at hS
  go_enter Tryz.func132, Tryz.ntmps132
  go_wp2_with (first | go_skip | (refine ck_box hS rfl rfl (by constructor) ?_; clear hS; intro nb w hS; simp only [Act.put, spA, spZ, spS]) )
  go_ret
  exact ⟨_, ⟨_, rfl, rfl⟩, hS⟩
theorem prbNew_ct : Ct Tryz.prog 133 #[] [] (fun v L => ∃ b, v = .pointer (some ⟨b, 0, none⟩) ∧ L = [prbR b ⟨0, 0, false, 0, false⟩]) := by
  intro w0 F L w hS
  simp only [List.cons_append, List.nil_append] at hS
  go_enter Tryz.func133, Tryz.ntmps133
  go_wp2_with (first | go_skip | (refine ck_box hS rfl rfl (by constructor) ?_; clear hS; intro nb w hS; simp only [Act.put, spA, spZ, spS]) )
  go_ret
  exact ⟨_, ⟨_, rfl, rfl⟩, hS⟩
theorem polNew_ct : Ct Tryz.prog 134 #[] [] (fun v L => ∃ b, v = .pointer (some ⟨b, 0, none⟩) ∧ L = [polR b ⟨false, false, 0, 0, 0, 0, 0, 0⟩]) := by
  intro w0 F L w hS
  simp only [List.cons_append, List.nil_append] at hS
  go_enter Tryz.func134, Tryz.ntmps134
  go_wp2_with (first | go_skip | (refine ck_box hS rfl rfl (by constructor) ?_; clear hS; intro nb w hS; simp only [Act.put, spA, spZ, spS]) )
  go_ret
  exact ⟨_, ⟨_, rfl, rfl⟩, hS⟩
theorem polUse_ct (b : Nat) (s : PolS) : Ct Tryz.prog 233 #[.pointer (some ⟨b, 0, none⟩)] [polR b s] (Gives (.tuple #[.int .u64 (if s.use then s.bw else 0), .bool s.use]) [polR b s]) := by
  obtain ⟨use, samples, bw, rounds, lost, now, del, los⟩ := s
  cases use
  all_goals
    show Ct _ _ _ _ (Gives (.tuple #[.int .u64 _, .bool _]) _)
    intro w0 F L w hS
    simp only [List.cons_append, List.nil_append] at hS
    go_enter Tryz.func233, Tryz.ntmps233
    go_wp2_with (first | go_skip | (refine ck_load hS rfl rfl rfl (by (repeat (first | exact mH _ | apply mT)) <;> fail) rfl (by decide +kernel) ?_; simp only [Act.put, spA, spZ, spS]) )
    go_ret2
    exact ⟨_, ⟨rfl, rfl⟩, hS⟩
theorem prbBest_ct (b : Nat) (s : PrbS) : Ct Tryz.prog 181 #[.pointer (some ⟨b, 0, none⟩)] [prbR b s] (Gives (.int .u64 s.best) [prbR b s]) := by
  intro w0 F L w hS
  simp only [List.cons_append, List.nil_append] at hS
  go_enter Tryz.func181, Tryz.ntmps181
  go_wp2_with (first | go_skip | (refine ck_load hS rfl rfl rfl (by (repeat (first | exact mH _ | apply mT)) <;> fail) rfl (by decide +kernel) ?_; simp only [Act.put, spA, spZ, spS]) )
  go_ret
  exact ⟨_, ⟨rfl, rfl⟩, hS⟩
theorem cycPhase_ct (b : Nat) (s : CycS) : Ct Tryz.prog 184 #[.pointer (some ⟨b, 0, none⟩)] [cycR b s] (Gives (.int .i64 s.phase) [cycR b s]) := by
  intro w0 F L w hS
  simp only [List.cons_append, List.nil_append] at hS
  go_enter Tryz.func184, Tryz.ntmps184
  go_wp2_with (first | go_skip | (refine ck_load hS rfl rfl rfl (by (repeat (first | exact mH _ | apply mT)) <;> fail) rfl (by decide +kernel) ?_; simp only [Act.put, spA, spZ, spS]) )
  go_ret
  exact ⟨_, ⟨rfl, rfl⟩, hS⟩
theorem pipeFull_ct (b : Nat) (s : PipeS) : Ct Tryz.prog 185 #[.pointer (some ⟨b, 0, none⟩)] [pipeR b s] (Gives (.bool s.full) [pipeR b s]) := by
  intro w0 F L w hS
  simp only [List.cons_append, List.nil_append] at hS
  go_enter Tryz.func185, Tryz.ntmps185
  go_wp2_with (first | go_skip | (refine ck_load hS rfl rfl rfl (by (repeat (first | exact mH _ | apply mT)) <;> fail) rfl (by decide +kernel) ?_; simp only [Act.put, spA, spZ, spS]) )
  go_ret
  exact ⟨_, ⟨rfl, rfl⟩, hS⟩
def cgOf (p : Int) : Int := if p = 0 then 320 else if p = 1 then 192 else 256
theorem cycGain_ct (b : Nat) (s : CycS) : Ct Tryz.prog 235 #[.pointer (some ⟨b, 0, none⟩)] [cycR b s] (Gives (.int .u64 (cgOf s.phase)) [cycR b s]) := by
  obtain ⟨ph, si⟩ := s
  unfold cgOf
  dsimp only
  by_cases h0 : ph = 0
  · subst h0
    intro w0 F L w hS
    simp only [List.cons_append, List.nil_append] at hS
    go_enter Tryz.func235, Tryz.ntmps235
    go_wp2_with (first | go_skip | (refine ck_load hS rfl rfl rfl (by (repeat (first | exact mH _ | apply mT)) <;> fail) rfl (by decide +kernel) ?_; simp only [Act.put, spA, spZ, spS]) )
    go_ret
    exact ⟨_, ⟨rfl, rfl⟩, hS⟩
  · rw [if_neg h0]
    have h0' : (ph == 0) = false := by simpa using h0
    by_cases h1 : ph = 1
    · subst h1
      clear h0
      intro w0 F L w hS
      simp only [List.cons_append, List.nil_append] at hS
      go_enter Tryz.func235, Tryz.ntmps235
      go_wp2_with (first | go_skip | (refine ck_load hS rfl rfl rfl (by (repeat (first | exact mH _ | apply mT)) <;> fail) rfl (by decide +kernel) ?_; simp only [Act.put, spA, spZ, spS]) )
      go_ret
      exact ⟨_, ⟨rfl, rfl⟩, hS⟩
    · rw [if_neg h1]
      have h1' : (ph == 1) = false := by simpa using h1
      clear h0 h1
      intro w0 F L w hS
      simp only [List.cons_append, List.nil_append] at hS
      go_enter Tryz.func235, Tryz.ntmps235
      go_wp2_with (first | go_skip | (refine ck_load hS rfl rfl rfl (by (repeat (first | exact mH _ | apply mT)) <;> fail) rfl (by decide +kernel) ?_; simp only [Act.put, spA, spZ, spS]) )
      go_ret
      exact ⟨_, ⟨rfl, rfl⟩, hS⟩
/-! ### What it tells -/
def bwOf (m : MdlM) : Int := if m.pol.use then m.pol.bw else m.win.v0
def gainOf (m : MdlM) : Int := if m.mode = 0 then 739 else if m.mode = 1 then 88 else if m.mode = 2 ∧ m.pol.use = false then cgOf m.cyc.phase else 256
abbrev stV (m : MdlM) : List Value := [.int .i64 m.mode, .int .i64 m.cyc.phase, .int .u64 m.rate, .int .u64 m.cwnd, .int .u64 (bwOf m), .int .u64 m.prb.best, .int .u64 (gainOf m), .int .u64 m.rnd.n, .bool m.pipe.full, .bool m.pol.use]
theorem mdlBw_ct (A : MdlA) (m : MdlM) : Ct Tryz.prog 180 #[.pointer (some ⟨A.b, 0, none⟩)] [mdlG A m] (Gives (.int .u64 (bwOf m)) [mdlG A m]) := by
  have kU := polUse_ct A.o m.pol
  have kB := maxBest_ct A.w 10 m.win.t0 m.win.v0 m.win.t1 m.win.v1 m.win.t2 m.win.v2 m.win.last
  unfold bwOf
  cases hu : m.pol.use
  all_goals
    rw [hu] at kU
    intro w0 F L w hS
    have hS := mdlOpen.1 hS
    have hfin : ∀ {w : World}, Sep w0 F _ w → Sep w0 F ([mdlG A m] ++ L) w := fun h => mdlOpen.2 h
    clear hu
    go_enter Tryz.func180, Tryz.ntmps180
    go_wp2_with (first | go_skip | (refine ck_load hS rfl rfl rfl (by (repeat (first | exact mH _ | apply mT)) <;> fail) rfl (by decide +kernel) ?_; simp only [Act.put, spA, spZ, spS]) | (go_at_call 233; (with_reducible refine Ct.callU (kU) (by (repeat (first | exact uH _ _ _ | apply uT)) <;> fail) hS ?_) <;> (first | (clear hS; intro w hS) | omega)) | (go_at_call 234; (with_reducible refine Ct.callU (kB) (by (repeat (first | exact uH _ _ _ | apply uT)) <;> fail) hS ?_) <;> (first | (clear hS; intro w hS) | omega)))
    go_ret
    exact ⟨_, ⟨rfl, rfl⟩, hfin hS⟩
theorem mdlPoliced_ct (A : MdlA) (m : MdlM) : Ct Tryz.prog 186 #[.pointer (some ⟨A.b, 0, none⟩)] [mdlG A m] (Gives (.bool m.pol.use) [mdlG A m]) := by
  have kU := polUse_ct A.o m.pol
  obtain ⟨u, hu⟩ : ∃ u, (if m.pol.use then m.pol.bw else 0) = u := ⟨_, rfl⟩
  rw [hu] at kU
  clear hu
  intro w0 F L w hS
  have hS := mdlOpen.1 hS
  have hfin : ∀ {w : World}, Sep w0 F _ w → Sep w0 F ([mdlG A m] ++ L) w := fun h => mdlOpen.2 h
  go_enter Tryz.func186, Tryz.ntmps186
  go_wp2_with (first | go_skip | (refine ck_load hS rfl rfl rfl (by (repeat (first | exact mH _ | apply mT)) <;> fail) rfl (by decide +kernel) ?_; simp only [Act.put, spA, spZ, spS]) | (go_at_call 233; (with_reducible refine Ct.callU (kU) (by (repeat (first | exact uH _ _ _ | apply uT)) <;> fail) hS ?_) <;> (first | (clear hS; intro w hS) | omega)))
  go_ret
  exact ⟨_, ⟨rfl, rfl⟩, hfin hS⟩
set_option maxHeartbeats 1000000 in
theorem mdlGain_ct (A : MdlA) (m : MdlM) : Ct Tryz.prog 182 #[.pointer (some ⟨A.b, 0, none⟩)] [mdlG A m] (Gives (.int .u64 (gainOf m)) [mdlG A m]) := by
  have kP := mdlPoliced_ct A m
  have kG := cycGain_ct A.c m.cyc
  obtain ⟨md, hmd⟩ : ∃ x, m.mode = x := ⟨_, rfl⟩
  obtain ⟨us, hus⟩ : ∃ x, m.pol.use = x := ⟨_, rfl⟩
  unfold gainOf
  rw [hus] at kP
  rw [hus, hmd]
  generalize cgOf m.cyc.phase = cg at *
  intro w0 F L w hS
  have oM := fun {w : World} (h : Sep w0 F (mdlG A m :: L) w) => mdlOpen.1 h
  have hfin : ∀ {w : World}, Sep w0 F _ w → Sep w0 F ([mdlG A m] ++ L) w := fun h => mdlOpen.2 h
  have hS := mdlOpen.1 hS
  unfold mdlP at hS oM hfin
  rw [hmd] at hS oM hfin
  clear hus hmd
  by_cases h0 : md = 0
  · subst h0
    go_enter Tryz.func182, Tryz.ntmps182
    go_wp2_with (first | go_skip | (refine ck_load hS rfl rfl rfl (by (repeat (first | exact mH _ | apply mT)) <;> fail) rfl (by decide +kernel) ?_; simp only [Act.put, spA, spZ, spS]) )
    go_ret
    exact ⟨_, ⟨rfl, rfl⟩, hfin hS⟩
  · rw [if_neg h0]
    have h0' : (md == 0) = false := by simpa using h0
    by_cases h1 : md = 1
    · subst h1
      clear h0
      go_enter Tryz.func182, Tryz.ntmps182
      go_wp2_with (first | go_skip | (refine ck_load hS rfl rfl rfl (by (repeat (first | exact mH _ | apply mT)) <;> fail) rfl (by decide +kernel) ?_; simp only [Act.put, spA, spZ, spS]) )
      go_ret
      exact ⟨_, ⟨rfl, rfl⟩, hfin hS⟩
    · rw [if_neg h1]
      have h1' : (md == 1) = false := by simpa using h1
      by_cases h2 : md = 2
      · subst h2
        clear h0 h1
        cases us
        all_goals
          go_enter Tryz.func182, Tryz.ntmps182
          go_wp2_with (first | go_skip | (refine ck_load hS rfl rfl rfl (by (repeat (first | exact mH _ | apply mT)) <;> fail) rfl (by decide +kernel) ?_; simp only [Act.put, spA, spZ, spS]) | (go_at_call 235; (with_reducible refine Ct.callU (kG) (by (repeat (first | exact uH _ _ _ | apply uT)) <;> fail) hS ?_) <;> (first | (clear hS; intro w hS) | omega)) | (have hS0 := hfin hS; go_at_call 186; (refine Ct.callG (kP) hS0 ?_); clear hS hS0; intro w hS0; have hS := oM hS0; clear hS0))
          go_ret
          exact ⟨_, ⟨rfl, rfl⟩, hfin hS⟩
      · have h2' : (md == 2) = false := by simpa using h2
        rw [if_neg (fun h => h2 h.1)]
        clear h0 h1 h2
        go_enter Tryz.func182, Tryz.ntmps182
        go_wp2_with (first | go_skip | (refine ck_load hS rfl rfl rfl (by (repeat (first | exact mH _ | apply mT)) <;> fail) rfl (by decide +kernel) ?_; simp only [Act.put, spA, spZ, spS]) )
        go_ret
        exact ⟨_, ⟨rfl, rfl⟩, hfin hS⟩
set_option maxHeartbeats 8000000 in
theorem mdlState_ct (A : MdlA) (m : MdlM) : Ct Tryz.prog 128 #[.pointer (some ⟨A.b, 0, none⟩)] [mdlG A m] (Gives (.agg (stV m).toArray) [mdlG A m]) := by
  have kB := mdlBw_ct A m
  have kG := mdlGain_ct A m
  have kP := mdlPoliced_ct A m
  have kQ := prbBest_ct A.q m.prb
  have kR := rndCount_ct A.r m.rnd.n m.rnd.nx
  have kC := cycPhase_ct A.c m.cyc
  have kF := pipeFull_ct A.p m.pipe
  unfold stV
  generalize bwOf m = bw at *
  generalize gainOf m = ga at *
  obtain ⟨us, hus⟩ : ∃ x, m.pol.use = x := ⟨_, rfl⟩
  rw [hus] at kP ⊢
  clear hus
  intro w0 F L w hS
  have oM := fun {L : List Res} {w : World} => mdlOpen (A := A) (m := m) (w0 := w0) (F := F) (L := L) (w := w)
  have hS := oM.1 hS
  go_enter Tryz.func128, Tryz.ntmps128
  go_wp2_with (first | go_skip | (refine ck_store hS rfl rfl rfl (by constructor) (by (repeat (first | exact uH _ _ _ | apply uT)) <;> fail) (by simp <;> omega) rfl (by decide +kernel) ?_; clear hS; intro w hS; simp only [Act.put, spA, spZ, spS] at hS ⊢) | (refine ck_alloc (t := 177) (v := .agg (List.toArray [.int .i64 0, .int .i64 0, .int .u64 0, .int .u64 0, .int .u64 0, .int .u64 0, .int .u64 0, .int .u64 0, .bool false, .bool false])) (cs := [.int .i64 0, .int .i64 0, .int .u64 0, .int .u64 0, .int .u64 0, .int .u64 0, .int .u64 0, .int .u64 0, .bool false, .bool false]) hS rfl rfl (by kernel_rfl) rfl ?_; clear hS; intro nb w hS; simp only [Act.put, spA, spZ, spS]) | (refine ck_region (fun _ => 0) (fun _ => []) [] hS (by kernel_rfl) (by decide +kernel) ?_ ?_; exact ⟨fun _ _ _ h => h.2, fun _ _ h => h⟩; clear hS; intro w hS _; (repeat (first | (apply wpT_pure rfl rfl; (intro _; go_simp; (try (go_ints; (try go_simp))); (first | (rw [decide_eq_true]; omega) | (rw [decide_eq_false]; omega) | rfl | rw [if_pos (by omega)])); simp only [Act.put, spA, spZ, spS]) | (refine ckT_load hS rfl rfl rfl (by simp <;> fail) (by (repeat (first | exact mH _ | apply mT)) <;> fail) rfl (by decide +kernel) ?_; simp only [Act.put, spA, spZ, spS]) | (refine ckT_store hS rfl rfl rfl (by constructor) (by (repeat (first | exact uH _ _ _ | apply uT)) <;> fail) (by simp <;> fail) rfl (by decide +kernel) (by simp <;> fail) ?_; clear hS; intro w hS; simp only [Act.put, spA, spZ, spS] at hS ⊢) )); refine wpT_nil ?_))
  have j1 := hS.bring (r := polR A.o m.pol) (by (repeat (first | exact rH _ _ | apply rT)) <;> fail)
  have j2 := j1.bring (r := prbR A.q m.prb) (by (repeat (first | exact rH _ _ | apply rT)) <;> fail)
  have j3 := j2.bring (r := cycR A.c m.cyc) (by (repeat (first | exact rH _ _ | apply rT)) <;> fail)
  have j4 := j3.bring (r := pipeR A.p m.pipe) (by (repeat (first | exact rH _ _ | apply rT)) <;> fail)
  have j5 := j4.bring (r := rndR A.r m.rnd.n m.rnd.nx) (by (repeat (first | exact rH _ _ | apply rT)) <;> fail)
  have j6 := j5.bring (r := winR A.w m.win) (by (repeat (first | exact rH _ _ | apply rT)) <;> fail)
  have j7 := j6.bring (r := mdlP A m) (by (repeat (first | exact rH _ _ | apply rT)) <;> fail)
  clear hS j1 j2 j3 j4 j5 j6
  have hS := j7
  clear j7
  (refine ck_region (fun _ => A.b) (fun i => if i = 13 then [3, 7, 11, 17, 24, 29, 34] else if i = 18 then [3, 7, 11, 24, 29, 34] else if i = 20 then [3, 7, 11, 24, 29, 34] else if i = 25 then [3, 7, 11, 29, 34] else if i = 30 then [3, 7, 11, 34] else if i = 35 then [3, 7, 11] else if i = 37 then [3, 7, 11] else []) ([3, 7, 11, 17, 24, 29, 34]) hS (by kernel_rfl) (by decide +kernel) ?_ ?_; exact ⟨fun _ _ _ h => h.2, fun _ _ h => h⟩; clear hS; intro w hS _; (repeat (first | (apply wpT_pure rfl rfl; (intro _; go_simp; (try (go_ints; (try go_simp))); (first | (rw [decide_eq_true]; omega) | (rw [decide_eq_false]; omega) | rfl | rw [if_pos (by omega)])); simp only [Act.put, spA, spZ, spS]) | (refine ckT_load hS rfl rfl rfl (by simp <;> fail) (by (repeat (first | exact mH _ | apply mT)) <;> fail) rfl (by decide +kernel) ?_; simp only [Act.put, spA, spZ, spS]) | (refine ckT_store hS rfl rfl rfl (by constructor) (by (repeat (first | exact uH _ _ _ | apply uT)) <;> fail) (by simp <;> fail) rfl (by decide +kernel) (by simp <;> fail) ?_; clear hS; intro w hS; simp only [Act.put, spA, spZ, spS] at hS ⊢) | (refine ckT_callG' (oM.2 hS) rfl kB rfl (by kernel_rfl) rfl (fun j _ w2 h2 => ((oM.1 h2).holds (mdlP A m) (by (repeat (first | exact mH _ | apply mT)) <;> fail)).trans (hS.holds (mdlP A m) (by (repeat (first | exact mH _ | apply mT)) <;> fail)).symm) ?_; clear hS; intro w hS0; have hS := oM.1 hS0; clear hS0; simp only [Act.put, spA, spZ, spS]) | (refine ckT_callG' (oM.2 hS) rfl kG rfl (by kernel_rfl) rfl (fun j _ w2 h2 => ((oM.1 h2).holds (mdlP A m) (by (repeat (first | exact mH _ | apply mT)) <;> fail)).trans (hS.holds (mdlP A m) (by (repeat (first | exact mH _ | apply mT)) <;> fail)).symm) ?_; clear hS; intro w hS0; have hS := oM.1 hS0; clear hS0; simp only [Act.put, spA, spZ, spS]) | (refine ckT_callG' (oM.2 hS) rfl kP rfl (by kernel_rfl) rfl (fun j _ w2 h2 => ((oM.1 h2).holds (mdlP A m) (by (repeat (first | exact mH _ | apply mT)) <;> fail)).trans (hS.holds (mdlP A m) (by (repeat (first | exact mH _ | apply mT)) <;> fail)).symm) ?_; clear hS; intro w hS0; have hS := oM.1 hS0; clear hS0; simp only [Act.put, spA, spZ, spS]) | (refine ckT_callS hS rfl kQ (by (repeat (first | exact uH _ _ _ | apply uT)) <;> fail) rfl (by kernel_rfl) rfl (fun j _ => ⟨_, _, ((by (repeat (first | exact mH _ | apply mT)) <;> fail) : mdlP A m ∈ _)⟩) ?_; clear hS; intro w hS; simp only [Act.put, spA, spZ, spS]) | (refine ckT_callS hS rfl kR (by (repeat (first | exact uH _ _ _ | apply uT)) <;> fail) rfl (by kernel_rfl) rfl (fun j _ => ⟨_, _, ((by (repeat (first | exact mH _ | apply mT)) <;> fail) : mdlP A m ∈ _)⟩) ?_; clear hS; intro w hS; simp only [Act.put, spA, spZ, spS]) | (refine ckT_callS hS rfl kC (by (repeat (first | exact uH _ _ _ | apply uT)) <;> fail) rfl (by kernel_rfl) rfl (fun j _ => ⟨_, _, ((by (repeat (first | exact mH _ | apply mT)) <;> fail) : mdlP A m ∈ _)⟩) ?_; clear hS; intro w hS; simp only [Act.put, spA, spZ, spS]) | (refine ckT_callS hS rfl kF (by (repeat (first | exact uH _ _ _ | apply uT)) <;> fail) rfl (by kernel_rfl) rfl (fun j _ => ⟨_, _, ((by (repeat (first | exact mH _ | apply mT)) <;> fail) : mdlP A m ∈ _)⟩) ?_; clear hS; intro w hS; simp only [Act.put, spA, spZ, spS]) | (refine ckT_storeAll hS rfl rfl rfl rfl (by (repeat (first | exact uH _ _ _ | apply uT)) <;> fail) (by rfl) rfl (by (try simp only [List.length_cons, List.length_nil, Nat.zero_add, Nat.reduceAdd]); decide +kernel) (by simp <;> fail) ?_; clear hS; intro w hS; simp only [Act.put, spA, spZ, spS]))); refine wpT_nil ?_)
  go_wp2_with (first | go_skip | (refine ck_store hS rfl rfl rfl (by constructor) (by (repeat (first | exact uH _ _ _ | apply uT)) <;> fail) (by simp <;> omega) rfl (by decide +kernel) ?_; clear hS; intro w hS; simp only [Act.put, spA, spZ, spS] at hS ⊢)  | (refine ck_region (fun _ => 0) (fun _ => []) [] hS (by kernel_rfl) (by decide +kernel) ?_ ?_; exact ⟨fun _ _ _ h => h.2, fun _ _ h => h⟩; clear hS; intro w hS _; (repeat (first | (apply wpT_pure rfl rfl; (intro _; go_simp; (try (go_ints; (try go_simp))); (first | (rw [decide_eq_true]; omega) | (rw [decide_eq_false]; omega) | rfl | rw [if_pos (by omega)])); simp only [Act.put, spA, spZ, spS]) | (refine ckT_load hS rfl rfl rfl (by simp <;> fail) (by (repeat (first | exact mH _ | apply mT)) <;> fail) rfl (by decide +kernel) ?_; simp only [Act.put, spA, spZ, spS]) | (refine ckT_store hS rfl rfl rfl (by constructor) (by (repeat (first | exact uH _ _ _ | apply uT)) <;> fail) (by simp <;> fail) rfl (by decide +kernel) (by simp <;> fail) ?_; clear hS; intro w hS; simp only [Act.put, spA, spZ, spS] at hS ⊢) )); refine wpT_nil ?_))
  refine bodyPost_ret (ckRes_cell hS (cs := [.int .i64 m.mode, .int .i64 m.cyc.phase, .int .u64 m.rate, .int .u64 m.cwnd, .int .u64 bw, .int .u64 m.prb.best, .int .u64 ga, .int .u64 m.rnd.n, .bool m.pipe.full, .bool us]) (b := nb) (T := 177) (by (repeat (first | exact mH _ | apply mT)) <;> fail) rfl rfl rfl (by (try simp only [List.length_cons, List.length_nil, Nat.zero_add, Nat.reduceAdd]); decide +kernel)) rfl ?_
  exact ⟨_, ⟨rfl, rfl⟩, (oM.2 ((hS.bring (r := pts nb [.int .i64 m.mode, .int .i64 m.cyc.phase, .int .u64 m.rate, .int .u64 m.cwnd, .int .u64 bw, .int .u64 m.prb.best, .int .u64 ga, .int .u64 m.rnd.n, .bool m.pipe.full, .bool us] 177) (by (repeat (first | exact rH _ _ | apply rT)) <;> fail)).drop))⟩
def mdlZ (mss rate : Int) : MdlM := ⟨mss, 0, rate, 10 * mss, 0, false, false, 0, ⟨0, 0, 0, 0, 0, 0, 0⟩, ⟨0, 0⟩, ⟨0, 0, false⟩, ⟨0, 0⟩, ⟨0, 0, false, 0, false⟩, ⟨false, false, 0, 0, 0, 0, 0, 0⟩⟩
set_option maxHeartbeats 1000000 in
theorem scaled_ct (q : Nat) (v g r : Int) (hr : r = if v = 0 then 0 else mulDiv v g 256) (v0 : 0 ≤ v) (v1 : v ≤ 18446744073709551615) (g0 : 0 ≤ g) (g1 : g ≤ 18446744073709551615) : Ct Tryz.prog 187 #[.int .u64 v, .slice (some ⟨q, 0, none⟩) 1 1] [pts q [.int .u64 g, .int .u64 256] 235] (Gives (.int .u64 r) [pts q [.int .u64 g, .int .u64 256] 235]) := by
  have kM := mulDiv_ct v g 256 v0 v1 g0 g1 (by omega) (by omega)
  generalize mulDiv v g 256 = k at *
  by_cases hv : v = 0
  · rw [if_pos hv] at hr
    subst hv hr
    intro w0 F L w hS
    simp only [List.cons_append, List.nil_append] at hS
    go_enter Tryz.func187, Tryz.ntmps187
    go_wp2_with (first | go_skip | (refine ck_load hS rfl rfl rfl (by (repeat (first | exact mH _ | apply mT)) <;> fail) rfl (by decide +kernel) ?_; simp only [Act.put, spA, spZ, spS]) | (refine ck_store hS rfl rfl rfl (by constructor) (by (repeat (first | exact uH _ _ _ | apply uT)) <;> fail) (by simp <;> omega) rfl (by decide +kernel) ?_; clear hS; intro w hS; simp only [Act.put, spA, spZ, spS] at hS ⊢) )
    go_step3
    go_wp2_with (first | go_skip | (refine ck_load hS rfl rfl rfl (by (repeat (first | exact mH _ | apply mT)) <;> fail) rfl (by decide +kernel) ?_; simp only [Act.put, spA, spZ, spS]) | (refine ck_store hS rfl rfl rfl (by constructor) (by (repeat (first | exact uH _ _ _ | apply uT)) <;> fail) (by simp <;> omega) rfl (by decide +kernel) ?_; clear hS; intro w hS; simp only [Act.put, spA, spZ, spS] at hS ⊢) )
    go_step3
    go_wp2_with (first | go_skip | (refine ck_load hS rfl rfl rfl (by (repeat (first | exact mH _ | apply mT)) <;> fail) rfl (by decide +kernel) ?_; simp only [Act.put, spA, spZ, spS]) | (refine ck_store hS rfl rfl rfl (by constructor) (by (repeat (first | exact uH _ _ _ | apply uT)) <;> fail) (by simp <;> omega) rfl (by decide +kernel) ?_; clear hS; intro w hS; simp only [Act.put, spA, spZ, spS] at hS ⊢) )
    refine wp_loop_rounds 2 ?_; rw [rounds_succ]
    go_wp2_with (first | go_skip | (refine ck_load hS rfl rfl rfl (by (repeat (first | exact mH _ | apply mT)) <;> fail) rfl (by decide +kernel) ?_; simp only [Act.put, spA, spZ, spS]) | (refine ck_store hS rfl rfl rfl (by constructor) (by (repeat (first | exact uH _ _ _ | apply uT)) <;> fail) (by simp <;> omega) rfl (by decide +kernel) ?_; clear hS; intro w hS; simp only [Act.put, spA, spZ, spS] at hS ⊢) | (refine ck_alloc (t := 235) (v := .agg (List.toArray [.int .u64 0, .int .u64 0])) (cs := [.int .u64 0, .int .u64 0]) hS rfl rfl (by kernel_rfl) rfl ?_; clear hS; intro nb w hS; simp only [Act.put, spA, spZ, spS]) | (refine ck_loadAll hS rfl rfl rfl (by (repeat (first | exact mH _ | apply mT)) <;> fail) rfl (by (try simp only [List.length_cons, List.length_nil, Nat.zero_add, Nat.reduceAdd]); decide +kernel) ?_; simp only [Act.put, spA, spZ, spS]) | (refine ck_storeAll hS rfl rfl rfl rfl (by (repeat (first | exact uH _ _ _ | apply uT)) <;> fail) (by rfl) rfl (by (try simp only [List.length_cons, List.length_nil, Nat.zero_add, Nat.reduceAdd]); decide +kernel) ?_; clear hS; intro w hS; simp only [Act.put, spA, spZ, spS]) | (with_reducible rw [rounds_succ]))
    rw [Exit.noGoto_ret]
    go_ret
    exact ⟨_, ⟨rfl, rfl⟩, hS.drop⟩
  · rw [if_neg hv] at hr
    subst hr
    have hv' : (v == 0) = false := by simpa using hv
    clear hv
    intro w0 F L w hS
    simp only [List.cons_append, List.nil_append] at hS
    go_enter Tryz.func187, Tryz.ntmps187
    go_wp2_with (first | go_skip | (refine ck_load hS rfl rfl rfl (by (repeat (first | exact mH _ | apply mT)) <;> fail) rfl (by decide +kernel) ?_; simp only [Act.put, spA, spZ, spS]) | (refine ck_store hS rfl rfl rfl (by constructor) (by (repeat (first | exact uH _ _ _ | apply uT)) <;> fail) (by simp <;> omega) rfl (by decide +kernel) ?_; clear hS; intro w hS; simp only [Act.put, spA, spZ, spS] at hS ⊢) )
    go_step3
    go_wp2_with (first | go_skip | (refine ck_load hS rfl rfl rfl (by (repeat (first | exact mH _ | apply mT)) <;> fail) rfl (by decide +kernel) ?_; simp only [Act.put, spA, spZ, spS]) | (refine ck_store hS rfl rfl rfl (by constructor) (by (repeat (first | exact uH _ _ _ | apply uT)) <;> fail) (by simp <;> omega) rfl (by decide +kernel) ?_; clear hS; intro w hS; simp only [Act.put, spA, spZ, spS] at hS ⊢) )
    go_step3
    go_wp2_with (first | go_skip | (refine ck_load hS rfl rfl rfl (by (repeat (first | exact mH _ | apply mT)) <;> fail) rfl (by decide +kernel) ?_; simp only [Act.put, spA, spZ, spS]) | (refine ck_store hS rfl rfl rfl (by constructor) (by (repeat (first | exact uH _ _ _ | apply uT)) <;> fail) (by simp <;> omega) rfl (by decide +kernel) ?_; clear hS; intro w hS; simp only [Act.put, spA, spZ, spS] at hS ⊢) )
    refine wp_loop_rounds 2 ?_; rw [rounds_succ]
    go_wp2_with (first | go_skip | (refine ck_load hS rfl rfl rfl (by (repeat (first | exact mH _ | apply mT)) <;> fail) rfl (by decide +kernel) ?_; simp only [Act.put, spA, spZ, spS]) | (refine ck_store hS rfl rfl rfl (by constructor) (by (repeat (first | exact uH _ _ _ | apply uT)) <;> fail) (by simp <;> omega) rfl (by decide +kernel) ?_; clear hS; intro w hS; simp only [Act.put, spA, spZ, spS] at hS ⊢) | (refine ck_alloc (t := 235) (v := .agg (List.toArray [.int .u64 0, .int .u64 0])) (cs := [.int .u64 0, .int .u64 0]) hS rfl rfl (by kernel_rfl) rfl ?_; clear hS; intro nb w hS; simp only [Act.put, spA, spZ, spS]) | (refine ck_loadAll hS rfl rfl rfl (by (repeat (first | exact mH _ | apply mT)) <;> fail) rfl (by (try simp only [List.length_cons, List.length_nil, Nat.zero_add, Nat.reduceAdd]); decide +kernel) ?_; simp only [Act.put, spA, spZ, spS]) | (refine ck_storeAll hS rfl rfl rfl rfl (by (repeat (first | exact uH _ _ _ | apply uT)) <;> fail) (by rfl) rfl (by (try simp only [List.length_cons, List.length_nil, Nat.zero_add, Nat.reduceAdd]); decide +kernel) ?_; clear hS; intro w hS; simp only [Act.put, spA, spZ, spS]) | (with_reducible rw [rounds_succ]) | (go_at_call 127; with_reducible refine Ct.call0 (kM) hS ?_; clear hS; intro w hS))
    rw [Exit.noGoto_ret]
    go_ret
    exact ⟨_, ⟨rfl, rfl⟩, hS.drop⟩
theorem tgRate_ct (v g r : Int) (hr : r = if v = 0 then 0 else mulDiv v g 256) (v0 : 0 ≤ v) (v1 : v ≤ 18446744073709551615) (g0 : 0 ≤ g) (g1 : g ≤ 18446744073709551615) : Ct Tryz.prog 135 #[.int .u64 v, .int .u64 g] [] (Gives (.int .u64 r) []) := by
  have kS := fun q => scaled_ct q v g r hr v0 v1 g0 g1
  clear hr
  intro w0 F L w hS
  simp only [List.cons_append, List.nil_append] at hS
  go_enter Tryz.func135, Tryz.ntmps135
  go_wp2_with (first | go_skip | (refine ck_buildE (e := 235) (sz := 2) (news := [.int .u64 g, .int .u64 256]) hS rfl rfl rfl rfl (by omega) (by omega) (by decide +kernel) ?_; clear hS; intro q w hS; simp only [Act.put, spA, spZ, spS]) | (go_at_call 187; (with_reducible refine Ct.callU (kS _) (by (repeat (first | exact uH _ _ _ | apply uT)) <;> fail) hS ?_) <;> (first | (clear hS; intro w hS) | omega)))
  go_ret
  exact ⟨_, ⟨rfl, rfl⟩, hS.drop⟩
set_option maxHeartbeats 2000000 in
theorem mdlNew_ct (mss r : Int) (h0 : 100 ≤ mss) (h1 : mss ≤ 9000) (hr : r = mulDiv (10 * mss * 1000) 739 256) : Ct Tryz.prog 97 #[.int .u64 mss] [] (fun v L => ∃ A : MdlA, v = .pointer (some ⟨A.b, 0, none⟩) ∧ L = [mdlG A (mdlZ mss r)]) := by
  have e : min (max mss 100) 9000 = mss := by omega
  have kR := tgRate_ct (10 * min (max mss 100) 9000 * 1000) 739 r (by rw [e, if_neg (by omega)]; exact hr) (by omega) (by omega) (by omega) (by omega)
  have hfin : ∀ {w0 w : World} {F : List Nat} {L : List Res} {A : MdlA}, Sep w0 F (mdlP A (mdlZ (min (max mss 100) 9000) r) :: polR A.o ⟨false, false, 0, 0, 0, 0, 0, 0⟩ :: prbR A.q ⟨0, 0, false, 0, false⟩ :: cycR A.c ⟨0, 0⟩ :: pipeR A.p ⟨0, 0, false⟩ :: rndR A.r 0 0 :: maxR A.w 10 0 0 0 0 0 0 0 :: L) w → Sep w0 F ([mdlG A (mdlZ mss r)] ++ L) w := fun {w0 w F L A} hS => by
    rw [e] at hS
    have j2 := hS.bring (r := prbR A.q ⟨0, 0, false, 0, false⟩) (by (repeat (first | exact rH _ _ | apply rT)) <;> fail)
    have j3 := j2.bring (r := cycR A.c ⟨0, 0⟩) (by (repeat (first | exact rH _ _ | apply rT)) <;> fail)
    have j4 := j3.bring (r := pipeR A.p ⟨0, 0, false⟩) (by (repeat (first | exact rH _ _ | apply rT)) <;> fail)
    have j5 := j4.bring (r := rndR A.r 0 0) (by (repeat (first | exact rH _ _ | apply rT)) <;> fail)
    have j6 := j5.bring (r := maxR A.w 10 0 0 0 0 0 0 0) (by (repeat (first | exact rH _ _ | apply rT)) <;> fail)
    have j7 := j6.bring (r := mdlP A (mdlZ mss r)) (by (repeat (first | exact rH _ _ | apply rT)) <;> fail)
    exact mdlOpen.2 j7
  clear hr e
  intro w0 F L w hS
  simp only [List.cons_append, List.nil_append] at hS
  go_enter Tryz.func97, Tryz.ntmps97
  go_wp2_with (first | go_skip | (refine ck_load hS rfl rfl rfl (by (repeat (first | exact mH _ | apply mT)) <;> fail) rfl (by decide +kernel) ?_; simp only [Act.put, spA, spZ, spS]) | (refine ck_store hS rfl rfl rfl (by constructor) (by (repeat (first | exact uH _ _ _ | apply uT)) <;> fail) (by simp <;> omega) rfl (by decide +kernel) ?_; clear hS; intro w hS; simp only [Act.put, spA, spZ, spS] at hS ⊢) | (refine ck_box hS rfl rfl (by constructor) ?_; clear hS; intro nb w hS; simp only [Act.put, spA, spZ, spS]) | (refine ck_max rfl rfl rfl rfl ?_; simp only [Act.put, spA, spZ, spS]) | (refine ck_min rfl rfl rfl rfl ?_; simp only [Act.put, spA, spZ, spS]) | (go_at_call 129; with_reducible refine Ct.callN (maxNew_ct _) hS ?_; clear hS; rintro _ _ w ⟨bw, rfl, rfl⟩ hS; simp only [List.cons_append, List.nil_append] at hS) | (go_at_call 130; with_reducible refine Ct.callN (rndNew_ct) hS ?_; clear hS; rintro _ _ w ⟨br, rfl, rfl⟩ hS; simp only [List.cons_append, List.nil_append] at hS) | (go_at_call 131; with_reducible refine Ct.callN (pipeNew_ct) hS ?_; clear hS; rintro _ _ w ⟨bp, rfl, rfl⟩ hS; simp only [List.cons_append, List.nil_append] at hS) | (go_at_call 132; with_reducible refine Ct.callN (cycNew_ct) hS ?_; clear hS; rintro _ _ w ⟨bc, rfl, rfl⟩ hS; simp only [List.cons_append, List.nil_append] at hS) | (go_at_call 133; with_reducible refine Ct.callN (prbNew_ct) hS ?_; clear hS; rintro _ _ w ⟨bq, rfl, rfl⟩ hS; simp only [List.cons_append, List.nil_append] at hS) | (go_at_call 134; with_reducible refine Ct.callN (polNew_ct) hS ?_; clear hS; rintro _ _ w ⟨bo, rfl, rfl⟩ hS; simp only [List.cons_append, List.nil_append] at hS) | (go_at_call 135; with_reducible refine Ct.call0 (kR) hS ?_; clear hS; intro w hS))
  go_ret
  exact ⟨_, ⟨⟨nb, bw, br, bp, bc, bq, bo⟩, rfl, rfl⟩, hfin (A := ⟨nb, bw, br, bp, bc, bq, bo⟩) hS⟩
end Go.Proofs.YtcegknecikbbkaaGreat

/- What buffer's functions come to. -/
set_option linter.unusedVariables false
set_option linter.unusedSimpArgs false
set_option maxRecDepth 4000
namespace Go.Proofs.YtcegknecikbbkaaGreat
open Go.RowKit
abbrev bufR (b : Nat) (w t s r : Int) : Res := pts b [.int .u64 w, .int .u64 t, .int .u64 s, .int .u64 r] 237
theorem bufNew_ct (n : Int) : Ct Tryz.prog 94 #[.int .i64 n] [] (fun v L => ∃ b, v = .pointer (some ⟨b, 0, none⟩) ∧ L = [bufR b 0 0 0 (min (max n 0) 1073741824)]) := by
  intro w0 F L w hS
  simp only [List.cons_append, List.nil_append] at hS
  go_enter Tryz.func94, Tryz.ntmps94
  go_wp2_with (first | go_skip | (refine ck_box hS rfl rfl (by constructor) ?_; clear hS; intro nb w hS; simp only [Act.put, spA, spZ, spS]) | (refine ck_max rfl rfl rfl rfl ?_; simp only [Act.put, spA, spZ, spS]) | (refine ck_min rfl rfl rfl rfl ?_; simp only [Act.put, spA, spZ, spS]) )
  go_ret
  exact ⟨_, ⟨_, rfl, rfl⟩, hS⟩
section
variable (b : Nat) (wr tk bs room n : Int)
theorem bufUnsent_ct (h0 : 0 ≤ tk) (h1 : tk ≤ wr) (h2 : wr < 4611686018427387904) : Ct Tryz.prog 197 #[.pointer (some ⟨b, 0, none⟩)] [bufR b wr tk bs room] (Gives (.int .u64 (wr - tk)) [bufR b wr tk bs room]) := by
  intro w0 F L w hS
  simp only [List.cons_append, List.nil_append] at hS
  go_enter Tryz.func197, Tryz.ntmps197
  go_wp2_with (first | go_skip  | (refine ck_region (fun _ => 0) (fun _ => []) [] hS (by kernel_rfl) (by decide +kernel) ?_ ?_; exact ⟨fun _ _ _ h => h.2, fun _ _ h => h⟩; clear hS; intro w hS _; (repeat (first | (apply wpT_pure rfl rfl; (intro _; go_simp; (try (go_ints; (try go_simp))); (first | (rw [decide_eq_true]; omega) | (rw [decide_eq_false]; omega) | rfl | rw [if_pos (by omega)])); simp only [Act.put, spA, spZ, spS]) | (refine ckT_load hS rfl rfl rfl (by simp <;> fail) (by (repeat (first | exact mH _ | apply mT)) <;> fail) rfl (by decide +kernel) ?_; simp only [Act.put, spA, spZ, spS]) )); refine wpT_nil ?_))
  go_ret
  exact ⟨_, ⟨rfl, rfl⟩, hS⟩
theorem bufUnsentZ_ct : Ct Tryz.prog 197 #[.pointer none] [] (Gives (.int .u64 0) []) := by
  intro w0 F L w hS
  simp only [List.cons_append, List.nil_append] at hS
  go_enter Tryz.func197, Tryz.ntmps197
  go_wp2_with (first | go_skip  | (refine ck_region (fun _ => 0) (fun _ => []) [] hS (by kernel_rfl) (by decide +kernel) ?_ ?_; exact ⟨fun _ _ _ h => h.2, fun _ _ h => h⟩; clear hS; intro w hS _; (repeat (first | (apply wpT_pure rfl rfl; (intro _; go_simp; (try (go_ints; (try go_simp))); (first | (rw [decide_eq_true]; omega) | (rw [decide_eq_false]; omega) | rfl | rw [if_pos (by omega)])); simp only [Act.put, spA, spZ, spS]) | (refine ckT_load hS rfl rfl rfl (by simp <;> fail) (by (repeat (first | exact mH _ | apply mT)) <;> fail) rfl (by decide +kernel) ?_; simp only [Act.put, spA, spZ, spS]) )); refine wpT_nil ?_))
  go_ret
  exact ⟨_, ⟨rfl, rfl⟩, hS⟩
theorem bufHeld_ct (h0 : 0 ≤ bs) (h1 : bs ≤ wr) (h2 : wr < 4611686018427387904) : Ct Tryz.prog 188 #[.pointer (some ⟨b, 0, none⟩)] [bufR b wr tk bs room] (Gives (.int .u64 (wr - bs)) [bufR b wr tk bs room]) := by
  intro w0 F L w hS
  simp only [List.cons_append, List.nil_append] at hS
  go_enter Tryz.func188, Tryz.ntmps188
  go_wp2_with (first | go_skip  | (refine ck_region (fun _ => 0) (fun _ => []) [] hS (by kernel_rfl) (by decide +kernel) ?_ ?_; exact ⟨fun _ _ _ h => h.2, fun _ _ h => h⟩; clear hS; intro w hS _; (repeat (first | (apply wpT_pure rfl rfl; (intro _; go_simp; (try (go_ints; (try go_simp))); (first | (rw [decide_eq_true]; omega) | (rw [decide_eq_false]; omega) | rfl | rw [if_pos (by omega)])); simp only [Act.put, spA, spZ, spS]) | (refine ckT_load hS rfl rfl rfl (by simp <;> fail) (by (repeat (first | exact mH _ | apply mT)) <;> fail) rfl (by decide +kernel) ?_; simp only [Act.put, spA, spZ, spS]) )); refine wpT_nil ?_))
  go_ret
  exact ⟨_, ⟨rfl, rfl⟩, hS⟩
theorem bufHeldZ_ct : Ct Tryz.prog 188 #[.pointer none] [] (Gives (.int .u64 0) []) := by
  intro w0 F L w hS
  simp only [List.cons_append, List.nil_append] at hS
  go_enter Tryz.func188, Tryz.ntmps188
  go_wp2_with (first | go_skip  | (refine ck_region (fun _ => 0) (fun _ => []) [] hS (by kernel_rfl) (by decide +kernel) ?_ ?_; exact ⟨fun _ _ _ h => h.2, fun _ _ h => h⟩; clear hS; intro w hS _; (repeat (first | (apply wpT_pure rfl rfl; (intro _; go_simp; (try (go_ints; (try go_simp))); (first | (rw [decide_eq_true]; omega) | (rw [decide_eq_false]; omega) | rfl | rw [if_pos (by omega)])); simp only [Act.put, spA, spZ, spS]) | (refine ckT_load hS rfl rfl rfl (by simp <;> fail) (by (repeat (first | exact mH _ | apply mT)) <;> fail) rfl (by decide +kernel) ?_; simp only [Act.put, spA, spZ, spS]) )); refine wpT_nil ?_))
  go_ret
  exact ⟨_, ⟨rfl, rfl⟩, hS⟩
theorem bufWriteZ_ct : Ct Tryz.prog 136 #[.pointer none, .int .i64 n] [] (Gives (.int .i64 2) []) := by
  intro w0 F L w hS
  simp only [List.cons_append, List.nil_append] at hS
  go_enter Tryz.func136, Tryz.ntmps136
  go_wp2_with (first | go_skip | (refine ck_load hS rfl rfl rfl (by (repeat (first | exact mH _ | apply mT)) <;> fail) rfl (by decide +kernel) ?_; simp only [Act.put, spA, spZ, spS]) | (refine ck_store hS rfl rfl rfl (by constructor) (by (repeat (first | exact uH _ _ _ | apply uT)) <;> fail) (by simp <;> omega) rfl (by decide +kernel) ?_; clear hS; intro w hS; simp only [Act.put, spA, spZ, spS] at hS ⊢)  | (refine ck_region (fun _ => 0) (fun _ => []) [] hS (by kernel_rfl) (by decide +kernel) ?_ ?_; exact ⟨fun _ _ _ h => h.2, fun _ _ h => h⟩; clear hS; intro w hS _; (repeat (first | (apply wpT_pure rfl rfl; (intro _; go_simp; (try (go_ints; (try go_simp))); (first | (rw [decide_eq_true]; omega) | (rw [decide_eq_false]; omega) | rfl | rw [if_pos (by omega)])); simp only [Act.put, spA, spZ, spS]) | (refine ckT_load hS rfl rfl rfl (by simp <;> fail) (by (repeat (first | exact mH _ | apply mT)) <;> fail) rfl (by decide +kernel) ?_; simp only [Act.put, spA, spZ, spS]) )); refine wpT_nil ?_))
  go_ret
  exact ⟨_, ⟨rfl, rfl⟩, hS⟩
theorem bufWriteArg_ct (h : n < 1) : Ct Tryz.prog 136 #[.pointer (some ⟨b, 0, none⟩), .int .i64 n] [bufR b wr tk bs room] (Gives (.int .i64 1) [bufR b wr tk bs room]) := by
  intro w0 F L w hS
  simp only [List.cons_append, List.nil_append] at hS
  go_enter Tryz.func136, Tryz.ntmps136
  go_wp2_with (first | go_skip | (refine ck_load hS rfl rfl rfl (by (repeat (first | exact mH _ | apply mT)) <;> fail) rfl (by decide +kernel) ?_; simp only [Act.put, spA, spZ, spS]) | (refine ck_store hS rfl rfl rfl (by constructor) (by (repeat (first | exact uH _ _ _ | apply uT)) <;> fail) (by simp <;> omega) rfl (by decide +kernel) ?_; clear hS; intro w hS; simp only [Act.put, spA, spZ, spS] at hS ⊢)  | (refine ck_region (fun _ => 0) (fun _ => []) [] hS (by kernel_rfl) (by decide +kernel) ?_ ?_; exact ⟨fun _ _ _ h => h.2, fun _ _ h => h⟩; clear hS; intro w hS _; (repeat (first | (apply wpT_pure rfl rfl; (intro _; go_simp; (try (go_ints; (try go_simp))); (first | (rw [decide_eq_true]; omega) | (rw [decide_eq_false]; omega) | rfl | rw [if_pos (by omega)])); simp only [Act.put, spA, spZ, spS]) | (refine ckT_load hS rfl rfl rfl (by simp <;> fail) (by (repeat (first | exact mH _ | apply mT)) <;> fail) rfl (by decide +kernel) ?_; simp only [Act.put, spA, spZ, spS]) )); refine wpT_nil ?_))
  go_ret
  exact ⟨_, ⟨rfl, rfl⟩, hS⟩
theorem bufWriteFull_ct (h : 1 ≤ n) (h3 : n ≤ 9223372036854775807) (h0 : 0 ≤ bs) (h1 : bs ≤ wr) (h2 : wr < 4611686018427387904) (h4 : wr - bs ≤ room) (h5 : room ≤ 1073741824) (hn : room - (wr - bs) < n) :
    Ct Tryz.prog 136 #[.pointer (some ⟨b, 0, none⟩), .int .i64 n] [bufR b wr tk bs room] (Gives (.int .i64 5) [bufR b wr tk bs room]) := by
  intro w0 F L w hS
  simp only [List.cons_append, List.nil_append] at hS
  go_enter Tryz.func136, Tryz.ntmps136
  go_wp2_with (first | go_skip | (refine ck_load hS rfl rfl rfl (by (repeat (first | exact mH _ | apply mT)) <;> fail) rfl (by decide +kernel) ?_; simp only [Act.put, spA, spZ, spS]) | (refine ck_store hS rfl rfl rfl (by constructor) (by (repeat (first | exact uH _ _ _ | apply uT)) <;> fail) (by simp <;> omega) rfl (by decide +kernel) ?_; clear hS; intro w hS; simp only [Act.put, spA, spZ, spS] at hS ⊢) | (refine ck_region (fun _ => b) (fun i => if i = 7 then [5] else []) ([5]) hS (by kernel_rfl) (by decide +kernel) ?_ ?_; exact ⟨fun _ _ _ h => h.2, fun _ _ h => h⟩; clear hS; intro w hS _; (repeat (first | (apply wpT_pure rfl rfl; (intro _; go_simp; (try (go_ints; (try go_simp))); (first | (rw [decide_eq_true]; omega) | (rw [decide_eq_false]; omega) | rfl | rw [if_pos (by omega)])); simp only [Act.put, spA, spZ, spS]) | (refine ckT_load hS rfl rfl rfl (by simp <;> fail) (by (repeat (first | exact mH _ | apply mT)) <;> fail) rfl (by decide +kernel) ?_; simp only [Act.put, spA, spZ, spS]) | ((refine ckT_callU hS rfl (bufHeld_ct b wr tk bs room h0 h1 h2) (by (repeat (first | exact uH _ _ _ | apply uT)) <;> fail) rfl (by kernel_rfl) rfl (by intro j hj; simp at hj <;> (first | (subst hj; exact Or.inr ⟨_, _, (by (repeat (first | exact mH _ | apply mT)) <;> fail), (by (repeat (first | exact mH _ | apply mT)) <;> fail)⟩) | (rcases hj with rfl | rfl <;> exact Or.inr ⟨_, _, (by (repeat (first | exact mH _ | apply mT)) <;> fail), (by (repeat (first | exact mH _ | apply mT)) <;> fail)⟩) | (rcases hj with rfl | rfl | rfl <;> exact Or.inr ⟨_, _, (by (repeat (first | exact mH _ | apply mT)) <;> fail), (by (repeat (first | exact mH _ | apply mT)) <;> fail)⟩) | (rcases hj with rfl | rfl | rfl | rfl <;> exact Or.inr ⟨_, _, (by (repeat (first | exact mH _ | apply mT)) <;> fail), (by (repeat (first | exact mH _ | apply mT)) <;> fail)⟩))) ?_) <;> (first | (clear hS; intro w hS) | omega); simp only [Act.put, spA, spZ, spS]))); refine wpT_nil ?_) | (refine ck_region (fun _ => 0) (fun _ => []) [] hS (by kernel_rfl) (by decide +kernel) ?_ ?_; exact ⟨fun _ _ _ h => h.2, fun _ _ h => h⟩; clear hS; intro w hS _; (repeat (first | (apply wpT_pure rfl rfl; (intro _; go_simp; (try (go_ints; (try go_simp))); (first | (rw [decide_eq_true]; omega) | (rw [decide_eq_false]; omega) | rfl | rw [if_pos (by omega)])); simp only [Act.put, spA, spZ, spS]) | (refine ckT_load hS rfl rfl rfl (by simp <;> fail) (by (repeat (first | exact mH _ | apply mT)) <;> fail) rfl (by decide +kernel) ?_; simp only [Act.put, spA, spZ, spS]) )); refine wpT_nil ?_))
  go_ret
  exact ⟨_, ⟨rfl, rfl⟩, hS⟩
theorem bufWriteOk_ct (h : 1 ≤ n) (h3 : n ≤ 9223372036854775807) (h0 : 0 ≤ bs) (h1 : bs ≤ wr) (h2 : wr < 4611686018427387904) (h4 : wr - bs ≤ room) (h5 : room ≤ 1073741824) (hn : n ≤ room - (wr - bs)) :
    Ct Tryz.prog 136 #[.pointer (some ⟨b, 0, none⟩), .int .i64 n] [bufR b wr tk bs room] (Gives (.int .i64 0) [bufR b (wr + n) tk bs room]) := by
  intro w0 F L w hS
  simp only [List.cons_append, List.nil_append] at hS
  go_enter Tryz.func136, Tryz.ntmps136
  go_wp2_with (first | go_skip | (refine ck_load hS rfl rfl rfl (by (repeat (first | exact mH _ | apply mT)) <;> fail) rfl (by decide +kernel) ?_; simp only [Act.put, spA, spZ, spS]) | (refine ck_store hS rfl rfl rfl (by constructor) (by (repeat (first | exact uH _ _ _ | apply uT)) <;> fail) (by simp <;> omega) rfl (by decide +kernel) ?_; clear hS; intro w hS; simp only [Act.put, spA, spZ, spS] at hS ⊢) | (refine ck_region (fun _ => b) (fun i => if i = 7 then [5] else []) ([5]) hS (by kernel_rfl) (by decide +kernel) ?_ ?_; exact ⟨fun _ _ _ h => h.2, fun _ _ h => h⟩; clear hS; intro w hS _; (repeat (first | (apply wpT_pure rfl rfl; (intro _; go_simp; (try (go_ints; (try go_simp))); (first | (rw [decide_eq_true]; omega) | (rw [decide_eq_false]; omega) | rfl | rw [if_pos (by omega)])); simp only [Act.put, spA, spZ, spS]) | (refine ckT_load hS rfl rfl rfl (by simp <;> fail) (by (repeat (first | exact mH _ | apply mT)) <;> fail) rfl (by decide +kernel) ?_; simp only [Act.put, spA, spZ, spS]) | ((refine ckT_callU hS rfl (bufHeld_ct b wr tk bs room h0 h1 h2) (by (repeat (first | exact uH _ _ _ | apply uT)) <;> fail) rfl (by kernel_rfl) rfl (by intro j hj; simp at hj <;> (first | (subst hj; exact Or.inr ⟨_, _, (by (repeat (first | exact mH _ | apply mT)) <;> fail), (by (repeat (first | exact mH _ | apply mT)) <;> fail)⟩) | (rcases hj with rfl | rfl <;> exact Or.inr ⟨_, _, (by (repeat (first | exact mH _ | apply mT)) <;> fail), (by (repeat (first | exact mH _ | apply mT)) <;> fail)⟩) | (rcases hj with rfl | rfl | rfl <;> exact Or.inr ⟨_, _, (by (repeat (first | exact mH _ | apply mT)) <;> fail), (by (repeat (first | exact mH _ | apply mT)) <;> fail)⟩) | (rcases hj with rfl | rfl | rfl | rfl <;> exact Or.inr ⟨_, _, (by (repeat (first | exact mH _ | apply mT)) <;> fail), (by (repeat (first | exact mH _ | apply mT)) <;> fail)⟩))) ?_) <;> (first | (clear hS; intro w hS) | omega); simp only [Act.put, spA, spZ, spS]))); refine wpT_nil ?_) | (refine ck_region (fun _ => 0) (fun _ => []) [] hS (by kernel_rfl) (by decide +kernel) ?_ ?_; exact ⟨fun _ _ _ h => h.2, fun _ _ h => h⟩; clear hS; intro w hS _; (repeat (first | (apply wpT_pure rfl rfl; (intro _; go_simp; (try (go_ints; (try go_simp))); (first | (rw [decide_eq_true]; omega) | (rw [decide_eq_false]; omega) | rfl | rw [if_pos (by omega)])); simp only [Act.put, spA, spZ, spS]) | (refine ckT_load hS rfl rfl rfl (by simp <;> fail) (by (repeat (first | exact mH _ | apply mT)) <;> fail) rfl (by decide +kernel) ?_; simp only [Act.put, spA, spZ, spS]) )); refine wpT_nil ?_))
  go_ret
  exact ⟨_, ⟨rfl, rfl⟩, hS⟩
theorem bufAckedZ_ct : Ct Tryz.prog 138 #[.pointer none, .int .u64 n] [] (Gives (.int .i64 2) []) := by
  intro w0 F L w hS
  simp only [List.cons_append, List.nil_append] at hS
  go_enter Tryz.func138, Tryz.ntmps138
  go_wp2_with (first | go_skip | (refine ck_load hS rfl rfl rfl (by (repeat (first | exact mH _ | apply mT)) <;> fail) rfl (by decide +kernel) ?_; simp only [Act.put, spA, spZ, spS]) | (refine ck_store hS rfl rfl rfl (by constructor) (by (repeat (first | exact uH _ _ _ | apply uT)) <;> fail) (by simp <;> omega) rfl (by decide +kernel) ?_; clear hS; intro w hS; simp only [Act.put, spA, spZ, spS] at hS ⊢) | (refine ck_max rfl rfl rfl rfl ?_; simp only [Act.put, spA, spZ, spS]) | (refine ck_min rfl rfl rfl rfl ?_; simp only [Act.put, spA, spZ, spS]) )
  go_ret
  exact ⟨_, ⟨rfl, rfl⟩, hS⟩
theorem bufAckedNo_ct (h : tk < n) : Ct Tryz.prog 138 #[.pointer (some ⟨b, 0, none⟩), .int .u64 n] [bufR b wr tk bs room] (Gives (.int .i64 11) [bufR b wr tk bs room]) := by
  intro w0 F L w hS
  simp only [List.cons_append, List.nil_append] at hS
  go_enter Tryz.func138, Tryz.ntmps138
  go_wp2_with (first | go_skip | (refine ck_load hS rfl rfl rfl (by (repeat (first | exact mH _ | apply mT)) <;> fail) rfl (by decide +kernel) ?_; simp only [Act.put, spA, spZ, spS]) | (refine ck_store hS rfl rfl rfl (by constructor) (by (repeat (first | exact uH _ _ _ | apply uT)) <;> fail) (by simp <;> omega) rfl (by decide +kernel) ?_; clear hS; intro w hS; simp only [Act.put, spA, spZ, spS] at hS ⊢) | (refine ck_max rfl rfl rfl rfl ?_; simp only [Act.put, spA, spZ, spS]) | (refine ck_min rfl rfl rfl rfl ?_; simp only [Act.put, spA, spZ, spS]) )
  go_ret
  exact ⟨_, ⟨rfl, rfl⟩, hS⟩
theorem bufAckedOk_ct (h : n ≤ tk) : Ct Tryz.prog 138 #[.pointer (some ⟨b, 0, none⟩), .int .u64 n] [bufR b wr tk bs room] (Gives (.int .i64 0) [bufR b wr tk (max bs n) room]) := by
  intro w0 F L w hS
  simp only [List.cons_append, List.nil_append] at hS
  go_enter Tryz.func138, Tryz.ntmps138
  go_wp2_with (first | go_skip | (refine ck_load hS rfl rfl rfl (by (repeat (first | exact mH _ | apply mT)) <;> fail) rfl (by decide +kernel) ?_; simp only [Act.put, spA, spZ, spS]) | (refine ck_store hS rfl rfl rfl (by constructor) (by (repeat (first | exact uH _ _ _ | apply uT)) <;> fail) (by simp <;> omega) rfl (by decide +kernel) ?_; clear hS; intro w hS; simp only [Act.put, spA, spZ, spS] at hS ⊢) | (refine ck_max rfl rfl rfl rfl ?_; simp only [Act.put, spA, spZ, spS]) | (refine ck_min rfl rfl rfl rfl ?_; simp only [Act.put, spA, spZ, spS]) )
  go_ret
  exact ⟨_, ⟨rfl, rfl⟩, hS⟩
end
end Go.Proofs.YtcegknecikbbkaaGreat
