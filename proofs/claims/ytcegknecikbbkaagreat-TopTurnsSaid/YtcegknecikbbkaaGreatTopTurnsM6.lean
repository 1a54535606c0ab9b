/- TopTurns: what functions of the program come to: part 6 of 6. -/
import Derived.Deep.DeepCutAuto
import Derived.WalkKit
import Derived.WalkSpells
import Derived.WalkLawsBesides
import Derived.WalkMore
import Derived.Deep.LoopGhost
import Derived.ProofKit
import Derived.OpenShut
import Derived.Deep.Slices
import Derived.Deep.Fields
import Derived.ChangeSame
import Derived.Carry
import Derived.Test.YtcegknecikbbkaaGreatTopTurnsM1
import Derived.Test.YtcegknecikbbkaaGreatTopTurnsM2
import Derived.Test.YtcegknecikbbkaaGreatTopTurnsM3
import Derived.Test.YtcegknecikbbkaaGreatTopTurnsM4
import Derived.Test.YtcegknecikbbkaaGreatTopTurnsM5
/- A config that may be, near to any. -/
set_option linter.unusedVariables false
set_option linter.unusedSimpArgs false
set_option maxRecDepth 4000
namespace Go.Proofs.YtcegknecikbbkaaGreat
open Go.RowKit
def cfgZ : CfgM := ⟨0, 0, 0, 0, 0, 0, false, 0, 0⟩
def plainC : CfgM := ⟨3000, 15000, 100, 50, 10000000000, 0, false, 100000, 1000⟩
theorem plain_ct : Ct Tryz.prog 6 #[] [] (Gives (cfgA plainC) []) := by
  intro w0 F L w hS
  simp only [List.cons_append, List.nil_append] at hS
  go_enter Tryz.func6, Tryz.ntmps6
  go_wp2_with (first | go_skip | (refine ck_store hS rfl rfl rfl (by constructor) (by (repeat (first | exact uH _ _ _ | apply uT)) <;> fail) (by simp <;> omega) rfl (by decide +kernel) ?_; clear hS; intro w hS; simp only [Act.put, spA, spZ, spS] at hS ⊢) | (refine ck_alloc (t := 24) (v := cfgA cfgZ) (cs := cfgV cfgZ) hS rfl rfl (by kernel_rfl) rfl ?_; clear hS; intro x0 w hS; simp only [Act.put, spA, spZ, spS]) | (refine ck_storeAll hS rfl rfl rfl rfl (by (repeat (first | exact uH _ _ _ | apply uT)) <;> fail) (by rfl) rfl (by (try simp only [List.length_cons, List.length_nil, Nat.zero_add, Nat.reduceAdd]); decide +kernel) ?_; clear hS; intro w hS; simp only [Act.put, spA, spZ, spS]))
  refine bodyPost_ret (ckRes_cell hS (cs := cfgV plainC) (b := x0) (T := 24) (by (repeat (first | exact mH _ | apply mT)) <;> fail) rfl rfl rfl (by (try simp only [List.length_cons, List.length_nil, Nat.zero_add, Nat.reduceAdd]); decide +kernel)) rfl ?_
  exact ⟨_, ⟨rfl, rfl⟩, hS.drop⟩
def fld (lo hi d v : Int) : Int := if lo ≤ v ∧ v ≤ hi then v else d
def playC (c : CfgM) : CfgM := ⟨fld 100 65536 3000 c.quantum, fld 100 65536 15000 c.first, fld 1 512 100 c.limit, fld 1 512 50 c.flowLimit, if c.horizon ≤ 4611686018427387904 then c.horizon else 10000000000, c.maxRate, c.dropH, fld 1 1073741824 100000 c.cap, fld 100 9000 1000 c.mss⟩
theorem fld_bd {lo hi d v : Int} (h0 : lo ≤ d) (h1 : d ≤ hi) : lo ≤ fld lo hi d v ∧ fld lo hi d v ≤ hi := by unfold fld; split <;> omega
theorem playC_ok (c : CfgM) : mayOk (playC c) := by
  have h1 := fld_bd (lo := 100) (hi := 65536) (d := 3000) (v := c.quantum) (by omega) (by omega)
  have h2 := fld_bd (lo := 100) (hi := 65536) (d := 15000) (v := c.first) (by omega) (by omega)
  have h3 := fld_bd (lo := 1) (hi := 512) (d := 100) (v := c.limit) (by omega) (by omega)
  have h4 := fld_bd (lo := 1) (hi := 512) (d := 50) (v := c.flowLimit) (by omega) (by omega)
  have h5 := fld_bd (lo := 1) (hi := 1073741824) (d := 100000) (v := c.cap) (by omega) (by omega)
  have h6 := fld_bd (lo := 100) (hi := 9000) (d := 1000) (v := c.mss) (by omega) (by omega)
  refine ⟨h1.1, h1.2, h2.1, h2.2, h3.1, h3.2, h4.1, h4.2, ?_, h5.1, h5.2, h6.1, h6.2⟩
  show (if c.horizon ≤ 4611686018427387904 then c.horizon else 10000000000) ≤ 4611686018427387904
  split <;> omega
abbrev pcell (q f l fl h mr : Int) (dh : Bool) (cp ms : Int) : List Value := [.int .i64 q, .int .i64 f, .int .i64 l, .int .i64 fl, .int .u64 h, .int .u64 mr, .bool dh, .int .i64 cp, .int .i64 ms]
set_option maxHeartbeats 4000000 in
theorem play_ct (c : CfgM) : Ct Tryz.prog 12 #[cfgA c] [] (Gives (cfgA (playC c)) []) := by
  obtain ⟨cq, cf, cl, cfl, ch, cmr, cdh, ccp, cms⟩ := c
  have kP : Ct Tryz.prog 6 #[] [] (Gives (.agg (pcell 3000 15000 100 50 10000000000 0 false 100000 1000).toArray) []) := plain_ct
  intro w0 F L w hS
  simp only [List.cons_append, List.nil_append] at hS
  go_enter Tryz.func12, Tryz.ntmps12
  go_upto_region 2 with (first | go_skip | (refine ck_load hS rfl rfl rfl (by (repeat (first | exact mH _ | apply mT)) <;> fail) rfl (by decide +kernel) ?_; simp only [Act.put, spA, spZ, spS]) | (refine ck_box hS rfl rfl (by constructor) ?_; clear hS; intro x1 w hS; simp only [Act.put, spA, spZ, spS]) | (refine ck_storeAll hS rfl rfl rfl rfl (by (repeat (first | exact uH _ _ _ | apply uT)) <;> fail) (by rfl) rfl (by (try simp only [List.length_cons, List.length_nil, Nat.zero_add, Nat.reduceAdd]); decide +kernel) ?_; clear hS; intro w hS; simp only [Act.put, spA, spZ, spS]) | (have h1 := x2; clear h1; refine ck_alloc (t := 24) (v := cfgA cfgZ) (cs := cfgV cfgZ) hS rfl rfl (by kernel_rfl) rfl ?_; clear hS; intro x3 w hS; simp only [Act.put, spA, spZ, spS]) | (refine ck_alloc (t := 24) (v := cfgA cfgZ) (cs := cfgV cfgZ) hS rfl rfl (by kernel_rfl) rfl ?_; clear hS; intro x2 w hS; simp only [Act.put, spA, spZ, spS]) | (go_at_call 6; with_reducible refine Ct.call0 (kP) hS ?_; clear hS; intro w hS))
  go_cut [12] (fun s wx => s = .bool (decide (100 ≤ cq) && decide (cq ≤ 65536)) ∧ Sep w0 F (pts x3 (pcell 3000 15000 100 50 10000000000 0 false 100000 1000) 24 :: pts x2 (cfgV cfgZ) 24 :: pts x1 (cfgV ⟨cq, cf, cl, cfl, ch, cmr, cdh, ccp, cms⟩) 24 :: L) wx)
  case first =>
    by_cases h1 : 100 ≤ cq
    · go_wp2_with (first | go_skip | (refine ck_load hS rfl rfl rfl (by (repeat (first | exact mH _ | apply mT)) <;> fail) rfl (by decide +kernel) ?_; simp only [Act.put, spA, spZ, spS]))
      go_meet
      case rel => exact ⟨congrArg Value.bool (by rw [decide_eq_true h1, Bool.true_and]), hS⟩
    · go_wp2_with (first | go_skip | (refine ck_load hS rfl rfl rfl (by (repeat (first | exact mH _ | apply mT)) <;> fail) rfl (by decide +kernel) ?_; simp only [Act.put, spA, spZ, spS]))
      go_meet
      case rel => exact ⟨congrArg Value.bool (by rw [decide_eq_false (by omega : ¬ 100 ≤ cq), Bool.false_and]), hS⟩
  case rest =>
  clear hS
  obtain ⟨rfl, hS⟩ := hcut
  go_upto_if 12 with fail
  go_cut [] (fun wx => Sep w0 F (pts x3 (pcell (fld 100 65536 3000 cq) 15000 100 50 10000000000 0 false 100000 1000) 24 :: pts x2 (cfgV cfgZ) 24 :: pts x1 (cfgV ⟨cq, cf, cl, cfl, ch, cmr, cdh, ccp, cms⟩) 24 :: L) wx)
  case first =>
    go_wp2_with (first | go_skip | (refine ck_load hS rfl rfl rfl (by (repeat (first | exact mH _ | apply mT)) <;> fail) rfl (by decide +kernel) ?_; simp only [Act.put, spA, spZ, spS]) | (refine ck_store hS rfl rfl rfl (by constructor) (by (repeat (first | exact uH _ _ _ | apply uT)) <;> fail) (by simp <;> omega) rfl (by decide +kernel) ?_; clear hS; intro w hS; simp only [Act.put, spA, spZ, spS] at hS ⊢))
    all_goals
      go_meet
      case rel => first | (rw [show fld 100 65536 3000 cq = cq by unfold fld; rw [if_pos (by omega)]]; exact hS) | (rw [show fld 100 65536 3000 cq = 3000 by unfold fld; rw [if_neg (by omega)]]; exact hS)
  case rest =>
  clear hS
  have hS := hcut
  clear hcut
  go_upto_region 4 with (first | go_skip)
  go_cut [23] (fun s wx => s = .bool (decide (100 ≤ cf) && decide (cf ≤ 65536)) ∧ Sep w0 F (pts x3 (pcell (fld 100 65536 3000 cq) 15000 100 50 10000000000 0 false 100000 1000) 24 :: pts x2 (cfgV cfgZ) 24 :: pts x1 (cfgV ⟨cq, cf, cl, cfl, ch, cmr, cdh, ccp, cms⟩) 24 :: L) wx)
  case first =>
    by_cases h1 : 100 ≤ cf
    · go_wp2_with (first | go_skip | (refine ck_load hS rfl rfl rfl (by (repeat (first | exact mH _ | apply mT)) <;> fail) rfl (by decide +kernel) ?_; simp only [Act.put, spA, spZ, spS]))
      go_meet
      case rel => exact ⟨congrArg Value.bool (by rw [decide_eq_true h1, Bool.true_and]), hS⟩
    · go_wp2_with (first | go_skip | (refine ck_load hS rfl rfl rfl (by (repeat (first | exact mH _ | apply mT)) <;> fail) rfl (by decide +kernel) ?_; simp only [Act.put, spA, spZ, spS]))
      go_meet
      case rel => exact ⟨congrArg Value.bool (by rw [decide_eq_false (by omega : ¬ 100 ≤ cf), Bool.false_and]), hS⟩
  case rest =>
  clear hS
  obtain ⟨rfl, hS⟩ := hcut
  go_upto_if 23 with fail
  go_cut [] (fun wx => Sep w0 F (pts x3 (pcell (fld 100 65536 3000 cq) (fld 100 65536 15000 cf) 100 50 10000000000 0 false 100000 1000) 24 :: pts x2 (cfgV cfgZ) 24 :: pts x1 (cfgV ⟨cq, cf, cl, cfl, ch, cmr, cdh, ccp, cms⟩) 24 :: L) wx)
  case first =>
    go_wp2_with (first | go_skip | (refine ck_load hS rfl rfl rfl (by (repeat (first | exact mH _ | apply mT)) <;> fail) rfl (by decide +kernel) ?_; simp only [Act.put, spA, spZ, spS]) | (refine ck_store hS rfl rfl rfl (by constructor) (by (repeat (first | exact uH _ _ _ | apply uT)) <;> fail) (by simp <;> omega) rfl (by decide +kernel) ?_; clear hS; intro w hS; simp only [Act.put, spA, spZ, spS] at hS ⊢))
    all_goals
      go_meet
      case rel => first | (rw [show fld 100 65536 15000 cf = cf by unfold fld; rw [if_pos (by omega)]]; exact hS) | (rw [show fld 100 65536 15000 cf = 15000 by unfold fld; rw [if_neg (by omega)]]; exact hS)
  case rest =>
  clear hS
  have hS := hcut
  clear hcut
  go_upto_region 6 with (first | go_skip)
  go_cut [34] (fun s wx => s = .bool (decide (1 ≤ cl) && decide (cl ≤ 512)) ∧ Sep w0 F (pts x3 (pcell (fld 100 65536 3000 cq) (fld 100 65536 15000 cf) 100 50 10000000000 0 false 100000 1000) 24 :: pts x2 (cfgV cfgZ) 24 :: pts x1 (cfgV ⟨cq, cf, cl, cfl, ch, cmr, cdh, ccp, cms⟩) 24 :: L) wx)
  case first =>
    by_cases h1 : 1 ≤ cl
    · go_wp2_with (first | go_skip | (refine ck_load hS rfl rfl rfl (by (repeat (first | exact mH _ | apply mT)) <;> fail) rfl (by decide +kernel) ?_; simp only [Act.put, spA, spZ, spS]))
      go_meet
      case rel => exact ⟨congrArg Value.bool (by rw [decide_eq_true h1, Bool.true_and]), hS⟩
    · go_wp2_with (first | go_skip | (refine ck_load hS rfl rfl rfl (by (repeat (first | exact mH _ | apply mT)) <;> fail) rfl (by decide +kernel) ?_; simp only [Act.put, spA, spZ, spS]))
      go_meet
      case rel => exact ⟨congrArg Value.bool (by rw [decide_eq_false (by omega : ¬ 1 ≤ cl), Bool.false_and]), hS⟩
  case rest =>
  clear hS
  obtain ⟨rfl, hS⟩ := hcut
  go_upto_if 34 with fail
  go_cut [] (fun wx => Sep w0 F (pts x3 (pcell (fld 100 65536 3000 cq) (fld 100 65536 15000 cf) (fld 1 512 100 cl) 50 10000000000 0 false 100000 1000) 24 :: pts x2 (cfgV cfgZ) 24 :: pts x1 (cfgV ⟨cq, cf, cl, cfl, ch, cmr, cdh, ccp, cms⟩) 24 :: L) wx)
  case first =>
    go_wp2_with (first | go_skip | (refine ck_load hS rfl rfl rfl (by (repeat (first | exact mH _ | apply mT)) <;> fail) rfl (by decide +kernel) ?_; simp only [Act.put, spA, spZ, spS]) | (refine ck_store hS rfl rfl rfl (by constructor) (by (repeat (first | exact uH _ _ _ | apply uT)) <;> fail) (by simp <;> omega) rfl (by decide +kernel) ?_; clear hS; intro w hS; simp only [Act.put, spA, spZ, spS] at hS ⊢))
    all_goals
      go_meet
      case rel => first | (rw [show fld 1 512 100 cl = cl by unfold fld; rw [if_pos (by omega)]]; exact hS) | (rw [show fld 1 512 100 cl = 100 by unfold fld; rw [if_neg (by omega)]]; exact hS)
  case rest =>
  clear hS
  have hS := hcut
  clear hcut
  go_upto_region 8 with (first | go_skip)
  go_cut [45] (fun s wx => s = .bool (decide (1 ≤ cfl) && decide (cfl ≤ 512)) ∧ Sep w0 F (pts x3 (pcell (fld 100 65536 3000 cq) (fld 100 65536 15000 cf) (fld 1 512 100 cl) 50 10000000000 0 false 100000 1000) 24 :: pts x2 (cfgV cfgZ) 24 :: pts x1 (cfgV ⟨cq, cf, cl, cfl, ch, cmr, cdh, ccp, cms⟩) 24 :: L) wx)
  case first =>
    by_cases h1 : 1 ≤ cfl
    · go_wp2_with (first | go_skip | (refine ck_load hS rfl rfl rfl (by (repeat (first | exact mH _ | apply mT)) <;> fail) rfl (by decide +kernel) ?_; simp only [Act.put, spA, spZ, spS]))
      go_meet
      case rel => exact ⟨congrArg Value.bool (by rw [decide_eq_true h1, Bool.true_and]), hS⟩
    · go_wp2_with (first | go_skip | (refine ck_load hS rfl rfl rfl (by (repeat (first | exact mH _ | apply mT)) <;> fail) rfl (by decide +kernel) ?_; simp only [Act.put, spA, spZ, spS]))
      go_meet
      case rel => exact ⟨congrArg Value.bool (by rw [decide_eq_false (by omega : ¬ 1 ≤ cfl), Bool.false_and]), hS⟩
  case rest =>
  clear hS
  obtain ⟨rfl, hS⟩ := hcut
  go_upto_if 45 with fail
  go_cut [] (fun wx => Sep w0 F (pts x3 (pcell (fld 100 65536 3000 cq) (fld 100 65536 15000 cf) (fld 1 512 100 cl) (fld 1 512 50 cfl) 10000000000 0 false 100000 1000) 24 :: pts x2 (cfgV cfgZ) 24 :: pts x1 (cfgV ⟨cq, cf, cl, cfl, ch, cmr, cdh, ccp, cms⟩) 24 :: L) wx)
  case first =>
    go_wp2_with (first | go_skip | (refine ck_load hS rfl rfl rfl (by (repeat (first | exact mH _ | apply mT)) <;> fail) rfl (by decide +kernel) ?_; simp only [Act.put, spA, spZ, spS]) | (refine ck_store hS rfl rfl rfl (by constructor) (by (repeat (first | exact uH _ _ _ | apply uT)) <;> fail) (by simp <;> omega) rfl (by decide +kernel) ?_; clear hS; intro w hS; simp only [Act.put, spA, spZ, spS] at hS ⊢))
    all_goals
      go_meet
      case rel => first | (rw [show fld 1 512 50 cfl = cfl by unfold fld; rw [if_pos (by omega)]]; exact hS) | (rw [show fld 1 512 50 cfl = 50 by unfold fld; rw [if_neg (by omega)]]; exact hS)
  case rest =>
  clear hS
  have hS := hcut
  clear hcut
  go_upto_if 51 with (first | go_skip | (refine ck_load hS rfl rfl rfl (by (repeat (first | exact mH _ | apply mT)) <;> fail) rfl (by decide +kernel) ?_; simp only [Act.put, spA, spZ, spS]))
  go_cut [] (fun wx => Sep w0 F (pts x3 (pcell (fld 100 65536 3000 cq) (fld 100 65536 15000 cf) (fld 1 512 100 cl) (fld 1 512 50 cfl) (if ch ≤ 4611686018427387904 then ch else 10000000000) 0 false 100000 1000) 24 :: pts x2 (cfgV cfgZ) 24 :: pts x1 (cfgV ⟨cq, cf, cl, cfl, ch, cmr, cdh, ccp, cms⟩) 24 :: L) wx)
  case first =>
    go_wp2_with (first | go_skip | (refine ck_load hS rfl rfl rfl (by (repeat (first | exact mH _ | apply mT)) <;> fail) rfl (by decide +kernel) ?_; simp only [Act.put, spA, spZ, spS]) | (refine ck_store hS rfl rfl rfl (by constructor) (by (repeat (first | exact uH _ _ _ | apply uT)) <;> fail) (by simp <;> omega) rfl (by decide +kernel) ?_; clear hS; intro w hS; simp only [Act.put, spA, spZ, spS] at hS ⊢))
    all_goals
      go_meet
      case rel => first | (rw [if_pos (by omega)]; exact hS) | (rw [if_neg (by omega)]; exact hS)
  case rest =>
  clear hS
  have hS := hcut
  clear hcut
  go_upto_region 12 with (first | go_skip)
  go_cut [62] (fun s wx => s = .bool (decide (1 ≤ ccp) && decide (ccp ≤ 1073741824)) ∧ Sep w0 F (pts x3 (pcell (fld 100 65536 3000 cq) (fld 100 65536 15000 cf) (fld 1 512 100 cl) (fld 1 512 50 cfl) (if ch ≤ 4611686018427387904 then ch else 10000000000) 0 false 100000 1000) 24 :: pts x2 (cfgV cfgZ) 24 :: pts x1 (cfgV ⟨cq, cf, cl, cfl, ch, cmr, cdh, ccp, cms⟩) 24 :: L) wx)
  case first =>
    by_cases h1 : 1 ≤ ccp
    · go_wp2_with (first | go_skip | (refine ck_load hS rfl rfl rfl (by (repeat (first | exact mH _ | apply mT)) <;> fail) rfl (by decide +kernel) ?_; simp only [Act.put, spA, spZ, spS]))
      go_meet
      case rel => exact ⟨congrArg Value.bool (by rw [decide_eq_true h1, Bool.true_and]), hS⟩
    · go_wp2_with (first | go_skip | (refine ck_load hS rfl rfl rfl (by (repeat (first | exact mH _ | apply mT)) <;> fail) rfl (by decide +kernel) ?_; simp only [Act.put, spA, spZ, spS]))
      go_meet
      case rel => exact ⟨congrArg Value.bool (by rw [decide_eq_false (by omega : ¬ 1 ≤ ccp), Bool.false_and]), hS⟩
  case rest =>
  clear hS
  obtain ⟨rfl, hS⟩ := hcut
  go_upto_if 62 with fail
  go_cut [] (fun wx => Sep w0 F (pts x3 (pcell (fld 100 65536 3000 cq) (fld 100 65536 15000 cf) (fld 1 512 100 cl) (fld 1 512 50 cfl) (if ch ≤ 4611686018427387904 then ch else 10000000000) 0 false (fld 1 1073741824 100000 ccp) 1000) 24 :: pts x2 (cfgV cfgZ) 24 :: pts x1 (cfgV ⟨cq, cf, cl, cfl, ch, cmr, cdh, ccp, cms⟩) 24 :: L) wx)
  case first =>
    go_wp2_with (first | go_skip | (refine ck_load hS rfl rfl rfl (by (repeat (first | exact mH _ | apply mT)) <;> fail) rfl (by decide +kernel) ?_; simp only [Act.put, spA, spZ, spS]) | (refine ck_store hS rfl rfl rfl (by constructor) (by (repeat (first | exact uH _ _ _ | apply uT)) <;> fail) (by simp <;> omega) rfl (by decide +kernel) ?_; clear hS; intro w hS; simp only [Act.put, spA, spZ, spS] at hS ⊢))
    all_goals
      go_meet
      case rel => first | (rw [show fld 1 1073741824 100000 ccp = ccp by unfold fld; rw [if_pos (by omega)]]; exact hS) | (rw [show fld 1 1073741824 100000 ccp = 100000 by unfold fld; rw [if_neg (by omega)]]; exact hS)
  case rest =>
  clear hS
  have hS := hcut
  clear hcut
  go_upto_region 14 with (first | go_skip)
  go_cut [73] (fun s wx => s = .bool (decide (100 ≤ cms) && decide (cms ≤ 9000)) ∧ Sep w0 F (pts x3 (pcell (fld 100 65536 3000 cq) (fld 100 65536 15000 cf) (fld 1 512 100 cl) (fld 1 512 50 cfl) (if ch ≤ 4611686018427387904 then ch else 10000000000) 0 false (fld 1 1073741824 100000 ccp) 1000) 24 :: pts x2 (cfgV cfgZ) 24 :: pts x1 (cfgV ⟨cq, cf, cl, cfl, ch, cmr, cdh, ccp, cms⟩) 24 :: L) wx)
  case first =>
    by_cases h1 : 100 ≤ cms
    · go_wp2_with (first | go_skip | (refine ck_load hS rfl rfl rfl (by (repeat (first | exact mH _ | apply mT)) <;> fail) rfl (by decide +kernel) ?_; simp only [Act.put, spA, spZ, spS]))
      go_meet
      case rel => exact ⟨congrArg Value.bool (by rw [decide_eq_true h1, Bool.true_and]), hS⟩
    · go_wp2_with (first | go_skip | (refine ck_load hS rfl rfl rfl (by (repeat (first | exact mH _ | apply mT)) <;> fail) rfl (by decide +kernel) ?_; simp only [Act.put, spA, spZ, spS]))
      go_meet
      case rel => exact ⟨congrArg Value.bool (by rw [decide_eq_false (by omega : ¬ 100 ≤ cms), Bool.false_and]), hS⟩
  case rest =>
  clear hS
  obtain ⟨rfl, hS⟩ := hcut
  go_upto_if 73 with fail
  go_cut [] (fun wx => Sep w0 F (pts x3 (pcell (fld 100 65536 3000 cq) (fld 100 65536 15000 cf) (fld 1 512 100 cl) (fld 1 512 50 cfl) (if ch ≤ 4611686018427387904 then ch else 10000000000) 0 false (fld 1 1073741824 100000 ccp) (fld 100 9000 1000 cms)) 24 :: pts x2 (cfgV cfgZ) 24 :: pts x1 (cfgV ⟨cq, cf, cl, cfl, ch, cmr, cdh, ccp, cms⟩) 24 :: L) wx)
  case first =>
    go_wp2_with (first | go_skip | (refine ck_load hS rfl rfl rfl (by (repeat (first | exact mH _ | apply mT)) <;> fail) rfl (by decide +kernel) ?_; simp only [Act.put, spA, spZ, spS]) | (refine ck_store hS rfl rfl rfl (by constructor) (by (repeat (first | exact uH _ _ _ | apply uT)) <;> fail) (by simp <;> omega) rfl (by decide +kernel) ?_; clear hS; intro w hS; simp only [Act.put, spA, spZ, spS] at hS ⊢))
    all_goals
      go_meet
      case rel => first | (rw [show fld 100 9000 1000 cms = cms by unfold fld; rw [if_pos (by omega)]]; exact hS) | (rw [show fld 100 9000 1000 cms = 1000 by unfold fld; rw [if_neg (by omega)]]; exact hS)
  case rest =>
  clear hS
  have hS := hcut
  clear hcut
  have hne : x1 ≠ x3 := (hS.pick (M := pts x1 (cfgV ⟨cq, cf, cl, cfl, ch, cmr, cdh, ccp, cms⟩) 24 :: pts x3 (pcell (fld 100 65536 3000 cq) (fld 100 65536 15000 cf) (fld 1 512 100 cl) (fld 1 512 50 cfl) (if ch ≤ 4611686018427387904 then ch else 10000000000) 0 false (fld 1 1073741824 100000 ccp) (fld 100 9000 1000 cms)) 24 :: L) (by (repeat (first | exact Pick.refl _ | (apply Pick.take; ((repeat (first | exact rH _ _ | apply rT)) <;> fail)) | (apply Pick.drop))))).ne (by simp [pts]) (by simp [pts])
  go_upto_region 16 with (first | go_skip)
  refine ck_region (fun _ => x1) (fun i => if i = 5 then [3] else []) [3] hS (by kernel_rfl) (by decide +kernel) ?_ ?_
  exact ⟨fun _ _ _ h => h.2, fun _ _ h => h⟩
  clear hS
  intro w hS _
  (repeat (first | (refine ckT_store hS rfl rfl rfl (by constructor) (by (repeat (first | exact uH _ _ _ | apply uT)) <;> fail) (by simp <;> fail) rfl (by decide +kernel) (by intro j hj; first | (simp at hj; subst hj; exact hne) | (simp at hj)) ?_; clear hS; intro w hS; simp only [Act.put, spA, spZ, spS] at hS ⊢) | (apply wpT_pure rfl rfl; (intro _; go_simp; (try (go_ints; (try go_simp))); (first | (rw [decide_eq_true]; omega) | (rw [decide_eq_false]; omega) | rfl | rw [if_pos (by omega)])); simp only [Act.put, spA, spZ, spS]) | (refine ckT_load hS rfl rfl rfl (by simp <;> fail) (by (repeat (first | exact mH _ | apply mT)) <;> fail) rfl (by decide +kernel) ?_; simp only [Act.put, spA, spZ, spS])))
  refine wpT_nil ?_
  go_wp2_with (first | go_skip | (refine ck_loadAll hS rfl rfl rfl (by (repeat (first | exact mH _ | apply mT)) <;> fail) rfl (by (try simp only [List.length_cons, List.length_nil, Nat.zero_add, Nat.reduceAdd]); decide +kernel) ?_; simp only [Act.put, spA, spZ, spS]) | (refine ck_storeAll hS rfl rfl rfl rfl (by (repeat (first | exact uH _ _ _ | apply uT)) <;> fail) (by rfl) rfl (by (try simp only [List.length_cons, List.length_nil, Nat.zero_add, Nat.reduceAdd]); decide +kernel) ?_; clear hS; intro w hS; simp only [Act.put, spA, spZ, spS]))
  all_goals
    refine bodyPost_ret (ckRes_cell hS (cs := cfgV (playC ⟨cq, cf, cl, cfl, ch, cmr, cdh, ccp, cms⟩)) (b := x2) (T := 24) (by (repeat (first | exact mH _ | apply mT)) <;> fail) rfl rfl rfl (by (try simp only [List.length_cons, List.length_nil, Nat.zero_add, Nat.reduceAdd]); decide +kernel)) rfl ?_
    exact ⟨_, ⟨rfl, rfl⟩, hS.dropN 3⟩
end Go.Proofs.YtcegknecikbbkaaGreat

/- What a program that does nothing does not answer. -/
set_option linter.unusedVariables false
set_option linter.unusedSimpArgs false
set_option maxRecDepth 4000
namespace Go.Proofs.YtcegknecikbbkaaGreat
open Go.RowKit
section
variable {P : Program} {w w0 : World} {F : List Nat} {L : List Res} {ops : Array Oper} {Q : Exit → Act → World → Prop} {restO : List Oper} {o : Oper} {a : Act} {t e : TypeId} {sz : Nat} {n1 n2 n3 : List Value} {x y z : Operand}
theorem ck_build3E (hS : Sep w0 F L w) (ho : o.op = .buildSlice t 3 #[(0, x), (1, y), (2, z)]) (hw : Region.wanted o (yielded ops a.tmps) = true) (hx : a.eval x = .agg n1.toArray) (hy : a.eval y = .agg n2.toArray) (hz : a.eval z = .agg n3.toArray) (h1 : n1.length = sz) (h2 : n2.length = sz) (h3 : n3.length = sz) (h0 : 0 < sz) (hsm : sz ≤ 1000) (ht : ckSlice P t e sz = true)
    (h : ∀ (q : Nat) (w' : World), Sep w0 F (pts q (n1 ++ (n2 ++ n3)) e :: L) w' → wpList P ops Q restO (a.put o.dst (.slice (some ⟨q, 0, none⟩) 3 3)) w') : wpList P ops Q (o :: restO) a w := by
  obtain ⟨hu, i, zv, hi, hz', hs, hb, hzs⟩ := ckSlice.out ht
  have hf : Instr.fill (fun i' => some (i' * i.size, i.size)) ((Array.range (3 * i.size)).map (zv.cells[· % zv.cells.size]!)) [(0, Value.agg n1.toArray), (1, Value.agg n2.toArray), (2, Value.agg n3.toArray)] = some (n1 ++ (n2 ++ n3)).toArray := by
    have := Go.Great.fill_whole (s := i.size) (by omega) [Value.agg n1.toArray, Value.agg n2.toArray, Value.agg n3.toArray] ((Array.range (3 * i.size)).map (zv.cells[· % zv.cells.size]!)) (fun u hu => by simp at hu; rcases hu with rfl | rfl | rfl <;> simp [Value.cells, h1, h2, h3, hs]) (by simp)
    simpa [Value.cells] using this
  have hrun : (execOp a.eval o).run P w = .ok (.value (.slice (some ⟨w.heap.size, 0, none⟩) 3 3)) (w.alloc (.cells (n1 ++ (n2 ++ n3)).toArray e)) := by
    unfold execOp
    simp only [ho, Sem.run_bind]
    rw [Go.run_buildSlice w t e 3 _ (n1 ++ (n2 ++ n3)).toArray i zv hu hi hz' (by omega) (by omega) (by rw [show (Array.map (fun (x : Nat × Operand) => (x.1, a.eval x.2)) #[(0, x), (1, y), (2, z)]).toList = [(0, a.eval x), (1, a.eval y), (2, a.eval z)] from by simp, hx, hy, hz]; exact hf)]
    rfl
  exact wpList_val hw hrun (h _ _ (hS.alloc _ e))
end
def dOpen : DeedM := ⟨1, 0, 0, 0, 0, none, 0, 0, cfgZ⟩
def dSend (n : Int) : DeedM := ⟨2, 0, n, 0, 0, none, 0, 0, cfgZ⟩
def dPull : DeedM := ⟨6, 0, 0, 0, 0, none, 0, 0, cfgZ⟩
def dDone (n : Int) : DeedM := ⟨7, 0, n, 0, 0, none, 0, 0, cfgZ⟩
theorem plain_ok : mayOk plainC := by unfold mayOk plainC; decide
theorem plain_sce : sceOk plainC 500 := ⟨plain_ok, by decide, by decide, by decide, by decide, by decide, by decide, by decide⟩
theorem sceBook : bookOk (noteA zeroB 0) := bookOk_noteA bookOk_zero (by
    intro c hc x hx
    have := List.eq_of_mem_replicate hc
    subst this
    have : x = 0 := by simpa using hx
    omega) 0
section
variable {c : CfgM} {n : Int} (h : sceOk c n) (b : Nat)
include h
theorem sceSend_ct (m : MachA) (hm : ScM c (sockZ 0 c) sceD0 zeroB m) : Ct Tryz.prog 9 #[.pointer (some ⟨b, 0, none⟩), deedA (dSend n)] [machG b m] (fun v L => v = .tuple #[outA outZ, .int .i64 0] ∧ ∃ m, ScM c (mayK (emitK (sceK1 c n) 0)) (sceD1 c n) (noteA zeroB 0) m ∧ L = [machG b m]) := by
  have n0 := h.n0
  have n1 := h.n1
  obtain ⟨-, -, -, -, -, -, -, -, hz, -⟩ := h.may
  refine sceTell_ct b h.z0 (by omega) (dSend n) (.inl rfl) rfl (sockZ 0 c) (sceK1 c n) _ sceD0 _ zeroB _ 2 (fun A => ?_) (sce_pump1 h) m hm
  exact toldSend_ct A (dSend n) 0 _ _ rfl (sockWrite_ct A (sockZ 0 c) n n0 (by omega) (Int.le_refl _) (Int.le_refl _) (by show (0 : Int) < _; omega) (by show (0 : Int) - 0 ≤ 1073741824; omega) (by show (1073741824 : Int) ≤ _; omega) (by show n ≤ 1073741824 - (0 - 0); omega))
theorem scePull1_ct (m : MachA) (hm : ScM c (mayK (emitK (sceK1 c n) 0)) (sceD1 c n) (noteA zeroB 0) m) : Ct Tryz.prog 9 #[.pointer (some ⟨b, 0, none⟩), deedA dPull] [machG b m] (fun v L => ∃ g, v = .tuple #[outA { outZ with da := some ⟨g, 0, none⟩, dn := 1, dc := 1 }, .int .i64 0] ∧ ∃ m, ScM c (mayK (emitK (sceK1 c n) 0)) (sceD2 c n (c.first - sceN c n)) (noteF (noteA zeroB 0) 0 1) m ∧ L = [rowR (some ⟨g, 0, none⟩) 1 1 44 5 (segV (sceSeg c n)), machG b m]) := by
  have hb := (sce_blk h).mayK.so
  have hmd : (mayK (emitK (sceK1 c n) 0)).mdl.rate = sRate c := by rw [mayK_mdl]; rfl
  exact scePull_ct b h.may h.r0 h.r1 dPull rfl _ hb.rate.1 hb.rate.2 (sceD1 c n) _ (noteA zeroB 0) sceBook 1 (some (sceSeg c n)) (sce_dOk1 h) (by rw [hmd]; exact sce_deq h _ rfl) rfl (fun x hx => by
    injection hx with hx
    subst hx
    refine ⟨rfl, fun c' hc' => ?_⟩
    have : (noteA zeroB 0)[0]? = some [0, 1, 0, 0, 0, 0, 0, 1] := rfl
    rw [this] at hc'
    injection hc' with hc'
    subst hc'
    intro h0
    injection h0 with h0
    cases h0) m hm
end
def awJ (b : Nat) : Nat → List Res → List OutA → List Int → Prop
  | 0, L, outs, errs => (∃ cb qb lb tb lg ab la aa, L = [machG b (startM plainC cb qb lb tb lg ab la aa)]) ∧ outs = [] ∧ errs = []
  | 1, L, outs, errs => (∃ m, ScM plainC (sockZ 0 plainC) sceD0 zeroB m ∧ L = [machG b m]) ∧ outs = [outZ] ∧ errs = [0]
  | 2, L, outs, errs => (∃ m, ScM plainC (mayK (emitK (sceK1 plainC 500) 0)) (sceD1 plainC 500) (noteA zeroB 0) m ∧ L = [machG b m]) ∧ outs = [outZ, outZ] ∧ errs = [0, 0]
  | 3, L, outs, errs => ∃ g m, L = [rowR (some ⟨g, 0, none⟩) 1 1 44 5 (segV ⟨0, 0, 500, 0, false⟩), machG b m] ∧ outs = [outZ, outZ, { outZ with da := some ⟨g, 0, none⟩, dn := 1, dc := 1 }] ∧ errs = [0, 0, 0]
  | _, _, _, _ => False
theorem awRun_ct (ad : Option Addr) (cp : Nat) : Ct Tryz.prog 14 #[cfgA plainC, .slice ad 3 cp] [rowO ad 3 cp 40 15 (dds [dOpen, dSend 500, dPull])]
    (fun v L => ∃ g a1 c1 a2 c2 R, v = .tuple #[.slice a1 3 c1, .slice a2 3 c2] ∧ L = rowR a1 3 c1 35 4 (ots [outZ, outZ, { outZ with da := some ⟨g, 0, none⟩, dn := 1, dc := 1 }]) :: rowR a2 3 c2 28 1 (ers [0, 0, 0]) :: rowR (some ⟨g, 0, none⟩) 1 1 44 5 (segV ⟨0, 0, 500, 0, false⟩) :: R) := by
  refine (run_ct plainC plain_ok ad 3 cp [dOpen, dSend 500, dPull] rfl (by omega) awJ (fun b cb qb lb tb lg ab la aa => ⟨⟨cb, qb, lb, tb, lg, ab, la, aa, rfl⟩, rfl, rfl⟩) ?_).conv [] (fun hS => hS) ?_
  · intro b i d L outs errs hd hJ
    match i with
    | 0 =>
      injection hd with hd; subst hd
      obtain ⟨⟨cb, qb, lb, tb, lg, ab, la, aa, rfl⟩, rfl, rfl⟩ := hJ
      refine (sceOpen_ct b plainC cb qb lb tb lg ab la aa dOpen rfl rfl).mono ?_
      rintro v L ⟨rfl, m, hm, rfl⟩
      exact ⟨outZ, 0, rfl, ⟨m, hm, rfl⟩, rfl, rfl⟩
    | 1 =>
      injection hd with hd; subst hd
      obtain ⟨⟨m, hm, rfl⟩, rfl, rfl⟩ := hJ
      refine (sceSend_ct plain_sce b m hm).mono ?_
      rintro v L ⟨rfl, m, hm, rfl⟩
      exact ⟨outZ, 0, rfl, ⟨m, hm, rfl⟩, rfl, rfl⟩
    | 2 =>
      injection hd with hd; subst hd
      obtain ⟨⟨m, hm, rfl⟩, rfl, rfl⟩ := hJ
      refine (scePull1_ct plain_sce b m hm).mono ?_
      rintro v L ⟨g, rfl, m, hm, rfl⟩
      exact ⟨_, 0, rfl, g, m, rfl, rfl, rfl⟩
    | i + 3 => cases hd
  · rintro v L ⟨b, outs, errs, a1, c1, a2, c2, L', ⟨g, m, rfl, rfl, rfl⟩, -, -, rfl, rfl⟩
    exact ⟨_, ⟨g, a1, c1, a2, c2, [machG b m, rowO ad 3 cp 40 15 (dds [dOpen, dSend 500, dPull])], rfl, rfl⟩, fun {w0 w F L} hS => hS.pick (M := rowR a1 3 c1 35 4 (ots [outZ, outZ, { outZ with da := some ⟨g, 0, none⟩, dn := 1, dc := 1 }]) :: rowR a2 3 c2 28 1 (ers [0, 0, 0]) :: rowR (some ⟨g, 0, none⟩) 1 1 44 5 (segV ⟨0, 0, 500, 0, false⟩) :: (machG b m :: rowO ad 3 cp 40 15 (dds [dOpen, dSend 500, dPull]) :: L)) (by (repeat (first | exact Pick.refl _ | (apply Pick.take; ((repeat (first | exact rH _ _ | apply rT)) <;> fail)) | (apply Pick.drop))))⟩
set_option maxHeartbeats 4000000 in
theorem awake_ct : Ct Tryz.prog 8 #[] [] (Gives (.bool true) []) := by
  have kR := fun q => awRun_ct (some ⟨q, 0, none⟩) 3
  have hE : ∀ (j : Nat) (v : Value), ([.int .i64 0] : List Value)[j]? = some v → (ers [0, 0, 0])[2 + j]? = some v := by intro j v hj; cases j <;> simp at hj; subst hj; rfl
  have hO : ∀ (g j : Nat) (v : Value), ([.slice (some ⟨g, 0, none⟩) 1 1] : List Value)[j]? = some v → (ots [outZ, outZ, { outZ with da := some ⟨g, 0, none⟩, dn := 1, dc := 1 }])[8 + j]? = some v := by intro g j v hj; cases j <;> simp at hj; subst hj; rfl
  have hG : ∀ (j : Nat) (v : Value), ([.int .i64 500] : List Value)[j]? = some v → (segV ⟨0, 0, 500, 0, false⟩)[2 + j]? = some v := by intro j v hj; cases j <;> simp at hj; subst hj; rfl
  intro w0 F L w hS
  simp only [List.cons_append, List.nil_append] at hS
  go_enter Tryz.func8, Tryz.ntmps8
  go_wp2_with (first | go_skip | (refine ck_cel1 (hS.celO (off := 0) (k := 2) (by (repeat (first | exact mH _ | apply mT)) <;> fail) rfl hE) rfl rfl rfl (by decide +kernel) ?_; simp only [Act.put, spA, spZ, spS]) | (refine ck_cel1 (hS.celO (off := 0) (k := 8) (by (repeat (first | exact mH _ | apply mT)) <;> fail) rfl (hO g)) rfl rfl rfl (by decide +kernel) ?_; simp only [Act.put, spA, spZ, spS]) | (refine ck_cel1 (hS.celO (off := 0) (k := 2) (by (repeat (first | exact mH _ | apply mT)) <;> fail) rfl hG) rfl rfl rfl (by decide +kernel) ?_; simp only [Act.put, spA, spZ, spS]) | (refine ck_load hS rfl rfl rfl (by (repeat (first | exact mH _ | apply mT)) <;> fail) rfl (by decide +kernel) ?_; simp only [Act.put, spA, spZ, spS]) | (go_at_call 6; with_reducible refine Ct.call0 (plain_ct) hS ?_; clear hS; intro w hS) | (refine ck_build3E (sz := 15) (e := 40) (n1 := deedV dOpen) (n2 := deedV (dSend 500)) (n3 := deedV dPull) hS rfl rfl rfl rfl rfl rfl rfl rfl (by omega) (by omega) (by decide +kernel) ?_; clear hS; intro q w hS0; have hS : Sep w0 F (rowO (some ⟨q, 0, none⟩) 3 3 40 15 (dds [dOpen, dSend 500, dPull]) :: L) w := (hS0.shut (n := 3) (cap := 3) (sz := 15) (dds [dOpen, dSend 500, dPull]) [] rfl rfl (by omega) (by unfold maxLen; omega) rfl).toO; clear hS0; simp only [Act.put, spA, spZ, spS]) | (go_at_call 14; refine Ct.callP (kR q) (by (repeat (first | exact Takes.nil _ | (apply Takes.cons; ((repeat (first | exact rH _ _ | apply rT)) <;> fail))))) hS ?_; clear hS; rintro _ _ w ⟨g, a1, c1, a2, c2, R, rfl, rfl⟩ hS; simp only [List.cons_append] at hS; obtain ⟨g1, rfl⟩ := hS.rowSome (a := a1) (n := 3) (cap := c1) (e := 35) (sz := 4) (by (repeat (first | exact mH _ | apply mT)) <;> fail) (by omega); obtain ⟨g2, rfl⟩ := hS.rowSome (a := a2) (n := 3) (cap := c2) (e := 28) (sz := 1) (by (repeat (first | exact mH _ | apply mT)) <;> fail) (by omega); have hS0 := hS.toO; clear hS; have hS1 := (hS0.bring (r := rowR (some ⟨g2, 0, none⟩) 3 c2 28 1 (ers [0, 0, 0])) (by (repeat (first | exact rH _ _ | apply rT)) <;> fail)).toO; clear hS0; have hS := (hS1.bring (r := rowR (some ⟨g, 0, none⟩) 1 1 44 5 (segV ⟨0, 0, 500, 0, false⟩)) (by (repeat (first | exact rH _ _ | apply rT)) <;> fail)).toO; clear hS1))
  go_ret
  have h1 : Sep w0 F (R ++ L) w := hS.dropN 3
  have h2 := h1.dropN R.length
  rw [List.drop_left] at h2
  exact ⟨_, ⟨rfl, rfl⟩, h2⟩
end Go.Proofs.YtcegknecikbbkaaGreat

/- The frame of a law's row: what its arguments hold, and that the call leaves them as they were. -/
set_option linter.unusedVariables false
set_option linter.unusedSimpArgs false
namespace Go.Proofs.YtcegknecikbbkaaGreat
open Go.RowKit Go.ChangeShapes Go.WideShapes Go.Deep

/-- The kinds of cells that arguments hold. -/
inductive FK where
  | int (k : IntKind)
  | bool
def FK.ok : FK → Value → Prop
  | .int k, v => ∃ n, v = .int k n ∧ (Lit.int k n).wf = true
  | .bool, v => ∃ b, v = .bool b
def fksOk : List FK → List Value → Prop
  | [], [] => True
  | k :: ks, v :: vs => k.ok v ∧ fksOk ks vs
  | _, _ => False
def FK.ty (P : Program) (t : TypeId) : FK → Bool
  | .int k => match P.underlying t with | some (.int k') => decide (k = k') | _ => false
  | .bool => match P.underlying t with | some .bool => true | _ => false
def fksTy (P : Program) (fs : Array Field) (ks : List FK) : Bool := decide (fs.size = ks.length) && (List.range fs.size).all fun j => match fs[j]?, ks[j]? with
  | some f, some k => k.ty P f.type
  | _, _ => false

theorem fksOk_of : ∀ (ks : List FK) (vs : List Value), ks.length = vs.length → (∀ (j : Nat) (k : FK) (v : Value), ks[j]? = some k → vs[j]? = some v → k.ok v) → fksOk ks vs
  | [], [], _, _ => trivial
  | [], _ :: _, h, _ => by simp at h
  | _ :: _, [], h, _ => by simp at h
  | k :: ks, v :: vs, h, hh => ⟨hh 0 k v rfl rfl, fksOk_of ks vs (by simpa using h) fun j k' v' h1 h2 => hh (j + 1) k' v' (by simpa using h1) (by simpa using h2)⟩

/-- A slice that came in: its elements, cell by cell. -/
structure ArgSl (w : World) (ks : List FK) (a : Option Addr) (len : Nat) (zs : List (List Value)) : Prop where
  hlen : zs.length = len
  small : len ≤ 9223372036854775807
  typed : ∀ e ∈ zs, fksOk ks e
  at_ : ∀ (i : Nat) (e : List Value), zs[i]? = some e → ∃ (b off : Nat) (cs : Array Value) (T : TypeId) (fz : Nat × Nat), a = some ⟨b, off, none⟩ ∧ b < w.heap.size ∧ w.heap[b]? = some (.cells cs T fz) ∧ ∀ (j : Nat) (v : Value), e[j]? = some v → cs[off + (i * ks.length + j)]? = some v

section
variable {H : Type} {enc : TypeId × Value → H} {P : Program} {w : World} {base : Nat} {spare : Nat → Bool} {held : Bool}

theorem trod_fk {k : FK} {t : TypeId} {v : Value} {fuel : Nat} {x : DataW H × List MemPlace} (ht : k.ty P t = true) (h : DataW.trod enc P w base spare held fuel t [v] = some x) : k.ok v := by
  cases k with
  | int k =>
    cases hu : P.underlying t with
    | none => simp [FK.ty, hu] at ht
    | some d =>
      cases d <;> simp [FK.ty, hu] at ht
      subst ht
      obtain ⟨n, h1, _, h2⟩ := DataW.trod_int hu h
      exact ⟨n, by simpa using h1, h2⟩
  | bool =>
    cases hu : P.underlying t with
    | none => simp [FK.ty, hu] at ht
    | some d =>
      cases d <;> simp [FK.ty, hu] at ht
      obtain ⟨b, h1, _⟩ := DataW.trod_bool hu h
      exact ⟨b, by simpa using h1⟩

theorem cell_block {A : Addr} {v : Value} (h : w.cell? A = some v) : A.spot = none ∧ A.block < w.heap.size ∧ ∃ cs T fz, w.heap[A.block]? = some (.cells cs T fz) ∧ cs[A.off]? = some v := by
  unfold World.cell? at h
  split at h
  · rename_i c e f hb
    cases hs : A.spot with
    | some x => simp [hs] at h
    | none =>
      simp [hs] at h
      exact ⟨rfl, (Array.getElem?_eq_some_iff.1 hb).1, c, e, f, hb, h⟩
  · simp at h

/-- From the cells of each element to 'ArgSl'. -/
theorem argsl_mk {ks : List FK} {A : Addr} {len : Nat} {zs : List (List Value)} (hk : ks ≠ []) (hl : zs.length = len) (hsm : len ≤ 9223372036854775807) (ht : ∀ e ∈ zs, fksOk ks e) (hlen : ∀ e ∈ zs, e.length = ks.length)
    (hc : ∀ (i : Nat) (e : List Value), zs[i]? = some e → ∀ (j : Nat) (v : Value), e[j]? = some v → w.cell? (A.add (i * ks.length + j)) = some v) : ArgSl w ks (some A) len zs := by
  refine ⟨hl, hsm, ht, fun i e he => ?_⟩
  -- the first cell of all
  have h0 : 0 < zs.length := by
    have := (List.getElem?_eq_some_iff.1 he).1; omega
  have hz : zs[0]? = some zs[0] := List.getElem?_eq_getElem h0
  have hk0 : 0 < ks.length := List.length_pos_iff.2 hk
  have hl0 : 0 < zs[0].length := by rw [hlen _ (List.getElem_mem h0)]; exact hk0
  have c0 := hc 0 _ hz 0 _ (List.getElem?_eq_getElem hl0)
  have hA : A.add (0 * ks.length + 0) = A := by simp [Addr.add]
  rw [hA] at c0
  obtain ⟨hs, hb, cs, T, fz, hh, _⟩ := cell_block c0
  obtain ⟨b, off, sp⟩ := A
  have hs' : sp = none := hs
  subst hs'
  refine ⟨b, off, cs, T, fz, rfl, hb, hh, fun j v hv => ?_⟩
  have c1 := hc i e he j v hv
  have hadd : (⟨b, off, none⟩ : Addr).add (i * ks.length + j) = ⟨b, off + (i * ks.length + j), none⟩ := by unfold Addr.add; split <;> simp_all
  rw [hadd] at c1
  obtain ⟨_, _, cs', T', fz', hh', hv'⟩ := cell_block c1
  rw [show (⟨b, off + (i * ks.length + j), none⟩ : Addr).block = b from rfl] at hh'
  have hh2 : w.heap[b]? = some (.cells cs T fz) := hh
  rw [hh2] at hh'
  injection hh' with hh'
  injection hh' with h1 _ _
  subst h1
  exact hv'

theorem open_argsl {t e : TypeId} {fs : Array Field} {ks : List FK} {fuel : Nat} {a : Option Addr} {len cap : Nat} {x : DataW H × List MemPlace} (ht : P.underlying t = some (.slice e)) (he : P.underlying e = some (.struct fs)) (hone : oneCellFields P fs = true) (hC : P.cellsOf e = fs.size)
    (hk : fksTy P fs ks = true) (hk0 : ks ≠ []) (h : DataW.trod enc P w base (fun _ => true) held fuel t [.slice a len cap] = some x) : ∃ zs, ArgSl w ks a len zs := by
  simp only [fksTy, Bool.and_eq_true, decide_eq_true_eq] at hk
  obtain ⟨hkl, hkt⟩ := hk
  rcases open_slice ht h with ⟨h0, _⟩ | ⟨A, l, c, m, n, D, Pl, hcs, hb, hl, hm, hmm, hx, hi⟩
  · simp at h0
    obtain ⟨rfl, rfl, rfl⟩ := h0
    exact ⟨[], rfl, by omega, by simp, by simp⟩
  · simp at hcs
    obtain ⟨rfl, rfl, rfl⟩ := hcs
    simp only [if_true] at hmm
    have hall : ∀ i, i < len → ∃ cs' : List Value, cs'.length = ks.length ∧ fksOk ks cs' ∧ ∀ (j : Nat) (v : Value), cs'[j]? = some v → w.cell? (A.add (i * ks.length + j)) = some v := fun i hil => by
      obtain ⟨cs', hc, htr⟩ := hi i (by omega)
      rw [hC, hkl] at hc
      obtain ⟨_, hcl, hcell⟩ := World.cells?_some hc
      obtain ⟨ys, n', _, hy, hlen, hyl, hf⟩ := DataW.trod_struct he htr
      refine ⟨cs', hcl, fksOk_of ks cs' hcl.symm fun j k v hj hv => ?_, fun j v hv => ?_⟩
      · have hjl : j < ks.length := (List.getElem?_eq_some_iff.1 hj).1
        have hjf : fs[j]? = some (fs[j]'(by omega)) := Array.getElem?_eq_getElem (by omega)
        have h1 := hf j _ hjf
        obtain ⟨ho, hco⟩ := hone_of hone j _ hjf
        rw [ho, hco] at h1
        have hone' : (cs'.drop j).take 1 = [v] := by
          have hjv := List.getElem?_eq_some_iff.1 hv
          rw [List.drop_eq_getElem_cons hjv.1, hjv.2]; rfl
        rw [hone'] at h1
        have hys : ys[j]? = some (ys[j]'(by omega)) := List.getElem?_eq_getElem (by omega)
        rw [hys] at h1
        rw [List.all_eq_true] at hkt
        have h2 := hkt j (List.mem_range.2 (by omega))
        simp only [hjf, hj] at h2
        exact trod_fk h2 h1
      · have hjl : j < ks.length := by have := (List.getElem?_eq_some_iff.1 hv).1; omega
        rw [← Go.Deep.add_add, hcell j hjl, hv]
    obtain ⟨f, hf⟩ := choose_lt hall
    refine ⟨(List.range len).map f, argsl_mk hk0 (by simp) (by unfold maxLen at hm; omega) (fun e he => ?_) (fun e he => ?_) fun i e he j v hv => ?_⟩
    · obtain ⟨i, hi', rfl⟩ := List.mem_map.1 he; exact (hf i (List.mem_range.1 hi')).2.1
    · obtain ⟨i, hi', rfl⟩ := List.mem_map.1 he; exact (hf i (List.mem_range.1 hi')).1
    · simp only [List.getElem?_map, List.getElem?_range] at he
      by_cases hil : i < len
      · simp [hil] at he; subst he; exact (hf i hil).2.2 j v hv
      · simp [hil] at he

theorem open_argsl1 {t e : TypeId} {k : FK} {fuel : Nat} {a : Option Addr} {len cap : Nat} {x : DataW H × List MemPlace} (ht : P.underlying t = some (.slice e)) (hC : P.cellsOf e = 1)
    (hk : k.ty P e = true) (h : DataW.trod enc P w base (fun _ => true) held fuel t [.slice a len cap] = some x) : ∃ zs, ArgSl w [k] a len zs := by
  rcases open_slice ht h with ⟨h0, _⟩ | ⟨A, l, c, m, n, D, Pl, hcs, hb, hl, hm, hmm, hx, hi⟩
  · simp at h0
    obtain ⟨rfl, rfl, rfl⟩ := h0
    exact ⟨[], rfl, by omega, by simp, by simp⟩
  · simp at hcs
    obtain ⟨rfl, rfl, rfl⟩ := hcs
    simp only [if_true] at hmm
    have hall : ∀ i, i < len → ∃ v : Value, k.ok v ∧ w.cell? (A.add i) = some v := fun i hil => by
      obtain ⟨cs', hc, htr⟩ := hi i (by omega)
      rw [hC] at hc
      obtain ⟨_, hcl, hcell⟩ := World.cells?_some hc
      match cs', hcl with
      | [v], _ =>
        refine ⟨v, trod_fk hk htr, ?_⟩
        have := hcell 0 (by omega)
        rw [Go.Deep.add_add] at this
        simpa using this
    obtain ⟨f, hf⟩ := choose_lt (α := Value) hall
    refine ⟨(List.range len).map fun i => [f i], argsl_mk (by simp) (by simp) (by unfold maxLen at hm; omega) (fun e he => ?_) (fun e he => ?_) fun i e he j v hv => ?_⟩
    · obtain ⟨i, hi', rfl⟩ := List.mem_map.1 he; exact ⟨(hf i (List.mem_range.1 hi')).1, trivial⟩
    · obtain ⟨i, hi', rfl⟩ := List.mem_map.1 he; rfl
    · simp only [List.getElem?_map, List.getElem?_range] at he
      by_cases hil : i < len
      · simp [hil] at he
        subst he
        match j, hv with
        | 0, hv => simp at hv; subst hv; simpa using (hf i hil).2
      · simp [hil] at he
end

theorem fksOk_cons {k : FK} {ks : List FK} {e : List Value} (h : fksOk (k :: ks) e) : ∃ v vs, e = v :: vs ∧ k.ok v ∧ fksOk ks vs := by
  cases e with
  | nil => exact h.elim
  | cons v vs => exact ⟨v, vs, rfl, h.1, h.2⟩
theorem fksOk_nil {e : List Value} (h : fksOk [] e) : e = [] := by
  cases e with
  | nil => rfl
  | cons v vs => exact h.elim
/-- A slice of numbers, at an index. -/
theorem ArgSl.int1 {w : World} {k : IntKind} {a : Option Addr} {len : Nat} {z : List (List Value)} (s : ArgSl w [.int k] a len z) {i : Nat} (hi : i < len) :
    ∃ (b off : Nat) (cs : Array Value) (T : TypeId) (fz : Nat × Nat) (n : Int), a = some ⟨b, off, none⟩ ∧ b < w.heap.size ∧ w.heap[b]? = some (.cells cs T fz) ∧ cs[off + i]? = some (.int k n) ∧ (Lit.int k n).wf = true ∧ z[i]? = some [.int k n] := by
  have hl := s.hlen
  obtain ⟨e, he⟩ : ∃ e, z[i]? = some e := ⟨_, List.getElem?_eq_getElem (by omega)⟩
  obtain ⟨v, vs, rfl, ⟨n, rfl, hn⟩, h2⟩ := fksOk_cons (s.typed e (List.mem_of_getElem? he))
  obtain rfl := fksOk_nil h2
  obtain ⟨b, off, cs, T, fz, ha, hb, hh, hat⟩ := s.at_ i _ he
  have hc := hat 0 _ rfl
  simp only [List.length_cons, List.length_nil, Nat.zero_add, Nat.mul_one, Nat.add_zero] at hc
  exact ⟨b, off, cs, T, fz, n, ha, hb, hh, hc, hn, he⟩

/-- A slice of rows of cells, at an index. -/
theorem ArgSl.row {w : World} {ks : List FK} {a : Option Addr} {len : Nat} {z : List (List Value)} (s : ArgSl w ks a len z) {i : Nat} (hi : i < len) :
    ∃ (b off : Nat) (cs : Array Value) (T : TypeId) (fz : Nat × Nat) (e : List Value), a = some ⟨b, off, none⟩ ∧ b < w.heap.size ∧ w.heap[b]? = some (.cells cs T fz) ∧ z[i]? = some e ∧ fksOk ks e ∧ ∀ (j : Nat) (v : Value), e[j]? = some v → cs[off + (i * ks.length + j)]? = some v := by
  have hl := s.hlen
  obtain ⟨e, he⟩ : ∃ e, z[i]? = some e := ⟨_, List.getElem?_eq_getElem (by omega)⟩
  obtain ⟨b, off, cs, T, fz, ha, hb, hh, hat⟩ := s.at_ i _ he
  exact ⟨b, off, cs, T, fz, e, ha, hb, hh, he, s.typed e (List.mem_of_getElem? he), hat⟩
theorem at_row {cs : Array Value} {off i n : Nat} {e : List Value} (hl : e.length = n) (h : ∀ (j : Nat) (v : Value), e[j]? = some v → cs[off + (i * n + j)]? = some v) : ∀ j, j < n → cs[off + i * n + j]? = e[j]? := fun j hj => by
  rw [List.getElem?_eq_getElem (show j < e.length by omega), Nat.add_assoc]
  exact h j _ (List.getElem?_eq_getElem _)
theorem fk_u64 {v : Value} (h : (FK.int .u64).ok v) : ∃ n : Int, v = .int .u64 n ∧ 0 ≤ n ∧ n ≤ 18446744073709551615 := by
  obtain ⟨n, rfl, hn⟩ := h
  simp only [Lit.wf, Bool.and_eq_true, decide_eq_true_eq] at hn
  exact ⟨n, rfl, hn⟩
theorem fk_bool {v : Value} (h : FK.bool.ok v) : ∃ b, v = .bool b := h

/-! ### The law's walk, as its row takes it -/
theorem Sep.below {w0 w : World} {L : List Res} (h : Sep w0 [] L w) : Below w0.heap.size w0 w := ⟨h.os, h.tape, h.output, h.size, fun k hk => h.frame k hk (by simp)⟩

/-- The law answered true. -/
def LawR (w0 : World) : Ending → World → Prop := CkR (fun v _ => v = .bool true) w0 [] []
theorem LawR.out {w0 w' : World} {e : Ending} (h : LawR w0 e w') : e = .returned (.bool true) ∧ Below w0.heap.size w0 w' := by
  cases e with
  | returned v => obtain ⟨L', hv, hs⟩ := h; exact ⟨by rw [hv], hs.below⟩
  | panicked c => exact h.elim
  | outgrown => exact h.elim

theorem wf_u64 {n : Int} (h : (Lit.int .u64 n).wf = true) : 0 ≤ n ∧ n ≤ 18446744073709551615 := by
  simp only [Lit.wf, Bool.and_eq_true, decide_eq_true_eq] at h
  exact h
theorem wf_i64 {n : Int} (h : (Lit.int .i64 n).wf = true) : -9223372036854775808 ≤ n ∧ n ≤ 9223372036854775807 := by
  simp only [Lit.wf, Bool.and_eq_true, decide_eq_true_eq] at h
  exact h
theorem u64_any (n : Int) : ∃ u, IntKind.u64.wrap n = u ∧ 0 ≤ u ∧ u ≤ 18446744073709551615 := ⟨_, rfl, by rw [IntKind.wrap_u64]; omega, by rw [IntKind.wrap_u64]; omega⟩
theorem mod_any (u m : Int) (h : 0 < m) : ∃ s, u % m = s ∧ 0 ≤ s ∧ s < m := ⟨_, rfl, Int.emod_nonneg _ (by omega), Int.emod_lt_of_pos _ h⟩
end Go.Proofs.YtcegknecikbbkaaGreat

/- What a row's argument holds that is a struct of numbers. -/
set_option linter.unusedVariables false
set_option linter.unusedSimpArgs false
namespace Go.Proofs.YtcegknecikbbkaaGreat
open Go.RowKit Go.ChangeShapes Go.WideShapes Go.Deep
section
variable {H : Type} {enc : TypeId × Value → H} {P : Program} {w : World} {base : Nat} {spare : Nat → Bool} {held : Bool}
theorem open_agg {r : Reach} {b0 : Nat} {t : TypeId} {fs : Array Field} {ks : List FK} {v : Value} {d : DataW H} {ps : List MemPlace} (ht : P.underlying t = some (.struct fs)) (hone : oneCellFields P fs = true) (hC : P.cellsOf t = fs.size)
    (hk : fksTy P fs ks = true) (hval : Value.okWide P w r b0 t v) (hd : DataW.Trod enc P w base spare held t v d ps) : ∃ l : List Value, v = .agg l.toArray ∧ fksOk ks l := by
  simp only [fksTy, Bool.and_eq_true, decide_eq_true_eq] at hk
  obtain ⟨hkl, hkt⟩ := hk
  obtain ⟨cs, rfl, hcs⟩ := okWide_struct ht hval
  obtain ⟨fuel, hf0⟩ := hd
  have hf0' : DataW.trod enc P w base spare held fuel t cs.toList = some (d, ps) := hf0
  obtain ⟨ys, n', _, hy, hlen, hyl, hf⟩ := DataW.trod_struct ht hf0'
  have hcl : cs.toList.length = ks.length := by rw [Array.length_toList, hcs, hC, hkl]
  refine ⟨cs.toList, by simp, fksOk_of ks cs.toList hcl.symm fun j k v hj hv => ?_⟩
  have hjl : j < ks.length := (List.getElem?_eq_some_iff.1 hj).1
  have hjf : fs[j]? = some (fs[j]'(by omega)) := Array.getElem?_eq_getElem (by omega)
  have h1 := hf j _ hjf
  obtain ⟨ho, hco⟩ := hone_of hone j _ hjf
  rw [ho, hco] at h1
  have hone' : (cs.toList.drop j).take 1 = [v] := by
    have hjv := List.getElem?_eq_some_iff.1 hv
    rw [List.drop_eq_getElem_cons hjv.1, hjv.2]; rfl
  rw [hone'] at h1
  have hys : ys[j]? = some (ys[j]'(by omega)) := List.getElem?_eq_getElem (by omega)
  rw [hys] at h1
  rw [List.all_eq_true] at hkt
  have h2 := hkt j (List.mem_range.2 (by omega))
  simp only [hjf, hj] at h2
  exact trod_fk h2 h1
end
end Go.Proofs.YtcegknecikbbkaaGreat

/- A row's argument that is a config. -/
set_option linter.unusedVariables false
set_option linter.unusedSimpArgs false
set_option maxRecDepth 4000
namespace Go.Proofs.YtcegknecikbbkaaGreat
open Go.RowKit
structure cfgWf (c : CfgM) : Prop where
  q : -9223372036854775808 ≤ c.quantum ∧ c.quantum ≤ 9223372036854775807
  f : -9223372036854775808 ≤ c.first ∧ c.first ≤ 9223372036854775807
  l : -9223372036854775808 ≤ c.limit ∧ c.limit ≤ 9223372036854775807
  fl : -9223372036854775808 ≤ c.flowLimit ∧ c.flowLimit ≤ 9223372036854775807
  h : 0 ≤ c.horizon ∧ c.horizon ≤ 18446744073709551615
  mr : 0 ≤ c.maxRate ∧ c.maxRate ≤ 18446744073709551615
  cp : -9223372036854775808 ≤ c.cap ∧ c.cap ≤ 9223372036854775807
  ms : -9223372036854775808 ≤ c.mss ∧ c.mss ≤ 9223372036854775807
theorem cfg_of {l : List Value} (h : fksOk [.int .i64, .int .i64, .int .i64, .int .i64, .int .u64, .int .u64, .bool, .int .i64, .int .i64] l) : ∃ c, l = cfgV c ∧ cfgWf c := by
  obtain ⟨v0, l0, rfl, ⟨n0, rfl, h0⟩, g0⟩ := fksOk_cons h
  obtain ⟨v1, l1, rfl, ⟨n1, rfl, h1⟩, g1⟩ := fksOk_cons g0
  obtain ⟨v2, l2, rfl, ⟨n2, rfl, h2⟩, g2⟩ := fksOk_cons g1
  obtain ⟨v3, l3, rfl, ⟨n3, rfl, h3⟩, g3⟩ := fksOk_cons g2
  obtain ⟨v4, l4, rfl, ⟨n4, rfl, h4⟩, g4⟩ := fksOk_cons g3
  obtain ⟨v5, l5, rfl, ⟨n5, rfl, h5⟩, g5⟩ := fksOk_cons g4
  obtain ⟨v6, l6, rfl, ⟨b, rfl⟩, g6⟩ := fksOk_cons g5
  obtain ⟨v7, l7, rfl, ⟨n7, rfl, h7⟩, g7⟩ := fksOk_cons g6
  obtain ⟨v8, l8, rfl, ⟨n8, rfl, h8⟩, g8⟩ := fksOk_cons g7
  obtain rfl := fksOk_nil g8
  exact ⟨⟨n0, n1, n2, n3, n4, n5, b, n7, n8⟩, rfl, ⟨wf_i64 h0, wf_i64 h1, wf_i64 h2, wf_i64 h3, wf_u64 h4, wf_u64 h5, wf_i64 h7, wf_i64 h8⟩⟩
set_option maxRecDepth 100000 in
theorem open_cfg {H : Type} {enc : TypeId × Value → H} {w : World} {base : Nat} {spare : Nat → Bool} {held : Bool} {r : Reach} {b0 : Nat} {v : Value} {d : DataW H} {ps : List MemPlace} (hval : Value.okWide Tryz.prog w r b0 24 v) (hd : DataW.Trod enc Tryz.prog w base spare held 24 v d ps) : ∃ c, v = cfgA c ∧ cfgWf c := by
  obtain ⟨l, rfl, hl⟩ := open_agg (ks := [.int .i64, .int .i64, .int .i64, .int .i64, .int .u64, .int .u64, .bool, .int .i64, .int .i64]) Tryz.underlying24 (by kernel_rfl) (by kernel_rfl) (by kernel_rfl) hval hd
  obtain ⟨c, rfl, hc⟩ := cfg_of hl
  exact ⟨c, rfl, hc⟩
end Go.Proofs.YtcegknecikbbkaaGreat

/- Turns: two flows that always have segments differ little. No program in sight. -/
set_option linter.unusedVariables false
set_option linter.unusedSimpArgs false
set_option maxRecDepth 4000
namespace Go.Proofs.YtcegknecikbbkaaGreat
open Go.RowKit
theorem nd_len : ∀ (n : Nat) (l : List Int), l.Nodup → (∀ s ∈ l, 0 ≤ s ∧ s < n) → l.length ≤ n
  | 0, l, _, h => by
    cases l with
    | nil => exact Nat.le_refl _
    | cons x r => have := h x (by simp); omega
  | n + 1, l, hd, h => by
    have h1 := nd_len n (l.filter (· ≠ (n : Int))) (hd.filter _) (fun s hs => by
      have h2 := List.mem_filter.1 hs
      have h3 := h s h2.1
      have h4 : s ≠ n := by simpa using h2.2
      omega)
    have h2 : (l.filter (fun s => !decide (s ≠ (n : Int)))).length ≤ 1 := by
      have h3 := hd.filter (fun s => !decide (s ≠ (n : Int)))
      have h4 : ∀ s ∈ l.filter (fun s => !decide (s ≠ (n : Int))), s = n := fun s hs => by simpa using (List.mem_filter.1 hs).2
      generalize l.filter (fun s => !decide (s ≠ (n : Int))) = m at *
      cases m with
      | nil => simp
      | cons x r =>
        cases r with
        | nil => simp
        | cons y r =>
          have e1 := h4 x (by simp)
          have e2 := h4 y (by simp)
          rw [e1, e2] at h3
          simp at h3
    have h3 : ∀ l : List Int, l.length = (l.filter (· ≠ (n : Int))).length + (l.filter (fun s => !decide (s ≠ (n : Int)))).length := by
      intro l
      induction l with
      | nil => rfl
      | cons x r ih =>
        by_cases hx : x = (n : Int)
        · rw [List.filter_cons_of_neg (by simp [hx]), List.filter_cons_of_pos (by simp [hx]), List.length_cons, List.length_cons, ih]; omega
        · rw [List.filter_cons_of_pos (by simp [hx]), List.filter_cons_of_neg (by simp [hx]), List.length_cons, List.length_cons, ih]; omega
    have h4 := h3 l
    omega
def crF (ds : DS) (k : Nat) : Int := match ds.fm[k]? with | some (some F) => F.credit | _ => 0
def segN (o : Option FlowM) : Int := ((segsM o).length : Nat)
def ordL (a b : Nat) (ds : DS) : List Int := (ds.fr ++ ds.ol).filter fun s => s == (a : Int) || s == (b : Int)
def ordO (a b : Nat) (ds : DS) : Int := if ordL a b ds = [(b : Int), (a : Int)] then 1 else 0
structure TW (c : CfgM) (L : Int) (ds : DS) : Prop where
  len : ds.fm.length = 8
  nd : (ds.fr ++ ds.ol).Nodup
  lst : ∀ s ∈ ds.fr ++ ds.ol, 0 ≤ s ∧ ∃ F, ds.fm[s.toNat]? = some (some F)
  flo : ∀ (k : Nat) (F : FlowM), ds.fm[k]? = some (some F) → F.next = 0 ∧ F.since = 0 ∧ 1 - L ≤ F.credit ∧ F.credit ≤ max c.quantum c.first ∧ F.segs.length ≤ 2 ∧ (∀ x ∈ F.segs, x.sock = k ∧ 1 ≤ x.len ∧ x.len ≤ L ∧ x.stamp = 0) ∧ (F.segs ≠ [] → (k : Int) ∈ ds.fr ++ ds.ol)
  num : ds.n = (ds.fm.map segN).sum
structure TC (c : CfgM) : Prop where
  q0 : 100 ≤ c.quantum
  q1 : c.quantum ≤ 65536
  f0 : 100 ≤ c.first
  f1 : c.first ≤ 65536
  z0 : 0 ≤ c.horizon
  li : c.limit = 512
  fl : c.flowLimit = 60
  mr : c.maxRate = 0
section
variable {c : CfgM} {L : Int} {ds : DS}
theorem TW.lt (h : TW c L ds) {s : Int} (hs : s ∈ ds.fr ++ ds.ol) : 0 ≤ s ∧ s < 8 := by
  obtain ⟨h0, F, hF⟩ := h.lst s hs
  have := (List.getElem?_eq_some_iff.1 hF).1
  have := h.len
  omega
theorem TW.few (h : TW c L ds) : ds.fr.length + ds.ol.length ≤ 8 := by
  have := nd_len 8 (ds.fr ++ ds.ol) h.nd (fun s hs => h.lt hs)
  simpa using this
theorem sum_bd : ∀ (l : List (Option FlowM)), (∀ o ∈ l, 0 ≤ segN o ∧ segN o ≤ 2) → 0 ≤ (l.map segN).sum ∧ (l.map segN).sum ≤ 2 * l.length
  | [], _ => by simp
  | o :: l, h => by
    have h1 := h o (by simp)
    have h2 := sum_bd l (fun o ho => h o (by simp [ho]))
    simp only [List.map_cons, List.sum_cons, List.length_cons]
    omega
theorem TW.seg2 (h : TW c L ds) : ∀ o ∈ ds.fm, 0 ≤ segN o ∧ segN o ≤ 2 := by
  intro o ho
  obtain ⟨k, hk⟩ := List.mem_iff_getElem?.1 ho
  cases o with
  | none => show (0 : Int) ≤ ((0 : Nat) : Int) ∧ ((0 : Nat) : Int) ≤ 2; omega
  | some F =>
    have := (h.flo k F hk).2.2.2.2.1
    show (0 : Int) ≤ ((F.segs.length : Nat) : Int) ∧ ((F.segs.length : Nat) : Int) ≤ 2
    omega
theorem TW.nbd (h : TW c L ds) : 0 ≤ ds.n ∧ ds.n ≤ 16 := by
  have := sum_bd ds.fm h.seg2
  rw [h.num]
  have := h.len
  omega
theorem TW.dOk (h : TW c L ds) (hc : TC c) (L0 : 0 ≤ L) (L1 : L ≤ 9000) : dOk ds := by
  have hq := hc.q0; have hq1 := hc.q1; have hf := hc.f0; have hf1 := hc.f1
  have hn := h.nbd
  refine ⟨h.len, fun s hs => h.lt (by rcases hs with hs | hs <;> simp [hs]), Nat.le_trans h.few (by omega), fun k F hF => ?_, by omega⟩
  obtain ⟨h1, h2, h3, h4, h5, h6, h7⟩ := h.flo k F hF
  refine ⟨by omega, by omega, by omega, by omega, by omega, by omega, by omega, fun x hx => ?_⟩
  obtain ⟨g1, g2, g3, g4⟩ := h6 x hx
  omega
theorem TW.dIn (h : TW c L ds) : dIn ds := fun s hs => (h.lst s (by rcases hs with hs | hs <;> simp [hs])).2
theorem TW.mono (h : TW c L ds) {L' : Int} (hl : L ≤ L') : TW c L' ds := ⟨h.len, h.nd, h.lst, fun k F hF => by
  obtain ⟨h1, h2, h3, h4, h5, h6, h7⟩ := h.flo k F hF
  refine ⟨h1, h2, by omega, h4, h5, fun x hx => ?_, h7⟩
  obtain ⟨g1, g2, g3, g4⟩ := h6 x hx
  exact ⟨g1, g2, by omega, g4⟩, h.num⟩
theorem colM_id {fr ol : List Int} {fm : List (Option FlowM)} (h : ∀ (k : Nat) (F : FlowM), fm[k]? = some (some F) → F.since = 0) : colM fr ol 0 fm = fm := by
  unfold colM
  apply List.ext_getElem?
  intro i
  rw [List.getElem?_mapIdx]
  cases hi : fm[i]? with
  | none => rfl
  | some o =>
    cases o with
    | none => rfl
    | some F =>
      have h0 := h i F hi
      have : idleM fr ol (some F) i 3000000000 0 = false := by
        show (decide (placeM fr ol (some F) i = 0) && decide (satAdd F.since 3000000000 ≤ 0)) = false
        rw [h0, show satAdd 0 3000000000 = 3000000000 from rfl, decide_eq_false (by omega : ¬ (3000000000 : Int) ≤ 0), Bool.and_false]
      simp only [Option.map_some, this, Bool.false_eq_true, if_false]
theorem sum_set : ∀ (l : List (Option FlowM)) (k : Nat) (o o' : Option FlowM), l[k]? = some o → ((l.set k o').map segN).sum = (l.map segN).sum - segN o + segN o'
  | [], _, _, _, h => by cases h
  | x :: l, 0, o, o', h => by
    injection h with h; subst h
    simp only [List.set_cons_zero, List.map_cons, List.sum_cons]; omega
  | x :: l, k + 1, o, o', h => by
    have := sum_set l k o o' h
    simp only [List.set_cons_succ, List.map_cons, List.sum_cons, this]; omega
theorem plZ_iff {fr ol : List Int} {s : Int} : plZ fr ol s = 0 ↔ s ∉ fr ++ ol := by
  rw [plZ_eq]
  by_cases h1 : s ∈ fr
  · simp [h1]
  · by_cases h2 : s ∈ ol
    · simp [h1, h2]
    · simp [h1, h2]
/-- What stands behind an Enqueue. -/
theorem tw_enq (h : TW c L ds) (hc : TC c) (L1 : L ≤ 9000) (k : Nat) (hk : k < 8) (o : Option FlowM) (ho : ds.fm[k]? = some o) (hl : (segsM o).length < 2) (ln : Int) (l0 : 1 ≤ ln) (l1 : ln ≤ L) :
    ∃ F fr', enqM c ds ⟨k, 0, ln, 0, false⟩ 0 = (0, ⟨ds.fm.set k (some F), fr', ds.ol, ds.n + 1⟩) ∧ F.segs = segsM o ++ [⟨k, 0, ln, 0, false⟩] ∧ (∀ G, o = some G → F.credit = G.credit) ∧ (fr' = ds.fr ∧ (k : Int) ∈ ds.fr ++ ds.ol ∨ fr' = ds.fr ++ [(k : Int)] ∧ (k : Int) ∉ ds.fr ++ ds.ol) ∧ TW c L ⟨ds.fm.set k (some F), fr', ds.ol, ds.n + 1⟩ := by
  have hn := h.nbd
  have hcol : colM ds.fr ds.ol 0 ds.fm = ds.fm := colM_id fun k F hF => (h.flo k F hF).2.1
  have hq0 := hc.q0; have hq1 := hc.q1; have hf0 := hc.f0; have hf1 := hc.f1; have hz := hc.z0
  have hfate : fateM c o ds.n 0 0 = 0 := by
    unfold fateM
    rw [hc.li, hc.fl, if_neg (by omega), if_neg (by omega), if_neg (by unfold satAdd; omega)]
  have hst : min (0 : Int) (satAdd 0 c.horizon) = 0 := by unfold satAdd; omega
  have hgd : (ds.fm[((k : Int)).toNat]?).getD none = o := by rw [Int.toNat_natCast, ho]; rfl
  -- what is woken
  have hw : (wakeM c ds.fr ds.ol o k 0).segs = segsM o ∧ (wakeM c ds.fr ds.ol o k 0).next = 0 ∧ (wakeM c ds.fr ds.ol o k 0).since = 0 ∧ 1 - L ≤ (wakeM c ds.fr ds.ol o k 0).credit ∧ (wakeM c ds.fr ds.ol o k 0).credit ≤ max c.quantum c.first ∧ ∀ G, o = some G → (wakeM c ds.fr ds.ol o k 0).credit = G.credit := by
    cases o with
    | none => exact ⟨rfl, rfl, rfl, by show 1 - L ≤ c.first; omega, by show c.first ≤ _; omega, fun G hG => by cases hG⟩
    | some G =>
      obtain ⟨g1, g2, g3, g4, -, -, -⟩ := h.flo k G ho
      have hid : idleM ds.fr ds.ol (some G) k 40000000 0 = false := by
        show (decide (placeM ds.fr ds.ol (some G) k = 0) && decide (satAdd G.since 40000000 ≤ 0)) = false
        rw [g2, show satAdd 0 40000000 = 40000000 from rfl, decide_eq_false (by omega : ¬ (40000000 : Int) ≤ 0), Bool.and_false]
      unfold wakeM
      simp only [hid, Bool.false_eq_true, if_false]
      split
      · exact ⟨rfl, g1, rfl, g3, g4, fun G' hG' => by injection hG' with hG'; subst hG'; rfl⟩
      · exact ⟨rfl, g1, g2, g3, g4, fun G' hG' => by injection hG' with hG'; subst hG'; rfl⟩
  have hpl : placeM ds.fr ds.ol o k = 0 ↔ (k : Int) ∉ ds.fr ++ ds.ol := by
    unfold placeM
    rw [← plZ_iff]
    by_cases hp : plZ ds.fr ds.ol k = 0
    · rw [if_pos hp]
      have hnot := plZ_iff.1 hp
      cases o with
      | none => simp [segsM, hp]
      | some G =>
        have h7 := (h.flo k G ho).2.2.2.2.2.2
        have : G.segs = [] := by
          cases hs : G.segs with
          | nil => rfl
          | cons x r => exact absurd (h7 (by simp [hs])) hnot
        simp [segsM, this, hp]
    · rw [if_neg hp]
  obtain ⟨w1, w2, w3, w4, w5, w6⟩ := hw
  generalize hW : wakeM c ds.fr ds.ol o k 0 = W at *
  refine ⟨{ W with segs := W.segs ++ [⟨k, 0, ln, 0, false⟩] }, if placeM ds.fr ds.ol o k = 0 then ds.fr ++ [(k : Int)] else ds.fr, ?_, ?_, w6, ?_, ?_⟩
  · have e : enqM c ds ⟨k, 0, ln, 0, false⟩ 0 = (if fateM c ((colM ds.fr ds.ol 0 ds.fm)[((k : Int)).toNat]?.getD none) ds.n 0 0 = 0 then
        (0, ⟨(colM ds.fr ds.ol 0 ds.fm).set ((k : Int)).toNat (some { wakeM c ds.fr ds.ol ((colM ds.fr ds.ol 0 ds.fm)[((k : Int)).toNat]?.getD none) k 0 with segs := (wakeM c ds.fr ds.ol ((colM ds.fr ds.ol 0 ds.fm)[((k : Int)).toNat]?.getD none) k 0).segs ++ [⟨k, 0, ln, min 0 (satAdd 0 c.horizon), false⟩] }), if placeM ds.fr ds.ol ((colM ds.fr ds.ol 0 ds.fm)[((k : Int)).toNat]?.getD none) k = 0 then ds.fr ++ [(k : Int)] else ds.fr, ds.ol, ds.n + 1⟩)
      else (fateM c ((colM ds.fr ds.ol 0 ds.fm)[((k : Int)).toNat]?.getD none) ds.n 0 0, ⟨colM ds.fr ds.ol 0 ds.fm, ds.fr, ds.ol, ds.n⟩)) := rfl
    rw [e, hcol, hgd, hfate, if_pos rfl, hW, hst, Int.toNat_natCast]
  · show W.segs ++ _ = _; rw [w1]
  · by_cases hp : placeM ds.fr ds.ol o k = 0
    · rw [if_pos hp]; exact .inr ⟨rfl, hpl.1 hp⟩
    · rw [if_neg hp]
      refine .inl ⟨rfl, ?_⟩
      by_cases hm : (k : Int) ∈ ds.fr ++ ds.ol
      · exact hm
      · exact absurd (hpl.2 hm) hp
  · obtain ⟨fr', hfr'⟩ : ∃ x, (if placeM ds.fr ds.ol o k = 0 then ds.fr ++ [(k : Int)] else ds.fr) = x := ⟨_, rfl⟩
    rw [hfr']
    have hmem : ∀ s, s ∈ fr' ++ ds.ol ↔ s ∈ ds.fr ++ ds.ol ∨ s = k := by
      intro s
      rw [← hfr']
      by_cases hp : placeM ds.fr ds.ol o k = 0
      · rw [if_pos hp]
        simp only [List.mem_append, List.mem_singleton]
        constructor
        · rintro ((h | h) | h)
          · exact .inl (.inl h)
          · exact .inr h
          · exact .inl (.inr h)
        · rintro ((h | h) | h)
          · exact .inl (.inl h)
          · exact .inr h
          · exact .inl (.inr h)
      · rw [if_neg hp]
        have hm : (k : Int) ∈ ds.fr ++ ds.ol := by
          by_cases hm : (k : Int) ∈ ds.fr ++ ds.ol
          · exact hm
          · exact absurd (hpl.2 hm) hp
        constructor
        · exact .inl
        · rintro (h | rfl)
          · exact h
          · exact hm
    have hkl : k < ds.fm.length := by rw [h.len]; exact hk
    refine ⟨by simp [h.len], ?_, ?_, ?_, ?_⟩
    · show (fr' ++ ds.ol).Nodup
      rw [← hfr']
      by_cases hp : placeM ds.fr ds.ol o k = 0
      · rw [if_pos hp, List.append_assoc]
        have hnot := hpl.1 hp
        exact (List.perm_middle (l₁ := ds.fr) (a := (k : Int)) (l₂ := ds.ol)).nodup_iff.2 (List.nodup_cons.2 ⟨hnot, h.nd⟩)
      · rw [if_neg hp]; exact h.nd
    · intro s hs
      rcases (hmem s).1 hs with h1 | rfl
      · obtain ⟨s0, F, hF⟩ := h.lst s h1
        refine ⟨s0, ?_⟩
        by_cases hsk : k = s.toNat
        · subst hsk; exact ⟨_, List.getElem?_set_self hkl⟩
        · exact ⟨F, by rw [← hF]; exact List.getElem?_set_ne hsk⟩
      · exact ⟨by omega, _, by rw [Int.toNat_natCast]; exact List.getElem?_set_self hkl⟩
    · intro j G hG
      have hG' : (ds.fm.set k (some { W with segs := W.segs ++ [⟨k, 0, ln, 0, false⟩] }))[j]? = some (some G) := hG
      by_cases hj : k = j
      · subst hj
        rw [List.getElem?_set_self hkl] at hG'
        injection hG' with hG'; injection hG' with hG'; subst hG'
        refine ⟨w2, w3, w4, w5, ?_, ?_, fun _ => (hmem _).2 (.inr rfl)⟩
        · show (W.segs ++ _).length ≤ 2
          rw [w1, List.length_append]; simp; omega
        · intro x hx
          have hx' : x ∈ W.segs ++ [⟨k, 0, ln, 0, false⟩] := hx
          rcases List.mem_append.1 hx' with hx' | hx'
          · rw [w1] at hx'
            cases o with
            | none => cases hx'
            | some G => exact (h.flo k G ho).2.2.2.2.2.1 x hx'
          · obtain rfl := List.mem_singleton.1 hx'
            exact ⟨rfl, l0, l1, rfl⟩
      · rw [List.getElem?_set_ne hj] at hG'
        obtain ⟨g1, g2, g3, g4, g5, g6, g7⟩ := h.flo j G hG'
        exact ⟨g1, g2, g3, g4, g5, g6, fun hs => (hmem _).2 (.inl (g7 hs))⟩
    · show ds.n + 1 = ((ds.fm.set k _).map segN).sum
      rw [sum_set ds.fm k o _ ho, ← h.num]
      show ds.n + 1 = ds.n - segN o + (((W.segs ++ [(⟨k, 0, ln, 0, false⟩ : SegM)]).length : Nat) : Int)
      rw [w1, List.length_append]
      unfold segN
      simp
      omega
end
/-! ### Dequeue -/
def dfc (o : Option FlowM) : Nat := match o with | some F => (1 - F.credit).toNat | none => 0
def meas (ds : DS) : Nat := (ds.fm.map dfc).sum + ds.fr.length + (ds.fr ++ ds.ol).length
theorem dfc_set : ∀ (l : List (Option FlowM)) (k : Nat) (o o' : Option FlowM), l[k]? = some o → ((l.set k o').map dfc).sum + dfc o = (l.map dfc).sum + dfc o'
  | [], _, _, _, h => by cases h
  | x :: l, 0, o, o', h => by
    injection h with h; subst h
    simp only [List.set_cons_zero, List.map_cons, List.sum_cons]; omega
  | x :: l, k + 1, o, o', h => by
    have := dfc_set l k o o' h
    simp only [List.set_cons_succ, List.map_cons, List.sum_cons]; omega
theorem ord_two {l : List Int} {a b : Int} (hab : a ≠ b) (hd : l.Nodup) (hm : ∀ x ∈ l, x = a ∨ x = b) (ha : a ∈ l) (hb : b ∈ l) : l = [a, b] ∨ l = [b, a] := by
  cases l with
  | nil => cases ha
  | cons x l =>
    cases l with
    | nil =>
      have h1 := List.mem_singleton.1 ha
      have h2 := List.mem_singleton.1 hb
      exact absurd (h1.trans h2.symm) hab
    | cons y l =>
      have hx := hm x (by simp)
      have hy := hm y (by simp)
      have hxy : x ≠ y := by
        intro e; subst e; simp at hd
      cases l with
      | nil =>
        rcases hx with rfl | rfl <;> rcases hy with rfl | rfl
        · exact absurd rfl hxy
        · exact .inl rfl
        · exact .inr rfl
        · exact absurd rfl hxy
      | cons z l =>
        have hz := hm z (by simp)
        have hxz : x ≠ z := by intro e; subst e; simp at hd
        have hyz : y ≠ z := by intro e; subst e; simp at hd
        rcases hx with rfl | rfl <;> rcases hy with rfl | rfl <;> rcases hz with rfl | rfl <;> first | exact absurd rfl hxy | exact absurd rfl hxz | exact absurd rfl hyz
theorem ord_cases {a b : Nat} (hab : a ≠ b) {ds : DS} (hd : (ds.fr ++ ds.ol).Nodup) (ha : (a : Int) ∈ ds.fr ++ ds.ol) (hb : (b : Int) ∈ ds.fr ++ ds.ol) : ordL a b ds = [(a : Int), (b : Int)] ∨ ordL a b ds = [(b : Int), (a : Int)] := by
  refine ord_two (by omega) (hd.filter _) (fun x hx => ?_) (List.mem_filter.2 ⟨ha, by simp⟩) (List.mem_filter.2 ⟨hb, by simp⟩)
  simpa using (List.mem_filter.1 hx).2
theorem ordO_01 {a b : Nat} {ds : DS} : ordO a b ds = 0 ∨ ordO a b ds = 1 := by unfold ordO; split <;> simp
theorem filter_ne {P : List Int} {s : Int} {P1 : List Int} (hP : P = s :: P1) (hd : P.Nodup) : P.filter (· ≠ s) = P1 := by
  subst hP
  have hn : s ∉ P1 := (List.nodup_cons.1 hd).1
  rw [List.filter_cons_of_neg (by simp)]
  exact List.filter_eq_self.2 fun x hx => by simp; intro e; subst e; exact hn hx
/-- The head goes behind all. -/
theorem ord_back {a b : Nat} (hab : a ≠ b) {P P1 : List Int} {s : Int} (hP : P = s :: P1) (hd : P.Nodup) (ha : (a : Int) ∈ P) (hb : (b : Int) ∈ P) :
    (s ≠ a ∧ s ≠ b ∧ (P1 ++ [s]).filter (fun x => x == (a : Int) || x == (b : Int)) = P.filter (fun x => x == (a : Int) || x == (b : Int))) ∨
    (s = a ∧ P.filter (fun x => x == (a : Int) || x == (b : Int)) = [(a : Int), (b : Int)] ∧ (P1 ++ [s]).filter (fun x => x == (a : Int) || x == (b : Int)) = [(b : Int), (a : Int)]) ∨
    (s = b ∧ P.filter (fun x => x == (a : Int) || x == (b : Int)) = [(b : Int), (a : Int)] ∧ (P1 ++ [s]).filter (fun x => x == (a : Int) || x == (b : Int)) = [(a : Int), (b : Int)]) := by
  have h2 := ord_two (l := P.filter (fun x => x == (a : Int) || x == (b : Int))) (a := a) (b := b) (by omega) (hd.filter _) (fun x hx => by simpa using (List.mem_filter.1 hx).2) (List.mem_filter.2 ⟨ha, by simp⟩) (List.mem_filter.2 ⟨hb, by simp⟩)
  subst hP
  by_cases hsa : s = a
  · subst hsa
    rw [List.filter_cons_of_pos (by simp)] at h2 ⊢
    rcases h2 with h2 | h2
    · injection h2 with _ h3
      refine .inr (.inl ⟨rfl, by rw [h3], ?_⟩)
      rw [List.filter_append, h3]; simp
    · injection h2 with h3 _; omega
  · by_cases hsb : s = b
    · subst hsb
      rw [List.filter_cons_of_pos (by simp)] at h2 ⊢
      rcases h2 with h2 | h2
      · injection h2 with h3 _; omega
      · injection h2 with _ h3
        refine .inr (.inr ⟨rfl, by rw [h3], ?_⟩)
        rw [List.filter_append, h3]; simp
    · refine .inl ⟨hsa, hsb, ?_⟩
      have hf : (s == (a : Int) || s == (b : Int)) = false := by simp [hsa, hsb]
      rw [List.filter_append, List.filter_cons_of_neg (by simp [hf]), List.filter_cons_of_neg (by simp [hf]), List.filter_nil, List.append_nil]
section
variable {c : CfgM} {L : Int}
theorem lesser_top : lesser 18446744073709551615 0 = 18446744073709551615 := by unfold lesser; simp
/-- Some flow's segment. -/
def HasSeg (ds : DS) (k : Nat) (n : Nat) : Prop := ∃ F, ds.fm[k]? = some (some F) ∧ n ≤ F.segs.length
theorem HasSeg.mem {ds : DS} {k n : Nat} (h : HasSeg ds k n) (hw : TW c L ds) (hn : 0 < n) : (k : Int) ∈ ds.fr ++ ds.ol := by
  obtain ⟨F, hF, hl⟩ := h
  exact (hw.flo k F hF).2.2.2.2.2.2 (by intro e; rw [e] at hl; simp at hl; omega)
theorem crF_some {ds : DS} {k : Nat} {F : FlowM} (h : ds.fm[k]? = some (some F)) : crF ds k = F.credit := by unfold crF; rw [h]
theorem crF_set_ne {fm : List (Option FlowM)} {fr fr' ol ol' : List Int} {n n' : Int} {j k : Nat} {o : Option FlowM} (h : j ≠ k) : crF ⟨fm.set j o, fr', ol', n'⟩ k = crF ⟨fm, fr, ol, n⟩ k := by
  unfold crF; simp only [List.getElem?_set_ne h]
theorem crF_set_self {fm : List (Option FlowM)} {fr ol : List Int} {n : Int} {k : Nat} {F : FlowM} (h : k < fm.length) : crF ⟨fm.set k (some F), fr, ol, n⟩ k = F.credit := by
  unfold crF; simp only [List.getElem?_set_self h]
/-- What a Dequeue comes to. -/
def DeqTo (c : CfgM) (L : Int) (a b : Nat) (ds : DS) (s : SegM) (ds' : DS) : Prop := TW c L ds' ∧ 0 ≤ s.sock ∧ s.sock < 8 ∧ 1 ≤ s.len ∧ s.len ≤ L ∧ HasSeg ds' a 1 ∧ HasSeg ds' b 1 ∧
  (if s.sock = a then s.len else 0) - (if s.sock = b then s.len else 0) = (crF ds a - crF ds' a) + (crF ds' b - crF ds b) + c.quantum * (ordO a b ds' - ordO a b ds)
theorem tw_deq (hc : TC c) (L1 : L ≤ 9000) (a b : Nat) (hab : a ≠ b) : ∀ (m : Nat) (ds : DS), TW c L ds → meas ds ≤ m → HasSeg ds a 2 → HasSeg ds b 2 → ∃ fuel s ds', deq c 0 [] fuel ds = some (some s, ds') ∧ DeqTo c L a b ds s ds' := by
  intro m
  induction m with
  | zero =>
    intro ds hw hm ha hb
    have := ha.mem hw (by omega)
    have h1 : 0 < (ds.fr ++ ds.ol).length := List.length_pos_of_mem this
    unfold meas at hm
    omega
  | succ m ih =>
    intro ds hw hm ha hb
    have hq0 := hc.q0; have hq1 := hc.q1; have hf0 := hc.f0; have hf1 := hc.f1
    have hma := ha.mem hw (by omega)
    have hmb := hb.mem hw (by omega)
    obtain ⟨fm, fr, ol, n⟩ := ds
    dsimp only at *
    -- the head
    obtain ⟨s, f, r, P1, hls, hP⟩ : ∃ s f r P1, lsP fr ol = (s, f) :: r ∧ fr ++ ol = s :: P1 := by
      cases fr with
      | cons s fr1 => exact ⟨s, true, _, _, rfl, rfl⟩
      | nil =>
        cases ol with
        | cons s ol1 => exact ⟨s, false, _, _, rfl, rfl⟩
        | nil => cases hma
    have hsm : s ∈ fr ++ ol := by rw [hP]; simp
    obtain ⟨s0, F, hF⟩ := hw.lst s hsm
    have hs8 := hw.lt hsm
    obtain ⟨k, rfl⟩ : ∃ k : Nat, s = k := ⟨s.toNat, by omega⟩
    rw [Int.toNat_natCast] at hF
    dsimp only at hF hs8
    have hkl : k < fm.length := (List.getElem?_eq_some_iff.1 hF).1
    obtain ⟨g1, g2, g3, g4, g5, g6, g7⟩ := hw.flo k F hF
    have hnd := hw.nd
    dsimp only at hnd g7
    have hfil := filter_ne hP hnd
    rw [List.filter_append] at hfil
    have hnd1 : P1.Nodup ∧ (k : Int) ∉ P1 := by rw [hP] at hnd; exact ⟨(List.nodup_cons.1 hnd).2, (List.nodup_cons.1 hnd).1⟩
    have hlenP : (fr ++ ol).length = P1.length + 1 := by rw [hP]; rfl
    have hfl := List.length_filter_le (fun x => decide (x ≠ (k : Int))) fr
    have hone : ∀ fuel, deq c 0 [] (fuel + 1) ⟨fm, fr, ol, n⟩ = (if F.credit ≤ 0 then deq c 0 [] fuel ⟨fm.set k (some { F with credit := F.credit + c.quantum }), fr.filter (· ≠ (k : Int)), ol.filter (· ≠ (k : Int)) ++ [(k : Int)], n⟩
        else match F.segs with
          | [] => if f = true ∧ olB (lsP fr ol) = true then deq c 0 [] fuel ⟨fm, fr.filter (· ≠ (k : Int)), ol.filter (· ≠ (k : Int)) ++ [(k : Int)], n⟩
              else deq c 0 [] fuel ⟨fm.set k (some { F with since := 0 }), fr.filter (· ≠ (k : Int)), ol.filter (· ≠ (k : Int)), n⟩
          | x :: r => if (0 : Int) < timeOf F.next F.segs then none
              else some (some x, ⟨fm.set k (some ⟨F.credit - x.len, satAdd 0 (delayOf x.len (lesser (rateAt [] k) c.maxRate)), F.since, r⟩), fr, ol, n - 1⟩)) := by
      intro fuel
      conv => lhs; unfold deq
      simp only [hls, Int.toNat_natCast, hF]
      try rfl
    have hback : ∀ (o : Option FlowM), (∃ G, o = some G ∧ G.next = 0 ∧ G.since = 0 ∧ 1 - L ≤ G.credit ∧ G.credit ≤ max c.quantum c.first ∧ G.segs = F.segs) → TW c L ⟨fm.set k o, fr.filter (· ≠ (k : Int)), ol.filter (· ≠ (k : Int)) ++ [(k : Int)], n⟩ := by
      rintro o ⟨G, rfl, e1, e2, e3, e4, e5⟩
      have hmem : ∀ x, x ∈ fr.filter (· ≠ (k : Int)) ++ (ol.filter (· ≠ (k : Int)) ++ [(k : Int)]) ↔ x ∈ fr ++ ol := by
        intro x
        rw [← List.append_assoc, hfil, hP]
        simp only [List.mem_append, List.mem_cons, List.mem_singleton]
        constructor
        · rintro (h | h | h)
          · exact .inr h
          · exact .inl h
          · cases h
        · rintro (h | h)
          · exact .inr (.inl h)
          · exact .inl h
      refine ⟨by simpa using hw.len, ?_, ?_, ?_, ?_⟩
      · show (fr.filter _ ++ (ol.filter _ ++ _)).Nodup
        rw [← List.append_assoc, hfil]
        exact (List.perm_append_comm (l₁ := P1) (l₂ := [(k : Int)])).nodup_iff.2 (List.nodup_cons.2 ⟨hnd1.2, hnd1.1⟩)
      · intro x hx
        obtain ⟨x0, G', hG'⟩ := hw.lst x ((hmem x).1 hx)
        refine ⟨x0, ?_⟩
        by_cases hxk : k = x.toNat
        · exact ⟨G, by rw [← hxk]; exact List.getElem?_set_self hkl⟩
        · exact ⟨G', by rw [← hG']; exact List.getElem?_set_ne hxk⟩
      · intro j G' hG'
        have hG2 : (fm.set k (some G))[j]? = some (some G') := hG'
        by_cases hj : k = j
        · subst hj
          rw [List.getElem?_set_self hkl] at hG2
          injection hG2 with hG2; injection hG2 with hG2; subst hG2
          exact ⟨e1, e2, e3, e4, by rw [e5]; exact g5, by rw [e5]; exact g6, fun hh => (hmem _).2 hsm⟩
        · rw [List.getElem?_set_ne hj] at hG2
          obtain ⟨p1, p2, p3, p4, p5, p6, p7⟩ := hw.flo j G' hG2
          exact ⟨p1, p2, p3, p4, p5, p6, fun hh => (hmem _).2 (p7 hh)⟩
      · show n = ((fm.set k (some G)).map segN).sum
        rw [sum_set fm k (some F) (some G) hF, ← hw.num]
        show n = n - ((F.segs.length : Nat) : Int) + ((G.segs.length : Nat) : Int)
        rw [e5]; omega
    have hordb := ord_back hab hP hnd hma hmb
    by_cases hcr : F.credit ≤ 0
    · -- a quantum
      have hw2 := hback (some { F with credit := F.credit + c.quantum }) ⟨_, rfl, g1, g2, by show 1 - L ≤ F.credit + c.quantum; omega, by show F.credit + c.quantum ≤ _; omega, rfl⟩
      have hm2 : meas ⟨fm.set k (some { F with credit := F.credit + c.quantum }), fr.filter (· ≠ (k : Int)), ol.filter (· ≠ (k : Int)) ++ [(k : Int)], n⟩ ≤ m := by
        have h1 := dfc_set fm k (some F) (some { F with credit := F.credit + c.quantum }) hF
        have h2 : dfc (some { F with credit := F.credit + c.quantum }) < dfc (some F) := by
          show (1 - (F.credit + c.quantum)).toNat < (1 - F.credit).toNat; omega
        unfold meas at hm ⊢
        simp only at hm ⊢
        rw [← List.append_assoc, hfil, List.length_append, List.length_singleton]
        omega
      have hseg : ∀ j, HasSeg ⟨fm, fr, ol, n⟩ j 2 → HasSeg ⟨fm.set k (some { F with credit := F.credit + c.quantum }), fr.filter (· ≠ (k : Int)), ol.filter (· ≠ (k : Int)) ++ [(k : Int)], n⟩ j 2 := by
        rintro j ⟨G, hG, hl⟩
        by_cases hj : k = j
        · subst hj
          have : F = G := by rw [hF] at hG; injection hG with hG; injection hG
          subst this
          exact ⟨_, List.getElem?_set_self hkl, hl⟩
        · exact ⟨G, by rw [← hG]; exact List.getElem?_set_ne hj, hl⟩
      obtain ⟨fuel, x, ds', hd, h1, h2, h3, h4, h5, h6, h7, h8⟩ := ih _ hw2 hm2 (hseg a ha) (hseg b hb)
      refine ⟨fuel + 1, x, ds', by rw [hone, if_pos hcr]; exact hd, h1, h2, h3, h4, h5, h6, h7, ?_⟩
      rw [h8]
      have hoL : ordL a b ⟨fm.set k (some { F with credit := F.credit + c.quantum }), fr.filter (· ≠ (k : Int)), ol.filter (· ≠ (k : Int)) ++ [(k : Int)], n⟩ = (P1 ++ [(k : Int)]).filter (fun x => x == (a : Int) || x == (b : Int)) := by
        unfold ordL
        simp only
        rw [← List.append_assoc, hfil]
      have hoL0 : ordL a b ⟨fm, fr, ol, n⟩ = (fr ++ ol).filter (fun x => x == (a : Int) || x == (b : Int)) := rfl
      rcases hordb with ⟨n1, n2, e⟩ | ⟨e0, e1, e2⟩ | ⟨e0, e1, e2⟩
      · have ho : ordO a b ⟨fm.set k (some { F with credit := F.credit + c.quantum }), fr.filter (· ≠ (k : Int)), ol.filter (· ≠ (k : Int)) ++ [(k : Int)], n⟩ = ordO a b ⟨fm, fr, ol, n⟩ := by unfold ordO; rw [hoL, hoL0, e]
        rw [ho, crF_set_ne (fr := fr) (ol := ol) (n := n) (by omega : k ≠ a), crF_set_ne (fr := fr) (ol := ol) (n := n) (by omega : k ≠ b)]
      · obtain rfl : k = a := by omega
        have ho1 : ordO k b ⟨fm.set k (some { F with credit := F.credit + c.quantum }), fr.filter (· ≠ (k : Int)), ol.filter (· ≠ (k : Int)) ++ [(k : Int)], n⟩ = 1 := by unfold ordO; rw [hoL, e2, if_pos rfl]
        have ho0 : ordO k b ⟨fm, fr, ol, n⟩ = 0 := by unfold ordO; rw [hoL0, e1, if_neg]; intro e; injection e with e _; omega
        rw [ho1, ho0, crF_set_self hkl, crF_set_ne (fr := fr) (ol := ol) (n := n) hab, crF_some (ds := ⟨fm, fr, ol, n⟩) hF]
        show _ - _ + _ + c.quantum * (_ - 1) = _
        simp only [Int.mul_sub, Int.mul_one, Int.mul_zero]
        show (F.credit + c.quantum - _) + _ + _ = _
        omega
      · obtain rfl : k = b := by omega
        have ho1 : ordO a k ⟨fm.set k (some { F with credit := F.credit + c.quantum }), fr.filter (· ≠ (k : Int)), ol.filter (· ≠ (k : Int)) ++ [(k : Int)], n⟩ = 0 := by unfold ordO; rw [hoL, e2, if_neg]; intro e; injection e with e _; omega
        have ho0 : ordO a k ⟨fm, fr, ol, n⟩ = 1 := by unfold ordO; rw [hoL0, e1, if_pos rfl]
        rw [ho1, ho0, crF_set_self hkl, crF_set_ne (fr := fr) (ol := ol) (n := n) (Ne.symm hab), crF_some (ds := ⟨fm, fr, ol, n⟩) (k := k) hF]
        simp only [Int.mul_sub, Int.mul_one, Int.mul_zero]
        show _ + (_ - (F.credit + c.quantum)) + _ = _
        omega
    · cases hsg : F.segs with
      | nil =>
        have hka : k ≠ a := by
          rintro rfl
          obtain ⟨G, hG, hl⟩ := ha
          have : F = G := by rw [hF] at hG; injection hG with hG; injection hG
          subst this; rw [hsg] at hl; simp at hl
        have hkb : k ≠ b := by
          rintro rfl
          obtain ⟨G, hG, hl⟩ := hb
          have : F = G := by rw [hF] at hG; injection hG with hG; injection hG
          subst this; rw [hsg] at hl; simp at hl
        have hP1f : P1.filter (fun x => x == (a : Int) || x == (b : Int)) = (fr ++ ol).filter (fun x => x == (a : Int) || x == (b : Int)) := by
          rw [hP, List.filter_cons_of_neg]
          simp; omega
        by_cases hfo : f = true ∧ olB (lsP fr ol) = true
        · -- behind all
          have hw2 := hback (some F) ⟨F, rfl, g1, g2, g3, g4, rfl⟩
          rw [set_same hF] at hw2
          have hfr : fr.filter (· ≠ (k : Int)) ≠ fr := by
            intro e
            obtain ⟨rfl, _⟩ := hfo
            cases fr with
            | nil => cases ol <;> simp [lsP] at hls
            | cons y fr1 =>
              have : y = k := by injection hls with h _; injection h
              subst this
              have h9 := congrArg List.length e
              rw [List.filter_cons_of_neg (by simp)] at h9
              have := List.length_filter_le (fun x => decide (x ≠ (k : Int))) fr1
              simp only [List.length_cons] at h9
              omega
          have hfl2 : (fr.filter (· ≠ (k : Int))).length < fr.length := by
            rcases Nat.lt_or_ge (fr.filter (· ≠ (k : Int))).length fr.length with h | h
            · exact h
            · exact absurd ((List.filter_sublist (l := fr) (p := fun x => decide (x ≠ (k : Int)))).eq_of_length_le h) hfr
          have hm2 : meas ⟨fm, fr.filter (· ≠ (k : Int)), ol.filter (· ≠ (k : Int)) ++ [(k : Int)], n⟩ ≤ m := by
            unfold meas at hm ⊢
            simp only at hm ⊢
            rw [← List.append_assoc, hfil, List.length_append, List.length_singleton]
            omega
          obtain ⟨fuel, x, ds', hd, h1, h2, h3, h4, h5, h6, h7, h8⟩ := ih _ hw2 hm2 ha hb
          refine ⟨fuel + 1, x, ds', by rw [hone, if_neg hcr, hsg]; simp only []; rw [if_pos hfo]; exact hd, h1, h2, h3, h4, h5, h6, h7, ?_⟩
          rw [h8]
          have ho : ordO a b ⟨fm, fr.filter (· ≠ (k : Int)), ol.filter (· ≠ (k : Int)) ++ [(k : Int)], n⟩ = ordO a b ⟨fm, fr, ol, n⟩ := by
            unfold ordO ordL
            simp only
            rw [← List.append_assoc, hfil, List.filter_append, hP1f, List.filter_cons_of_neg (by simp; omega), List.filter_nil, List.append_nil]
          rw [ho]
          rfl
        · -- it goes
          have hmem : ∀ x, x ∈ fr.filter (· ≠ (k : Int)) ++ ol.filter (· ≠ (k : Int)) ↔ x ∈ P1 := fun x => by rw [hfil]
          have hw2 : TW c L ⟨fm.set k (some { F with since := 0 }), fr.filter (· ≠ (k : Int)), ol.filter (· ≠ (k : Int)), n⟩ := by
            refine ⟨by simpa using hw.len, ?_, ?_, ?_, ?_⟩
            · show (fr.filter _ ++ ol.filter _).Nodup
              rw [hfil]; exact hnd1.1
            · intro x hx
              have hx1 := (hmem x).1 hx
              obtain ⟨x0, G', hG'⟩ := hw.lst x (by rw [hP]; simp [hx1])
              refine ⟨x0, ?_⟩
              by_cases hxk : k = x.toNat
              · exact absurd hx1 (by rw [show x = k by omega]; exact hnd1.2)
              · exact ⟨G', by rw [← hG']; exact List.getElem?_set_ne hxk⟩
            · intro j G' hG'
              have hG2 : (fm.set k (some { F with since := 0 }))[j]? = some (some G') := hG'
              by_cases hj : k = j
              · subst hj
                rw [List.getElem?_set_self hkl] at hG2
                injection hG2 with hG2; injection hG2 with hG2; subst hG2
                exact ⟨g1, rfl, g3, g4, g5, g6, fun hh => absurd hsg hh⟩
              · rw [List.getElem?_set_ne hj] at hG2
                obtain ⟨p1, p2, p3, p4, p5, p6, p7⟩ := hw.flo j G' hG2
                refine ⟨p1, p2, p3, p4, p5, p6, fun hh => (hmem _).2 ?_⟩
                have := p7 hh
                rw [hP] at this
                rcases List.mem_cons.1 this with h | h
                · omega
                · exact h
            · show n = ((fm.set k _).map segN).sum
              rw [sum_set fm k (some F) _ hF, ← hw.num]
              show n = n - ((F.segs.length : Nat) : Int) + ((F.segs.length : Nat) : Int)
              omega
          have hm2 : meas ⟨fm.set k (some { F with since := 0 }), fr.filter (· ≠ (k : Int)), ol.filter (· ≠ (k : Int)), n⟩ ≤ m := by
            have h1 := dfc_set fm k (some F) (some { F with since := 0 }) hF
            have h2 : dfc (some { F with since := 0 }) = dfc (some F) := rfl
            unfold meas at hm ⊢
            simp only at hm ⊢
            rw [hfil]
            omega
          have hseg : ∀ j, k ≠ j → HasSeg ⟨fm, fr, ol, n⟩ j 2 → HasSeg ⟨fm.set k (some { F with since := 0 }), fr.filter (· ≠ (k : Int)), ol.filter (· ≠ (k : Int)), n⟩ j 2 := by
            rintro j hj ⟨G, hG, hl⟩
            exact ⟨G, by rw [← hG]; exact List.getElem?_set_ne hj, hl⟩
          obtain ⟨fuel, x, ds', hd, h1, h2, h3, h4, h5, h6, h7, h8⟩ := ih _ hw2 hm2 (hseg a hka ha) (hseg b hkb hb)
          refine ⟨fuel + 1, x, ds', by
            rw [hone, if_neg hcr]
            have hms : ∀ {β : Type} (A : β) (B : SegM → List SegM → β), (match F.segs with | [] => A | x :: r => B x r) = A := fun A B => by rw [hsg]
            rw [hms, if_neg hfo]; exact hd, h1, h2, h3, h4, h5, h6, h7, ?_⟩
          rw [h8]
          have ho : ordO a b ⟨fm.set k (some { F with since := 0 }), fr.filter (· ≠ (k : Int)), ol.filter (· ≠ (k : Int)), n⟩ = ordO a b ⟨fm, fr, ol, n⟩ := by
            unfold ordO ordL
            simp only
            rw [hfil, hP1f]
          rw [ho, crF_set_ne (fr := fr) (ol := ol) (n := n) hka, crF_set_ne (fr := fr) (ol := ol) (n := n) hkb]
      | cons x r =>
        -- it departs
        obtain ⟨x1, x2, x3, x4⟩ := g6 x (by rw [hsg]; simp)
        have htm : timeOf F.next F.segs = 0 := by rw [hsg, g1]; show max 0 x.stamp = 0; rw [x4]; rfl
        have hnx : satAdd 0 (delayOf x.len (lesser (rateAt [] k) c.maxRate)) = 0 := by
          rw [hc.mr, show rateAt [] k = 18446744073709551615 from rfl, lesser_top]
          unfold delayOf
          rw [if_pos (.inr rfl)]; rfl
        have hw2 : TW c L ⟨fm.set k (some ⟨F.credit - x.len, 0, F.since, r⟩), fr, ol, n - 1⟩ := by
          refine ⟨by simpa using hw.len, hw.nd, ?_, ?_, ?_⟩
          · intro y hy
            obtain ⟨y0, G', hG'⟩ := hw.lst y hy
            refine ⟨y0, ?_⟩
            by_cases hyk : k = y.toNat
            · exact ⟨_, by rw [← hyk]; exact List.getElem?_set_self hkl⟩
            · exact ⟨G', by rw [← hG']; exact List.getElem?_set_ne hyk⟩
          · intro j G' hG'
            have hG2 : (fm.set k (some ⟨F.credit - x.len, 0, F.since, r⟩))[j]? = some (some G') := hG'
            by_cases hj : k = j
            · subst hj
              rw [List.getElem?_set_self hkl] at hG2
              injection hG2 with hG2; injection hG2 with hG2; subst hG2
              refine ⟨rfl, g2, ?_, ?_, ?_, fun y hy => g6 y (by rw [hsg]; simp [hy]), fun _ => hsm⟩
              · show 1 - L ≤ F.credit - x.len; omega
              · show F.credit - x.len ≤ _; omega
              · show r.length ≤ 2
                have := g5
                rw [hsg] at this
                simp at this; omega
            · rw [List.getElem?_set_ne hj] at hG2
              exact hw.flo j G' hG2
          · show n - 1 = ((fm.set k _).map segN).sum
            rw [sum_set fm k (some F) _ hF, ← hw.num]
            show n - 1 = n - ((F.segs.length : Nat) : Int) + ((r.length : Nat) : Int)
            rw [hsg]; simp; omega
        have hseg : ∀ j, HasSeg ⟨fm, fr, ol, n⟩ j 2 → HasSeg ⟨fm.set k (some ⟨F.credit - x.len, 0, F.since, r⟩), fr, ol, n - 1⟩ j 1 := by
          rintro j ⟨G, hG, hl⟩
          by_cases hj : k = j
          · subst hj
            have : F = G := by rw [hF] at hG; injection hG with hG; injection hG
            subst this
            refine ⟨_, List.getElem?_set_self hkl, ?_⟩
            show 1 ≤ r.length
            rw [hsg] at hl; simp at hl; omega
          · exact ⟨G, by rw [← hG]; exact List.getElem?_set_ne hj, by omega⟩
        refine ⟨1, x, ⟨fm.set k (some ⟨F.credit - x.len, 0, F.since, r⟩), fr, ol, n - 1⟩, ?_, hw2, by omega, by omega, x2, x3, hseg a ha, hseg b hb, ?_⟩
        · rw [hone, if_neg hcr]
          have hms : ∀ {β : Type} (A : β) (B : SegM → List SegM → β), (match F.segs with | [] => A | x :: r => B x r) = B x r := fun A B => by rw [hsg]
          rw [hms, if_neg (by rw [htm]; omega), hnx]
        · have ho : ordO a b ⟨fm.set k (some ⟨F.credit - x.len, 0, F.since, r⟩), fr, ol, n - 1⟩ = ordO a b ⟨fm, fr, ol, n⟩ := rfl
          rw [ho, Int.sub_self, Int.mul_zero, Int.add_zero, x1]
          by_cases hka : k = a
          · subst hka
            rw [if_pos rfl, if_neg (by omega), crF_set_self hkl, crF_set_ne (fr := fr) (ol := ol) (n := n) hab, crF_some (ds := ⟨fm, fr, ol, n⟩) hF]
            show x.len - 0 = F.credit - (F.credit - x.len) + _
            omega
          · rw [if_neg (by omega), crF_set_ne (fr := fr) (ol := ol) (n := n) hka]
            by_cases hkb : k = b
            · subst hkb
              rw [if_pos rfl, crF_set_self hkl, crF_some (ds := ⟨fm, fr, ol, n⟩) (k := k) hF]
              show 0 - x.len = _ + (F.credit - x.len - F.credit)
              omega
            · rw [if_neg (by omega), crF_set_ne (fr := fr) (ol := ol) (n := n) hkb]
              omega
end
/-! ### The rounds -/
def FairI (c : CfgM) (a b : Nat) (L x y : Int) (ds : DS) : Prop := ∃ ca cb o : Int, (o = 0 ∨ o = 1) ∧ 1 - L ≤ ca ∧ ca ≤ max c.quantum c.first ∧ 1 - L ≤ cb ∧ cb ≤ max c.quantum c.first ∧ x - y = (ca - crF ds a) + (crF ds b - cb) + c.quantum * (ordO a b ds - o)
theorem HasSeg.cr {c : CfgM} {L : Int} {ds : DS} {k n : Nat} (h : HasSeg ds k n) (hw : TW c L ds) : 1 - L ≤ crF ds k ∧ crF ds k ≤ max c.quantum c.first := by
  obtain ⟨F, hF, -⟩ := h
  rw [crF_some hF]
  have := hw.flo k F hF
  exact ⟨this.2.2.1, this.2.2.2.1⟩
theorem fair_zero {c : CfgM} {a b : Nat} {L : Int} {ds : DS} (hw : TW c L ds) (ha : HasSeg ds a 1) (hb : HasSeg ds b 1) : FairI c a b L 0 0 ds :=
  ⟨crF ds a, crF ds b, ordO a b ds, ordO_01, (ha.cr hw).1, (ha.cr hw).2, (hb.cr hw).1, (hb.cr hw).2, by rw [Int.sub_self, Int.sub_self, Int.sub_self, Int.sub_self, Int.mul_zero]; omega⟩
theorem fair_bound {c : CfgM} (hc : TC c) {a b : Nat} {L x y : Int} {ds : DS} (hw : TW c L ds) (ha : HasSeg ds a 1) (hb : HasSeg ds b 1) (h : FairI c a b L x y ds) : max x y - min x y ≤ c.quantum + 2 * max c.quantum c.first + 2 * L := by
  obtain ⟨ca, cb, o, ho, a0, a1, b0, b1, e⟩ := h
  have h1 := ha.cr hw
  have h2 := hb.cr hw
  have h3 := ordO_01 (a := a) (b := b) (ds := ds)
  have h4 : c.quantum * (ordO a b ds - o) ≤ c.quantum ∧ -c.quantum ≤ c.quantum * (ordO a b ds - o) := by
    have := hc.q0
    rcases h3 with h3 | h3 <;> rcases ho with ho | ho <;> rw [h3, ho]
    · simp; omega
    · rw [show (0 : Int) - 1 = -1 from rfl, Int.mul_neg, Int.mul_one]; omega
    · rw [show (1 : Int) - 0 = 1 from rfl, Int.mul_one]; omega
    · simp; omega
  omega
structure THead (c : CfgM) (a b fv i put : Nat) (L x y : Int) (ds : DS) : Prop where
  tw : TW c L ds
  L0 : 0 ≤ L
  L1 : L ≤ 9000
  x0 : 0 ≤ x
  x1 : x ≤ 9000 * i
  y0 : 0 ≤ y
  y1 : y ≤ 9000 * i
  put : put ≤ 16 * i
  zero : i = 0 → ds.fr ++ ds.ol = []
  early : i ≤ fv → x = 0 ∧ y = 0
  live : 0 < i → HasSeg ds a 1 ∧ HasSeg ds b 1 ∧ FairI c a b L x y ds
structure KInv (c : CfgM) (a b i k : Nat) (L L0 : Int) (ds0 ds : DS) : Prop where
  tw : TW c L ds
  le : L0 ≤ L
  l9 : L ≤ 9000
  two : ∀ j, j < k → j = a ∨ j = b → HasSeg ds j 2
  keep : 0 < i → crF ds a = crF ds0 a ∧ crF ds b = crF ds0 b ∧ ordO a b ds = ordO a b ds0 ∧ HasSeg ds a 1 ∧ HasSeg ds b 1
theorem KInv.enq {c : CfgM} (hc : TC c) {a b i k : Nat} {L L0 : Int} {ds0 ds : DS} (h : KInv c a b i k L L0 ds0 ds) (hk : k < 8) (n : Nat) (hn : n < 2) (hs : (segsM ((ds.fm[k]?).getD none)).length = n) (ln : Int) (l0 : 1 ≤ ln) (l1 : ln ≤ 9000) :
    ∃ ds', enqM c ds ⟨k, 0, ln, 0, false⟩ 0 = (0, ds') ∧ KInv c a b i k (max L ln) L0 ds0 ds' ∧ (segsM ((ds'.fm[k]?).getD none)).length = n + 1 := by
  have hkl : k < ds.fm.length := by rw [h.tw.len]; exact hk
  obtain ⟨o, ho⟩ : ∃ o, ds.fm[k]? = some o := ⟨_, List.getElem?_eq_getElem hkl⟩
  rw [ho, Option.getD_some] at hs
  have hl := h.l9
  obtain ⟨F, fr', he, hF, hG, hfr, hw⟩ := tw_enq (h.tw.mono (L' := max L ln) (by omega)) hc (by omega) k hk o ho (by omega) ln l0 (by omega)
  refine ⟨_, he, ⟨hw, by have := h.le; omega, by omega, ?_, ?_⟩, ?_⟩
  · intro j hj hab
    obtain ⟨G, hG1, hG2⟩ := h.two j hj hab
    exact ⟨G, by rw [← hG1]; exact List.getElem?_set_ne (by omega), hG2⟩
  · intro hi
    obtain ⟨k1, k2, k3, ha, hb⟩ := h.keep hi
    have hcr : ∀ j, HasSeg ds j 1 → crF ⟨ds.fm.set k (some F), fr', ds.ol, ds.n + 1⟩ j = crF ds j ∧ HasSeg ⟨ds.fm.set k (some F), fr', ds.ol, ds.n + 1⟩ j 1 := by
      rintro j ⟨G, hG1, hG2⟩
      by_cases hj : k = j
      · subst hj
        have : o = some G := by rw [ho] at hG1; injection hG1
        subst this
        refine ⟨?_, F, List.getElem?_set_self hkl, ?_⟩
        · rw [crF_some (ds := ds) hG1, crF_set_self hkl]; exact hG G rfl
        · rw [hF, List.length_append]; simp
      · refine ⟨?_, G, by rw [← hG1]; exact List.getElem?_set_ne hj, hG2⟩
        unfold crF
        simp only [List.getElem?_set_ne hj]
    have hord : ordO a b ⟨ds.fm.set k (some F), fr', ds.ol, ds.n + 1⟩ = ordO a b ds := by
      rcases hfr with ⟨rfl, _⟩ | ⟨rfl, hnot⟩
      · rfl
      · have hka : k ≠ a := fun e => hnot (by subst e; exact ha.mem h.tw (by omega))
        have hkb : k ≠ b := fun e => hnot (by subst e; exact hb.mem h.tw (by omega))
        have e : ordL a b ⟨ds.fm.set k (some F), ds.fr ++ [(k : Int)], ds.ol, ds.n + 1⟩ = ordL a b ds := by
          unfold ordL
          simp only
          rw [List.append_assoc, List.filter_append, List.filter_append, List.filter_append, List.filter_cons_of_neg (by simp; omega), List.filter_nil, List.nil_append]
        unfold ordO
        rw [e]
    exact ⟨(hcr a ha).1.trans k1, (hcr b hb).1.trans k2, hord.trans k3, (hcr a ha).2, (hcr b hb).2⟩
  · show (segsM (((ds.fm.set k (some F))[k]?).getD none)).length = n + 1
    rw [List.getElem?_set_self hkl, Option.getD_some]
    show F.segs.length = n + 1
    rw [hF, List.length_append, hs]; rfl
theorem THead.kinv {c : CfgM} {a b fv i put : Nat} {L x y : Int} {ds : DS} (h : THead c a b fv i put L x y ds) : KInv c a b i 0 L L ds ds :=
  ⟨h.tw, Int.le_refl _, h.L1, fun j hj => by omega, fun hi => ⟨rfl, rfl, rfl, (h.live hi).1, (h.live hi).2.1⟩⟩
theorem KInv.next {c : CfgM} {a b i k : Nat} {L L0 : Int} {ds0 ds : DS} (h : KInv c a b i k L L0 ds0 ds) (hs : k = a ∨ k = b → 2 ≤ (segsM ((ds.fm[k]?).getD none)).length) : KInv c a b i (k + 1) L L0 ds0 ds := by
  refine ⟨h.tw, h.le, h.l9, fun j hj hab => ?_, h.keep⟩
  by_cases hjk : j < k
  · exact h.two j hjk hab
  · obtain rfl : j = k := by omega
    have h2 := hs hab
    cases hf : ds.fm[j]? with
    | none => rw [hf] at h2; simp [segsM] at h2
    | some o =>
      rw [hf, Option.getD_some] at h2
      cases o with
      | none => simp [segsM] at h2
      | some F => exact ⟨F, hf, h2⟩
/-- A round: behind the Dequeue. -/
theorem THead.step {c : CfgM} (hc : TC c) {a b fv i put put' : Nat} (hab : a ≠ b) (a8 : a < 8) (b8 : b < 8) {L L' x y : Int} {ds0 ds : DS} (h : THead c a b fv i put L x y ds0) (hk : KInv c a b i 8 L' L ds0 ds) (hp : put' ≤ 16 * (i + 1)) :
    ∃ fuel s ds', deq c 0 [] fuel ds = some (some s, ds') ∧ dOk ds ∧ 0 ≤ s.sock ∧ s.sock < 8 ∧ 1 ≤ s.len ∧ s.len ≤ 9000 ∧
      ∀ x' y' : Int, x' = (if fv ≤ i ∧ s.sock = a then x + s.len else x) → y' = (if fv ≤ i ∧ s.sock = b then y + s.len else y) → THead c a b fv (i + 1) put' L' x' y' ds' ∧ max x' y' - min x' y' ≤ c.quantum + 2 * max c.quantum c.first + 2 * L' := by
  have ha := hk.two a a8 (.inl rfl)
  have hb := hk.two b b8 (.inr rfl)
  have hL := h.L0
  have hle := hk.le
  have hl9 := hk.l9
  obtain ⟨fuel, s, ds', hd, hw, s0, s8, n0, n1, ha', hb', he⟩ := tw_deq hc hl9 a b hab _ ds hk.tw (Nat.le_refl _) ha hb
  refine ⟨fuel, s, ds', hd, hk.tw.dOk hc (by omega) hl9, s0, s8, n0, by omega, ?_⟩
  intro x' y' hx hy
  have ha1 : HasSeg ds a 1 := by obtain ⟨F, h1, h2⟩ := ha; exact ⟨F, h1, by omega⟩
  have hb1 : HasSeg ds b 1 := by obtain ⟨F, h1, h2⟩ := hb; exact ⟨F, h1, by omega⟩
  have hfair : FairI c a b L' x' y' ds' := by
    by_cases hf : fv ≤ i
    · -- what was so behind the filling
      have h0 : FairI c a b L' x y ds := by
        by_cases hi : i ≤ fv
        · obtain ⟨rfl, rfl⟩ := h.early hi
          exact fair_zero hk.tw ha1 hb1
        · obtain ⟨-, -, ca, cb, o, e1, e2, e3, e4, e5, e6⟩ := h.live (by omega)
          obtain ⟨k1, k2, k3, -, -⟩ := hk.keep (by omega)
          exact ⟨ca, cb, o, e1, by omega, e3, by omega, e5, by rw [k1, k2, k3]; exact e6⟩
      obtain ⟨ca, cb, o, e1, e2, e3, e4, e5, e6⟩ := h0
      refine ⟨ca, cb, o, e1, e2, e3, e4, e5, ?_⟩
      have hm : c.quantum * (ordO a b ds' - o) = c.quantum * (ordO a b ds - o) + c.quantum * (ordO a b ds' - ordO a b ds) := by
        rw [← Int.mul_add]; congr 1; omega
      rw [hm]
      by_cases hsa : s.sock = a
      · have hsb : ¬ s.sock = b := by omega
        rw [if_pos hsa, if_neg hsb] at he
        rw [if_pos ⟨hf, hsa⟩] at hx
        rw [if_neg (fun h => hsb h.2)] at hy
        omega
      · rw [if_neg hsa] at he
        rw [if_neg (fun h => hsa h.2)] at hx
        by_cases hsb : s.sock = b
        · rw [if_pos hsb] at he
          rw [if_pos ⟨hf, hsb⟩] at hy
          omega
        · rw [if_neg hsb] at he
          rw [if_neg (fun h => hsb h.2)] at hy
          omega
    · rw [if_neg (fun h => hf h.1)] at hx hy
      obtain ⟨rfl, rfl⟩ := h.early (by omega)
      subst hx hy
      exact fair_zero hw ha' hb'
  have hx1 := h.x1; have hy1 := h.y1; have hx0 := h.x0; have hy0 := h.y0
  refine ⟨⟨hw, by omega, hl9, ?_, ?_, ?_, ?_, hp, fun hz => by omega, fun hi => ?_, fun _ => ⟨ha', hb', hfair⟩⟩, fair_bound hc hw ha' hb' hfair⟩
  · rw [hx]; split <;> omega
  · rw [hx]; split <;> omega
  · rw [hy]; split <;> omega
  · rw [hy]; split <;> omega
  · have hf : ¬ fv ≤ i := by omega
    rw [if_neg (fun h => hf h.1)] at hx hy
    obtain ⟨rfl, rfl⟩ := h.early (by omega)
    exact ⟨hx, hy⟩
theorem THead.init {c : CfgM} (a b fv : Nat) : THead c a b fv 0 0 0 0 0 ⟨List.replicate 8 none, [], [], 0⟩ := by
  refine ⟨⟨rfl, by simp, by simp, ?_, rfl⟩, by omega, by omega, by omega, by omega, by omega, by omega, by omega, fun _ => rfl, fun _ => ⟨rfl, rfl⟩, fun h => by omega⟩
  intro k F hF
  have h' : (List.replicate 8 (none : Option FlowM))[k]? = some (some F) := hF
  rw [List.getElem?_replicate] at h'
  split at h'
  · injection h' with h'; cases h'
  · cases h'
end Go.Proofs.YtcegknecikbbkaaGreat

/- Turns: a flow's length, and the size of a segment. -/
set_option linter.unusedVariables false
set_option linter.unusedSimpArgs false
set_option maxRecDepth 4000
namespace Go.Proofs.YtcegknecikbbkaaGreat
open Go.RowKit
theorem Ct.into {P : Program} {f : FuncId} {args : Array Value} {pre : List Res} {post post' : Value → List Res → Prop} (h : Ct P f args pre post)
    (hpost : ∀ v L1, post v L1 → ∃ L2, post' v L2 ∧ ∀ {w0 w : World} {F : List Nat} {L : List Res}, Sep w0 F (L1 ++ L) w → Sep w0 F (L2 ++ L) w) : Ct P f args pre post' :=
  fun w0 F L w hS => (h w0 F L w hS).mono fun e w' hr => by
    cases e with
    | returned v =>
      obtain ⟨L1, hp, hs⟩ := hr
      obtain ⟨L2, hp2, hf⟩ := hpost v L1 hp
      exact ⟨L2, hp2, hf hs⟩
    | panicked c => exact hr.elim
    | outgrown => exact hr.elim
theorem qflowLen_ct (b : Nat) (q : QA) (hok : dOk (absQ q)) (s : Nat) (hs : s < 8) : Ct Tryz.prog 21 #[.pointer (some ⟨b, 0, none⟩), .int .i64 s] [queueG b q]
    (fun v L => ∃ (z cr pl nx si : Int) (ad : Option Addr) (cp : Nat) (bb : Bool), v = .tuple #[.agg (tolV z cr pl nx si ad (segsM (((absQ q).fm[s]?).getD none)).length cp).toArray, .bool bb] ∧ L = [queueG b q]) := by
  have h8 : q.fl.length = 8 := hok.flOk.1
  obtain ⟨x, hx⟩ : ∃ x, q.fl[s]? = some x := ⟨_, List.getElem?_eq_getElem (by omega)⟩
  have hm : (absQ q).fm[s]? = some (x.map FlowA.m) := by
    show (q.fl.map (Option.map FlowA.m))[s]? = _
    rw [List.getElem?_map, hx]; rfl
  rw [hm, Option.getD_some]
  cases x with
  | none =>
    exact (qflowNo_ct b q h8 s hx).mono fun v L ⟨hv, hL⟩ => ⟨0, 0, 0, 0, 0, none, 0, false, hv, hL⟩
  | some f =>
    obtain ⟨fb, ⟨cr, nx, si, l⟩, fa, fc⟩ := f
    have hl := (hok.flo s _ hm).2.2.2.2.2.2.1
    refine (qflowOk_ct b q h8 s fb fc cr nx si l fa hx hok.few hl).into ?_
    rintro v L ⟨ad, cp, rfl, rfl⟩
    exact ⟨_, ⟨_, _, _, _, _, ad, cp, true, rfl, rfl⟩, fun {w0 w F L} hS => hS.drop⟩
theorem size_ex (w0 : World) (a0 : Option Addr) (len0 cap0 : Nat) (z0 : List (List Value)) (s0 : ArgSl w0 [.int .i64] a0 len0 z0) : ∃ sz : Nat → Int, (∀ p, 1 ≤ sz p ∧ sz p ≤ 9000) ∧
    ∀ (p : Nat), p ≤ 100000 → ∀ (x7 : Nat) (w : World) (L : List Res), Sep w0 [] L w → pts x7 [.slice a0 len0 cap0] 33 ∈ L →
      Calls Tryz.prog 20 #[.int .i64 p, .pointer (some ⟨x7, 0, none⟩)] w (CkR (Gives (.int .i64 (sz p)) []) w0 [] L) := by
  have key : ∀ p : Nat, ∃ v : Int, (1 ≤ v ∧ v ≤ 9000) ∧ (p ≤ 100000 → ∀ (x7 : Nat) (w : World) (L : List Res), Sep w0 [] L w → pts x7 [.slice a0 len0 cap0] 33 ∈ L →
      Calls Tryz.prog 20 #[.int .i64 p, .pointer (some ⟨x7, 0, none⟩)] w (CkR (Gives (.int .i64 v) []) w0 [] L)) := by
    intro p
    by_cases h0 : len0 = 0
    · refine ⟨1500, by omega, ?_⟩
      intro hp x7 w L hS hm
      have h0' : ((len0 : Int) == 0) = true := by simp [h0]
      clear s0 h0
      go_enter Tryz.func20, Tryz.ntmps20
      go_wp2_with (first | go_skip | (refine ck_load hS rfl rfl rfl (by (repeat (first | exact mH _ | apply mT)) <;> fail) rfl (by decide +kernel) ?_; simp only [Act.put, spA, spZ, spS]) | (refine ck_load hS rfl rfl rfl hm rfl (by decide +kernel) ?_; simp only [Act.put, spA, spZ, spS]) | (refine ck_region (fun _ => 0) (fun _ => []) [] hS (by kernel_rfl) (by decide +kernel) ?_ ?_; exact ⟨fun _ _ _ h => h.2, fun _ _ h => h⟩; clear hS; intro w hS _; (repeat (first | (apply wpT_pure rfl rfl; (intro _; go_simp; (try (go_ints; (try go_simp))); (first | (rw [decide_eq_true]; omega) | (rw [decide_eq_false]; omega) | rfl | rw [if_pos (by omega)])); simp only [Act.put, spA, spZ, spS]) | (refine ckT_load hS rfl rfl rfl (by simp <;> fail) (by (repeat (first | exact mH _ | apply mT)) <;> fail) rfl (by decide +kernel) ?_; simp only [Act.put, spA, spZ, spS]) )); refine wpT_nil ?_))
      go_ret
      exact ⟨_, ⟨rfl, rfl⟩, hS⟩
    · have hi : p % len0 < len0 := Nat.mod_lt _ (by omega)
      obtain ⟨b, off, cs, T, fz, n, rfl, hb, hh, hc, r⟩ := s0.int1 hi
      obtain ⟨rv, hrv⟩ : ∃ rv, (IntKind.u64.wrap n).tmod 9000 = rv := ⟨_, rfl⟩
      have b1 : 0 ≤ rv ∧ rv < 9000 := by
        have hw : 0 ≤ IntKind.u64.wrap n := by rw [IntKind.wrap_u64]; omega
        rw [Int.tmod_eq_emod_of_nonneg hw] at hrv; omega
      refine ⟨1 + rv, by omega, ?_⟩
      intro hp x7 w L hS hm
      have h0' : ((len0 : Int) == 0) = false := by simp; omega
      obtain ⟨b10, b11⟩ := b1
      have hsm := s0.small
      have hmod : (p : Int).tmod (len0 : Int) = ((p % len0 : Nat) : Int) := by rw [Int.tmod_eq_emod_of_nonneg (by omega)]; omega
      generalize p % len0 = i at *
      clear s0
      go_enter Tryz.func20, Tryz.ntmps20
      go_wp2_with (first | go_skip | (refine ck_load hS rfl rfl rfl (by (repeat (first | exact mH _ | apply mT)) <;> fail) rfl (by decide +kernel) ?_; simp only [Act.put, spA, spZ, spS]) | (refine ck_load hS rfl rfl rfl hm rfl (by decide +kernel) ?_; simp only [Act.put, spA, spZ, spS]) | (refine ck_region (fun _ => 0) (fun _ => []) [] hS (by kernel_rfl) (by decide +kernel) ?_ ?_; exact ⟨fun _ _ _ h => h.2, fun _ _ h => h⟩; clear hS; intro w hS _; (repeat (first | (apply wpT_pure rfl rfl; (intro _; go_simp; (try (go_ints; (try go_simp))); (first | (rw [decide_eq_true]; omega) | (rw [decide_eq_false]; omega) | rfl | rw [if_pos (by omega)])); simp only [Act.put, spA, spZ, spS]) | (refine ckT_load hS rfl rfl rfl (by simp <;> fail) (by (repeat (first | exact mH _ | apply mT)) <;> fail) rfl (by decide +kernel) ?_; simp only [Act.put, spA, spZ, spS]) | (refine ckT_load hS rfl rfl rfl (by simp <;> fail) hm rfl (by decide +kernel) ?_; simp only [Act.put, spA, spZ, spS]) | (refine ckT_loadOld hS rfl rfl rfl (by simp <;> fail) hb hh hc (by decide +kernel) ?_; simp only [Act.put, spA, spZ, spS]))); refine wpT_nil ?_))
      go_ret
      exact ⟨_, ⟨rfl, rfl⟩, hS⟩
  exact ⟨fun p => Classical.choose (key p), fun p => (Classical.choose_spec (key p)).1, fun p => (Classical.choose_spec (key p)).2⟩
end Go.Proofs.YtcegknecikbbkaaGreat
