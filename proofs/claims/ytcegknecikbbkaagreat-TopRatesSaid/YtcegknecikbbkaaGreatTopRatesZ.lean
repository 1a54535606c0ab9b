/- TopRates: for every rate, every send and every mss the law answers true; no condition. -/
import Derived.Test.YtcegknecikbbkaaGreatRows
import Derived.WalkKit
import Derived.WalkSpells
import Derived.WalkLawsBesides
import Derived.WalkMore
import Derived.Deep.LoopGhost
import Derived.Test.YtcegknecikbbkaaGreatTopRatesM1
import Derived.Test.YtcegknecikbbkaaGreatTopRatesM2
import Derived.Test.YtcegknecikbbkaaGreatTopRatesM3
import Derived.Test.YtcegknecikbbkaaGreatTopRatesM4
import Derived.Test.YtcegknecikbbkaaGreatTopRatesM5
set_option linter.unusedVariables false
set_option linter.unusedSimpArgs false
set_option maxRecDepth 4000
namespace Go.Proofs.YtcegknecikbbkaaGreat
open Go.RowKit
theorem egNowG_ct (b : Nat) (m : MachA) : Ct Tryz.prog 10 #[.pointer (some ⟨b, 0, none⟩)] [machG b m] (Gives (.int .u64 m.now) [machG b m]) := by
  obtain ⟨c, cb, now, sl, qb, q, t, lg, B⟩ := m
  refine (egNow_ct b c cb now sl qb lg).conv [socksR sl, queueG qb q, treeG q.tb t, ledR lg B] (fun {w0 w F L} hS => ?_) ?_
  · have hS := machOpen.1 hS
    exact (by simp only [List.cons_append, List.nil_append]; exact hS.pick (by (repeat (first | exact Pick.refl _ | (apply Pick.take; ((repeat (first | exact rH _ _ | apply rT)) <;> fail)) | (apply Pick.drop)))))
  · rintro v L1 ⟨rfl, rfl⟩
    refine ⟨_, ⟨rfl, rfl⟩, fun {w0 w F L} hS => ?_⟩
    refine machOpen.2 ?_
    simp only [List.cons_append, List.nil_append] at hS
    exact hS.pick (by (repeat (first | exact Pick.refl _ | (apply Pick.take; ((repeat (first | exact rH _ _ | apply rT)) <;> fail)) | (apply Pick.drop))))
theorem refWide0_ct (x : Int) : Ct Tryz.prog 31 #[.int .u64 0, .int .u64 1000000000] [] (Gives (.tuple #[.int .u64 0, .int .u64 0]) []) := by
  have e1 : bits .and .u64 0 4294967295 = 0 := by decide
  have e2 : bits .and .u64 1000000000 4294967295 = 1000000000 := by decide
  have e3 : bits .or .u64 0 0 = 0 := by decide
  intro w0 F L w hS
  simp only [List.cons_append, List.nil_append] at hS
  go_enter Tryz.func31, Tryz.ntmps31
  go_wp2_with (first | go_skip )
  go_ret2
  exact ⟨_, ⟨rfl, rfl⟩, hS⟩
theorem refMulDiv0_ct (r : Int) : Ct Tryz.prog 11 #[.int .u64 0, .int .u64 1000000000, .int .u64 r] [] (Gives (.int .u64 0) []) := by
  have kW := refWide0_ct 0
  intro w0 F L w hS
  simp only [List.cons_append, List.nil_append] at hS
  go_enter Tryz.func11, Tryz.ntmps11
  go_wp2_with (first | go_skip | (go_at_call 31; with_reducible refine Ct.call0 (kW) hS ?_; clear hS; intro w hS))
  go_ret
  exact ⟨_, ⟨rfl, rfl⟩, hS⟩
abbrev bookD : List (List Int) := noteF (noteA zeroB 0) 0 1
theorem sce_dIn2 {c : CfgM} {n : Int} : dIn (sceD2 c n (c.first - sceN c n)) := dIn1 (by rintro s (h | h); exact List.mem_singleton.1 h; cases h)
theorem bookD_ok : bookOk bookD := by
  have e : bookD = [0, 1, 1, 0, 0, 0, 0, 0] :: List.replicate 7 [0, 0, 0, 0, 0, 0, 0, 0] := rfl
  rw [e]
  refine ⟨?_, rfl, ?_⟩
  · unfold Eights; decide
  · intro c hc x hx
    rcases List.mem_cons.1 hc with rfl | hc
    · simp at hx; omega
    · have := List.eq_of_mem_replicate hc
      subst this
      simp at hx; omega
section
variable {c : CfgM} {n : Int} (h : sceOk c n) (b : Nat)
include h
theorem sce_first : 100 ≤ c.first ∧ c.first ≤ 65536 := by obtain ⟨-, -, f0, f1, -⟩ := h.may; exact ⟨f0, f1⟩
theorem sce_nx : 0 ≤ sceNx c n ∧ sceNx c n ≤ 18446744073709551615 := by
  have hb := (sce_blk h).so.rate
  have hr : 0 ≤ sRate c ∧ sRate c ≤ 18446744073709551615 := hb
  have h1 := lesser_bd hr.1 hr.2 h.r0 h.r1
  have := delayOf_bd (sceN c n) (lesser (sRate c) c.maxRate) h1.1
  unfold sceNx satAdd; omega
theorem sce_dOk2 : dOk (sceD2 c n (c.first - sceN c n)) := by
  have hN := sce_Nb h
  have hf := sce_first h
  have hx := sce_nx h
  exact dOk1 (sce_flow h _ _ (by omega) (by omega) hx.1 hx.2 _ (.inl rfl)) (by rintro s (h | h); exact List.mem_singleton.1 h; cases h) (by show 1 ≤ 1000; omega) (by omega) (by omega)
theorem sceDone_ct (m : MachA) (hm : ScM c (mayK (emitK (sceK1 c n) 0)) (sceD2 c n (c.first - sceN c n)) bookD m) : Ct Tryz.prog 9 #[.pointer (some ⟨b, 0, none⟩), deedA (dDone (sceN c n))] [machG b m] (fun v L => v = .tuple #[outA outZ, .int .i64 0] ∧ ∃ m k, Blk k ∧ k.mdl.rate = sRate c ∧ ScM c k (sceD2 c n (c.first - sceN c n)) bookD m ∧ L = [machG b m]) := by
  have hN := sce_Nb h
  obtain ⟨-, -, -, -, -, -, -, -, hz, -⟩ := h.may
  have hb := (sce_blk h).mayK
  have hout : (mayK (emitK (sceK1 c n) 0)).out = sceN c n := by
    rw [mayK_out]
    show 0 + emitN (sceK1 c n) = _
    rw [sce_N h]; omega
  have hk2 : Blk { mayK (emitK (sceK1 c n) 0) with out := 0 } := hb.out
  have hid : (mayK (emitK (sceK1 c n) 0)).id = 0 := by rw [mayK_id]; rfl
  have hmd : (mayK (emitK (sceK1 c n) 0)).mdl.rate = sRate c := by rw [mayK_mdl]; rfl
  refine (sceTell_ct b h.z0 (by omega) (dDone (sceN c n)) (.inr (.inr (.inr rfl))) rfl (mayK (emitK (sceK1 c n) 0)) { mayK (emitK (sceK1 c n) 0) with out := 0 } _ _ _ bookD _ 1 (fun A => ?_) (blk_pump hk2 (sce_dOk2 h) sce_dIn2 (Int.le_refl _) bookD_ok hid) m hm).mono ?_
  · have := sockDone_ct A (mayK (emitK (sceK1 c n) 0)) (sceN c n) hN.1 (by rw [hout]; omega) hb.so.out.2
    rw [show (mayK (emitK (sceK1 c n) 0)).out - sceN c n = 0 by rw [hout]; omega] at this
    exact toldDone_ct A (dDone (sceN c n)) 0 _ _ rfl this
  · rintro v L ⟨rfl, m, hm, rfl⟩
    exact ⟨rfl, m, _, hk2.mayK, by rw [mayK_mdl]; exact hmd, hm, rfl⟩
theorem scePull2_ct (m : MachA) (k : SockM) (hk : Blk k) (hmd : k.mdl.rate = sRate c) (hm : ScM c k (sceD2 c n (c.first - sceN c n)) bookD m) : Ct Tryz.prog 9 #[.pointer (some ⟨b, 0, none⟩), deedA dPull] [machG b m] (fun v L => v = .tuple #[outA outZ, .int .i64 0] ∧ ∃ m : MachA, m.now = 0 ∧ L = [machG b m]) := by
  have hN := sce_Nb h
  have hf := sce_first h
  obtain ⟨q0, -⟩ := h.may
  obtain ⟨fuel, ds', hd, h8⟩ := sce_drain q0 (k.mdl.rate :: List.replicate 7 18446744073709551615) (sceNx c n) 400 (c.first - sceN c n) [0] [] (.inl ⟨rfl, rfl⟩) (by omega)
  refine (scePull_ct b h.may h.r0 h.r1 dPull rfl k hk.so.rate.1 hk.so.rate.2 _ ds' bookD bookD_ok fuel none (sce_dOk2 h) hd h8 (fun x hx => by cases hx) m hm).mono ?_
  rintro v L ⟨rfl, m, hm, rfl⟩
  exact ⟨rfl, m, hm.2.2.1, rfl⟩
end
section
variable {c : CfgM} {n N : Int} (h : sceOk c n) (hN : sceN c n = N) (b : Nat)
include h hN
theorem scePull1N_ct (m : MachA) (hm : ScM c (mayK (emitK (sceK1 c n) 0)) (sceD1 c n) (noteA zeroB 0) m) : Ct Tryz.prog 9 #[.pointer (some ⟨b, 0, none⟩), deedA dPull] [machG b m] (fun v L => ∃ g, v = .tuple #[.agg #[.slice (some ⟨g, 0, none⟩) 1 1, .slice none 0 0, .slice none 0 0, .int .u64 0], .int .i64 0] ∧ ∃ m, ScM c (mayK (emitK (sceK1 c n) 0)) (sceD2 c n (c.first - sceN c n)) bookD m ∧ L = [rowO (some ⟨g, 0, none⟩) 1 1 44 5 (segV ⟨0, 0, N, 0, false⟩), machG b m]) := by
  subst hN
  refine (scePull1_ct h b m hm).conv [] (fun hS => hS) ?_
  rintro v L ⟨g, rfl, m, hm, rfl⟩
  exact ⟨_, ⟨g, rfl, m, hm, rfl⟩, fun {w0 w F L} hS => Sep.toO hS⟩
theorem sceDoneN_ct (m : MachA) (hm : ScM c (mayK (emitK (sceK1 c n) 0)) (sceD2 c n (c.first - sceN c n)) bookD m) : Ct Tryz.prog 9 #[.pointer (some ⟨b, 0, none⟩), deedA (dDone N)] [machG b m] (fun v L => v = .tuple #[outA outZ, .int .i64 0] ∧ ∃ m k, Blk k ∧ k.mdl.rate = sRate c ∧ ScM c k (sceD2 c n (c.first - sceN c n)) bookD m ∧ L = [machG b m]) := by
  subst hN
  exact sceDone_ct h b m hm
end
set_option maxRecDepth 8000 in
set_option maxHeartbeats 16000000 in
theorem topRates_walk (w0 : World) (a0 : Int) (l0 : 0 ≤ a0) (u0 : a0 ≤ 18446744073709551615) (a1 : Int) (l1 : -9223372036854775808 ≤ a1) (u1 : a1 ≤ 9223372036854775807) (a2 : Int) (l2 : -9223372036854775808 ≤ a2) (u2 : a2 ≤ 9223372036854775807) :
    Calls Tryz.prog 3 #[.int .u64 a0, .int .i64 a1, .int .i64 a2] w0 (LawR w0) := by
  obtain ⟨r0, hr0⟩ : ∃ r, a0 % 1000000 = r := ⟨_, rfl⟩
  obtain ⟨r1, hr1⟩ : ∃ r, (IntKind.u64.wrap a1).tmod 40000 = r := ⟨_, rfl⟩
  obtain ⟨r2, hr2⟩ : ∃ r, (IntKind.u64.wrap a2).tmod 1000 = r := ⟨_, rfl⟩
  have b0 : 0 ≤ r0 ∧ r0 < 1000000 := by omega
  have b1 : 0 ≤ r1 ∧ r1 < 40000 := by
    have hw : 0 ≤ IntKind.u64.wrap a1 := by rw [IntKind.wrap_u64]; omega
    rw [Int.tmod_eq_emod_of_nonneg hw] at hr1; omega
  have b2 : 0 ≤ r2 ∧ r2 < 1000 := by
    have hw : 0 ≤ IntKind.u64.wrap a2 := by rw [IntKind.wrap_u64]; omega
    rw [Int.tmod_eq_emod_of_nonneg hw] at hr2; omega
  obtain ⟨b00, b01⟩ := b0
  obtain ⟨b10, b11⟩ := b1
  obtain ⟨b20, b21⟩ := b2
  have kP : Ct Tryz.prog 6 #[] [] (Gives (.agg #[.int .i64 3000, .int .i64 15000, .int .i64 100, .int .i64 50, .int .u64 10000000000, .int .u64 0, .bool false, .int .i64 100000, .int .i64 1000]) []) := plain_ct
  have hs : sceOk ⟨3000, 15000, 100, 50, 10000000000, 100000 + r0, false, 100000, 500 + r2⟩ (1 + r1) := by
    refine ⟨?_, ?_, ?_, ?_, ?_, ?_, ?_, ?_⟩
    · unfold mayOk; dsimp only; omega
    all_goals first | omega | (dsimp only; omega)
  obtain ⟨hN0, hN1⟩ := sce_Nb hs
  have kM := refMulDiv0_ct (100000 + r0)
  obtain ⟨N, hN⟩ : ∃ N, sceN ⟨3000, 15000, 100, 50, 10000000000, 100000 + r0, false, 100000, 500 + r2⟩ (1 + r1) = N := ⟨_, rfl⟩
  rw [hN] at hN0 hN1
  have hGN : ∀ (j : Nat) (v : Value), ([.int .i64 N] : List Value)[j]? = some v → (segV ⟨0, 0, N, 0, false⟩)[2 + j]? = some v := by intro j v hj; cases j <;> simp at hj; subst hj; rfl
  have A : Aside (_ ∧ _) := ⟨hs, hN⟩
  clear hs hN
  have hS := Sep.start w0 []
  unfold LawR
  go_enter Tryz.func3, Tryz.ntmps3
  go_wp2_with (first | go_skip | (refine ck_loadAll hS rfl rfl rfl (by (repeat (first | exact mH _ | apply mT)) <;> fail) rfl (by (try simp only [List.length_cons, List.length_nil, Nat.zero_add, Nat.reduceAdd]); decide +kernel) ?_; simp only [Act.put, spA, spZ, spS]) | (refine ck_storeAll hS rfl rfl rfl rfl (by (repeat (first | exact uH _ _ _ | apply uT)) <;> fail) (by rfl) rfl (by (try simp only [List.length_cons, List.length_nil, Nat.zero_add, Nat.reduceAdd]); decide +kernel) ?_; clear hS; intro w hS; simp only [Act.put, spA, spZ, spS]) | (refine ck_load hS rfl rfl rfl (by (repeat (first | exact mH _ | apply mT)) <;> fail) rfl (by decide +kernel) ?_; simp only [Act.put, spA, spZ, spS]) | (refine ck_store hS rfl rfl rfl (by constructor) (by (repeat (first | exact uH _ _ _ | apply uT)) <;> fail) (by simp <;> omega) rfl (by decide +kernel) ?_; clear hS; intro w hS; simp only [Act.put, spA, spZ, spS] at hS ⊢) | (go_at_call 6; with_reducible refine Ct.call0 (kP) hS ?_; clear hS; intro w hS) | (go_at_call 8; with_reducible refine Ct.call0 (awake_ct) hS ?_; clear hS; intro w hS) | (refine ck_alloc (t := 24) (v := cfgA cfgZ) (cs := cfgV cfgZ) hS rfl rfl (by kernel_rfl) rfl ?_; clear hS; intro x7 w hS; simp only [Act.put, spA, spZ, spS]) | (go_at_call 7; with_reducible refine Ct.callN (egNew_ct _ A.out.1.may) hS ?_; clear hS; rintro _ _ w ⟨b, cb, qb, lb, tb, lg, ab, la, aa, rfl, rfl⟩ hS; simp only [List.cons_append, List.nil_append] at hS) )
  go_at_call 9
  refine Ct.callP (sceOpen_ct b ⟨3000, 15000, 100, 50, 10000000000, 100000 + r0, false, 100000, 500 + r2⟩ cb qb lb tb lg ab la aa dOpen rfl rfl) (by (repeat (first | exact Takes.nil _ | (apply Takes.cons; ((repeat (first | exact rH _ _ | apply rT)) <;> fail))))) hS ?_
  clear hS
  rintro _ _ w ⟨rfl, m, hm, rfl⟩ hS
  simp only [List.cons_append, List.nil_append] at hS
  go_wp2_with (first | go_skip | (refine ck_load hS rfl rfl rfl (by (repeat (first | exact mH _ | apply mT)) <;> fail) rfl (by decide +kernel) ?_; simp only [Act.put, spA, spZ, spS]) | (refine ck_store hS rfl rfl rfl (by constructor) (by (repeat (first | exact uH _ _ _ | apply uT)) <;> fail) (by simp <;> omega) rfl (by decide +kernel) ?_; clear hS; intro w hS; simp only [Act.put, spA, spZ, spS] at hS ⊢) )
  go_at_call 9
  refine Ct.callP (sceSend_ct A.out.1 b m hm) (by (repeat (first | exact Takes.nil _ | (apply Takes.cons; ((repeat (first | exact rH _ _ | apply rT)) <;> fail))))) hS ?_
  clear hS
  rintro _ _ w ⟨rfl, m2, hm2, rfl⟩ hS
  simp only [List.cons_append, List.nil_append] at hS
  clear hm
  go_wp2_with (first | go_skip | (refine ck_load hS rfl rfl rfl (by (repeat (first | exact mH _ | apply mT)) <;> fail) rfl (by decide +kernel) ?_; simp only [Act.put, spA, spZ, spS]) | (refine ck_store hS rfl rfl rfl (by constructor) (by (repeat (first | exact uH _ _ _ | apply uT)) <;> fail) (by simp <;> omega) rfl (by decide +kernel) ?_; clear hS; intro w hS; simp only [Act.put, spA, spZ, spS] at hS ⊢) )
  refine wp_loop_rounds 3 ?_
  rw [rounds_succ]
  go_wp2_with (first | go_skip | (refine ck_load hS rfl rfl rfl (by (repeat (first | exact mH _ | apply mT)) <;> fail) rfl (by decide +kernel) ?_; simp only [Act.put, spA, spZ, spS]) | (refine ck_store hS rfl rfl rfl (by constructor) (by (repeat (first | exact uH _ _ _ | apply uT)) <;> fail) (by simp <;> omega) rfl (by decide +kernel) ?_; clear hS; intro w hS; simp only [Act.put, spA, spZ, spS] at hS ⊢) )
  go_at_call 9
  refine Ct.callP (scePull1N_ct A.out.1 A.out.2 b m2 hm2) (by (repeat (first | exact Takes.nil _ | (apply Takes.cons; ((repeat (first | exact rH _ _ | apply rT)) <;> fail))))) hS ?_
  clear hS
  rintro _ _ w ⟨g, rfl, m3, hm3, rfl⟩ hS
  simp only [List.cons_append, List.nil_append] at hS
  clear hm2
  have kNw := egNowG_ct b m3
  rw [show m3.now = 0 from hm3.2.2.1] at kNw
  have A2 : Aside (_ ∧ _) := ⟨hm3, A⟩
  clear hm3 A
  go_wp2_with (first | go_skip | (refine ck_cel1 (hS.celO (off := 0) (k := 2) (by (repeat (first | exact mH _ | apply mT)) <;> fail) rfl hGN) rfl rfl rfl (by decide +kernel) ?_; simp only [Act.put, spA, spZ, spS]) | (refine ck_loadAll hS rfl rfl rfl (by (repeat (first | exact mH _ | apply mT)) <;> fail) rfl (by (try simp only [List.length_cons, List.length_nil, Nat.zero_add, Nat.reduceAdd]); decide +kernel) ?_; simp only [Act.put, spA, spZ, spS]) | (refine ck_storeAll hS rfl rfl rfl rfl (by (repeat (first | exact uH _ _ _ | apply uT)) <;> fail) (by rfl) rfl (by (try simp only [List.length_cons, List.length_nil, Nat.zero_add, Nat.reduceAdd]); decide +kernel) ?_; clear hS; intro w hS; simp only [Act.put, spA, spZ, spS]) | (refine ck_load hS rfl rfl rfl (by (repeat (first | exact mH _ | apply mT)) <;> fail) rfl (by decide +kernel) ?_; simp only [Act.put, spA, spZ, spS]) | (refine ck_store hS rfl rfl rfl (by constructor) (by (repeat (first | exact uH _ _ _ | apply uT)) <;> fail) (by simp <;> omega) rfl (by decide +kernel) ?_; clear hS; intro w hS; simp only [Act.put, spA, spZ, spS] at hS ⊢) | (refine ck_alloc (t := 35) (v := outA outZ) (cs := outV outZ) hS rfl rfl (by kernel_rfl) rfl ?_; clear hS; intro x14 w hS; simp only [Act.put, spA, spZ, spS]) | (go_at_call 10; refine Ct.callP (kNw) (by (repeat (first | exact Takes.nil _ | (apply Takes.cons; ((repeat (first | exact rH _ _ | apply rT)) <;> fail))))) hS ?_; clear hS; rintro _ _ w ⟨rfl, rfl⟩ hS; simp only [List.cons_append, List.nil_append] at hS) | (go_at_call 11; with_reducible refine Ct.call0 (kM) hS ?_; clear hS; intro w hS) )
  go_at_call 9
  refine Ct.callP (sceDoneN_ct A2.out.2.out.1 A2.out.2.out.2 b m3 A2.out.1) (by (repeat (first | exact Takes.nil _ | (apply Takes.cons; ((repeat (first | exact rH _ _ | apply rT)) <;> fail))))) hS ?_
  clear hS
  rintro _ _ w ⟨rfl, m4, k4, hk4, hmd4, hm4, rfl⟩ hS
  simp only [List.cons_append, List.nil_append] at hS
  have A3 : Aside (_ ∧ _ ∧ _ ∧ _) := ⟨hk4, hmd4, hm4, A2⟩
  clear hk4 hmd4 hm4 A2
  go_wp2_with (first | go_skip | (refine ck_load hS rfl rfl rfl (by (repeat (first | exact mH _ | apply mT)) <;> fail) rfl (by decide +kernel) ?_; simp only [Act.put, spA, spZ, spS]) | (refine ck_store hS rfl rfl rfl (by constructor) (by (repeat (first | exact uH _ _ _ | apply uT)) <;> fail) (by simp <;> omega) rfl (by decide +kernel) ?_; clear hS; intro w hS; simp only [Act.put, spA, spZ, spS] at hS ⊢) | (with_reducible rw [rounds_succ]))
  go_at_call 9
  refine Ct.callP (scePull2_ct A3.out.2.2.2.out.2.out.1 b m4 k4 A3.out.1 A3.out.2.1 A3.out.2.2.1) (by (repeat (first | exact Takes.nil _ | (apply Takes.cons; ((repeat (first | exact rH _ _ | apply rT)) <;> fail))))) hS ?_
  clear hS
  rintro _ _ w ⟨rfl, m5, hm5, rfl⟩ hS
  simp only [List.cons_append, List.nil_append] at hS
  clear hm5 A3
  go_wp2_with (first | go_skip | (refine ck_loadAll hS rfl rfl rfl (by (repeat (first | exact mH _ | apply mT)) <;> fail) rfl (by (try simp only [List.length_cons, List.length_nil, Nat.zero_add, Nat.reduceAdd]); decide +kernel) ?_; simp only [Act.put, spA, spZ, spS]) | (refine ck_storeAll hS rfl rfl rfl rfl (by (repeat (first | exact uH _ _ _ | apply uT)) <;> fail) (by rfl) rfl (by (try simp only [List.length_cons, List.length_nil, Nat.zero_add, Nat.reduceAdd]); decide +kernel) ?_; clear hS; intro w hS; simp only [Act.put, spA, spZ, spS]) | (refine ck_load hS rfl rfl rfl (by (repeat (first | exact mH _ | apply mT)) <;> fail) rfl (by decide +kernel) ?_; simp only [Act.put, spA, spZ, spS]) | (refine ck_store hS rfl rfl rfl (by constructor) (by (repeat (first | exact uH _ _ _ | apply uT)) <;> fail) (by simp <;> omega) rfl (by decide +kernel) ?_; clear hS; intro w hS; simp only [Act.put, spA, spZ, spS] at hS ⊢) | (refine ck_alloc (t := 35) (v := outA outZ) (cs := outV outZ) hS rfl rfl (by kernel_rfl) rfl ?_; clear hS; intro x15 w hS; simp only [Act.put, spA, spZ, spS]) )
  go_ret
  exact ⟨[], rfl, hS.dropN 100⟩
namespace topRates
open Go.ChangeShapes Go.WideShapes Go.ChangeAt Go.RowKit
open Go.ChangeMaps (open_string shut_string)
theorem own : ownKnob Tryz.prog.godebug = none := by kernel_rfl
theorem laidOut : laidOutB Tryz.prog = true := by kernel_rfl
set_option maxRecDepth 100000 in
theorem lifted (os : Os) (started : os.Started) (H : Type) (enc : TypeId × Value → H) :
    ReturnsInHanded {} Tryz.checked os 3 .any (Rows.topRatesSpec.pre6 enc Tryz.prog Tryz.f3 Rows.topRatesRow.domain false) (Rows.topRatesSpec.post enc Tryz.prog Tryz.f3 false true false false) := by
  refine returnsInHanded_of_change (C := Tryz.checked) own started (by kernel_rfl) Tryz.func3
    (ChangeSpec.witness6 (enc := enc) (C := Tryz.checked) false ⟨#[], #[.int .u64 0, .int .i64 0, .int .i64 0], []⟩ 8 (by kernel_rfl) (by kernel_rfl) (by kernel_rfl) (by kernel_rfl)) ?_
  intro W base args ds gs before hval0 hW hcnd _
  have hval : ∀ (j : Nat) t v, Tryz.f3.params[j]? = some t → args[j]? = some v → Value.okWide Tryz.prog W .any base t v := hval0
  have hW' := hW
  obtain ⟨p, q, hA0, hV, rfl, hfz, hnd⟩ := hW
  have hA : DataW.TrodAll enc Tryz.prog W 0 (fun _ => true) true Tryz.f3.params.toList args.toList ds p := hA0
  rw [Tryz.params3] at hA hval
  obtain ⟨v0, vs0, d0, ds0, p0, q0, hargs, rfl, rfl, h0, r0⟩ := trodAll_cons hA
  obtain ⟨v1, vs1, d1, ds1, p1, q1, rfl, rfl, rfl, h1, r1⟩ := trodAll_cons r0
  obtain ⟨v2, vs2, d2, ds2, p2, q2, rfl, rfl, rfl, h2, r2⟩ := trodAll_cons r1
  obtain ⟨rfl, rfl, rfl⟩ := trodAll_nil r2
  obtain rfl : args = #[v0, v1, v2] := by cases args; simp_all
  obtain ⟨rfl, rfl⟩ := trodVars_none hV
  obtain ⟨a0, rfl, rfl, rfl, w0⟩ := open_int Tryz.underlying22 (hval 0 22 v0 rfl rfl) h0
  obtain ⟨a1, rfl, rfl, rfl, w1⟩ := open_int Tryz.underlying3 (hval 1 3 v1 rfl rfl) h1
  obtain ⟨a2, rfl, rfl, rfl, w2⟩ := open_int Tryz.underlying3 (hval 2 3 v2 rfl rfl) h2
  clear hA0 hval0
  refine (topRates_walk W a0 (wf_u64 w0).1 (wf_u64 w0).2 a1 (wf_i64 w1).1 (wf_i64 w1).2 a2 (wf_i64 w2).1 (wf_i64 w2).2).mono fun e W' hR => ?_
  obtain ⟨he, bel⟩ := LawR.out hR
  subst he
  exact ⟨_, rfl, _, _, _, [], _, [], hW', trodAll_mk1 (shut_bool Tryz.underlying4 _), (trodAll_cons_mk (shut_int Tryz.underlying22 w0) (trodAll_cons_mk (shut_int Tryz.underlying3 w1) (trodAll_cons_mk (shut_int Tryz.underlying3 w2) trodAll_mk0))), rfl, bel.frame _, fun h => by cases h⟩
theorem over : Rows.topRatesRow.holds Tryz.pinned (OpenSpec.ofChange Rows.topRatesSpec) :=
  OpenClaim.holds_of_wide 3 Tryz.f3 rfl rfl rfl rfl rfl rfl rfl ⟨rfl, rfl, rfl, rfl, rfl⟩ rfl rfl rfl rfl rfl (by kernel_rfl) Tryz.func3 (by kernel_rfl)
    (of_decide_eq_true (by kernel_rfl)) (by unfold Func.isWrapper; first | (rw [if_pos (by decide +kernel)]; kernel_rfl) | (rw [if_neg (by decide +kernel)]; exact ⟨rfl, rfl⟩))
    (fun os started H enc _ => lifted os started H enc)
theorem proved : Rows.TopRatesSaid := over
#print axioms proved
end topRates
end Go.Proofs.YtcegknecikbbkaaGreat
