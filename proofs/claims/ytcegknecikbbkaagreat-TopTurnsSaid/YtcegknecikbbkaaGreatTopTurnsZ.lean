/- TopTurns: for every config, all sizes, and all numbers the law answers true; no condition. -/
import Derived.Test.YtcegknecikbbkaaGreatRows
import Derived.WalkKit
import Derived.WalkSpells
import Derived.WalkLawsBesides
import Derived.WalkMore
import Derived.Deep.LoopGhost
import Derived.Test.YtcegknecikbbkaaGreatTopTurnsM1
import Derived.Test.YtcegknecikbbkaaGreatTopTurnsM2
import Derived.Test.YtcegknecikbbkaaGreatTopTurnsM3
import Derived.Test.YtcegknecikbbkaaGreatTopTurnsM4
import Derived.Test.YtcegknecikbbkaaGreatTopTurnsM5
import Derived.Test.YtcegknecikbbkaaGreatTopTurnsM6
set_option linter.unusedVariables false
set_option linter.unusedSimpArgs false
set_option maxRecDepth 4000
namespace Go.Proofs.YtcegknecikbbkaaGreat
open Go.RowKit
abbrev turnT (ab : Nat) (aa : AA) : TrA := ⟨ab, aa, none, 0, [], 0, 0, [], []⟩
set_option maxRecDepth 20000 in
set_option maxHeartbeats 32000000 in
theorem topTurns_walk (w0 : World) (a0 : CfgM) (wf0 : cfgWf a0) (a1 : Option Addr) (len1 cap1 : Nat) (z1 : List (List Value)) (s1 : ArgSl w0 [.int .i64] a1 len1 z1) (a2 : Int) (l2 : -9223372036854775808 ≤ a2) (u2 : a2 ≤ 9223372036854775807)
    (a3 : Int) (l3 : -9223372036854775808 ≤ a3) (u3 : a3 ≤ 9223372036854775807) (a4 : Int) (l4 : -9223372036854775808 ≤ a4) (u4 : a4 ≤ 9223372036854775807) (a5 : Int) (l5 : -9223372036854775808 ≤ a5) (u5 : a5 ≤ 9223372036854775807) :
    Calls Tryz.prog 5 #[cfgA a0, .slice a1 len1 cap1, .int .i64 a2, .int .i64 a3, .int .i64 a4, .int .i64 a5] w0 (LawR w0) := by
  obtain ⟨sz, hsz, hcl⟩ := size_ex w0 a1 len1 cap1 z1 s1
  clear s1
  have hmodN : ∀ (a m : Int), 0 < m → ∃ n : Nat, (IntKind.u64.wrap a).tmod m = (n : Int) ∧ (n : Int) < m := by
    intro a m hm
    have hw : 0 ≤ IntKind.u64.wrap a := by rw [IntKind.wrap_u64]; omega
    refine ⟨((IntKind.u64.wrap a).tmod m).toNat, ?_, ?_⟩
    · rw [Int.tmod_eq_emod_of_nonneg hw]
      have := Int.emod_nonneg (IntKind.u64.wrap a) (show m ≠ 0 by omega)
      omega
    · rw [Int.tmod_eq_emod_of_nonneg hw]
      have := Int.emod_lt_of_pos (IntKind.u64.wrap a) hm
      have := Int.emod_nonneg (IntKind.u64.wrap a) (show m ≠ 0 by omega)
      omega
  obtain ⟨P, hP, hP4⟩ := hmodN a2 400 (by omega)
  obtain ⟨fv, hfv, hfv1⟩ := hmodN a3 100 (by omega)
  obtain ⟨A, hA, hA8⟩ := hmodN a4 8 (by omega)
  obtain ⟨B, hB, hB8⟩ := hmodN a5 8 (by omega)
  clear hmodN
  have hpc := playC_ok a0
  have hph : 0 ≤ (playC a0).horizon := by
    show 0 ≤ (if a0.horizon ≤ 4611686018427387904 then a0.horizon else 10000000000)
    have := wf0.h.1
    split <;> omega
  have kP := play_ct a0
  generalize playC a0 = pc at *
  obtain ⟨pq, pf, pl, pfl, ph, pmr, pdh, pcp, pms⟩ := pc
  obtain ⟨p1, p2, p3, p4, -, -, -, -, p9, p10, p11, p12, p13⟩ := hpc
  dsimp only at p1 p2 p3 p4 p9 p10 p11 p12 p13 hph
  have hmay : mayOk ⟨pq, pf, 512, 60, ph, 0, pdh, pcp, pms⟩ := ⟨p1, p2, p3, p4, by show (1 : Int) ≤ 512; omega, by show (512 : Int) ≤ 512; omega, by show (1 : Int) ≤ 60; omega, by show (60 : Int) ≤ 512; omega, p9, p10, p11, p12, p13⟩
  have hTC : TC ⟨pq, pf, 512, 60, ph, 0, pdh, pcp, pms⟩ := ⟨p1, p2, p3, p4, hph, rfl, rfl, rfl⟩
  have hX : Aside (_ ∧ _ ∧ _ ∧ _) := ⟨hsz, hcl, hmay, hTC⟩
  have hph1 : ph ≤ 18446744073709551615 := by omega
  clear hsz hcl hmay hTC wf0 p9 p10 p11 p12 p13
  by_cases hab : A = B
  · subst hab
    have hS := Sep.start w0 []
    unfold LawR
    go_enter Tryz.func5, Tryz.ntmps5
    go_wp2_with (first | go_skip | (refine ck_loadAll hS rfl rfl rfl (by (repeat (first | exact mH _ | apply mT)) <;> fail) rfl (by (try simp only [List.length_cons, List.length_nil, Nat.zero_add, Nat.reduceAdd]); decide +kernel) ?_; simp only [Act.put, spA, spZ, spS]) | (refine ck_storeAll hS rfl rfl rfl rfl (by (repeat (first | exact uH _ _ _ | apply uT)) <;> fail) (by rfl) rfl (by (try simp only [List.length_cons, List.length_nil, Nat.zero_add, Nat.reduceAdd]); decide +kernel) ?_; clear hS; intro w hS; simp only [Act.put, spA, spZ, spS]) | (have h1 := x6; clear h1; (refine ck_box hS rfl rfl (by constructor) ?_; clear hS; intro x7 w hS; simp only [Act.put, spA, spZ, spS])) | (refine ck_box hS rfl rfl (by constructor) ?_; clear hS; intro x6 w hS; simp only [Act.put, spA, spZ, spS]) | (refine ck_load hS rfl rfl rfl (by (repeat (first | exact mH _ | apply mT)) <;> fail) rfl (by decide +kernel) ?_; simp only [Act.put, spA, spZ, spS]) | (refine ck_store hS rfl rfl rfl (by constructor) (by (repeat (first | exact uH _ _ _ | apply uT)) <;> fail) (by simp <;> omega) rfl (by decide +kernel) ?_; clear hS; intro w hS; simp only [Act.put, spA, spZ, spS] at hS ⊢) | (refine ck_box hS rfl rfl (by constructor) ?_; clear hS; intro nb w hS; simp only [Act.put, spA, spZ, spS]) | (refine ck_max rfl rfl rfl rfl ?_; simp only [Act.put, spA, spZ, spS]) | (refine ck_min rfl rfl rfl rfl ?_; simp only [Act.put, spA, spZ, spS]) | (go_at_call 12; with_reducible refine Ct.call0 (kP) hS ?_; clear hS; intro w hS) | (go_at_call 8; with_reducible refine Ct.call0 (awake_ct) hS ?_; clear hS; intro w hS) | (go_at_call 19; with_reducible refine Ct.callN (qnew_ct ⟨pq, pf, 512, 60, ph, 0, pdh, pcp, pms⟩ hX.out.2.2.1) hS ?_; clear hS; rintro _ _ w ⟨b, lb, tb, la, ab, aa, rfl, rfl⟩ hS; simp only [List.cons_append, List.nil_append] at hS) )
    go_ret
    exact ⟨[], rfl, hS.dropN 100⟩
  · have hab' : ((A : Int) == (B : Int)) = false := by simp; omega
    have hS := Sep.start w0 []
    unfold LawR
    go_enter Tryz.func5, Tryz.ntmps5
    go_wp2_with (first | go_skip | (refine ck_loadAll hS rfl rfl rfl (by (repeat (first | exact mH _ | apply mT)) <;> fail) rfl (by (try simp only [List.length_cons, List.length_nil, Nat.zero_add, Nat.reduceAdd]); decide +kernel) ?_; simp only [Act.put, spA, spZ, spS]) | (refine ck_storeAll hS rfl rfl rfl rfl (by (repeat (first | exact uH _ _ _ | apply uT)) <;> fail) (by rfl) rfl (by (try simp only [List.length_cons, List.length_nil, Nat.zero_add, Nat.reduceAdd]); decide +kernel) ?_; clear hS; intro w hS; simp only [Act.put, spA, spZ, spS]) | (have h1 := x6; clear h1; (refine ck_box hS rfl rfl (by constructor) ?_; clear hS; intro x7 w hS; simp only [Act.put, spA, spZ, spS])) | (refine ck_box hS rfl rfl (by constructor) ?_; clear hS; intro x6 w hS; simp only [Act.put, spA, spZ, spS]) | (refine ck_load hS rfl rfl rfl (by (repeat (first | exact mH _ | apply mT)) <;> fail) rfl (by decide +kernel) ?_; simp only [Act.put, spA, spZ, spS]) | (refine ck_store hS rfl rfl rfl (by constructor) (by (repeat (first | exact uH _ _ _ | apply uT)) <;> fail) (by simp <;> omega) rfl (by decide +kernel) ?_; clear hS; intro w hS; simp only [Act.put, spA, spZ, spS] at hS ⊢) | (refine ck_box hS rfl rfl (by constructor) ?_; clear hS; intro nb w hS; simp only [Act.put, spA, spZ, spS]) | (refine ck_max rfl rfl rfl rfl ?_; simp only [Act.put, spA, spZ, spS]) | (refine ck_min rfl rfl rfl rfl ?_; simp only [Act.put, spA, spZ, spS]) | (go_at_call 12; with_reducible refine Ct.call0 (kP) hS ?_; clear hS; intro w hS) | (go_at_call 8; with_reducible refine Ct.call0 (awake_ct) hS ?_; clear hS; intro w hS) | (go_at_call 19; with_reducible refine Ct.callN (qnew_ct ⟨pq, pf, 512, 60, ph, 0, pdh, pcp, pms⟩ hX.out.2.2.1) hS ?_; clear hS; rintro _ _ w ⟨b, lb, tb, la, ab, aa, rfl, rfl⟩ hS; simp only [List.cons_append, List.nil_append] at hS) )
    go_loopg [16, 17, 18, 19, 20] (P + 1) (fun g s16 s17 s18 s19 s20 wx => ∃ (i put : Nat) (Lg x y : Int) (q : QA), i + g = P + 1 ∧ i ≤ P ∧ s16 = .int .i64 put ∧ s17 = .int .i64 Lg ∧ s18 = .int .i64 x ∧ s19 = .int .i64 y ∧ s20 = .int .i64 i ∧ q.c = ⟨pq, pf, 512, 60, ph, 0, pdh, pcp, pms⟩ ∧ q.lb = lb ∧ q.tb = tb ∧ THead ⟨pq, pf, 512, 60, ph, 0, pdh, pcp, pms⟩ A B fv i put Lg x y (absQ q) ∧ Sep w0 [] [queueG b q, treeG tb (turnT ab aa), pts x6 (cfgV ⟨pq, pf, 512, 60, ph, 0, pdh, pcp, pms⟩) 24, pts x7 [.slice a1 len1 cap1] 33] wx)
    case atStart => exact ⟨0, 0, 0, 0, 0, ⟨⟨pq, pf, 512, 60, ph, 0, pdh, pcp, pms⟩, List.replicate 8 none, lb, tb, [], [], la, 0⟩, by omega, by omega, by go_num, by go_num, by go_num, by go_num, by go_num, rfl, rfl, rfl, THead.init A B fv, hS.pick (by (repeat (first | exact Pick.refl _ | (apply Pick.take; ((repeat (first | exact rH _ _ | apply rT)) <;> fail)) | (apply Pick.drop))))⟩
    case round =>
      clear hS
      obtain ⟨i, put, Lg, x, y, q, hig, hiP, rfl, rfl, rfl, rfl, rfl, hqc, hql, hqt, hH, hS⟩ := hrel
      generalize wr = w at hS ⊢
      by_cases hi : i < P
      · have hi' : (i : Int) < P := by omega
        have hput := hH.put
        have hK0 : Aside _ := hH.kinv
        have A2 : Aside _ := hH
        clear hH
        go_wp2_with (first | go_skip | (refine ck_load hS rfl rfl rfl (by (repeat (first | exact mH _ | apply mT)) <;> fail) rfl (by decide +kernel) ?_; simp only [Act.put, spA, spZ, spS]) | (refine ck_store hS rfl rfl rfl (by constructor) (by (repeat (first | exact uH _ _ _ | apply uT)) <;> fail) (by simp <;> omega) rfl (by decide +kernel) ?_; clear hS; intro w hS; simp only [Act.put, spA, spZ, spS] at hS ⊢) | (refine ck_box hS rfl rfl (by constructor) ?_; clear hS; intro nb w hS; simp only [Act.put, spA, spZ, spS]) | (refine ck_max rfl rfl rfl rfl ?_; simp only [Act.put, spA, spZ, spS]) | (refine ck_min rfl rfl rfl rfl ?_; simp only [Act.put, spA, spZ, spS]) )
        go_loopg [16, 17, 21] 9 (fun g s16 s17 s21 wx => ∃ (k pk : Nat) (Lk : Int) (q1 : QA), k + g = 9 ∧ k ≤ 8 ∧ s16 = .int .i64 pk ∧ s17 = .int .i64 Lk ∧ s21 = .int .i64 k ∧ pk ≤ put + 2 * k ∧ q1.c = ⟨pq, pf, 512, 60, ph, 0, pdh, pcp, pms⟩ ∧ q1.lb = lb ∧ q1.tb = tb ∧ KInv ⟨pq, pf, 512, 60, ph, 0, pdh, pcp, pms⟩ A B i k Lk Lg (absQ q) (absQ q1) ∧ Sep w0 [] [queueG b q1, treeG tb (turnT ab aa), pts x6 (cfgV ⟨pq, pf, 512, 60, ph, 0, pdh, pcp, pms⟩) 24, pts x7 [.slice a1 len1 cap1] 33] wx)
        case atStart => exact ⟨0, put, Lg, q, by omega, by omega, rfl, rfl, by go_num, by omega, hqc, hql, hqt, hK0.out, hS.pick (by (repeat (first | exact Pick.refl _ | (apply Pick.take; ((repeat (first | exact rH _ _ | apply rT)) <;> fail)) | (apply Pick.drop))))⟩
        case round =>
          clear hS hK0
          obtain ⟨k, pk, Lk, q1, hkg, hk8, rfl, rfl, rfl, hpk, hc1, hl1, ht1, hK, hS⟩ := hrel
          generalize wr = w at hS ⊢
          by_cases hk : k < 8
          · have hk' : (k : Int) < 8 := by omega
            have hL9 := hK.l9
            have hL0 := hK.le
            have hLg := A2.out.L0
            have kF := qflowLen_ct b q1 (hK.tw.dOk hX.out.2.2.2 (by omega) hL9) k hk
            obtain ⟨ln, hln⟩ : ∃ ln, (segsM (((absQ q1).fm[k]?).getD none)).length = ln := ⟨_, rfl⟩
            have hln2 : ln ≤ 2 := by
              obtain ⟨o, ho⟩ : ∃ o, (absQ q1).fm[k]? = some o := ⟨_, List.getElem?_eq_getElem (by rw [hK.tw.len]; exact hk)⟩
              have h1 := (hK.tw.seg2 o (List.mem_of_getElem? ho)).2
              rw [ho, Option.getD_some] at hln
              unfold segN at h1
              omega
            rw [hln] at kF
            have AK : Aside (_ ∧ _) := ⟨hK, hln⟩
            clear hK hln
            by_cases hkA : k = A
            · have e1 : ((k : Int) == (A : Int)) = true := by simp; omega
              clear hkA
              go_wp2_with (first | go_skip | (refine ck_storeAll hS rfl rfl rfl rfl (by (repeat (first | exact uH _ _ _ | apply uT)) <;> fail) (by rfl) rfl (by (try simp only [List.length_cons, List.length_nil, Nat.zero_add, Nat.reduceAdd]); decide +kernel) ?_; clear hS; intro w hS; simp only [Act.put, spA, spZ, spS]) | (refine ck_load hS rfl rfl rfl (by (repeat (first | exact mH _ | apply mT)) <;> fail) rfl (by decide +kernel) ?_; simp only [Act.put, spA, spZ, spS]) | (refine ck_store hS rfl rfl rfl (by constructor) (by (repeat (first | exact uH _ _ _ | apply uT)) <;> fail) (by simp <;> omega) rfl (by decide +kernel) ?_; clear hS; intro w hS; simp only [Act.put, spA, spZ, spS] at hS ⊢) | (refine ck_box hS rfl rfl (by constructor) ?_; clear hS; intro nb w hS; simp only [Act.put, spA, spZ, spS]) | (refine ck_max rfl rfl rfl rfl ?_; simp only [Act.put, spA, spZ, spS]) | (refine ck_min rfl rfl rfl rfl ?_; simp only [Act.put, spA, spZ, spS]) | (go_at_call 21; refine Ct.callP (kF) (by (repeat (first | exact Takes.nil _ | (apply Takes.cons; ((repeat (first | exact rH _ _ | apply rT)) <;> fail))))) hS ?_; clear hS; rintro _ _ w ⟨z, cr, pl, nx, si, ad, cp, bb, rfl, rfl⟩ hS; simp only [List.cons_append, List.nil_append] at hS) | (refine ck_alloc (t := 62) (v := .agg (tolV 0 0 0 0 0 none 0 0).toArray) (cs := tolV 0 0 0 0 0 none 0 0) hS rfl rfl (by kernel_rfl) rfl ?_; clear hS; intro x22 w hS; simp only [Act.put, spA, spZ, spS]) )
              go_loopg [16, 17, 25] 3 (fun g s16 s17 s25 wx => ∃ (n pu : Nat) (Ln : Int) (q2 : QA), 3 ≤ g + n ∧ n ≤ 2 ∧ s16 = .int .i64 pu ∧ s17 = .int .i64 Ln ∧ s25 = .int .i64 n ∧ pu ≤ put + 2 * k + n ∧ q2.c = ⟨pq, pf, 512, 60, ph, 0, pdh, pcp, pms⟩ ∧ q2.lb = lb ∧ q2.tb = tb ∧ (segsM (((absQ q2).fm[k]?).getD none)).length = n ∧ KInv ⟨pq, pf, 512, 60, ph, 0, pdh, pcp, pms⟩ A B i k Ln Lg (absQ q) (absQ q2) ∧ Sep w0 [] [queueG b q2, treeG tb (turnT ab aa), pts x6 (cfgV ⟨pq, pf, 512, 60, ph, 0, pdh, pcp, pms⟩) 24, pts x7 [.slice a1 len1 cap1] 33] wx)
              case atStart => exact ⟨ln, pk, Lk, q1, by omega, hln2, rfl, rfl, rfl, by omega, hc1, hl1, ht1, AK.out.2, AK.out.1, hS.pick (by (repeat (first | exact Pick.refl _ | (apply Pick.take; ((repeat (first | exact rH _ _ | apply rT)) <;> fail)) | (apply Pick.drop))))⟩
              clear kF AK
              case round =>
                clear hS
                obtain ⟨n, pu, Ln, q2, hng, hn2, rfl, rfl, rfl, hpu, hc2, hl2, ht2, hsl, hK, hS⟩ := hrel
                generalize wr = w at hS ⊢
                by_cases hn : n < 2
                · have hn' : (n : Int) < 2 := by omega
                  have hz := hX.out.1 pu
                  have hcs := fun w L hS hm => hX.out.2.1 pu (by omega) x7 w L hS hm
                  obtain ⟨ds2, he2, hK2, hs2⟩ := hK.enq hX.out.2.2.2 (by omega) n hn hsl (sz pu) hz.1 hz.2
                  have hLn := hK.l9
                  have hLn0 := hK.le
                  have kE := qenq_ct b q2 ⟨k, 0, sz pu, 0, false⟩ 0 (hK.tw.dOk hX.out.2.2.2 (by omega) hLn) hK.tw.dIn ⟨by show (0 : Int) ≤ k; omega, by show (k : Int) < 8; omega, by show 1 ≤ sz pu; omega, by show sz pu ≤ 65536; omega⟩ (by omega) (by omega) (by rw [hc2]; exact hph) (by rw [hc2]; show ph ≤ _; omega) hK.tw.nbd.1
                  rw [hc2, he2] at kE
                  dsimp only at kE
                  obtain ⟨z1, z2⟩ := hz
                  have A4 : Aside (_ ∧ _) := ⟨hK2, hs2⟩
                  clear hK2 hs2 hK hsl he2
                  generalize sz pu = zv at *
                  go_wp2_with (first | go_skip  | (refine ck_load hS rfl rfl rfl (by (repeat (first | exact mH _ | apply mT)) <;> fail) rfl (by decide +kernel) ?_; simp only [Act.put, spA, spZ, spS]) | (refine ck_store hS rfl rfl rfl (by constructor) (by (repeat (first | exact uH _ _ _ | apply uT)) <;> fail) (by simp <;> omega) rfl (by decide +kernel) ?_; clear hS; intro w hS; simp only [Act.put, spA, spZ, spS] at hS ⊢) | (refine ck_box hS rfl rfl (by constructor) ?_; clear hS; intro nb w hS; simp only [Act.put, spA, spZ, spS]) | (refine ck_max rfl rfl rfl rfl ?_; simp only [Act.put, spA, spZ, spS]) | (refine ck_min rfl rfl rfl rfl ?_; simp only [Act.put, spA, spZ, spS])  | (go_at_call 20; refine Ct.out (hcs _ _ hS (by (repeat (first | exact mH _ | apply mT)) <;> fail)) ?_; clear hS; intro w hS) | (go_at_call 22; refine Ct.callP (kE) (by (repeat (first | exact Takes.nil _ | (apply Takes.cons; ((repeat (first | exact rH _ _ | apply rT)) <;> fail))))) hS ?_; clear hS; rintro _ _ w ⟨rfl, q3, hq3, hc3, hl3, ht3, rfl⟩ hS; simp only [List.cons_append, List.nil_append] at hS))
                  go_roundg (2 - n)
                  case rel => exact ⟨n + 1, pu + 1, max Ln zv, q3, by omega, by omega, by go_num, rfl, by go_num, by omega, hc3, hl3.trans hl2, ht3.trans ht2, by rw [hq3]; exact A4.out.2, by rw [hq3]; exact A4.out.1, hS.pick (by (repeat (first | exact Pick.refl _ | (apply Pick.take; ((repeat (first | exact rH _ _ | apply rT)) <;> fail)) | (apply Pick.drop))))⟩
                  case measure => omega
                · have hn' : ¬ ((n : Int) < 2) := by omega
                  have A4 : Aside _ := hK.next (fun _ => by omega)
                  clear hK hsl
                  go_wp2_with (first | go_skip | (refine ck_load hS rfl rfl rfl (by (repeat (first | exact mH _ | apply mT)) <;> fail) rfl (by decide +kernel) ?_; simp only [Act.put, spA, spZ, spS]) | (refine ck_store hS rfl rfl rfl (by constructor) (by (repeat (first | exact uH _ _ _ | apply uT)) <;> fail) (by simp <;> omega) rfl (by decide +kernel) ?_; clear hS; intro w hS; simp only [Act.put, spA, spZ, spS] at hS ⊢) | (refine ck_box hS rfl rfl (by constructor) ?_; clear hS; intro nb w hS; simp only [Act.put, spA, spZ, spS]) | (refine ck_max rfl rfl rfl rfl ?_; simp only [Act.put, spA, spZ, spS]) | (refine ck_min rfl rfl rfl rfl ?_; simp only [Act.put, spA, spZ, spS]) )
                  go_roundg (8 - k)
                  case rel => exact ⟨k + 1, pu, Ln, q2, by omega, by omega, rfl, rfl, by go_num, by omega, hc2, hl2, ht2, A4.out, hS.pick (by (repeat (first | exact Pick.refl _ | (apply Pick.take; ((repeat (first | exact rH _ _ | apply rT)) <;> fail)) | (apply Pick.drop))))⟩
                  case measure => omega
            · have e1 : ((k : Int) == (A : Int)) = false := by simp; omega
              by_cases hkB : k = B
              · have e2 : ((k : Int) == (B : Int)) = true := by simp; omega
                clear hkB
                go_wp2_with (first | go_skip | (refine ck_storeAll hS rfl rfl rfl rfl (by (repeat (first | exact uH _ _ _ | apply uT)) <;> fail) (by rfl) rfl (by (try simp only [List.length_cons, List.length_nil, Nat.zero_add, Nat.reduceAdd]); decide +kernel) ?_; clear hS; intro w hS; simp only [Act.put, spA, spZ, spS]) | (refine ck_load hS rfl rfl rfl (by (repeat (first | exact mH _ | apply mT)) <;> fail) rfl (by decide +kernel) ?_; simp only [Act.put, spA, spZ, spS]) | (refine ck_store hS rfl rfl rfl (by constructor) (by (repeat (first | exact uH _ _ _ | apply uT)) <;> fail) (by simp <;> omega) rfl (by decide +kernel) ?_; clear hS; intro w hS; simp only [Act.put, spA, spZ, spS] at hS ⊢) | (refine ck_box hS rfl rfl (by constructor) ?_; clear hS; intro nb w hS; simp only [Act.put, spA, spZ, spS]) | (refine ck_max rfl rfl rfl rfl ?_; simp only [Act.put, spA, spZ, spS]) | (refine ck_min rfl rfl rfl rfl ?_; simp only [Act.put, spA, spZ, spS]) | (go_at_call 21; refine Ct.callP (kF) (by (repeat (first | exact Takes.nil _ | (apply Takes.cons; ((repeat (first | exact rH _ _ | apply rT)) <;> fail))))) hS ?_; clear hS; rintro _ _ w ⟨z, cr, pl, nx, si, ad, cp, bb, rfl, rfl⟩ hS; simp only [List.cons_append, List.nil_append] at hS) | (refine ck_alloc (t := 62) (v := .agg (tolV 0 0 0 0 0 none 0 0).toArray) (cs := tolV 0 0 0 0 0 none 0 0) hS rfl rfl (by kernel_rfl) rfl ?_; clear hS; intro x22 w hS; simp only [Act.put, spA, spZ, spS]) )
                go_loopg [16, 17, 25] 3 (fun g s16 s17 s25 wx => ∃ (n pu : Nat) (Ln : Int) (q2 : QA), 3 ≤ g + n ∧ n ≤ 2 ∧ s16 = .int .i64 pu ∧ s17 = .int .i64 Ln ∧ s25 = .int .i64 n ∧ pu ≤ put + 2 * k + n ∧ q2.c = ⟨pq, pf, 512, 60, ph, 0, pdh, pcp, pms⟩ ∧ q2.lb = lb ∧ q2.tb = tb ∧ (segsM (((absQ q2).fm[k]?).getD none)).length = n ∧ KInv ⟨pq, pf, 512, 60, ph, 0, pdh, pcp, pms⟩ A B i k Ln Lg (absQ q) (absQ q2) ∧ Sep w0 [] [queueG b q2, treeG tb (turnT ab aa), pts x6 (cfgV ⟨pq, pf, 512, 60, ph, 0, pdh, pcp, pms⟩) 24, pts x7 [.slice a1 len1 cap1] 33] wx)
                case atStart => exact ⟨ln, pk, Lk, q1, by omega, hln2, rfl, rfl, rfl, by omega, hc1, hl1, ht1, AK.out.2, AK.out.1, hS.pick (by (repeat (first | exact Pick.refl _ | (apply Pick.take; ((repeat (first | exact rH _ _ | apply rT)) <;> fail)) | (apply Pick.drop))))⟩
                clear kF AK
                case round =>
                  clear hS
                  obtain ⟨n, pu, Ln, q2, hng, hn2, rfl, rfl, rfl, hpu, hc2, hl2, ht2, hsl, hK, hS⟩ := hrel
                  generalize wr = w at hS ⊢
                  by_cases hn : n < 2
                  · have hn' : (n : Int) < 2 := by omega
                    have hz := hX.out.1 pu
                    have hcs := fun w L hS hm => hX.out.2.1 pu (by omega) x7 w L hS hm
                    obtain ⟨ds2, he2, hK2, hs2⟩ := hK.enq hX.out.2.2.2 (by omega) n hn hsl (sz pu) hz.1 hz.2
                    have hLn := hK.l9
                    have hLn0 := hK.le
                    have kE := qenq_ct b q2 ⟨k, 0, sz pu, 0, false⟩ 0 (hK.tw.dOk hX.out.2.2.2 (by omega) hLn) hK.tw.dIn ⟨by show (0 : Int) ≤ k; omega, by show (k : Int) < 8; omega, by show 1 ≤ sz pu; omega, by show sz pu ≤ 65536; omega⟩ (by omega) (by omega) (by rw [hc2]; exact hph) (by rw [hc2]; show ph ≤ _; omega) hK.tw.nbd.1
                    rw [hc2, he2] at kE
                    dsimp only at kE
                    obtain ⟨z1, z2⟩ := hz
                    have A4 : Aside (_ ∧ _) := ⟨hK2, hs2⟩
                    clear hK2 hs2 hK hsl he2
                    generalize sz pu = zv at *
                    go_wp2_with (first | go_skip  | (refine ck_load hS rfl rfl rfl (by (repeat (first | exact mH _ | apply mT)) <;> fail) rfl (by decide +kernel) ?_; simp only [Act.put, spA, spZ, spS]) | (refine ck_store hS rfl rfl rfl (by constructor) (by (repeat (first | exact uH _ _ _ | apply uT)) <;> fail) (by simp <;> omega) rfl (by decide +kernel) ?_; clear hS; intro w hS; simp only [Act.put, spA, spZ, spS] at hS ⊢) | (refine ck_box hS rfl rfl (by constructor) ?_; clear hS; intro nb w hS; simp only [Act.put, spA, spZ, spS]) | (refine ck_max rfl rfl rfl rfl ?_; simp only [Act.put, spA, spZ, spS]) | (refine ck_min rfl rfl rfl rfl ?_; simp only [Act.put, spA, spZ, spS])  | (go_at_call 20; refine Ct.out (hcs _ _ hS (by (repeat (first | exact mH _ | apply mT)) <;> fail)) ?_; clear hS; intro w hS) | (go_at_call 22; refine Ct.callP (kE) (by (repeat (first | exact Takes.nil _ | (apply Takes.cons; ((repeat (first | exact rH _ _ | apply rT)) <;> fail))))) hS ?_; clear hS; rintro _ _ w ⟨rfl, q3, hq3, hc3, hl3, ht3, rfl⟩ hS; simp only [List.cons_append, List.nil_append] at hS))
                    go_roundg (2 - n)
                    case rel => exact ⟨n + 1, pu + 1, max Ln zv, q3, by omega, by omega, by go_num, rfl, by go_num, by omega, hc3, hl3.trans hl2, ht3.trans ht2, by rw [hq3]; exact A4.out.2, by rw [hq3]; exact A4.out.1, hS.pick (by (repeat (first | exact Pick.refl _ | (apply Pick.take; ((repeat (first | exact rH _ _ | apply rT)) <;> fail)) | (apply Pick.drop))))⟩
                    case measure => omega
                  · have hn' : ¬ ((n : Int) < 2) := by omega
                    have A4 : Aside _ := hK.next (fun _ => by omega)
                    clear hK hsl
                    go_wp2_with (first | go_skip | (refine ck_load hS rfl rfl rfl (by (repeat (first | exact mH _ | apply mT)) <;> fail) rfl (by decide +kernel) ?_; simp only [Act.put, spA, spZ, spS]) | (refine ck_store hS rfl rfl rfl (by constructor) (by (repeat (first | exact uH _ _ _ | apply uT)) <;> fail) (by simp <;> omega) rfl (by decide +kernel) ?_; clear hS; intro w hS; simp only [Act.put, spA, spZ, spS] at hS ⊢) | (refine ck_box hS rfl rfl (by constructor) ?_; clear hS; intro nb w hS; simp only [Act.put, spA, spZ, spS]) | (refine ck_max rfl rfl rfl rfl ?_; simp only [Act.put, spA, spZ, spS]) | (refine ck_min rfl rfl rfl rfl ?_; simp only [Act.put, spA, spZ, spS]) )
                    go_roundg (8 - k)
                    case rel => exact ⟨k + 1, pu, Ln, q2, by omega, by omega, rfl, rfl, by go_num, by omega, hc2, hl2, ht2, A4.out, hS.pick (by (repeat (first | exact Pick.refl _ | (apply Pick.take; ((repeat (first | exact rH _ _ | apply rT)) <;> fail)) | (apply Pick.drop))))⟩
                    case measure => omega
              · have e2 : ((k : Int) == (B : Int)) = false := by simp; omega
                have hmi : (i : Int).tmod 7 = ((i % 7 : Nat) : Int) := by rw [Int.tmod_eq_emod_of_nonneg (by omega)]; omega
                have hmk : (k : Int).tmod 7 = ((k % 7 : Nat) : Int) := by rw [Int.tmod_eq_emod_of_nonneg (by omega)]; omega
                by_cases hm : i % 7 = k % 7
                · have e3 : ((i : Int) % 7 == (k : Int) % 7) = true := by simp; omega
                  clear hm
                  go_wp2_with (first | go_skip | (refine ck_storeAll hS rfl rfl rfl rfl (by (repeat (first | exact uH _ _ _ | apply uT)) <;> fail) (by rfl) rfl (by (try simp only [List.length_cons, List.length_nil, Nat.zero_add, Nat.reduceAdd]); decide +kernel) ?_; clear hS; intro w hS; simp only [Act.put, spA, spZ, spS]) | (refine ck_load hS rfl rfl rfl (by (repeat (first | exact mH _ | apply mT)) <;> fail) rfl (by decide +kernel) ?_; simp only [Act.put, spA, spZ, spS]) | (refine ck_store hS rfl rfl rfl (by constructor) (by (repeat (first | exact uH _ _ _ | apply uT)) <;> fail) (by simp <;> omega) rfl (by decide +kernel) ?_; clear hS; intro w hS; simp only [Act.put, spA, spZ, spS] at hS ⊢) | (refine ck_box hS rfl rfl (by constructor) ?_; clear hS; intro nb w hS; simp only [Act.put, spA, spZ, spS]) | (refine ck_max rfl rfl rfl rfl ?_; simp only [Act.put, spA, spZ, spS]) | (refine ck_min rfl rfl rfl rfl ?_; simp only [Act.put, spA, spZ, spS]) | (go_at_call 21; refine Ct.callP (kF) (by (repeat (first | exact Takes.nil _ | (apply Takes.cons; ((repeat (first | exact rH _ _ | apply rT)) <;> fail))))) hS ?_; clear hS; rintro _ _ w ⟨z, cr, pl, nx, si, ad, cp, bb, rfl, rfl⟩ hS; simp only [List.cons_append, List.nil_append] at hS) | (refine ck_alloc (t := 62) (v := .agg (tolV 0 0 0 0 0 none 0 0).toArray) (cs := tolV 0 0 0 0 0 none 0 0) hS rfl rfl (by kernel_rfl) rfl ?_; clear hS; intro x22 w hS; simp only [Act.put, spA, spZ, spS]) )
                  go_loopg [16, 17, 25] 3 (fun g s16 s17 s25 wx => ∃ (n pu : Nat) (Ln : Int) (q2 : QA), 3 ≤ g + n ∧ n ≤ 2 ∧ s16 = .int .i64 pu ∧ s17 = .int .i64 Ln ∧ s25 = .int .i64 n ∧ pu ≤ put + 2 * k + n ∧ q2.c = ⟨pq, pf, 512, 60, ph, 0, pdh, pcp, pms⟩ ∧ q2.lb = lb ∧ q2.tb = tb ∧ (segsM (((absQ q2).fm[k]?).getD none)).length = n ∧ KInv ⟨pq, pf, 512, 60, ph, 0, pdh, pcp, pms⟩ A B i k Ln Lg (absQ q) (absQ q2) ∧ Sep w0 [] [queueG b q2, treeG tb (turnT ab aa), pts x6 (cfgV ⟨pq, pf, 512, 60, ph, 0, pdh, pcp, pms⟩) 24, pts x7 [.slice a1 len1 cap1] 33] wx)
                  case atStart => exact ⟨ln, pk, Lk, q1, by omega, hln2, rfl, rfl, rfl, by omega, hc1, hl1, ht1, AK.out.2, AK.out.1, hS.pick (by (repeat (first | exact Pick.refl _ | (apply Pick.take; ((repeat (first | exact rH _ _ | apply rT)) <;> fail)) | (apply Pick.drop))))⟩
                  clear kF AK
                  case round =>
                    clear hS
                    obtain ⟨n, pu, Ln, q2, hng, hn2, rfl, rfl, rfl, hpu, hc2, hl2, ht2, hsl, hK, hS⟩ := hrel
                    generalize wr = w at hS ⊢
                    by_cases hn : n < 2
                    · have hn' : (n : Int) < 2 := by omega
                      have hz := hX.out.1 pu
                      have hcs := fun w L hS hm => hX.out.2.1 pu (by omega) x7 w L hS hm
                      obtain ⟨ds2, he2, hK2, hs2⟩ := hK.enq hX.out.2.2.2 (by omega) n hn hsl (sz pu) hz.1 hz.2
                      have hLn := hK.l9
                      have hLn0 := hK.le
                      have kE := qenq_ct b q2 ⟨k, 0, sz pu, 0, false⟩ 0 (hK.tw.dOk hX.out.2.2.2 (by omega) hLn) hK.tw.dIn ⟨by show (0 : Int) ≤ k; omega, by show (k : Int) < 8; omega, by show 1 ≤ sz pu; omega, by show sz pu ≤ 65536; omega⟩ (by omega) (by omega) (by rw [hc2]; exact hph) (by rw [hc2]; show ph ≤ _; omega) hK.tw.nbd.1
                      rw [hc2, he2] at kE
                      dsimp only at kE
                      obtain ⟨z1, z2⟩ := hz
                      have A4 : Aside (_ ∧ _) := ⟨hK2, hs2⟩
                      clear hK2 hs2 hK hsl he2
                      generalize sz pu = zv at *
                      go_wp2_with (first | go_skip  | (refine ck_load hS rfl rfl rfl (by (repeat (first | exact mH _ | apply mT)) <;> fail) rfl (by decide +kernel) ?_; simp only [Act.put, spA, spZ, spS]) | (refine ck_store hS rfl rfl rfl (by constructor) (by (repeat (first | exact uH _ _ _ | apply uT)) <;> fail) (by simp <;> omega) rfl (by decide +kernel) ?_; clear hS; intro w hS; simp only [Act.put, spA, spZ, spS] at hS ⊢) | (refine ck_box hS rfl rfl (by constructor) ?_; clear hS; intro nb w hS; simp only [Act.put, spA, spZ, spS]) | (refine ck_max rfl rfl rfl rfl ?_; simp only [Act.put, spA, spZ, spS]) | (refine ck_min rfl rfl rfl rfl ?_; simp only [Act.put, spA, spZ, spS])  | (go_at_call 20; refine Ct.out (hcs _ _ hS (by (repeat (first | exact mH _ | apply mT)) <;> fail)) ?_; clear hS; intro w hS) | (go_at_call 22; refine Ct.callP (kE) (by (repeat (first | exact Takes.nil _ | (apply Takes.cons; ((repeat (first | exact rH _ _ | apply rT)) <;> fail))))) hS ?_; clear hS; rintro _ _ w ⟨rfl, q3, hq3, hc3, hl3, ht3, rfl⟩ hS; simp only [List.cons_append, List.nil_append] at hS))
                      go_roundg (2 - n)
                      case rel => exact ⟨n + 1, pu + 1, max Ln zv, q3, by omega, by omega, by go_num, rfl, by go_num, by omega, hc3, hl3.trans hl2, ht3.trans ht2, by rw [hq3]; exact A4.out.2, by rw [hq3]; exact A4.out.1, hS.pick (by (repeat (first | exact Pick.refl _ | (apply Pick.take; ((repeat (first | exact rH _ _ | apply rT)) <;> fail)) | (apply Pick.drop))))⟩
                      case measure => omega
                    · have hn' : ¬ ((n : Int) < 2) := by omega
                      have A4 : Aside _ := hK.next (fun _ => by omega)
                      clear hK hsl
                      go_wp2_with (first | go_skip | (refine ck_load hS rfl rfl rfl (by (repeat (first | exact mH _ | apply mT)) <;> fail) rfl (by decide +kernel) ?_; simp only [Act.put, spA, spZ, spS]) | (refine ck_store hS rfl rfl rfl (by constructor) (by (repeat (first | exact uH _ _ _ | apply uT)) <;> fail) (by simp <;> omega) rfl (by decide +kernel) ?_; clear hS; intro w hS; simp only [Act.put, spA, spZ, spS] at hS ⊢) | (refine ck_box hS rfl rfl (by constructor) ?_; clear hS; intro nb w hS; simp only [Act.put, spA, spZ, spS]) | (refine ck_max rfl rfl rfl rfl ?_; simp only [Act.put, spA, spZ, spS]) | (refine ck_min rfl rfl rfl rfl ?_; simp only [Act.put, spA, spZ, spS]) )
                      go_roundg (8 - k)
                      case rel => exact ⟨k + 1, pu, Ln, q2, by omega, by omega, rfl, rfl, by go_num, by omega, hc2, hl2, ht2, A4.out, hS.pick (by (repeat (first | exact Pick.refl _ | (apply Pick.take; ((repeat (first | exact rH _ _ | apply rT)) <;> fail)) | (apply Pick.drop))))⟩
                      case measure => omega
                · have e3 : ((i : Int) % 7 == (k : Int) % 7) = false := by simp; omega
                  go_wp2_with (first | go_skip | (refine ck_storeAll hS rfl rfl rfl rfl (by (repeat (first | exact uH _ _ _ | apply uT)) <;> fail) (by rfl) rfl (by (try simp only [List.length_cons, List.length_nil, Nat.zero_add, Nat.reduceAdd]); decide +kernel) ?_; clear hS; intro w hS; simp only [Act.put, spA, spZ, spS]) | (refine ck_load hS rfl rfl rfl (by (repeat (first | exact mH _ | apply mT)) <;> fail) rfl (by decide +kernel) ?_; simp only [Act.put, spA, spZ, spS]) | (refine ck_store hS rfl rfl rfl (by constructor) (by (repeat (first | exact uH _ _ _ | apply uT)) <;> fail) (by simp <;> omega) rfl (by decide +kernel) ?_; clear hS; intro w hS; simp only [Act.put, spA, spZ, spS] at hS ⊢) | (refine ck_box hS rfl rfl (by constructor) ?_; clear hS; intro nb w hS; simp only [Act.put, spA, spZ, spS]) | (refine ck_max rfl rfl rfl rfl ?_; simp only [Act.put, spA, spZ, spS]) | (refine ck_min rfl rfl rfl rfl ?_; simp only [Act.put, spA, spZ, spS]) | (go_at_call 21; refine Ct.callP (kF) (by (repeat (first | exact Takes.nil _ | (apply Takes.cons; ((repeat (first | exact rH _ _ | apply rT)) <;> fail))))) hS ?_; clear hS; rintro _ _ w ⟨z, cr, pl, nx, si, ad, cp, bb, rfl, rfl⟩ hS; simp only [List.cons_append, List.nil_append] at hS) | (refine ck_alloc (t := 62) (v := .agg (tolV 0 0 0 0 0 none 0 0).toArray) (cs := tolV 0 0 0 0 0 none 0 0) hS rfl rfl (by kernel_rfl) rfl ?_; clear hS; intro x22 w hS; simp only [Act.put, spA, spZ, spS]) )
                  go_loopg [16, 17, 25] 3 (fun g s16 s17 s25 wx => ∃ (n pu : Nat) (Ln : Int) (q2 : QA), 3 ≤ g + n ∧ n ≤ 2 ∧ s16 = .int .i64 pu ∧ s17 = .int .i64 Ln ∧ s25 = .int .i64 n ∧ pu ≤ put + 2 * k + n ∧ q2.c = ⟨pq, pf, 512, 60, ph, 0, pdh, pcp, pms⟩ ∧ q2.lb = lb ∧ q2.tb = tb ∧ (segsM (((absQ q2).fm[k]?).getD none)).length = n ∧ KInv ⟨pq, pf, 512, 60, ph, 0, pdh, pcp, pms⟩ A B i k Ln Lg (absQ q) (absQ q2) ∧ Sep w0 [] [queueG b q2, treeG tb (turnT ab aa), pts x6 (cfgV ⟨pq, pf, 512, 60, ph, 0, pdh, pcp, pms⟩) 24, pts x7 [.slice a1 len1 cap1] 33] wx)
                  case atStart => exact ⟨ln, pk, Lk, q1, by omega, hln2, rfl, rfl, rfl, by omega, hc1, hl1, ht1, AK.out.2, AK.out.1, hS.pick (by (repeat (first | exact Pick.refl _ | (apply Pick.take; ((repeat (first | exact rH _ _ | apply rT)) <;> fail)) | (apply Pick.drop))))⟩
                  clear kF AK
                  case round =>
                    clear hS
                    obtain ⟨n, pu, Ln, q2, hng, hn2, rfl, rfl, rfl, hpu, hc2, hl2, ht2, hsl, hK, hS⟩ := hrel
                    generalize wr = w at hS ⊢
                    have hn' : ¬ ((n : Int) < 0) := by omega
                    have A4 : Aside _ := hK.next (fun h => by rcases h with h | h <;> omega)
                    clear hK hsl
                    go_wp2_with (first | go_skip | (refine ck_load hS rfl rfl rfl (by (repeat (first | exact mH _ | apply mT)) <;> fail) rfl (by decide +kernel) ?_; simp only [Act.put, spA, spZ, spS]) | (refine ck_store hS rfl rfl rfl (by constructor) (by (repeat (first | exact uH _ _ _ | apply uT)) <;> fail) (by simp <;> omega) rfl (by decide +kernel) ?_; clear hS; intro w hS; simp only [Act.put, spA, spZ, spS] at hS ⊢) | (refine ck_box hS rfl rfl (by constructor) ?_; clear hS; intro nb w hS; simp only [Act.put, spA, spZ, spS]) | (refine ck_max rfl rfl rfl rfl ?_; simp only [Act.put, spA, spZ, spS]) | (refine ck_min rfl rfl rfl rfl ?_; simp only [Act.put, spA, spZ, spS]) )
                    go_roundg (8 - k)
                    case rel => exact ⟨k + 1, pu, Ln, q2, by omega, by omega, rfl, rfl, by go_num, by omega, hc2, hl2, ht2, A4.out, hS.pick (by (repeat (first | exact Pick.refl _ | (apply Pick.take; ((repeat (first | exact rH _ _ | apply rT)) <;> fail)) | (apply Pick.drop))))⟩
                    case measure => omega
          · obtain rfl : k = 8 := by omega
            obtain ⟨fuel, s, ds', hd, hdk, s0, s8, n0, n1, hfin⟩ := A2.out.step hX.out.2.2.2 hab (by omega) (by omega) hK (put' := pk) (by omega)
            have kD := qdeq_ct b ⟨pq, pf, 512, 60, ph, 0, pdh, pcp, pms⟩ lb tb (turnT ab aa) rfl 0 (by omega) (by omega) (by show (0 : Int) ≤ 0; omega) (by show (0 : Int) ≤ _; omega) (by show (0 : Int) ≤ pq; omega) (by show pq ≤ 65536; omega) none 0 0 [] rfl (by simp) (by omega) fuel (some s) ds' q1 hc1 hl1 ht1 hdk hd
            unfold DeqP dRes at kD
            dsimp only at kD
            have hS1 : Sep w0 [] (rowR none 0 0 22 1 (vU []) :: [queueG b q1, treeG tb (turnT ab aa), pts x6 (cfgV ⟨pq, pf, 512, 60, ph, 0, pdh, pcp, pms⟩) 24, pts x7 [.slice a1 len1 cap1] 33]) w := hS.nilRow
            clear hS hd hdk hK A2
            have hS := hS1
            clear hS1
            by_cases hf : fv ≤ i
            · have hf' : (fv : Int) ≤ i := by omega
              by_cases hsa : s.sock = A
              · have hsa' : (s.sock == (A : Int)) = true := by simpa using hsa
                have hsb' : (s.sock == (B : Int)) = false := by simp; omega
                obtain ⟨hT, hbd⟩ := hfin (x + s.len) y (by rw [if_pos ⟨hf, hsa⟩]) (by rw [if_neg (fun h => by omega)])
                clear hfin
                have hbd' : ¬ (pq + 2 * max pq pf + 2 * Lk < max (x + s.len) (y) - min (x + s.len) (y)) := by have := hbd; dsimp only at this; omega
                have hx0 := hT.x0
                have hx1 := hT.x1
                have hy0 := hT.y0
                have hy1 := hT.y1
                have hL0 := hT.L0
                have hL1 := hT.L1
                have A5 : Aside _ := hT
                clear hT hbd
                go_wp2_with (first | go_skip | (refine ck_storeAll hS rfl rfl rfl rfl (by (repeat (first | exact uH _ _ _ | apply uT)) <;> fail) (by rfl) rfl (by (try simp only [List.length_cons, List.length_nil, Nat.zero_add, Nat.reduceAdd]); decide +kernel) ?_; clear hS; intro w hS; simp only [Act.put, spA, spZ, spS]) | (refine ck_load hS rfl rfl rfl (by (repeat (first | exact mH _ | apply mT)) <;> fail) rfl (by decide +kernel) ?_; simp only [Act.put, spA, spZ, spS]) | (refine ck_store hS rfl rfl rfl (by constructor) (by (repeat (first | exact uH _ _ _ | apply uT)) <;> fail) (by simp <;> omega) rfl (by decide +kernel) ?_; clear hS; intro w hS; simp only [Act.put, spA, spZ, spS] at hS ⊢) | (refine ck_box hS rfl rfl (by constructor) ?_; clear hS; intro nb w hS; simp only [Act.put, spA, spZ, spS]) | (refine ck_max rfl rfl rfl rfl ?_; simp only [Act.put, spA, spZ, spS]) | (refine ck_min rfl rfl rfl rfl ?_; simp only [Act.put, spA, spZ, spS]) | (go_at_call 23; refine Ct.callP (kD) (by (repeat (first | exact Takes.nil _ | (apply Takes.cons; ((repeat (first | exact rH _ _ | apply rT)) <;> fail))))) hS ?_; clear hS; rintro _ _ w ⟨rfl, q3, hq3, hc3, hl3, ht3, rfl⟩ hS; simp only [List.cons_append, List.nil_append] at hS) | (refine ck_alloc (t := 44) (v := segA ⟨0, 0, 0, 0, false⟩) (cs := segV ⟨0, 0, 0, 0, false⟩) hS rfl rfl (by kernel_rfl) rfl ?_; clear hS; intro x26 w hS; simp only [Act.put, spA, spZ, spS]) )
                go_roundg (P - i)
                case rel => exact ⟨i + 1, pk, Lk, x + s.len, y, q3, by omega, by omega, rfl, rfl, rfl, rfl, by go_num, hc3, hl3, ht3, by rw [hq3]; exact A5.out, hS.pick (by (repeat (first | exact Pick.refl _ | (apply Pick.take; ((repeat (first | exact rH _ _ | apply rT)) <;> fail)) | (apply Pick.drop))))⟩
                case measure => omega
              · have hsa' : (s.sock == (A : Int)) = false := by simpa using hsa
                by_cases hsb : s.sock = B
                · have hsb' : (s.sock == (B : Int)) = true := by simpa using hsb
                  obtain ⟨hT, hbd⟩ := hfin x (y + s.len) (by rw [if_neg (fun h => hsa h.2)]) (by rw [if_pos ⟨hf, hsb⟩])
                  clear hfin
                  have hbd' : ¬ (pq + 2 * max pq pf + 2 * Lk < max (x) (y + s.len) - min (x) (y + s.len)) := by have := hbd; dsimp only at this; omega
                  have hx0 := hT.x0
                  have hx1 := hT.x1
                  have hy0 := hT.y0
                  have hy1 := hT.y1
                  have hL0 := hT.L0
                  have hL1 := hT.L1
                  have A5 : Aside _ := hT
                  clear hT hbd
                  go_wp2_with (first | go_skip | (refine ck_storeAll hS rfl rfl rfl rfl (by (repeat (first | exact uH _ _ _ | apply uT)) <;> fail) (by rfl) rfl (by (try simp only [List.length_cons, List.length_nil, Nat.zero_add, Nat.reduceAdd]); decide +kernel) ?_; clear hS; intro w hS; simp only [Act.put, spA, spZ, spS]) | (refine ck_load hS rfl rfl rfl (by (repeat (first | exact mH _ | apply mT)) <;> fail) rfl (by decide +kernel) ?_; simp only [Act.put, spA, spZ, spS]) | (refine ck_store hS rfl rfl rfl (by constructor) (by (repeat (first | exact uH _ _ _ | apply uT)) <;> fail) (by simp <;> omega) rfl (by decide +kernel) ?_; clear hS; intro w hS; simp only [Act.put, spA, spZ, spS] at hS ⊢) | (refine ck_box hS rfl rfl (by constructor) ?_; clear hS; intro nb w hS; simp only [Act.put, spA, spZ, spS]) | (refine ck_max rfl rfl rfl rfl ?_; simp only [Act.put, spA, spZ, spS]) | (refine ck_min rfl rfl rfl rfl ?_; simp only [Act.put, spA, spZ, spS]) | (go_at_call 23; refine Ct.callP (kD) (by (repeat (first | exact Takes.nil _ | (apply Takes.cons; ((repeat (first | exact rH _ _ | apply rT)) <;> fail))))) hS ?_; clear hS; rintro _ _ w ⟨rfl, q3, hq3, hc3, hl3, ht3, rfl⟩ hS; simp only [List.cons_append, List.nil_append] at hS) | (refine ck_alloc (t := 44) (v := segA ⟨0, 0, 0, 0, false⟩) (cs := segV ⟨0, 0, 0, 0, false⟩) hS rfl rfl (by kernel_rfl) rfl ?_; clear hS; intro x26 w hS; simp only [Act.put, spA, spZ, spS]) )
                  go_roundg (P - i)
                  case rel => exact ⟨i + 1, pk, Lk, x, y + s.len, q3, by omega, by omega, rfl, rfl, rfl, rfl, by go_num, hc3, hl3, ht3, by rw [hq3]; exact A5.out, hS.pick (by (repeat (first | exact Pick.refl _ | (apply Pick.take; ((repeat (first | exact rH _ _ | apply rT)) <;> fail)) | (apply Pick.drop))))⟩
                  case measure => omega
                · have hsb' : (s.sock == (B : Int)) = false := by simpa using hsb
                  obtain ⟨hT, hbd⟩ := hfin x y (by rw [if_neg (fun h => hsa h.2)]) (by rw [if_neg (fun h => hsb h.2)])
                  clear hfin
                  have hbd' : ¬ (pq + 2 * max pq pf + 2 * Lk < max (x) (y) - min (x) (y)) := by have := hbd; dsimp only at this; omega
                  have hx0 := hT.x0
                  have hx1 := hT.x1
                  have hy0 := hT.y0
                  have hy1 := hT.y1
                  have hL0 := hT.L0
                  have hL1 := hT.L1
                  have A5 : Aside _ := hT
                  clear hT hbd
                  go_wp2_with (first | go_skip | (refine ck_storeAll hS rfl rfl rfl rfl (by (repeat (first | exact uH _ _ _ | apply uT)) <;> fail) (by rfl) rfl (by (try simp only [List.length_cons, List.length_nil, Nat.zero_add, Nat.reduceAdd]); decide +kernel) ?_; clear hS; intro w hS; simp only [Act.put, spA, spZ, spS]) | (refine ck_load hS rfl rfl rfl (by (repeat (first | exact mH _ | apply mT)) <;> fail) rfl (by decide +kernel) ?_; simp only [Act.put, spA, spZ, spS]) | (refine ck_store hS rfl rfl rfl (by constructor) (by (repeat (first | exact uH _ _ _ | apply uT)) <;> fail) (by simp <;> omega) rfl (by decide +kernel) ?_; clear hS; intro w hS; simp only [Act.put, spA, spZ, spS] at hS ⊢) | (refine ck_box hS rfl rfl (by constructor) ?_; clear hS; intro nb w hS; simp only [Act.put, spA, spZ, spS]) | (refine ck_max rfl rfl rfl rfl ?_; simp only [Act.put, spA, spZ, spS]) | (refine ck_min rfl rfl rfl rfl ?_; simp only [Act.put, spA, spZ, spS]) | (go_at_call 23; refine Ct.callP (kD) (by (repeat (first | exact Takes.nil _ | (apply Takes.cons; ((repeat (first | exact rH _ _ | apply rT)) <;> fail))))) hS ?_; clear hS; rintro _ _ w ⟨rfl, q3, hq3, hc3, hl3, ht3, rfl⟩ hS; simp only [List.cons_append, List.nil_append] at hS) | (refine ck_alloc (t := 44) (v := segA ⟨0, 0, 0, 0, false⟩) (cs := segV ⟨0, 0, 0, 0, false⟩) hS rfl rfl (by kernel_rfl) rfl ?_; clear hS; intro x26 w hS; simp only [Act.put, spA, spZ, spS]) )
                  go_roundg (P - i)
                  case rel => exact ⟨i + 1, pk, Lk, x, y, q3, by omega, by omega, rfl, rfl, rfl, rfl, by go_num, hc3, hl3, ht3, by rw [hq3]; exact A5.out, hS.pick (by (repeat (first | exact Pick.refl _ | (apply Pick.take; ((repeat (first | exact rH _ _ | apply rT)) <;> fail)) | (apply Pick.drop))))⟩
                  case measure => omega
            · have hf' : ¬ (fv : Int) ≤ i := by omega
              obtain ⟨hT, hbd⟩ := hfin x y (by rw [if_neg (fun h => hf h.1)]) (by rw [if_neg (fun h => hf h.1)])
              clear hfin
              have hbd' : ¬ (pq + 2 * max pq pf + 2 * Lk < max (x) (y) - min (x) (y)) := by have := hbd; dsimp only at this; omega
              have hx0 := hT.x0
              have hx1 := hT.x1
              have hy0 := hT.y0
              have hy1 := hT.y1
              have hL0 := hT.L0
              have hL1 := hT.L1
              have A5 : Aside _ := hT
              clear hT hbd
              go_wp2_with (first | go_skip | (refine ck_storeAll hS rfl rfl rfl rfl (by (repeat (first | exact uH _ _ _ | apply uT)) <;> fail) (by rfl) rfl (by (try simp only [List.length_cons, List.length_nil, Nat.zero_add, Nat.reduceAdd]); decide +kernel) ?_; clear hS; intro w hS; simp only [Act.put, spA, spZ, spS]) | (refine ck_load hS rfl rfl rfl (by (repeat (first | exact mH _ | apply mT)) <;> fail) rfl (by decide +kernel) ?_; simp only [Act.put, spA, spZ, spS]) | (refine ck_store hS rfl rfl rfl (by constructor) (by (repeat (first | exact uH _ _ _ | apply uT)) <;> fail) (by simp <;> omega) rfl (by decide +kernel) ?_; clear hS; intro w hS; simp only [Act.put, spA, spZ, spS] at hS ⊢) | (refine ck_box hS rfl rfl (by constructor) ?_; clear hS; intro nb w hS; simp only [Act.put, spA, spZ, spS]) | (refine ck_max rfl rfl rfl rfl ?_; simp only [Act.put, spA, spZ, spS]) | (refine ck_min rfl rfl rfl rfl ?_; simp only [Act.put, spA, spZ, spS]) | (go_at_call 23; refine Ct.callP (kD) (by (repeat (first | exact Takes.nil _ | (apply Takes.cons; ((repeat (first | exact rH _ _ | apply rT)) <;> fail))))) hS ?_; clear hS; rintro _ _ w ⟨rfl, q3, hq3, hc3, hl3, ht3, rfl⟩ hS; simp only [List.cons_append, List.nil_append] at hS) | (refine ck_alloc (t := 44) (v := segA ⟨0, 0, 0, 0, false⟩) (cs := segV ⟨0, 0, 0, 0, false⟩) hS rfl rfl (by kernel_rfl) rfl ?_; clear hS; intro x26 w hS; simp only [Act.put, spA, spZ, spS]) )
              go_roundg (P - i)
              case rel => exact ⟨i + 1, pk, Lk, x, y, q3, by omega, by omega, rfl, rfl, rfl, rfl, by go_num, hc3, hl3, ht3, by rw [hq3]; exact A5.out, hS.pick (by (repeat (first | exact Pick.refl _ | (apply Pick.take; ((repeat (first | exact rH _ _ | apply rT)) <;> fail)) | (apply Pick.drop))))⟩
              case measure => omega
      · obtain rfl : i = P := by omega
        clear hH
        go_wp2_with (first | go_skip | (refine ck_load hS rfl rfl rfl (by (repeat (first | exact mH _ | apply mT)) <;> fail) rfl (by decide +kernel) ?_; simp only [Act.put, spA, spZ, spS]) | (refine ck_store hS rfl rfl rfl (by constructor) (by (repeat (first | exact uH _ _ _ | apply uT)) <;> fail) (by simp <;> omega) rfl (by decide +kernel) ?_; clear hS; intro w hS; simp only [Act.put, spA, spZ, spS] at hS ⊢) | (refine ck_box hS rfl rfl (by constructor) ?_; clear hS; intro nb w hS; simp only [Act.put, spA, spZ, spS]) | (refine ck_max rfl rfl rfl rfl ?_; simp only [Act.put, spA, spZ, spS]) | (refine ck_min rfl rfl rfl rfl ?_; simp only [Act.put, spA, spZ, spS]) )
        go_ret
        exact ⟨[], rfl, hS.dropN 100⟩
namespace topTurns
open Go.ChangeShapes Go.WideShapes Go.ChangeAt Go.RowKit
open Go.ChangeMaps (open_string shut_string)
theorem own : ownKnob Tryz.prog.godebug = none := by kernel_rfl
theorem laidOut : laidOutB Tryz.prog = true := by kernel_rfl
set_option maxRecDepth 100000 in
theorem lifted (os : Os) (started : os.Started) (H : Type) (enc : TypeId × Value → H) :
    ReturnsInHanded {} Tryz.checked os 5 .any (Rows.topTurnsSpec.pre6 enc Tryz.prog Tryz.f5 Rows.topTurnsRow.domain false) (Rows.topTurnsSpec.post enc Tryz.prog Tryz.f5 false true false false) := by
  refine returnsInHanded_of_change (C := Tryz.checked) own started (by kernel_rfl) Tryz.func5
    (ChangeSpec.witness6 (enc := enc) (C := Tryz.checked) false ⟨#[], #[cfgA cfgZ, .slice none 0 0, .int .i64 0, .int .i64 0, .int .i64 0, .int .i64 0], []⟩ 8 (by kernel_rfl) (by kernel_rfl) (by kernel_rfl) (by kernel_rfl)) ?_
  intro W base args ds gs before hval0 hW hcnd _
  have hval : ∀ (j : Nat) t v, Tryz.f5.params[j]? = some t → args[j]? = some v → Value.okWide Tryz.prog W .any base t v := hval0
  have hW' := hW
  obtain ⟨p, q, hA0, hV, rfl, hfz, hnd⟩ := hW
  have hA : DataW.TrodAll enc Tryz.prog W 0 (fun _ => true) true Tryz.f5.params.toList args.toList ds p := hA0
  rw [Tryz.params5] at hA hval
  obtain ⟨v0, vs0, d0, ds0, p0, q0, hargs, rfl, rfl, h0, r0⟩ := trodAll_cons hA
  obtain ⟨v1, vs1, d1, ds1, p1, q1, rfl, rfl, rfl, h1, r1⟩ := trodAll_cons r0
  obtain ⟨v2, vs2, d2, ds2, p2, q2, rfl, rfl, rfl, h2, r2⟩ := trodAll_cons r1
  obtain ⟨v3, vs3, d3, ds3, p3, q3, rfl, rfl, rfl, h3, r3⟩ := trodAll_cons r2
  obtain ⟨v4, vs4, d4, ds4, p4, q4, rfl, rfl, rfl, h4, r4⟩ := trodAll_cons r3
  obtain ⟨v5, vs5, d5, ds5, p5, q5, rfl, rfl, rfl, h5, r5⟩ := trodAll_cons r4
  obtain ⟨rfl, rfl, rfl⟩ := trodAll_nil r5
  obtain rfl : args = #[v0, v1, v2, v3, v4, v5] := by cases args; simp_all
  obtain ⟨rfl, rfl⟩ := trodVars_none hV
  obtain ⟨a0, rfl, w0⟩ := open_cfg (hval 0 24 v0 rfl rfl) h0
  have k0 := h0
  have lt0 : ∀ x ∈ p0, x.block < W.heap.size := by obtain ⟨m, hm⟩ := k0; exact DataW.trod_lt m _ _ _ hm
  obtain ⟨a1, len1, cap1, rfl⟩ := okWide_slice Tryz.underlying33 (hval 1 33 v1 rfl rfl)
  have k1 := h1
  have lt1 : ∀ x ∈ p1, x.block < W.heap.size := by obtain ⟨m, hm⟩ := k1; exact DataW.trod_lt m _ _ _ hm
  obtain ⟨z1, s1⟩ : ∃ zs, ArgSl W [(.int .i64)] a1 len1 zs := by
    obtain ⟨fuel, hf⟩ := h1
    exact open_argsl1 Tryz.underlying33 (e := 3) (by kernel_rfl) (by kernel_rfl) hf
  obtain ⟨a2, rfl, rfl, rfl, w2⟩ := open_int Tryz.underlying3 (hval 2 3 v2 rfl rfl) h2
  obtain ⟨a3, rfl, rfl, rfl, w3⟩ := open_int Tryz.underlying3 (hval 3 3 v3 rfl rfl) h3
  obtain ⟨a4, rfl, rfl, rfl, w4⟩ := open_int Tryz.underlying3 (hval 4 3 v4 rfl rfl) h4
  obtain ⟨a5, rfl, rfl, rfl, w5⟩ := open_int Tryz.underlying3 (hval 5 3 v5 rfl rfl) h5
  clear hA0 hval0
  refine (topTurns_walk W a0 w0 a1 len1 cap1 z1 s1 a2 (wf_i64 w2).1 (wf_i64 w2).2 a3 (wf_i64 w3).1 (wf_i64 w3).2 a4 (wf_i64 w4).1 (wf_i64 w4).2 a5 (wf_i64 w5).1 (wf_i64 w5).2).mono fun e W' hR => ?_
  obtain ⟨he, bel⟩ := LawR.out hR
  subst he
  exact ⟨_, rfl, _, _, _, [], _, [], hW', trodAll_mk1 (shut_bool Tryz.underlying4 _), (trodAll_cons_mk (Below.trod laidOut (by kernel_rfl) (of_decide_eq_true (by kernel_rfl)) k0 bel lt0) (trodAll_cons_mk (Below.trod laidOut (by kernel_rfl) (of_decide_eq_true (by kernel_rfl)) k1 bel lt1) (trodAll_cons_mk (shut_int Tryz.underlying3 w2) (trodAll_cons_mk (shut_int Tryz.underlying3 w3) (trodAll_cons_mk (shut_int Tryz.underlying3 w4) (trodAll_cons_mk (shut_int Tryz.underlying3 w5) trodAll_mk0)))))), rfl, bel.frame _, fun h => by cases h⟩
theorem over : Rows.topTurnsRow.holds Tryz.pinned (OpenSpec.ofChange Rows.topTurnsSpec) :=
  OpenClaim.holds_of_wide 5 Tryz.f5 rfl rfl rfl rfl rfl rfl rfl ⟨rfl, rfl, rfl, rfl, rfl⟩ rfl rfl rfl rfl rfl (by kernel_rfl) Tryz.func5 (by kernel_rfl)
    (of_decide_eq_true (by kernel_rfl)) (by unfold Func.isWrapper; first | (rw [if_pos (by decide +kernel)]; kernel_rfl) | (rw [if_neg (by decide +kernel)]; exact ⟨rfl, rfl⟩))
    (fun os started H enc _ => lifted os started H enc)
theorem proved : Rows.TopTurnsSaid := over
#print axioms proved
end topTurns
end Go.Proofs.YtcegknecikbbkaaGreat
