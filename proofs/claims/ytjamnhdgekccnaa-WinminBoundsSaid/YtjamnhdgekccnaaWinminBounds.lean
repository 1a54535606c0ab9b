/- WinminBounds: for every window and all lists the law answers true; no condition. -/
import Derived.Test.YtjamnhdgekccnaaWinLawsL
import Derived.Test.YtjamnhdgekccnaaCkRows
import Derived.WalkKit
import Derived.WalkSpells
import Derived.WalkLawsBesides
import Derived.WalkMore
import Derived.Deep.LoopGhost
set_option linter.unusedVariables false
set_option linter.unusedSimpArgs false
namespace Go.Proofs.Ytjamnhdgekccnaa
open Go.RowKit
abbrev vU (l : List Int) : List Value := l.map fun n : Int => Value.int .u64 n
theorem wsUn_bd {win : Int} {S : WS} {M v : Int} {P : Int → Int → Prop} (p0 : P S.t0 S.v0) (p1 : P S.t1 S.v1) (p2 : P S.t2 S.v2) (pn : P M v) (o1 : S.v0 ≤ S.v1) (o2 : S.v1 ≤ S.v2) (hw : 0 ≤ win) (hM : 0 ≤ M) :
    P (wsUn win S M v).t0 (wsUn win S M v).v0 ∧ P (wsUn win S M v).t1 (wsUn win S M v).v1 ∧ P (wsUn win S M v).t2 (wsUn win S M v).v2 ∧ (wsUn win S M v).v0 ≤ (wsUn win S M v).v1 ∧ (wsUn win S M v).v1 ≤ (wsUn win S M v).v2 ∧ (wsUn win S M v).v0 ≤ v ∧ M - min M (wsUn win S M v).t0 ≤ win := by
  obtain ⟨t0, v0, t1, v1, t2, v2⟩ := S
  dsimp only at *
  unfold wsUn wsC wsBn
  dsimp only
  repeat' split
  all_goals (dsimp only at *; refine ⟨by assumption, by assumption, by assumption, by omega, by omega, by omega, by omega⟩)
/-- Did it come so? -/
def came (ts vs : List Int) (t v : Int) : Prop := ∃ j : Nat, ts[j]? = some t ∧ vs[j]? = some v
theorem came.old {ts vs : List Int} {t v M x : Int} (h : came ts vs t v) : came (ts ++ [M]) (vs ++ [x]) t v := by
  obtain ⟨j, h1, h2⟩ := h
  exact ⟨j, by rw [List.getElem?_append_left (List.getElem?_eq_some_iff.1 h1).1]; exact h1, by rw [List.getElem?_append_left (List.getElem?_eq_some_iff.1 h2).1]; exact h2⟩
theorem came.new {ts vs : List Int} {M x : Int} (h : ts.length = vs.length) : came (ts ++ [M]) (vs ++ [x]) M x := ⟨ts.length, by simp, by rw [h]; simp⟩
/-- What a window keeps of what came. -/
def minI (S : WS) (ts vs : List Int) : Prop := (ts = [] ∧ S = ⟨0, 18446744073709551615, 0, 18446744073709551615, 0, 18446744073709551615⟩) ∨ (came ts vs S.t0 S.v0 ∧ came ts vs S.t1 S.v1 ∧ came ts vs S.t2 S.v2 ∧ S.v0 ≤ S.v1 ∧ S.v1 ≤ S.v2)
theorem minI_step {win : Int} {S : WS} {M v : Int} {ts vs : List Int} (h : minI S ts vs) (hl : ts.length = vs.length) (hw : 0 ≤ win) (hM : 0 ≤ M) (hv : v ≤ 18446744073709551615) :
    minI (wsUn win S M v) (ts ++ [M]) (vs ++ [v]) ∧ (wsUn win S M v).v0 ≤ v ∧ ∃ (j : Nat) (t : Int), (ts ++ [M])[j]? = some t ∧ (vs ++ [v])[j]? = some (wsUn win S M v).v0 ∧ M - min M t ≤ win := by
  rcases h with ⟨h1, h2⟩ | ⟨h1, h2, h3, h4, h5⟩
  · subst h2
    have hh : wsUn win ⟨0, 18446744073709551615, 0, 18446744073709551615, 0, 18446744073709551615⟩ M v = ⟨M, v, M, v, M, v⟩ := by unfold wsUn; rw [if_pos (Or.inl (by exact hv))]
    rw [hh]
    have hn := came.new (M := M) (x := v) hl
    refine ⟨.inr ⟨hn, hn, hn, by dsimp only; omega, by dsimp only; omega⟩, by dsimp only; omega, ?_⟩
    obtain ⟨j, h3, h4⟩ := hn
    exact ⟨j, M, h3, h4, by omega⟩
  · obtain ⟨a, b, c, d, e, f, g⟩ := wsUn_bd (win := win) (S := S) (M := M) (v := v) (P := came (ts ++ [M]) (vs ++ [v])) h1.old h2.old h3.old (came.new hl) h4 h5 hw hM
    obtain ⟨j, h6, h7⟩ := id a
    exact ⟨.inr ⟨a, b, c, d, e⟩, f, j, _, h6, h7, g⟩
set_option maxRecDepth 8000 in
set_option maxHeartbeats 8000000 in
theorem winminBounds_walk (w0 : World) (a0 : Int) (l0 : 0 ≤ a0) (u0 : a0 ≤ 18446744073709551615) (ga : Option Addr) (glen gcap : Nat) (gz : List (List Value)) (gs : ArgSl w0 [.int .u64] ga glen gz) (va : Option Addr) (vlen vcap : Nat) (vz : List (List Value)) (vs0 : ArgSl w0 [.int .u64] va vlen vz) :
    Calls Try.prog 8 #[.int .u64 a0, .slice ga glen gcap, .slice va vlen vcap] w0 (LawR w0) := by
  have hlen := gs.small
  have hlen2 := vs0.small
  obtain ⟨W, hW, hW0, hW1⟩ := mod_any a0 1000 (by omega)
  have hS := Sep.start w0 []
  unfold LawR
  go_enter Try.func8, Try.ntmps8
  go_wp2_with (first | go_skip | (refine ck_load hS rfl rfl rfl (by repeat (first | exact List.Mem.head _ | apply List.Mem.tail)) rfl (by decide +kernel) ?_; simp only [Act.put, List.setIfInBounds_toArray, List.set_cons_zero, List.set_cons_succ]) | (refine ck_store hS rfl rfl rfl (by constructor) (by repeat (first | exact Upd.here _ _ _ | apply Upd.there)) (by simp <;> omega) rfl (by decide +kernel) ?_; clear hS; intro w hS; simp only [Act.put, List.setIfInBounds_toArray, List.set_cons_zero, List.set_cons_succ] at hS ⊢) | (refine ck_box hS rfl rfl (by constructor) ?_; clear hS; intro nb w hS; simp only [Act.put, List.setIfInBounds_toArray, List.set_cons_zero, List.set_cons_succ]) | (refine ck_max rfl rfl rfl rfl ?_; simp only [Act.put, List.setIfInBounds_toArray, List.set_cons_zero, List.set_cons_succ]) | (refine ck_min rfl rfl rfl rfl ?_; simp only [Act.put, List.setIfInBounds_toArray, List.set_cons_zero, List.set_cons_succ]) | (go_at_call 18; with_reducible refine Ct.callN (minNew_ct _) hS ?_; clear hS; rintro _ _ w ⟨b, rfl, rfl⟩ hS; simp only [List.cons_append, List.nil_append] at hS) | (go_at_call 19; with_reducible refine Ct.call0 (awake09_ct) hS ?_; clear hS; intro w hS) | (refine ck_region (fun _ => 0) (fun _ => []) [] hS (by kernel_rfl) (by decide +kernel) ?_ ?_; exact ⟨fun _ _ _ h => h.2, fun _ _ h => h⟩; clear hS; intro w hS _; (repeat (first | (refine ckT_max rfl rfl rfl rfl ?_; simp only [Act.put, List.setIfInBounds_toArray, List.set_cons_zero, List.set_cons_succ]) | (refine ckT_min rfl rfl rfl rfl ?_; simp only [Act.put, List.setIfInBounds_toArray, List.set_cons_zero, List.set_cons_succ]) | (apply wpT_pure rfl rfl; (intro _; go_simp; (try (go_ints; (try go_simp))); (first | (rw [decide_eq_true]; omega) | (rw [decide_eq_false]; omega) | rfl)); simp only [Act.put, List.setIfInBounds_toArray, List.set_cons_zero, List.set_cons_succ]) | (refine ckT_load hS rfl rfl rfl (by simp) (by repeat (first | exact List.Mem.head _ | apply List.Mem.tail)) rfl (by decide +kernel) ?_; simp only [Act.put, List.setIfInBounds_toArray, List.set_cons_zero, List.set_cons_succ]) | (refine ckT_store hS rfl rfl rfl (by constructor) (by repeat (first | exact Upd.here _ _ _ | apply Upd.there)) (by simp) rfl (by decide +kernel) (by simp) ?_; clear hS; intro w hS; simp only [Act.put, List.setIfInBounds_toArray, List.set_cons_zero, List.set_cons_succ] at hS ⊢) | (refine wpT_skip rfl ?_; simp only [Act.put, List.setIfInBounds_toArray, List.set_cons_zero, List.set_cons_succ]) )); refine wpT_nil ?_))
  have hS1 := (hS.nilRow (e := 22) (sz := 1)).nilRow (e := 22) (sz := 1)
  clear hS
  have hS := hS1
  clear hS1 hW
  go_loopg [8, 9, 10, 11] 81 (fun g s8 s9 s10 s11 wx => ∃ (k : Nat) (S : WS) (t : Int) (ts vs : List Int) (aa ab : Option Addr) (ca cb : Nat), k + g = 81 ∧ k ≤ glen ∧ k ≤ vlen ∧ s11 = .int .i64 k ∧ s8 = .int .u64 t ∧ s9 = .slice aa k ca ∧ s10 = .slice ab k cb ∧ ts.length = k ∧ vs.length = k ∧ 0 ≤ t ∧ t ≤ 400 * k ∧ (∀ x ∈ ts, 0 ≤ x ∧ x ≤ t) ∧ wsOk S t ∧ minI S ts vs ∧
    Sep w0 [] [rowR aa k ca 22 1 (vU ts), rowR ab k cb 22 1 (vU vs), minR b W S.t0 S.v0 S.t1 S.v1 S.t2 S.v2 t] wx)
  case atStart => exact ⟨0, ⟨0, 18446744073709551615, 0, 18446744073709551615, 0, 18446744073709551615⟩, 0, [], [], none, none, 0, 0, by omega, by omega, by omega, rfl, rfl, rfl, rfl, rfl, rfl, by omega, by omega, by simp, by unfold wsOk; dsimp only; omega, .inl ⟨rfl, rfl⟩, hS⟩
  case round =>
    obtain ⟨k, S, t, ts, vs, aa, ab, ca, cb, hkg, hkl, hkv, rfl, rfl, rfl, rfl, hts, hvs, ht0, ht1, hall, hok, hI, hS⟩ := hrel
    generalize wr = w at hS ⊢
    by_cases hk : k < glen ∧ k < vlen ∧ k < 80
    · obtain ⟨hk1, hk2, hk3⟩ := hk
      obtain ⟨sb, so, scs, sT, sfz, gap, rfl, sbl, shh, shc, sgw, -⟩ := gs.int1 hk1
      obtain ⟨rb, ro, rcs, rT, rfz, v, rfl, rbl, rhh, rhc, vw, -⟩ := vs0.int1 hk2
      clear gs vs0
      obtain ⟨g0, g1⟩ := wf_u64 sgw
      obtain ⟨v0, v1⟩ := wf_u64 vw
      obtain ⟨d, hd, hd0, hd1⟩ := mod_any gap 400 (by omega)
      obtain ⟨M, hM⟩ : ∃ M, t + d = M := ⟨_, rfl⟩
      have hM0 : 0 ≤ M := by omega
      have hM1 : M ≤ 32000 := by omega
      have hok0 := hok
      obtain ⟨l0, l1, l2, l3, l4, l5, l6, l7⟩ := hok
      obtain ⟨S', hS'⟩ : ∃ S', wsUn W S M v = S' := ⟨_, rfl⟩
      have hok' : wsOk S' M := hS' ▸ wsUn_ok hok0 (by omega) (by omega)
      have kU := minUpdTo_ct b W S.t0 S.v0 S.t1 S.v1 S.t2 S.v2 t M v S' M hS' (by omega) hW0 (by omega) l0 l1 hM0 (by omega) l2 l4 l6
      obtain ⟨hI', hvb, j0, tj, hj1, hj2, hj3⟩ := minI_step (win := W) (M := M) (v := v) hI (by omega) hW0 hM0 v1
      rw [hS'] at hI' hvb hj2
      have hall' : ∀ x ∈ ts ++ [M], 0 ≤ x ∧ x ≤ M := by
        intro x hx
        rcases List.mem_append.1 hx with hx | hx
        · have := hall x hx; omega
        · simp at hx; omega
      have hlt : (ts ++ [M]).length = k + 1 := by simp [hts]
      have hlv : (vs ++ [v]).length = k + 1 := by simp [hvs]
      have hj0 : j0 < k + 1 := by rw [← hlt]; exact (List.getElem?_eq_some_iff.1 hj1).1
      clear hok0 hI hall hS' sgw vw
      go_wp2_with (first | go_skip | (refine ck_load hS rfl rfl rfl (by repeat (first | exact List.Mem.head _ | apply List.Mem.tail)) rfl (by decide +kernel) ?_; simp only [Act.put, List.setIfInBounds_toArray, List.set_cons_zero, List.set_cons_succ]) | (refine ck_store hS rfl rfl rfl (by constructor) (by repeat (first | exact Upd.here _ _ _ | apply Upd.there)) (by simp <;> omega) rfl (by decide +kernel) ?_; clear hS; intro w hS; simp only [Act.put, List.setIfInBounds_toArray, List.set_cons_zero, List.set_cons_succ] at hS ⊢) | (refine ck_box hS rfl rfl (by constructor) ?_; clear hS; intro nb w hS; simp only [Act.put, List.setIfInBounds_toArray, List.set_cons_zero, List.set_cons_succ]) | (refine ck_max rfl rfl rfl rfl ?_; simp only [Act.put, List.setIfInBounds_toArray, List.set_cons_zero, List.set_cons_succ]) | (refine ck_min rfl rfl rfl rfl ?_; simp only [Act.put, List.setIfInBounds_toArray, List.set_cons_zero, List.set_cons_succ]) | (refine ck_loadOld hS rfl rfl rfl sbl shh shc (by decide +kernel) ?_; simp only [Act.put, List.setIfInBounds_toArray, List.set_cons_zero, List.set_cons_succ]) | (refine ck_loadOld hS rfl rfl rfl rbl rhh rhc (by decide +kernel) ?_; simp only [Act.put, List.setIfInBounds_toArray, List.set_cons_zero, List.set_cons_succ]) | (refine ck_build1 (e := 22) hS rfl rfl (by constructor) rfl (by decide +kernel) ?_; clear hS; intro q w hS; simp only [Act.put, List.setIfInBounds_toArray, List.set_cons_zero, List.set_cons_succ]) | (refine ck_appendRow (e := 22) (sz := 1) (ad := aa) hS rfl rfl rfl rfl (by first | exact Rem.here _ _ | (apply Rem.there; first | exact Rem.here _ _ | (apply Rem.there; first | exact Rem.here _ _ | (apply Rem.there; first | exact Rem.here _ _ | (apply Rem.there; first | exact Rem.here _ _ | (apply Rem.there; first | exact Rem.here _ _ | (apply Rem.there; first | exact Rem.here _ _ | (apply Rem.there; first | exact Rem.here _ _ | (apply Rem.there; first | exact Rem.here _ _ | (apply Rem.there; first | exact Rem.here _ _ | (apply Rem.there; first | exact Rem.here _ _ | (apply Rem.there; first | exact Rem.here _ _ | (apply Rem.there; first | exact Rem.here _ _ | (apply Rem.there; first | exact Rem.here _ _ | (apply Rem.there; exact Rem.here _ _))))))))))))))) (by repeat (first | exact List.Mem.head _ | apply List.Mem.tail)) (by decide +kernel) rfl rfl (by simp) (by omega) ?_; clear hS; intro g1a c1a w hS; simp only [Act.put, List.setIfInBounds_toArray, List.set_cons_zero, List.set_cons_succ]) | (refine ck_appendRow (e := 22) (sz := 1) (ad := ab) hS rfl rfl rfl rfl (by first | exact Rem.here _ _ | (apply Rem.there; first | exact Rem.here _ _ | (apply Rem.there; first | exact Rem.here _ _ | (apply Rem.there; first | exact Rem.here _ _ | (apply Rem.there; first | exact Rem.here _ _ | (apply Rem.there; first | exact Rem.here _ _ | (apply Rem.there; first | exact Rem.here _ _ | (apply Rem.there; first | exact Rem.here _ _ | (apply Rem.there; first | exact Rem.here _ _ | (apply Rem.there; first | exact Rem.here _ _ | (apply Rem.there; first | exact Rem.here _ _ | (apply Rem.there; first | exact Rem.here _ _ | (apply Rem.there; first | exact Rem.here _ _ | (apply Rem.there; first | exact Rem.here _ _ | (apply Rem.there; exact Rem.here _ _))))))))))))))) (by repeat (first | exact List.Mem.head _ | apply List.Mem.tail)) (by decide +kernel) rfl rfl (by simp) (by omega) ?_; clear hS; intro g1b c1b w hS; simp only [Act.put, List.setIfInBounds_toArray, List.set_cons_zero, List.set_cons_succ]) | (go_at_call 21; (with_reducible refine Ct.callU (kU) (by repeat (first | exact Upd.here _ _ _ | apply Upd.there)) hS ?_) <;> (first | (clear hS; intro w hS) | omega)) | (refine ck_region (fun _ => 0) (fun _ => []) [] hS (by kernel_rfl) (by decide +kernel) ?_ ?_; exact ⟨fun _ _ _ h => h.2, fun _ _ h => h⟩; clear hS; intro w hS _; (repeat (first | (refine ckT_max rfl rfl rfl rfl ?_; simp only [Act.put, List.setIfInBounds_toArray, List.set_cons_zero, List.set_cons_succ]) | (refine ckT_min rfl rfl rfl rfl ?_; simp only [Act.put, List.setIfInBounds_toArray, List.set_cons_zero, List.set_cons_succ]) | (apply wpT_pure rfl rfl; (intro _; go_simp; (try (go_ints; (try go_simp))); (first | (rw [decide_eq_true]; omega) | (rw [decide_eq_false]; omega) | rfl)); simp only [Act.put, List.setIfInBounds_toArray, List.set_cons_zero, List.set_cons_succ]) | (refine ckT_load hS rfl rfl rfl (by simp) (by repeat (first | exact List.Mem.head _ | apply List.Mem.tail)) rfl (by decide +kernel) ?_; simp only [Act.put, List.setIfInBounds_toArray, List.set_cons_zero, List.set_cons_succ]) | (refine ckT_store hS rfl rfl rfl (by constructor) (by repeat (first | exact Upd.here _ _ _ | apply Upd.there)) (by simp) rfl (by decide +kernel) (by simp) ?_; clear hS; intro w hS; simp only [Act.put, List.setIfInBounds_toArray, List.set_cons_zero, List.set_cons_succ] at hS ⊢) | (refine wpT_skip rfl ?_; simp only [Act.put, List.setIfInBounds_toArray, List.set_cons_zero, List.set_cons_succ]) )); refine wpT_nil ?_))
      have e1 : vU vs ++ [.int .u64 v] = vU (vs ++ [v]) := by simp
      have e2 : vU ts ++ [.int .u64 M] = vU (ts ++ [M]) := by simp
      rw [e1, e2] at hS
      have hS1 := ((hS.bring (r := pts q [.int .u64 v] 22) (by first | exact Rem.here _ _ | (apply Rem.there; first | exact Rem.here _ _ | (apply Rem.there; first | exact Rem.here _ _ | (apply Rem.there; first | exact Rem.here _ _ | (apply Rem.there; first | exact Rem.here _ _ | (apply Rem.there; first | exact Rem.here _ _ | (apply Rem.there; first | exact Rem.here _ _ | (apply Rem.there; first | exact Rem.here _ _ | (apply Rem.there; first | exact Rem.here _ _ | (apply Rem.there; first | exact Rem.here _ _ | (apply Rem.there; first | exact Rem.here _ _ | (apply Rem.there; first | exact Rem.here _ _ | (apply Rem.there; first | exact Rem.here _ _ | (apply Rem.there; first | exact Rem.here _ _ | (apply Rem.there; exact Rem.here _ _)))))))))))))))).drop.bring (r := pts _ [.int .u64 M] 22) (by first | exact Rem.here _ _ | (apply Rem.there; first | exact Rem.here _ _ | (apply Rem.there; first | exact Rem.here _ _ | (apply Rem.there; first | exact Rem.here _ _ | (apply Rem.there; first | exact Rem.here _ _ | (apply Rem.there; first | exact Rem.here _ _ | (apply Rem.there; first | exact Rem.here _ _ | (apply Rem.there; first | exact Rem.here _ _ | (apply Rem.there; first | exact Rem.here _ _ | (apply Rem.there; first | exact Rem.here _ _ | (apply Rem.there; first | exact Rem.here _ _ | (apply Rem.there; first | exact Rem.here _ _ | (apply Rem.there; first | exact Rem.here _ _ | (apply Rem.there; first | exact Rem.here _ _ | (apply Rem.there; exact Rem.here _ _)))))))))))))))).drop
      clear hS e1 e2
      have hS := hS1
      clear hS1 kU l1 l2 l3 l4 l5 l6 l7
      generalize ts ++ [M] = Ts at *
      generalize vs ++ [v] = Vs at *
      obtain ⟨T0, B, T1, B1, T2, B2⟩ := S'
      dsimp only at hS hvb hj2
      go_loopg [14, 15] (k + 2) (fun g s14 s15 wx => ∃ (q : Nat) (sm : Bool), q + g = k + 2 ∧ q ≤ k + 1 ∧ s15 = .int .i64 q ∧ s14 = .bool sm ∧ (j0 < q → sm = true) ∧
        Sep w0 [] [rowR (some ⟨g1b, 0, none⟩) (k + 1) c1b 22 1 (vU Vs), rowR (some ⟨g1a, 0, none⟩) (k + 1) c1a 22 1 (vU Ts), minR b W T0 B T1 B1 T2 B2 M] wx)
      case atStart => exact ⟨0, false, by omega, by omega, rfl, rfl, fun h => by omega, hS⟩
      case round =>
        obtain ⟨q, sm, hqg, hqk, rfl, rfl, hj, hS⟩ := hrel
        generalize wr = w at hS ⊢
        by_cases hq : q < k + 1
        · obtain ⟨x, hx⟩ : ∃ x, Ts[q]? = some x := ⟨Ts[q]'(by omega), List.getElem?_eq_getElem (by omega)⟩
          obtain ⟨y, hy⟩ : ∃ y, Vs[q]? = some y := ⟨Vs[q]'(by omega), List.getElem?_eq_getElem (by omega)⟩
          have hx' : (vU Ts)[q]? = some (.int .u64 x) := by simp [hx]
          have hy' : (vU Vs)[q]? = some (.int .u64 y) := by simp [hy]
          obtain ⟨x0, x1⟩ := hall' x (List.mem_of_getElem? hx)
          have hjq : j0 = q → M - x ≤ W ∧ y = B := by
            intro e; subst e
            rw [hx] at hj1; rw [hy] at hj2
            injection hj1 with hj1; injection hj2 with hj2
            omega
          clear hj1 hj2 hx hy hall'
          cases sm
          · have hnj : ¬ j0 < q := fun h => by cases hj h
            by_cases d : y = B
            · have e : (y == B) = true := beq_iff_eq.2 d
              by_cases c : M - x ≤ W
              · clear d hjq hj
                go_wp2_with (first | go_skip | (refine ck_load hS rfl rfl rfl (by repeat (first | exact List.Mem.head _ | apply List.Mem.tail)) rfl (by decide +kernel) ?_; simp only [Act.put, List.setIfInBounds_toArray, List.set_cons_zero, List.set_cons_succ]) | (refine ck_store hS rfl rfl rfl (by constructor) (by repeat (first | exact Upd.here _ _ _ | apply Upd.there)) (by simp <;> omega) rfl (by decide +kernel) ?_; clear hS; intro w hS; simp only [Act.put, List.setIfInBounds_toArray, List.set_cons_zero, List.set_cons_succ] at hS ⊢) | (refine ck_box hS rfl rfl (by constructor) ?_; clear hS; intro nb w hS; simp only [Act.put, List.setIfInBounds_toArray, List.set_cons_zero, List.set_cons_succ]) | (refine ck_max rfl rfl rfl rfl ?_; simp only [Act.put, List.setIfInBounds_toArray, List.set_cons_zero, List.set_cons_succ]) | (refine ck_min rfl rfl rfl rfl ?_; simp only [Act.put, List.setIfInBounds_toArray, List.set_cons_zero, List.set_cons_succ]) | (refine ck_loadRow hS rfl rfl rfl (by repeat (first | exact List.Mem.head _ | apply List.Mem.tail)) hx' (by decide +kernel) ?_; simp only [Act.put, List.setIfInBounds_toArray, List.set_cons_zero, List.set_cons_succ]) | (refine ck_loadRow hS rfl rfl rfl (by repeat (first | exact List.Mem.head _ | apply List.Mem.tail)) hy' (by decide +kernel) ?_; simp only [Act.put, List.setIfInBounds_toArray, List.set_cons_zero, List.set_cons_succ]) | (refine ck_region (fun _ => 0) (fun _ => []) [] hS (by kernel_rfl) (by decide +kernel) ?_ ?_; exact ⟨fun _ _ _ h => h.2, fun _ _ h => h⟩; clear hS; intro w hS _; (repeat (first | (refine ckT_max rfl rfl rfl rfl ?_; simp only [Act.put, List.setIfInBounds_toArray, List.set_cons_zero, List.set_cons_succ]) | (refine ckT_min rfl rfl rfl rfl ?_; simp only [Act.put, List.setIfInBounds_toArray, List.set_cons_zero, List.set_cons_succ]) | (apply wpT_pure rfl rfl; (intro _; go_simp; (try (go_ints; (try go_simp))); (first | (rw [decide_eq_true]; omega) | (rw [decide_eq_false]; omega) | rfl)); simp only [Act.put, List.setIfInBounds_toArray, List.set_cons_zero, List.set_cons_succ]) | (refine ckT_load hS rfl rfl rfl (by simp) (by repeat (first | exact List.Mem.head _ | apply List.Mem.tail)) rfl (by decide +kernel) ?_; simp only [Act.put, List.setIfInBounds_toArray, List.set_cons_zero, List.set_cons_succ]) | (refine ckT_store hS rfl rfl rfl (by constructor) (by repeat (first | exact Upd.here _ _ _ | apply Upd.there)) (by simp) rfl (by decide +kernel) (by simp) ?_; clear hS; intro w hS; simp only [Act.put, List.setIfInBounds_toArray, List.set_cons_zero, List.set_cons_succ] at hS ⊢) | (refine wpT_skip rfl ?_; simp only [Act.put, List.setIfInBounds_toArray, List.set_cons_zero, List.set_cons_succ]) )); refine wpT_nil ?_))
                go_roundg (k + 1 - q)
                case rel => exact ⟨q + 1, true, by omega, by omega, by go_num, rfl, fun _ => rfl, hS⟩
                case measure => omega
              · have hj' : ¬ j0 < q + 1 := fun h => c (hjq (by omega)).1
                clear d hjq hj
                go_wp2_with (first | go_skip | (refine ck_load hS rfl rfl rfl (by repeat (first | exact List.Mem.head _ | apply List.Mem.tail)) rfl (by decide +kernel) ?_; simp only [Act.put, List.setIfInBounds_toArray, List.set_cons_zero, List.set_cons_succ]) | (refine ck_store hS rfl rfl rfl (by constructor) (by repeat (first | exact Upd.here _ _ _ | apply Upd.there)) (by simp <;> omega) rfl (by decide +kernel) ?_; clear hS; intro w hS; simp only [Act.put, List.setIfInBounds_toArray, List.set_cons_zero, List.set_cons_succ] at hS ⊢) | (refine ck_box hS rfl rfl (by constructor) ?_; clear hS; intro nb w hS; simp only [Act.put, List.setIfInBounds_toArray, List.set_cons_zero, List.set_cons_succ]) | (refine ck_max rfl rfl rfl rfl ?_; simp only [Act.put, List.setIfInBounds_toArray, List.set_cons_zero, List.set_cons_succ]) | (refine ck_min rfl rfl rfl rfl ?_; simp only [Act.put, List.setIfInBounds_toArray, List.set_cons_zero, List.set_cons_succ]) | (refine ck_loadRow hS rfl rfl rfl (by repeat (first | exact List.Mem.head _ | apply List.Mem.tail)) hx' (by decide +kernel) ?_; simp only [Act.put, List.setIfInBounds_toArray, List.set_cons_zero, List.set_cons_succ]) | (refine ck_loadRow hS rfl rfl rfl (by repeat (first | exact List.Mem.head _ | apply List.Mem.tail)) hy' (by decide +kernel) ?_; simp only [Act.put, List.setIfInBounds_toArray, List.set_cons_zero, List.set_cons_succ]) | (refine ck_region (fun _ => 0) (fun _ => []) [] hS (by kernel_rfl) (by decide +kernel) ?_ ?_; exact ⟨fun _ _ _ h => h.2, fun _ _ h => h⟩; clear hS; intro w hS _; (repeat (first | (refine ckT_max rfl rfl rfl rfl ?_; simp only [Act.put, List.setIfInBounds_toArray, List.set_cons_zero, List.set_cons_succ]) | (refine ckT_min rfl rfl rfl rfl ?_; simp only [Act.put, List.setIfInBounds_toArray, List.set_cons_zero, List.set_cons_succ]) | (apply wpT_pure rfl rfl; (intro _; go_simp; (try (go_ints; (try go_simp))); (first | (rw [decide_eq_true]; omega) | (rw [decide_eq_false]; omega) | rfl)); simp only [Act.put, List.setIfInBounds_toArray, List.set_cons_zero, List.set_cons_succ]) | (refine ckT_load hS rfl rfl rfl (by simp) (by repeat (first | exact List.Mem.head _ | apply List.Mem.tail)) rfl (by decide +kernel) ?_; simp only [Act.put, List.setIfInBounds_toArray, List.set_cons_zero, List.set_cons_succ]) | (refine ckT_store hS rfl rfl rfl (by constructor) (by repeat (first | exact Upd.here _ _ _ | apply Upd.there)) (by simp) rfl (by decide +kernel) (by simp) ?_; clear hS; intro w hS; simp only [Act.put, List.setIfInBounds_toArray, List.set_cons_zero, List.set_cons_succ] at hS ⊢) | (refine wpT_skip rfl ?_; simp only [Act.put, List.setIfInBounds_toArray, List.set_cons_zero, List.set_cons_succ]) )); refine wpT_nil ?_))
                go_roundg (k + 1 - q)
                case rel => exact ⟨q + 1, false, by omega, by omega, by go_num, rfl, fun h => absurd h hj', hS⟩
                case measure => omega
            · have e : (y == B) = false := beq_eq_false_iff_ne.2 d
              have hj' : ¬ j0 < q + 1 := fun h => d (hjq (by omega)).2
              clear d hjq hj
              go_wp2_with (first | go_skip | (refine ck_load hS rfl rfl rfl (by repeat (first | exact List.Mem.head _ | apply List.Mem.tail)) rfl (by decide +kernel) ?_; simp only [Act.put, List.setIfInBounds_toArray, List.set_cons_zero, List.set_cons_succ]) | (refine ck_store hS rfl rfl rfl (by constructor) (by repeat (first | exact Upd.here _ _ _ | apply Upd.there)) (by simp <;> omega) rfl (by decide +kernel) ?_; clear hS; intro w hS; simp only [Act.put, List.setIfInBounds_toArray, List.set_cons_zero, List.set_cons_succ] at hS ⊢) | (refine ck_box hS rfl rfl (by constructor) ?_; clear hS; intro nb w hS; simp only [Act.put, List.setIfInBounds_toArray, List.set_cons_zero, List.set_cons_succ]) | (refine ck_max rfl rfl rfl rfl ?_; simp only [Act.put, List.setIfInBounds_toArray, List.set_cons_zero, List.set_cons_succ]) | (refine ck_min rfl rfl rfl rfl ?_; simp only [Act.put, List.setIfInBounds_toArray, List.set_cons_zero, List.set_cons_succ]) | (refine ck_loadRow hS rfl rfl rfl (by repeat (first | exact List.Mem.head _ | apply List.Mem.tail)) hx' (by decide +kernel) ?_; simp only [Act.put, List.setIfInBounds_toArray, List.set_cons_zero, List.set_cons_succ]) | (refine ck_loadRow hS rfl rfl rfl (by repeat (first | exact List.Mem.head _ | apply List.Mem.tail)) hy' (by decide +kernel) ?_; simp only [Act.put, List.setIfInBounds_toArray, List.set_cons_zero, List.set_cons_succ]) | (refine ck_region (fun _ => 0) (fun _ => []) [] hS (by kernel_rfl) (by decide +kernel) ?_ ?_; exact ⟨fun _ _ _ h => h.2, fun _ _ h => h⟩; clear hS; intro w hS _; (repeat (first | (refine ckT_max rfl rfl rfl rfl ?_; simp only [Act.put, List.setIfInBounds_toArray, List.set_cons_zero, List.set_cons_succ]) | (refine ckT_min rfl rfl rfl rfl ?_; simp only [Act.put, List.setIfInBounds_toArray, List.set_cons_zero, List.set_cons_succ]) | (apply wpT_pure rfl rfl; (intro _; go_simp; (try (go_ints; (try go_simp))); (first | (rw [decide_eq_true]; omega) | (rw [decide_eq_false]; omega) | rfl)); simp only [Act.put, List.setIfInBounds_toArray, List.set_cons_zero, List.set_cons_succ]) | (refine ckT_load hS rfl rfl rfl (by simp) (by repeat (first | exact List.Mem.head _ | apply List.Mem.tail)) rfl (by decide +kernel) ?_; simp only [Act.put, List.setIfInBounds_toArray, List.set_cons_zero, List.set_cons_succ]) | (refine ckT_store hS rfl rfl rfl (by constructor) (by repeat (first | exact Upd.here _ _ _ | apply Upd.there)) (by simp) rfl (by decide +kernel) (by simp) ?_; clear hS; intro w hS; simp only [Act.put, List.setIfInBounds_toArray, List.set_cons_zero, List.set_cons_succ] at hS ⊢) | (refine wpT_skip rfl ?_; simp only [Act.put, List.setIfInBounds_toArray, List.set_cons_zero, List.set_cons_succ]) )); refine wpT_nil ?_))
              go_roundg (k + 1 - q)
              case rel => exact ⟨q + 1, false, by omega, by omega, by go_num, rfl, fun h => absurd h hj', hS⟩
              case measure => omega
          · clear hjq hj
            go_wp2_with (first | go_skip | (refine ck_load hS rfl rfl rfl (by repeat (first | exact List.Mem.head _ | apply List.Mem.tail)) rfl (by decide +kernel) ?_; simp only [Act.put, List.setIfInBounds_toArray, List.set_cons_zero, List.set_cons_succ]) | (refine ck_store hS rfl rfl rfl (by constructor) (by repeat (first | exact Upd.here _ _ _ | apply Upd.there)) (by simp <;> omega) rfl (by decide +kernel) ?_; clear hS; intro w hS; simp only [Act.put, List.setIfInBounds_toArray, List.set_cons_zero, List.set_cons_succ] at hS ⊢) | (refine ck_box hS rfl rfl (by constructor) ?_; clear hS; intro nb w hS; simp only [Act.put, List.setIfInBounds_toArray, List.set_cons_zero, List.set_cons_succ]) | (refine ck_max rfl rfl rfl rfl ?_; simp only [Act.put, List.setIfInBounds_toArray, List.set_cons_zero, List.set_cons_succ]) | (refine ck_min rfl rfl rfl rfl ?_; simp only [Act.put, List.setIfInBounds_toArray, List.set_cons_zero, List.set_cons_succ]) | (refine ck_loadRow hS rfl rfl rfl (by repeat (first | exact List.Mem.head _ | apply List.Mem.tail)) hx' (by decide +kernel) ?_; simp only [Act.put, List.setIfInBounds_toArray, List.set_cons_zero, List.set_cons_succ]) | (refine ck_loadRow hS rfl rfl rfl (by repeat (first | exact List.Mem.head _ | apply List.Mem.tail)) hy' (by decide +kernel) ?_; simp only [Act.put, List.setIfInBounds_toArray, List.set_cons_zero, List.set_cons_succ]) | (refine ck_region (fun _ => 0) (fun _ => []) [] hS (by kernel_rfl) (by decide +kernel) ?_ ?_; exact ⟨fun _ _ _ h => h.2, fun _ _ h => h⟩; clear hS; intro w hS _; (repeat (first | (refine ckT_max rfl rfl rfl rfl ?_; simp only [Act.put, List.setIfInBounds_toArray, List.set_cons_zero, List.set_cons_succ]) | (refine ckT_min rfl rfl rfl rfl ?_; simp only [Act.put, List.setIfInBounds_toArray, List.set_cons_zero, List.set_cons_succ]) | (apply wpT_pure rfl rfl; (intro _; go_simp; (try (go_ints; (try go_simp))); (first | (rw [decide_eq_true]; omega) | (rw [decide_eq_false]; omega) | rfl)); simp only [Act.put, List.setIfInBounds_toArray, List.set_cons_zero, List.set_cons_succ]) | (refine ckT_load hS rfl rfl rfl (by simp) (by repeat (first | exact List.Mem.head _ | apply List.Mem.tail)) rfl (by decide +kernel) ?_; simp only [Act.put, List.setIfInBounds_toArray, List.set_cons_zero, List.set_cons_succ]) | (refine ckT_store hS rfl rfl rfl (by constructor) (by repeat (first | exact Upd.here _ _ _ | apply Upd.there)) (by simp) rfl (by decide +kernel) (by simp) ?_; clear hS; intro w hS; simp only [Act.put, List.setIfInBounds_toArray, List.set_cons_zero, List.set_cons_succ] at hS ⊢) | (refine wpT_skip rfl ?_; simp only [Act.put, List.setIfInBounds_toArray, List.set_cons_zero, List.set_cons_succ]) )); refine wpT_nil ?_))
            go_roundg (k + 1 - q)
            case rel => exact ⟨q + 1, true, by omega, by omega, by go_num, rfl, fun _ => rfl, hS⟩
            case measure => omega
        · obtain rfl := hj (by omega)
          have hq2 : q = k + 1 := by omega
          subst hq2
          clear hj1 hj2 hj
          go_wp2_with (first | go_skip | (refine ck_load hS rfl rfl rfl (by repeat (first | exact List.Mem.head _ | apply List.Mem.tail)) rfl (by decide +kernel) ?_; simp only [Act.put, List.setIfInBounds_toArray, List.set_cons_zero, List.set_cons_succ]) | (refine ck_store hS rfl rfl rfl (by constructor) (by repeat (first | exact Upd.here _ _ _ | apply Upd.there)) (by simp <;> omega) rfl (by decide +kernel) ?_; clear hS; intro w hS; simp only [Act.put, List.setIfInBounds_toArray, List.set_cons_zero, List.set_cons_succ] at hS ⊢) | (refine ck_box hS rfl rfl (by constructor) ?_; clear hS; intro nb w hS; simp only [Act.put, List.setIfInBounds_toArray, List.set_cons_zero, List.set_cons_succ]) | (refine ck_max rfl rfl rfl rfl ?_; simp only [Act.put, List.setIfInBounds_toArray, List.set_cons_zero, List.set_cons_succ]) | (refine ck_min rfl rfl rfl rfl ?_; simp only [Act.put, List.setIfInBounds_toArray, List.set_cons_zero, List.set_cons_succ]) | (go_at_call 22; (with_reducible refine Ct.callU (minBest_ct _ _ _ _ _ _ _ _ _) (by repeat (first | exact Upd.here _ _ _ | apply Upd.there)) hS ?_) <;> (first | (clear hS; intro w hS) | omega)) | (refine ck_region (fun _ => 0) (fun _ => []) [] hS (by kernel_rfl) (by decide +kernel) ?_ ?_; exact ⟨fun _ _ _ h => h.2, fun _ _ h => h⟩; clear hS; intro w hS _; (repeat (first | (refine ckT_max rfl rfl rfl rfl ?_; simp only [Act.put, List.setIfInBounds_toArray, List.set_cons_zero, List.set_cons_succ]) | (refine ckT_min rfl rfl rfl rfl ?_; simp only [Act.put, List.setIfInBounds_toArray, List.set_cons_zero, List.set_cons_succ]) | (apply wpT_pure rfl rfl; (intro _; go_simp; (try (go_ints; (try go_simp))); (first | (rw [decide_eq_true]; omega) | (rw [decide_eq_false]; omega) | rfl)); simp only [Act.put, List.setIfInBounds_toArray, List.set_cons_zero, List.set_cons_succ]) | (refine ckT_load hS rfl rfl rfl (by simp) (by repeat (first | exact List.Mem.head _ | apply List.Mem.tail)) rfl (by decide +kernel) ?_; simp only [Act.put, List.setIfInBounds_toArray, List.set_cons_zero, List.set_cons_succ]) | (refine ckT_store hS rfl rfl rfl (by constructor) (by repeat (first | exact Upd.here _ _ _ | apply Upd.there)) (by simp) rfl (by decide +kernel) (by simp) ?_; clear hS; intro w hS; simp only [Act.put, List.setIfInBounds_toArray, List.set_cons_zero, List.set_cons_succ] at hS ⊢) | (refine wpT_skip rfl ?_; simp only [Act.put, List.setIfInBounds_toArray, List.set_cons_zero, List.set_cons_succ]) )); refine wpT_nil ?_))
          go_roundg (80 - k)
          case rel => exact ⟨k + 1, ⟨T0, B, T1, B1, T2, B2⟩, M, Ts, Vs, some ⟨g1a, 0, none⟩, some ⟨g1b, 0, none⟩, c1a, c1b, by omega, by omega, by omega, by go_num, rfl, rfl, rfl, hlt, hlv, hM0, by omega, hall', hok', hI', (hS.bring (by first | exact Rem.here _ _ | (apply Rem.there; first | exact Rem.here _ _ | (apply Rem.there; first | exact Rem.here _ _ | (apply Rem.there; first | exact Rem.here _ _ | (apply Rem.there; first | exact Rem.here _ _ | (apply Rem.there; first | exact Rem.here _ _ | (apply Rem.there; first | exact Rem.here _ _ | (apply Rem.there; first | exact Rem.here _ _ | (apply Rem.there; first | exact Rem.here _ _ | (apply Rem.there; first | exact Rem.here _ _ | (apply Rem.there; first | exact Rem.here _ _ | (apply Rem.there; first | exact Rem.here _ _ | (apply Rem.there; first | exact Rem.here _ _ | (apply Rem.there; first | exact Rem.here _ _ | (apply Rem.there; exact Rem.here _ _)))))))))))))))).perm (List.Perm.refl _)⟩
          case measure => omega
    · clear gs vs0
      by_cases h1 : k < glen
      · by_cases h2 : k < vlen
        all_goals
          go_wp2_with (first | go_skip | (refine ck_load hS rfl rfl rfl (by repeat (first | exact List.Mem.head _ | apply List.Mem.tail)) rfl (by decide +kernel) ?_; simp only [Act.put, List.setIfInBounds_toArray, List.set_cons_zero, List.set_cons_succ]) | (refine ck_store hS rfl rfl rfl (by constructor) (by repeat (first | exact Upd.here _ _ _ | apply Upd.there)) (by simp <;> omega) rfl (by decide +kernel) ?_; clear hS; intro w hS; simp only [Act.put, List.setIfInBounds_toArray, List.set_cons_zero, List.set_cons_succ] at hS ⊢) | (refine ck_box hS rfl rfl (by constructor) ?_; clear hS; intro nb w hS; simp only [Act.put, List.setIfInBounds_toArray, List.set_cons_zero, List.set_cons_succ]) | (refine ck_max rfl rfl rfl rfl ?_; simp only [Act.put, List.setIfInBounds_toArray, List.set_cons_zero, List.set_cons_succ]) | (refine ck_min rfl rfl rfl rfl ?_; simp only [Act.put, List.setIfInBounds_toArray, List.set_cons_zero, List.set_cons_succ])  | (refine ck_region (fun _ => 0) (fun _ => []) [] hS (by kernel_rfl) (by decide +kernel) ?_ ?_; exact ⟨fun _ _ _ h => h.2, fun _ _ h => h⟩; clear hS; intro w hS _; (repeat (first | (refine ckT_max rfl rfl rfl rfl ?_; simp only [Act.put, List.setIfInBounds_toArray, List.set_cons_zero, List.set_cons_succ]) | (refine ckT_min rfl rfl rfl rfl ?_; simp only [Act.put, List.setIfInBounds_toArray, List.set_cons_zero, List.set_cons_succ]) | (apply wpT_pure rfl rfl; (intro _; go_simp; (try (go_ints; (try go_simp))); (first | (rw [decide_eq_true]; omega) | (rw [decide_eq_false]; omega) | rfl)); simp only [Act.put, List.setIfInBounds_toArray, List.set_cons_zero, List.set_cons_succ]) | (refine ckT_load hS rfl rfl rfl (by simp) (by repeat (first | exact List.Mem.head _ | apply List.Mem.tail)) rfl (by decide +kernel) ?_; simp only [Act.put, List.setIfInBounds_toArray, List.set_cons_zero, List.set_cons_succ]) | (refine ckT_store hS rfl rfl rfl (by constructor) (by repeat (first | exact Upd.here _ _ _ | apply Upd.there)) (by simp) rfl (by decide +kernel) (by simp) ?_; clear hS; intro w hS; simp only [Act.put, List.setIfInBounds_toArray, List.set_cons_zero, List.set_cons_succ] at hS ⊢) | (refine wpT_skip rfl ?_; simp only [Act.put, List.setIfInBounds_toArray, List.set_cons_zero, List.set_cons_succ]) )); refine wpT_nil ?_))
          go_ret
          exact ⟨[], rfl, hS.dropN 100⟩
      · go_wp2_with (first | go_skip | (refine ck_load hS rfl rfl rfl (by repeat (first | exact List.Mem.head _ | apply List.Mem.tail)) rfl (by decide +kernel) ?_; simp only [Act.put, List.setIfInBounds_toArray, List.set_cons_zero, List.set_cons_succ]) | (refine ck_store hS rfl rfl rfl (by constructor) (by repeat (first | exact Upd.here _ _ _ | apply Upd.there)) (by simp <;> omega) rfl (by decide +kernel) ?_; clear hS; intro w hS; simp only [Act.put, List.setIfInBounds_toArray, List.set_cons_zero, List.set_cons_succ] at hS ⊢) | (refine ck_box hS rfl rfl (by constructor) ?_; clear hS; intro nb w hS; simp only [Act.put, List.setIfInBounds_toArray, List.set_cons_zero, List.set_cons_succ]) | (refine ck_max rfl rfl rfl rfl ?_; simp only [Act.put, List.setIfInBounds_toArray, List.set_cons_zero, List.set_cons_succ]) | (refine ck_min rfl rfl rfl rfl ?_; simp only [Act.put, List.setIfInBounds_toArray, List.set_cons_zero, List.set_cons_succ])  | (refine ck_region (fun _ => 0) (fun _ => []) [] hS (by kernel_rfl) (by decide +kernel) ?_ ?_; exact ⟨fun _ _ _ h => h.2, fun _ _ h => h⟩; clear hS; intro w hS _; (repeat (first | (refine ckT_max rfl rfl rfl rfl ?_; simp only [Act.put, List.setIfInBounds_toArray, List.set_cons_zero, List.set_cons_succ]) | (refine ckT_min rfl rfl rfl rfl ?_; simp only [Act.put, List.setIfInBounds_toArray, List.set_cons_zero, List.set_cons_succ]) | (apply wpT_pure rfl rfl; (intro _; go_simp; (try (go_ints; (try go_simp))); (first | (rw [decide_eq_true]; omega) | (rw [decide_eq_false]; omega) | rfl)); simp only [Act.put, List.setIfInBounds_toArray, List.set_cons_zero, List.set_cons_succ]) | (refine ckT_load hS rfl rfl rfl (by simp) (by repeat (first | exact List.Mem.head _ | apply List.Mem.tail)) rfl (by decide +kernel) ?_; simp only [Act.put, List.setIfInBounds_toArray, List.set_cons_zero, List.set_cons_succ]) | (refine ckT_store hS rfl rfl rfl (by constructor) (by repeat (first | exact Upd.here _ _ _ | apply Upd.there)) (by simp) rfl (by decide +kernel) (by simp) ?_; clear hS; intro w hS; simp only [Act.put, List.setIfInBounds_toArray, List.set_cons_zero, List.set_cons_succ] at hS ⊢) | (refine wpT_skip rfl ?_; simp only [Act.put, List.setIfInBounds_toArray, List.set_cons_zero, List.set_cons_succ]) )); refine wpT_nil ?_))
        go_ret
        exact ⟨[], rfl, hS.dropN 100⟩
namespace winminBounds
open Go.ChangeShapes Go.WideShapes Go.ChangeAt Go.RowKit
open Go.ChangeMaps (open_string shut_string)
theorem own : ownKnob Try.prog.godebug = none := by kernel_rfl
theorem laidOut : laidOutB Try.prog = true := by kernel_rfl
set_option maxRecDepth 100000 in
theorem lifted (os : Os) (started : os.Started) (H : Type) (enc : TypeId × Value → H) :
    ReturnsInHanded {} Try.checked os 8 .any (Rows.winminBoundsSpec.pre6 enc Try.prog Try.f8 Rows.winminBoundsRow.domain false) (Rows.winminBoundsSpec.post enc Try.prog Try.f8 false true false false) := by
  refine returnsInHanded_of_change (C := Try.checked) own started (by kernel_rfl) Try.func8
    (ChangeSpec.witness6 (enc := enc) (C := Try.checked) false ⟨#[], #[.int .u64 0, .slice none 0 0, .slice none 0 0], []⟩ 8 (by kernel_rfl) (by kernel_rfl) (by kernel_rfl) (by kernel_rfl)) ?_
  intro W base args ds gs before hval0 hW hcnd _
  have hval : ∀ (j : Nat) t v, Try.f8.params[j]? = some t → args[j]? = some v → Value.okWide Try.prog W .any base t v := hval0
  have hW' := hW
  obtain ⟨p, q, hA0, hV, rfl, hfz, hnd⟩ := hW
  have hA : DataW.TrodAll enc Try.prog W 0 (fun _ => true) true Try.f8.params.toList args.toList ds p := hA0
  rw [Try.params8] at hA hval
  obtain ⟨v0, vs0, d0, ds0, p0, q0, hargs, rfl, rfl, h0, r0⟩ := trodAll_cons hA
  obtain ⟨v1, vs1, d1, ds1, p1, q1, rfl, rfl, rfl, h1, r1⟩ := trodAll_cons r0
  obtain ⟨v2, vs2, d2, ds2, p2, q2, rfl, rfl, rfl, h2, r2⟩ := trodAll_cons r1
  obtain ⟨rfl, rfl, rfl⟩ := trodAll_nil r2
  obtain rfl : args = #[v0, v1, v2] := by cases args; simp_all
  obtain ⟨rfl, rfl⟩ := trodVars_none hV
  obtain ⟨a0, rfl, rfl, rfl, w0⟩ := open_int Try.underlying22 (hval 0 22 v0 rfl rfl) h0
  obtain ⟨a1, len1, cap1, rfl⟩ := okWide_slice Try.underlying38 (hval 1 38 v1 rfl rfl)
  have k1 := h1
  have lt1 : ∀ x ∈ p1, x.block < W.heap.size := by obtain ⟨m, hm⟩ := k1; exact DataW.trod_lt m _ _ _ hm
  obtain ⟨z1, s1⟩ : ∃ zs, ArgSl W [(.int .u64)] a1 len1 zs := by
    obtain ⟨fuel, hf⟩ := h1
    exact open_argsl1 Try.underlying38 (e := 22) (by kernel_rfl) (by kernel_rfl) hf
  obtain ⟨a2, len2, cap2, rfl⟩ := okWide_slice Try.underlying38 (hval 2 38 v2 rfl rfl)
  have k2 := h2
  have lt2 : ∀ x ∈ p2, x.block < W.heap.size := by obtain ⟨m, hm⟩ := k2; exact DataW.trod_lt m _ _ _ hm
  obtain ⟨z2, s2⟩ : ∃ zs, ArgSl W [(.int .u64)] a2 len2 zs := by
    obtain ⟨fuel, hf⟩ := h2
    exact open_argsl1 Try.underlying38 (e := 22) (by kernel_rfl) (by kernel_rfl) hf
  clear hA0 hval0
  refine (winminBounds_walk W a0 (wf_u64 w0).1 (wf_u64 w0).2 a1 len1 cap1 z1 s1 a2 len2 cap2 z2 s2).mono fun e W' hR => ?_
  obtain ⟨he, bel⟩ := LawR.out hR
  subst he
  exact ⟨_, rfl, _, _, _, [], _, [], hW', trodAll_mk1 (shut_bool Try.underlying4 _), (trodAll_cons_mk (shut_int Try.underlying22 w0) (trodAll_cons_mk (Below.trod laidOut (by kernel_rfl) (of_decide_eq_true (by kernel_rfl)) k1 bel lt1) (trodAll_cons_mk (Below.trod laidOut (by kernel_rfl) (of_decide_eq_true (by kernel_rfl)) k2 bel lt2) trodAll_mk0))), rfl, bel.frame _, fun h => by cases h⟩
theorem over : Rows.winminBoundsRow.holds Try.pinned (OpenSpec.ofChange Rows.winminBoundsSpec) :=
  OpenClaim.holds_of_wide 8 Try.f8 rfl rfl rfl rfl rfl rfl rfl ⟨rfl, rfl, rfl, rfl, rfl⟩ rfl rfl rfl rfl rfl (by kernel_rfl) Try.func8 (by kernel_rfl)
    (of_decide_eq_true (by kernel_rfl)) (by unfold Func.isWrapper; first | (rw [if_pos (by decide +kernel)]; kernel_rfl) | (rw [if_neg (by decide +kernel)]; exact ⟨rfl, rfl⟩))
    (fun os started H enc _ => lifted os started H enc)
theorem proved : Rows.WinminBoundsSaid := over
#print axioms proved
end winminBounds
end Go.Proofs.Ytjamnhdgekccnaa
