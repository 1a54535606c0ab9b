/- The frame of a law's row: what its arguments hold, and that the call leaves them as they were. -/
import Derived.Test.YtchejceolnbcbaaCkWalk
import Derived.ProofKit
import Derived.OpenShut
import Derived.Deep.Slices
import Derived.Deep.Fields
import Derived.ChangeSame
import Derived.Carry
set_option linter.unusedVariables false
set_option linter.unusedSimpArgs false
namespace Go.Proofs.Ytchejceolnbcbaa
open Go.RowKit Go.ChangeShapes Go.WideShapes Go.Deep

/-- The kinds of cells that arguments hold. -/
inductive FK where
  | int (k : IntKind)
  | bool
def FK.ok : FK → Value → Prop
  | .int k, v => ∃ n, v = .int k n ∧ (Lit.int k n).wf = true
  | .bool, v => ∃ b, v = .bool b
def fksOk : List FK → List Value → Prop
  | [], [] => True
  | k :: ks, v :: vs => k.ok v ∧ fksOk ks vs
  | _, _ => False
def FK.ty (P : Program) (t : TypeId) : FK → Bool
  | .int k => match P.underlying t with | some (.int k') => decide (k = k') | _ => false
  | .bool => match P.underlying t with | some .bool => true | _ => false
def fksTy (P : Program) (fs : Array Field) (ks : List FK) : Bool := decide (fs.size = ks.length) && (List.range fs.size).all fun j => match fs[j]?, ks[j]? with
  | some f, some k => k.ty P f.type
  | _, _ => false

theorem fksOk_of : ∀ (ks : List FK) (vs : List Value), ks.length = vs.length → (∀ (j : Nat) (k : FK) (v : Value), ks[j]? = some k → vs[j]? = some v → k.ok v) → fksOk ks vs
  | [], [], _, _ => trivial
  | [], _ :: _, h, _ => by simp at h
  | _ :: _, [], h, _ => by simp at h
  | k :: ks, v :: vs, h, hh => ⟨hh 0 k v rfl rfl, fksOk_of ks vs (by simpa using h) fun j k' v' h1 h2 => hh (j + 1) k' v' (by simpa using h1) (by simpa using h2)⟩

/-- A slice that came in: its elements, cell by cell. -/
structure ArgSl (w : World) (ks : List FK) (a : Option Addr) (len : Nat) (zs : List (List Value)) : Prop where
  hlen : zs.length = len
  small : len ≤ 9223372036854775807
  typed : ∀ e ∈ zs, fksOk ks e
  at_ : ∀ (i : Nat) (e : List Value), zs[i]? = some e → ∃ (b off : Nat) (cs : Array Value) (T : TypeId) (fz : Nat × Nat), a = some ⟨b, off, none⟩ ∧ b < w.heap.size ∧ w.heap[b]? = some (.cells cs T fz) ∧ ∀ (j : Nat) (v : Value), e[j]? = some v → cs[off + (i * ks.length + j)]? = some v

section
variable {H : Type} {enc : TypeId × Value → H} {P : Program} {w : World} {base : Nat} {spare : Nat → Bool} {held : Bool}

theorem trod_fk {k : FK} {t : TypeId} {v : Value} {fuel : Nat} {x : DataW H × List MemPlace} (ht : k.ty P t = true) (h : DataW.trod enc P w base spare held fuel t [v] = some x) : k.ok v := by
  cases k with
  | int k =>
    cases hu : P.underlying t with
    | none => simp [FK.ty, hu] at ht
    | some d =>
      cases d <;> simp [FK.ty, hu] at ht
      subst ht
      obtain ⟨n, h1, _, h2⟩ := DataW.trod_int hu h
      exact ⟨n, by simpa using h1, h2⟩
  | bool =>
    cases hu : P.underlying t with
    | none => simp [FK.ty, hu] at ht
    | some d =>
      cases d <;> simp [FK.ty, hu] at ht
      obtain ⟨b, h1, _⟩ := DataW.trod_bool hu h
      exact ⟨b, by simpa using h1⟩

theorem cell_block {A : Addr} {v : Value} (h : w.cell? A = some v) : A.spot = none ∧ A.block < w.heap.size ∧ ∃ cs T fz, w.heap[A.block]? = some (.cells cs T fz) ∧ cs[A.off]? = some v := by
  unfold World.cell? at h
  split at h
  · rename_i c e f hb
    cases hs : A.spot with
    | some x => simp [hs] at h
    | none =>
      simp [hs] at h
      exact ⟨rfl, (Array.getElem?_eq_some_iff.1 hb).1, c, e, f, hb, h⟩
  · simp at h

/-- From the cells of each element to 'ArgSl'. -/
theorem argsl_mk {ks : List FK} {A : Addr} {len : Nat} {zs : List (List Value)} (hk : ks ≠ []) (hl : zs.length = len) (hsm : len ≤ 9223372036854775807) (ht : ∀ e ∈ zs, fksOk ks e) (hlen : ∀ e ∈ zs, e.length = ks.length)
    (hc : ∀ (i : Nat) (e : List Value), zs[i]? = some e → ∀ (j : Nat) (v : Value), e[j]? = some v → w.cell? (A.add (i * ks.length + j)) = some v) : ArgSl w ks (some A) len zs := by
  refine ⟨hl, hsm, ht, fun i e he => ?_⟩
  -- the first cell of all
  have h0 : 0 < zs.length := by
    have := (List.getElem?_eq_some_iff.1 he).1; omega
  have hz : zs[0]? = some zs[0] := List.getElem?_eq_getElem h0
  have hk0 : 0 < ks.length := List.length_pos_iff.2 hk
  have hl0 : 0 < zs[0].length := by rw [hlen _ (List.getElem_mem h0)]; exact hk0
  have c0 := hc 0 _ hz 0 _ (List.getElem?_eq_getElem hl0)
  have hA : A.add (0 * ks.length + 0) = A := by simp [Addr.add]
  rw [hA] at c0
  obtain ⟨hs, hb, cs, T, fz, hh, _⟩ := cell_block c0
  obtain ⟨b, off, sp⟩ := A
  have hs' : sp = none := hs
  subst hs'
  refine ⟨b, off, cs, T, fz, rfl, hb, hh, fun j v hv => ?_⟩
  have c1 := hc i e he j v hv
  have hadd : (⟨b, off, none⟩ : Addr).add (i * ks.length + j) = ⟨b, off + (i * ks.length + j), none⟩ := by unfold Addr.add; split <;> simp_all
  rw [hadd] at c1
  obtain ⟨_, _, cs', T', fz', hh', hv'⟩ := cell_block c1
  rw [show (⟨b, off + (i * ks.length + j), none⟩ : Addr).block = b from rfl] at hh'
  have hh2 : w.heap[b]? = some (.cells cs T fz) := hh
  rw [hh2] at hh'
  injection hh' with hh'
  injection hh' with h1 _ _
  subst h1
  exact hv'

theorem open_argsl {t e : TypeId} {fs : Array Field} {ks : List FK} {fuel : Nat} {a : Option Addr} {len cap : Nat} {x : DataW H × List MemPlace} (ht : P.underlying t = some (.slice e)) (he : P.underlying e = some (.struct fs)) (hone : oneCellFields P fs = true) (hC : P.cellsOf e = fs.size)
    (hk : fksTy P fs ks = true) (hk0 : ks ≠ []) (h : DataW.trod enc P w base (fun _ => true) held fuel t [.slice a len cap] = some x) : ∃ zs, ArgSl w ks a len zs := by
  simp only [fksTy, Bool.and_eq_true, decide_eq_true_eq] at hk
  obtain ⟨hkl, hkt⟩ := hk
  rcases open_slice ht h with ⟨h0, _⟩ | ⟨A, l, c, m, n, D, Pl, hcs, hb, hl, hm, hmm, hx, hi⟩
  · simp at h0
    obtain ⟨rfl, rfl, rfl⟩ := h0
    exact ⟨[], rfl, by omega, by simp, by simp⟩
  · simp at hcs
    obtain ⟨rfl, rfl, rfl⟩ := hcs
    simp only [if_true] at hmm
    have hall : ∀ i, i < len → ∃ cs' : List Value, cs'.length = ks.length ∧ fksOk ks cs' ∧ ∀ (j : Nat) (v : Value), cs'[j]? = some v → w.cell? (A.add (i * ks.length + j)) = some v := fun i hil => by
      obtain ⟨cs', hc, htr⟩ := hi i (by omega)
      rw [hC, hkl] at hc
      obtain ⟨_, hcl, hcell⟩ := World.cells?_some hc
      obtain ⟨ys, n', _, hy, hlen, hyl, hf⟩ := DataW.trod_struct he htr
      refine ⟨cs', hcl, fksOk_of ks cs' hcl.symm fun j k v hj hv => ?_, fun j v hv => ?_⟩
      · have hjl : j < ks.length := (List.getElem?_eq_some_iff.1 hj).1
        have hjf : fs[j]? = some (fs[j]'(by omega)) := Array.getElem?_eq_getElem (by omega)
        have h1 := hf j _ hjf
        obtain ⟨ho, hco⟩ := hone_of hone j _ hjf
        rw [ho, hco] at h1
        have hone' : (cs'.drop j).take 1 = [v] := by
          have hjv := List.getElem?_eq_some_iff.1 hv
          rw [List.drop_eq_getElem_cons hjv.1, hjv.2]; rfl
        rw [hone'] at h1
        have hys : ys[j]? = some (ys[j]'(by omega)) := List.getElem?_eq_getElem (by omega)
        rw [hys] at h1
        rw [List.all_eq_true] at hkt
        have h2 := hkt j (List.mem_range.2 (by omega))
        simp only [hjf, hj] at h2
        exact trod_fk h2 h1
      · have hjl : j < ks.length := by have := (List.getElem?_eq_some_iff.1 hv).1; omega
        rw [← Go.Deep.add_add, hcell j hjl, hv]
    obtain ⟨f, hf⟩ := choose_lt hall
    refine ⟨(List.range len).map f, argsl_mk hk0 (by simp) (by unfold maxLen at hm; omega) (fun e he => ?_) (fun e he => ?_) fun i e he j v hv => ?_⟩
    · obtain ⟨i, hi', rfl⟩ := List.mem_map.1 he; exact (hf i (List.mem_range.1 hi')).2.1
    · obtain ⟨i, hi', rfl⟩ := List.mem_map.1 he; exact (hf i (List.mem_range.1 hi')).1
    · simp only [List.getElem?_map, List.getElem?_range] at he
      by_cases hil : i < len
      · simp [hil] at he; subst he; exact (hf i hil).2.2 j v hv
      · simp [hil] at he

theorem open_argsl1 {t e : TypeId} {k : FK} {fuel : Nat} {a : Option Addr} {len cap : Nat} {x : DataW H × List MemPlace} (ht : P.underlying t = some (.slice e)) (hC : P.cellsOf e = 1)
    (hk : k.ty P e = true) (h : DataW.trod enc P w base (fun _ => true) held fuel t [.slice a len cap] = some x) : ∃ zs, ArgSl w [k] a len zs := by
  rcases open_slice ht h with ⟨h0, _⟩ | ⟨A, l, c, m, n, D, Pl, hcs, hb, hl, hm, hmm, hx, hi⟩
  · simp at h0
    obtain ⟨rfl, rfl, rfl⟩ := h0
    exact ⟨[], rfl, by omega, by simp, by simp⟩
  · simp at hcs
    obtain ⟨rfl, rfl, rfl⟩ := hcs
    simp only [if_true] at hmm
    have hall : ∀ i, i < len → ∃ v : Value, k.ok v ∧ w.cell? (A.add i) = some v := fun i hil => by
      obtain ⟨cs', hc, htr⟩ := hi i (by omega)
      rw [hC] at hc
      obtain ⟨_, hcl, hcell⟩ := World.cells?_some hc
      match cs', hcl with
      | [v], _ =>
        refine ⟨v, trod_fk hk htr, ?_⟩
        have := hcell 0 (by omega)
        rw [Go.Deep.add_add] at this
        simpa using this
    obtain ⟨f, hf⟩ := choose_lt (α := Value) hall
    refine ⟨(List.range len).map fun i => [f i], argsl_mk (by simp) (by simp) (by unfold maxLen at hm; omega) (fun e he => ?_) (fun e he => ?_) fun i e he j v hv => ?_⟩
    · obtain ⟨i, hi', rfl⟩ := List.mem_map.1 he; exact ⟨(hf i (List.mem_range.1 hi')).1, trivial⟩
    · obtain ⟨i, hi', rfl⟩ := List.mem_map.1 he; rfl
    · simp only [List.getElem?_map, List.getElem?_range] at he
      by_cases hil : i < len
      · simp [hil] at he
        subst he
        match j, hv with
        | 0, hv => simp at hv; subst hv; simpa using (hf i hil).2
      · simp [hil] at he
end

theorem fksOk_cons {k : FK} {ks : List FK} {e : List Value} (h : fksOk (k :: ks) e) : ∃ v vs, e = v :: vs ∧ k.ok v ∧ fksOk ks vs := by
  cases e with
  | nil => exact h.elim
  | cons v vs => exact ⟨v, vs, rfl, h.1, h.2⟩
theorem fksOk_nil {e : List Value} (h : fksOk [] e) : e = [] := by
  cases e with
  | nil => rfl
  | cons v vs => exact h.elim
/-- A slice of numbers, at an index. -/
theorem ArgSl.int1 {w : World} {k : IntKind} {a : Option Addr} {len : Nat} {z : List (List Value)} (s : ArgSl w [.int k] a len z) {i : Nat} (hi : i < len) :
    ∃ (b off : Nat) (cs : Array Value) (T : TypeId) (fz : Nat × Nat) (n : Int), a = some ⟨b, off, none⟩ ∧ b < w.heap.size ∧ w.heap[b]? = some (.cells cs T fz) ∧ cs[off + i]? = some (.int k n) ∧ (Lit.int k n).wf = true ∧ z[i]? = some [.int k n] := by
  have hl := s.hlen
  obtain ⟨e, he⟩ : ∃ e, z[i]? = some e := ⟨_, List.getElem?_eq_getElem (by omega)⟩
  obtain ⟨v, vs, rfl, ⟨n, rfl, hn⟩, h2⟩ := fksOk_cons (s.typed e (List.mem_of_getElem? he))
  obtain rfl := fksOk_nil h2
  obtain ⟨b, off, cs, T, fz, ha, hb, hh, hat⟩ := s.at_ i _ he
  have hc := hat 0 _ rfl
  simp only [List.length_cons, List.length_nil, Nat.zero_add, Nat.mul_one, Nat.add_zero] at hc
  exact ⟨b, off, cs, T, fz, n, ha, hb, hh, hc, hn, he⟩

/-- A slice of rows of cells, at an index. -/
theorem ArgSl.row {w : World} {ks : List FK} {a : Option Addr} {len : Nat} {z : List (List Value)} (s : ArgSl w ks a len z) {i : Nat} (hi : i < len) :
    ∃ (b off : Nat) (cs : Array Value) (T : TypeId) (fz : Nat × Nat) (e : List Value), a = some ⟨b, off, none⟩ ∧ b < w.heap.size ∧ w.heap[b]? = some (.cells cs T fz) ∧ z[i]? = some e ∧ fksOk ks e ∧ ∀ (j : Nat) (v : Value), e[j]? = some v → cs[off + (i * ks.length + j)]? = some v := by
  have hl := s.hlen
  obtain ⟨e, he⟩ : ∃ e, z[i]? = some e := ⟨_, List.getElem?_eq_getElem (by omega)⟩
  obtain ⟨b, off, cs, T, fz, ha, hb, hh, hat⟩ := s.at_ i _ he
  exact ⟨b, off, cs, T, fz, e, ha, hb, hh, he, s.typed e (List.mem_of_getElem? he), hat⟩
theorem at_row {cs : Array Value} {off i n : Nat} {e : List Value} (hl : e.length = n) (h : ∀ (j : Nat) (v : Value), e[j]? = some v → cs[off + (i * n + j)]? = some v) : ∀ j, j < n → cs[off + i * n + j]? = e[j]? := fun j hj => by
  rw [List.getElem?_eq_getElem (show j < e.length by omega), Nat.add_assoc]
  exact h j _ (List.getElem?_eq_getElem _)
theorem fk_u64 {v : Value} (h : (FK.int .u64).ok v) : ∃ n : Int, v = .int .u64 n ∧ 0 ≤ n ∧ n ≤ 18446744073709551615 := by
  obtain ⟨n, rfl, hn⟩ := h
  simp only [Lit.wf, Bool.and_eq_true, decide_eq_true_eq] at hn
  exact ⟨n, rfl, hn⟩
theorem fk_bool {v : Value} (h : FK.bool.ok v) : ∃ b, v = .bool b := h

/-! ### The law's walk, as its row takes it -/
theorem Sep.below {w0 w : World} {L : List Res} (h : Sep w0 [] L w) : Below w0.heap.size w0 w := ⟨h.os, h.tape, h.output, h.size, fun k hk => h.frame k hk (by simp)⟩

/-- The law answered true. -/
def LawR (w0 : World) : Ending → World → Prop := CkR (fun v _ => v = .bool true) w0 [] []
theorem LawR.out {w0 w' : World} {e : Ending} (h : LawR w0 e w') : e = .returned (.bool true) ∧ Below w0.heap.size w0 w' := by
  cases e with
  | returned v => obtain ⟨L', hv, hs⟩ := h; exact ⟨by rw [hv], hs.below⟩
  | panicked c => exact h.elim
  | outgrown => exact h.elim

theorem wf_u64 {n : Int} (h : (Lit.int .u64 n).wf = true) : 0 ≤ n ∧ n ≤ 18446744073709551615 := by
  simp only [Lit.wf, Bool.and_eq_true, decide_eq_true_eq] at h
  exact h
theorem wf_i64 {n : Int} (h : (Lit.int .i64 n).wf = true) : -9223372036854775808 ≤ n ∧ n ≤ 9223372036854775807 := by
  simp only [Lit.wf, Bool.and_eq_true, decide_eq_true_eq] at h
  exact h
theorem u64_any (n : Int) : ∃ u, IntKind.u64.wrap n = u ∧ 0 ≤ u ∧ u ≤ 18446744073709551615 := ⟨_, rfl, by rw [IntKind.wrap_u64]; omega, by rw [IntKind.wrap_u64]; omega⟩
theorem mod_any (u m : Int) (h : 0 < m) : ∃ s, u % m = s ∧ 0 ≤ s ∧ s < m := ⟨_, rfl, Int.emod_nonneg _ (by omega), Int.emod_lt_of_pos _ h⟩
end Go.Proofs.Ytchejceolnbcbaa
