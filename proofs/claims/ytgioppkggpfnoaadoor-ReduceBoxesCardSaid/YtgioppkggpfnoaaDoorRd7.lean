/- Texts of the seat, laid together: RowA. -/
import Derived.Test.YtgioppkggpfnoaaDoorRd6
import Derived.ChangeArms
import Derived.WideKeyArgs
import Derived.ChangeSlices
set_option linter.all false
set_option exponentiation.threshold 20000
section
/- What a row's arguments are, read raw: rows of digits, numbers times powers of two, lists of them, lists of lists, sets. -/
set_option linter.unusedVariables false
namespace Go.Proofs.YtgioppkggpfnoaaDoor.Nu
open Go.ChangeShapes Go.WideShapes Go.ChangeAt Go.RowKit Go.Proofs

theorem len_two {α : Type} : ∀ {l : List α}, l.length = 2 → ∃ a b, l = [a, b]
  | [a, b], _ => ⟨a, b, rfl⟩
theorem len_three {α : Type} : ∀ {l : List α}, l.length = 3 → ∃ a b c, l = [a, b, c]
  | [a, b, c], _ => ⟨a, b, c, rfl⟩
theorem laidOut : laidOutB Tryd.prog = true := by kernel_rfl
theorem cellsU32 : Tryd.prog.cellsOf 118 = 1 := by kernel_rfl
theorem cellsB : Tryd.prog.cellsOf 4 = 1 := by kernel_rfl
theorem cellsN : Tryd.prog.cellsOf 23 = 1 := by kernel_rfl
theorem cellsI : Tryd.prog.cellsOf 3 = 1 := by kernel_rfl
theorem cellsInt : Tryd.prog.cellsOf 51 = 2 := by kernel_rfl
theorem cellsDy : Tryd.prog.cellsOf 53 = 3 := by kernel_rfl
theorem cellsL : Tryd.prog.cellsOf 39 = 1 := by kernel_rfl
theorem cellsLL : Tryd.prog.cellsOf 40 = 1 := by kernel_rfl
theorem cellsZo : Tryd.prog.cellsOf 42 = 3 := by kernel_rfl
section
variable {H : Type} {enc : TypeId × Value → H} {w : World} {sp : Nat → Bool} {held : Bool} {fuel : Nat} {cs : List Value} {x : DataW H × List MemPlace}
theorem spot_of {w : World} {a : Addr} {v : Value} (h : w.cell? a = some v) : a = ⟨a.block, a.off, none⟩ := by
  obtain ⟨b, o, s⟩ := a
  cases s with
  | none => rfl
  | some k =>
    unfold World.cell? at h
    split at h
    · simp at h
    · cases h
/-- A list's elements: where they lie, each as it reads. -/
theorem list_raw {t e : TypeId} {k : Nat} (ht : Tryd.prog.underlying t = some (.slice e)) (hk : Tryd.prog.cellsOf e = k) (hk0 : 0 < k) (h : DataW.trod enc Tryd.prog w 0 sp held fuel t cs = some x) :
    ∃ (A : Option Addr) (n c : Nat), cs = [.slice A n c] ∧ n ≤ c ∧ n ≤ 9223372036854775807 ∧ (A = none → c = 0) ∧ (0 < n → ∃ b off, A = some ⟨b, off, none⟩ ∧ b < w.heap.size ∧
      ∀ j, j < n → ∃ cs' m y, cs'.length = k ∧ (∀ i, i < k → w.cell? ⟨b, off + j * k + i, none⟩ = cs'[i]?) ∧ DataW.trod enc Tryd.prog w 0 sp held m e cs' = some y) := by
  rcases DataW.trod_slice ht h with ⟨rfl, _⟩ | ⟨a, len, cap, elems, rest, m, _, rfl, _, _, hl, hm, hlen, hel, _, _⟩
  · exact ⟨none, 0, 0, rfl, Nat.le_refl _, by omega, fun _ => rfl, fun h => absurd h (Nat.lt_irrefl _)⟩
  · refine ⟨some a, len, cap, rfl, hl, by have : cap ≤ 2 ^ 63 - 1 := hm; omega, (fun e => by cases e), fun h0 => ?_⟩
    have each : ∀ j, j < len → ∃ cs' y, cs'.length = k ∧ (∀ i, i < k → w.cell? ((a.add (j * k)).add i) = cs'[i]?) ∧ DataW.trod enc Tryd.prog w 0 sp held m e cs' = some y := fun j hj => by
      have hb := hel j hj
      rw [hk] at hb
      obtain ⟨y, hy⟩ : ∃ y, elems[j]? = some y := ⟨elems[j]'(by omega), List.getElem?_eq_getElem (by omega)⟩
      rw [hy] at hb
      obtain ⟨cs', hc, ht'⟩ := Option.bind_eq_some_iff.1 hb
      obtain ⟨_, h1, h2⟩ := World.cells?_some hc
      exact ⟨cs', y, h1, h2, ht'⟩
    have hsp : a = ⟨a.block, a.off, none⟩ := by
      obtain ⟨cs', y, h1, h2, _⟩ := each 0 h0
      have h3 := h2 0 hk0
      obtain ⟨v, hv⟩ : ∃ v, cs'[0]? = some v := ⟨cs'[0]'(by omega), List.getElem?_eq_getElem (by omega)⟩
      rw [hv, Nat.zero_mul] at h3
      have e0 : ∀ a : Addr, a.add 0 = a := fun a => by simp [Addr.add]
      rw [e0, e0] at h3
      exact spot_of h3
    have hadd : ∀ j i, (a.add j).add i = ⟨a.block, a.off + j + i, none⟩ := fun j i => by
      rw [hsp, Addr.add_lit, Addr.add_lit]
    have hlt : a.block < w.heap.size := by
      obtain ⟨cs', y, h1, h2, _⟩ := each 0 h0
      have h3 := h2 0 hk0
      obtain ⟨v, hv⟩ : ∃ v, cs'[0]? = some v := ⟨cs'[0]'(by omega), List.getElem?_eq_getElem (by omega)⟩
      rw [hv, hadd] at h3
      exact cell_lt h3
    refine ⟨a.block, a.off, by rw [← hsp], hlt, fun j hj => ?_⟩
    obtain ⟨cs', y, h1, h2, h3⟩ := each j hj
    exact ⟨cs', m, y, h1, fun i hi => by rw [← hadd]; exact h2 i hi, h3⟩
theorem nat_raw (h : DataW.trod enc Tryd.prog w 0 sp held fuel 23 cs = some x) : ∃ (A : Option Addr) (n c : Nat) (xs : List Nat), cs = [.slice A n c] ∧ RL2 w A n xs ∧ n ≤ c := by
  obtain ⟨A, n, c, rfl, hc, hn, _, hel⟩ := list_raw Tryd.underlying23 cellsU32 (by omega) h
  have each : ∀ j, ∃ z : Nat, j < n → z < 4294967296 ∧ ∃ b off, A = some ⟨b, off, none⟩ ∧ b < w.heap.size ∧ w.cell? ⟨b, off + j, none⟩ = some (.int .u32 z) := fun j => by
    by_cases hj : j < n
    · obtain ⟨b, off, hA, hlt, hh⟩ := hel (by omega)
      obtain ⟨cs', m, y, h1, h2, h3⟩ := hh j hj
      obtain ⟨z, rfl, _, hw⟩ := DataW.trod_int Tryd.underlying118 h3
      have hb := bounds_u32 hw
      refine ⟨z.toNat, fun _ => ⟨by omega, b, off, hA, hlt, ?_⟩⟩
      have h4 := h2 0 (by omega)
      rw [Nat.mul_one, Nat.add_zero] at h4
      rw [h4, show ((z.toNat : Nat) : Int) = z by omega]
      rfl
    · exact ⟨0, fun e => absurd e hj⟩
  refine ⟨A, n, c, (List.range n).map fun j => Classical.choose (each j), rfl, ⟨hn, fun h5 => ⟨by simp, by omega, fun z hz => ?_, fun h0 => ?_⟩⟩, hc⟩
  · obtain ⟨j, hj, rfl⟩ := List.mem_map.1 hz
    exact (Classical.choose_spec (each j) (List.mem_range.1 hj)).1
  · obtain ⟨_, b, off, hA, hlt, _⟩ := Classical.choose_spec (each 0) h0
    refine ⟨b, off, hA, hlt, fun j hj => ?_⟩
    obtain ⟨_, b', off', hA', _, hc'⟩ := Classical.choose_spec (each j) hj
    rw [hA] at hA'
    injection hA' with hA'
    injection hA' with e1 e2
    subst e1 e2
    rw [hc', dg_of (by simpa using hj)]
    simp
theorem int_raw (h : DataW.trod enc Tryd.prog w 0 sp held fuel 51 cs = some x) : ∃ (q : Q) (xs : List Nat), cs = [.bool q.b, .slice q.A q.n q.c] ∧ RL2 w q.A q.n xs ∧ q.n ≤ q.c := by
  obtain ⟨ys, m, _, _, hl, hy, hf⟩ := DataW.trod_struct Tryd.underlying51 h
  rw [cellsInt] at hl
  have h0 : DataW.trod enc Tryd.prog w 0 sp held m 4 ((cs.drop 0).take (Tryd.prog.cellsOf 4)) = ys[0]? := hf 0 _ rfl
  have h1 : DataW.trod enc Tryd.prog w 0 sp held m 23 ((cs.drop 1).take (Tryd.prog.cellsOf 23)) = ys[1]? := hf 1 _ rfl
  simp only [cellsB, cellsN, List.drop_zero] at h0 h1
  obtain ⟨v0, v1, rfl⟩ := len_two hl
  have hy2 : ys.length = 2 := hy
  obtain ⟨y0, e0⟩ : ∃ y, ys[0]? = some y := ⟨ys[0]'(by omega), List.getElem?_eq_getElem (by omega)⟩
  obtain ⟨y1, e1⟩ : ∃ y, ys[1]? = some y := ⟨ys[1]'(by omega), List.getElem?_eq_getElem (by omega)⟩
  rw [e0] at h0
  rw [e1] at h1
  obtain ⟨b, hb, _⟩ := DataW.trod_bool Tryd.underlying4 h0
  obtain ⟨A, n, c, xs, hc, hr, hn⟩ := nat_raw h1
  simp at hb hc
  subst hb hc
  exact ⟨⟨b, A, n, c⟩, xs, rfl, hr, hn⟩
theorem dyad_raw (h : DataW.trod enc Tryd.prog w 0 sp held fuel 53 cs = some x) : ∃ (q : Q) (xs : List Nat) (z : Int), cs = [.bool q.b, .slice q.A q.n q.c, .int .i64 z] ∧ RL2 w q.A q.n xs ∧ q.n ≤ q.c := by
  obtain ⟨ys, m, _, _, hl, hy, hf⟩ := DataW.trod_struct Tryd.underlying53 h
  rw [cellsDy] at hl
  have h0 : DataW.trod enc Tryd.prog w 0 sp held m 51 ((cs.drop 0).take (Tryd.prog.cellsOf 51)) = ys[0]? := hf 0 _ rfl
  have h1 : DataW.trod enc Tryd.prog w 0 sp held m 3 ((cs.drop 2).take (Tryd.prog.cellsOf 3)) = ys[1]? := hf 1 _ rfl
  simp only [cellsInt, cellsI, List.drop_zero] at h0 h1
  obtain ⟨v0, v1, v2, rfl⟩ := len_three hl
  have hy2 : ys.length = 2 := hy
  obtain ⟨y0, e0⟩ : ∃ y, ys[0]? = some y := ⟨ys[0]'(by omega), List.getElem?_eq_getElem (by omega)⟩
  obtain ⟨y1, e1⟩ : ∃ y, ys[1]? = some y := ⟨ys[1]'(by omega), List.getElem?_eq_getElem (by omega)⟩
  rw [e0] at h0
  rw [e1] at h1
  obtain ⟨q, xs, hb, hr, hn⟩ := int_raw h0
  obtain ⟨z, hz, _, _⟩ := DataW.trod_int Tryd.underlying3 h1
  simp at hb hz
  obtain ⟨rfl, rfl⟩ := hb
  subst hz
  exact ⟨q, xs, z, rfl, hr, hn⟩
theorem dyads_raw (h : DataW.trod enc Tryd.prog w 0 sp held fuel 39 cs = some x) : ∃ (A : Option Addr) (n c : Nat), cs = [.slice A n c] ∧ RawD w A n c ∧ (A = none → c = 0) := by
  obtain ⟨A, n, c, rfl, hc, hn, hnil, hel⟩ := list_raw Tryd.underlying39 cellsDy (by omega) h
  refine ⟨A, n, c, rfl, ⟨hc, hn, fun h0 => ?_⟩, hnil⟩
  obtain ⟨b, off, hA, hlt, hh⟩ := hel h0
  refine ⟨b, off, hA, hlt, fun j hj => ?_⟩
  obtain ⟨cs', m, y, h1, h2, h3⟩ := hh j hj
  obtain ⟨q, xs, z, rfl, hr, hq⟩ := dyad_raw h3
  exact ⟨q, xs, z, ⟨h2 0 (by omega), h2 1 (by omega), h2 2 (by omega)⟩, hr, hq⟩
theorem rows_raw (h : DataW.trod enc Tryd.prog w 0 sp held fuel 40 cs = some x) : ∃ (A : Option Addr) (n c : Nat), cs = [.slice A n c] ∧ RawR w A n c ∧ (A = none → c = 0) := by
  obtain ⟨A, n, c, rfl, hc, hn, hnil, hel⟩ := list_raw Tryd.underlying40 cellsL (by omega) h
  refine ⟨A, n, c, rfl, ⟨hc, hn, fun h0 => ?_⟩, hnil⟩
  obtain ⟨b, off, hA, hlt, hh⟩ := hel h0
  refine ⟨b, off, hA, hlt, fun j hj => ?_⟩
  obtain ⟨cs', m, y, h1, h2, h3⟩ := hh j hj
  obtain ⟨A', n', c', rfl, hr, _⟩ := dyads_raw h3
  have h4 := h2 0 (by omega)
  rw [Nat.mul_one, Nat.add_zero] at h4
  exact ⟨A', n', c', h4, hr⟩
theorem set_raw (h : DataW.trod enc Tryd.prog w 0 sp held fuel 42 cs = some x) : ∃ (Ac Ag Ar : Option Addr) (nc cc m cg nr cr : Nat), cs = [.slice Ac nc cc, .slice Ag m cg, .slice Ar nr cr] ∧ RawD w Ac nc cc ∧ RawR w Ag m cg ∧ RawD w Ar nr cr ∧ (Ag = none → cg = 0) := by
  obtain ⟨ys, k, _, _, hl, hy, hf⟩ := DataW.trod_struct Tryd.underlying42 h
  rw [cellsZo] at hl
  have h0 : DataW.trod enc Tryd.prog w 0 sp held k 39 ((cs.drop 0).take (Tryd.prog.cellsOf 39)) = ys[0]? := hf 0 _ rfl
  have h1 : DataW.trod enc Tryd.prog w 0 sp held k 40 ((cs.drop 1).take (Tryd.prog.cellsOf 40)) = ys[1]? := hf 1 _ rfl
  have h2 : DataW.trod enc Tryd.prog w 0 sp held k 39 ((cs.drop 2).take (Tryd.prog.cellsOf 39)) = ys[2]? := hf 2 _ rfl
  simp only [cellsL, cellsLL, List.drop_zero] at h0 h1 h2
  obtain ⟨v0, v1, v2, rfl⟩ := len_three hl
  have hy2 : ys.length = 3 := hy
  obtain ⟨y0, e0⟩ : ∃ y, ys[0]? = some y := ⟨ys[0]'(by omega), List.getElem?_eq_getElem (by omega)⟩
  obtain ⟨y1, e1⟩ : ∃ y, ys[1]? = some y := ⟨ys[1]'(by omega), List.getElem?_eq_getElem (by omega)⟩
  obtain ⟨y2, e2⟩ : ∃ y, ys[2]? = some y := ⟨ys[2]'(by omega), List.getElem?_eq_getElem (by omega)⟩
  rw [e0] at h0
  rw [e1] at h1
  rw [e2] at h2
  obtain ⟨Ac, nc, cc, hc, hrc, _⟩ := dyads_raw h0
  obtain ⟨Ag, m, cg, hg, hrg, hnil⟩ := rows_raw h1
  obtain ⟨Ar, nr, cr, hr, hrr, _⟩ := dyads_raw h2
  simp at hc hg hr
  subst hc hg hr
  exact ⟨Ac, Ag, Ar, nc, cc, m, cg, nr, cr, rfl, hrc, hrg, hrr, hnil⟩
end
set_option maxRecDepth 100000 in
/-- A set that comes in. -/
theorem open_set {H : Type} {enc : TypeId × Value → H} {W : World} {sp : Nat → Bool} {held : Bool} {base : Nat} {v : Value} {d : DataW H} {ps : List MemPlace} (hv : Value.okWide Tryd.prog W .any base 42 v) (h : DataW.Trod enc Tryd.prog W 0 sp held 42 v d ps) :
    ∃ (Ac Ag Ar : Option Addr) (nc cc m cg nr cr : Nat), v = .agg #[.slice Ac nc cc, .slice Ag m cg, .slice Ar nr cr] ∧ RawD W Ac nc cc ∧ RawR W Ag m cg ∧ RawD W Ar nr cr ∧ (Ag = none → cg = 0) := by
  obtain ⟨cs, rfl, _⟩ := okWide_struct Tryd.underlying42 hv
  obtain ⟨n, hn⟩ := h
  obtain ⟨Ac, Ag, Ar, nc, cc, m, cg, nr, cr, e, h1, h2, h3, h4⟩ := set_raw hn
  refine ⟨Ac, Ag, Ar, nc, cc, m, cg, nr, cr, ?_, h1, h2, h3, h4⟩
  have e2 : cs = #[.slice Ac nc cc, .slice Ag m cg, .slice Ar nr cr] := by
    cases cs
    simp only [Value.cells] at e
    rw [e]
  rw [e2]
set_option maxRecDepth 100000 in
theorem open_dyads {H : Type} {enc : TypeId × Value → H} {W : World} {sp : Nat → Bool} {held : Bool} {base : Nat} {v : Value} {d : DataW H} {ps : List MemPlace} (hv : Value.okWide Tryd.prog W .any base 39 v) (h : DataW.Trod enc Tryd.prog W 0 sp held 39 v d ps) :
    ∃ (A : Option Addr) (n c : Nat), v = .slice A n c ∧ RawD W A n c := by
  obtain ⟨a, l, k, rfl⟩ := okWide_slice Tryd.underlying39 hv
  obtain ⟨n, hn⟩ := h
  obtain ⟨A, n, c, e, h1, _⟩ := dyads_raw hn
  refine ⟨A, n, c, ?_, h1⟩
  simp only [Value.cells] at e
  injection e
end Go.Proofs.YtgioppkggpfnoaaDoor.Nu
end
