/- Texts of the seat, laid together: Lists, OwnB, Own, OwnP, RdP, QP, Q, Level, DAdd, DTop, DCmpA, DCmpT, DCmpL, DCmp, DLess, ISort, BLen, SrtP, Sorts, OwnN, DRound, DOf, DMax. -/
import Derived.Test.YtgioppkggpfnoaaDoorWR1
import Derived.RegionTactic
import Derived.Outline
import Derived.StillTailTactics
import Derived.Deep.RegionHeld3
import Derived.Sort.LotA
import Derived.Maps.AppendAt
set_option linter.all false
set_option exponentiation.threshold 20000
section
/- Rows of dyads and of spans in memory. -/
set_option linter.unusedVariables false
namespace Go.Proofs.YtgioppkggpfnoaaDoor.Nu
open Go.RowKit Go.Proofs

/-- A slice of dyads, element by element. -/
def RDs (w : World) (A : Option Addr) (n c : Nat) (f : Nat → D) : Prop :=
  n ≤ c ∧ n ≤ 1000000 ∧ (0 < n → ∃ b off, A = some ⟨b, off, none⟩ ∧ b < w.heap.size ∧ ∀ j, j < n → ∃ q : Q, w.cell? ⟨b, off + j * 3, none⟩ = some (.bool q.b) ∧ w.cell? ⟨b, off + j * 3 + 1, none⟩ = some (.slice q.A q.n q.c) ∧ w.cell? ⟨b, off + j * 3 + 2, none⟩ = some (.int .i64 (f j).x) ∧ RD w q (f j))
/-- A slice of spans. -/
def RSs (w : World) (A : Option Addr) (n c : Nat) (f : Nat → Sp) : Prop :=
  n ≤ c ∧ n ≤ 1000000 ∧ (0 < n → ∃ b off, A = some ⟨b, off, none⟩ ∧ b < w.heap.size ∧ ∀ j, j < n → ∃ s : SQ, w.cell? ⟨b, off + j * 6, none⟩ = some (.bool s.lo.b) ∧ w.cell? ⟨b, off + j * 6 + 1, none⟩ = some (.slice s.lo.A s.lo.n s.lo.c) ∧ w.cell? ⟨b, off + j * 6 + 2, none⟩ = some (.int .i64 (f j).lo.x) ∧ w.cell? ⟨b, off + j * 6 + 3, none⟩ = some (.bool s.hi.b) ∧ w.cell? ⟨b, off + j * 6 + 4, none⟩ = some (.slice s.hi.A s.hi.n s.hi.c) ∧ w.cell? ⟨b, off + j * 6 + 5, none⟩ = some (.int .i64 (f j).hi.x) ∧ RS w s (f j))
theorem RDs.below {w w' : World} {A : Option Addr} {n c : Nat} {f : Nat → D} (h : RDs w A n c f) (hb : Below w.heap.size w w') : RDs w' A n c f := by
  obtain ⟨h1, h2, h3⟩ := h
  refine ⟨h1, h2, fun h0 => ?_⟩
  obtain ⟨b, off, hA, hlt, hc⟩ := h3 h0
  refine ⟨b, off, hA, Nat.lt_of_lt_of_le hlt hb.size, fun j hj => ?_⟩
  obtain ⟨q, c0, c1, c2, hr⟩ := hc j hj
  exact ⟨q, (hb.cell (p := ⟨b, _, none⟩) hlt).trans c0, (hb.cell (p := ⟨b, _, none⟩) hlt).trans c1, (hb.cell (p := ⟨b, _, none⟩) hlt).trans c2, hr.below hb⟩
theorem RSs.below {w w' : World} {A : Option Addr} {n c : Nat} {f : Nat → Sp} (h : RSs w A n c f) (hb : Below w.heap.size w w') : RSs w' A n c f := by
  obtain ⟨h1, h2, h3⟩ := h
  refine ⟨h1, h2, fun h0 => ?_⟩
  obtain ⟨b, off, hA, hlt, hc⟩ := h3 h0
  refine ⟨b, off, hA, Nat.lt_of_lt_of_le hlt hb.size, fun j hj => ?_⟩
  obtain ⟨q, c0, c1, c2, c3, c4, c5, hr⟩ := hc j hj
  exact ⟨q, (hb.cell (p := ⟨b, _, none⟩) hlt).trans c0, (hb.cell (p := ⟨b, _, none⟩) hlt).trans c1, (hb.cell (p := ⟨b, _, none⟩) hlt).trans c2, (hb.cell (p := ⟨b, _, none⟩) hlt).trans c3, (hb.cell (p := ⟨b, _, none⟩) hlt).trans c4, (hb.cell (p := ⟨b, _, none⟩) hlt).trans c5, hr.below hb⟩
/-- A slice of slices of dyads, each of n. -/
def RDss (w : World) (A : Option Addr) (m c n : Nat) (f : Nat → Nat → D) : Prop :=
  m ≤ c ∧ m ≤ 1000000 ∧ (0 < m → ∃ b off, A = some ⟨b, off, none⟩ ∧ b < w.heap.size ∧ ∀ k, k < m → ∃ A' c', w.cell? ⟨b, off + k, none⟩ = some (.slice A' n c') ∧ RDs w A' n c' (f k))
theorem RDss.below {w w' : World} {A : Option Addr} {m c n : Nat} {f : Nat → Nat → D} (h : RDss w A m c n f) (hb : Below w.heap.size w w') : RDss w' A m c n f := by
  obtain ⟨h1, h2, h3⟩ := h
  refine ⟨h1, h2, fun h0 => ?_⟩
  obtain ⟨b, off, hA, hlt, hc⟩ := h3 h0
  refine ⟨b, off, hA, Nat.lt_of_lt_of_le hlt hb.size, fun k hk => ?_⟩
  obtain ⟨A', c', e, hr⟩ := hc k hk
  exact ⟨A', c', (hb.cell (p := ⟨b, _, none⟩) hlt).trans e, hr.below hb⟩
/-- Where a set's three lists lie. -/
structure ZQ where
  Ac : Option Addr
  cc : Nat
  Ag : Option Addr
  cg : Nat
  Ar : Option Addr
  cr : Nat
structure RZo (w : World) (y : ZQ) (z : Zo) : Prop where
  c : RDs w y.Ac z.n y.cc z.c
  g : RDss w y.Ag z.m y.cg z.n z.g
  r : RDs w y.Ar z.n y.cr z.r
theorem RZo.below {w w' : World} {y : ZQ} {z : Zo} (h : RZo w y z) (hb : Below w.heap.size w w') : RZo w' y z := ⟨h.c.below hb, h.g.below hb, h.r.below hb⟩
theorem supG_lim {g : Nat → Nat → D} {dir : Nat → Sp} {n bits m : Nat} {all : Sp} {E T E2 T2 : Nat} (hg : ∀ k i, k < m → i < n → (g k i).Lim E T) (hd : ∀ i, i < n → (dir i).Lim E2 T2) (ha : all.Lim (E + E2) (T + T2 + 1 + 2 * n)) : ∀ k, k ≤ m → (supG g dir n bits all k).Lim (E + E2) (T + T2 + 1 + 2 * n + 2 * k) := by
  intro k hk
  induction k with
  | zero => exact ha
  | succ k ih =>
    have h1 := ih (by omega)
    have h2 := size_lim (inner_lim (a := pts (g k)) bits n (fun i hi => pt_lim (hg k i (by omega) hi)) hd)
    exact (sadd_lim h1 (pt_lim (h2.mono (Nat.le_refl _) (show T + T2 + 1 + 2 * n ≤ T + T2 + 1 + 2 * n + 2 * k by omega))) bits).mono (Nat.le_refl _) (by omega)
theorem supR_lim {r : Nat → D} {dir : Nat → Sp} {n bits q : Nat} {all : Sp} {E T E2 T2 : Nat} (hr : ∀ i, i < n → (r i).Lim E T) (hd : ∀ i, i < n → (dir i).Lim E2 T2) (ha : all.Lim (E + E2) (T + T2 + 1 + q)) : ∀ k, k ≤ n → (supR r dir bits all k).Lim (E + E2) (T + T2 + 1 + q + 2 * k) := by
  intro k hk
  induction k with
  | zero => exact ha
  | succ k ih =>
    have h1 := ih (by omega)
    have h2 := smul_lim (pt_lim (hr k (by omega))) (pt_lim (size_lim (hd k (by omega)))) bits
    exact (sadd_lim h1 (h2.mono (Nat.le_refl _) (show T + T2 + 1 ≤ T + T2 + 1 + q + 2 * k by omega)) bits).mono (Nat.le_refl _) (by omega)
end Go.Proofs.YtgioppkggpfnoaaDoor.Nu
end

section
/- Rows of elements of so many cells each, in a block of their own. -/
set_option linter.unusedVariables false
namespace Go.Proofs.YtgioppkggpfnoaaDoor.Nu
open Go.RowKit Go.Proofs

/-- A row of n elements of m cells each: cell c of element j is 'e j c'. -/
def rowOf (m n : Nat) (e : Nat → Nat → Value) : Array Value := Array.ofFn (n := n * m) fun j => e (j.1 / m) (j.1 % m)
theorem rowOf_size (m n : Nat) (e : Nat → Nat → Value) : (rowOf m n e).size = n * m := by simp [rowOf]
theorem rowOf_get {m n : Nat} (e : Nat → Nat → Value) {i c : Nat} (hi : i < n) (hc : c < m) : (rowOf m n e)[i * m + c]? = some (e i c) := by
  have h1 : i * m + c < n * m := by
    have : i * m + m ≤ n * m := by rw [← Nat.succ_mul]; exact Nat.mul_le_mul_right _ hi
    omega
  have hm : 0 < m := by omega
  unfold rowOf
  rw [Array.getElem?_ofFn, dif_pos h1]
  simp only
  rw [Nat.mul_comm i m, Nat.mul_add_div hm, Nat.div_eq_of_lt hc, Nat.add_zero, Nat.mul_add_mod, Nat.mod_eq_of_lt hc]
theorem rowOf_get? {m n : Nat} {e : Nat → Nat → Value} (k : Nat) : (rowOf m n e)[k]? = if k < n * m then some (e (k / m) (k % m)) else none := by
  unfold rowOf
  rw [Array.getElem?_ofFn]
  split <;> rfl
theorem rowOf_congr {m n : Nat} {e e' : Nat → Nat → Value} (h : ∀ i c, i < n → c < m → e i c = e' i c) : rowOf m n e = rowOf m n e' := by
  unfold rowOf
  congr 1
  funext j
  have hj := j.2
  have hm : 0 < m := by
    false_or_by_contra
    rename_i h0
    have : m = 0 := by omega
    subst this
    simp at hj
  exact h _ _ (Nat.div_lt_of_lt_mul (Nat.lt_of_lt_of_eq hj (Nat.mul_comm n m))) (Nat.mod_lt _ hm)
theorem rowOf_set {m n : Nat} (e : Nat → Nat → Value) {i c : Nat} (hc : c < m) (v : Value) : (rowOf m n e).setIfInBounds (i * m + c) v = rowOf m n fun j d => if j = i ∧ d = c then v else e j d := by
  have hm : 0 < m := by omega
  apply Array.ext_getElem?
  intro k
  rw [rowOf_get? (e := fun j d => if j = i ∧ d = c then v else e j d), Array.getElem?_setIfInBounds, rowOf_get?, rowOf_size]
  by_cases hk : i * m + c = k
  · subst hk
    rw [if_pos rfl]
    by_cases hl : i * m + c < n * m
    · rw [if_pos hl, if_pos hl]
      rw [Nat.mul_comm i m, Nat.mul_add_div hm, Nat.div_eq_of_lt hc, Nat.add_zero, Nat.mul_add_mod, Nat.mod_eq_of_lt hc, if_pos ⟨rfl, rfl⟩]
    · rw [if_neg hl, if_neg hl]
  · rw [if_neg hk]
    by_cases hl : k < n * m
    · rw [if_pos hl, if_pos hl]
      congr 1
      rw [if_neg]
      rintro ⟨h3, h4⟩
      have := Nat.div_add_mod k m
      rw [h3, h4, Nat.mul_comm] at this
      exact hk this
    · rw [if_neg hl, if_neg hl]
theorem rowOf_made (z : Value) (m n : Nat) (hm : z.cells.size = m) : madeCells z.cells (n * m) = rowOf m n fun _ c => z.cells[c]! := by
  apply Array.ext
  · rw [rowOf_size]; simp [size_madeCells]
  · intro i h1 h2
    simp [madeCells, rowOf, hm]
/-- The world with one element of a row of dyads written. -/
def put3 (w : World) (g i : Nat) (v0 v1 v2 : Value) : World := ((w.setCell ⟨g, i * 3, none⟩ v0).setCell ⟨g, i * 3 + 1, none⟩ v1).setCell ⟨g, i * 3 + 2, none⟩ v2
theorem Bk.ne3 {w : World} {g g' : Nat} {t : TypeId} {cs : Array Value} (h : Bk w g t cs) (hg : g ≠ g') (i : Nat) (v0 v1 v2 : Value) : Bk (put3 w g' i v0 v1 v2) g t cs := ((h.ne hg _ _).ne hg _ _).ne hg _ _
theorem same3 (w : World) {g g' : Nat} (hg : g ≠ g') (i : Nat) (v0 v1 v2 : Value) : (put3 w g' i v0 v1 v2).heap[g]? = w.heap[g]? := by
  unfold put3; rw [Below.heap_setCell _ _ _ _ hg, Below.heap_setCell _ _ _ _ hg, Below.heap_setCell _ _ _ _ hg]
theorem same1 (w : World) {g g' : Nat} (hg : g ≠ g') (j : Nat) (v : Value) : (w.setCell ⟨g', j, none⟩ v).heap[g]? = w.heap[g]? := Below.heap_setCell _ _ _ _ hg
theorem sameA (w : World) {g : Nat} (hg : g < w.heap.size) (o : Obj) : (w.alloc o).heap[g]? = w.heap[g]? := Lib.alloc_old _ _ _ hg
theorem below_put3 {w w' : World} (h : Below w.heap.size w w') {g : Nat} (hg : w.heap.size ≤ g) (i : Nat) (v0 v1 v2 : Value) : Below w.heap.size w (put3 w' g i v0 v1 v2) := below_st (below_st (below_st h _ hg _) _ hg _) _ hg _
theorem upto_next {α : Type} (F : Nat → α) (z : α) (i j : Nat) : (if j = i then F i else if j < i then F j else z) = if j < i + 1 then F j else z := by
  by_cases h : j = i
  · subst h; rw [if_pos rfl, if_pos (by omega)]
  · rw [if_neg h]
    by_cases h2 : j < i
    · rw [if_pos h2, if_pos (by omega)]
    · rw [if_neg h2, if_neg (by omega)]
end Go.Proofs.YtgioppkggpfnoaaDoor.Nu
end

section
/- Rows of dyads and of spans that the call makes and writes. -/
set_option linter.unusedVariables false
namespace Go.Proofs.YtgioppkggpfnoaaDoor.Nu
open Go.RowKit Go.Proofs

/-- What all elements of a row of dyads are. -/
def isD (w : World) (e : Nat → Nat → Value) (j : Nat) (d : D) : Prop := ∃ q : Q, e j 0 = .bool q.b ∧ e j 1 = .slice q.A q.n q.c ∧ e j 2 = .int .i64 d.x ∧ RD w q d
/-- A row of dyads that lies in a block of its own. -/
def OD (w : World) (g n : Nat) (f : Nat → D) : Prop := ∃ e, Bk w g 53 (rowOf 3 n e) ∧ ∀ j, j < n → isD w e j (f j)
def isS (w : World) (e : Nat → Nat → Value) (j : Nat) (a : Sp) : Prop := ∃ s : SQ, e j 0 = .bool s.lo.b ∧ e j 1 = .slice s.lo.A s.lo.n s.lo.c ∧ e j 2 = .int .i64 a.lo.x ∧ e j 3 = .bool s.hi.b ∧ e j 4 = .slice s.hi.A s.hi.n s.hi.c ∧ e j 5 = .int .i64 a.hi.x ∧ RS w s a
def OS (w : World) (g n : Nat) (f : Nat → Sp) : Prop := ∃ e, Bk w g 62 (rowOf 6 n e) ∧ ∀ j, j < n → isS w e j (f j)
theorem OD.lt {w : World} {g n : Nat} {f : Nat → D} (h : OD w g n f) : g < w.heap.size := by obtain ⟨e, hb, _⟩ := h; exact hb.lt
theorem OS.lt {w : World} {g n : Nat} {f : Nat → Sp} (h : OS w g n f) : g < w.heap.size := by obtain ⟨e, hb, _⟩ := h; exact hb.lt
/-- It stands where its block does, and digits keep. -/
theorem OD.keep {w w' : World} {g n : Nat} {f : Nat → D} (h : OD w g n f) (hg : w'.heap[g]? = w.heap[g]?) (k : Dk w w') : OD w' g n f := by
  obtain ⟨e, hb, hj⟩ := h
  refine ⟨e, hg.trans hb, fun j h => ?_⟩
  obtain ⟨q, a, b, c, hr⟩ := hj j h
  exact ⟨q, a, b, c, hr.dk k⟩
theorem OS.keep {w w' : World} {g n : Nat} {f : Nat → Sp} (h : OS w g n f) (hg : w'.heap[g]? = w.heap[g]?) (k : Dk w w') : OS w' g n f := by
  obtain ⟨e, hb, hj⟩ := h
  refine ⟨e, hg.trans hb, fun j h => ?_⟩
  obtain ⟨q, a, b, c, a1, b1, c1, hr⟩ := hj j h
  exact ⟨q, a, b, c, a1, b1, c1, hr.dk k⟩
theorem OD.below {w w' : World} {g n : Nat} {f : Nat → D} (h : OD w g n f) (hb : Below w.heap.size w w') : OD w' g n f := h.keep (hb.block g h.lt) (.below hb)
theorem OS.below {w w' : World} {g n : Nat} {f : Nat → Sp} (h : OS w g n f) (hb : Below w.heap.size w w') : OS w' g n f := h.keep (hb.block g h.lt) (.below hb)
theorem OD.congr {w : World} {g n : Nat} {f f' : Nat → D} (h : OD w g n f) (e : ∀ j, j < n → f j = f' j) : OD w g n f' := by
  obtain ⟨e1, hb, hj⟩ := h
  exact ⟨e1, hb, fun j h => by rw [← e j h]; exact hj j h⟩
theorem OS.congr {w : World} {g n : Nat} {f f' : Nat → Sp} (h : OS w g n f) (e : ∀ j, j < n → f j = f' j) : OS w g n f' := by
  obtain ⟨e1, hb, hj⟩ := h
  exact ⟨e1, hb, fun j h => by rw [← e j h]; exact hj j h⟩
/-- As a slice of dyads. -/
theorem OD.read {w : World} {g n : Nat} {f : Nat → D} (h : OD w g n f) (hn : n ≤ 1000000) : RDs w (some ⟨g, 0, none⟩) n n f := by
  have hl := h.lt
  obtain ⟨e, hb, hj⟩ := h
  refine ⟨Nat.le_refl _, hn, fun _ => ⟨g, 0, rfl, hl, fun j h => ?_⟩⟩
  obtain ⟨q, a, b, c, hr⟩ := hj j h
  rw [Nat.zero_add]
  exact ⟨q, hb.cell (j * 3 + 0) (by rw [rowOf_get e h (by omega), a]), hb.cell (j * 3 + 1) (by rw [rowOf_get e h (by omega), b]), hb.cell (j * 3 + 2) (by rw [rowOf_get e h (by omega), c]), hr⟩
theorem OS.read {w : World} {g n : Nat} {f : Nat → Sp} (h : OS w g n f) (hn : n ≤ 1000000) : RSs w (some ⟨g, 0, none⟩) n n f := by
  have hl := h.lt
  obtain ⟨e, hb, hj⟩ := h
  refine ⟨Nat.le_refl _, hn, fun _ => ⟨g, 0, rfl, hl, fun j h => ?_⟩⟩
  obtain ⟨q, a, b, c, a1, b1, c1, hr⟩ := hj j h
  rw [Nat.zero_add]
  exact ⟨q, hb.cell (j * 6 + 0) (by rw [rowOf_get e h (by omega), a]), hb.cell (j * 6 + 1) (by rw [rowOf_get e h (by omega), b]), hb.cell (j * 6 + 2) (by rw [rowOf_get e h (by omega), c]), hb.cell (j * 6 + 3) (by rw [rowOf_get e h (by omega), a1]), hb.cell (j * 6 + 4) (by rw [rowOf_get e h (by omega), b1]), hb.cell (j * 6 + 5) (by rw [rowOf_get e h (by omega), c1]), hr⟩
/-- What is there to be written over. -/
theorem OD.there {w : World} {g n : Nat} {f : Nat → D} (h : OD w g n f) {i : Nat} (hi : i < n) : (∃ v, w.cell? ⟨g, i * 3, none⟩ = some v) ∧ (∃ v, w.cell? ⟨g, i * 3 + 1, none⟩ = some v) ∧ (∃ v, w.cell? ⟨g, i * 3 + 2, none⟩ = some v) ∧ w.frozen? ⟨g, i * 3, none⟩ = false ∧ w.frozen? ⟨g, i * 3 + 1, none⟩ = false ∧ w.frozen? ⟨g, i * 3 + 2, none⟩ = false := by
  obtain ⟨e, hb, hj⟩ := h
  exact ⟨⟨_, hb.cell (i * 3 + 0) (rowOf_get e hi (by omega))⟩, ⟨_, hb.cell (i * 3 + 1) (rowOf_get e hi (by omega))⟩, ⟨_, hb.cell (i * 3 + 2) (rowOf_get e hi (by omega))⟩, hb.free _, hb.free _, hb.free _⟩
theorem OS.there {w : World} {g n : Nat} {f : Nat → Sp} (h : OS w g n f) {i : Nat} (hi : i < n) : (∃ v, w.cell? ⟨g, i * 6, none⟩ = some v) ∧ (∃ v, w.cell? ⟨g, i * 6 + 1, none⟩ = some v) ∧ (∃ v, w.cell? ⟨g, i * 6 + 2, none⟩ = some v) ∧ (∃ v, w.cell? ⟨g, i * 6 + 3, none⟩ = some v) ∧ (∃ v, w.cell? ⟨g, i * 6 + 4, none⟩ = some v) ∧ (∃ v, w.cell? ⟨g, i * 6 + 5, none⟩ = some v) ∧ w.frozen? ⟨g, i * 6, none⟩ = false ∧ w.frozen? ⟨g, i * 6 + 1, none⟩ = false ∧ w.frozen? ⟨g, i * 6 + 2, none⟩ = false ∧ w.frozen? ⟨g, i * 6 + 3, none⟩ = false ∧ w.frozen? ⟨g, i * 6 + 4, none⟩ = false ∧ w.frozen? ⟨g, i * 6 + 5, none⟩ = false := by
  obtain ⟨e, hb, hj⟩ := h
  exact ⟨⟨_, hb.cell (i * 6 + 0) (rowOf_get e hi (by omega))⟩, ⟨_, hb.cell (i * 6 + 1) (rowOf_get e hi (by omega))⟩, ⟨_, hb.cell (i * 6 + 2) (rowOf_get e hi (by omega))⟩, ⟨_, hb.cell (i * 6 + 3) (rowOf_get e hi (by omega))⟩, ⟨_, hb.cell (i * 6 + 4) (rowOf_get e hi (by omega))⟩, ⟨_, hb.cell (i * 6 + 5) (rowOf_get e hi (by omega))⟩, hb.free _, hb.free _, hb.free _, hb.free _, hb.free _, hb.free _⟩
def put6 (w : World) (g i : Nat) (v0 v1 v2 v3 v4 v5 : Value) : World := (((((w.setCell ⟨g, i * 6, none⟩ v0).setCell ⟨g, i * 6 + 1, none⟩ v1).setCell ⟨g, i * 6 + 2, none⟩ v2).setCell ⟨g, i * 6 + 3, none⟩ v3).setCell ⟨g, i * 6 + 4, none⟩ v4).setCell ⟨g, i * 6 + 5, none⟩ v5
/-- Element i written. -/
theorem OD.put {w : World} {g n : Nat} {f : Nat → D} (h : OD w g n f) {i : Nat} (hi : i < n) (q : Q) (d : D) (hr : RD w q d) :
    OD (put3 w g i (.bool q.b) (.slice q.A q.n q.c) (.int .i64 d.x)) g n (fun j => if j = i then d else f j) ∧ Dk w (put3 w g i (.bool q.b) (.slice q.A q.n q.c) (.int .i64 d.x)) := by
  obtain ⟨e, hb, hj⟩ := h
  obtain ⟨q0, a, b, c, _⟩ := hj i hi
  have b1 := hb.set (i * 3 + 0) (.bool q.b)
  have b2 := b1.set (i * 3 + 1) (.slice q.A q.n q.c)
  have b3 := b2.set (i * 3 + 2) (.int .i64 d.x)
  have k : Dk w (put3 w g i (.bool q.b) (.slice q.A q.n q.c) (.int .i64 d.x)) := by
    have k1 := (Dk.refl w).set hb (i * 3 + 0) (by rw [rowOf_get e hi (by omega), a]; intro v h; cases h) (.bool q.b)
    have k2 := k1.set b1 (i * 3 + 1) (by rw [rowOf_set e (by omega), rowOf_get _ hi (by omega), if_neg (by omega), b]; intro v h; cases h) (.slice q.A q.n q.c)
    exact k2.set b2 (i * 3 + 2) (by rw [rowOf_set e (by omega), rowOf_set _ (by omega), rowOf_get _ hi (by omega), if_neg (by omega), if_neg (by omega), c]; intro v h; cases h) (.int .i64 d.x)
  refine ⟨⟨_, (by rw [rowOf_set e (by omega), rowOf_set _ (by omega), rowOf_set _ (by omega)] at b3; exact b3), fun j hjn => ?_⟩, k⟩
  by_cases hij : j = i
  · subst hij
    refine ⟨q, ?_, ?_, ?_, ?_⟩
    · simp
    · simp
    · simp
    · simpa using hr.dk k
  · obtain ⟨q1, a1, b1, c1, r1⟩ := hj j hjn
    refine ⟨q1, ?_, ?_, ?_, ?_⟩
    · simp [hij, a1]
    · simp [hij, b1]
    · simp [hij, c1]
    · simpa [hij] using r1.dk k
theorem OS.put {w : World} {g n : Nat} {f : Nat → Sp} (h : OS w g n f) {i : Nat} (hi : i < n) (s : SQ) (x : Sp) (hr : RS w s x) :
    OS (put6 w g i (.bool s.lo.b) (.slice s.lo.A s.lo.n s.lo.c) (.int .i64 x.lo.x) (.bool s.hi.b) (.slice s.hi.A s.hi.n s.hi.c) (.int .i64 x.hi.x)) g n (fun j => if j = i then x else f j) ∧ Dk w (put6 w g i (.bool s.lo.b) (.slice s.lo.A s.lo.n s.lo.c) (.int .i64 x.lo.x) (.bool s.hi.b) (.slice s.hi.A s.hi.n s.hi.c) (.int .i64 x.hi.x)) := by
  obtain ⟨e, hb, hj⟩ := h
  obtain ⟨q0, a, b, c, a', b', c', _⟩ := hj i hi
  have b1 := hb.set (i * 6 + 0) (.bool s.lo.b)
  have b2 := b1.set (i * 6 + 1) (.slice s.lo.A s.lo.n s.lo.c)
  have b3 := b2.set (i * 6 + 2) (.int .i64 x.lo.x)
  have b4 := b3.set (i * 6 + 3) (.bool s.hi.b)
  have b5 := b4.set (i * 6 + 4) (.slice s.hi.A s.hi.n s.hi.c)
  have b6 := b5.set (i * 6 + 5) (.int .i64 x.hi.x)
  have k : Dk w (put6 w g i (.bool s.lo.b) (.slice s.lo.A s.lo.n s.lo.c) (.int .i64 x.lo.x) (.bool s.hi.b) (.slice s.hi.A s.hi.n s.hi.c) (.int .i64 x.hi.x)) := by
    have k1 := (Dk.refl w).set hb (i * 6 + 0) (by rw [rowOf_get e hi (by omega), a]; intro v h; cases h) (.bool s.lo.b)
    have k2 := k1.set b1 (i * 6 + 1) (by rw [rowOf_set e (by omega), rowOf_get _ hi (by omega), if_neg (by omega), b]; intro v h; cases h) (.slice s.lo.A s.lo.n s.lo.c)
    have k3 := k2.set b2 (i * 6 + 2) (by rw [rowOf_set e (by omega), rowOf_set _ (by omega), rowOf_get _ hi (by omega), if_neg (by omega), if_neg (by omega), c]; intro v h; cases h) (.int .i64 x.lo.x)
    have k4 := k3.set b3 (i * 6 + 3) (by rw [rowOf_set e (by omega), rowOf_set _ (by omega), rowOf_set _ (by omega), rowOf_get _ hi (by omega), if_neg (by omega), if_neg (by omega), if_neg (by omega), a']; intro v h; cases h) (.bool s.hi.b)
    have k5 := k4.set b4 (i * 6 + 4) (by rw [rowOf_set e (by omega), rowOf_set _ (by omega), rowOf_set _ (by omega), rowOf_set _ (by omega), rowOf_get _ hi (by omega), if_neg (by omega), if_neg (by omega), if_neg (by omega), if_neg (by omega), b']; intro v h; cases h) (.slice s.hi.A s.hi.n s.hi.c)
    exact k5.set b5 (i * 6 + 5) (by rw [rowOf_set e (by omega), rowOf_set _ (by omega), rowOf_set _ (by omega), rowOf_set _ (by omega), rowOf_set _ (by omega), rowOf_get _ hi (by omega), if_neg (by omega), if_neg (by omega), if_neg (by omega), if_neg (by omega), if_neg (by omega), c']; intro v h; cases h) (.int .i64 x.hi.x)
  refine ⟨⟨_, (by rw [rowOf_set e (by omega), rowOf_set _ (by omega), rowOf_set _ (by omega), rowOf_set _ (by omega), rowOf_set _ (by omega), rowOf_set _ (by omega)] at b6; exact b6), fun j hjn => ?_⟩, k⟩
  by_cases hij : j = i
  · subst hij
    refine ⟨s, ?_, ?_, ?_, ?_, ?_, ?_, ?_⟩
    · simp
    · simp
    · simp
    · simp
    · simp
    · simp
    · simpa using hr.dk k
  · obtain ⟨q1, a1, b1, c1, a2, b2, c2, r1⟩ := hj j hjn
    refine ⟨q1, ?_, ?_, ?_, ?_, ?_, ?_, ?_⟩
    · simp [hij, a1]
    · simp [hij, b1]
    · simp [hij, c1]
    · simp [hij, a2]
    · simp [hij, b2]
    · simp [hij, c2]
    · simpa [hij] using r1.dk k
theorem below_put6 {w w' : World} (h : Below w.heap.size w w') {g : Nat} (hg : w.heap.size ≤ g) (i : Nat) (v0 v1 v2 v3 v4 v5 : Value) : Below w.heap.size w (put6 w' g i v0 v1 v2 v3 v4 v5) := below_st (below_st (below_st (below_st (below_st (below_st h _ hg _) _ hg _) _ hg _) _ hg _) _ hg _) _ hg _
/-- Made rows: behind plain names. -/
def mkD (n : Nat) : Array Value := rowOf 3 n fun _ c => if c = 0 then .bool false else if c = 1 then .slice none 0 0 else .int .i64 0
def mkS (n : Nat) : Array Value := rowOf 6 n fun _ c => if c = 0 ∨ c = 3 then .bool false else if c = 1 ∨ c = 4 then .slice none 0 0 else .int .i64 0
theorem OD.made (w : World) (n : Nat) : OD (w.alloc (.cells (mkD n) 53)) w.heap.size n (fun _ => D.zero) := ⟨_, alloc_top w _, fun j _ => ⟨Q.nil, rfl, rfl, rfl, RD.zero _⟩⟩
theorem OS.made (w : World) (n : Nat) : OS (w.alloc (.cells (mkS n) 62)) w.heap.size n (fun _ => Sp.zero) := ⟨_, alloc_top w _, fun j _ => ⟨⟨Q.nil, Q.nil⟩, rfl, rfl, rfl, rfl, rfl, rfl, RS.zero _⟩⟩
theorem infoD : (Tryd.prog.info? 53).map (fun i => (i.zero, i.size, i.bytes)) = some (some (.agg #[.bool false, .slice none 0 0, .int .i64 0]), 3, 40) := by kernel_rfl
theorem infoS : (Tryd.prog.info? 62).map (fun i => (i.zero, i.size, i.bytes)) = some (some (.agg #[.bool false, .slice none 0 0, .int .i64 0, .bool false, .slice none 0 0, .int .i64 0]), 6, 80) := by kernel_rfl
theorem make_D (n : Nat) (hn : n ≤ 1000000) (w : World) : (Instr.makeSlice 39 (.int .i64 n) (.int .i64 n)).run Tryd.prog w = .ok (.slice (some ⟨w.heap.size, 0, none⟩) n n) (w.alloc (.cells (mkD n) 53)) := by
  obtain ⟨i0, hi, hz0, hz1, hz2⟩ := info_parts infoD
  have h := run_make (P := Tryd.prog) w 39 53 i0 _ Tryd.underlying39 hi hz0 .i64 .i64 n n (by omega) (Int.le_refl _) (by rw [hz2]; omega) (by omega)
  have e : madeCells (Value.agg #[.bool false, .slice none 0 0, .int .i64 0]).cells (n * 3) = mkD n := by
    rw [rowOf_made _ 3 n rfl]
    refine rowOf_congr fun i c _ hc => ?_
    match c, hc with
    | 0, _ => rfl
    | 1, _ => rfl
    | 2, _ => rfl
  simp only [Int.toNat_natCast, hz1, e] at h
  exact h
theorem make_S (n : Nat) (hn : n ≤ 1000000) (w : World) : (Instr.makeSlice 95 (.int .i64 n) (.int .i64 n)).run Tryd.prog w = .ok (.slice (some ⟨w.heap.size, 0, none⟩) n n) (w.alloc (.cells (mkS n) 62)) := by
  obtain ⟨i0, hi, hz0, hz1, hz2⟩ := info_parts infoS
  have h := run_make (P := Tryd.prog) w 95 62 i0 _ Tryd.underlying95 hi hz0 .i64 .i64 n n (by omega) (Int.le_refl _) (by rw [hz2]; omega) (by omega)
  have e : madeCells (Value.agg #[.bool false, .slice none 0 0, .int .i64 0, .bool false, .slice none 0 0, .int .i64 0]).cells (n * 6) = mkS n := by
    rw [rowOf_made _ 6 n rfl]
    refine rowOf_congr fun i c _ hc => ?_
    match c, hc with
    | 0, _ => rfl
    | 1, _ => rfl
    | 2, _ => rfl
    | 3, _ => rfl
    | 4, _ => rfl
    | 5, _ => rfl
  simp only [Int.toNat_natCast, hz1, e] at h
  exact h
theorem OD.al {w : World} {g n : Nat} {f : Nat → D} (h : OD w g n f) (o : Obj) : OD (w.alloc o) g n f := h.keep (sameA w h.lt o) ((Dk.refl w).alloc o)
theorem OD.dr {w : World} {g n : Nat} {f : Nat → D} (h : OD w g n f) : OD w.drew g n f := h.keep rfl ((Dk.refl w).drew)
theorem OD.st {w : World} {g n : Nat} {f : Nat → D} (h : OD w g n f) {g' : Nat} {t : TypeId} {cs : Array Value} (B : Bk w g' t cs) (hg : g ≠ g') (j : Nat) (hj : ∀ v, cs[j]? ≠ some (.int .u32 v)) (u : Value) : OD (w.setCell ⟨g', j, none⟩ u) g n f := h.keep (same1 w hg j u) ((Dk.refl w).set B j hj u)
theorem OD.rp3 {w : World} {g n : Nat} {f : Nat → D} (h : OD w g n f) {g' : Nat} (hg : g ≠ g') (i : Nat) (v0 v1 v2 : Value) (k : Dk w (put3 w g' i v0 v1 v2)) : OD (put3 w g' i v0 v1 v2) g n f := h.keep (same3 w hg i v0 v1 v2) k
theorem OS.al {w : World} {g n : Nat} {f : Nat → Sp} (h : OS w g n f) (o : Obj) : OS (w.alloc o) g n f := h.keep (sameA w h.lt o) ((Dk.refl w).alloc o)
theorem OS.dr {w : World} {g n : Nat} {f : Nat → Sp} (h : OS w g n f) : OS w.drew g n f := h.keep rfl ((Dk.refl w).drew)
theorem OS.st {w : World} {g n : Nat} {f : Nat → Sp} (h : OS w g n f) {g' : Nat} {t : TypeId} {cs : Array Value} (B : Bk w g' t cs) (hg : g ≠ g') (j : Nat) (hj : ∀ v, cs[j]? ≠ some (.int .u32 v)) (u : Value) : OS (w.setCell ⟨g', j, none⟩ u) g n f := h.keep (same1 w hg j u) ((Dk.refl w).set B j hj u)
theorem OS.rp3 {w : World} {g n : Nat} {f : Nat → Sp} (h : OS w g n f) {g' : Nat} (hg : g ≠ g') (i : Nat) (v0 v1 v2 : Value) (k : Dk w (put3 w g' i v0 v1 v2)) : OS (put3 w g' i v0 v1 v2) g n f := h.keep (same3 w hg i v0 v1 v2) k
theorem OD.next {w : World} {g n i : Nat} {F : Nat → D} {z : D} (h : OD w g n (fun j => if j = i then F i else if j < i then F j else z)) : OD w g n (fun j => if j < i + 1 then F j else z) := h.congr fun j _ => upto_next F z i j
theorem OS.next {w : World} {g n i : Nat} {F : Nat → Sp} {z : Sp} (h : OS w g n (fun j => if j = i then F i else if j < i then F j else z)) : OS w g n (fun j => if j < i + 1 then F j else z) := h.congr fun j _ => upto_next F z i j
theorem OD.start {w : World} {g n : Nat} {F : Nat → D} {z : D} (h : OD w g n (fun _ => z)) : OD w g n (fun j => if j < 0 then F j else z) := h.congr fun j _ => by rw [if_neg (by omega)]
theorem OS.start {w : World} {g n : Nat} {F : Nat → Sp} {z : Sp} (h : OS w g n (fun _ => z)) : OS w g n (fun j => if j < 0 then F j else z) := h.congr fun j _ => by rw [if_neg (by omega)]
theorem OD.done {w : World} {g n : Nat} {F : Nat → D} {z : D} (h : OD w g n (fun j => if j < n then F j else z)) : OD w g n F := h.congr fun j hj => by rw [if_pos hj]
theorem OS.done {w : World} {g n : Nat} {F : Nat → Sp} {z : Sp} (h : OS w g n (fun j => if j < n then F j else z)) : OS w g n F := h.congr fun j hj => by rw [if_pos hj]
theorem OD.made1 (w : World) (o : Obj) (n : Nat) : OD ((w.alloc o).alloc (.cells (mkD n) 53)) (w.heap.size + 1) n (fun _ => D.zero) := by
  have h := OD.made (w.alloc o) n
  rw [World.size_alloc] at h
  exact h
end Go.Proofs.YtgioppkggpfnoaaDoor.Nu
end

section
/- Rows of dyads that lie at the head of a bigger block; rows of cells, whatever they are. -/
set_option linter.unusedVariables false
namespace Go.Proofs.YtgioppkggpfnoaaDoor.Nu
open Go.RowKit Go.Proofs

/-- What stands in element j of a row of dyads. -/
def inD (w : World) (cur : Array Value) (j : Nat) (d : D) : Prop := ∃ q : Q, cur[j * 3]? = some (.bool q.b) ∧ cur[j * 3 + 1]? = some (.slice q.A q.n q.c) ∧ cur[j * 3 + 2]? = some (.int .i64 d.x) ∧ RD w q d
/-- A row of n dyads at the head of a block. -/
def OP (w : World) (g n : Nat) (f : Nat → D) : Prop := ∃ cur : Array Value, Bk w g 53 cur ∧ ∀ j, j < n → inD w cur j (f j)
theorem inD.dk {w w' : World} {cur : Array Value} {j : Nat} {d : D} (h : inD w cur j d) (k : Dk w w') : inD w' cur j d := by
  obtain ⟨q, a, b, c, hr⟩ := h
  exact ⟨q, a, b, c, hr.dk k⟩
theorem OP.lt {w : World} {g n : Nat} {f : Nat → D} (h : OP w g n f) : g < w.heap.size := by obtain ⟨e, hb, _⟩ := h; exact hb.lt
theorem OP.keep {w w' : World} {g n : Nat} {f : Nat → D} (h : OP w g n f) (hg : w'.heap[g]? = w.heap[g]?) (k : Dk w w') : OP w' g n f := by
  obtain ⟨e, hb, hj⟩ := h
  exact ⟨e, hg.trans hb, fun j h => (hj j h).dk k⟩
theorem OP.below {w w' : World} {g n : Nat} {f : Nat → D} (h : OP w g n f) (hb : Below w.heap.size w w') : OP w' g n f := h.keep (hb.block g h.lt) (.below hb)
theorem OP.congr {w : World} {g n : Nat} {f f' : Nat → D} (h : OP w g n f) (e : ∀ j, j < n → f j = f' j) : OP w g n f' := by
  obtain ⟨e1, hb, hj⟩ := h
  exact ⟨e1, hb, fun j h => by rw [← e j h]; exact hj j h⟩
theorem OP.read {w : World} {g n : Nat} {f : Nat → D} (h : OP w g n f) {c : Nat} (hc : n ≤ c) (hn : n ≤ 1000000) : RDs w (some ⟨g, 0, none⟩) n c f := by
  have hl := h.lt
  obtain ⟨e, hb, hj⟩ := h
  refine ⟨hc, hn, fun _ => ⟨g, 0, rfl, hl, fun j h => ?_⟩⟩
  obtain ⟨q, a, b, c, hr⟩ := hj j h
  rw [Nat.zero_add]
  exact ⟨q, hb.cell _ a, hb.cell _ b, hb.cell _ c, hr⟩
theorem OP.there {w : World} {g n : Nat} {f : Nat → D} (h : OP w g n f) {i : Nat} (hi : i < n) : (∃ v, w.cell? ⟨g, i * 3, none⟩ = some v) ∧ (∃ v, w.cell? ⟨g, i * 3 + 1, none⟩ = some v) ∧ (∃ v, w.cell? ⟨g, i * 3 + 2, none⟩ = some v) ∧ w.frozen? ⟨g, i * 3, none⟩ = false ∧ w.frozen? ⟨g, i * 3 + 1, none⟩ = false ∧ w.frozen? ⟨g, i * 3 + 2, none⟩ = false := by
  obtain ⟨e, hb, hj⟩ := h
  obtain ⟨q, a, b, c, hr⟩ := hj i hi
  exact ⟨⟨_, hb.cell _ a⟩, ⟨_, hb.cell _ b⟩, ⟨_, hb.cell _ c⟩, hb.free _, hb.free _, hb.free _⟩
theorem set_ne (cur : Array Value) {a b : Nat} (v : Value) (h : b ≠ a) : (cur.setIfInBounds a v)[b]? = cur[b]? := by
  rw [Array.getElem?_setIfInBounds, if_neg (fun e => h e.symm)]
theorem set_eq (cur : Array Value) {a : Nat} {u : Value} (v : Value) (h : cur[a]? = some u) : (cur.setIfInBounds a v)[a]? = some v := by
  rw [Array.getElem?_setIfInBounds, if_pos rfl, if_pos (Array.getElem?_eq_some_iff.1 h).1]
/-- Element i written. -/
theorem OP.put {w : World} {g n : Nat} {f : Nat → D} (h : OP w g n f) {i : Nat} (hi : i < n) (q : Q) (d : D) (hr : RD w q d) :
    OP (put3 w g i (.bool q.b) (.slice q.A q.n q.c) (.int .i64 d.x)) g n (fun j => if j = i then d else f j) ∧ Dk w (put3 w g i (.bool q.b) (.slice q.A q.n q.c) (.int .i64 d.x)) := by
  obtain ⟨cur, hb, hj⟩ := h
  obtain ⟨q0, a, b, c, _⟩ := hj i hi
  have b1 := hb.set (i * 3) (.bool q.b)
  have b2 := b1.set (i * 3 + 1) (.slice q.A q.n q.c)
  have b3 := b2.set (i * 3 + 2) (.int .i64 d.x)
  have s1 : (cur.setIfInBounds (i * 3) (.bool q.b))[i * 3 + 1]? = some (.slice q0.A q0.n q0.c) := by rw [set_ne _ _ (by omega), b]
  have s2 : ((cur.setIfInBounds (i * 3) (.bool q.b)).setIfInBounds (i * 3 + 1) (.slice q.A q.n q.c))[i * 3 + 2]? = some (.int .i64 (f i).x) := by rw [set_ne _ _ (by omega), set_ne _ _ (by omega), c]
  have k : Dk w (put3 w g i (.bool q.b) (.slice q.A q.n q.c) (.int .i64 d.x)) := by
    have k1 := (Dk.refl w).set hb (i * 3) (by rw [a]; intro v h; cases h) (.bool q.b)
    have k2 := k1.set b1 (i * 3 + 1) (by rw [s1]; intro v h; cases h) (.slice q.A q.n q.c)
    exact k2.set b2 (i * 3 + 2) (by rw [s2]; intro v h; cases h) (.int .i64 d.x)
  refine ⟨⟨_, b3, fun j hjn => ?_⟩, k⟩
  show inD _ _ j (if j = i then d else f j)
  by_cases hij : j = i
  · subst hij
    rw [if_pos rfl]
    refine ⟨q, ?_, ?_, ?_, hr.dk k⟩
    · rw [set_ne _ _ (by omega), set_ne _ _ (by omega), set_eq _ _ a]
    · rw [set_ne _ _ (by omega), set_eq _ _ s1]
    · rw [set_eq _ _ s2]
  · rw [if_neg hij]
    obtain ⟨q1, a1, b1, c1, r1⟩ := hj j hjn
    refine ⟨q1, ?_, ?_, ?_, r1.dk k⟩
    · rw [set_ne _ _ (by omega), set_ne _ _ (by omega), set_ne _ _ (by omega), a1]
    · rw [set_ne _ _ (by omega), set_ne _ _ (by omega), set_ne _ _ (by omega), b1]
    · rw [set_ne _ _ (by omega), set_ne _ _ (by omega), set_ne _ _ (by omega), c1]
theorem OP.al {w : World} {g n : Nat} {f : Nat → D} (h : OP w g n f) (o : Obj) : OP (w.alloc o) g n f := h.keep (sameA w h.lt o) ((Dk.refl w).alloc o)
theorem OP.dr {w : World} {g n : Nat} {f : Nat → D} (h : OP w g n f) : OP w.drew g n f := h.keep rfl ((Dk.refl w).drew)
theorem OP.st {w : World} {g n : Nat} {f : Nat → D} (h : OP w g n f) {g' : Nat} {t : TypeId} {cs : Array Value} (B : Bk w g' t cs) (hg : g ≠ g') (j : Nat) (hj : ∀ v, cs[j]? ≠ some (.int .u32 v)) (u : Value) : OP (w.setCell ⟨g', j, none⟩ u) g n f := h.keep (same1 w hg j u) ((Dk.refl w).set B j hj u)
theorem OP.rp3 {w : World} {g n : Nat} {f : Nat → D} (h : OP w g n f) {g' : Nat} (hg : g ≠ g') (i : Nat) (v0 v1 v2 : Value) (k : Dk w (put3 w g' i v0 v1 v2)) : OP (put3 w g' i v0 v1 v2) g n f := h.keep (same3 w hg i v0 v1 v2) k
/-- A row of the call's own, put together by appends. -/
theorem OP.own {w : World} {base n : Nat} {g cap : Nat} {xs : List Value} {f : Nat → D} (ho : w.ownsRow base 53 3 (.slice (some ⟨g, 0, none⟩) n cap) n xs) (hj : ∀ j, j < n → inD w xs.toArray j (f j)) : OP w g n f ∧ n ≤ cap := by
  rcases ho.2 with ⟨h, _⟩ | ⟨g', cap', cur, he, _, hg, hnc, _, _, hx⟩
  · cases h
  · cases he
    refine ⟨⟨cur, hg, fun j hjn => ?_⟩, hnc⟩
    obtain ⟨q, a, b, c, hr⟩ := hj j hjn
    have hk : ∀ k u, xs[k]? = some u → cur[k]? = some u := fun k u hu => by
      rw [← hx, List.getElem?_take] at hu
      split at hu
      · simpa using hu
      · cases hu
    exact ⟨q, hk _ _ (by simpa using a), hk _ _ (by simpa using b), hk _ _ (by simpa using c), hr⟩

/-! ### Rows of cells -/
/-- A row of n elements of m cells at the head of a block: cell c of element j is 'e j c'. -/
def CR (w : World) (g : Nat) (t : TypeId) (m n : Nat) (e : Nat → Nat → Value) : Prop := ∃ cur : Array Value, Bk w g t cur ∧ ∀ j c, j < n → c < m → cur[j * m + c]? = some (e j c)
theorem CR.lt {w : World} {g m n : Nat} {t : TypeId} {e : Nat → Nat → Value} (h : CR w g t m n e) : g < w.heap.size := by obtain ⟨_, hb, _⟩ := h; exact hb.lt
theorem CR.keep {w w' : World} {g m n : Nat} {t : TypeId} {e : Nat → Nat → Value} (h : CR w g t m n e) (hg : w'.heap[g]? = w.heap[g]?) : CR w' g t m n e := by
  obtain ⟨cur, hb, hj⟩ := h
  exact ⟨cur, hg.trans hb, hj⟩
theorem CR.below {w w' : World} {g m n : Nat} {t : TypeId} {e : Nat → Nat → Value} (h : CR w g t m n e) (hb : Below w.heap.size w w') : CR w' g t m n e := h.keep (hb.block g h.lt)
theorem CR.al {w : World} {g m n : Nat} {t : TypeId} {e : Nat → Nat → Value} (h : CR w g t m n e) (o : Obj) : CR (w.alloc o) g t m n e := h.keep (sameA w h.lt o)
theorem CR.dr {w : World} {g m n : Nat} {t : TypeId} {e : Nat → Nat → Value} (h : CR w g t m n e) : CR w.drew g t m n e := h.keep rfl
theorem CR.st {w : World} {g m n : Nat} {t : TypeId} {e : Nat → Nat → Value} (h : CR w g t m n e) {g' : Nat} (hg : g ≠ g') (j : Nat) (u : Value) : CR (w.setCell ⟨g', j, none⟩ u) g t m n e := h.keep (same1 w hg j u)
theorem CR.cell {w : World} {g m n : Nat} {t : TypeId} {e : Nat → Nat → Value} (h : CR w g t m n e) {i c : Nat} (hi : i < n) (hc : c < m) : w.cell? ⟨g, i * m + c, none⟩ = some (e i c) := by
  obtain ⟨cur, hb, hj⟩ := h
  exact hb.cell _ (hj i c hi hc)
theorem CR.free {w : World} {g m n : Nat} {t : TypeId} {e : Nat → Nat → Value} (h : CR w g t m n e) (k : Nat) : w.frozen? ⟨g, k, none⟩ = false := by
  obtain ⟨cur, hb, hj⟩ := h
  exact hb.free k
theorem CR.congr {w : World} {g m n : Nat} {t : TypeId} {e e' : Nat → Nat → Value} (h : CR w g t m n e) (he : ∀ j c, j < n → c < m → e j c = e' j c) : CR w g t m n e' := by
  obtain ⟨cur, hb, hj⟩ := h
  exact ⟨cur, hb, fun j c h1 h2 => by rw [← he j c h1 h2]; exact hj j c h1 h2⟩
theorem cell_place {m i c j d : Nat} (hc : c < m) (hd : d < m) (h : i * m + c = j * m + d) : i = j ∧ c = d := by
  have hm : 0 < m := by omega
  have h1 : (i * m + c) / m = i := by rw [Nat.mul_comm, Nat.mul_add_div hm, Nat.div_eq_of_lt hc, Nat.add_zero]
  have h2 : (j * m + d) / m = j := by rw [Nat.mul_comm, Nat.mul_add_div hm, Nat.div_eq_of_lt hd, Nat.add_zero]
  have e : i = j := by rw [← h1, h, h2]
  exact ⟨e, by subst e; omega⟩
/-- One cell written. -/
theorem CR.set {w : World} {g m n : Nat} {t : TypeId} {e : Nat → Nat → Value} (h : CR w g t m n e) {i c : Nat} (hi : i < n) (hc : c < m) (v : Value) : CR (w.setCell ⟨g, i * m + c, none⟩ v) g t m n (fun j d => if j = i ∧ d = c then v else e j d) := by
  obtain ⟨cur, hb, hj⟩ := h
  refine ⟨_, hb.set (i * m + c) v, fun j d h1 h2 => ?_⟩
  show _ = some (if j = i ∧ d = c then v else e j d)
  by_cases hp : j = i ∧ d = c
  · obtain ⟨rfl, rfl⟩ := hp
    rw [if_pos ⟨rfl, rfl⟩, set_eq _ _ (hj j d hi hc)]
  · rw [if_neg hp, set_ne _ _ (fun he => hp (cell_place h2 hc he)), hj j d h1 h2]
theorem CR.dk {w : World} {g m n : Nat} {t : TypeId} {e : Nat → Nat → Value} (h : CR w g t m n e) {i c : Nat} (hi : i < n) (hc : c < m) (hu : ∀ v, e i c ≠ .int .u32 v) (v : Value) : Dk w (w.setCell ⟨g, i * m + c, none⟩ v) := by
  obtain ⟨cur, hb, hj⟩ := h
  exact (Dk.refl w).set hb (i * m + c) (by rw [hj i c hi hc]; intro v h; exact hu v (Option.some.inj h)) v
theorem CR.own {w : World} {base n m : Nat} {t : TypeId} {g cap : Nat} {xs : List Value} {e : Nat → Nat → Value} (ho : w.ownsRow base t m (.slice (some ⟨g, 0, none⟩) n cap) n xs) (hj : ∀ j c, j < n → c < m → xs[j * m + c]? = some (e j c)) : CR w g t m n e ∧ n ≤ cap := by
  rcases ho.2 with ⟨h, _⟩ | ⟨g', cap', cur, he, _, hg, hnc, _, _, hx⟩
  · cases h
  · cases he
    refine ⟨⟨cur, hg, fun j c h1 h2 => ?_⟩, hnc⟩
    have hu := hj j c h1 h2
    rw [← hx, List.getElem?_take] at hu
    split at hu
    · simpa using hu
    · cases hu
end Go.Proofs.YtgioppkggpfnoaaDoor.Nu
end

section
/- What package reduce makes of a set, plain: how little ways spread, sets of fewer ways, boxes. No program in sight. -/
namespace Go.Proofs.YtgioppkggpfnoaaDoor.Nu

/-! ### The spread of a way -/
def sprA (g : Nat → D) (bits : Nat) : Nat → Sp
  | 0 => Sp.zero
  | k + 1 => (sprA g bits k).add (Sp.pt (g k).abs) bits
def sprM (g : Nat → D) : Nat → D
  | 0 => D.zero
  | k + 1 => (sprM g k).mx (g k).abs
def spread (g : Nat → D) (n bits : Nat) : D := ((sprA g bits n).sub (Sp.pt (sprM g n)) bits).hi
theorem sprA_lim {g : Nat → D} {E T : Nat} (bits k : Nat) (h : ∀ i, i < k → (g i).Lim E T) : (sprA g bits k).Lim E (T + 2 * k) := by
  induction k with
  | zero => exact szero_lim _ _
  | succ k ih => exact sadd_lim (ih fun i hi => h i (by omega)) ((pt_lim (abs_lim (h k (by omega)))).mono (Nat.le_refl _) (by omega)) bits
theorem sprM_lim {g : Nat → D} {E T : Nat} (k : Nat) (h : ∀ i, i < k → (g i).Lim E T) : (sprM g k).Lim E T := by
  induction k with
  | zero => exact zero_lim _ _
  | succ k ih => exact mx_lim (ih fun i hi => h i (by omega)) (abs_lim (h k (by omega)))
theorem spread_lim {g : Nat → D} {E T : Nat} (n bits : Nat) (h : ∀ i, i < n → (g i).Lim E T) : (spread g n bits).Lim E (T + 2 * n + 2) :=
  (sadd_lim (sprA_lim bits n h) ((sneg_lim (pt_lim (sprM_lim n h))).mono (Nat.le_refl _) (by omega)) bits).2
/-! ### Sums in whatever order -/
def sumL (f : Nat → Rat) (l : List Nat) : Rat := l.foldr (fun k s => f k + s) 0
theorem sumL_append (f : Nat → Rat) (l l' : List Nat) : sumL f (l ++ l') = sumL f l + sumL f l' := by
  induction l with
  | nil => simp only [List.nil_append, sumL, List.foldr]; grind
  | cons k l ih =>
    have : sumL f (k :: l ++ l') = f k + sumL f (l ++ l') := rfl
    rw [this, ih, show sumL f (k :: l) = f k + sumL f l from rfl]
    grind
theorem sumL_perm (f : Nat → Rat) {l l' : List Nat} (h : l.Perm l') : sumL f l = sumL f l' := by
  induction h with
  | nil => rfl
  | cons x _ ih => show f x + _ = f x + _; exact congrArg _ ih
  | swap x y l => show f y + (f x + sumL f l) = f x + (f y + sumL f l); grind
  | trans _ _ h1 h2 => exact h1.trans h2
theorem sumL_range (f : Nat → Rat) (m : Nat) : sumL f (List.range m) = sumQ f m := by
  induction m with
  | zero => rfl
  | succ m ih =>
    rw [List.range_succ, sumL_append, ih]
    show _ + (f m + 0) = sumQ f m + f m
    grind
theorem sumL_get (f : Nat → Rat) (l : List Nat) (n : Nat) (hn : n ≤ l.length) : sumQ (fun k => f (l[k]!)) n = sumL f (l.take n) := by
  induction n with
  | zero => rfl
  | succ n ih =>
    rw [List.take_succ_eq_append_getElem (by omega), sumL_append, ← ih (by omega)]
    show sumQ _ n + f (l[n]!) = _ + (f _ + 0)
    rw [getElem!_pos l n (by omega)]
    grind
/-- Whatever order the places come in, the sum is the same. -/
theorem sum_perm (f : Nat → Rat) {l : List Nat} {m : Nat} (h : l.Perm (List.range m)) : sumQ (fun k => f (l[k]!)) m = sumQ f m := by
  have hl : l.length = m := by rw [h.length_eq, List.length_range]
  rw [sumL_get f l m (by omega), ← hl, List.take_length, hl, sumL_perm f h, sumL_range]
theorem sumQ_split (f : Nat → Rat) (p q : Nat) : sumQ f (p + q) = sumQ f p + sumQ (fun k => f (p + k)) q := by
  induction q with
  | zero => simp only [sumQ, Nat.add_zero]; grind
  | succ q ih => rw [← Nat.add_assoc]; simp only [sumQ]; rw [ih]; grind

/-! ### A set of fewer ways -/
def rndR (r : Nat → D) (h : Nat → Nat → D) (bits : Nat) : Nat → Nat → D
  | 0 => r
  | k + 1 => fun i => mor (rndR r h bits k i) (h k i) bits
theorem rndR_lim {r : Nat → D} {h : Nat → Nat → D} {E T : Nat} (bits p i : Nat) (hr : (r i).Lim E T) (hh : ∀ k, k < p → (h k i).Lim E T) : (rndR r h bits p i).Lim E (T + 2 * p) := by
  induction p with
  | zero => exact hr
  | succ p ih => exact mor_lim (ih fun k hk => hh k (by omega)) ((hh p (by omega)).mono (Nat.le_refl _) (by omega)) bits
theorem rndR_can {r : Nat → D} (h : Nat → Nat → D) (bits p i : Nat) (hr : (r i).Can) : (rndR r h bits p i).Can := by
  cases p with
  | zero => exact hr
  | succ p => exact mor_can _ _ _
theorem rndR_ge (r : Nat → D) (h : Nat → Nat → D) (bits p i : Nat) : (r i).val + sumQ (fun k => qabs (h k i).val) p ≤ (rndR r h bits p i).val := by
  induction p with
  | zero => simp only [sumQ, rndR]; grind
  | succ p ih =>
    have := mor_ge (rndR r h bits p i) (h p i) bits
    simp only [sumQ, rndR]
    grind
/-- The ways told by σ: the first p go place by place, the others stay. -/
def ordZ (z : Zo) (σ : Nat → Nat) (p bits : Nat) : Zo where
  n := z.n
  c := z.c
  m := z.m - p
  g := fun k => z.g (σ (p + k))
  r := rndR z.r (fun k => z.g (σ k)) bits p
theorem ord_lim {z : Zo} {E T : Nat} (h : z.Lim E T) {σ : Nat → Nat} (hσ : ∀ k, k < z.m → σ k < z.m) {p : Nat} (hp : p ≤ z.m) (bits : Nat) : (ordZ z σ p bits).Lim E (T + 2 * p) where
  c := fun i hi => (h.c i hi).mono (Nat.le_refl _) (by omega)
  g := fun k i hk hi => (h.g _ i (hσ _ (by have : k < z.m - p := hk; omega)) hi).mono (Nat.le_refl _) (by omega)
  r := fun i hi => rndR_lim bits p i (h.r i hi) fun k hk => h.g _ i (hσ k (by omega)) hi
theorem ord_can {z : Zo} (h : z.Can) {σ : Nat → Nat} (hσ : ∀ k, k < z.m → σ k < z.m) {p : Nat} (hp : p ≤ z.m) (bits : Nat) : (ordZ z σ p bits).Can where
  c := h.c
  g := fun k i hk hi => h.g _ i (hσ _ (by have : k < z.m - p := hk; omega)) hi
  r := fun i hi => rndR_can _ _ _ _ (h.r i hi)
  p := fun i hi => by
    have h1 := rndR_ge z.r (fun k => z.g (σ k)) bits p i
    have h2 : 0 ≤ (z.r i).val := Rat.not_lt.1 fun e => by have := val_neg.1 e; have := h.p i hi; omega
    have h3 : 0 ≤ sumQ (fun k => qabs (z.g (σ k) i).val) p := by
      have := sumQ_mono (p := fun _ => 0) (q := fun k => qabs (z.g (σ k) i).val) p (fun _ _ => qabs_nonneg _)
      rw [sumQ_zero p (fun _ _ => rfl)] at this
      exact this
    false_or_by_contra
    rename_i h6
    exact absurd (show 0 ≤ (rndR z.r (fun k => z.g (σ k)) bits p i).val by grind) (Rat.not_le.2 (val_neg.2 (by show (rndR z.r (fun k => z.g (σ k)) bits p i).z < 0; exact Int.not_le.1 h6)))
theorem mul_qabs (a b : Rat) : qabs (a * b) = qabs a * qabs b := by
  unfold qabs
  by_cases ha : 0 ≤ a
  · by_cases hb : 0 ≤ b
    · rw [if_pos (Rat.mul_nonneg ha hb), if_pos ha, if_pos hb]
    · have h1 : 0 ≤ a * -b := Rat.mul_nonneg ha (by grind)
      rw [if_pos ha, if_neg hb]
      split <;> grind
  · have ha' : 0 ≤ -a := by grind
    by_cases hb : 0 ≤ b
    · have h1 : 0 ≤ -a * b := Rat.mul_nonneg ha' hb
      rw [if_neg ha, if_pos hb]
      split <;> grind
    · have h1 : 0 ≤ -a * -b := Rat.mul_nonneg ha' (by grind)
      rw [if_neg ha, if_neg hb]
      split <;> grind
theorem qabs_dot (a d : Nat → Rat) (n : Nat) : qabs (dot a d n) ≤ dot (fun i => qabs (a i)) (fun i => qabs (d i)) n := by
  induction n with
  | zero => simp only [dot]; decide +kernel
  | succ n ih =>
    have h := qabs_tri (dot a d n) (a n * d n)
    rw [mul_qabs] at h
    simp only [dot]
    grind
theorem ord_far (z : Zo) {σ : Nat → Nat} (hs : ∀ f : Nat → Rat, sumQ (fun k => f (σ k)) z.m = sumQ f z.m) {p : Nat} (hp : p ≤ z.m) (bits : Nat) (d : Nat → Rat) : z.far d ≤ (ordZ z σ p bits).far d := by
  unfold Zo.far
  have h1 : dot (fun i => (z.r i).val + sumQ (fun k => qabs (z.g (σ k) i).val) p) (fun i => qabs (d i)) z.n ≤ dot (fun i => ((ordZ z σ p bits).r i).val) (fun i => qabs (d i)) z.n :=
    dot_mono z.n (fun i _ => rndR_ge z.r (fun k => z.g (σ k)) bits p i) (fun i => qabs_nonneg _)
  rw [dot_add, dot_sumQ] at h1
  have h2 : sumQ (fun k => qabs (dot (fun i => (z.g (σ k) i).val) d z.n)) p ≤ sumQ (fun k => dot (fun i => qabs (z.g (σ k) i).val) (fun i => qabs (d i)) z.n) p :=
    sumQ_mono p fun k _ => qabs_dot _ _ _
  have h3 := hs (fun k => qabs (dot (fun i => (z.g k i).val) d z.n))
  have h4 := sumQ_split (fun k => qabs (dot (fun i => (z.g (σ k) i).val) d z.n)) p (z.m - p)
  rw [show p + (z.m - p) = z.m by omega] at h4
  have h5 : (ordZ z σ p bits).m = z.m - p := rfl
  have h6 : (ordZ z σ p bits).n = z.n := rfl
  rw [h5, h6]
  show dot (fun i => (z.c i).val) d z.n + sumQ (fun k => qabs (dot (fun i => (z.g k i).val) d z.n)) z.m + _ ≤ dot (fun i => (z.c i).val) d z.n + sumQ (fun k => qabs (dot (fun i => (z.g (σ (p + k)) i).val) d z.n)) (z.m - p) + _
  grind

/-! ### The box of a set -/
/-! ### Ways that are one -/
/-- What has been put together: so many ways, and how much more place by place. -/
structure MS where
  M : Nat
  G : Nat → Nat → D
  R : Nat → D
def updG (G : Nat → Nat → D) (i : Nat) (h : Nat → D) : Nat → Nat → D := fun k => if k = i then h else G k
structure MS.Lim (E T n : Nat) (s : MS) : Prop where
  g : ∀ k i, k < s.M → i < n → (s.G k i).Lim E T
  r : ∀ i, i < n → (s.R i).Lim E T
structure MS.Can (n : Nat) (s : MS) : Prop where
  g : ∀ k i, k < s.M → i < n → (s.G k i).Can
  r : ∀ i, i < n → (s.R i).Can
  p : ∀ i, i < n → 0 ≤ (s.R i).z
end Go.Proofs.YtgioppkggpfnoaaDoor.Nu
end

section
/- The contracts of whole.Add, Mul, Compare, Of in one form: a number's place is one letter. -/
set_option linter.unusedVariables false
namespace Go.Proofs.YtgioppkggpfnoaaDoor.Nu
open Go.RowKit Go.Proofs

theorem wrap_nat {x : Int} (h0 : 0 ≤ x) (h1 : x ≤ 1000000000) : wrap64 x = ((x.toNat : Nat) : Int) := by unfold wrap64; omega
theorem wadd_q (w : World) (p q : Q) (x y : Int) (h : RW w p x) (h2 : RW w q y) (hx : nb x.natAbs ≤ 16000) (hy : nb y.natAbs ≤ 16000) :
    Calls Tryd.prog 102 #[.agg #[.bool p.b, .slice p.A p.n p.c], .agg #[.bool q.b, .slice q.A q.n q.c]] w fun e w' => (∃ r : Q, e = .returned (.tuple #[.agg #[.bool r.b, .slice r.A r.n r.c], .int .i64 0]) ∧ RW w' r (x + y)) ∧ Below w.heap.size w w' :=
  (wadd_any w p.b q.b p.A q.A p.n p.c q.n q.c x y h h2 (h.len (k := 512) (by omega)) (h2.len (k := 512) (by omega)) (size_nb (Nat.le_trans (nb_add x y 16000 hx hy) (by omega)))).mono fun _ _ ⟨⟨b, A, n, c, he, hr⟩, hb⟩ => ⟨⟨⟨b, A, n, c⟩, he, hr⟩, hb⟩
theorem wmul_q (w : World) (p q : Q) (x y : Int) (h : RW w p x) (h2 : RW w q y) (hxy : nb x.natAbs + nb y.natAbs ≤ 16320) :
    Calls Tryd.prog 99 #[.agg #[.bool p.b, .slice p.A p.n p.c], .agg #[.bool q.b, .slice q.A q.n q.c]] w fun e w' => (∃ r : Q, e = .returned (.tuple #[.agg #[.bool r.b, .slice r.A r.n r.c], .int .i64 0]) ∧ RW w' r (x * y)) ∧ Below w.heap.size w w' := by
  have h3 := h.len (k := (nb x.natAbs + 31) / 32) (by omega)
  have h4 := h2.len (k := (nb y.natAbs + 31) / 32) (by omega)
  have h5 := nb_mul x.natAbs y.natAbs
  rw [← Int.natAbs_mul] at h5
  exact (wmul_any w p.b q.b p.A q.A p.n p.c q.n q.c x y h h2 (by omega) (size_nb (by omega))).mono fun _ _ ⟨⟨b, A, n, c, he, hr⟩, hb⟩ => ⟨⟨⟨b, A, n, c⟩, he, hr⟩, hb⟩
theorem wcompare_q (w : World) (p q : Q) (x y : Int) (h : RW w p x) (h2 : RW w q y) :
    Calls Tryd.prog 110 #[.agg #[.bool p.b, .slice p.A p.n p.c], .agg #[.bool q.b, .slice q.A q.n q.c]] w fun e w' => e = .returned (.int .i64 (icmp x y)) ∧ Below w.heap.size w w' :=
  wcompare_any w p.b q.b p.A q.A p.n p.c q.n q.c x y h h2
theorem wOf_q (w : World) (z : Int) (h0 : -9223372036854775808 ≤ z) (h1 : z ≤ 9223372036854775807) :
    Calls Tryd.prog 64 #[.int .i64 z] w fun e w' => (∃ r : Q, e = .returned (.agg #[.bool r.b, .slice r.A r.n r.c]) ∧ RW w' r z) ∧ Below w.heap.size w w' :=
  (wOf_any w z h0 h1).mono fun _ _ ⟨⟨b, A, n, c, he, hr⟩, hb⟩ => ⟨⟨⟨b, A, n, c⟩, he, hr⟩, hb⟩
end Go.Proofs.YtgioppkggpfnoaaDoor.Nu
end

section
/- The contracts of package whole, and of dyad.Sign, Make, Neg, in one form: a number's place is one letter. -/
set_option linter.unusedVariables false
namespace Go.Proofs.YtgioppkggpfnoaaDoor.Nu
open Go.RowKit Go.Proofs

theorem wleft_q (w : World) (q : Q) (z : Int) (s : Nat) (h : RW w q z) (hz : nb z.natAbs ≤ 16384) (hs : s ≤ 16384) (hf : nb (z * 2 ^ s).natAbs ≤ 16384) :
    Calls Tryd.prog 104 #[.agg #[.bool q.b, .slice q.A q.n q.c], .int .i64 s] w fun e w' => (∃ r : Q, e = .returned (.tuple #[.agg #[.bool r.b, .slice r.A r.n r.c], .int .i64 0]) ∧ RW w' r (z * 2 ^ s)) ∧ Below w.heap.size w w' :=
  (wleft_any w q.b q.A q.n q.c s z h (h.len (k := 512) hz) hs (size_nb hf)).mono fun _ _ ⟨⟨b, A, n, c, he, hr⟩, hb⟩ => ⟨⟨⟨b, A, n, c⟩, he, hr⟩, hb⟩
theorem wright_q (w : World) (q : Q) (z : Int) (s : Nat) (h : RW w q z) (hz : nb z.natAbs ≤ 16384) (hs : s ≤ 9223372036854775807) (ht : BTab w) :
    Calls Tryd.prog 150 #[.agg #[.bool q.b, .slice q.A q.n q.c], .int .i64 s] w fun e w' => (∃ r : Q, e = .returned (.tuple #[.agg #[.bool r.b, .slice r.A r.n r.c], .int .i64 0]) ∧ RW w' r (z / 2 ^ s)) ∧ Below w.heap.size w w' :=
  (wright_any w q.b q.A q.n q.c s z h (h.len (k := 512) hz) hs ht).mono fun _ _ ⟨⟨b, A, n, c, he, hr⟩, hb⟩ => ⟨⟨⟨b, A, n, c⟩, he, hr⟩, hb⟩
theorem wabs_q (w : World) (q : Q) (z : Int) (h : RW w q z) (hz : nb z.natAbs ≤ 16384) :
    Calls Tryd.prog 107 #[.agg #[.bool q.b, .slice q.A q.n q.c]] w fun e w' => (∃ r : Q, e = .returned (.agg #[.bool r.b, .slice r.A r.n r.c]) ∧ RW w' r (z.natAbs : Int)) ∧ Below w.heap.size w w' :=
  (wabs_any w q.b q.A q.n q.c z h (h.len (k := 512) hz)).mono fun _ _ ⟨⟨b, A, n, c, he, hr⟩, hb⟩ => ⟨⟨⟨b, A, n, c⟩, he, hr⟩, hb⟩
theorem wneg_q (w : World) (q : Q) (z : Int) (h : RW w q z) (hz : nb z.natAbs ≤ 16384) :
    Calls Tryd.prog 153 #[.agg #[.bool q.b, .slice q.A q.n q.c]] w fun e w' => (∃ r : Q, e = .returned (.agg #[.bool r.b, .slice r.A r.n r.c]) ∧ RW w' r (-z)) ∧ Below w.heap.size w w' :=
  (wneg_any w q.b q.A q.n q.c z h (h.len (k := 512) hz)).mono fun _ _ ⟨⟨b, A, n, c, he, hr⟩, hb⟩ => ⟨⟨⟨b, A, n, c⟩, he, hr⟩, hb⟩
theorem bits_q (w : World) (q : Q) (z : Int) (h : RW w q z) (hz : nb z.natAbs ≤ 16384) :
    Calls Tryd.prog 147 #[.slice q.A q.n q.c] w fun e w' => e = .returned (.int .i64 (nb z.natAbs : Nat)) ∧ w' = w :=
  bits_any w q.A q.n q.c z.natAbs h.2.2 (h.len (k := 512) hz)
theorem bits_k (w : World) (q : Q) (z : Int) (h : RW w q z) (hz : nb z.natAbs ≤ 16384) :
    Calls Tryd.prog 147 #[.slice q.A q.n q.c] w fun e w' => e = .returned (.int .i64 (nb z.natAbs : Nat)) ∧ w = w' :=
  (bits_q w q z h hz).mono fun _ _ ⟨he, hw⟩ => ⟨he, hw.symm⟩
theorem odd2_tz {z : Int} (h : z ≠ 0) : ∃ m, Odd2 z.natAbs (tz z.natAbs) m := by
  obtain ⟨m, hm⟩ := tz_spec z.natAbs (by omega)
  exact ⟨m, hm⟩
theorem tz_lt {x : Nat} (h : x ≠ 0) : tz x < nb x := by
  obtain ⟨m, hm⟩ := tz_spec x h
  false_or_by_contra
  have h1 := nb_le.1 (show nb x ≤ tz x by omega)
  have h2 : 2 ^ tz x * 1 ≤ 2 ^ tz x * (2 * m + 1) := Nat.mul_le_mul_left _ (by omega)
  omega
theorem dmake_q (w : World) (q : Q) (z x : Int) (h : RW w q z) (hz : nb z.natAbs ≤ 16384) (h0 : -40000 ≤ x) (h1 : x ≤ 40000) (ht : BTab w) :
    Calls Tryd.prog 93 #[.agg #[.bool q.b, .slice q.A q.n q.c], .int .i64 x] w fun e w' => (∃ r : Q, e = .returned (.tuple #[.agg #[.bool r.b, .slice r.A r.n r.c, .int .i64 (D.mk' z x).x], .int .i64 0]) ∧ RD w' r (D.mk' z x)) ∧ Below w.heap.size w w' := by
  by_cases hz0 : z = 0
  · subst hz0
    refine (dmake_zero w q.b q.A q.n q.c x h ht).mono ?_
    rintro e w' ⟨rfl, hb⟩
    rw [mk_zero]
    exact ⟨⟨Q.nil, rfl, RD.zero _⟩, hb⟩
  · obtain ⟨m, hm⟩ := odd2_tz hz0
    have := tz_lt (x := z.natAbs) (by omega)
    refine (dmake_any w q.b q.A q.n q.c z x _ m h (h.len (k := 512) hz) ht (by omega) (by omega) hm (by omega)).mono ?_
    rintro e w' ⟨⟨b, A, n, c, rfl, hr⟩, hb⟩
    have hc := mk_can z x
    rw [mk_pos hz0] at *
    exact ⟨⟨⟨b, A, n, c⟩, rfl, hr, hc⟩, hb⟩
theorem dneg_q (w : World) (q : Q) (d : D) (h : RD w q d) (hz : nb d.z.natAbs ≤ 16384) :
    Calls Tryd.prog 111 #[.agg #[.bool q.b, .slice q.A q.n q.c, .int .i64 d.x]] w fun e w' => (∃ r : Q, e = .returned (.agg #[.bool r.b, .slice r.A r.n r.c, .int .i64 d.x]) ∧ RD w' r d.neg) ∧ Below w.heap.size w w' :=
  (dneg_any w q.b q.A q.n q.c d.z d.x h.1 (h.1.len (k := 512) hz)).mono fun _ _ ⟨⟨b, A, n, c, he, hr⟩, hb⟩ => ⟨⟨⟨b, A, n, c⟩, he, hr, neg_can h.2⟩, hb⟩
end Go.Proofs.YtgioppkggpfnoaaDoor.Nu
end

section
/- The walk of dyad.level. -/
set_option linter.unusedVariables false
namespace Go.Proofs.YtgioppkggpfnoaaDoor.Nu
open Go.RowKit Go.Proofs

theorem dsign_q (w : World) (q : Q) (d : D) (h : RD w q d) : Calls Tryd.prog 34 #[.agg #[.bool q.b, .slice q.A q.n q.c, .int .i64 d.x]] w fun e w' => e = .returned (.int .i64 (sgn d.z)) ∧ Below w.heap.size w w' := dsign_any w q.b q.A q.n q.c d.z d.x h.1
def levX (a b : D) : Int := if a.z = 0 then 0 else if b.z = 0 then a.z else a.z * 2 ^ (a.x - min a.x b.x).toNat
def levY (a b : D) : Int := if a.z = 0 then b.z else if b.z = 0 then 0 else b.z * 2 ^ (b.x - min a.x b.x).toNat
def levE (a b : D) : Int := if a.z = 0 then b.x else if b.z = 0 then a.x else min a.x b.x
theorem add_lev (a b : D) : a.add b = D.mk' (levX a b + levY a b) (levE a b) := by
  unfold D.add levX levY levE
  split
  · rw [Int.zero_add]
  · split
    · rw [Int.add_zero]
    · rfl
theorem lev_size {a b : D} {E T : Nat} (la : a.Lim E T) (lb : b.Lim E T) (hET : E + T ≤ 16000) (ha : a.z ≠ 0) (hb : b.z ≠ 0) :
    nb a.z.natAbs ≤ 16000 ∧ nb b.z.natAbs ≤ 16000 ∧ (a.x - min a.x b.x).toNat ≤ 16000 ∧ (b.x - min a.x b.x).toNat ≤ 16000 ∧ nb (a.z * 2 ^ (a.x - min a.x b.x).toNat).natAbs ≤ 16000 ∧ nb (b.z * 2 ^ (b.x - min a.x b.x).toNat).natAbs ≤ 16000 := by
  have h1 := scale_nb la (low := min a.x b.x) (by omega) ha
  have h2 := scale_nb lb (low := min a.x b.x) (by omega) hb
  have h3 := la.1
  have h4 := la.2
  have h5 := lb.1
  have h6 := lb.2
  have h7 := nb_pos (x := a.z.natAbs) (by omega)
  have h8 := nb_pos (x := b.z.natAbs) (by omega)
  generalize nb (a.z * 2 ^ (a.x - min a.x b.x).toNat).natAbs = X at *
  generalize nb (b.z * 2 ^ (b.x - min a.x b.x).toNat).natAbs = Y at *
  omega
theorem sgn_ne {z : Int} (h : z ≠ 0) : ((sgn z : Int) == 0) = false := by rw [beq_eq_false_iff_ne]; have := sgn_cases z; omega
theorem sgn_eq {z : Int} (h : z = 0) : ((sgn z : Int) == 0) = true := by rw [beq_iff_eq]; have := sgn_cases z; omega

set_option maxRecDepth 100000 in
set_option maxHeartbeats 4000000 in
theorem dlevel_any (w : World) (p q : Q) (a b : D) (E T : Nat) (h : RD w p a) (h2 : RD w q b) (la : a.Lim E T) (lb : b.Lim E T) (hET : E + T ≤ 16000) :
    Calls Tryd.prog 109 #[.agg #[.bool p.b, .slice p.A p.n p.c, .int .i64 a.x], .agg #[.bool q.b, .slice q.A q.n q.c, .int .i64 b.x]] w fun e w' => (∃ r s : Q, e = .returned (.tuple #[.agg #[.bool r.b, .slice r.A r.n r.c], .agg #[.bool s.b, .slice s.A s.n s.c], .int .i64 (levE a b), .int .i64 0]) ∧ RW w' r (levX a b) ∧ RW w' s (levY a b)) ∧ Below w.heap.size w w' := by
  have HA := Lib.hid h
  have HB := Lib.hid h2
  have LA := Lib.hid la
  have LB := Lib.hid lb
  clear h h2 la lb
  by_cases ha : a.z = 0
  · have q0 := sgn_eq ha
    rw [show levX a b = 0 by unfold levX; rw [if_pos ha], show levY a b = b.z by unfold levY; rw [if_pos ha], show levE a b = b.x by unfold levE; rw [if_pos ha]]
    clear ha
    have BX := Lib.hid (boxes4 w 53 #[.bool p.b, .slice p.A p.n p.c, .int .i64 a.x] 53 #[.bool q.b, .slice q.A q.n q.c, .int .i64 b.x] 51 #[.bool false, .slice none 0 0] 51 #[.bool false, .slice none 0 0])
    go_enter Tryd.func109, Tryd.ntmps109
    go_wp2_with fail
    generalize (((w.alloc (.cells #[.bool p.b, .slice p.A p.n p.c, .int .i64 a.x] 53)).alloc (.cells #[.bool q.b, .slice q.A q.n q.c, .int .i64 b.x] 53)).alloc (.cells #[.bool false, .slice none 0 0] 51)).alloc (.cells #[.bool false, .slice none 0 0] 51) = w0 at *
    obtain ⟨b0, b1, b2, b3, hw⟩ := BX.out
    have Ba_0 := Lib.hid b0
    have Bb_0 := Lib.hid b1
    have Bx_0 := Lib.hid b2
    have By_0 := Lib.hid b3
    have HB_0 := Lib.hid hw
    have K := Dk.below (hw.mono (Nat.le_refl _))
    clear BX hw b0 b1 b2 b3
    have RA_1 := Lib.hid (HA.out.dk K)
    have RB_2 := Lib.hid (HB.out.dk K)
    clear K HA HB
    have la := Ba_0.out.lt
    obtain ⟨ca0, ca1, ca2⟩ := Ba_0.out.cells3
    have lb := Bb_0.out.lt
    obtain ⟨cb0, cb1, cb2⟩ := Bb_0.out.cells3
    have lx := Bx_0.out.lt
    obtain ⟨cx0, cx1⟩ := Bx_0.out.cells2
    have ly := By_0.out.lt
    obtain ⟨cy0, cy1⟩ := By_0.out.cells2
    go_wp2_with fail
    refine (dsign_q _ p a RA_1.out).mono ?_
    rintro e w1 ⟨rfl, hb⟩
    clear la ca0 ca1 ca2 lb cb0 cb1 cb2 lx cx0 cx1 ly cy0 cy1
    have K := Dk.below hb
    have Ba_3 := Lib.hid (show Bk _ _ _ #[.bool p.b, .slice p.A p.n p.c, .int .i64 a.x] from Ba_0.out.below hb)
    have Bb_4 := Lib.hid (show Bk _ _ _ #[.bool q.b, .slice q.A q.n q.c, .int .i64 b.x] from Bb_0.out.below hb)
    have Bx_5 := Lib.hid (show Bk _ _ _ #[.bool false, .slice none 0 0] from Bx_0.out.below hb)
    have By_6 := Lib.hid (show Bk _ _ _ #[.bool false, .slice none 0 0] from By_0.out.below hb)
    have HB_7 := Lib.hid (below_tr HB_0.out hb)
    clear hb
    have RA_8 := Lib.hid (RA_1.out.dk K)
    have RB_9 := Lib.hid (RB_2.out.dk K)
    clear K Ba_0 Bb_0 Bx_0 By_0 HB_0 RA_1 RB_2
    generalize sgn a.z = t at *
    have la := Ba_3.out.lt
    obtain ⟨ca0, ca1, ca2⟩ := Ba_3.out.cells3
    have lb := Bb_4.out.lt
    obtain ⟨cb0, cb1, cb2⟩ := Bb_4.out.cells3
    have lx := Bx_5.out.lt
    obtain ⟨cx0, cx1⟩ := Bx_5.out.cells2
    have fx0 := Bx_5.out.free 0
    have fx1 := Bx_5.out.free 1
    have ly := By_6.out.lt
    obtain ⟨cy0, cy1⟩ := By_6.out.cells2
    have fy0 := By_6.out.free 0
    have fy1 := By_6.out.free 1
    go_wp2
    go_region
    go_wp2
    refine bodyPost_ret (v := .tuple #[.agg #[.bool false, .slice none 0 0], .agg #[.bool q.b, .slice q.A q.n q.c], .int .i64 b.x, .int .i64 0]) ?_ rfl ?_
    · simp [results, Tryd.f109, go_sem, cx0, cx1, cy0, cy1]
    · have y0 := Ba_3.out.lt; have y1 := Bb_4.out.lt; have y2 := Bx_5.out.lt; have y3 := By_6.out.lt; have y4 := HB_7.out.size; exact ⟨⟨Q.nil, q, rfl, RW.zero _, (RB_9.out.dk ((((((Dk.refl _).set (cs := #[.bool false, .slice none 0 0]) Bx_5.out 0 (by intro _ hh; cases hh) (.bool false)).set (cs := #[.bool false, .slice none 0 0]) (Bx_5.out.set 0 (.bool false)) 1 (by intro _ hh; cases hh) (.slice none 0 0)).set (cs := #[.bool false, .slice none 0 0]) ((By_6.out.ne (by omega) 0 (.bool false)).ne (by omega) 1 (.slice none 0 0)) 0 (by intro _ hh; cases hh) (.bool q.b)).set (cs := #[.bool q.b, .slice none 0 0]) (((By_6.out.ne (by omega) 0 (.bool false)).ne (by omega) 1 (.slice none 0 0)).set 0 (.bool q.b)) 1 (by intro _ hh; cases hh) (.slice q.A q.n q.c)).drew)).1⟩, (below_dr (below_st (below_st (below_st (below_st HB_7.out 0 (by omega) (.bool false)) 1 (by omega) (.slice none 0 0)) 0 (by omega) (.bool q.b)) 1 (by omega) (.slice q.A q.n q.c)))⟩
  · have q0 := sgn_ne ha
    by_cases hb0 : b.z = 0
    · have q1 := sgn_eq hb0
      rw [show levX a b = a.z by unfold levX; rw [if_neg ha, if_pos hb0], show levY a b = 0 by unfold levY; rw [if_neg ha, if_pos hb0], show levE a b = a.x by unfold levE; rw [if_neg ha, if_pos hb0]]
      clear ha hb0
      have BX := Lib.hid (boxes4 w 53 #[.bool p.b, .slice p.A p.n p.c, .int .i64 a.x] 53 #[.bool q.b, .slice q.A q.n q.c, .int .i64 b.x] 51 #[.bool false, .slice none 0 0] 51 #[.bool false, .slice none 0 0])
      go_enter Tryd.func109, Tryd.ntmps109
      go_wp2_with fail
      generalize (((w.alloc (.cells #[.bool p.b, .slice p.A p.n p.c, .int .i64 a.x] 53)).alloc (.cells #[.bool q.b, .slice q.A q.n q.c, .int .i64 b.x] 53)).alloc (.cells #[.bool false, .slice none 0 0] 51)).alloc (.cells #[.bool false, .slice none 0 0] 51) = w0 at *
      obtain ⟨b0, b1, b2, b3, hw⟩ := BX.out
      have Ba_0 := Lib.hid b0
      have Bb_0 := Lib.hid b1
      have Bx_0 := Lib.hid b2
      have By_0 := Lib.hid b3
      have HB_0 := Lib.hid hw
      have K := Dk.below (hw.mono (Nat.le_refl _))
      clear BX hw b0 b1 b2 b3
      have RA_1 := Lib.hid (HA.out.dk K)
      have RB_2 := Lib.hid (HB.out.dk K)
      clear K HA HB
      have la := Ba_0.out.lt
      obtain ⟨ca0, ca1, ca2⟩ := Ba_0.out.cells3
      have lb := Bb_0.out.lt
      obtain ⟨cb0, cb1, cb2⟩ := Bb_0.out.cells3
      have lx := Bx_0.out.lt
      obtain ⟨cx0, cx1⟩ := Bx_0.out.cells2
      have ly := By_0.out.lt
      obtain ⟨cy0, cy1⟩ := By_0.out.cells2
      go_wp2_with fail
      refine (dsign_q _ p a RA_1.out).mono ?_
      rintro e w1 ⟨rfl, hb⟩
      clear la ca0 ca1 ca2 lb cb0 cb1 cb2 lx cx0 cx1 ly cy0 cy1
      have K := Dk.below hb
      have Ba_3 := Lib.hid (show Bk _ _ _ #[.bool p.b, .slice p.A p.n p.c, .int .i64 a.x] from Ba_0.out.below hb)
      have Bb_4 := Lib.hid (show Bk _ _ _ #[.bool q.b, .slice q.A q.n q.c, .int .i64 b.x] from Bb_0.out.below hb)
      have Bx_5 := Lib.hid (show Bk _ _ _ #[.bool false, .slice none 0 0] from Bx_0.out.below hb)
      have By_6 := Lib.hid (show Bk _ _ _ #[.bool false, .slice none 0 0] from By_0.out.below hb)
      have HB_7 := Lib.hid (below_tr HB_0.out hb)
      clear hb
      have RA_8 := Lib.hid (RA_1.out.dk K)
      have RB_9 := Lib.hid (RB_2.out.dk K)
      clear K Ba_0 Bb_0 Bx_0 By_0 HB_0 RA_1 RB_2
      generalize sgn a.z = t at *
      have la := Ba_3.out.lt
      obtain ⟨ca0, ca1, ca2⟩ := Ba_3.out.cells3
      have lb := Bb_4.out.lt
      obtain ⟨cb0, cb1, cb2⟩ := Bb_4.out.cells3
      have lx := Bx_5.out.lt
      obtain ⟨cx0, cx1⟩ := Bx_5.out.cells2
      have ly := By_6.out.lt
      obtain ⟨cy0, cy1⟩ := By_6.out.cells2
      go_wp2_with fail
      refine (dsign_q _ q b RB_9.out).mono ?_
      rintro e w2 ⟨rfl, hb⟩
      clear la ca0 ca1 ca2 lb cb0 cb1 cb2 lx cx0 cx1 ly cy0 cy1
      have K := Dk.below hb
      have Ba_10 := Lib.hid (show Bk _ _ _ #[.bool p.b, .slice p.A p.n p.c, .int .i64 a.x] from Ba_3.out.below hb)
      have Bb_11 := Lib.hid (show Bk _ _ _ #[.bool q.b, .slice q.A q.n q.c, .int .i64 b.x] from Bb_4.out.below hb)
      have Bx_12 := Lib.hid (show Bk _ _ _ #[.bool false, .slice none 0 0] from Bx_5.out.below hb)
      have By_13 := Lib.hid (show Bk _ _ _ #[.bool false, .slice none 0 0] from By_6.out.below hb)
      have HB_14 := Lib.hid (below_tr HB_7.out hb)
      clear hb
      have RA_15 := Lib.hid (RA_8.out.dk K)
      have RB_16 := Lib.hid (RB_9.out.dk K)
      clear K Ba_3 Bb_4 Bx_5 By_6 HB_7 RA_8 RB_9
      generalize sgn b.z = t2 at *
      have la := Ba_10.out.lt
      obtain ⟨ca0, ca1, ca2⟩ := Ba_10.out.cells3
      have lb := Bb_11.out.lt
      obtain ⟨cb0, cb1, cb2⟩ := Bb_11.out.cells3
      have lx := Bx_12.out.lt
      obtain ⟨cx0, cx1⟩ := Bx_12.out.cells2
      have fx0 := Bx_12.out.free 0
      have fx1 := Bx_12.out.free 1
      have ly := By_13.out.lt
      obtain ⟨cy0, cy1⟩ := By_13.out.cells2
      have fy0 := By_13.out.free 0
      have fy1 := By_13.out.free 1
      go_wp2
      go_region
      go_wp2
      refine bodyPost_ret (v := .tuple #[.agg #[.bool p.b, .slice p.A p.n p.c], .agg #[.bool false, .slice none 0 0], .int .i64 a.x, .int .i64 0]) ?_ rfl ?_
      · simp [results, Tryd.f109, go_sem, cx0, cx1, cy0, cy1]
      · have y0 := Ba_10.out.lt; have y1 := Bb_11.out.lt; have y2 := Bx_12.out.lt; have y3 := By_13.out.lt; have y4 := HB_14.out.size; exact ⟨⟨p, Q.nil, rfl, (RA_15.out.dk ((((((Dk.refl _).set (cs := #[.bool false, .slice none 0 0]) Bx_12.out 0 (by intro _ hh; cases hh) (.bool p.b)).set (cs := #[.bool p.b, .slice none 0 0]) (Bx_12.out.set 0 (.bool p.b)) 1 (by intro _ hh; cases hh) (.slice p.A p.n p.c)).set (cs := #[.bool false, .slice none 0 0]) ((By_13.out.ne (by omega) 0 (.bool p.b)).ne (by omega) 1 (.slice p.A p.n p.c)) 0 (by intro _ hh; cases hh) (.bool false)).set (cs := #[.bool false, .slice none 0 0]) (((By_13.out.ne (by omega) 0 (.bool p.b)).ne (by omega) 1 (.slice p.A p.n p.c)).set 0 (.bool false)) 1 (by intro _ hh; cases hh) (.slice none 0 0)).drew)).1, RW.zero _⟩, (below_dr (below_st (below_st (below_st (below_st HB_14.out 0 (by omega) (.bool p.b)) 1 (by omega) (.slice p.A p.n p.c)) 0 (by omega) (.bool false)) 1 (by omega) (.slice none 0 0)))⟩
    · have q1 := sgn_ne hb0
      have s0 := Lib.hid (lev_size LA.out LB.out hET ha hb0)
      rw [show levX a b = a.z * 2 ^ (a.x - min a.x b.x).toNat by unfold levX; rw [if_neg ha, if_neg hb0], show levY a b = b.z * 2 ^ (b.x - min a.x b.x).toNat by unfold levY; rw [if_neg ha, if_neg hb0], show levE a b = min a.x b.x by unfold levE; rw [if_neg ha, if_neg hb0]]
      clear ha hb0
      have BX := Lib.hid (boxes4 w 53 #[.bool p.b, .slice p.A p.n p.c, .int .i64 a.x] 53 #[.bool q.b, .slice q.A q.n q.c, .int .i64 b.x] 51 #[.bool false, .slice none 0 0] 51 #[.bool false, .slice none 0 0])
      go_enter Tryd.func109, Tryd.ntmps109
      go_wp2_with fail
      generalize (((w.alloc (.cells #[.bool p.b, .slice p.A p.n p.c, .int .i64 a.x] 53)).alloc (.cells #[.bool q.b, .slice q.A q.n q.c, .int .i64 b.x] 53)).alloc (.cells #[.bool false, .slice none 0 0] 51)).alloc (.cells #[.bool false, .slice none 0 0] 51) = w0 at *
      obtain ⟨b0, b1, b2, b3, hw⟩ := BX.out
      have Ba_0 := Lib.hid b0
      have Bb_0 := Lib.hid b1
      have Bx_0 := Lib.hid b2
      have By_0 := Lib.hid b3
      have HB_0 := Lib.hid hw
      have K := Dk.below (hw.mono (Nat.le_refl _))
      clear BX hw b0 b1 b2 b3
      have RA_1 := Lib.hid (HA.out.dk K)
      have RB_2 := Lib.hid (HB.out.dk K)
      clear K HA HB
      have la := Ba_0.out.lt
      obtain ⟨ca0, ca1, ca2⟩ := Ba_0.out.cells3
      have lb := Bb_0.out.lt
      obtain ⟨cb0, cb1, cb2⟩ := Bb_0.out.cells3
      have lx := Bx_0.out.lt
      obtain ⟨cx0, cx1⟩ := Bx_0.out.cells2
      have ly := By_0.out.lt
      obtain ⟨cy0, cy1⟩ := By_0.out.cells2
      go_wp2_with fail
      refine (dsign_q _ p a RA_1.out).mono ?_
      rintro e w1 ⟨rfl, hb⟩
      clear la ca0 ca1 ca2 lb cb0 cb1 cb2 lx cx0 cx1 ly cy0 cy1
      have K := Dk.below hb
      have Ba_3 := Lib.hid (show Bk _ _ _ #[.bool p.b, .slice p.A p.n p.c, .int .i64 a.x] from Ba_0.out.below hb)
      have Bb_4 := Lib.hid (show Bk _ _ _ #[.bool q.b, .slice q.A q.n q.c, .int .i64 b.x] from Bb_0.out.below hb)
      have Bx_5 := Lib.hid (show Bk _ _ _ #[.bool false, .slice none 0 0] from Bx_0.out.below hb)
      have By_6 := Lib.hid (show Bk _ _ _ #[.bool false, .slice none 0 0] from By_0.out.below hb)
      have HB_7 := Lib.hid (below_tr HB_0.out hb)
      clear hb
      have RA_8 := Lib.hid (RA_1.out.dk K)
      have RB_9 := Lib.hid (RB_2.out.dk K)
      clear K Ba_0 Bb_0 Bx_0 By_0 HB_0 RA_1 RB_2
      generalize sgn a.z = t at *
      have la := Ba_3.out.lt
      obtain ⟨ca0, ca1, ca2⟩ := Ba_3.out.cells3
      have lb := Bb_4.out.lt
      obtain ⟨cb0, cb1, cb2⟩ := Bb_4.out.cells3
      have lx := Bx_5.out.lt
      obtain ⟨cx0, cx1⟩ := Bx_5.out.cells2
      have ly := By_6.out.lt
      obtain ⟨cy0, cy1⟩ := By_6.out.cells2
      go_wp2_with fail
      refine (dsign_q _ q b RB_9.out).mono ?_
      rintro e w2 ⟨rfl, hb⟩
      clear la ca0 ca1 ca2 lb cb0 cb1 cb2 lx cx0 cx1 ly cy0 cy1
      have K := Dk.below hb
      have Ba_10 := Lib.hid (show Bk _ _ _ #[.bool p.b, .slice p.A p.n p.c, .int .i64 a.x] from Ba_3.out.below hb)
      have Bb_11 := Lib.hid (show Bk _ _ _ #[.bool q.b, .slice q.A q.n q.c, .int .i64 b.x] from Bb_4.out.below hb)
      have Bx_12 := Lib.hid (show Bk _ _ _ #[.bool false, .slice none 0 0] from Bx_5.out.below hb)
      have By_13 := Lib.hid (show Bk _ _ _ #[.bool false, .slice none 0 0] from By_6.out.below hb)
      have HB_14 := Lib.hid (below_tr HB_7.out hb)
      clear hb
      have RA_15 := Lib.hid (RA_8.out.dk K)
      have RB_16 := Lib.hid (RB_9.out.dk K)
      clear K Ba_3 Bb_4 Bx_5 By_6 HB_7 RA_8 RB_9
      generalize sgn b.z = t2 at *
      have la := Ba_10.out.lt
      obtain ⟨ca0, ca1, ca2⟩ := Ba_10.out.cells3
      have lb := Bb_11.out.lt
      obtain ⟨cb0, cb1, cb2⟩ := Bb_11.out.cells3
      have lx := Bx_12.out.lt
      obtain ⟨cx0, cx1⟩ := Bx_12.out.cells2
      have ly := By_13.out.lt
      obtain ⟨cy0, cy1⟩ := By_13.out.cells2
      go_wp2_with fail
      rw [wrap_nat (x := a.x - min a.x b.x) (by omega) (by have := s0.out; omega)]
      refine (wleft_q _ p a.z _ RA_15.out.1 (by have := s0.out; omega) (by have := s0.out; omega) (by have := s0.out; omega)).mono ?_
      rintro e w3 ⟨⟨r, rfl, hr⟩, hb⟩
      clear la ca0 ca1 ca2 lb cb0 cb1 cb2 lx cx0 cx1 ly cy0 cy1
      have K := Dk.below hb
      have Ba_17 := Lib.hid (show Bk _ _ _ #[.bool p.b, .slice p.A p.n p.c, .int .i64 a.x] from Ba_10.out.below hb)
      have Bb_18 := Lib.hid (show Bk _ _ _ #[.bool q.b, .slice q.A q.n q.c, .int .i64 b.x] from Bb_11.out.below hb)
      have Bx_19 := Lib.hid (show Bk _ _ _ #[.bool false, .slice none 0 0] from Bx_12.out.below hb)
      have By_20 := Lib.hid (show Bk _ _ _ #[.bool false, .slice none 0 0] from By_13.out.below hb)
      have HB_21 := Lib.hid (below_tr HB_14.out hb)
      clear hb
      have RA_22 := Lib.hid (RA_15.out.dk K)
      have RB_23 := Lib.hid (RB_16.out.dk K)
      clear K Ba_10 Bb_11 Bx_12 By_13 HB_14 RA_15 RB_16
      have RX_24 := Lib.hid hr
      clear hr
      have la := Ba_17.out.lt
      obtain ⟨ca0, ca1, ca2⟩ := Ba_17.out.cells3
      have lb := Bb_18.out.lt
      obtain ⟨cb0, cb1, cb2⟩ := Bb_18.out.cells3
      have lx := Bx_19.out.lt
      obtain ⟨cx0, cx1⟩ := Bx_19.out.cells2
      have ly := By_20.out.lt
      obtain ⟨cy0, cy1⟩ := By_20.out.cells2
      have n_25 := Ba_17.out.lt
      have n_26 := Bb_18.out.lt
      have n_27 := Bx_19.out.lt
      have n_28 := By_20.out.lt
      go_wp2_with fail
      rw [wrap_nat (x := b.x - min a.x b.x) (by omega) (by have := s0.out; omega)]
      refine (wleft_q _ q b.z _ (RB_23.out.dk ((Dk.refl _).alloc _)).1 (by have := s0.out; omega) (by have := s0.out; omega) (by have := s0.out; omega)).mono ?_
      rintro e w4 ⟨⟨s, rfl, hs⟩, hb⟩
      clear la ca0 ca1 ca2 lb cb0 cb1 cb2 lx cx0 cx1 ly cy0 cy1
      have K := Dk.trans ((Dk.refl _).alloc _) (.below hb)
      have Ba_29 := Lib.hid (show Bk _ _ _ #[.bool p.b, .slice p.A p.n p.c, .int .i64 a.x] from (Ba_17.out.alloc _).below hb)
      have Bb_30 := Lib.hid (show Bk _ _ _ #[.bool q.b, .slice q.A q.n q.c, .int .i64 b.x] from (Bb_18.out.alloc _).below hb)
      have Bx_31 := Lib.hid (show Bk _ _ _ #[.bool false, .slice none 0 0] from (Bx_19.out.alloc _).below hb)
      have By_32 := Lib.hid (show Bk _ _ _ #[.bool false, .slice none 0 0] from (By_20.out.alloc _).below hb)
      have Blx_33 := Lib.hid (show Bk _ _ _ #[.bool r.b, .slice r.A r.n r.c] from (Bk.new _ 51 #[.bool r.b, .slice r.A r.n r.c]).below hb)
      have HB_34 := Lib.hid (below_tr (below_al HB_21.out _) hb)
      clear hb
      have RA_35 := Lib.hid (RA_22.out.dk K)
      have RB_36 := Lib.hid (RB_23.out.dk K)
      have RX_37 := Lib.hid (RX_24.out.dk K)
      clear K Ba_17 Bb_18 Bx_19 By_20 HB_21 RA_22 RB_23 RX_24
      have RY_38 := Lib.hid hs
      clear hs
      have la := Ba_29.out.lt
      obtain ⟨ca0, ca1, ca2⟩ := Ba_29.out.cells3
      have lb := Bb_30.out.lt
      obtain ⟨cb0, cb1, cb2⟩ := Bb_30.out.cells3
      have lx := Bx_31.out.lt
      obtain ⟨cx0, cx1⟩ := Bx_31.out.cells2
      have ly := By_32.out.lt
      obtain ⟨cy0, cy1⟩ := By_32.out.cells2
      have llx := Blx_33.out.lt
      obtain ⟨clx0, clx1⟩ := Blx_33.out.cells2
      have n_39 := Ba_29.out.lt
      have n_40 := Bb_30.out.lt
      have n_41 := Bx_31.out.lt
      have n_42 := By_32.out.lt
      have n_43 := Blx_33.out.lt
      go_wp2
      clear la ca0 ca1 ca2 lb cb0 cb1 cb2 lx cx0 cx1 ly cy0 cy1 llx clx0 clx1
      have K : Dk w4 (w4.alloc (.cells #[.bool s.b, .slice s.A s.n s.c] 51)) := ((Dk.refl _).alloc _)
      have Ba_44 := Lib.hid (show Bk (w4.alloc (.cells #[.bool s.b, .slice s.A s.n s.c] 51)) (w.heap.size) 53 #[.bool p.b, .slice p.A p.n p.c, .int .i64 a.x] from (Ba_29.out.alloc _))
      have Bb_45 := Lib.hid (show Bk (w4.alloc (.cells #[.bool s.b, .slice s.A s.n s.c] 51)) (w.heap.size + 1) 53 #[.bool q.b, .slice q.A q.n q.c, .int .i64 b.x] from (Bb_30.out.alloc _))
      have Bx_46 := Lib.hid (show Bk (w4.alloc (.cells #[.bool s.b, .slice s.A s.n s.c] 51)) (w.heap.size + 2) 51 #[.bool false, .slice none 0 0] from (Bx_31.out.alloc _))
      have By_47 := Lib.hid (show Bk (w4.alloc (.cells #[.bool s.b, .slice s.A s.n s.c] 51)) (w.heap.size + 3) 51 #[.bool false, .slice none 0 0] from (By_32.out.alloc _))
      have Blx_48 := Lib.hid (show Bk (w4.alloc (.cells #[.bool s.b, .slice s.A s.n s.c] 51)) (w3.heap.size) 51 #[.bool r.b, .slice r.A r.n r.c] from (Blx_33.out.alloc _))
      have Bly_49 := Lib.hid (show Bk (w4.alloc (.cells #[.bool s.b, .slice s.A s.n s.c] 51)) (w4.heap.size) 51 #[.bool s.b, .slice s.A s.n s.c] from (Bk.new _ 51 #[.bool s.b, .slice s.A s.n s.c]))
      have HB_50 := Lib.hid (show Below w.heap.size w (w4.alloc (.cells #[.bool s.b, .slice s.A s.n s.c] 51)) from (below_al HB_34.out _))
      have RA_51 := Lib.hid (RA_35.out.dk K)
      have RB_52 := Lib.hid (RB_36.out.dk K)
      have RX_53 := Lib.hid (RX_37.out.dk K)
      have RY_54 := Lib.hid (RY_38.out.dk K)
      clear K Ba_29 Bb_30 Bx_31 By_32 Blx_33 HB_34 RA_35 RB_36 RX_37 RY_38
      generalize w4.alloc (.cells #[.bool s.b, .slice s.A s.n s.c] 51) = w5 at *
      have la := Ba_44.out.lt
      obtain ⟨ca0, ca1, ca2⟩ := Ba_44.out.cells3
      have lb := Bb_45.out.lt
      obtain ⟨cb0, cb1, cb2⟩ := Bb_45.out.cells3
      have lx := Bx_46.out.lt
      obtain ⟨cx0, cx1⟩ := Bx_46.out.cells2
      have fx0 := Bx_46.out.free 0
      have fx1 := Bx_46.out.free 1
      have ly := By_47.out.lt
      obtain ⟨cy0, cy1⟩ := By_47.out.cells2
      have fy0 := By_47.out.free 0
      have fy1 := By_47.out.free 1
      have llx := Blx_48.out.lt
      obtain ⟨clx0, clx1⟩ := Blx_48.out.cells2
      have lly := Bly_49.out.lt
      obtain ⟨cly0, cly1⟩ := Bly_49.out.cells2
      go_region
      go_wp2
      refine bodyPost_ret (v := .tuple #[.agg #[.bool r.b, .slice r.A r.n r.c], .agg #[.bool s.b, .slice s.A s.n s.c], .int .i64 (min a.x b.x), .int .i64 0]) ?_ rfl ?_
      · simp [results, Tryd.f109, go_sem, cx0, cx1, cy0, cy1]
      · have y0 := Ba_44.out.lt; have y1 := Bb_45.out.lt; have y2 := Bx_46.out.lt; have y3 := By_47.out.lt; have y4 := Blx_48.out.lt; have y5 := Bly_49.out.lt; have y6 := HB_50.out.size; exact ⟨⟨r, s, rfl, (RX_53.out.dk ((((((Dk.refl _).set (cs := #[.bool false, .slice none 0 0]) Bx_46.out 0 (by intro _ hh; cases hh) (.bool r.b)).set (cs := #[.bool r.b, .slice none 0 0]) (Bx_46.out.set 0 (.bool r.b)) 1 (by intro _ hh; cases hh) (.slice r.A r.n r.c)).set (cs := #[.bool false, .slice none 0 0]) ((By_47.out.ne (by omega) 0 (.bool r.b)).ne (by omega) 1 (.slice r.A r.n r.c)) 0 (by intro _ hh; cases hh) (.bool s.b)).set (cs := #[.bool s.b, .slice none 0 0]) (((By_47.out.ne (by omega) 0 (.bool r.b)).ne (by omega) 1 (.slice r.A r.n r.c)).set 0 (.bool s.b)) 1 (by intro _ hh; cases hh) (.slice s.A s.n s.c)).drew)), (RY_54.out.dk ((((((Dk.refl _).set (cs := #[.bool false, .slice none 0 0]) Bx_46.out 0 (by intro _ hh; cases hh) (.bool r.b)).set (cs := #[.bool r.b, .slice none 0 0]) (Bx_46.out.set 0 (.bool r.b)) 1 (by intro _ hh; cases hh) (.slice r.A r.n r.c)).set (cs := #[.bool false, .slice none 0 0]) ((By_47.out.ne (by omega) 0 (.bool r.b)).ne (by omega) 1 (.slice r.A r.n r.c)) 0 (by intro _ hh; cases hh) (.bool s.b)).set (cs := #[.bool s.b, .slice none 0 0]) (((By_47.out.ne (by omega) 0 (.bool r.b)).ne (by omega) 1 (.slice r.A r.n r.c)).set 0 (.bool s.b)) 1 (by intro _ hh; cases hh) (.slice s.A s.n s.c)).drew))⟩, (below_dr (below_st (below_st (below_st (below_st HB_50.out 0 (by omega) (.bool r.b)) 1 (by omega) (.slice r.A r.n r.c)) 0 (by omega) (.bool s.b)) 1 (by omega) (.slice s.A s.n s.c)))⟩
end Go.Proofs.YtgioppkggpfnoaaDoor.Nu
end

section
/- The walk of dyad.Add. -/
set_option linter.unusedVariables false
namespace Go.Proofs.YtgioppkggpfnoaaDoor.Nu
open Go.RowKit Go.Proofs

theorem lev_nb {a b : D} {E T : Nat} (la : a.Lim E T) (lb : b.Lim E T) (hET : E + T ≤ 16000) :
    nb (levX a b).natAbs ≤ 16000 ∧ nb (levY a b).natAbs ≤ 16000 ∧ nb (levX a b + levY a b).natAbs ≤ 16384 ∧ -40000 ≤ levE a b ∧ levE a b ≤ 40000 := by
  have e : nb (levX a b).natAbs ≤ 16000 ∧ nb (levY a b).natAbs ≤ 16000 ∧ -40000 ≤ levE a b ∧ levE a b ≤ 40000 := by
    have h1 := la.nb
    have h2 := lb.nb
    have h3 := la.1
    have h4 := la.2
    have h5 := lb.1
    have h6 := lb.2
    unfold levX levY levE
    by_cases ha : a.z = 0
    · rw [if_pos ha, if_pos ha, if_pos ha]
      exact ⟨by simp [nb_zero], by omega, by omega, by omega⟩
    · by_cases hb : b.z = 0
      · rw [if_neg ha, if_neg ha, if_neg ha, if_pos hb, if_pos hb, if_pos hb]
        exact ⟨by omega, by simp [nb_zero], by omega, by omega⟩
      · have := lev_size la lb hET ha hb
        rw [if_neg ha, if_neg ha, if_neg ha, if_neg hb, if_neg hb, if_neg hb]
        exact ⟨this.2.2.2.2.1, this.2.2.2.2.2, by omega, by omega⟩
  exact ⟨e.1, e.2.1, Nat.le_trans (nb_add _ _ 16000 e.1 e.2.1) (by omega), e.2.2⟩

set_option maxRecDepth 100000 in
set_option maxHeartbeats 4000000 in
theorem dadd_any (w : World) (p q : Q) (a b : D) (E T : Nat) (h : RD w p a) (h2 : RD w q b) (la : a.Lim E T) (lb : b.Lim E T) (hET : E + T ≤ 16000) (ht : BTab w) :
    Calls Tryd.prog 52 #[.agg #[.bool p.b, .slice p.A p.n p.c, .int .i64 a.x], .agg #[.bool q.b, .slice q.A q.n q.c, .int .i64 b.x]] w fun e w' => (∃ r : Q, e = .returned (.tuple #[.agg #[.bool r.b, .slice r.A r.n r.c, .int .i64 (a.add b).x], .int .i64 0]) ∧ RD w' r (a.add b)) ∧ Below w.heap.size w w' := by
  have HA := Lib.hid h
  have HB := Lib.hid h2
  have LA := Lib.hid la
  have LB := Lib.hid lb
  clear h h2 la lb
  have HT := Lib.hid ht
  clear ht
  have s0 := Lib.hid (lev_nb LA.out LB.out hET)
  rw [add_lev]
  have BX := Lib.hid (boxes3 w 53 #[.bool p.b, .slice p.A p.n p.c, .int .i64 a.x] 53 #[.bool q.b, .slice q.A q.n q.c, .int .i64 b.x] 53 #[.bool false, .slice none 0 0, .int .i64 0])
  go_enter Tryd.func52, Tryd.ntmps52
  go_wp2_with fail
  generalize ((w.alloc (.cells #[.bool p.b, .slice p.A p.n p.c, .int .i64 a.x] 53)).alloc (.cells #[.bool q.b, .slice q.A q.n q.c, .int .i64 b.x] 53)).alloc (.cells #[.bool false, .slice none 0 0, .int .i64 0] 53) = w0 at *
  obtain ⟨b0, b1, b2, hw⟩ := BX.out
  have Ba_0 := Lib.hid b0
  have Bb_0 := Lib.hid b1
  have Bo_0 := Lib.hid b2
  have HB_0 := Lib.hid hw
  have K := Dk.below (hw.mono (Nat.le_refl _))
  clear BX hw b0 b1 b2
  have RA_1 := Lib.hid (HA.out.dk K)
  have RB_2 := Lib.hid (HB.out.dk K)
  clear K HA HB
  have la := Ba_0.out.lt
  obtain ⟨ca0, ca1, ca2⟩ := Ba_0.out.cells3
  have lb := Bb_0.out.lt
  obtain ⟨cb0, cb1, cb2⟩ := Bb_0.out.cells3
  have lo := Bo_0.out.lt
  obtain ⟨co0, co1, co2⟩ := Bo_0.out.cells3
  go_wp2_with fail
  refine (dlevel_any _ p q a b E T RA_1.out RB_2.out LA.out LB.out hET).mono ?_
  rintro e w1 ⟨⟨r, s, rfl, hr, hs⟩, hb⟩
  clear la ca0 ca1 ca2 lb cb0 cb1 cb2 lo co0 co1 co2
  have K := Dk.below hb
  have Ba_3 := Lib.hid (show Bk _ _ _ #[.bool p.b, .slice p.A p.n p.c, .int .i64 a.x] from Ba_0.out.below hb)
  have Bb_4 := Lib.hid (show Bk _ _ _ #[.bool q.b, .slice q.A q.n q.c, .int .i64 b.x] from Bb_0.out.below hb)
  have Bo_5 := Lib.hid (show Bk _ _ _ #[.bool false, .slice none 0 0, .int .i64 0] from Bo_0.out.below hb)
  have HB_6 := Lib.hid (below_tr HB_0.out hb)
  clear hb
  have RA_7 := Lib.hid (RA_1.out.dk K)
  have RB_8 := Lib.hid (RB_2.out.dk K)
  clear K Ba_0 Bb_0 Bo_0 HB_0 RA_1 RB_2
  have RX_9 := Lib.hid hr
  clear hr
  have RY_10 := Lib.hid hs
  clear hs
  have la := Ba_3.out.lt
  obtain ⟨ca0, ca1, ca2⟩ := Ba_3.out.cells3
  have lb := Bb_4.out.lt
  obtain ⟨cb0, cb1, cb2⟩ := Bb_4.out.cells3
  have lo := Bo_5.out.lt
  obtain ⟨co0, co1, co2⟩ := Bo_5.out.cells3
  have n_11 := Ba_3.out.lt
  have n_12 := Bb_4.out.lt
  have n_13 := Bo_5.out.lt
  go_wp2_with fail
  refine (wadd_q _ r s (levX a b) (levY a b) (RX_9.out.dk (((Dk.refl _).alloc _).alloc _)) (RY_10.out.dk (((Dk.refl _).alloc _).alloc _)) (s0.out.1) (s0.out.2.1)).mono ?_
  rintro e w2 ⟨⟨t, rfl, ht⟩, hb⟩
  clear la ca0 ca1 ca2 lb cb0 cb1 cb2 lo co0 co1 co2
  have K := Dk.trans (((Dk.refl _).alloc _).alloc _) (.below hb)
  have Ba_14 := Lib.hid (show Bk _ _ _ #[.bool p.b, .slice p.A p.n p.c, .int .i64 a.x] from ((Ba_3.out.alloc _).alloc _).below hb)
  have Bb_15 := Lib.hid (show Bk _ _ _ #[.bool q.b, .slice q.A q.n q.c, .int .i64 b.x] from ((Bb_4.out.alloc _).alloc _).below hb)
  have Bo_16 := Lib.hid (show Bk _ _ _ #[.bool false, .slice none 0 0, .int .i64 0] from ((Bo_5.out.alloc _).alloc _).below hb)
  have Bx_17 := Lib.hid (show Bk _ _ _ #[.bool r.b, .slice r.A r.n r.c] from ((Bk.new _ 51 #[.bool r.b, .slice r.A r.n r.c]).alloc _).below hb)
  have By_18 := Lib.hid (show Bk _ _ _ #[.bool s.b, .slice s.A s.n s.c] from (Bk.new_1 _ _ 51 #[.bool s.b, .slice s.A s.n s.c]).below hb)
  have HB_19 := Lib.hid (below_tr (below_al (below_al HB_6.out _) _) hb)
  clear hb
  have RA_20 := Lib.hid (RA_7.out.dk K)
  have RB_21 := Lib.hid (RB_8.out.dk K)
  have RX_22 := Lib.hid (RX_9.out.dk K)
  have RY_23 := Lib.hid (RY_10.out.dk K)
  clear K Ba_3 Bb_4 Bo_5 HB_6 RA_7 RB_8 RX_9 RY_10
  have RS_24 := Lib.hid ht
  clear ht
  have la := Ba_14.out.lt
  obtain ⟨ca0, ca1, ca2⟩ := Ba_14.out.cells3
  have lb := Bb_15.out.lt
  obtain ⟨cb0, cb1, cb2⟩ := Bb_15.out.cells3
  have lo := Bo_16.out.lt
  obtain ⟨co0, co1, co2⟩ := Bo_16.out.cells3
  have lx := Bx_17.out.lt
  obtain ⟨cx0, cx1⟩ := Bx_17.out.cells2
  have ly := By_18.out.lt
  obtain ⟨cy0, cy1⟩ := By_18.out.cells2
  have n_25 := Ba_14.out.lt
  have n_26 := Bb_15.out.lt
  have n_27 := Bo_16.out.lt
  have n_28 := Bx_17.out.lt
  have n_29 := By_18.out.lt
  go_wp2_with fail
  refine (dmake_q _ t (levX a b + levY a b) (levE a b) (RS_24.out.dk ((Dk.refl _).alloc _)) s0.out.2.2.1 s0.out.2.2.2.1 s0.out.2.2.2.2 (HT.out.below (below_al HB_19.out _))).mono ?_
  rintro e w3 ⟨⟨u, rfl, hu⟩, hb⟩
  clear la ca0 ca1 ca2 lb cb0 cb1 cb2 lo co0 co1 co2 lx cx0 cx1 ly cy0 cy1
  have K := Dk.trans ((Dk.refl _).alloc _) (.below hb)
  have Ba_30 := Lib.hid (show Bk _ _ _ #[.bool p.b, .slice p.A p.n p.c, .int .i64 a.x] from (Ba_14.out.alloc _).below hb)
  have Bb_31 := Lib.hid (show Bk _ _ _ #[.bool q.b, .slice q.A q.n q.c, .int .i64 b.x] from (Bb_15.out.alloc _).below hb)
  have Bo_32 := Lib.hid (show Bk _ _ _ #[.bool false, .slice none 0 0, .int .i64 0] from (Bo_16.out.alloc _).below hb)
  have Bx_33 := Lib.hid (show Bk _ _ _ #[.bool r.b, .slice r.A r.n r.c] from (Bx_17.out.alloc _).below hb)
  have By_34 := Lib.hid (show Bk _ _ _ #[.bool s.b, .slice s.A s.n s.c] from (By_18.out.alloc _).below hb)
  have Bs_35 := Lib.hid (show Bk _ _ _ #[.bool t.b, .slice t.A t.n t.c] from (Bk.new _ 51 #[.bool t.b, .slice t.A t.n t.c]).below hb)
  have HB_36 := Lib.hid (below_tr (below_al HB_19.out _) hb)
  clear hb
  have RA_37 := Lib.hid (RA_20.out.dk K)
  have RB_38 := Lib.hid (RB_21.out.dk K)
  have RX_39 := Lib.hid (RX_22.out.dk K)
  have RY_40 := Lib.hid (RY_23.out.dk K)
  have RS_41 := Lib.hid (RS_24.out.dk K)
  clear K Ba_14 Bb_15 Bo_16 Bx_17 By_18 HB_19 RA_20 RB_21 RX_22 RY_23 RS_24
  have RU_42 := Lib.hid hu
  clear hu
  have la := Ba_30.out.lt
  obtain ⟨ca0, ca1, ca2⟩ := Ba_30.out.cells3
  have lb := Bb_31.out.lt
  obtain ⟨cb0, cb1, cb2⟩ := Bb_31.out.cells3
  have lo := Bo_32.out.lt
  obtain ⟨co0, co1, co2⟩ := Bo_32.out.cells3
  have fo0 := Bo_32.out.free 0
  have fo1 := Bo_32.out.free 1
  have fo2 := Bo_32.out.free 2
  have lx := Bx_33.out.lt
  obtain ⟨cx0, cx1⟩ := Bx_33.out.cells2
  have ly := By_34.out.lt
  obtain ⟨cy0, cy1⟩ := By_34.out.cells2
  have ls := Bs_35.out.lt
  obtain ⟨cs0, cs1⟩ := Bs_35.out.cells2
  go_wp2
  refine bodyPost_ret (v := .tuple #[.agg #[.bool u.b, .slice u.A u.n u.c, .int .i64 (D.mk' (levX a b + levY a b) (levE a b)).x], .int .i64 0]) ?_ rfl ?_
  · simp [results, Tryd.f52, go_sem, co0, co1, co2]
  · have y0 := HB_36.out.size; exact ⟨⟨u, rfl, (RU_42.out.dk ((((Dk.refl _).set (cs := #[.bool false, .slice none 0 0, .int .i64 0]) Bo_32.out 0 (by intro _ hh; cases hh) (.bool u.b)).set (cs := #[.bool u.b, .slice none 0 0, .int .i64 0]) (Bo_32.out.set 0 (.bool u.b)) 1 (by intro _ hh; cases hh) (.slice u.A u.n u.c)).set (cs := #[.bool u.b, .slice u.A u.n u.c, .int .i64 0]) ((Bo_32.out.set 0 (.bool u.b)).set 1 (.slice u.A u.n u.c)) 2 (by intro _ hh; cases hh) (.int .i64 (D.mk' (levX a b + levY a b) (levE a b)).x)))⟩, (below_st (below_st (below_st HB_36.out 0 (by omega) (.bool u.b)) 1 (by omega) (.slice u.A u.n u.c)) 2 (by omega) (.int .i64 (D.mk' (levX a b + levY a b) (levE a b)).x))⟩

end Go.Proofs.YtgioppkggpfnoaaDoor.Nu
end

section
/- The walk of dyad.top. -/
set_option linter.unusedVariables false
namespace Go.Proofs.YtgioppkggpfnoaaDoor.Nu
open Go.RowKit Go.Proofs

set_option maxRecDepth 100000 in
set_option maxHeartbeats 4000000 in
theorem dtop_any (w : World) (p : Q) (a : D) (h : RD w p a) (hz : nb a.z.natAbs ≤ 16384) (hx : -20000 ≤ a.x ∧ a.x ≤ 20000) :
    Calls Tryd.prog 108 #[.agg #[.bool p.b, .slice p.A p.n p.c, .int .i64 a.x]] w fun e w' => e = .returned (.int .i64 a.top) ∧ Below w.heap.size w w' := by
  have HA := Lib.hid h
  clear h
  unfold D.top
  have e1 := Lib.hid (fun W => bits_q W p a.z)
  have y0 : nb a.z.natAbs ≤ 16384 := hz
  clear hz
  generalize nb a.z.natAbs = k at *
  have y1 : IntKind.i64.wrap (a.x + (k : Int)) = a.x + (k : Int) := by rw [IntKind.wrap_i64]; omega
  have BX := Lib.hid (boxes1 w 53 #[.bool p.b, .slice p.A p.n p.c, .int .i64 a.x])
  go_enter Tryd.func108, Tryd.ntmps108
  go_wp2_with fail
  generalize w.alloc (.cells #[.bool p.b, .slice p.A p.n p.c, .int .i64 a.x] 53) = w0 at *
  obtain ⟨b0, hw⟩ := BX.out
  have Ba_0 := Lib.hid b0
  have HB_0 := Lib.hid hw
  have K := Dk.below (hw.mono (Nat.le_refl _))
  clear BX hw b0
  have RA_1 := Lib.hid (HA.out.dk K)
  clear K HA
  have la := Ba_0.out.lt
  obtain ⟨ca0, ca1, ca2⟩ := Ba_0.out.cells3
  go_wp2_with fail
  go_quiet ((go_at_call 147; exact Calls.quiet_of_same (e1.out _ RA_1.out.1 y0)))
  go_wp2
  go_ret
  exact ⟨rfl, below_drewN HB_0.out _⟩

end Go.Proofs.YtgioppkggpfnoaaDoor.Nu
end

section
/- The walk of dyad.Compare. -/
set_option linter.unusedVariables false
namespace Go.Proofs.YtgioppkggpfnoaaDoor.Nu
open Go.RowKit Go.Proofs

theorem lim_top {a : D} {E T : Nat} (h : a.Lim E T) (hET : E + T ≤ 16000) : nb a.z.natAbs ≤ 16384 ∧ -20000 ≤ a.x ∧ a.x ≤ 20000 := by
  have h1 := h.nb
  have h2 := h.1
  have h3 := h.2
  omega
theorem cmp_sgn_lt {a b : D} (h : sgn a.z < sgn b.z) : a.cmp b = -1 := by
  have h1 := sgn_cases a.z
  have h2 := sgn_cases b.z
  apply dcmp_lt
  have h3 := val_neg (d := a)
  have h4 := val_pos (d := b)
  have h5 := val_neg (d := b)
  have h6 := val_pos (d := a)
  by_cases ha : a.z < 0
  · have h7 := h3.2 ha
    have h8 : ¬ b.val < 0 := fun e => by have := h5.1 e; omega
    grind
  · have h7 : ¬ a.val < 0 := fun e => ha (h3.1 e)
    have h8 := h4.2 (by omega)
    have h9 : ¬ 0 < a.val := fun e => by have := h6.1 e; omega
    grind
theorem dcmp_swap (a b : D) : a.cmp b = - b.cmp a := by
  have h1 := qcmp_cases a.val b.val
  have h2 := qcmp_cases b.val a.val
  unfold D.cmp
  rcases h1 with ⟨h, e⟩ | ⟨h, e⟩ | ⟨h, e⟩ <;> rcases h2 with ⟨h', e'⟩ | ⟨h', e'⟩ | ⟨h', e'⟩ <;> first | omega | (exfalso; grind)
theorem cmp_sgn_gt {a b : D} (h : sgn b.z < sgn a.z) : a.cmp b = 1 := by rw [dcmp_swap, cmp_sgn_lt h]; rfl
theorem cmp_sgn_zero {a b : D} (h : sgn a.z = sgn b.z) (h0 : sgn a.z = 0) : a.cmp b = 0 := by
  have h1 := sgn_cases a.z
  have h2 := sgn_cases b.z
  apply dcmp_eq
  rw [val_of_zero (d := a) (by omega), val_of_zero (d := b) (by omega)]
theorem cmp_top_p {a b : D} (h : sgn a.z = sgn b.z) (h0 : 0 < sgn a.z) (ht : a.top < b.top) : a.cmp b = -1 := by
  have h1 := sgn_cases a.z
  have h2 := sgn_cases b.z
  exact dcmp_lt (dtop_lt (by omega) ht)
theorem cmp_top_n {a b : D} (h : sgn a.z = sgn b.z) (h0 : sgn a.z < 0) (ht : b.top < a.top) : a.cmp b = -1 := by
  have h1 := sgn_cases a.z
  have h2 := sgn_cases b.z
  exact dcmp_lt (top_lt_neg (by omega) ht)
theorem cmp_lev {a b : D} (ha : a.z ≠ 0) (hb : b.z ≠ 0) : icmp (levX a b) (levY a b) = a.cmp b := by
  have h := scaled_cmp (a := a) (b := b) (low := min a.x b.x) (by omega) (by omega)
  unfold levX levY
  rw [if_neg ha, if_neg hb, if_neg ha, if_neg hb]
  generalize a.z * 2 ^ (a.x - min a.x b.x).toNat = X at *
  generalize b.z * 2 ^ (b.x - min a.x b.x).toNat = Y at *
  rcases Int.lt_trichotomy X Y with h1 | h1 | h1
  · rw [icmp_lt h1, dcmp_lt (h.1.1 h1)]
  · rw [icmp_eq h1.symm, dcmp_eq (h.2.1 h1)]
  · rw [icmp_gt h1, dcmp_gt]
    have h2 : ¬ a.val < b.val := fun e => by have := h.1.2 e; omega
    have h3 : ¬ a.val = b.val := fun e => by have := h.2.2 e; omega
    grind

set_option maxRecDepth 100000 in
set_option maxHeartbeats 4000000 in
theorem dcmp_a (w : World) (p q : Q) (a b : D) (E T : Nat) (h : RD w p a) (h2 : RD w q b) (la : a.Lim E T) (lb : b.Lim E T) (hET : E + T ≤ 16000) (hne : sgn a.z ≠ sgn b.z) :
    Calls Tryd.prog 48 #[.agg #[.bool p.b, .slice p.A p.n p.c, .int .i64 a.x], .agg #[.bool q.b, .slice q.A q.n q.c, .int .i64 b.x]] w fun e w' => e = .returned (.int .i64 (a.cmp b)) ∧ Below w.heap.size w w' := by
  have HA := Lib.hid h
  have HB := Lib.hid h2
  have LA := Lib.hid la
  have LB := Lib.hid lb
  clear h h2 la lb
  by_cases he : sgn a.z < sgn b.z
  · have HS := Lib.hid (cmp_sgn_lt he).symm
    have q0 : ((sgn a.z : Int) == sgn b.z) = false := by rw [beq_eq_false_iff_ne]; exact hne
    have q1 : ((sgn a.z : Int) != sgn b.z) = true := by rw [bne, q0]; rfl
    have q2 : sgn a.z < sgn b.z := he
    clear he hne
    have BX := Lib.hid (boxes2 w 53 #[.bool p.b, .slice p.A p.n p.c, .int .i64 a.x] 53 #[.bool q.b, .slice q.A q.n q.c, .int .i64 b.x])
    go_enter Tryd.func48, Tryd.ntmps48
    go_wp2_with fail
    generalize (w.alloc (.cells #[.bool p.b, .slice p.A p.n p.c, .int .i64 a.x] 53)).alloc (.cells #[.bool q.b, .slice q.A q.n q.c, .int .i64 b.x] 53) = w0 at *
    obtain ⟨b0, b1, hw⟩ := BX.out
    have Ba_0 := Lib.hid b0
    have Bb_0 := Lib.hid b1
    have HB_0 := Lib.hid hw
    have K := Dk.below (hw.mono (Nat.le_refl _))
    clear BX hw b0 b1
    have RA_1 := Lib.hid (HA.out.dk K)
    have RB_2 := Lib.hid (HB.out.dk K)
    clear K HA HB
    have la := Ba_0.out.lt
    obtain ⟨ca0, ca1, ca2⟩ := Ba_0.out.cells3
    have lb := Bb_0.out.lt
    obtain ⟨cb0, cb1, cb2⟩ := Bb_0.out.cells3
    go_wp2_with fail
    have tok_3 : True := trivial
    have tok_4 : True := trivial
    go_region_held3 (fun w' => w'.cell? ⟨w.heap.size, 0, none⟩ = some (.bool p.b) ∧ w'.cell? ⟨w.heap.size, 1, none⟩ = some (.slice p.A p.n p.c) ∧ w'.cell? ⟨w.heap.size, 2, none⟩ = some (.int .i64 a.x) ∧ w'.cell? ⟨w.heap.size + 1, 0, none⟩ = some (.bool q.b) ∧ w'.cell? ⟨w.heap.size + 1, 1, none⟩ = some (.slice q.A q.n q.c) ∧ w'.cell? ⟨w.heap.size + 1, 2, none⟩ = some (.int .i64 b.x)) (first | exact ⟨Ba_0.out.cell 0 rfl, Ba_0.out.cell 1 rfl, Ba_0.out.cell 2 rfl, Bb_0.out.cell 0 rfl, Bb_0.out.cell 1 rfl, Bb_0.out.cell 2 rfl⟩ | exact ⟨Ba_5.out.cell 0 rfl, Ba_5.out.cell 1 rfl, Ba_5.out.cell 2 rfl, Bb_6.out.cell 0 rfl, Bb_6.out.cell 1 rfl, Bb_6.out.cell 2 rfl⟩ | exact ⟨Ba_10.out.cell 0 rfl, Ba_10.out.cell 1 rfl, Ba_10.out.cell 2 rfl, Bb_11.out.cell 0 rfl, Bb_11.out.cell 1 rfl, Bb_11.out.cell 2 rfl⟩)
      (first
       | (have _ := tok_3; go_at_call 34; clear tok_3; refine (dsign_q _ p a (RA_1.out.dk ((Dk.refl _).drew))).mono ?_; rintro e w1 ⟨rfl, hb⟩; clear la ca0 ca1 ca2 lb cb0 cb1 cb2; have K := Dk.trans ((Dk.refl _).drew) (.below hb); have Ba_5 := Lib.hid (show Bk _ _ _ #[.bool p.b, .slice p.A p.n p.c, .int .i64 a.x] from (Ba_0.out.drew).below hb); have Bb_6 := Lib.hid (show Bk _ _ _ #[.bool q.b, .slice q.A q.n q.c, .int .i64 b.x] from (Bb_0.out.drew).below hb); have HB_7 := Lib.hid (below_tr (below_dr HB_0.out) hb); clear hb; have RA_8 := Lib.hid (RA_1.out.dk K); have RB_9 := Lib.hid (RB_2.out.dk K); clear K Ba_0 Bb_0 HB_0 RA_1 RB_2; have la := Ba_5.out.lt; obtain ⟨ca0, ca1, ca2⟩ := Ba_5.out.cells3; have lb := Bb_6.out.lt; obtain ⟨cb0, cb1, cb2⟩ := Bb_6.out.cells3)
       | (have _ := tok_4; go_at_call 34; clear tok_4; refine (dsign_q _ q b RB_9.out).mono ?_; rintro e w2 ⟨rfl, hb⟩; clear la ca0 ca1 ca2 lb cb0 cb1 cb2; have K := Dk.below hb; have Ba_10 := Lib.hid (show Bk _ _ _ #[.bool p.b, .slice p.A p.n p.c, .int .i64 a.x] from Ba_5.out.below hb); have Bb_11 := Lib.hid (show Bk _ _ _ #[.bool q.b, .slice q.A q.n q.c, .int .i64 b.x] from Bb_6.out.below hb); have HB_12 := Lib.hid (below_tr HB_7.out hb); clear hb; have RA_13 := Lib.hid (RA_8.out.dk K); have RB_14 := Lib.hid (RB_9.out.dk K); clear K Ba_5 Bb_6 HB_7 RA_8 RB_9; have la := Ba_10.out.lt; obtain ⟨ca0, ca1, ca2⟩ := Ba_10.out.cells3; have lb := Bb_11.out.lt; obtain ⟨cb0, cb1, cb2⟩ := Bb_11.out.cells3))
    generalize sgn a.z = x at *
    generalize sgn b.z = y at *
    go_wp2
    go_ret
    exact ⟨ret_int HS.out, HB_12.out⟩
  · have HS := Lib.hid (cmp_sgn_gt (a := a) (b := b) (by omega)).symm
    have q0 : ((sgn a.z : Int) == sgn b.z) = false := by rw [beq_eq_false_iff_ne]; exact hne
    have q1 : ((sgn a.z : Int) != sgn b.z) = true := by rw [bne, q0]; rfl
    have q2 : ¬ sgn a.z < sgn b.z := he
    clear he hne
    have BX := Lib.hid (boxes2 w 53 #[.bool p.b, .slice p.A p.n p.c, .int .i64 a.x] 53 #[.bool q.b, .slice q.A q.n q.c, .int .i64 b.x])
    go_enter Tryd.func48, Tryd.ntmps48
    go_wp2_with fail
    generalize (w.alloc (.cells #[.bool p.b, .slice p.A p.n p.c, .int .i64 a.x] 53)).alloc (.cells #[.bool q.b, .slice q.A q.n q.c, .int .i64 b.x] 53) = w0 at *
    obtain ⟨b0, b1, hw⟩ := BX.out
    have Ba_0 := Lib.hid b0
    have Bb_0 := Lib.hid b1
    have HB_0 := Lib.hid hw
    have K := Dk.below (hw.mono (Nat.le_refl _))
    clear BX hw b0 b1
    have RA_1 := Lib.hid (HA.out.dk K)
    have RB_2 := Lib.hid (HB.out.dk K)
    clear K HA HB
    have la := Ba_0.out.lt
    obtain ⟨ca0, ca1, ca2⟩ := Ba_0.out.cells3
    have lb := Bb_0.out.lt
    obtain ⟨cb0, cb1, cb2⟩ := Bb_0.out.cells3
    go_wp2_with fail
    have tok_3 : True := trivial
    have tok_4 : True := trivial
    go_region_held3 (fun w' => w'.cell? ⟨w.heap.size, 0, none⟩ = some (.bool p.b) ∧ w'.cell? ⟨w.heap.size, 1, none⟩ = some (.slice p.A p.n p.c) ∧ w'.cell? ⟨w.heap.size, 2, none⟩ = some (.int .i64 a.x) ∧ w'.cell? ⟨w.heap.size + 1, 0, none⟩ = some (.bool q.b) ∧ w'.cell? ⟨w.heap.size + 1, 1, none⟩ = some (.slice q.A q.n q.c) ∧ w'.cell? ⟨w.heap.size + 1, 2, none⟩ = some (.int .i64 b.x)) (first | exact ⟨Ba_0.out.cell 0 rfl, Ba_0.out.cell 1 rfl, Ba_0.out.cell 2 rfl, Bb_0.out.cell 0 rfl, Bb_0.out.cell 1 rfl, Bb_0.out.cell 2 rfl⟩ | exact ⟨Ba_5.out.cell 0 rfl, Ba_5.out.cell 1 rfl, Ba_5.out.cell 2 rfl, Bb_6.out.cell 0 rfl, Bb_6.out.cell 1 rfl, Bb_6.out.cell 2 rfl⟩ | exact ⟨Ba_10.out.cell 0 rfl, Ba_10.out.cell 1 rfl, Ba_10.out.cell 2 rfl, Bb_11.out.cell 0 rfl, Bb_11.out.cell 1 rfl, Bb_11.out.cell 2 rfl⟩)
      (first
       | (have _ := tok_3; go_at_call 34; clear tok_3; refine (dsign_q _ p a (RA_1.out.dk ((Dk.refl _).drew))).mono ?_; rintro e w1 ⟨rfl, hb⟩; clear la ca0 ca1 ca2 lb cb0 cb1 cb2; have K := Dk.trans ((Dk.refl _).drew) (.below hb); have Ba_5 := Lib.hid (show Bk _ _ _ #[.bool p.b, .slice p.A p.n p.c, .int .i64 a.x] from (Ba_0.out.drew).below hb); have Bb_6 := Lib.hid (show Bk _ _ _ #[.bool q.b, .slice q.A q.n q.c, .int .i64 b.x] from (Bb_0.out.drew).below hb); have HB_7 := Lib.hid (below_tr (below_dr HB_0.out) hb); clear hb; have RA_8 := Lib.hid (RA_1.out.dk K); have RB_9 := Lib.hid (RB_2.out.dk K); clear K Ba_0 Bb_0 HB_0 RA_1 RB_2; have la := Ba_5.out.lt; obtain ⟨ca0, ca1, ca2⟩ := Ba_5.out.cells3; have lb := Bb_6.out.lt; obtain ⟨cb0, cb1, cb2⟩ := Bb_6.out.cells3)
       | (have _ := tok_4; go_at_call 34; clear tok_4; refine (dsign_q _ q b RB_9.out).mono ?_; rintro e w2 ⟨rfl, hb⟩; clear la ca0 ca1 ca2 lb cb0 cb1 cb2; have K := Dk.below hb; have Ba_10 := Lib.hid (show Bk _ _ _ #[.bool p.b, .slice p.A p.n p.c, .int .i64 a.x] from Ba_5.out.below hb); have Bb_11 := Lib.hid (show Bk _ _ _ #[.bool q.b, .slice q.A q.n q.c, .int .i64 b.x] from Bb_6.out.below hb); have HB_12 := Lib.hid (below_tr HB_7.out hb); clear hb; have RA_13 := Lib.hid (RA_8.out.dk K); have RB_14 := Lib.hid (RB_9.out.dk K); clear K Ba_5 Bb_6 HB_7 RA_8 RB_9; have la := Ba_10.out.lt; obtain ⟨ca0, ca1, ca2⟩ := Ba_10.out.cells3; have lb := Bb_11.out.lt; obtain ⟨cb0, cb1, cb2⟩ := Bb_11.out.cells3))
    generalize sgn a.z = x at *
    generalize sgn b.z = y at *
    go_wp2
    go_ret
    exact ⟨ret_int HS.out, HB_12.out⟩

set_option maxRecDepth 100000 in
set_option maxHeartbeats 4000000 in
theorem dcmp_z (w : World) (p q : Q) (a b : D) (E T : Nat) (h : RD w p a) (h2 : RD w q b) (la : a.Lim E T) (lb : b.Lim E T) (hET : E + T ≤ 16000) (he : sgn a.z = sgn b.z) (h0 : sgn a.z = 0) :
    Calls Tryd.prog 48 #[.agg #[.bool p.b, .slice p.A p.n p.c, .int .i64 a.x], .agg #[.bool q.b, .slice q.A q.n q.c, .int .i64 b.x]] w fun e w' => e = .returned (.int .i64 (a.cmp b)) ∧ Below w.heap.size w w' := by
  have HA := Lib.hid h
  have HB := Lib.hid h2
  have LA := Lib.hid la
  have LB := Lib.hid lb
  clear h h2 la lb
  have HS := Lib.hid (cmp_sgn_zero he h0).symm
  have q0 : ((sgn a.z : Int) == sgn b.z) = true := by rw [beq_iff_eq]; exact he
  have q1 : ((sgn a.z : Int) != sgn b.z) = false := by rw [bne, q0]; rfl
  have q2 : ((sgn a.z : Int) == 0) = true := by rw [beq_iff_eq]; exact h0
  clear he h0
  have BX := Lib.hid (boxes2 w 53 #[.bool p.b, .slice p.A p.n p.c, .int .i64 a.x] 53 #[.bool q.b, .slice q.A q.n q.c, .int .i64 b.x])
  go_enter Tryd.func48, Tryd.ntmps48
  go_wp2_with fail
  generalize (w.alloc (.cells #[.bool p.b, .slice p.A p.n p.c, .int .i64 a.x] 53)).alloc (.cells #[.bool q.b, .slice q.A q.n q.c, .int .i64 b.x] 53) = w0 at *
  obtain ⟨b0, b1, hw⟩ := BX.out
  have Ba_0 := Lib.hid b0
  have Bb_0 := Lib.hid b1
  have HB_0 := Lib.hid hw
  have K := Dk.below (hw.mono (Nat.le_refl _))
  clear BX hw b0 b1
  have RA_1 := Lib.hid (HA.out.dk K)
  have RB_2 := Lib.hid (HB.out.dk K)
  clear K HA HB
  have la := Ba_0.out.lt
  obtain ⟨ca0, ca1, ca2⟩ := Ba_0.out.cells3
  have lb := Bb_0.out.lt
  obtain ⟨cb0, cb1, cb2⟩ := Bb_0.out.cells3
  go_wp2_with fail
  have tok_3 : True := trivial
  have tok_4 : True := trivial
  go_region_held3 (fun w' => w'.cell? ⟨w.heap.size, 0, none⟩ = some (.bool p.b) ∧ w'.cell? ⟨w.heap.size, 1, none⟩ = some (.slice p.A p.n p.c) ∧ w'.cell? ⟨w.heap.size, 2, none⟩ = some (.int .i64 a.x) ∧ w'.cell? ⟨w.heap.size + 1, 0, none⟩ = some (.bool q.b) ∧ w'.cell? ⟨w.heap.size + 1, 1, none⟩ = some (.slice q.A q.n q.c) ∧ w'.cell? ⟨w.heap.size + 1, 2, none⟩ = some (.int .i64 b.x)) (first | exact ⟨Ba_0.out.cell 0 rfl, Ba_0.out.cell 1 rfl, Ba_0.out.cell 2 rfl, Bb_0.out.cell 0 rfl, Bb_0.out.cell 1 rfl, Bb_0.out.cell 2 rfl⟩ | exact ⟨Ba_5.out.cell 0 rfl, Ba_5.out.cell 1 rfl, Ba_5.out.cell 2 rfl, Bb_6.out.cell 0 rfl, Bb_6.out.cell 1 rfl, Bb_6.out.cell 2 rfl⟩ | exact ⟨Ba_10.out.cell 0 rfl, Ba_10.out.cell 1 rfl, Ba_10.out.cell 2 rfl, Bb_11.out.cell 0 rfl, Bb_11.out.cell 1 rfl, Bb_11.out.cell 2 rfl⟩)
    (first
     | (have _ := tok_3; go_at_call 34; clear tok_3; refine (dsign_q _ p a (RA_1.out.dk ((Dk.refl _).drew))).mono ?_; rintro e w1 ⟨rfl, hb⟩; clear la ca0 ca1 ca2 lb cb0 cb1 cb2; have K := Dk.trans ((Dk.refl _).drew) (.below hb); have Ba_5 := Lib.hid (show Bk _ _ _ #[.bool p.b, .slice p.A p.n p.c, .int .i64 a.x] from (Ba_0.out.drew).below hb); have Bb_6 := Lib.hid (show Bk _ _ _ #[.bool q.b, .slice q.A q.n q.c, .int .i64 b.x] from (Bb_0.out.drew).below hb); have HB_7 := Lib.hid (below_tr (below_dr HB_0.out) hb); clear hb; have RA_8 := Lib.hid (RA_1.out.dk K); have RB_9 := Lib.hid (RB_2.out.dk K); clear K Ba_0 Bb_0 HB_0 RA_1 RB_2; have la := Ba_5.out.lt; obtain ⟨ca0, ca1, ca2⟩ := Ba_5.out.cells3; have lb := Bb_6.out.lt; obtain ⟨cb0, cb1, cb2⟩ := Bb_6.out.cells3)
     | (have _ := tok_4; go_at_call 34; clear tok_4; refine (dsign_q _ q b RB_9.out).mono ?_; rintro e w2 ⟨rfl, hb⟩; clear la ca0 ca1 ca2 lb cb0 cb1 cb2; have K := Dk.below hb; have Ba_10 := Lib.hid (show Bk _ _ _ #[.bool p.b, .slice p.A p.n p.c, .int .i64 a.x] from Ba_5.out.below hb); have Bb_11 := Lib.hid (show Bk _ _ _ #[.bool q.b, .slice q.A q.n q.c, .int .i64 b.x] from Bb_6.out.below hb); have HB_12 := Lib.hid (below_tr HB_7.out hb); clear hb; have RA_13 := Lib.hid (RA_8.out.dk K); have RB_14 := Lib.hid (RB_9.out.dk K); clear K Ba_5 Bb_6 HB_7 RA_8 RB_9; have la := Ba_10.out.lt; obtain ⟨ca0, ca1, ca2⟩ := Ba_10.out.cells3; have lb := Bb_11.out.lt; obtain ⟨cb0, cb1, cb2⟩ := Bb_11.out.cells3))
  generalize sgn a.z = x at *
  generalize sgn b.z = y at *
  go_wp2
  go_ret
  exact ⟨ret_int HS.out, HB_12.out⟩

end Go.Proofs.YtgioppkggpfnoaaDoor.Nu
end

section
/- The walk of dyad.Compare where the sizes differ. -/
set_option linter.unusedVariables false
namespace Go.Proofs.YtgioppkggpfnoaaDoor.Nu
open Go.RowKit Go.Proofs

set_option maxRecDepth 100000 in
set_option maxHeartbeats 4000000 in
theorem dcmp_t (w : World) (p q : Q) (a b : D) (E T : Nat) (h : RD w p a) (h2 : RD w q b) (la : a.Lim E T) (lb : b.Lim E T) (hET : E + T ≤ 16000) (he : sgn a.z = sgn b.z) (h0 : sgn a.z ≠ 0) (hne : a.top ≠ b.top) :
    Calls Tryd.prog 48 #[.agg #[.bool p.b, .slice p.A p.n p.c, .int .i64 a.x], .agg #[.bool q.b, .slice q.A q.n q.c, .int .i64 b.x]] w fun e w' => e = .returned (.int .i64 (a.cmp b)) ∧ Below w.heap.size w w' := by
  have HA := Lib.hid h
  have HB := Lib.hid h2
  have LA := Lib.hid la
  have LB := Lib.hid lb
  clear h h2 la lb
  by_cases hs : 0 < sgn a.z
  · by_cases hl : a.top < b.top
    · have HS := Lib.hid (show a.cmp b = -1 from cmp_top_p he hs hl).symm
      have q0 : ((sgn a.z : Int) == sgn b.z) = true := by rw [beq_iff_eq]; exact he
      have q1 : ((sgn a.z : Int) != sgn b.z) = false := by rw [bne, q0]; rfl
      have q2 : ((sgn a.z : Int) == 0) = false := by rw [beq_eq_false_iff_ne]; exact h0
      have q3 : ((a.top : Int) == b.top) = false := by rw [beq_eq_false_iff_ne]; exact hne
      have q4 : ((a.top : Int) != b.top) = true := by rw [bne, q3]; rfl
      have q5 : a.top < b.top := by omega
      have q6 : 0 < sgn a.z := by omega
      clear he h0 hs hl hne
      have Q3 := Lib.hid q3
      have Q4 := Lib.hid q4
      have Q5 := Lib.hid q5
      clear q3 q4 q5
      have SA := Lib.hid (lim_top LA.out hET)
      have SB := Lib.hid (lim_top LB.out hET)
      have BX := Lib.hid (boxes2 w 53 #[.bool p.b, .slice p.A p.n p.c, .int .i64 a.x] 53 #[.bool q.b, .slice q.A q.n q.c, .int .i64 b.x])
      go_enter Tryd.func48, Tryd.ntmps48
      go_wp2_with fail
      generalize (w.alloc (.cells #[.bool p.b, .slice p.A p.n p.c, .int .i64 a.x] 53)).alloc (.cells #[.bool q.b, .slice q.A q.n q.c, .int .i64 b.x] 53) = w0 at *
      obtain ⟨b0, b1, hw⟩ := BX.out
      have Ba_0 := Lib.hid b0
      have Bb_0 := Lib.hid b1
      have HB_0 := Lib.hid hw
      have K := Dk.below (hw.mono (Nat.le_refl _))
      clear BX hw b0 b1
      have RA_1 := Lib.hid (HA.out.dk K)
      have RB_2 := Lib.hid (HB.out.dk K)
      clear K HA HB
      have la := Ba_0.out.lt
      obtain ⟨ca0, ca1, ca2⟩ := Ba_0.out.cells3
      have lb := Bb_0.out.lt
      obtain ⟨cb0, cb1, cb2⟩ := Bb_0.out.cells3
      go_wp2_with fail
      have tok_3 : True := trivial
      have tok_4 : True := trivial
      go_region_held3 (fun w' => w'.cell? ⟨w.heap.size, 0, none⟩ = some (.bool p.b) ∧ w'.cell? ⟨w.heap.size, 1, none⟩ = some (.slice p.A p.n p.c) ∧ w'.cell? ⟨w.heap.size, 2, none⟩ = some (.int .i64 a.x) ∧ w'.cell? ⟨w.heap.size + 1, 0, none⟩ = some (.bool q.b) ∧ w'.cell? ⟨w.heap.size + 1, 1, none⟩ = some (.slice q.A q.n q.c) ∧ w'.cell? ⟨w.heap.size + 1, 2, none⟩ = some (.int .i64 b.x)) (first | exact ⟨Ba_0.out.cell 0 rfl, Ba_0.out.cell 1 rfl, Ba_0.out.cell 2 rfl, Bb_0.out.cell 0 rfl, Bb_0.out.cell 1 rfl, Bb_0.out.cell 2 rfl⟩ | exact ⟨Ba_5.out.cell 0 rfl, Ba_5.out.cell 1 rfl, Ba_5.out.cell 2 rfl, Bb_6.out.cell 0 rfl, Bb_6.out.cell 1 rfl, Bb_6.out.cell 2 rfl⟩ | exact ⟨Ba_10.out.cell 0 rfl, Ba_10.out.cell 1 rfl, Ba_10.out.cell 2 rfl, Bb_11.out.cell 0 rfl, Bb_11.out.cell 1 rfl, Bb_11.out.cell 2 rfl⟩)
        (first
         | (have _ := tok_3; go_at_call 34; clear tok_3; refine (dsign_q _ p a (RA_1.out.dk ((Dk.refl _).drew))).mono ?_; rintro e w1 ⟨rfl, hb⟩; clear la ca0 ca1 ca2 lb cb0 cb1 cb2; have K := Dk.trans ((Dk.refl _).drew) (.below hb); have Ba_5 := Lib.hid (show Bk _ _ _ #[.bool p.b, .slice p.A p.n p.c, .int .i64 a.x] from (Ba_0.out.drew).below hb); have Bb_6 := Lib.hid (show Bk _ _ _ #[.bool q.b, .slice q.A q.n q.c, .int .i64 b.x] from (Bb_0.out.drew).below hb); have HB_7 := Lib.hid (below_tr (below_dr HB_0.out) hb); clear hb; have RA_8 := Lib.hid (RA_1.out.dk K); have RB_9 := Lib.hid (RB_2.out.dk K); clear K Ba_0 Bb_0 HB_0 RA_1 RB_2; have la := Ba_5.out.lt; obtain ⟨ca0, ca1, ca2⟩ := Ba_5.out.cells3; have lb := Bb_6.out.lt; obtain ⟨cb0, cb1, cb2⟩ := Bb_6.out.cells3)
         | (have _ := tok_4; go_at_call 34; clear tok_4; refine (dsign_q _ q b RB_9.out).mono ?_; rintro e w2 ⟨rfl, hb⟩; clear la ca0 ca1 ca2 lb cb0 cb1 cb2; have K := Dk.below hb; have Ba_10 := Lib.hid (show Bk _ _ _ #[.bool p.b, .slice p.A p.n p.c, .int .i64 a.x] from Ba_5.out.below hb); have Bb_11 := Lib.hid (show Bk _ _ _ #[.bool q.b, .slice q.A q.n q.c, .int .i64 b.x] from Bb_6.out.below hb); have HB_12 := Lib.hid (below_tr HB_7.out hb); clear hb; have RA_13 := Lib.hid (RA_8.out.dk K); have RB_14 := Lib.hid (RB_9.out.dk K); clear K Ba_5 Bb_6 HB_7 RA_8 RB_9; have la := Ba_10.out.lt; obtain ⟨ca0, ca1, ca2⟩ := Ba_10.out.cells3; have lb := Bb_11.out.lt; obtain ⟨cb0, cb1, cb2⟩ := Bb_11.out.cells3))
      generalize sgn a.z = x at *
      generalize sgn b.z = y at *
      clear la ca0 ca1 ca2 lb cb0 cb1 cb2
      have la := Ba_10.out.lt
      obtain ⟨ca0, ca1, ca2⟩ := Ba_10.out.cells3
      have lb := Bb_11.out.lt
      obtain ⟨cb0, cb1, cb2⟩ := Bb_11.out.cells3
      go_wp2_with fail
      have tok_15 : True := trivial
      have tok_16 : True := trivial
      go_region_held3 (fun w' => w'.cell? ⟨w.heap.size, 0, none⟩ = some (.bool p.b) ∧ w'.cell? ⟨w.heap.size, 1, none⟩ = some (.slice p.A p.n p.c) ∧ w'.cell? ⟨w.heap.size, 2, none⟩ = some (.int .i64 a.x) ∧ w'.cell? ⟨w.heap.size + 1, 0, none⟩ = some (.bool q.b) ∧ w'.cell? ⟨w.heap.size + 1, 1, none⟩ = some (.slice q.A q.n q.c) ∧ w'.cell? ⟨w.heap.size + 1, 2, none⟩ = some (.int .i64 b.x)) (first | exact ⟨Ba_10.out.cell 0 rfl, Ba_10.out.cell 1 rfl, Ba_10.out.cell 2 rfl, Bb_11.out.cell 0 rfl, Bb_11.out.cell 1 rfl, Bb_11.out.cell 2 rfl⟩ | exact ⟨Ba_17.out.cell 0 rfl, Ba_17.out.cell 1 rfl, Ba_17.out.cell 2 rfl, Bb_18.out.cell 0 rfl, Bb_18.out.cell 1 rfl, Bb_18.out.cell 2 rfl⟩ | exact ⟨Ba_22.out.cell 0 rfl, Ba_22.out.cell 1 rfl, Ba_22.out.cell 2 rfl, Bb_23.out.cell 0 rfl, Bb_23.out.cell 1 rfl, Bb_23.out.cell 2 rfl⟩)
        (first
         | (have _ := tok_15; go_at_call 108; clear tok_15; refine (dtop_any _ p a (RA_13.out.dk ((Dk.refl _).drew)) SA.out.1 SA.out.2).mono ?_; rintro e w3 ⟨rfl, hb⟩; clear la ca0 ca1 ca2 lb cb0 cb1 cb2; have K := Dk.trans ((Dk.refl _).drew) (.below hb); have Ba_17 := Lib.hid (show Bk _ _ _ #[.bool p.b, .slice p.A p.n p.c, .int .i64 a.x] from (Ba_10.out.drew).below hb); have Bb_18 := Lib.hid (show Bk _ _ _ #[.bool q.b, .slice q.A q.n q.c, .int .i64 b.x] from (Bb_11.out.drew).below hb); have HB_19 := Lib.hid (below_tr (below_dr HB_12.out) hb); clear hb; have RA_20 := Lib.hid (RA_13.out.dk K); have RB_21 := Lib.hid (RB_14.out.dk K); clear K Ba_10 Bb_11 HB_12 RA_13 RB_14; have la := Ba_17.out.lt; obtain ⟨ca0, ca1, ca2⟩ := Ba_17.out.cells3; have lb := Bb_18.out.lt; obtain ⟨cb0, cb1, cb2⟩ := Bb_18.out.cells3)
         | (have _ := tok_16; go_at_call 108; clear tok_16; refine (dtop_any _ q b RB_21.out SB.out.1 SB.out.2).mono ?_; rintro e w4 ⟨rfl, hb⟩; clear la ca0 ca1 ca2 lb cb0 cb1 cb2; have K := Dk.below hb; have Ba_22 := Lib.hid (show Bk _ _ _ #[.bool p.b, .slice p.A p.n p.c, .int .i64 a.x] from Ba_17.out.below hb); have Bb_23 := Lib.hid (show Bk _ _ _ #[.bool q.b, .slice q.A q.n q.c, .int .i64 b.x] from Bb_18.out.below hb); have HB_24 := Lib.hid (below_tr HB_19.out hb); clear hb; have RA_25 := Lib.hid (RA_20.out.dk K); have RB_26 := Lib.hid (RB_21.out.dk K); clear K Ba_17 Bb_18 HB_19 RA_20 RB_21; have la := Ba_22.out.lt; obtain ⟨ca0, ca1, ca2⟩ := Ba_22.out.cells3; have lb := Bb_23.out.lt; obtain ⟨cb0, cb1, cb2⟩ := Bb_23.out.cells3))
      generalize a.top = m at *
      generalize b.top = k at *
      have q3 := Q3.out
      have q4 := Q4.out
      have q5 := Q5.out
      have q7 : (decide (m < k) == decide (0 < x)) = true := by rw [decide_eq_true (show m < k by omega), decide_eq_true (show 0 < x by omega)]; rfl
      go_wp2
      go_ret
      exact ⟨ret_int HS.out, HB_24.out⟩
    · have HS := Lib.hid (show a.cmp b = 1 from by rw [dcmp_swap, cmp_top_p he.symm (by omega) (by omega)]; rfl).symm
      have q0 : ((sgn a.z : Int) == sgn b.z) = true := by rw [beq_iff_eq]; exact he
      have q1 : ((sgn a.z : Int) != sgn b.z) = false := by rw [bne, q0]; rfl
      have q2 : ((sgn a.z : Int) == 0) = false := by rw [beq_eq_false_iff_ne]; exact h0
      have q3 : ((a.top : Int) == b.top) = false := by rw [beq_eq_false_iff_ne]; exact hne
      have q4 : ((a.top : Int) != b.top) = true := by rw [bne, q3]; rfl
      have q5 : ¬ a.top < b.top := by omega
      have q6 : 0 < sgn a.z := by omega
      clear he h0 hs hl hne
      have Q3 := Lib.hid q3
      have Q4 := Lib.hid q4
      have Q5 := Lib.hid q5
      clear q3 q4 q5
      have SA := Lib.hid (lim_top LA.out hET)
      have SB := Lib.hid (lim_top LB.out hET)
      have BX := Lib.hid (boxes2 w 53 #[.bool p.b, .slice p.A p.n p.c, .int .i64 a.x] 53 #[.bool q.b, .slice q.A q.n q.c, .int .i64 b.x])
      go_enter Tryd.func48, Tryd.ntmps48
      go_wp2_with fail
      generalize (w.alloc (.cells #[.bool p.b, .slice p.A p.n p.c, .int .i64 a.x] 53)).alloc (.cells #[.bool q.b, .slice q.A q.n q.c, .int .i64 b.x] 53) = w0 at *
      obtain ⟨b0, b1, hw⟩ := BX.out
      have Ba_0 := Lib.hid b0
      have Bb_0 := Lib.hid b1
      have HB_0 := Lib.hid hw
      have K := Dk.below (hw.mono (Nat.le_refl _))
      clear BX hw b0 b1
      have RA_1 := Lib.hid (HA.out.dk K)
      have RB_2 := Lib.hid (HB.out.dk K)
      clear K HA HB
      have la := Ba_0.out.lt
      obtain ⟨ca0, ca1, ca2⟩ := Ba_0.out.cells3
      have lb := Bb_0.out.lt
      obtain ⟨cb0, cb1, cb2⟩ := Bb_0.out.cells3
      go_wp2_with fail
      have tok_3 : True := trivial
      have tok_4 : True := trivial
      go_region_held3 (fun w' => w'.cell? ⟨w.heap.size, 0, none⟩ = some (.bool p.b) ∧ w'.cell? ⟨w.heap.size, 1, none⟩ = some (.slice p.A p.n p.c) ∧ w'.cell? ⟨w.heap.size, 2, none⟩ = some (.int .i64 a.x) ∧ w'.cell? ⟨w.heap.size + 1, 0, none⟩ = some (.bool q.b) ∧ w'.cell? ⟨w.heap.size + 1, 1, none⟩ = some (.slice q.A q.n q.c) ∧ w'.cell? ⟨w.heap.size + 1, 2, none⟩ = some (.int .i64 b.x)) (first | exact ⟨Ba_0.out.cell 0 rfl, Ba_0.out.cell 1 rfl, Ba_0.out.cell 2 rfl, Bb_0.out.cell 0 rfl, Bb_0.out.cell 1 rfl, Bb_0.out.cell 2 rfl⟩ | exact ⟨Ba_5.out.cell 0 rfl, Ba_5.out.cell 1 rfl, Ba_5.out.cell 2 rfl, Bb_6.out.cell 0 rfl, Bb_6.out.cell 1 rfl, Bb_6.out.cell 2 rfl⟩ | exact ⟨Ba_10.out.cell 0 rfl, Ba_10.out.cell 1 rfl, Ba_10.out.cell 2 rfl, Bb_11.out.cell 0 rfl, Bb_11.out.cell 1 rfl, Bb_11.out.cell 2 rfl⟩)
        (first
         | (have _ := tok_3; go_at_call 34; clear tok_3; refine (dsign_q _ p a (RA_1.out.dk ((Dk.refl _).drew))).mono ?_; rintro e w1 ⟨rfl, hb⟩; clear la ca0 ca1 ca2 lb cb0 cb1 cb2; have K := Dk.trans ((Dk.refl _).drew) (.below hb); have Ba_5 := Lib.hid (show Bk _ _ _ #[.bool p.b, .slice p.A p.n p.c, .int .i64 a.x] from (Ba_0.out.drew).below hb); have Bb_6 := Lib.hid (show Bk _ _ _ #[.bool q.b, .slice q.A q.n q.c, .int .i64 b.x] from (Bb_0.out.drew).below hb); have HB_7 := Lib.hid (below_tr (below_dr HB_0.out) hb); clear hb; have RA_8 := Lib.hid (RA_1.out.dk K); have RB_9 := Lib.hid (RB_2.out.dk K); clear K Ba_0 Bb_0 HB_0 RA_1 RB_2; have la := Ba_5.out.lt; obtain ⟨ca0, ca1, ca2⟩ := Ba_5.out.cells3; have lb := Bb_6.out.lt; obtain ⟨cb0, cb1, cb2⟩ := Bb_6.out.cells3)
         | (have _ := tok_4; go_at_call 34; clear tok_4; refine (dsign_q _ q b RB_9.out).mono ?_; rintro e w2 ⟨rfl, hb⟩; clear la ca0 ca1 ca2 lb cb0 cb1 cb2; have K := Dk.below hb; have Ba_10 := Lib.hid (show Bk _ _ _ #[.bool p.b, .slice p.A p.n p.c, .int .i64 a.x] from Ba_5.out.below hb); have Bb_11 := Lib.hid (show Bk _ _ _ #[.bool q.b, .slice q.A q.n q.c, .int .i64 b.x] from Bb_6.out.below hb); have HB_12 := Lib.hid (below_tr HB_7.out hb); clear hb; have RA_13 := Lib.hid (RA_8.out.dk K); have RB_14 := Lib.hid (RB_9.out.dk K); clear K Ba_5 Bb_6 HB_7 RA_8 RB_9; have la := Ba_10.out.lt; obtain ⟨ca0, ca1, ca2⟩ := Ba_10.out.cells3; have lb := Bb_11.out.lt; obtain ⟨cb0, cb1, cb2⟩ := Bb_11.out.cells3))
      generalize sgn a.z = x at *
      generalize sgn b.z = y at *
      clear la ca0 ca1 ca2 lb cb0 cb1 cb2
      have la := Ba_10.out.lt
      obtain ⟨ca0, ca1, ca2⟩ := Ba_10.out.cells3
      have lb := Bb_11.out.lt
      obtain ⟨cb0, cb1, cb2⟩ := Bb_11.out.cells3
      go_wp2_with fail
      have tok_15 : True := trivial
      have tok_16 : True := trivial
      go_region_held3 (fun w' => w'.cell? ⟨w.heap.size, 0, none⟩ = some (.bool p.b) ∧ w'.cell? ⟨w.heap.size, 1, none⟩ = some (.slice p.A p.n p.c) ∧ w'.cell? ⟨w.heap.size, 2, none⟩ = some (.int .i64 a.x) ∧ w'.cell? ⟨w.heap.size + 1, 0, none⟩ = some (.bool q.b) ∧ w'.cell? ⟨w.heap.size + 1, 1, none⟩ = some (.slice q.A q.n q.c) ∧ w'.cell? ⟨w.heap.size + 1, 2, none⟩ = some (.int .i64 b.x)) (first | exact ⟨Ba_10.out.cell 0 rfl, Ba_10.out.cell 1 rfl, Ba_10.out.cell 2 rfl, Bb_11.out.cell 0 rfl, Bb_11.out.cell 1 rfl, Bb_11.out.cell 2 rfl⟩ | exact ⟨Ba_17.out.cell 0 rfl, Ba_17.out.cell 1 rfl, Ba_17.out.cell 2 rfl, Bb_18.out.cell 0 rfl, Bb_18.out.cell 1 rfl, Bb_18.out.cell 2 rfl⟩ | exact ⟨Ba_22.out.cell 0 rfl, Ba_22.out.cell 1 rfl, Ba_22.out.cell 2 rfl, Bb_23.out.cell 0 rfl, Bb_23.out.cell 1 rfl, Bb_23.out.cell 2 rfl⟩)
        (first
         | (have _ := tok_15; go_at_call 108; clear tok_15; refine (dtop_any _ p a (RA_13.out.dk ((Dk.refl _).drew)) SA.out.1 SA.out.2).mono ?_; rintro e w3 ⟨rfl, hb⟩; clear la ca0 ca1 ca2 lb cb0 cb1 cb2; have K := Dk.trans ((Dk.refl _).drew) (.below hb); have Ba_17 := Lib.hid (show Bk _ _ _ #[.bool p.b, .slice p.A p.n p.c, .int .i64 a.x] from (Ba_10.out.drew).below hb); have Bb_18 := Lib.hid (show Bk _ _ _ #[.bool q.b, .slice q.A q.n q.c, .int .i64 b.x] from (Bb_11.out.drew).below hb); have HB_19 := Lib.hid (below_tr (below_dr HB_12.out) hb); clear hb; have RA_20 := Lib.hid (RA_13.out.dk K); have RB_21 := Lib.hid (RB_14.out.dk K); clear K Ba_10 Bb_11 HB_12 RA_13 RB_14; have la := Ba_17.out.lt; obtain ⟨ca0, ca1, ca2⟩ := Ba_17.out.cells3; have lb := Bb_18.out.lt; obtain ⟨cb0, cb1, cb2⟩ := Bb_18.out.cells3)
         | (have _ := tok_16; go_at_call 108; clear tok_16; refine (dtop_any _ q b RB_21.out SB.out.1 SB.out.2).mono ?_; rintro e w4 ⟨rfl, hb⟩; clear la ca0 ca1 ca2 lb cb0 cb1 cb2; have K := Dk.below hb; have Ba_22 := Lib.hid (show Bk _ _ _ #[.bool p.b, .slice p.A p.n p.c, .int .i64 a.x] from Ba_17.out.below hb); have Bb_23 := Lib.hid (show Bk _ _ _ #[.bool q.b, .slice q.A q.n q.c, .int .i64 b.x] from Bb_18.out.below hb); have HB_24 := Lib.hid (below_tr HB_19.out hb); clear hb; have RA_25 := Lib.hid (RA_20.out.dk K); have RB_26 := Lib.hid (RB_21.out.dk K); clear K Ba_17 Bb_18 HB_19 RA_20 RB_21; have la := Ba_22.out.lt; obtain ⟨ca0, ca1, ca2⟩ := Ba_22.out.cells3; have lb := Bb_23.out.lt; obtain ⟨cb0, cb1, cb2⟩ := Bb_23.out.cells3))
      generalize a.top = m at *
      generalize b.top = k at *
      have q3 := Q3.out
      have q4 := Q4.out
      have q5 := Q5.out
      have q7 : (decide (m < k) == decide (0 < x)) = false := by rw [decide_eq_false (show ¬ m < k by omega), decide_eq_true (show 0 < x by omega)]; rfl
      go_wp2
      go_ret
      exact ⟨ret_int HS.out, HB_24.out⟩
  · by_cases hl : a.top < b.top
    · have HS := Lib.hid (show a.cmp b = 1 from by rw [dcmp_swap, cmp_top_n he.symm (by omega) hl]; rfl).symm
      have q0 : ((sgn a.z : Int) == sgn b.z) = true := by rw [beq_iff_eq]; exact he
      have q1 : ((sgn a.z : Int) != sgn b.z) = false := by rw [bne, q0]; rfl
      have q2 : ((sgn a.z : Int) == 0) = false := by rw [beq_eq_false_iff_ne]; exact h0
      have q3 : ((a.top : Int) == b.top) = false := by rw [beq_eq_false_iff_ne]; exact hne
      have q4 : ((a.top : Int) != b.top) = true := by rw [bne, q3]; rfl
      have q5 : a.top < b.top := by omega
      have q6 : ¬ 0 < sgn a.z := by omega
      clear he h0 hs hl hne
      have Q3 := Lib.hid q3
      have Q4 := Lib.hid q4
      have Q5 := Lib.hid q5
      clear q3 q4 q5
      have SA := Lib.hid (lim_top LA.out hET)
      have SB := Lib.hid (lim_top LB.out hET)
      have BX := Lib.hid (boxes2 w 53 #[.bool p.b, .slice p.A p.n p.c, .int .i64 a.x] 53 #[.bool q.b, .slice q.A q.n q.c, .int .i64 b.x])
      go_enter Tryd.func48, Tryd.ntmps48
      go_wp2_with fail
      generalize (w.alloc (.cells #[.bool p.b, .slice p.A p.n p.c, .int .i64 a.x] 53)).alloc (.cells #[.bool q.b, .slice q.A q.n q.c, .int .i64 b.x] 53) = w0 at *
      obtain ⟨b0, b1, hw⟩ := BX.out
      have Ba_0 := Lib.hid b0
      have Bb_0 := Lib.hid b1
      have HB_0 := Lib.hid hw
      have K := Dk.below (hw.mono (Nat.le_refl _))
      clear BX hw b0 b1
      have RA_1 := Lib.hid (HA.out.dk K)
      have RB_2 := Lib.hid (HB.out.dk K)
      clear K HA HB
      have la := Ba_0.out.lt
      obtain ⟨ca0, ca1, ca2⟩ := Ba_0.out.cells3
      have lb := Bb_0.out.lt
      obtain ⟨cb0, cb1, cb2⟩ := Bb_0.out.cells3
      go_wp2_with fail
      have tok_3 : True := trivial
      have tok_4 : True := trivial
      go_region_held3 (fun w' => w'.cell? ⟨w.heap.size, 0, none⟩ = some (.bool p.b) ∧ w'.cell? ⟨w.heap.size, 1, none⟩ = some (.slice p.A p.n p.c) ∧ w'.cell? ⟨w.heap.size, 2, none⟩ = some (.int .i64 a.x) ∧ w'.cell? ⟨w.heap.size + 1, 0, none⟩ = some (.bool q.b) ∧ w'.cell? ⟨w.heap.size + 1, 1, none⟩ = some (.slice q.A q.n q.c) ∧ w'.cell? ⟨w.heap.size + 1, 2, none⟩ = some (.int .i64 b.x)) (first | exact ⟨Ba_0.out.cell 0 rfl, Ba_0.out.cell 1 rfl, Ba_0.out.cell 2 rfl, Bb_0.out.cell 0 rfl, Bb_0.out.cell 1 rfl, Bb_0.out.cell 2 rfl⟩ | exact ⟨Ba_5.out.cell 0 rfl, Ba_5.out.cell 1 rfl, Ba_5.out.cell 2 rfl, Bb_6.out.cell 0 rfl, Bb_6.out.cell 1 rfl, Bb_6.out.cell 2 rfl⟩ | exact ⟨Ba_10.out.cell 0 rfl, Ba_10.out.cell 1 rfl, Ba_10.out.cell 2 rfl, Bb_11.out.cell 0 rfl, Bb_11.out.cell 1 rfl, Bb_11.out.cell 2 rfl⟩)
        (first
         | (have _ := tok_3; go_at_call 34; clear tok_3; refine (dsign_q _ p a (RA_1.out.dk ((Dk.refl _).drew))).mono ?_; rintro e w1 ⟨rfl, hb⟩; clear la ca0 ca1 ca2 lb cb0 cb1 cb2; have K := Dk.trans ((Dk.refl _).drew) (.below hb); have Ba_5 := Lib.hid (show Bk _ _ _ #[.bool p.b, .slice p.A p.n p.c, .int .i64 a.x] from (Ba_0.out.drew).below hb); have Bb_6 := Lib.hid (show Bk _ _ _ #[.bool q.b, .slice q.A q.n q.c, .int .i64 b.x] from (Bb_0.out.drew).below hb); have HB_7 := Lib.hid (below_tr (below_dr HB_0.out) hb); clear hb; have RA_8 := Lib.hid (RA_1.out.dk K); have RB_9 := Lib.hid (RB_2.out.dk K); clear K Ba_0 Bb_0 HB_0 RA_1 RB_2; have la := Ba_5.out.lt; obtain ⟨ca0, ca1, ca2⟩ := Ba_5.out.cells3; have lb := Bb_6.out.lt; obtain ⟨cb0, cb1, cb2⟩ := Bb_6.out.cells3)
         | (have _ := tok_4; go_at_call 34; clear tok_4; refine (dsign_q _ q b RB_9.out).mono ?_; rintro e w2 ⟨rfl, hb⟩; clear la ca0 ca1 ca2 lb cb0 cb1 cb2; have K := Dk.below hb; have Ba_10 := Lib.hid (show Bk _ _ _ #[.bool p.b, .slice p.A p.n p.c, .int .i64 a.x] from Ba_5.out.below hb); have Bb_11 := Lib.hid (show Bk _ _ _ #[.bool q.b, .slice q.A q.n q.c, .int .i64 b.x] from Bb_6.out.below hb); have HB_12 := Lib.hid (below_tr HB_7.out hb); clear hb; have RA_13 := Lib.hid (RA_8.out.dk K); have RB_14 := Lib.hid (RB_9.out.dk K); clear K Ba_5 Bb_6 HB_7 RA_8 RB_9; have la := Ba_10.out.lt; obtain ⟨ca0, ca1, ca2⟩ := Ba_10.out.cells3; have lb := Bb_11.out.lt; obtain ⟨cb0, cb1, cb2⟩ := Bb_11.out.cells3))
      generalize sgn a.z = x at *
      generalize sgn b.z = y at *
      clear la ca0 ca1 ca2 lb cb0 cb1 cb2
      have la := Ba_10.out.lt
      obtain ⟨ca0, ca1, ca2⟩ := Ba_10.out.cells3
      have lb := Bb_11.out.lt
      obtain ⟨cb0, cb1, cb2⟩ := Bb_11.out.cells3
      go_wp2_with fail
      have tok_15 : True := trivial
      have tok_16 : True := trivial
      go_region_held3 (fun w' => w'.cell? ⟨w.heap.size, 0, none⟩ = some (.bool p.b) ∧ w'.cell? ⟨w.heap.size, 1, none⟩ = some (.slice p.A p.n p.c) ∧ w'.cell? ⟨w.heap.size, 2, none⟩ = some (.int .i64 a.x) ∧ w'.cell? ⟨w.heap.size + 1, 0, none⟩ = some (.bool q.b) ∧ w'.cell? ⟨w.heap.size + 1, 1, none⟩ = some (.slice q.A q.n q.c) ∧ w'.cell? ⟨w.heap.size + 1, 2, none⟩ = some (.int .i64 b.x)) (first | exact ⟨Ba_10.out.cell 0 rfl, Ba_10.out.cell 1 rfl, Ba_10.out.cell 2 rfl, Bb_11.out.cell 0 rfl, Bb_11.out.cell 1 rfl, Bb_11.out.cell 2 rfl⟩ | exact ⟨Ba_17.out.cell 0 rfl, Ba_17.out.cell 1 rfl, Ba_17.out.cell 2 rfl, Bb_18.out.cell 0 rfl, Bb_18.out.cell 1 rfl, Bb_18.out.cell 2 rfl⟩ | exact ⟨Ba_22.out.cell 0 rfl, Ba_22.out.cell 1 rfl, Ba_22.out.cell 2 rfl, Bb_23.out.cell 0 rfl, Bb_23.out.cell 1 rfl, Bb_23.out.cell 2 rfl⟩)
        (first
         | (have _ := tok_15; go_at_call 108; clear tok_15; refine (dtop_any _ p a (RA_13.out.dk ((Dk.refl _).drew)) SA.out.1 SA.out.2).mono ?_; rintro e w3 ⟨rfl, hb⟩; clear la ca0 ca1 ca2 lb cb0 cb1 cb2; have K := Dk.trans ((Dk.refl _).drew) (.below hb); have Ba_17 := Lib.hid (show Bk _ _ _ #[.bool p.b, .slice p.A p.n p.c, .int .i64 a.x] from (Ba_10.out.drew).below hb); have Bb_18 := Lib.hid (show Bk _ _ _ #[.bool q.b, .slice q.A q.n q.c, .int .i64 b.x] from (Bb_11.out.drew).below hb); have HB_19 := Lib.hid (below_tr (below_dr HB_12.out) hb); clear hb; have RA_20 := Lib.hid (RA_13.out.dk K); have RB_21 := Lib.hid (RB_14.out.dk K); clear K Ba_10 Bb_11 HB_12 RA_13 RB_14; have la := Ba_17.out.lt; obtain ⟨ca0, ca1, ca2⟩ := Ba_17.out.cells3; have lb := Bb_18.out.lt; obtain ⟨cb0, cb1, cb2⟩ := Bb_18.out.cells3)
         | (have _ := tok_16; go_at_call 108; clear tok_16; refine (dtop_any _ q b RB_21.out SB.out.1 SB.out.2).mono ?_; rintro e w4 ⟨rfl, hb⟩; clear la ca0 ca1 ca2 lb cb0 cb1 cb2; have K := Dk.below hb; have Ba_22 := Lib.hid (show Bk _ _ _ #[.bool p.b, .slice p.A p.n p.c, .int .i64 a.x] from Ba_17.out.below hb); have Bb_23 := Lib.hid (show Bk _ _ _ #[.bool q.b, .slice q.A q.n q.c, .int .i64 b.x] from Bb_18.out.below hb); have HB_24 := Lib.hid (below_tr HB_19.out hb); clear hb; have RA_25 := Lib.hid (RA_20.out.dk K); have RB_26 := Lib.hid (RB_21.out.dk K); clear K Ba_17 Bb_18 HB_19 RA_20 RB_21; have la := Ba_22.out.lt; obtain ⟨ca0, ca1, ca2⟩ := Ba_22.out.cells3; have lb := Bb_23.out.lt; obtain ⟨cb0, cb1, cb2⟩ := Bb_23.out.cells3))
      generalize a.top = m at *
      generalize b.top = k at *
      have q3 := Q3.out
      have q4 := Q4.out
      have q5 := Q5.out
      have q7 : (decide (m < k) == decide (0 < x)) = false := by rw [decide_eq_true (show m < k by omega), decide_eq_false (show ¬ 0 < x by omega)]; rfl
      go_wp2
      go_ret
      exact ⟨ret_int HS.out, HB_24.out⟩
    · have HS := Lib.hid (show a.cmp b = -1 from cmp_top_n he (by omega) (by omega)).symm
      have q0 : ((sgn a.z : Int) == sgn b.z) = true := by rw [beq_iff_eq]; exact he
      have q1 : ((sgn a.z : Int) != sgn b.z) = false := by rw [bne, q0]; rfl
      have q2 : ((sgn a.z : Int) == 0) = false := by rw [beq_eq_false_iff_ne]; exact h0
      have q3 : ((a.top : Int) == b.top) = false := by rw [beq_eq_false_iff_ne]; exact hne
      have q4 : ((a.top : Int) != b.top) = true := by rw [bne, q3]; rfl
      have q5 : ¬ a.top < b.top := by omega
      have q6 : ¬ 0 < sgn a.z := by omega
      clear he h0 hs hl hne
      have Q3 := Lib.hid q3
      have Q4 := Lib.hid q4
      have Q5 := Lib.hid q5
      clear q3 q4 q5
      have SA := Lib.hid (lim_top LA.out hET)
      have SB := Lib.hid (lim_top LB.out hET)
      have BX := Lib.hid (boxes2 w 53 #[.bool p.b, .slice p.A p.n p.c, .int .i64 a.x] 53 #[.bool q.b, .slice q.A q.n q.c, .int .i64 b.x])
      go_enter Tryd.func48, Tryd.ntmps48
      go_wp2_with fail
      generalize (w.alloc (.cells #[.bool p.b, .slice p.A p.n p.c, .int .i64 a.x] 53)).alloc (.cells #[.bool q.b, .slice q.A q.n q.c, .int .i64 b.x] 53) = w0 at *
      obtain ⟨b0, b1, hw⟩ := BX.out
      have Ba_0 := Lib.hid b0
      have Bb_0 := Lib.hid b1
      have HB_0 := Lib.hid hw
      have K := Dk.below (hw.mono (Nat.le_refl _))
      clear BX hw b0 b1
      have RA_1 := Lib.hid (HA.out.dk K)
      have RB_2 := Lib.hid (HB.out.dk K)
      clear K HA HB
      have la := Ba_0.out.lt
      obtain ⟨ca0, ca1, ca2⟩ := Ba_0.out.cells3
      have lb := Bb_0.out.lt
      obtain ⟨cb0, cb1, cb2⟩ := Bb_0.out.cells3
      go_wp2_with fail
      have tok_3 : True := trivial
      have tok_4 : True := trivial
      go_region_held3 (fun w' => w'.cell? ⟨w.heap.size, 0, none⟩ = some (.bool p.b) ∧ w'.cell? ⟨w.heap.size, 1, none⟩ = some (.slice p.A p.n p.c) ∧ w'.cell? ⟨w.heap.size, 2, none⟩ = some (.int .i64 a.x) ∧ w'.cell? ⟨w.heap.size + 1, 0, none⟩ = some (.bool q.b) ∧ w'.cell? ⟨w.heap.size + 1, 1, none⟩ = some (.slice q.A q.n q.c) ∧ w'.cell? ⟨w.heap.size + 1, 2, none⟩ = some (.int .i64 b.x)) (first | exact ⟨Ba_0.out.cell 0 rfl, Ba_0.out.cell 1 rfl, Ba_0.out.cell 2 rfl, Bb_0.out.cell 0 rfl, Bb_0.out.cell 1 rfl, Bb_0.out.cell 2 rfl⟩ | exact ⟨Ba_5.out.cell 0 rfl, Ba_5.out.cell 1 rfl, Ba_5.out.cell 2 rfl, Bb_6.out.cell 0 rfl, Bb_6.out.cell 1 rfl, Bb_6.out.cell 2 rfl⟩ | exact ⟨Ba_10.out.cell 0 rfl, Ba_10.out.cell 1 rfl, Ba_10.out.cell 2 rfl, Bb_11.out.cell 0 rfl, Bb_11.out.cell 1 rfl, Bb_11.out.cell 2 rfl⟩)
        (first
         | (have _ := tok_3; go_at_call 34; clear tok_3; refine (dsign_q _ p a (RA_1.out.dk ((Dk.refl _).drew))).mono ?_; rintro e w1 ⟨rfl, hb⟩; clear la ca0 ca1 ca2 lb cb0 cb1 cb2; have K := Dk.trans ((Dk.refl _).drew) (.below hb); have Ba_5 := Lib.hid (show Bk _ _ _ #[.bool p.b, .slice p.A p.n p.c, .int .i64 a.x] from (Ba_0.out.drew).below hb); have Bb_6 := Lib.hid (show Bk _ _ _ #[.bool q.b, .slice q.A q.n q.c, .int .i64 b.x] from (Bb_0.out.drew).below hb); have HB_7 := Lib.hid (below_tr (below_dr HB_0.out) hb); clear hb; have RA_8 := Lib.hid (RA_1.out.dk K); have RB_9 := Lib.hid (RB_2.out.dk K); clear K Ba_0 Bb_0 HB_0 RA_1 RB_2; have la := Ba_5.out.lt; obtain ⟨ca0, ca1, ca2⟩ := Ba_5.out.cells3; have lb := Bb_6.out.lt; obtain ⟨cb0, cb1, cb2⟩ := Bb_6.out.cells3)
         | (have _ := tok_4; go_at_call 34; clear tok_4; refine (dsign_q _ q b RB_9.out).mono ?_; rintro e w2 ⟨rfl, hb⟩; clear la ca0 ca1 ca2 lb cb0 cb1 cb2; have K := Dk.below hb; have Ba_10 := Lib.hid (show Bk _ _ _ #[.bool p.b, .slice p.A p.n p.c, .int .i64 a.x] from Ba_5.out.below hb); have Bb_11 := Lib.hid (show Bk _ _ _ #[.bool q.b, .slice q.A q.n q.c, .int .i64 b.x] from Bb_6.out.below hb); have HB_12 := Lib.hid (below_tr HB_7.out hb); clear hb; have RA_13 := Lib.hid (RA_8.out.dk K); have RB_14 := Lib.hid (RB_9.out.dk K); clear K Ba_5 Bb_6 HB_7 RA_8 RB_9; have la := Ba_10.out.lt; obtain ⟨ca0, ca1, ca2⟩ := Ba_10.out.cells3; have lb := Bb_11.out.lt; obtain ⟨cb0, cb1, cb2⟩ := Bb_11.out.cells3))
      generalize sgn a.z = x at *
      generalize sgn b.z = y at *
      clear la ca0 ca1 ca2 lb cb0 cb1 cb2
      have la := Ba_10.out.lt
      obtain ⟨ca0, ca1, ca2⟩ := Ba_10.out.cells3
      have lb := Bb_11.out.lt
      obtain ⟨cb0, cb1, cb2⟩ := Bb_11.out.cells3
      go_wp2_with fail
      have tok_15 : True := trivial
      have tok_16 : True := trivial
      go_region_held3 (fun w' => w'.cell? ⟨w.heap.size, 0, none⟩ = some (.bool p.b) ∧ w'.cell? ⟨w.heap.size, 1, none⟩ = some (.slice p.A p.n p.c) ∧ w'.cell? ⟨w.heap.size, 2, none⟩ = some (.int .i64 a.x) ∧ w'.cell? ⟨w.heap.size + 1, 0, none⟩ = some (.bool q.b) ∧ w'.cell? ⟨w.heap.size + 1, 1, none⟩ = some (.slice q.A q.n q.c) ∧ w'.cell? ⟨w.heap.size + 1, 2, none⟩ = some (.int .i64 b.x)) (first | exact ⟨Ba_10.out.cell 0 rfl, Ba_10.out.cell 1 rfl, Ba_10.out.cell 2 rfl, Bb_11.out.cell 0 rfl, Bb_11.out.cell 1 rfl, Bb_11.out.cell 2 rfl⟩ | exact ⟨Ba_17.out.cell 0 rfl, Ba_17.out.cell 1 rfl, Ba_17.out.cell 2 rfl, Bb_18.out.cell 0 rfl, Bb_18.out.cell 1 rfl, Bb_18.out.cell 2 rfl⟩ | exact ⟨Ba_22.out.cell 0 rfl, Ba_22.out.cell 1 rfl, Ba_22.out.cell 2 rfl, Bb_23.out.cell 0 rfl, Bb_23.out.cell 1 rfl, Bb_23.out.cell 2 rfl⟩)
        (first
         | (have _ := tok_15; go_at_call 108; clear tok_15; refine (dtop_any _ p a (RA_13.out.dk ((Dk.refl _).drew)) SA.out.1 SA.out.2).mono ?_; rintro e w3 ⟨rfl, hb⟩; clear la ca0 ca1 ca2 lb cb0 cb1 cb2; have K := Dk.trans ((Dk.refl _).drew) (.below hb); have Ba_17 := Lib.hid (show Bk _ _ _ #[.bool p.b, .slice p.A p.n p.c, .int .i64 a.x] from (Ba_10.out.drew).below hb); have Bb_18 := Lib.hid (show Bk _ _ _ #[.bool q.b, .slice q.A q.n q.c, .int .i64 b.x] from (Bb_11.out.drew).below hb); have HB_19 := Lib.hid (below_tr (below_dr HB_12.out) hb); clear hb; have RA_20 := Lib.hid (RA_13.out.dk K); have RB_21 := Lib.hid (RB_14.out.dk K); clear K Ba_10 Bb_11 HB_12 RA_13 RB_14; have la := Ba_17.out.lt; obtain ⟨ca0, ca1, ca2⟩ := Ba_17.out.cells3; have lb := Bb_18.out.lt; obtain ⟨cb0, cb1, cb2⟩ := Bb_18.out.cells3)
         | (have _ := tok_16; go_at_call 108; clear tok_16; refine (dtop_any _ q b RB_21.out SB.out.1 SB.out.2).mono ?_; rintro e w4 ⟨rfl, hb⟩; clear la ca0 ca1 ca2 lb cb0 cb1 cb2; have K := Dk.below hb; have Ba_22 := Lib.hid (show Bk _ _ _ #[.bool p.b, .slice p.A p.n p.c, .int .i64 a.x] from Ba_17.out.below hb); have Bb_23 := Lib.hid (show Bk _ _ _ #[.bool q.b, .slice q.A q.n q.c, .int .i64 b.x] from Bb_18.out.below hb); have HB_24 := Lib.hid (below_tr HB_19.out hb); clear hb; have RA_25 := Lib.hid (RA_20.out.dk K); have RB_26 := Lib.hid (RB_21.out.dk K); clear K Ba_17 Bb_18 HB_19 RA_20 RB_21; have la := Ba_22.out.lt; obtain ⟨ca0, ca1, ca2⟩ := Ba_22.out.cells3; have lb := Bb_23.out.lt; obtain ⟨cb0, cb1, cb2⟩ := Bb_23.out.cells3))
      generalize a.top = m at *
      generalize b.top = k at *
      have q3 := Q3.out
      have q4 := Q4.out
      have q5 := Q5.out
      have q7 : (decide (m < k) == decide (0 < x)) = true := by rw [decide_eq_false (show ¬ m < k by omega), decide_eq_false (show ¬ 0 < x by omega)]; rfl
      go_wp2
      go_ret
      exact ⟨ret_int HS.out, HB_24.out⟩

end Go.Proofs.YtgioppkggpfnoaaDoor.Nu
end

section
/- The walk of dyad.Compare where they do not. -/
set_option linter.unusedVariables false
namespace Go.Proofs.YtgioppkggpfnoaaDoor.Nu
open Go.RowKit Go.Proofs

set_option maxRecDepth 100000 in
set_option maxHeartbeats 4000000 in
theorem dcmp_l (w : World) (p q : Q) (a b : D) (E T : Nat) (h : RD w p a) (h2 : RD w q b) (la : a.Lim E T) (lb : b.Lim E T) (hET : E + T ≤ 16000) (he : sgn a.z = sgn b.z) (h0 : sgn a.z ≠ 0) (hne : a.top = b.top) :
    Calls Tryd.prog 48 #[.agg #[.bool p.b, .slice p.A p.n p.c, .int .i64 a.x], .agg #[.bool q.b, .slice q.A q.n q.c, .int .i64 b.x]] w fun e w' => e = .returned (.int .i64 (a.cmp b)) ∧ Below w.heap.size w w' := by
  have HA := Lib.hid h
  have HB := Lib.hid h2
  have LA := Lib.hid la
  have LB := Lib.hid lb
  clear h h2 la lb
  have HS := Lib.hid (cmp_lev (a := a) (b := b) (by have := sgn_cases a.z; omega) (by have := sgn_cases b.z; omega))
  have q0 : ((sgn a.z : Int) == sgn b.z) = true := by rw [beq_iff_eq]; exact he
  have q1 : ((sgn a.z : Int) != sgn b.z) = false := by rw [bne, q0]; rfl
  have q2 : ((sgn a.z : Int) == 0) = false := by rw [beq_eq_false_iff_ne]; exact h0
  have q3 : ((a.top : Int) == b.top) = true := by rw [beq_iff_eq]; exact hne
  have q4 : ((a.top : Int) != b.top) = false := by rw [bne, q3]; rfl
  clear he h0 hne
  have Q3 := Lib.hid q3
  have Q4 := Lib.hid q4
  
  clear q3 q4
  have SA := Lib.hid (lim_top LA.out hET)
  have SB := Lib.hid (lim_top LB.out hET)
  have BX := Lib.hid (boxes2 w 53 #[.bool p.b, .slice p.A p.n p.c, .int .i64 a.x] 53 #[.bool q.b, .slice q.A q.n q.c, .int .i64 b.x])
  go_enter Tryd.func48, Tryd.ntmps48
  go_wp2_with fail
  generalize (w.alloc (.cells #[.bool p.b, .slice p.A p.n p.c, .int .i64 a.x] 53)).alloc (.cells #[.bool q.b, .slice q.A q.n q.c, .int .i64 b.x] 53) = w0 at *
  obtain ⟨b0, b1, hw⟩ := BX.out
  have Ba_0 := Lib.hid b0
  have Bb_0 := Lib.hid b1
  have HB_0 := Lib.hid hw
  have K := Dk.below (hw.mono (Nat.le_refl _))
  clear BX hw b0 b1
  have RA_1 := Lib.hid (HA.out.dk K)
  have RB_2 := Lib.hid (HB.out.dk K)
  clear K HA HB
  have la := Ba_0.out.lt
  obtain ⟨ca0, ca1, ca2⟩ := Ba_0.out.cells3
  have lb := Bb_0.out.lt
  obtain ⟨cb0, cb1, cb2⟩ := Bb_0.out.cells3
  go_wp2_with fail
  have tok_3 : True := trivial
  have tok_4 : True := trivial
  go_region_held3 (fun w' => w'.cell? ⟨w.heap.size, 0, none⟩ = some (.bool p.b) ∧ w'.cell? ⟨w.heap.size, 1, none⟩ = some (.slice p.A p.n p.c) ∧ w'.cell? ⟨w.heap.size, 2, none⟩ = some (.int .i64 a.x) ∧ w'.cell? ⟨w.heap.size + 1, 0, none⟩ = some (.bool q.b) ∧ w'.cell? ⟨w.heap.size + 1, 1, none⟩ = some (.slice q.A q.n q.c) ∧ w'.cell? ⟨w.heap.size + 1, 2, none⟩ = some (.int .i64 b.x)) (first | exact ⟨Ba_0.out.cell 0 rfl, Ba_0.out.cell 1 rfl, Ba_0.out.cell 2 rfl, Bb_0.out.cell 0 rfl, Bb_0.out.cell 1 rfl, Bb_0.out.cell 2 rfl⟩ | exact ⟨Ba_5.out.cell 0 rfl, Ba_5.out.cell 1 rfl, Ba_5.out.cell 2 rfl, Bb_6.out.cell 0 rfl, Bb_6.out.cell 1 rfl, Bb_6.out.cell 2 rfl⟩ | exact ⟨Ba_10.out.cell 0 rfl, Ba_10.out.cell 1 rfl, Ba_10.out.cell 2 rfl, Bb_11.out.cell 0 rfl, Bb_11.out.cell 1 rfl, Bb_11.out.cell 2 rfl⟩)
    (first
     | (have _ := tok_3; go_at_call 34; clear tok_3; refine (dsign_q _ p a (RA_1.out.dk ((Dk.refl _).drew))).mono ?_; rintro e w1 ⟨rfl, hb⟩; clear la ca0 ca1 ca2 lb cb0 cb1 cb2; have K := Dk.trans ((Dk.refl _).drew) (.below hb); have Ba_5 := Lib.hid (show Bk _ _ _ #[.bool p.b, .slice p.A p.n p.c, .int .i64 a.x] from (Ba_0.out.drew).below hb); have Bb_6 := Lib.hid (show Bk _ _ _ #[.bool q.b, .slice q.A q.n q.c, .int .i64 b.x] from (Bb_0.out.drew).below hb); have HB_7 := Lib.hid (below_tr (below_dr HB_0.out) hb); clear hb; have RA_8 := Lib.hid (RA_1.out.dk K); have RB_9 := Lib.hid (RB_2.out.dk K); clear K Ba_0 Bb_0 HB_0 RA_1 RB_2; have la := Ba_5.out.lt; obtain ⟨ca0, ca1, ca2⟩ := Ba_5.out.cells3; have lb := Bb_6.out.lt; obtain ⟨cb0, cb1, cb2⟩ := Bb_6.out.cells3)
     | (have _ := tok_4; go_at_call 34; clear tok_4; refine (dsign_q _ q b RB_9.out).mono ?_; rintro e w2 ⟨rfl, hb⟩; clear la ca0 ca1 ca2 lb cb0 cb1 cb2; have K := Dk.below hb; have Ba_10 := Lib.hid (show Bk _ _ _ #[.bool p.b, .slice p.A p.n p.c, .int .i64 a.x] from Ba_5.out.below hb); have Bb_11 := Lib.hid (show Bk _ _ _ #[.bool q.b, .slice q.A q.n q.c, .int .i64 b.x] from Bb_6.out.below hb); have HB_12 := Lib.hid (below_tr HB_7.out hb); clear hb; have RA_13 := Lib.hid (RA_8.out.dk K); have RB_14 := Lib.hid (RB_9.out.dk K); clear K Ba_5 Bb_6 HB_7 RA_8 RB_9; have la := Ba_10.out.lt; obtain ⟨ca0, ca1, ca2⟩ := Ba_10.out.cells3; have lb := Bb_11.out.lt; obtain ⟨cb0, cb1, cb2⟩ := Bb_11.out.cells3))
  generalize sgn a.z = x at *
  generalize sgn b.z = y at *
  clear la ca0 ca1 ca2 lb cb0 cb1 cb2
  have la := Ba_10.out.lt
  obtain ⟨ca0, ca1, ca2⟩ := Ba_10.out.cells3
  have lb := Bb_11.out.lt
  obtain ⟨cb0, cb1, cb2⟩ := Bb_11.out.cells3
  go_wp2_with fail
  have tok_15 : True := trivial
  have tok_16 : True := trivial
  go_region_held3 (fun w' => w'.cell? ⟨w.heap.size, 0, none⟩ = some (.bool p.b) ∧ w'.cell? ⟨w.heap.size, 1, none⟩ = some (.slice p.A p.n p.c) ∧ w'.cell? ⟨w.heap.size, 2, none⟩ = some (.int .i64 a.x) ∧ w'.cell? ⟨w.heap.size + 1, 0, none⟩ = some (.bool q.b) ∧ w'.cell? ⟨w.heap.size + 1, 1, none⟩ = some (.slice q.A q.n q.c) ∧ w'.cell? ⟨w.heap.size + 1, 2, none⟩ = some (.int .i64 b.x)) (first | exact ⟨Ba_10.out.cell 0 rfl, Ba_10.out.cell 1 rfl, Ba_10.out.cell 2 rfl, Bb_11.out.cell 0 rfl, Bb_11.out.cell 1 rfl, Bb_11.out.cell 2 rfl⟩ | exact ⟨Ba_17.out.cell 0 rfl, Ba_17.out.cell 1 rfl, Ba_17.out.cell 2 rfl, Bb_18.out.cell 0 rfl, Bb_18.out.cell 1 rfl, Bb_18.out.cell 2 rfl⟩ | exact ⟨Ba_22.out.cell 0 rfl, Ba_22.out.cell 1 rfl, Ba_22.out.cell 2 rfl, Bb_23.out.cell 0 rfl, Bb_23.out.cell 1 rfl, Bb_23.out.cell 2 rfl⟩)
    (first
     | (have _ := tok_15; go_at_call 108; clear tok_15; refine (dtop_any _ p a (RA_13.out.dk ((Dk.refl _).drew)) SA.out.1 SA.out.2).mono ?_; rintro e w3 ⟨rfl, hb⟩; clear la ca0 ca1 ca2 lb cb0 cb1 cb2; have K := Dk.trans ((Dk.refl _).drew) (.below hb); have Ba_17 := Lib.hid (show Bk _ _ _ #[.bool p.b, .slice p.A p.n p.c, .int .i64 a.x] from (Ba_10.out.drew).below hb); have Bb_18 := Lib.hid (show Bk _ _ _ #[.bool q.b, .slice q.A q.n q.c, .int .i64 b.x] from (Bb_11.out.drew).below hb); have HB_19 := Lib.hid (below_tr (below_dr HB_12.out) hb); clear hb; have RA_20 := Lib.hid (RA_13.out.dk K); have RB_21 := Lib.hid (RB_14.out.dk K); clear K Ba_10 Bb_11 HB_12 RA_13 RB_14; have la := Ba_17.out.lt; obtain ⟨ca0, ca1, ca2⟩ := Ba_17.out.cells3; have lb := Bb_18.out.lt; obtain ⟨cb0, cb1, cb2⟩ := Bb_18.out.cells3)
     | (have _ := tok_16; go_at_call 108; clear tok_16; refine (dtop_any _ q b RB_21.out SB.out.1 SB.out.2).mono ?_; rintro e w4 ⟨rfl, hb⟩; clear la ca0 ca1 ca2 lb cb0 cb1 cb2; have K := Dk.below hb; have Ba_22 := Lib.hid (show Bk _ _ _ #[.bool p.b, .slice p.A p.n p.c, .int .i64 a.x] from Ba_17.out.below hb); have Bb_23 := Lib.hid (show Bk _ _ _ #[.bool q.b, .slice q.A q.n q.c, .int .i64 b.x] from Bb_18.out.below hb); have HB_24 := Lib.hid (below_tr HB_19.out hb); clear hb; have RA_25 := Lib.hid (RA_20.out.dk K); have RB_26 := Lib.hid (RB_21.out.dk K); clear K Ba_17 Bb_18 HB_19 RA_20 RB_21; have la := Ba_22.out.lt; obtain ⟨ca0, ca1, ca2⟩ := Ba_22.out.cells3; have lb := Bb_23.out.lt; obtain ⟨cb0, cb1, cb2⟩ := Bb_23.out.cells3))
  generalize a.top = m at *
  generalize b.top = k at *
  have q3 := Q3.out
  have q4 := Q4.out
  
  clear la ca0 ca1 ca2 lb cb0 cb1 cb2
  have la := Ba_22.out.lt
  obtain ⟨ca0, ca1, ca2⟩ := Ba_22.out.cells3
  have lb := Bb_23.out.lt
  obtain ⟨cb0, cb1, cb2⟩ := Bb_23.out.cells3
  go_wp2_with fail
  refine (dlevel_any _ p q a b E T RA_25.out RB_26.out LA.out LB.out hET).mono ?_
  rintro e w5 ⟨⟨r, s, rfl, hr, hs⟩, hb⟩
  clear la ca0 ca1 ca2 lb cb0 cb1 cb2
  have K := Dk.below hb
  have Ba_27 := Lib.hid (show Bk _ _ _ #[.bool p.b, .slice p.A p.n p.c, .int .i64 a.x] from Ba_22.out.below hb)
  have Bb_28 := Lib.hid (show Bk _ _ _ #[.bool q.b, .slice q.A q.n q.c, .int .i64 b.x] from Bb_23.out.below hb)
  have HB_29 := Lib.hid (below_tr HB_24.out hb)
  clear hb
  have RA_30 := Lib.hid (RA_25.out.dk K)
  have RB_31 := Lib.hid (RB_26.out.dk K)
  clear K Ba_22 Bb_23 HB_24 RA_25 RB_26
  have RX_32 := Lib.hid hr
  clear hr
  have RY_33 := Lib.hid hs
  clear hs
  have la := Ba_27.out.lt
  obtain ⟨ca0, ca1, ca2⟩ := Ba_27.out.cells3
  have lb := Bb_28.out.lt
  obtain ⟨cb0, cb1, cb2⟩ := Bb_28.out.cells3
  have n_34 := Ba_27.out.lt
  have n_35 := Bb_28.out.lt
  go_wp2_with fail
  refine (wcompare_q _ r s (levX a b) (levY a b) (RX_32.out.dk (((Dk.refl _).alloc _).alloc _)) (RY_33.out.dk (((Dk.refl _).alloc _).alloc _))).mono ?_
  rintro e w6 ⟨rfl, hb⟩
  clear la ca0 ca1 ca2 lb cb0 cb1 cb2
  have K := Dk.trans (((Dk.refl _).alloc _).alloc _) (.below hb)
  have Ba_36 := Lib.hid (show Bk _ _ _ #[.bool p.b, .slice p.A p.n p.c, .int .i64 a.x] from ((Ba_27.out.alloc _).alloc _).below hb)
  have Bb_37 := Lib.hid (show Bk _ _ _ #[.bool q.b, .slice q.A q.n q.c, .int .i64 b.x] from ((Bb_28.out.alloc _).alloc _).below hb)
  have Bx_38 := Lib.hid (show Bk _ _ _ #[.bool r.b, .slice r.A r.n r.c] from ((Bk.new _ 51 #[.bool r.b, .slice r.A r.n r.c]).alloc _).below hb)
  have By_39 := Lib.hid (show Bk _ _ _ #[.bool s.b, .slice s.A s.n s.c] from (Bk.new_1 _ _ 51 #[.bool s.b, .slice s.A s.n s.c]).below hb)
  have HB_40 := Lib.hid (below_tr (below_al (below_al HB_29.out _) _) hb)
  clear hb
  have RA_41 := Lib.hid (RA_30.out.dk K)
  have RB_42 := Lib.hid (RB_31.out.dk K)
  have RX_43 := Lib.hid (RX_32.out.dk K)
  have RY_44 := Lib.hid (RY_33.out.dk K)
  clear K Ba_27 Bb_28 HB_29 RA_30 RB_31 RX_32 RY_33
  generalize icmp (levX a b) (levY a b) = z at *
  go_wp2
  go_ret
  exact ⟨ret_int HS.out, HB_40.out⟩

end Go.Proofs.YtgioppkggpfnoaaDoor.Nu
end

section
/- dyad.Compare. -/
set_option linter.unusedVariables false
namespace Go.Proofs.YtgioppkggpfnoaaDoor.Nu
open Go.RowKit Go.Proofs

theorem dcompare_any (w : World) (p q : Q) (a b : D) (E T : Nat) (h : RD w p a) (h2 : RD w q b) (la : a.Lim E T) (lb : b.Lim E T) (hET : E + T ≤ 16000) :
    Calls Tryd.prog 48 #[.agg #[.bool p.b, .slice p.A p.n p.c, .int .i64 a.x], .agg #[.bool q.b, .slice q.A q.n q.c, .int .i64 b.x]] w fun e w' => e = .returned (.int .i64 (a.cmp b)) ∧ Below w.heap.size w w' := by
  by_cases he : sgn a.z = sgn b.z
  · by_cases h0 : sgn a.z = 0
    · exact dcmp_z w p q a b E T h h2 la lb hET he h0
    · by_cases ht : a.top = b.top
      · exact dcmp_l w p q a b E T h h2 la lb hET he h0 ht
      · exact dcmp_t w p q a b E T h h2 la lb hET he h0 ht
  · exact dcmp_a w p q a b E T h h2 la lb hET he

end Go.Proofs.YtgioppkggpfnoaaDoor.Nu
end

section
/- The walks of dyad.Less, own. -/
set_option linter.unusedVariables false
namespace Go.Proofs.YtgioppkggpfnoaaDoor.Nu
open Go.RowKit Go.Proofs

set_option maxRecDepth 100000 in
set_option maxHeartbeats 4000000 in
theorem dless_any (w : World) (p q : Q) (a b : D) (E T : Nat) (h : RD w p a) (h2 : RD w q b) (la : a.Lim E T) (lb : b.Lim E T) (hET : E + T ≤ 16000) :
    Calls Tryd.prog 29 #[.agg #[.bool p.b, .slice p.A p.n p.c, .int .i64 a.x], .agg #[.bool q.b, .slice q.A q.n q.c, .int .i64 b.x]] w fun e w' => e = .returned (.bool (decide (a.cmp b < 0))) ∧ Below w.heap.size w w' := by
  have HA := Lib.hid h
  have HB := Lib.hid h2
  have LA := Lib.hid la
  have LB := Lib.hid lb
  clear h h2 la lb
  generalize hz : a.cmp b = z
  have HZ := Lib.hid hz
  clear hz
  have BX := Lib.hid (boxes2 w 53 #[.bool p.b, .slice p.A p.n p.c, .int .i64 a.x] 53 #[.bool q.b, .slice q.A q.n q.c, .int .i64 b.x])
  go_enter Tryd.func29, Tryd.ntmps29
  go_wp2_with fail
  generalize (w.alloc (.cells #[.bool p.b, .slice p.A p.n p.c, .int .i64 a.x] 53)).alloc (.cells #[.bool q.b, .slice q.A q.n q.c, .int .i64 b.x] 53) = w0 at *
  obtain ⟨b0, b1, hw⟩ := BX.out
  have Ba_0 := Lib.hid b0
  have Bb_0 := Lib.hid b1
  have HB_0 := Lib.hid hw
  have K := Dk.below (hw.mono (Nat.le_refl _))
  clear BX hw b0 b1
  have RA_1 := Lib.hid (HA.out.dk K)
  have RB_2 := Lib.hid (HB.out.dk K)
  clear K HA HB
  have la := Ba_0.out.lt
  obtain ⟨ca0, ca1, ca2⟩ := Ba_0.out.cells3
  have lb := Bb_0.out.lt
  obtain ⟨cb0, cb1, cb2⟩ := Bb_0.out.cells3
  go_wp2_with fail
  refine (dcompare_any _ p q a b E T RA_1.out RB_2.out LA.out LB.out hET).mono ?_
  rintro e w1 ⟨rfl, hb⟩
  clear la ca0 ca1 ca2 lb cb0 cb1 cb2
  have K := Dk.below hb
  have Ba_3 := Lib.hid (show Bk _ _ _ #[.bool p.b, .slice p.A p.n p.c, .int .i64 a.x] from Ba_0.out.below hb)
  have Bb_4 := Lib.hid (show Bk _ _ _ #[.bool q.b, .slice q.A q.n q.c, .int .i64 b.x] from Bb_0.out.below hb)
  have HB_5 := Lib.hid (below_tr HB_0.out hb)
  clear hb
  have RA_6 := Lib.hid (RA_1.out.dk K)
  have RB_7 := Lib.hid (RB_2.out.dk K)
  clear K Ba_0 Bb_0 HB_0 RA_1 RB_2
  rw [HZ.out]
  go_wp2
  go_ret
  exact ⟨rfl, HB_5.out⟩

set_option maxRecDepth 100000 in
set_option maxHeartbeats 4000000 in
theorem down_any (w : World) (p : Q) (a : D) (h : RD w p a) (hn : p.n ≤ 512) :
    Calls Tryd.prog 145 #[.agg #[.bool p.b, .slice p.A p.n p.c, .int .i64 a.x]] w fun e w' => (∃ r : Q, e = .returned (.agg #[.bool r.b, .slice r.A r.n r.c, .int .i64 a.x]) ∧ RD w' r a) ∧ Below w.heap.size w w' := by
  have HA := Lib.hid h
  clear h
  have BX := Lib.hid (boxes2 w 53 #[.bool p.b, .slice p.A p.n p.c, .int .i64 a.x] 53 #[.bool false, .slice none 0 0, .int .i64 0])
  go_enter Tryd.func145, Tryd.ntmps145
  go_wp2_with fail
  generalize (w.alloc (.cells #[.bool p.b, .slice p.A p.n p.c, .int .i64 a.x] 53)).alloc (.cells #[.bool false, .slice none 0 0, .int .i64 0] 53) = w0 at *
  obtain ⟨b0, b1, hw⟩ := BX.out
  have Ba_0 := Lib.hid b0
  have Bo_0 := Lib.hid b1
  have HB_0 := Lib.hid hw
  have K := Dk.below (hw.mono (Nat.le_refl _))
  clear BX hw b0 b1
  have RA_1 := Lib.hid (HA.out.dk K)
  clear K HA
  have la := Ba_0.out.lt
  obtain ⟨ca0, ca1, ca2⟩ := Ba_0.out.cells3
  have lo := Bo_0.out.lt
  obtain ⟨co0, co1, co2⟩ := Bo_0.out.cells3
  go_wp2_with fail
  refine (clone_any _ p.A p.n p.c _ (RA_1.out.1.2.2) (by omega)).mono ?_
  rintro e w1 ⟨⟨A1, c1, rfl, hkc, hr⟩, hb⟩
  have hR := Lib.hid (show RD w1 ⟨p.b, A1, p.n, c1⟩ a from ⟨⟨RA_1.out.1.1, hkc, hr⟩, RA_1.out.2⟩)
  clear hr hkc
  clear la ca0 ca1 ca2 lo co0 co1 co2
  have K := Dk.below hb
  have Ba_2 := Lib.hid (show Bk _ _ _ #[.bool p.b, .slice p.A p.n p.c, .int .i64 a.x] from Ba_0.out.below hb)
  have Bo_3 := Lib.hid (show Bk _ _ _ #[.bool false, .slice none 0 0, .int .i64 0] from Bo_0.out.below hb)
  have HB_4 := Lib.hid (below_tr HB_0.out hb)
  clear hb
  have RA_5 := Lib.hid (RA_1.out.dk K)
  clear K Ba_0 Bo_0 HB_0 RA_1
  have la := Ba_2.out.lt
  obtain ⟨ca0, ca1, ca2⟩ := Ba_2.out.cells3
  have fa0 := Ba_2.out.free 0
  have fa1 := Ba_2.out.free 1
  have fa2 := Ba_2.out.free 2
  have lo := Bo_3.out.lt
  obtain ⟨co0, co1, co2⟩ := Bo_3.out.cells3
  have fo0 := Bo_3.out.free 0
  have fo1 := Bo_3.out.free 1
  have fo2 := Bo_3.out.free 2
  go_wp2
  refine bodyPost_ret (v := .agg #[.bool p.b, .slice A1 p.n c1, .int .i64 a.x]) ?_ rfl ?_
  · simp [results, Tryd.f145, go_sem, co0, co1, co2]
  · have y0 := Ba_2.out.lt; have y1 := Bo_3.out.lt; have y2 := HB_4.out.size; exact ⟨⟨⟨p.b, A1, p.n, c1⟩, rfl, (hR.out.dk (((((Dk.refl _).set (cs := #[.bool p.b, .slice p.A p.n p.c, .int .i64 a.x]) Ba_2.out 1 (by intro _ hh; cases hh) (.slice A1 p.n c1)).set (cs := #[.bool false, .slice none 0 0, .int .i64 0]) (Bo_3.out.ne (by omega) 1 (.slice A1 p.n c1)) 0 (by intro _ hh; cases hh) (.bool p.b)).set (cs := #[.bool p.b, .slice none 0 0, .int .i64 0]) ((Bo_3.out.ne (by omega) 1 (.slice A1 p.n c1)).set 0 (.bool p.b)) 1 (by intro _ hh; cases hh) (.slice A1 p.n c1)).set (cs := #[.bool p.b, .slice A1 p.n c1, .int .i64 0]) (((Bo_3.out.ne (by omega) 1 (.slice A1 p.n c1)).set 0 (.bool p.b)).set 1 (.slice A1 p.n c1)) 2 (by intro _ hh; cases hh) (.int .i64 a.x)))⟩, (below_st (below_st (below_st (below_st HB_4.out 1 (by omega) (.slice A1 p.n c1)) 0 (by omega) (.bool p.b)) 1 (by omega) (.slice A1 p.n c1)) 2 (by omega) (.int .i64 a.x))⟩

end Go.Proofs.YtgioppkggpfnoaaDoor.Nu
end

section
/- The comparisons that package reduce hands to the library, and the insertion sorts. -/
set_option linter.unusedVariables false
namespace Go.Proofs.YtgioppkggpfnoaaDoor.Nu
open Go.RowKit Go.Proofs

set_option maxRecDepth 100000 in
set_option maxHeartbeats 4000000 in
theorem order1_any (w : World) (Aa Ab : Option Addr) (na ca nb_ cb : Nat) (p q : Q) (a b : D) (E T : Nat) (h : RD w p a) (h2 : RD w q b) (la : a.Lim E T) (lb : b.Lim E T) (hET : E + T ≤ 16000) :
    Calls Tryd.prog 118 #[.agg #[.slice Aa na ca, .bool p.b, .slice p.A p.n p.c, .int .i64 a.x], .agg #[.slice Ab nb_ cb, .bool q.b, .slice q.A q.n q.c, .int .i64 b.x]] w fun e w' => e = .returned (.int .i64 (a.cmp b)) ∧ Below w.heap.size w w' := by
  have HA := Lib.hid h
  have HB := Lib.hid h2
  have LA := Lib.hid la
  have LB := Lib.hid lb
  clear h h2 la lb
  have BX := Lib.hid (boxes2 w 176 #[.slice Aa na ca, .bool p.b, .slice p.A p.n p.c, .int .i64 a.x] 176 #[.slice Ab nb_ cb, .bool q.b, .slice q.A q.n q.c, .int .i64 b.x])
  go_enter Tryd.func118, Tryd.ntmps118
  go_wp2_with fail
  generalize (w.alloc (.cells #[.slice Aa na ca, .bool p.b, .slice p.A p.n p.c, .int .i64 a.x] 176)).alloc (.cells #[.slice Ab nb_ cb, .bool q.b, .slice q.A q.n q.c, .int .i64 b.x] 176) = w0 at *
  obtain ⟨b0, b1, hw⟩ := BX.out
  have Ba_0 := Lib.hid b0
  have Bb_0 := Lib.hid b1
  have HB_0 := Lib.hid hw
  have K := Dk.below (hw.mono (Nat.le_refl _))
  clear BX hw b0 b1
  have RA_1 := Lib.hid (HA.out.dk K)
  have RB_2 := Lib.hid (HB.out.dk K)
  clear K HA HB
  have la := Ba_0.out.lt
  obtain ⟨ca0, ca1, ca2, ca3⟩ := Ba_0.out.cells4
  have lb := Bb_0.out.lt
  obtain ⟨cb0, cb1, cb2, cb3⟩ := Bb_0.out.cells4
  go_wp2_with fail
  refine (dcompare_any _ p q a b E T RA_1.out RB_2.out LA.out LB.out hET).mono ?_
  rintro e w1 ⟨rfl, hb⟩
  clear la ca0 ca1 ca2 ca3 lb cb0 cb1 cb2 cb3
  have K := Dk.below hb
  have Ba_3 := Lib.hid (show Bk _ _ _ #[.slice Aa na ca, .bool p.b, .slice p.A p.n p.c, .int .i64 a.x] from Ba_0.out.below hb)
  have Bb_4 := Lib.hid (show Bk _ _ _ #[.slice Ab nb_ cb, .bool q.b, .slice q.A q.n q.c, .int .i64 b.x] from Bb_0.out.below hb)
  have HB_5 := Lib.hid (below_tr HB_0.out hb)
  clear hb
  have RA_6 := Lib.hid (RA_1.out.dk K)
  have RB_7 := Lib.hid (RB_2.out.dk K)
  clear K Ba_0 Bb_0 HB_0 RA_1 RB_2
  go_wp2
  go_ret
  exact ⟨rfl, HB_5.out⟩


/-! ### Rows that are sorted in place -/
theorem gr_below {W w w' : World} {g : Nat} (h : W.grownBy w (some g)) (hb : Below w.heap.size w w') : W.grownBy w' (some g) :=
  ⟨hb.os.trans h.os, hb.tape.trans h.tape, hb.output.trans h.output, Nat.le_trans h.size hb.size, fun k hk hg => (hb.block k (Nat.lt_of_lt_of_le hk h.size)).trans (h.block k hk hg)⟩
theorem gr_set {W w : World} {g : Nat} (h : W.grownBy w (some g)) (k : Nat) (v : Value) : W.grownBy (w.setCell ⟨g, k, none⟩ v) (some g) :=
  ⟨h.os, h.tape, h.output, by have := h.size; simp [World.setCell]; exact this, fun j hj hg => (Below.heap_setCell _ _ _ _ (fun e => hg (by rw [e]))).trans (h.block j hj hg)⟩
theorem swp_get {d : Array Nat} {k n j : Nat} (hs : d.size = n) (hk : k + 1 < n) (hj : j < n) : (Sort.swp d (k + 1) k)[j]! = if j = k then d[k + 1]! else if j = k + 1 then d[k]! else d[j]! := by
  unfold Sort.swp
  rw [getElem!_pos _ j (by simp; omega), Array.getElem_setIfInBounds (by simp; omega)]
  by_cases h : k = j
  · rw [if_pos h, if_pos h.symm]
  · rw [if_neg h, if_neg (fun e => h e.symm), Array.getElem_setIfInBounds (by omega)]
    by_cases h2 : k + 1 = j
    · rw [if_pos h2, if_pos h2.symm]
    · rw [if_neg h2, if_neg (fun e => h2 e.symm), getElem!_pos d j (by omega)]
/-- The row as it stands: its elements are those at the start, at other places. -/
structure IsRel (W : World) (g : Nat) (t : TypeId) (m n : Nat) (e : Nat → Nat → Value) (d : Array Nat) (w : World) : Prop where
  row : CR w g t m n fun j c => e (d[j]!) c
  gr : W.grownBy w (some g)
  dk : Dk W w
  sz : d.size = n
  lt : ∀ j, j < n → d[j]! < n
theorem IsRel.below {W w w' : World} {g m n : Nat} {t : TypeId} {e : Nat → Nat → Value} {d : Array Nat} (h : IsRel W g t m n e d w) (hb : Below w.heap.size w w') : IsRel W g t m n e d w' :=
  ⟨h.row.below hb, gr_below h.gr hb, h.dk.trans (.below hb), h.sz, h.lt⟩
theorem IsRel.dr {W w : World} {g m n : Nat} {t : TypeId} {e : Nat → Nat → Value} {d : Array Nat} (h : IsRel W g t m n e d w) : IsRel W g t m n e d w.drew := h.below (below_dr (Below.refl _ _))
/-- One cell written. -/
theorem IsRel.set {W w : World} {g m n : Nat} {t : TypeId} {e e' : Nat → Nat → Value} (h : CR w g t m n e' ∧ W.grownBy w (some g) ∧ Dk W w) {i c : Nat} (hi : i < n) (hc : c < m) (hu : ∀ v, e' i c ≠ .int .u32 v) (v : Value) :
    CR (w.setCell ⟨g, i * m + c, none⟩ v) g t m n (fun j d => if j = i ∧ d = c then v else e' j d) ∧ W.grownBy (w.setCell ⟨g, i * m + c, none⟩ v) (some g) ∧ Dk W (w.setCell ⟨g, i * m + c, none⟩ v) :=
  ⟨h.1.set hi hc v, gr_set h.2.1 _ _, h.2.2.trans (h.1.dk hi hc hu v)⟩
theorem IsRel.swap4 {W w : World} {g n : Nat} {t : TypeId} {e : Nat → Nat → Value} {d : Array Nat} (h : IsRel W g t 4 n e d w) {k : Nat} (hk : k + 1 < n) (hu : ∀ i c v, i < n → c < 4 → e i c ≠ .int .u32 v) {v0 v1 v2 v3 u0 u1 u2 u3 : Value} (hv0 : e (d[k]!) 0 = v0) (hv1 : e (d[k]!) 1 = v1) (hv2 : e (d[k]!) 2 = v2) (hv3 : e (d[k]!) 3 = v3) (hu0 : e (d[k + 1]!) 0 = u0) (hu1 : e (d[k + 1]!) 1 = u1) (hu2 : e (d[k + 1]!) 2 = u2) (hu3 : e (d[k + 1]!) 3 = u3) :
    IsRel W g t 4 n e (Sort.swp d (k + 1) k) ((((((((w.setCell ⟨g, (k + 1) * 4 + 0, none⟩ v0).setCell ⟨g, (k + 1) * 4 + 1, none⟩ v1).setCell ⟨g, (k + 1) * 4 + 2, none⟩ v2).setCell ⟨g, (k + 1) * 4 + 3, none⟩ v3).setCell ⟨g, k * 4 + 0, none⟩ u0).setCell ⟨g, k * 4 + 1, none⟩ u1).setCell ⟨g, k * 4 + 2, none⟩ u2).setCell ⟨g, k * 4 + 3, none⟩ u3) := by
  have s0 : CR w g t 4 n (fun j c => e (d[j]!) c) ∧ W.grownBy w (some g) ∧ Dk W w := ⟨h.row, h.gr, h.dk⟩
  have s1 := IsRel.set (e := e) s0 (i := (k + 1)) (c := 0) (by omega) (by omega) (by intro v; simp; exact hu _ _ v (h.lt _ (by omega)) (by omega)) v0
  have s2 := IsRel.set (e := e) s1 (i := (k + 1)) (c := 1) (by omega) (by omega) (by intro v; simp; exact hu _ _ v (h.lt _ (by omega)) (by omega)) v1
  have s3 := IsRel.set (e := e) s2 (i := (k + 1)) (c := 2) (by omega) (by omega) (by intro v; simp; exact hu _ _ v (h.lt _ (by omega)) (by omega)) v2
  have s4 := IsRel.set (e := e) s3 (i := (k + 1)) (c := 3) (by omega) (by omega) (by intro v; simp; exact hu _ _ v (h.lt _ (by omega)) (by omega)) v3
  have s5 := IsRel.set (e := e) s4 (i := k) (c := 0) (by omega) (by omega) (by intro v; simp; exact hu _ _ v (h.lt _ (by omega)) (by omega)) u0
  have s6 := IsRel.set (e := e) s5 (i := k) (c := 1) (by omega) (by omega) (by intro v; simp; exact hu _ _ v (h.lt _ (by omega)) (by omega)) u1
  have s7 := IsRel.set (e := e) s6 (i := k) (c := 2) (by omega) (by omega) (by intro v; simp; exact hu _ _ v (h.lt _ (by omega)) (by omega)) u2
  have s8 := IsRel.set (e := e) s7 (i := k) (c := 3) (by omega) (by omega) (by intro v; simp; exact hu _ _ v (h.lt _ (by omega)) (by omega)) u3
  refine ⟨s8.1.congr fun j c hj hc => ?_, s8.2.1, s8.2.2, by rw [← h.sz]; unfold Sort.swp; simp, fun j hj => ?_⟩
  · rw [swp_get h.sz hk hj]
    by_cases h1 : j = k
    · subst h1
      rw [if_pos rfl]
      match c, hc with
      | 0, _ => simp [hu0]
      | 1, _ => simp [hu1]
      | 2, _ => simp [hu2]
      | 3, _ => simp [hu3]
    · rw [if_neg h1]
      by_cases h2 : j = k + 1
      · subst h2
        rw [if_pos rfl]
        match c, hc with
        | 0, _ => simp [hv0]
        | 1, _ => simp [hv1]
        | 2, _ => simp [hv2]
        | 3, _ => simp [hv3]
      · rw [if_neg h2]
        simp [h1, h2]
  · rw [swp_get h.sz hk hj]
    split
    · exact h.lt _ hk
    · split
      · exact h.lt _ (by omega)
      · exact h.lt _ hj
set_option maxRecDepth 100000 in
set_option maxHeartbeats 4000000 in
theorem isortG_any (w : World) (g n cap : Nat) (A : Nat → Option Addr) (N C : Nat → Nat) (q : Nat → Q) (F : Nat → D) (E T : Nat) (hn : n ≤ 1000000) (hr : CR w g 176 4 n (fun i c => [.slice (A i) (N i) (C i), .bool (q i).b, .slice (q i).A (q i).n (q i).c, .int .i64 (F i).x].getD c undef)) (hd : ∀ i, i < n → RD w (q i) (F i)) (hl : ∀ i, i < n → (F i).Lim E T) (hET : E + T ≤ 16000) :
    Calls Tryd.prog 184 #[.slice (some ⟨g, 0, none⟩) n cap, .int .i64 0, .int .i64 n, .func (.func 118) #[] #[]] w fun e w' => e = .returned (.tuple #[]) ∧ IsRel w g 176 4 n (fun i c => [.slice (A i) (N i) (C i), .bool (q i).b, .slice (q i).A (q i).n (q i).c, .int .i64 (F i).x].getD c undef) (Sort.insertionSort (fun x y => decide ((F x).cmp (F y) < 0)) (Array.range n) 0 n) w' := by
  have HD := Lib.hid hd
  have HL := Lib.hid hl
  have HU := Lib.hid (show ∀ (i c : Nat) (v : Int), i < n → c < 4 → (fun i c => [.slice (A i) (N i) (C i), .bool (q i).b, .slice (q i).A (q i).n (q i).c, .int .i64 (F i).x].getD c undef) i c ≠ .int .u32 v by
    intro i c v hi hc
    match c, hc with
    | 0, _ => intro h; cases h
    | 1, _ => intro h; cases h
    | 2, _ => intro h; cases h
    | 3, _ => intro h; cases h)
  have H0 := Lib.hid (show IsRel w g 176 4 n (fun i c => [.slice (A i) (N i) (C i), .bool (q i).b, .slice (q i).A (q i).n (q i).c, .int .i64 (F i).x].getD c undef) (Array.range n) w from ⟨hr.congr fun j c hj hc => by rw [getElem!_pos _ j (by simpa using hj)]; simp, World.grownBy.refl _ _, Dk.refl _, by simp, fun j hj => by rw [getElem!_pos _ j (by simpa using hj)]; simpa using hj⟩)
  have FIN := Lib.hid (show Sort.insOuter (fun x y => decide ((F x).cmp (F y) < 0)) 0 n 1 (Array.range n) = Sort.insertionSort (fun x y => decide ((F x).cmp (F y) < 0)) (Array.range n) 0 n from rfl)
  clear hd hl hr
  generalize Sort.insertionSort (fun x y => decide ((F x).cmp (F y) < 0)) (Array.range n) 0 n = fin at FIN ⊢
  go_enter Tryd.func184, Tryd.ntmps184
  go_wp2_with fail
  go_loopw [8] (fun k wr => ∃ (i : Nat) (d : Array Nat), k = .int .i64 i ∧ 1 ≤ i ∧ i ≤ n + 1 ∧ Hid (IsRel w g 176 4 n (fun i c => [.slice (A i) (N i) (C i), .bool (q i).b, .slice (q i).A (q i).n (q i).c, .int .i64 (F i).x].getD c undef) d wr) ∧ Hid (Sort.insOuter (fun x y => decide ((F x).cmp (F y) < 0)) 0 n i d = fin)) (fun k _ => n + 1 - (intOf k).toNat)
  case atStart => exact ⟨1, _, rfl, Nat.le_refl _, by omega, H0, FIN⟩
  case round =>
    clear H0 FIN
    obtain ⟨i, d, rfl, hi0, hi1, Hr, Fi⟩ := hrel
    by_cases hi : i < n
    · have q3 : (i : Int) < (n : Int) := by omega
      have F2 := Lib.hid (show Sort.insOuter (fun x y => decide ((F x).cmp (F y) < 0)) 0 n (i + 1) (Sort.insInner (fun x y => decide ((F x).cmp (F y) < 0)) 0 i d) = fin by have h := Fi.out; rw [Sort.insOuter, if_pos hi] at h; exact h)
      clear Fi
      go_wp2_with fail
      go_loopw [9] (fun k wr => ∃ (j : Nat) (d : Array Nat), k = .int .i64 j ∧ j ≤ i ∧ Hid (IsRel w g 176 4 n (fun i c => [.slice (A i) (N i) (C i), .bool (q i).b, .slice (q i).A (q i).n (q i).c, .int .i64 (F i).x].getD c undef) d wr) ∧ Hid (Sort.insOuter (fun x y => decide ((F x).cmp (F y) < 0)) 0 n (i + 1) (Sort.insInner (fun x y => decide ((F x).cmp (F y) < 0)) 0 j d) = fin)) (fun k _ => (intOf k).toNat)
      case atStart => exact ⟨i, d, rfl, Nat.le_refl _, Hr, F2⟩
      case round =>
        clear Hr F2 d
        obtain ⟨j, d, rfl, hj, Hr, F2⟩ := hrel
        by_cases j0 : j = 0
        · subst j0
          have F3 := Lib.hid (show Sort.insOuter (fun x y => decide ((F x).cmp (F y) < 0)) 0 n (i + 1) d = fin from F2.out)
          have Hq := Lib.hid Hr.out.dr
          clear F2 Hr
          go_wp2_with fail
          go_region
          go_wp2_with fail
          go_roundw
          case rel => exact ⟨i + 1, d, by go_num, by omega, by omega, Hq, F3⟩
          case measure => simp only [intOf]; omega
        · obtain ⟨k, hk⟩ : ∃ k, j = k + 1 := ⟨j - 1, by omega⟩
          have e1 : (j : Int) - 1 = (k : Int) := by omega
          have w1e : IntKind.i64.wrap (k : Int) = (k : Int) := by rw [IntKind.wrap_i64]; omega
          have EJ := Lib.hid hk
          have hkn : k + 1 < n := by omega
          have hjn : j < n := by omega
          clear hk j0
          obtain ⟨x, hx⟩ : ∃ x, x = d[j]! := ⟨_, rfl⟩
          obtain ⟨y, hy⟩ : ∃ y, y = d[k]! := ⟨_, rfl⟩
          have hxn : x < n := by rw [hx]; exact Hr.out.lt _ hjn
          have hyn : y < n := by rw [hy]; exact Hr.out.lt _ (by omega)
          have cx0 : wr.cell? ⟨g, j * 4, none⟩ = some (.slice (A x) (N x) (C x)) := by rw [hx]; exact Hr.out.row.cell (i := j) (c := 0) (by have := EJ.out; omega) (by omega)
          have cx1 : wr.cell? ⟨g, j * 4 + 1, none⟩ = some (.bool (q x).b) := by rw [hx]; exact Hr.out.row.cell (i := j) (c := 1) (by have := EJ.out; omega) (by omega)
          have cx2 : wr.cell? ⟨g, j * 4 + 2, none⟩ = some (.slice (q x).A (q x).n (q x).c) := by rw [hx]; exact Hr.out.row.cell (i := j) (c := 2) (by have := EJ.out; omega) (by omega)
          have cx3 : wr.cell? ⟨g, j * 4 + 3, none⟩ = some (.int .i64 (F x).x) := by rw [hx]; exact Hr.out.row.cell (i := j) (c := 3) (by have := EJ.out; omega) (by omega)
          have cy0 : wr.cell? ⟨g, k * 4, none⟩ = some (.slice (A y) (N y) (C y)) := by rw [hy]; exact Hr.out.row.cell (i := k) (c := 0) (by have := EJ.out; omega) (by omega)
          have cy1 : wr.cell? ⟨g, k * 4 + 1, none⟩ = some (.bool (q y).b) := by rw [hy]; exact Hr.out.row.cell (i := k) (c := 1) (by have := EJ.out; omega) (by omega)
          have cy2 : wr.cell? ⟨g, k * 4 + 2, none⟩ = some (.slice (q y).A (q y).n (q y).c) := by rw [hy]; exact Hr.out.row.cell (i := k) (c := 2) (by have := EJ.out; omega) (by omega)
          have cy3 : wr.cell? ⟨g, k * 4 + 3, none⟩ = some (.int .i64 (F y).x) := by rw [hy]; exact Hr.out.row.cell (i := k) (c := 3) (by have := EJ.out; omega) (by omega)
          have HX := Lib.hid hx
          have HY := Lib.hid hy
          have RX := Lib.hid ((HD.out x hxn).dk Hr.out.dk)
          have RY := Lib.hid ((HD.out y hyn).dk Hr.out.dk)
          clear hx hy
          have q4 : (j : Int) < (n : Int) := by omega
          have q5 : (k : Int) < (n : Int) := by omega
          have q6 : (0 : Int) < (j : Int) := by have := EJ.out; omega
          have q7 : 0 < j := by have := EJ.out; omega
          have q8 : k < n := by omega
          clear hkn
          have kA := Lib.hid (show (wr).cell? ⟨g, j * 4, none⟩ = some (.slice (A x) (N x) (C x)) ∧ (wr).cell? ⟨g, j * 4 + 1, none⟩ = some (.bool (q x).b) ∧ (wr).cell? ⟨g, j * 4 + 2, none⟩ = some (.slice (q x).A (q x).n (q x).c) ∧ (wr).cell? ⟨g, j * 4 + 3, none⟩ = some (.int .i64 (F x).x) ∧ (wr).cell? ⟨g, k * 4, none⟩ = some (.slice (A y) (N y) (C y)) ∧ (wr).cell? ⟨g, k * 4 + 1, none⟩ = some (.bool (q y).b) ∧ (wr).cell? ⟨g, k * 4 + 2, none⟩ = some (.slice (q y).A (q y).n (q y).c) ∧ (wr).cell? ⟨g, k * 4 + 3, none⟩ = some (.int .i64 (F y).x) from ⟨cx0, cx1, cx2, cx3, cy0, cy1, cy2, cy3⟩)
          have kB := Lib.hid (show (wr.drew).cell? ⟨g, j * 4, none⟩ = some (.slice (A x) (N x) (C x)) ∧ (wr.drew).cell? ⟨g, j * 4 + 1, none⟩ = some (.bool (q x).b) ∧ (wr.drew).cell? ⟨g, j * 4 + 2, none⟩ = some (.slice (q x).A (q x).n (q x).c) ∧ (wr.drew).cell? ⟨g, j * 4 + 3, none⟩ = some (.int .i64 (F x).x) ∧ (wr.drew).cell? ⟨g, k * 4, none⟩ = some (.slice (A y) (N y) (C y)) ∧ (wr.drew).cell? ⟨g, k * 4 + 1, none⟩ = some (.bool (q y).b) ∧ (wr.drew).cell? ⟨g, k * 4 + 2, none⟩ = some (.slice (q y).A (q y).n (q y).c) ∧ (wr.drew).cell? ⟨g, k * 4 + 3, none⟩ = some (.int .i64 (F y).x) from kA.out)
          have tok : True := trivial
          by_cases hlt : ((F x).cmp (F y)) < 0
          · have hq := Lib.hid (show Sort.insOuter (fun x y => decide (((F x).cmp (F y)) < 0)) 0 n (i + 1) (Sort.insInner (fun x y => decide (((F x).cmp (F y)) < 0)) 0 k (Sort.swp d (k + 1) k)) = fin by
              have h := F2.out
              rw [EJ.out, Sort.insInner, if_pos (by rw [← EJ.out, ← HX.out, ← HY.out]; simp [hlt, EJ.out])] at h
              exact h)
            have HS := Lib.hid (Hr.out.dr)
            clear F2 Hr
            go_wp2_with fail
            go_region_held3 (fun w' => (w').cell? ⟨g, j * 4, none⟩ = some (.slice (A x) (N x) (C x)) ∧ (w').cell? ⟨g, j * 4 + 1, none⟩ = some (.bool (q x).b) ∧ (w').cell? ⟨g, j * 4 + 2, none⟩ = some (.slice (q x).A (q x).n (q x).c) ∧ (w').cell? ⟨g, j * 4 + 3, none⟩ = some (.int .i64 (F x).x) ∧ (w').cell? ⟨g, k * 4, none⟩ = some (.slice (A y) (N y) (C y)) ∧ (w').cell? ⟨g, k * 4 + 1, none⟩ = some (.bool (q y).b) ∧ (w').cell? ⟨g, k * 4 + 2, none⟩ = some (.slice (q y).A (q y).n (q y).c) ∧ (w').cell? ⟨g, k * 4 + 3, none⟩ = some (.int .i64 (F y).x)) (first | with_reducible exact kA.out | with_reducible exact kB.out | with_reducible exact kC.out)
              (first
               | (clear tok; go_at_call 118; refine (order1_any _ (A x) (A y) (N x) (C x) (N y) (C y) (q x) (q y) (F x) (F y) E T (RX.out.dk ((Dk.refl _).drew)) (RY.out.dk ((Dk.refl _).drew)) (HL.out x hxn) (HL.out y hyn) hET).mono ?_; rintro e w5 ⟨rfl, hb⟩; clear cx0 cx1 cx2 cx3 cy0 cy1 cy2 cy3; have HS5 := Lib.hid (HS.out.below hb); have y0 := EJ.out; have kC := Lib.hid (show (w5).cell? ⟨g, j * 4, none⟩ = some (.slice (A x) (N x) (C x)) ∧ (w5).cell? ⟨g, j * 4 + 1, none⟩ = some (.bool (q x).b) ∧ (w5).cell? ⟨g, j * 4 + 2, none⟩ = some (.slice (q x).A (q x).n (q x).c) ∧ (w5).cell? ⟨g, j * 4 + 3, none⟩ = some (.int .i64 (F x).x) ∧ (w5).cell? ⟨g, k * 4, none⟩ = some (.slice (A y) (N y) (C y)) ∧ (w5).cell? ⟨g, k * 4 + 1, none⟩ = some (.bool (q y).b) ∧ (w5).cell? ⟨g, k * 4 + 2, none⟩ = some (.slice (q y).A (q y).n (q y).c) ∧ (w5).cell? ⟨g, k * 4 + 3, none⟩ = some (.int .i64 (F y).x) from ⟨by rw [HX.out]; exact HS5.out.row.cell (i := j) (c := 0) (by omega) (by omega), by rw [HX.out]; exact HS5.out.row.cell (i := j) (c := 1) (by omega) (by omega), by rw [HX.out]; exact HS5.out.row.cell (i := j) (c := 2) (by omega) (by omega), by rw [HX.out]; exact HS5.out.row.cell (i := j) (c := 3) (by omega) (by omega), by rw [HY.out]; exact HS5.out.row.cell (i := k) (c := 0) (by omega) (by omega), by rw [HY.out]; exact HS5.out.row.cell (i := k) (c := 1) (by omega) (by omega), by rw [HY.out]; exact HS5.out.row.cell (i := k) (c := 2) (by omega) (by omega), by rw [HY.out]; exact HS5.out.row.cell (i := k) (c := 3) (by omega) (by omega)⟩); clear y0; clear hb HS RX RY))
            go_wp2_with fail
            have hun := HX.out
            have hvn := HY.out
            obtain ⟨cx0, cx1, cx2, cx3, cy0, cy1, cy2, cy3⟩ := kC.out
            have lg := HS5.out.row.lt
            have fcx0 : w5.frozen? ⟨g, j * 4, none⟩ = false := HS5.out.row.free _
            have fcx1 : w5.frozen? ⟨g, j * 4 + 1, none⟩ = false := HS5.out.row.free _
            have fcx2 : w5.frozen? ⟨g, j * 4 + 2, none⟩ = false := HS5.out.row.free _
            have fcx3 : w5.frozen? ⟨g, j * 4 + 3, none⟩ = false := HS5.out.row.free _
            have fcy0 : w5.frozen? ⟨g, k * 4, none⟩ = false := HS5.out.row.free _
            have fcy1 : w5.frozen? ⟨g, k * 4 + 1, none⟩ = false := HS5.out.row.free _
            have fcy2 : w5.frozen? ⟨g, k * 4 + 2, none⟩ = false := HS5.out.row.free _
            have fcy3 : w5.frozen? ⟨g, k * 4 + 3, none⟩ = false := HS5.out.row.free _
            go_region
            all_goals (go_wp2_with fail; go_roundw)
            all_goals first
              | (obtain rfl := EJ.out; exact ⟨k, Sort.swp d (k + 1) k, by first | rfl | go_num, by omega, Lib.hid (IsRel.dr (IsRel.swap4 HS5.out (by omega) HU.out (by subst hvn; rfl) (by subst hvn; rfl) (by subst hvn; rfl) (by subst hvn; rfl) (by subst hun; rfl) (by subst hun; rfl) (by subst hun; rfl) (by subst hun; rfl))), hq⟩)
              | (simp only [intOf]; omega)
          · have hq := Lib.hid (show Sort.insOuter (fun x y => decide (((F x).cmp (F y)) < 0)) 0 n (i + 1) d = fin by
              have h := F2.out
              rw [EJ.out, Sort.insInner, if_neg (by rw [← EJ.out, ← HX.out, ← HY.out]; simp [hlt])] at h
              exact h)
            have HS := Lib.hid (Hr.out.dr)
            clear F2 Hr
            go_wp2_with fail
            go_region_held3 (fun w' => (w').cell? ⟨g, j * 4, none⟩ = some (.slice (A x) (N x) (C x)) ∧ (w').cell? ⟨g, j * 4 + 1, none⟩ = some (.bool (q x).b) ∧ (w').cell? ⟨g, j * 4 + 2, none⟩ = some (.slice (q x).A (q x).n (q x).c) ∧ (w').cell? ⟨g, j * 4 + 3, none⟩ = some (.int .i64 (F x).x) ∧ (w').cell? ⟨g, k * 4, none⟩ = some (.slice (A y) (N y) (C y)) ∧ (w').cell? ⟨g, k * 4 + 1, none⟩ = some (.bool (q y).b) ∧ (w').cell? ⟨g, k * 4 + 2, none⟩ = some (.slice (q y).A (q y).n (q y).c) ∧ (w').cell? ⟨g, k * 4 + 3, none⟩ = some (.int .i64 (F y).x)) (first | with_reducible exact kA.out | with_reducible exact kB.out | with_reducible exact kC.out)
              (first
               | (clear tok; go_at_call 118; refine (order1_any _ (A x) (A y) (N x) (C x) (N y) (C y) (q x) (q y) (F x) (F y) E T (RX.out.dk ((Dk.refl _).drew)) (RY.out.dk ((Dk.refl _).drew)) (HL.out x hxn) (HL.out y hyn) hET).mono ?_; rintro e w5 ⟨rfl, hb⟩; clear cx0 cx1 cx2 cx3 cy0 cy1 cy2 cy3; have HS5 := Lib.hid (HS.out.below hb); have y0 := EJ.out; have kC := Lib.hid (show (w5).cell? ⟨g, j * 4, none⟩ = some (.slice (A x) (N x) (C x)) ∧ (w5).cell? ⟨g, j * 4 + 1, none⟩ = some (.bool (q x).b) ∧ (w5).cell? ⟨g, j * 4 + 2, none⟩ = some (.slice (q x).A (q x).n (q x).c) ∧ (w5).cell? ⟨g, j * 4 + 3, none⟩ = some (.int .i64 (F x).x) ∧ (w5).cell? ⟨g, k * 4, none⟩ = some (.slice (A y) (N y) (C y)) ∧ (w5).cell? ⟨g, k * 4 + 1, none⟩ = some (.bool (q y).b) ∧ (w5).cell? ⟨g, k * 4 + 2, none⟩ = some (.slice (q y).A (q y).n (q y).c) ∧ (w5).cell? ⟨g, k * 4 + 3, none⟩ = some (.int .i64 (F y).x) from ⟨by rw [HX.out]; exact HS5.out.row.cell (i := j) (c := 0) (by omega) (by omega), by rw [HX.out]; exact HS5.out.row.cell (i := j) (c := 1) (by omega) (by omega), by rw [HX.out]; exact HS5.out.row.cell (i := j) (c := 2) (by omega) (by omega), by rw [HX.out]; exact HS5.out.row.cell (i := j) (c := 3) (by omega) (by omega), by rw [HY.out]; exact HS5.out.row.cell (i := k) (c := 0) (by omega) (by omega), by rw [HY.out]; exact HS5.out.row.cell (i := k) (c := 1) (by omega) (by omega), by rw [HY.out]; exact HS5.out.row.cell (i := k) (c := 2) (by omega) (by omega), by rw [HY.out]; exact HS5.out.row.cell (i := k) (c := 3) (by omega) (by omega)⟩); clear y0; clear hb HS RX RY))
            go_wp2_with fail
            go_roundw
            case rel => exact ⟨i + 1, d, by go_num, by omega, by omega, HS5, hq⟩
            case measure => simp only [intOf]; omega
    · have q3 : ¬ (i : Int) < (n : Int) := by omega
      have F3 := Lib.hid (show d = fin by have h := Fi.out; rw [Sort.insOuter, if_neg hi] at h; exact h)
      go_wp2
      go_end0
      exact ⟨rfl, by rw [← F3.out]; exact Hr.out⟩

end Go.Proofs.YtgioppkggpfnoaaDoor.Nu
end

section
/- math/bits.Len off the shelf. -/
set_option linter.unusedVariables false
namespace Go.Proofs.YtgioppkggpfnoaaDoor.Nu
open Go.RowKit Go.Proofs Go.Shelf

end Go.Proofs.YtgioppkggpfnoaaDoor.Nu
end

section
/- What the library's insertion sort makes of places, plain; what comes of it for the ways of a set. No program in sight. -/
namespace Go.Proofs.YtgioppkggpfnoaaDoor.Nu
open Go

/-- The places, as they stand behind the sort. -/
def srt (lt : Nat → Nat → Bool) (n : Nat) : Nat → Nat := fun k => (Sort.insertionSort lt (Array.range n) 0 n)[k]!
theorem srt_size {lt : Nat → Nat → Bool} (h : Sort.SWO lt) (n : Nat) : (Sort.insertionSort lt (Array.range n) 0 n).size = n := by
  have h1 := (Sort.insertionSort_holds h (Array.range n) 0 n (Nat.zero_le _) (by simp)).1
  rw [h1.1]; simp
theorem srt_perm {lt : Nat → Nat → Bool} (h : Sort.SWO lt) (n : Nat) : (Sort.insertionSort lt (Array.range n) 0 n).toList.Perm (List.range n) := by
  have h1 := (Sort.insertionSort_holds h (Array.range n) 0 n (Nat.zero_le _) (by simp)).1.2.2
  have e1 : (Sort.insertionSort lt (Array.range n) 0 n).extract 0 (Sort.insertionSort lt (Array.range n) 0 n).size = Sort.insertionSort lt (Array.range n) 0 n := Array.extract_size
  rw [srt_size h] at e1
  have e2 : (Array.range n).extract 0 (Array.range n).size = Array.range n := Array.extract_size
  rw [Array.size_range] at e2
  rw [e1, e2, Array.toList_range] at h1
  exact h1
theorem srt_get {lt : Nat → Nat → Bool} (n k : Nat) : (Sort.insertionSort lt (Array.range n) 0 n).toList[k]! = srt lt n k := by
  unfold srt
  generalize Sort.insertionSort lt (Array.range n) 0 n = a
  by_cases h : k < a.size
  · rw [getElem!_pos a k h, getElem!_pos a.toList k (by simpa using h)]
    simp
  · rw [getElem!_neg a k h, getElem!_neg a.toList k (by simpa using h)]
theorem srt_lt {lt : Nat → Nat → Bool} (h : Sort.SWO lt) {n k : Nat} (hk : k < n) : srt lt n k < n := by
  have h1 : (Sort.insertionSort lt (Array.range n) 0 n)[k]! ∈ (Sort.insertionSort lt (Array.range n) 0 n).toList := by
    rw [getElem!_pos _ k (by rw [srt_size h]; exact hk)]
    simp
  have h2 := (srt_perm h n).mem_iff.1 h1
  exact List.mem_range.1 h2
theorem srt_sum {lt : Nat → Nat → Bool} (h : Sort.SWO lt) (n : Nat) (f : Nat → Rat) : sumQ (fun k => f (srt lt n k)) n = sumQ f n := by
  have := sum_perm f (srt_perm h n)
  simp only [srt_get] at this
  exact this
theorem cmp_neg (a b : D) : a.cmp b < 0 ↔ a.val < b.val := by
  unfold D.cmp
  rcases qcmp_cases a.val b.val with ⟨h, e⟩ | ⟨h, e⟩ | ⟨h, e⟩ <;> rw [e] <;> constructor <;> intro h2 <;> first | exact h | (exfalso; revert h2; decide) | (exfalso; grind) | decide
theorem swo_up (F : Nat → D) : Sort.SWO (fun x y => decide ((F x).cmp (F y) < 0)) where
  irrefl x := by simp [cmp_neg]
  trans x y z h1 h2 := by simp [cmp_neg] at *; grind
  ntrans x y z h1 h2 := by simp [cmp_neg] at *; grind
/-- The ways from the least spread to the most; from the most to the least. -/
def spr (z : Zo) (bits k : Nat) : D := spread (z.g k) z.n bits
def sigU (z : Zo) (bits : Nat) : Nat → Nat := srt (fun x y => decide ((spr z bits x).cmp (spr z bits y) < 0)) z.m
theorem sigU_lt (z : Zo) (bits : Nat) {k : Nat} (hk : k < z.m) : sigU z bits k < z.m := srt_lt (swo_up _) hk
theorem sigU_sum (z : Zo) (bits : Nat) (f : Nat → Rat) : sumQ (fun k => f (sigU z bits k)) z.m = sumQ f z.m := srt_sum (swo_up _) _ f
/-- A set of so many ways less, place by place. -/
def redZ (z : Zo) (p bits : Nat) : Zo := ordZ z (sigU z bits) p bits
theorem redZ_lim {z : Zo} {E T : Nat} (h : z.Lim E T) {p : Nat} (hp : p ≤ z.m) (bits : Nat) : (redZ z p bits).Lim E (T + 2 * p) := ord_lim h (fun _ hk => sigU_lt z bits hk) hp bits
theorem redZ_can {z : Zo} (h : z.Can) {p : Nat} (hp : p ≤ z.m) (bits : Nat) : (redZ z p bits).Can := ord_can h (fun _ hk => sigU_lt z bits hk) hp bits
theorem redZ_far (z : Zo) {p : Nat} (hp : p ≤ z.m) (bits : Nat) (d : Nat → Rat) : z.far d ≤ (redZ z p bits).far d := ord_far z (sigU_sum z bits) hp bits d
end Go.Proofs.YtgioppkggpfnoaaDoor.Nu
end

section
/- slices.SortFunc and slices.SortStableFunc as package reduce calls them: of few elements they are the insertion sort. -/
set_option linter.unusedVariables false
namespace Go.Proofs.YtgioppkggpfnoaaDoor.Nu
open Go.RowKit Go.Proofs

set_option maxRecDepth 100000 in
set_option maxHeartbeats 4000000 in
theorem stableG_any (w : World) (g n cap : Nat) (A : Nat → Option Addr) (N C : Nat → Nat) (q : Nat → Q) (F : Nat → D) (E T : Nat) (hn : n ≤ 12) (hr : CR w g 176 4 n (fun i c => [.slice (A i) (N i) (C i), .bool (q i).b, .slice (q i).A (q i).n (q i).c, .int .i64 (F i).x].getD c undef)) (hd : ∀ i, i < n → RD w (q i) (F i)) (hl : ∀ i, i < n → (F i).Lim E T) (hET : E + T ≤ 16000) :
    Calls Tryd.prog 162 #[.slice (some ⟨g, 0, none⟩) n cap, .int .i64 n, .func (.func 118) #[] #[]] w fun e w' => e = .returned (.tuple #[]) ∧ IsRel w g 176 4 n (fun i c => [.slice (A i) (N i) (C i), .bool (q i).b, .slice (q i).A (q i).n (q i).c, .int .i64 (F i).x].getD c undef) (Sort.insertionSort (fun x y => decide ((F x).cmp (F y) < 0)) (Array.range n) 0 n) w' := by
  have HS := Lib.hid (isortG_any w g n cap A N C q F E T (by omega) hr hd hl hET)
  have q1 : ¬ (20 : Int) ≤ (n : Int) := by omega
  have q2 : ¬ (20 : Int) < (n : Int) := by omega
  clear hr hd hl
  go_enter Tryd.func162, Tryd.ntmps162
  go_wp2_with fail
  go_loopw [7, 8] (fun s7 s8 wr => s7 = .int .i64 0 ∧ s8 = .int .i64 20 ∧ wr = w) (fun _ _ _ => 0)
  case atStart => exact ⟨rfl, rfl, rfl⟩
  case round =>
    obtain ⟨rfl, rfl, rfl⟩ := hrel
    go_wp2_with fail
    refine HS.out.mono ?_
    rintro e w1 ⟨rfl, h1⟩
    have H1 := Lib.hid h1
    clear h1
    go_wp2_with fail
    go_loopw [6] (fun s6 wr => s6 = .int .i64 20 ∧ wr = w1) (fun _ _ => 0)
    case atStart => exact ⟨rfl, rfl⟩
    case round =>
      obtain ⟨rfl, rfl⟩ := hrel
      go_wp2
      go_end0
      exact ⟨rfl, H1.out⟩
set_option maxRecDepth 100000 in
set_option maxHeartbeats 4000000 in
theorem sortG_any (w : World) (g n cap : Nat) (A : Nat → Option Addr) (N C : Nat → Nat) (q : Nat → Q) (F : Nat → D) (E T : Nat) (hn : n ≤ 12) (hr : CR w g 176 4 n (fun i c => [.slice (A i) (N i) (C i), .bool (q i).b, .slice (q i).A (q i).n (q i).c, .int .i64 (F i).x].getD c undef)) (hd : ∀ i, i < n → RD w (q i) (F i)) (hl : ∀ i, i < n → (F i).Lim E T) (hET : E + T ≤ 16000) :
    Calls Tryd.prog 117 #[.slice (some ⟨g, 0, none⟩) n cap, .func (.func 118) #[] #[]] w fun e w' => e = .returned (.tuple #[]) ∧ IsRel w g 176 4 n (fun i c => [.slice (A i) (N i) (C i), .bool (q i).b, .slice (q i).A (q i).n (q i).c, .int .i64 (F i).x].getD c undef) (Sort.insertionSort (fun x y => decide ((F x).cmp (F y) < 0)) (Array.range n) 0 n) w' := by
  have HS := Lib.hid (stableG_any w g n cap A N C q F E T hn hr hd hl hET)
  clear hr hd hl
  go_enter Tryd.func117, Tryd.ntmps117
  go_wp2_with fail
  refine HS.out.mono ?_
  rintro e w1 ⟨rfl, h1⟩
  have H1 := Lib.hid h1
  clear h1
  go_wp2
  go_end0
  exact ⟨rfl, H1.out⟩
end Go.Proofs.YtgioppkggpfnoaaDoor.Nu
end

section
/- Rows that the call owns and appends to, of whatever cells but digits: what is appended, and that every digit keeps its value. -/
set_option linter.unusedVariables false
namespace Go.Proofs.YtgioppkggpfnoaaDoor.Nu
open Go.RowKit Go.Proofs

theorem infoLL : (Tryd.prog.info? 39).map (fun i => (i.zero, i.size, i.bytes)) = some (some (.slice none 0 0), 1, 24) := by kernel_rfl
/-- No digit among them. -/
def NoU (cur : Array Value) : Prop := ∀ u, u ∈ cur → ∀ v : Int, u ≠ .int .u32 v
/-- A row of the call's own, of m elements of k cells each: nil, or at the head of a block without digits. -/
def OW (w : World) (E : TypeId) (k : Nat) (v : Value) (m : Nat) (xs : List Value) : Prop :=
  xs.length = m * k ∧ ((v = .slice none 0 0 ∧ m = 0) ∨ ∃ g cap cur, v = .slice (some ⟨g, 0, none⟩) m cap ∧ m ≤ cap ∧ cap ≤ maxLen ∧ Bk w g E cur ∧ cur.size = cap * k ∧ cur.toList.take (m * k) = xs ∧ NoU cur)
theorem OW.nil (w : World) (E : TypeId) (k : Nat) : OW w E k (.slice none 0 0) 0 [] := ⟨by simp, .inl ⟨rfl, rfl⟩⟩
theorem OW.made (w : World) (E : TypeId) (k : Nat) : OW (w.alloc (.cells #[] E)) E k (.slice (some ⟨w.heap.size, 0, none⟩) 0 0) 0 [] :=
  ⟨by simp, .inr ⟨w.heap.size, 0, #[], rfl, Nat.le_refl _, Nat.zero_le _, alloc_top w _, by simp, by simp, fun u hu => by simp at hu⟩⟩
theorem OW.lt {w : World} {E : TypeId} {k : Nat} {v : Value} {m : Nat} {xs : List Value} (h : OW w E k v m xs) : ∀ g, v.ownBlock = some g → g < w.heap.size := by
  rcases h.2 with ⟨rfl, _⟩ | ⟨g, cap, cur, rfl, _, _, hb, _⟩
  · intro g hg; cases hg
  · intro g' hg
    obtain rfl : g = g' := by simpa [Value.ownBlock] using hg
    exact hb.lt
theorem OW.keep {w w' : World} {E : TypeId} {k : Nat} {v : Value} {m : Nat} {xs : List Value} (h : OW w E k v m xs) (hg : ∀ g, v.ownBlock = some g → w'.heap[g]? = w.heap[g]?) : OW w' E k v m xs := by
  refine ⟨h.1, ?_⟩
  rcases h.2 with ⟨rfl, e⟩ | ⟨g, cap, cur, rfl, h1, h2, hb, h3⟩
  · exact .inl ⟨rfl, e⟩
  · exact .inr ⟨g, cap, cur, rfl, h1, h2, (hg g rfl).trans hb, h3⟩
theorem OW.below {w w' : World} {E : TypeId} {k : Nat} {v : Value} {m : Nat} {xs : List Value} (h : OW w E k v m xs) (hb : Below w.heap.size w w') : OW w' E k v m xs := h.keep fun g hg => hb.block g (h.lt g hg)
theorem OW.al {w : World} {E : TypeId} {k : Nat} {v : Value} {m : Nat} {xs : List Value} (h : OW w E k v m xs) (o : Obj) : OW (w.alloc o) E k v m xs := h.keep fun g hg => sameA w (h.lt g hg) o
theorem OW.dr {w : World} {E : TypeId} {k : Nat} {v : Value} {m : Nat} {xs : List Value} (h : OW w E k v m xs) : OW w.drew E k v m xs := h.keep fun g hg => rfl
theorem OW.st {w : World} {E : TypeId} {k : Nat} {v : Value} {m : Nat} {xs : List Value} (h : OW w E k v m xs) {g' : Nat} (hg : ∀ g, v.ownBlock = some g → g ≠ g') (j : Nat) (u : Value) : OW (w.setCell ⟨g', j, none⟩ u) E k v m xs := h.keep fun g h2 => same1 w (hg g h2) j u
/-- What is read there. -/
theorem OW.cell {w : World} {E : TypeId} {k : Nat} {v : Value} {m : Nat} {xs : List Value} (h : OW w E k v m xs) (hm : 0 < m) : ∃ g cap, v = .slice (some ⟨g, 0, none⟩) m cap ∧ m ≤ cap ∧ g < w.heap.size ∧ (∀ (j : Nat) u, xs[j]? = some u → w.cell? ⟨g, j, none⟩ = some u) ∧ ∀ j, w.frozen? ⟨g, j, none⟩ = false := by
  rcases h.2 with ⟨_, e⟩ | ⟨g, cap, cur, rfl, h1, h2, hb, h3, h4, _⟩
  · omega
  · refine ⟨g, cap, rfl, h1, hb.lt, fun j u hj => ?_, fun j => hb.free j⟩
    refine hb.cell j ?_
    rw [← h4, List.getElem?_take] at hj
    split at hj
    · simpa using hj
    · cases hj
theorem dk_of_no {w w' : World} {row : Option Nat} (hg : w.grownBy w' row) (h : ∀ k, row = some k → k < w.heap.size → ∃ cur t, Bk w k t cur ∧ NoU cur) : Dk w w' := by
  refine ⟨hg.size, fun b o v e => ?_⟩
  by_cases hb : row = some b
  · obtain ⟨cur, t, hk, hj⟩ := h b hb (cell_lt e)
    rw [Lib.cell_of_heap hk] at e
    exact absurd rfl (hj _ (Array.mem_of_getElem? e) v)
  · exact hg.cell e (fun e2 => hb e2.symm)
theorem zero_no {z : Array Value} (h : NoU z) (hz : 0 < z.size) (n : Nat) : NoU (Builtin.zeroCells z n) := by
  intro u hu v
  simp only [Builtin.zeroCells, Array.mem_map] at hu
  obtain ⟨i, _, rfl⟩ := hu
  have hi : i % z.size < z.size := Nat.mod_lt _ hz
  rw [getElem!_pos z _ hi]
  exact h _ (Array.getElem_mem hi) v
/-- Elements more. -/
theorem run_append_ow (w : World) (T ty E : TypeId) (k bts : Nat) (z : Value) (i0 : TypeInfo) (ht : Tryd.prog.underlying T = some (.slice E)) (hi : Tryd.prog.info? E = some i0) (hz0 : i0.zero = some z) (hz1 : i0.size = k) (hz2 : i0.bytes = bts)
    (hzc : z.cells.size = k) (hzn : NoU z.cells) (hk : 0 < k) (hbt : bts ≤ 100) (v : Value) (m : Nat) (xs : List Value) (hown : OW w E k v m xs) (ad : Addr) (n c : Nat) (news : List Value) (hl : news.length = n * k) (hnews : ∀ j u, news[j]? = some u → w.cell? (ad.add j) = some u) (h1 : ∀ u ∈ news, u.oneCell' = true)
    (hnn : ∀ u ∈ news, ∀ x : Int, u ≠ .int .u32 x) (h0 : v = .slice none 0 0 → 0 < n) (hm : m + n ≤ 1000000) :
    ∃ v' w', (Builtin.append_ #[T, T] ty #[v, .slice (some ad) n c]).run Tryd.prog w = .ok v' w' ∧ OW w' E k v' (m + n) (xs ++ news) ∧ w.grownBy w' v.ownBlock ∧ Dk w w' ∧ (v'.ownBlock = v.ownBlock ∨ v'.ownBlock = some w.heap.size) := by
  have hml : (1000001 : Nat) ≤ maxLen := by unfold maxLen; omega
  have hb48 : (m + n) * bts ≤ 140737488355328 := Nat.le_trans (Nat.mul_le_mul hm hbt) (by omega)
  have hxs : ∀ u ∈ xs, ∀ x : Int, u ≠ .int .u32 x := by
    rcases hown.2 with ⟨_, e⟩ | ⟨g, cap, cur, _, _, _, _, _, e, hall⟩
    · subst e
      have := hown.1
      rw [Nat.zero_mul] at this
      rw [List.length_eq_zero_iff.1 this]
      intro u hu; cases hu
    · intro u hu
      rw [← e] at hu
      exact hall u (by simpa using List.mem_of_mem_take hu)
  have grown : ∀ (old : Nat) (row : Option Nat), (∀ k, row = some k → k < w.heap.size → ∃ cur t, Bk w k t cur ∧ NoU cur) →
      OW (w.drew.alloc (.cells (xs.toArray ++ news.toArray ++ Builtin.zeroCells z.cells (grownCap w (m + n) old E - (m + n))) E)) E k (.slice (some ⟨w.heap.size, 0, none⟩) (m + n) (grownCap w (m + n) old E)) (m + n) (xs ++ news) ∧
      w.grownBy (w.drew.alloc (.cells (xs.toArray ++ news.toArray ++ Builtin.zeroCells z.cells (grownCap w (m + n) old E - (m + n))) E)) row ∧
      Dk w (w.drew.alloc (.cells (xs.toArray ++ news.toArray ++ Builtin.zeroCells z.cells (grownCap w (m + n) old E - (m + n))) E)) := by
    intro old row hrow
    have hge := grownCap_ge w (m + n) old E
    have hcm : grownCap w (m + n) old E ≤ maxLen := grownCap_le_maxLen w (m + n) old E (by omega)
    have hlen : (xs ++ news).length = (m + n) * k := by rw [List.length_append, hown.1, hl, Nat.add_mul]
    refine ⟨⟨hlen, .inr ⟨w.heap.size, _, _, rfl, hge, hcm, alloc_top w.drew _, ?_, ?_, ?_⟩⟩, ⟨rfl, rfl, rfl, by simp, fun k hk _ => by first | exact heap_alloc_old w.drew _ k hk | exact heap_alloc_old w.drew _ hk⟩, ((Dk.refl w).drew).alloc _⟩
    · rw [Array.size_append, Array.size_append, List.size_toArray, List.size_toArray, size_zeroCells, hzc, ← List.length_append, hlen, ← Nat.add_mul, Nat.add_sub_cancel' hge]
    · rw [Array.toList_append, Array.toList_append, List.toList_toArray, List.toList_toArray, ← hlen]
      exact List.take_left
    · intro u hu
      simp only [Array.mem_append, List.mem_toArray] at hu
      rcases hu with (hx | hx) | hx
      · exact hxs u hx
      · exact hnn u hx
      · exact zero_no hzn (by omega) _ u hx
  rcases hown.2 with ⟨rfl, e⟩ | ⟨g, cap, cur, rfl, h2, h3, hg, h5, htake, hall⟩
  · subst e
    have hx0 : xs = [] := List.length_eq_zero_iff.1 (by have := hown.1; rw [Nat.zero_mul] at this; exact this)
    subst hx0
    have hn := h0 rfl
    have hbn : n * bts ≤ 140737488355328 := Nat.le_trans (Nat.mul_le_mul (show n ≤ 1000000 by omega) hbt) (by omega)
    have hr := run_append_nil (P := Tryd.prog) w T ty E i0 z ht hi hz0 ad n c news (by rw [hz1]; exact hl) hnews hn (by omega) (by rw [hz2]; omega)
    have hgr := grown 0 (Value.ownBlock (.slice none 0 0)) (by intro k hk; cases hk)
    simp only [Nat.zero_add, List.nil_append, Array.empty_append] at hgr ⊢
    exact ⟨_, _, hr, hgr.1, hgr.2.1, hgr.2.2, .inr rfl⟩
  · by_cases hroom : m + n ≤ cap
    · have hmul : (m + n) * k ≤ cap * k := Nat.mul_le_mul_right _ hroom
      rw [Nat.add_mul] at hmul
      have hfit : m * i0.size + news.length ≤ cur.size := by rw [hz1, h5, hl]; omega
      have hr := run_append_room (P := Tryd.prog) w T ty E i0 ht hi g m cap cur hg ad n c news (by rw [hz1]; exact hl) hnews h1 hroom hfit
      have hgb : w.grownBy (w.setRow g (cur.toList.take (m * i0.size) ++ news ++ cur.toList.drop (m * i0.size + news.length)).toArray) (Value.ownBlock (.slice (some ⟨g, 0, none⟩) m cap)) := ⟨rfl, rfl, rfl, by simp, fun k _ hk => setRow_other w g k _ (fun e => hk (by simp [Value.ownBlock, e]))⟩
      have hlen : (xs ++ news).length = (m + n) * k := by rw [List.length_append, hown.1, hl, Nat.add_mul]
      refine ⟨_, _, hr, ⟨hlen, .inr ⟨g, cap, _, rfl, hroom, h3, setRow_heap w g cur _ _ _ hg, ?_, ?_, ?_⟩⟩, hgb, dk_of_no hgb ?_, .inl rfl⟩
      · rw [hz1]
        simp only [List.size_toArray, List.length_append, List.length_take, List.length_drop, Array.length_toList]
        omega
      · rw [hz1, htake, List.toList_toArray, ← hlen]
        exact List.take_left
      · intro u hu
        rw [List.mem_toArray, List.mem_append, List.mem_append] at hu
        rcases hu with (hx | hx) | hx
        · exact hall u (by simpa using List.mem_of_mem_take hx)
        · exact hnn u hx
        · exact hall u (by simpa using List.mem_of_mem_drop hx)
      · intro k hk _
        obtain rfl : g = k := by simpa [Value.ownBlock] using hk
        exact ⟨cur, _, hg, hall⟩
    · have holds : ∀ j u, xs[j]? = some u → w.cell? ((⟨g, 0, none⟩ : Addr).add j) = some u := by
        intro j u hj
        rw [Addr.add_lit, Nat.zero_add, Lib.cell_of_heap hg]
        rw [← htake, List.getElem?_take] at hj
        split at hj
        · simpa using hj
        · cases hj
      have hr := run_append_grow (P := Tryd.prog) w T ty E i0 z ht hi hz0 ⟨g, 0, none⟩ m cap xs (by rw [hz1]; exact hown.1) holds ad n c news (by rw [hz1]; exact hl) hnews (by omega) (by omega) (growslice_fits (by omega) (by rw [hz2]; omega))
      have hgr := grown cap (Value.ownBlock (.slice (some ⟨g, 0, none⟩) m cap)) (by
        intro k hk _
        obtain rfl : g = k := by simpa [Value.ownBlock] using hk
        exact ⟨cur, _, hg, hall⟩)
      exact ⟨_, _, hr, hgr.1, hgr.2.1, hgr.2.2, .inr rfl⟩
theorem wpList_append_ow {ops : Array Oper} {rest : List Oper} {o : Oper} {a : Act} {Q : Exit → Act → World → Prop} {w : World} (hgd : o.guard = none) (s x : Operand) (T : TypeId)
    (ho : o.op = .call { callee := .builtin .append, args := #[s, x], argTypes := #[T, T] }) (E : TypeId) (k bts : Nat) (z : Value) (i0 : TypeInfo) (ht : Tryd.prog.underlying T = some (.slice E)) (hi : Tryd.prog.info? E = some i0) (hz0 : i0.zero = some z) (hz1 : i0.size = k) (hz2 : i0.bytes = bts)
    (hzc : z.cells.size = k) (hzn : NoU z.cells) (hk : 0 < k) (hbt : bts ≤ 100)
    (v : Value) (m : Nat) (xs : List Value) (hs : a.eval s = v) (hown : OW w E k v m xs) (ad : Addr) (n c : Nat) (news : List Value) (hx : a.eval x = .slice (some ad) n c) (hl : news.length = n * k) (hnews : ∀ j u, news[j]? = some u → w.cell? (ad.add j) = some u) (h1 : ∀ u ∈ news, u.oneCell' = true)
    (hnn : ∀ u ∈ news, ∀ x : Int, u ≠ .int .u32 x) (h0 : v = .slice none 0 0 → 0 < n) (hm : m + n ≤ 1000000)
    (h : ∀ v' w', OW w' E k v' (m + n) (xs ++ news) → w.grownBy w' v.ownBlock → Dk w w' → (v'.ownBlock = v.ownBlock ∨ v'.ownBlock = some w.heap.size) → wpList Tryd.prog ops Q rest (a.put o.dst v') w') :
    wpList Tryd.prog ops Q (o :: rest) a w := by
  refine wpList_plain hgd fun K hK => ?_
  obtain ⟨v', w', hr, h2, h3, h4, h5⟩ := run_append_ow w T o.type E k bts z i0 ht hi hz0 hz1 hz2 hzc hzn hk hbt v m xs hown ad n c news hl hnews h1 hnn h0 hm
  unfold Oper.wp execOp
  simp only [ho, resolve, invoke, builtin, Sem.run_bind, Sem.run_pure, Result.andThen_ok, List.map_toArray, List.map_cons, List.map_nil, hs, hx, hr]
  exact hK _ _ (h v' w' h2 h3 h4 h5)
/-- Cells of an element, behind an append. -/
theorem OW.inD {w : World} {E : TypeId} {v : Value} {m : Nat} {xs : List Value} {f : Nat → D} (h : OW w E 3 v m xs) (hE : E = 53) (hm : 0 < m) (hj : ∀ j, j < m → inD w xs.toArray j (f j)) : ∃ g cap, v = .slice (some ⟨g, 0, none⟩) m cap ∧ m ≤ cap ∧ OP w g m f := by
  rcases h.2 with ⟨_, e⟩ | ⟨g, cap, cur, rfl, h1, h2, hb, h3, h4, _⟩
  · omega
  · refine ⟨g, cap, rfl, h1, cur, hE ▸ hb, fun j hjn => ?_⟩
    obtain ⟨q, a, b, c, hr⟩ := hj j hjn
    have hk : ∀ k u, xs[k]? = some u → cur[k]? = some u := fun k u hu => by
      rw [← h4, List.getElem?_take] at hu
      split at hu
      · simpa using hu
      · cases hu
    exact ⟨q, hk _ _ (by simpa using a), hk _ _ (by simpa using b), hk _ _ (by simpa using c), hr⟩
theorem OW.cr {w : World} {E : TypeId} {k : Nat} {v : Value} {m : Nat} {xs : List Value} {e : Nat → Nat → Value} (h : OW w E k v m xs) (hm : 0 < m) (hj : ∀ j c, j < m → c < k → xs[j * k + c]? = some (e j c)) : ∃ g cap, v = .slice (some ⟨g, 0, none⟩) m cap ∧ m ≤ cap ∧ CR w g E k m e := by
  rcases h.2 with ⟨_, e⟩ | ⟨g, cap, cur, rfl, h1, h2, hb, h3, h4, _⟩
  · omega
  · refine ⟨g, cap, rfl, h1, cur, hb, fun j c hjn hc => ?_⟩
    have hu := hj j c hjn hc
    rw [← h4, List.getElem?_take] at hu
    split at hu
    · simpa using hu
    · cases hu
end Go.Proofs.YtgioppkggpfnoaaDoor.Nu
end

section
/- The walk of dyad.Round. -/
set_option linter.unusedVariables false
namespace Go.Proofs.YtgioppkggpfnoaaDoor.Nu
open Go.RowKit Go.Proofs

set_option maxRecDepth 100000 in
set_option maxHeartbeats 4000000 in
theorem dround_any (w : World) (p : Q) (a : D) (bits : Nat) (up : Bool) (E T : Nat) (h : RD w p a) (la : a.Lim E T) (hET : E + T ≤ 16000) (hb2 : 2 ≤ bits) (hb3 : bits ≤ 4096) (ht : BTab w) :
    Calls Tryd.prog 148 #[.agg #[.bool p.b, .slice p.A p.n p.c, .int .i64 a.x], .int .i64 bits, .bool up] w fun e w' => (∃ r : Q, e = .returned (.tuple #[.agg #[.bool r.b, .slice r.A r.n r.c, .int .i64 (a.round bits up).x], .int .i64 0]) ∧ RD w' r (a.round bits up)) ∧ Below w.heap.size w w' := by
  have HA := Lib.hid h
  have LA := Lib.hid la
  clear h la
  have HT := Lib.hid ht
  clear ht
  have y0 := Lib.hid LA.out.nb
  have x0 := Lib.hid (lim_top LA.out hET)
  have x1 := x0.out.2.1
  have x2 := x0.out.2.2
  have k0 : ¬ (bits : Int) < 2 := by omega
  have k1 : ¬ (4096 : Int) < (bits : Int) := by omega
  by_cases hov : nb a.z.natAbs ≤ bits
  · rw [round_exact hov]
    obtain ⟨K, hK⟩ : ∃ K, nb a.z.natAbs = K := ⟨_, rfl⟩
    have hk2 : K ≤ 16000 := by have := y0.out; omega
    rw [hK] at hov
    have HK := Lib.hid (show ((nb a.z.natAbs : Nat) : Int) = (K : Int) by rw [hK])
    clear hK
    have q0 : (K : Int) - (bits : Int) ≤ 0 := by omega
    have BX := Lib.hid (boxes2 w 53 #[.bool p.b, .slice p.A p.n p.c, .int .i64 a.x] 53 #[.bool false, .slice none 0 0, .int .i64 0])
    go_enter Tryd.func148, Tryd.ntmps148
    go_wp2_with fail
    generalize (w.alloc (.cells #[.bool p.b, .slice p.A p.n p.c, .int .i64 a.x] 53)).alloc (.cells #[.bool false, .slice none 0 0, .int .i64 0] 53) = w0 at *
    obtain ⟨b0, b1, hw⟩ := BX.out
    have Ba_0 := Lib.hid b0
    have Bo_0 := Lib.hid b1
    have HB_0 := Lib.hid hw
    have K := Dk.below (hw.mono (Nat.le_refl _))
    clear BX hw b0 b1
    have RA_1 := Lib.hid (HA.out.dk K)
    clear K HA
    have la := Ba_0.out.lt
    obtain ⟨ca0, ca1, ca2⟩ := Ba_0.out.cells3
    have lo := Bo_0.out.lt
    obtain ⟨co0, co1, co2⟩ := Bo_0.out.cells3
    go_wp2_with fail
    refine (bits_k _ p a.z RA_1.out.1 x0.out.1).mono ?_
    rintro e w' ⟨rfl, rfl⟩
    rw [HK.out]
    clear la ca0 ca1 ca2 lo co0 co1 co2
    have la := Ba_0.out.lt
    obtain ⟨ca0, ca1, ca2⟩ := Ba_0.out.cells3
    have lo := Bo_0.out.lt
    obtain ⟨co0, co1, co2⟩ := Bo_0.out.cells3
    have fo0 := Bo_0.out.free 0
    have fo1 := Bo_0.out.free 1
    have fo2 := Bo_0.out.free 2
    go_wp2
    refine bodyPost_ret (v := .tuple #[.agg #[.bool p.b, .slice p.A p.n p.c, .int .i64 a.x], .int .i64 0]) ?_ rfl ?_
    · simp [results, Tryd.f148, go_sem, co0, co1, co2]
    · have y0 := HB_0.out.size; exact ⟨⟨p, rfl, (RA_1.out.dk ((((Dk.refl _).set (cs := #[.bool false, .slice none 0 0, .int .i64 0]) Bo_0.out 0 (by intro _ hh; cases hh) (.bool p.b)).set (cs := #[.bool p.b, .slice none 0 0, .int .i64 0]) (Bo_0.out.set 0 (.bool p.b)) 1 (by intro _ hh; cases hh) (.slice p.A p.n p.c)).set (cs := #[.bool p.b, .slice p.A p.n p.c, .int .i64 0]) ((Bo_0.out.set 0 (.bool p.b)).set 1 (.slice p.A p.n p.c)) 2 (by intro _ hh; cases hh) (.int .i64 a.x)))⟩, (below_st (below_st (below_st HB_0.out 0 (by omega) (.bool p.b)) 1 (by omega) (.slice p.A p.n p.c)) 2 (by omega) (.int .i64 a.x))⟩
  · unfold D.round
    rw [if_neg hov]
    have HM := Lib.hid (fun z : Int => floor_nb z (nb a.z.natAbs - bits) bits)
    obtain ⟨k, hk⟩ : ∃ k, nb a.z.natAbs - bits = k := ⟨_, rfl⟩
    rw [hk] at HM
    rw [hk]
    have hk0 : 0 < k := by omega
    have hk1 : k ≤ 16000 := by have := y0.out; omega
    have HK := Lib.hid (show ((nb a.z.natAbs : Nat) : Int) = (bits : Int) + (k : Int) by omega)
    have HN := Lib.hid (show nb a.z.natAbs ≤ k + bits by omega)
    clear hov hk
    cases up
    · simp only [Bool.false_eq_true, if_false]
      have BX := Lib.hid (boxes2 w 53 #[.bool p.b, .slice p.A p.n p.c, .int .i64 a.x] 53 #[.bool false, .slice none 0 0, .int .i64 0])
      go_enter Tryd.func148, Tryd.ntmps148
      go_wp2_with fail
      generalize (w.alloc (.cells #[.bool p.b, .slice p.A p.n p.c, .int .i64 a.x] 53)).alloc (.cells #[.bool false, .slice none 0 0, .int .i64 0] 53) = w0 at *
      obtain ⟨b0, b1, hw⟩ := BX.out
      have Ba_0 := Lib.hid b0
      have Bo_0 := Lib.hid b1
      have HB_0 := Lib.hid hw
      have K := Dk.below (hw.mono (Nat.le_refl _))
      clear BX hw b0 b1
      have RA_1 := Lib.hid (HA.out.dk K)
      clear K HA
      have la := Ba_0.out.lt
      obtain ⟨ca0, ca1, ca2⟩ := Ba_0.out.cells3
      have lo := Bo_0.out.lt
      obtain ⟨co0, co1, co2⟩ := Bo_0.out.cells3
      go_wp2_with fail
      refine (bits_k _ p a.z RA_1.out.1 x0.out.1).mono ?_
      rintro e w' ⟨rfl, rfl⟩
      rw [HK.out]
      go_wp2_with fail
      rw [show ((bits : Int) + (k : Int) - (bits : Int)) = ((k : Nat) : Int) by omega]
      refine (wright_q _ p a.z k RA_1.out.1 x0.out.1 (by omega) (HT.out.below HB_0.out)).mono ?_
      rintro e w1 ⟨⟨r, rfl, hr⟩, hb⟩
      clear la ca0 ca1 ca2 lo co0 co1 co2
      have K := Dk.below hb
      have Ba_2 := Lib.hid (show Bk _ _ _ #[.bool p.b, .slice p.A p.n p.c, .int .i64 a.x] from Ba_0.out.below hb)
      have Bo_3 := Lib.hid (show Bk _ _ _ #[.bool false, .slice none 0 0, .int .i64 0] from Bo_0.out.below hb)
      have HB_4 := Lib.hid (below_tr HB_0.out hb)
      clear hb
      have RA_5 := Lib.hid (RA_1.out.dk K)
      clear K Ba_0 Bo_0 HB_0 RA_1
      have RX_6 := Lib.hid hr
      clear hr
      have la := Ba_2.out.lt
      obtain ⟨ca0, ca1, ca2⟩ := Ba_2.out.cells3
      have lo := Bo_3.out.lt
      obtain ⟨co0, co1, co2⟩ := Bo_3.out.cells3
      have n_7 := Ba_2.out.lt
      have n_8 := Bo_3.out.lt
      go_wp2_with fail
      try rw [show ((bits : Int) + (k : Int) - (bits : Int)) = ((k : Nat) : Int) by omega]
      refine (dmake_q _ r (a.z / 2 ^ k) (a.x + (k : Int)) (RX_6.out.dk ((Dk.refl _).alloc _)) (by have := HM.out a.z HN.out; omega) (by omega) (by omega) (HT.out.below (below_al HB_4.out _))).mono ?_
      rintro e w2 ⟨⟨v, rfl, hv⟩, hb⟩
      clear la ca0 ca1 ca2 lo co0 co1 co2
      have K := Dk.trans ((Dk.refl _).alloc _) (.below hb)
      have Ba_9 := Lib.hid (show Bk _ _ _ #[.bool p.b, .slice p.A p.n p.c, .int .i64 a.x] from (Ba_2.out.alloc _).below hb)
      have Bo_10 := Lib.hid (show Bk _ _ _ #[.bool false, .slice none 0 0, .int .i64 0] from (Bo_3.out.alloc _).below hb)
      have Bm_11 := Lib.hid (show Bk _ _ _ #[.bool r.b, .slice r.A r.n r.c] from (Bk.new _ 51 #[.bool r.b, .slice r.A r.n r.c]).below hb)
      have HB_12 := Lib.hid (below_tr (below_al HB_4.out _) hb)
      clear hb
      have RA_13 := Lib.hid (RA_5.out.dk K)
      have RX_14 := Lib.hid (RX_6.out.dk K)
      clear K Ba_2 Bo_3 HB_4 RA_5 RX_6
      have RV_15 := Lib.hid hv
      clear hv
      have la := Ba_9.out.lt
      obtain ⟨ca0, ca1, ca2⟩ := Ba_9.out.cells3
      have lo := Bo_10.out.lt
      obtain ⟨co0, co1, co2⟩ := Bo_10.out.cells3
      have fo0 := Bo_10.out.free 0
      have fo1 := Bo_10.out.free 1
      have fo2 := Bo_10.out.free 2
      have lm := Bm_11.out.lt
      obtain ⟨cm0, cm1⟩ := Bm_11.out.cells2
      go_wp2
      refine bodyPost_ret (v := .tuple #[.agg #[.bool v.b, .slice v.A v.n v.c, .int .i64 (D.mk' (a.z / 2 ^ k) (a.x + (k : Int))).x], .int .i64 0]) ?_ rfl ?_
      · simp [results, Tryd.f148, go_sem, co0, co1, co2]
      · have y0 := HB_12.out.size; exact ⟨⟨v, rfl, (RV_15.out.dk ((((Dk.refl _).set (cs := #[.bool false, .slice none 0 0, .int .i64 0]) Bo_10.out 0 (by intro _ hh; cases hh) (.bool v.b)).set (cs := #[.bool v.b, .slice none 0 0, .int .i64 0]) (Bo_10.out.set 0 (.bool v.b)) 1 (by intro _ hh; cases hh) (.slice v.A v.n v.c)).set (cs := #[.bool v.b, .slice v.A v.n v.c, .int .i64 0]) ((Bo_10.out.set 0 (.bool v.b)).set 1 (.slice v.A v.n v.c)) 2 (by intro _ hh; cases hh) (.int .i64 (D.mk' (a.z / 2 ^ k) (a.x + (k : Int))).x)))⟩, (below_st (below_st (below_st HB_12.out 0 (by omega) (.bool v.b)) 1 (by omega) (.slice v.A v.n v.c)) 2 (by omega) (.int .i64 (D.mk' (a.z / 2 ^ k) (a.x + (k : Int))).x))⟩
    · simp only [if_true]
      have BX := Lib.hid (boxes2 w 53 #[.bool p.b, .slice p.A p.n p.c, .int .i64 a.x] 53 #[.bool false, .slice none 0 0, .int .i64 0])
      go_enter Tryd.func148, Tryd.ntmps148
      go_wp2_with fail
      generalize (w.alloc (.cells #[.bool p.b, .slice p.A p.n p.c, .int .i64 a.x] 53)).alloc (.cells #[.bool false, .slice none 0 0, .int .i64 0] 53) = w0 at *
      obtain ⟨b0, b1, hw⟩ := BX.out
      have Ba_0 := Lib.hid b0
      have Bo_0 := Lib.hid b1
      have HB_0 := Lib.hid hw
      have K := Dk.below (hw.mono (Nat.le_refl _))
      clear BX hw b0 b1
      have RA_1 := Lib.hid (HA.out.dk K)
      clear K HA
      have la := Ba_0.out.lt
      obtain ⟨ca0, ca1, ca2⟩ := Ba_0.out.cells3
      have lo := Bo_0.out.lt
      obtain ⟨co0, co1, co2⟩ := Bo_0.out.cells3
      go_wp2_with fail
      refine (bits_k _ p a.z RA_1.out.1 x0.out.1).mono ?_
      rintro e w' ⟨rfl, rfl⟩
      rw [HK.out]
      go_wp2_with fail
      rw [show ((bits : Int) + (k : Int) - (bits : Int)) = ((k : Nat) : Int) by omega]
      refine (wright_q _ p a.z k RA_1.out.1 x0.out.1 (by omega) (HT.out.below HB_0.out)).mono ?_
      rintro e w1 ⟨⟨r, rfl, hr⟩, hb⟩
      clear la ca0 ca1 ca2 lo co0 co1 co2
      have K := Dk.below hb
      have Ba_2 := Lib.hid (show Bk _ _ _ #[.bool p.b, .slice p.A p.n p.c, .int .i64 a.x] from Ba_0.out.below hb)
      have Bo_3 := Lib.hid (show Bk _ _ _ #[.bool false, .slice none 0 0, .int .i64 0] from Bo_0.out.below hb)
      have HB_4 := Lib.hid (below_tr HB_0.out hb)
      clear hb
      have RA_5 := Lib.hid (RA_1.out.dk K)
      clear K Ba_0 Bo_0 HB_0 RA_1
      have RX_6 := Lib.hid hr
      clear hr
      have la := Ba_2.out.lt
      obtain ⟨ca0, ca1, ca2⟩ := Ba_2.out.cells3
      have lo := Bo_3.out.lt
      obtain ⟨co0, co1, co2⟩ := Bo_3.out.cells3
      have n_7 := Ba_2.out.lt
      have n_8 := Bo_3.out.lt
      go_wp2_with fail
      refine (wneg_q _ p a.z (RA_5.out.dk ((Dk.refl _).alloc _)).1 x0.out.1).mono ?_
      rintro e w2 ⟨⟨s, rfl, hs⟩, hb⟩
      clear la ca0 ca1 ca2 lo co0 co1 co2
      have K := Dk.trans ((Dk.refl _).alloc _) (.below hb)
      have Ba_9 := Lib.hid (show Bk _ _ _ #[.bool p.b, .slice p.A p.n p.c, .int .i64 a.x] from (Ba_2.out.alloc _).below hb)
      have Bo_10 := Lib.hid (show Bk _ _ _ #[.bool false, .slice none 0 0, .int .i64 0] from (Bo_3.out.alloc _).below hb)
      have Bm_11 := Lib.hid (show Bk _ _ _ #[.bool r.b, .slice r.A r.n r.c] from (Bk.new _ 51 #[.bool r.b, .slice r.A r.n r.c]).below hb)
      have HB_12 := Lib.hid (below_tr (below_al HB_4.out _) hb)
      clear hb
      have RA_13 := Lib.hid (RA_5.out.dk K)
      have RX_14 := Lib.hid (RX_6.out.dk K)
      clear K Ba_2 Bo_3 HB_4 RA_5 RX_6
      have RN_15 := Lib.hid hs
      clear hs
      have la := Ba_9.out.lt
      obtain ⟨ca0, ca1, ca2⟩ := Ba_9.out.cells3
      have lo := Bo_10.out.lt
      obtain ⟨co0, co1, co2⟩ := Bo_10.out.cells3
      have lm := Bm_11.out.lt
      obtain ⟨cm0, cm1⟩ := Bm_11.out.cells2
      have fm0 := Bm_11.out.free 0
      have fm1 := Bm_11.out.free 1
      go_wp2_with fail
      refine (wright_q _ s (-a.z) k RN_15.out (by rw [Int.natAbs_neg]; exact x0.out.1) (by omega) (HT.out.below HB_12.out)).mono ?_
      rintro e w3 ⟨⟨t, rfl, ht⟩, hb⟩
      clear la ca0 ca1 ca2 lo co0 co1 co2 lm cm0 cm1 fm0 fm1
      have K := Dk.below hb
      have Ba_16 := Lib.hid (show Bk _ _ _ #[.bool p.b, .slice p.A p.n p.c, .int .i64 a.x] from Ba_9.out.below hb)
      have Bo_17 := Lib.hid (show Bk _ _ _ #[.bool false, .slice none 0 0, .int .i64 0] from Bo_10.out.below hb)
      have Bm_18 := Lib.hid (show Bk _ _ _ #[.bool r.b, .slice r.A r.n r.c] from Bm_11.out.below hb)
      have HB_19 := Lib.hid (below_tr HB_12.out hb)
      clear hb
      have RA_20 := Lib.hid (RA_13.out.dk K)
      have RX_21 := Lib.hid (RX_14.out.dk K)
      have RN_22 := Lib.hid (RN_15.out.dk K)
      clear K Ba_9 Bo_10 Bm_11 HB_12 RA_13 RX_14 RN_15
      have RT_23 := Lib.hid ht
      clear ht
      have la := Ba_16.out.lt
      obtain ⟨ca0, ca1, ca2⟩ := Ba_16.out.cells3
      have lo := Bo_17.out.lt
      obtain ⟨co0, co1, co2⟩ := Bo_17.out.cells3
      have lm := Bm_18.out.lt
      obtain ⟨cm0, cm1⟩ := Bm_18.out.cells2
      have fm0 := Bm_18.out.free 0
      have fm1 := Bm_18.out.free 1
      have n_24 := Ba_16.out.lt
      have n_25 := Bo_17.out.lt
      have n_26 := Bm_18.out.lt
      go_wp2_with fail
      refine (wneg_q _ t (-a.z / 2 ^ k) (RT_23.out.dk ((Dk.refl _).alloc _)) (by have := HM.out (-a.z) (by rw [Int.natAbs_neg]; exact HN.out); omega)).mono ?_
      rintro e w4 ⟨⟨u, rfl, hu⟩, hb⟩
      clear la ca0 ca1 ca2 lo co0 co1 co2 lm cm0 cm1 fm0 fm1
      have K := Dk.trans ((Dk.refl _).alloc _) (.below hb)
      have Ba_27 := Lib.hid (show Bk _ _ _ #[.bool p.b, .slice p.A p.n p.c, .int .i64 a.x] from (Ba_16.out.alloc _).below hb)
      have Bo_28 := Lib.hid (show Bk _ _ _ #[.bool false, .slice none 0 0, .int .i64 0] from (Bo_17.out.alloc _).below hb)
      have Bm_29 := Lib.hid (show Bk _ _ _ #[.bool r.b, .slice r.A r.n r.c] from (Bm_18.out.alloc _).below hb)
      have Bn_30 := Lib.hid (show Bk _ _ _ #[.bool t.b, .slice t.A t.n t.c] from (Bk.new _ 51 #[.bool t.b, .slice t.A t.n t.c]).below hb)
      have HB_31 := Lib.hid (below_tr (below_al HB_19.out _) hb)
      clear hb
      have RA_32 := Lib.hid (RA_20.out.dk K)
      have RX_33 := Lib.hid (RX_21.out.dk K)
      have RN_34 := Lib.hid (RN_22.out.dk K)
      have RT_35 := Lib.hid (RT_23.out.dk K)
      clear K Ba_16 Bo_17 Bm_18 HB_19 RA_20 RX_21 RN_22 RT_23
      have RU_36 := Lib.hid hu
      clear hu
      have la := Ba_27.out.lt
      obtain ⟨ca0, ca1, ca2⟩ := Ba_27.out.cells3
      have lo := Bo_28.out.lt
      obtain ⟨co0, co1, co2⟩ := Bo_28.out.cells3
      have lm := Bm_29.out.lt
      obtain ⟨cm0, cm1⟩ := Bm_29.out.cells2
      have fm0 := Bm_29.out.free 0
      have fm1 := Bm_29.out.free 1
      have ln := Bn_30.out.lt
      obtain ⟨cn0, cn1⟩ := Bn_30.out.cells2
      go_wp2_with fail
      try rw [show ((bits : Int) + (k : Int) - (bits : Int)) = ((k : Nat) : Int) by omega]
      refine (dmake_q _ u (-(-a.z / 2 ^ k)) (a.x + (k : Int)) (RU_36.out.dk (((Dk.refl _).set (cs := #[.bool r.b, .slice r.A r.n r.c]) Bm_29.out 0 (by intro _ hh; cases hh) (.bool u.b)).set (cs := #[.bool u.b, .slice r.A r.n r.c]) (Bm_29.out.set 0 (.bool u.b)) 1 (by intro _ hh; cases hh) (.slice u.A u.n u.c))) (by have := HM.out (-a.z) (by rw [Int.natAbs_neg]; exact HN.out); rw [Int.natAbs_neg]; omega) (by omega) (by omega) (HT.out.below (below_st (below_st HB_31.out 0 (by have := HB_31.out.size; omega) (.bool u.b)) 1 (by have := HB_31.out.size; omega) (.slice u.A u.n u.c)))).mono ?_
      rintro e w5 ⟨⟨v, rfl, hv⟩, hb⟩
      clear la ca0 ca1 ca2 lo co0 co1 co2 lm cm0 cm1 fm0 fm1 ln cn0 cn1
      have K := Dk.trans (((Dk.refl _).set (cs := #[.bool r.b, .slice r.A r.n r.c]) Bm_29.out 0 (by intro _ hh; cases hh) (.bool u.b)).set (cs := #[.bool u.b, .slice r.A r.n r.c]) (Bm_29.out.set 0 (.bool u.b)) 1 (by intro _ hh; cases hh) (.slice u.A u.n u.c)) (.below hb)
      have y0 := Ba_27.out.lt; have y1 := Bo_28.out.lt; have y2 := Bm_29.out.lt; have y3 := Bn_30.out.lt; have y4 := HB_31.out.size; have Ba_37 := Lib.hid (show Bk _ _ _ #[.bool p.b, .slice p.A p.n p.c, .int .i64 a.x] from ((Ba_27.out.ne (by omega) 0 (.bool u.b)).ne (by omega) 1 (.slice u.A u.n u.c)).below hb); clear y0 y1 y2 y3 y4
      have y0 := Ba_27.out.lt; have y1 := Bo_28.out.lt; have y2 := Bm_29.out.lt; have y3 := Bn_30.out.lt; have y4 := HB_31.out.size; have Bo_38 := Lib.hid (show Bk _ _ _ #[.bool false, .slice none 0 0, .int .i64 0] from ((Bo_28.out.ne (by omega) 0 (.bool u.b)).ne (by omega) 1 (.slice u.A u.n u.c)).below hb); clear y0 y1 y2 y3 y4
      have Bm_39 := Lib.hid (show Bk _ _ _ #[.bool u.b, .slice u.A u.n u.c] from ((Bm_29.out.set 0 (.bool u.b)).set 1 (.slice u.A u.n u.c)).below hb)
      have y0 := Ba_27.out.lt; have y1 := Bo_28.out.lt; have y2 := Bm_29.out.lt; have y3 := Bn_30.out.lt; have y4 := HB_31.out.size; have Bn_40 := Lib.hid (show Bk _ _ _ #[.bool t.b, .slice t.A t.n t.c] from ((Bn_30.out.ne (by omega) 0 (.bool u.b)).ne (by omega) 1 (.slice u.A u.n u.c)).below hb); clear y0 y1 y2 y3 y4
      have y0 := HB_31.out.size; have HB_41 := Lib.hid (below_tr (below_st (below_st HB_31.out 0 (by omega) (.bool u.b)) 1 (by omega) (.slice u.A u.n u.c)) hb); clear y0
      clear hb
      have RA_42 := Lib.hid (RA_32.out.dk K)
      have RX_43 := Lib.hid (RX_33.out.dk K)
      have RN_44 := Lib.hid (RN_34.out.dk K)
      have RT_45 := Lib.hid (RT_35.out.dk K)
      have RU_46 := Lib.hid (RU_36.out.dk K)
      clear K Ba_27 Bo_28 Bm_29 Bn_30 HB_31 RA_32 RX_33 RN_34 RT_35 RU_36
      have RV_47 := Lib.hid hv
      clear hv
      have la := Ba_37.out.lt
      obtain ⟨ca0, ca1, ca2⟩ := Ba_37.out.cells3
      have lo := Bo_38.out.lt
      obtain ⟨co0, co1, co2⟩ := Bo_38.out.cells3
      have fo0 := Bo_38.out.free 0
      have fo1 := Bo_38.out.free 1
      have fo2 := Bo_38.out.free 2
      have lm := Bm_39.out.lt
      obtain ⟨cm0, cm1⟩ := Bm_39.out.cells2
      have ln := Bn_40.out.lt
      obtain ⟨cn0, cn1⟩ := Bn_40.out.cells2
      go_wp2
      refine bodyPost_ret (v := .tuple #[.agg #[.bool v.b, .slice v.A v.n v.c, .int .i64 (D.mk' (-(-a.z / 2 ^ k)) (a.x + (k : Int))).x], .int .i64 0]) ?_ rfl ?_
      · simp [results, Tryd.f148, go_sem, co0, co1, co2]
      · have y0 := HB_41.out.size; exact ⟨⟨v, rfl, (RV_47.out.dk ((((Dk.refl _).set (cs := #[.bool false, .slice none 0 0, .int .i64 0]) Bo_38.out 0 (by intro _ hh; cases hh) (.bool v.b)).set (cs := #[.bool v.b, .slice none 0 0, .int .i64 0]) (Bo_38.out.set 0 (.bool v.b)) 1 (by intro _ hh; cases hh) (.slice v.A v.n v.c)).set (cs := #[.bool v.b, .slice v.A v.n v.c, .int .i64 0]) ((Bo_38.out.set 0 (.bool v.b)).set 1 (.slice v.A v.n v.c)) 2 (by intro _ hh; cases hh) (.int .i64 (D.mk' (-(-a.z / 2 ^ k)) (a.x + (k : Int))).x)))⟩, (below_st (below_st (below_st HB_41.out 0 (by omega) (.bool v.b)) 1 (by omega) (.slice v.A v.n v.c)) 2 (by omega) (.int .i64 (D.mk' (-(-a.z / 2 ^ k)) (a.x + (k : Int))).x))⟩

end Go.Proofs.YtgioppkggpfnoaaDoor.Nu
end

section
/- The walk of dyad.Of. -/
set_option linter.unusedVariables false
namespace Go.Proofs.YtgioppkggpfnoaaDoor.Nu
open Go.RowKit Go.Proofs

set_option maxRecDepth 100000 in
set_option maxHeartbeats 4000000 in
theorem dOf_any (w : World) (n x : Int) (hn0 : -9223372036854775808 ≤ n) (hn1 : n ≤ 9223372036854775807) (hx0 : -100 ≤ x) (hx1 : x ≤ 100) (ht : BTab w) :
    Calls Tryd.prog 33 #[.int .i64 n, .int .i64 x] w fun e w' => (∃ r : Q, e = .returned (.agg #[.bool r.b, .slice r.A r.n r.c, .int .i64 (D.mk' n x).x]) ∧ RD w' r (D.mk' n x)) ∧ Below w.heap.size w w' := by
  have HT := Lib.hid ht
  clear ht
  have BX := Lib.hid (boxes1 w 53 #[.bool false, .slice none 0 0, .int .i64 0])
  go_enter Tryd.func33, Tryd.ntmps33
  go_wp2_with fail
  generalize w.alloc (.cells #[.bool false, .slice none 0 0, .int .i64 0] 53) = w0 at *
  obtain ⟨b0, hw⟩ := BX.out
  have Bo_0 := Lib.hid b0
  have HB_0 := Lib.hid hw
  have K := Dk.below (hw.mono (Nat.le_refl _))
  clear BX hw b0
  clear K
  have lo := Bo_0.out.lt
  obtain ⟨co0, co1, co2⟩ := Bo_0.out.cells3
  go_wp2_with fail
  refine (wOf_q _ n (by omega) (by omega)).mono ?_
  rintro e w1 ⟨⟨r, rfl, hr⟩, hb⟩
  clear lo co0 co1 co2
  have K := Dk.below hb
  have Bo_1 := Lib.hid (show Bk _ _ _ #[.bool false, .slice none 0 0, .int .i64 0] from Bo_0.out.below hb)
  have HB_2 := Lib.hid (below_tr HB_0.out hb)
  clear hb
  clear K Bo_0 HB_0
  have RN_3 := Lib.hid hr
  clear hr
  have lo := Bo_1.out.lt
  obtain ⟨co0, co1, co2⟩ := Bo_1.out.cells3
  go_wp2_with fail
  try rw [show min (max x (-100)) 100 = x by omega]
  refine (dmake_q _ r n x RN_3.out (Nat.le_trans (nb_le.2 (show n.natAbs < 2 ^ 64 by omega)) (by omega)) (by omega) (by omega) (HT.out.below HB_2.out)).mono ?_
  rintro e w2 ⟨⟨u, rfl, hu⟩, hb⟩
  clear lo co0 co1 co2
  have K := Dk.below hb
  have Bo_4 := Lib.hid (show Bk _ _ _ #[.bool false, .slice none 0 0, .int .i64 0] from Bo_1.out.below hb)
  have HB_5 := Lib.hid (below_tr HB_2.out hb)
  clear hb
  have RN_6 := Lib.hid (RN_3.out.dk K)
  clear K Bo_1 HB_2 RN_3
  have RU_7 := Lib.hid hu
  clear hu
  have lo := Bo_4.out.lt
  obtain ⟨co0, co1, co2⟩ := Bo_4.out.cells3
  have fo0 := Bo_4.out.free 0
  have fo1 := Bo_4.out.free 1
  have fo2 := Bo_4.out.free 2
  have n_8 := Bo_4.out.lt
  go_wp2
  refine bodyPost_ret (v := .agg #[.bool u.b, .slice u.A u.n u.c, .int .i64 (D.mk' n x).x]) ?_ rfl ?_
  · simp [results, Tryd.f33, go_sem, co0, co1, co2, lo]
  · have y0 := HB_5.out.size; exact ⟨⟨u, rfl, (RU_7.out.dk (((((Dk.refl _).set (cs := #[.bool false, .slice none 0 0, .int .i64 0]) Bo_4.out 0 (by intro _ hh; cases hh) (.bool u.b)).set (cs := #[.bool u.b, .slice none 0 0, .int .i64 0]) (Bo_4.out.set 0 (.bool u.b)) 1 (by intro _ hh; cases hh) (.slice u.A u.n u.c)).set (cs := #[.bool u.b, .slice u.A u.n u.c, .int .i64 0]) ((Bo_4.out.set 0 (.bool u.b)).set 1 (.slice u.A u.n u.c)) 2 (by intro _ hh; cases hh) (.int .i64 (D.mk' n x).x)).alloc _))⟩, (below_al (below_st (below_st (below_st HB_5.out 0 (by omega) (.bool u.b)) 1 (by omega) (.slice u.A u.n u.c)) 2 (by omega) (.int .i64 (D.mk' n x).x)) _)⟩

end Go.Proofs.YtgioppkggpfnoaaDoor.Nu
end

section
/- The walks of dyad.Max, Min. -/
set_option linter.unusedVariables false
namespace Go.Proofs.YtgioppkggpfnoaaDoor.Nu
open Go.RowKit Go.Proofs

set_option maxRecDepth 100000 in
set_option maxHeartbeats 4000000 in
theorem dmax_any (w : World) (p q : Q) (a b : D) (E T : Nat) (h : RD w p a) (h2 : RD w q b) (la : a.Lim E T) (lb : b.Lim E T) (hET : E + T ≤ 16000) :
    Calls Tryd.prog 87 #[.agg #[.bool p.b, .slice p.A p.n p.c, .int .i64 a.x], .agg #[.bool q.b, .slice q.A q.n q.c, .int .i64 b.x]] w fun e w' => (∃ r : Q, e = .returned (.agg #[.bool r.b, .slice r.A r.n r.c, .int .i64 (a.mx b).x]) ∧ RD w' r (a.mx b)) ∧ Below w.heap.size w w' := by
  have HA := Lib.hid h
  have HB := Lib.hid h2
  have LA := Lib.hid la
  have LB := Lib.hid lb
  clear h h2 la lb
  by_cases hl : a.cmp b < 0
  · rw [show a.mx b = b from if_pos hl]
    have hd : decide (a.cmp b < 0) = true := decide_eq_true hl
    have HD := Lib.hid hd
    clear hd hl
    have BX := Lib.hid (boxes3 w 53 #[.bool p.b, .slice p.A p.n p.c, .int .i64 a.x] 53 #[.bool q.b, .slice q.A q.n q.c, .int .i64 b.x] 53 #[.bool false, .slice none 0 0, .int .i64 0])
    go_enter Tryd.func87, Tryd.ntmps87
    go_wp2_with fail
    generalize ((w.alloc (.cells #[.bool p.b, .slice p.A p.n p.c, .int .i64 a.x] 53)).alloc (.cells #[.bool q.b, .slice q.A q.n q.c, .int .i64 b.x] 53)).alloc (.cells #[.bool false, .slice none 0 0, .int .i64 0] 53) = w0 at *
    obtain ⟨b0, b1, b2, hw⟩ := BX.out
    have Ba_0 := Lib.hid b0
    have Bb_0 := Lib.hid b1
    have Bo_0 := Lib.hid b2
    have HB_0 := Lib.hid hw
    have K := Dk.below (hw.mono (Nat.le_refl _))
    clear BX hw b0 b1 b2
    have RA_1 := Lib.hid (HA.out.dk K)
    have RB_2 := Lib.hid (HB.out.dk K)
    clear K HA HB
    have la := Ba_0.out.lt
    obtain ⟨ca0, ca1, ca2⟩ := Ba_0.out.cells3
    have lb := Bb_0.out.lt
    obtain ⟨cb0, cb1, cb2⟩ := Bb_0.out.cells3
    have lo := Bo_0.out.lt
    obtain ⟨co0, co1, co2⟩ := Bo_0.out.cells3
    go_wp2_with fail
    refine (dless_any _ p q a b E T RA_1.out RB_2.out LA.out LB.out hET).mono ?_
    rintro e w1 ⟨rfl, hb⟩
    clear la ca0 ca1 ca2 lb cb0 cb1 cb2 lo co0 co1 co2
    have K := Dk.below hb
    have Ba_3 := Lib.hid (show Bk _ _ _ #[.bool p.b, .slice p.A p.n p.c, .int .i64 a.x] from Ba_0.out.below hb)
    have Bb_4 := Lib.hid (show Bk _ _ _ #[.bool q.b, .slice q.A q.n q.c, .int .i64 b.x] from Bb_0.out.below hb)
    have Bo_5 := Lib.hid (show Bk _ _ _ #[.bool false, .slice none 0 0, .int .i64 0] from Bo_0.out.below hb)
    have HB_6 := Lib.hid (below_tr HB_0.out hb)
    clear hb
    have RA_7 := Lib.hid (RA_1.out.dk K)
    have RB_8 := Lib.hid (RB_2.out.dk K)
    clear K Ba_0 Bb_0 Bo_0 HB_0 RA_1 RB_2
    rw [HD.out]
    have la := Ba_3.out.lt
    obtain ⟨ca0, ca1, ca2⟩ := Ba_3.out.cells3
    have fa0 := Ba_3.out.free 0
    have fa1 := Ba_3.out.free 1
    have fa2 := Ba_3.out.free 2
    have lb := Bb_4.out.lt
    obtain ⟨cb0, cb1, cb2⟩ := Bb_4.out.cells3
    have lo := Bo_5.out.lt
    obtain ⟨co0, co1, co2⟩ := Bo_5.out.cells3
    have fo0 := Bo_5.out.free 0
    have fo1 := Bo_5.out.free 1
    have fo2 := Bo_5.out.free 2
    go_wp2_with fail
    refine (down_any _ q b (RB_8.out.dk ((((Dk.refl _).set (cs := #[.bool p.b, .slice p.A p.n p.c, .int .i64 a.x]) Ba_3.out 0 (by intro _ hh; cases hh) (.bool q.b)).set (cs := #[.bool q.b, .slice p.A p.n p.c, .int .i64 a.x]) (Ba_3.out.set 0 (.bool q.b)) 1 (by intro _ hh; cases hh) (.slice q.A q.n q.c)).set (cs := #[.bool q.b, .slice q.A q.n q.c, .int .i64 a.x]) ((Ba_3.out.set 0 (.bool q.b)).set 1 (.slice q.A q.n q.c)) 2 (by intro _ hh; cases hh) (.int .i64 b.x))) ((RB_8.out.dk ((((Dk.refl _).set (cs := #[.bool p.b, .slice p.A p.n p.c, .int .i64 a.x]) Ba_3.out 0 (by intro _ hh; cases hh) (.bool q.b)).set (cs := #[.bool q.b, .slice p.A p.n p.c, .int .i64 a.x]) (Ba_3.out.set 0 (.bool q.b)) 1 (by intro _ hh; cases hh) (.slice q.A q.n q.c)).set (cs := #[.bool q.b, .slice q.A q.n q.c, .int .i64 a.x]) ((Ba_3.out.set 0 (.bool q.b)).set 1 (.slice q.A q.n q.c)) 2 (by intro _ hh; cases hh) (.int .i64 b.x))).1.len (k := 512) (by have := LB.out.nb; omega))).mono ?_
    rintro e w2 ⟨⟨s, rfl, hs⟩, hb⟩
    clear la ca0 ca1 ca2 fa0 fa1 fa2 lb cb0 cb1 cb2 lo co0 co1 co2 fo0 fo1 fo2
    have K := Dk.trans ((((Dk.refl _).set (cs := #[.bool p.b, .slice p.A p.n p.c, .int .i64 a.x]) Ba_3.out 0 (by intro _ hh; cases hh) (.bool q.b)).set (cs := #[.bool q.b, .slice p.A p.n p.c, .int .i64 a.x]) (Ba_3.out.set 0 (.bool q.b)) 1 (by intro _ hh; cases hh) (.slice q.A q.n q.c)).set (cs := #[.bool q.b, .slice q.A q.n q.c, .int .i64 a.x]) ((Ba_3.out.set 0 (.bool q.b)).set 1 (.slice q.A q.n q.c)) 2 (by intro _ hh; cases hh) (.int .i64 b.x)) (.below hb)
    have Ba_9 := Lib.hid (show Bk _ _ _ #[.bool q.b, .slice q.A q.n q.c, .int .i64 b.x] from (((Ba_3.out.set 0 (.bool q.b)).set 1 (.slice q.A q.n q.c)).set 2 (.int .i64 b.x)).below hb)
    have y0 := Ba_3.out.lt; have y1 := Bb_4.out.lt; have y2 := Bo_5.out.lt; have y3 := HB_6.out.size; have Bb_10 := Lib.hid (show Bk _ _ _ #[.bool q.b, .slice q.A q.n q.c, .int .i64 b.x] from (((Bb_4.out.ne (by omega) 0 (.bool q.b)).ne (by omega) 1 (.slice q.A q.n q.c)).ne (by omega) 2 (.int .i64 b.x)).below hb); clear y0 y1 y2 y3
    have y0 := Ba_3.out.lt; have y1 := Bb_4.out.lt; have y2 := Bo_5.out.lt; have y3 := HB_6.out.size; have Bo_11 := Lib.hid (show Bk _ _ _ #[.bool false, .slice none 0 0, .int .i64 0] from (((Bo_5.out.ne (by omega) 0 (.bool q.b)).ne (by omega) 1 (.slice q.A q.n q.c)).ne (by omega) 2 (.int .i64 b.x)).below hb); clear y0 y1 y2 y3
    have y0 := HB_6.out.size; have HB_12 := Lib.hid (below_tr (below_st (below_st (below_st HB_6.out 0 (by omega) (.bool q.b)) 1 (by omega) (.slice q.A q.n q.c)) 2 (by omega) (.int .i64 b.x)) hb); clear y0
    clear hb
    have RA_13 := Lib.hid (RA_7.out.dk K)
    have RB_14 := Lib.hid (RB_8.out.dk K)
    clear K Ba_3 Bb_4 Bo_5 HB_6 RA_7 RB_8
    have RX_15 := Lib.hid hs
    clear hs
    have la := Ba_9.out.lt
    obtain ⟨ca0, ca1, ca2⟩ := Ba_9.out.cells3
    have lb := Bb_10.out.lt
    obtain ⟨cb0, cb1, cb2⟩ := Bb_10.out.cells3
    have lo := Bo_11.out.lt
    obtain ⟨co0, co1, co2⟩ := Bo_11.out.cells3
    have fo0 := Bo_11.out.free 0
    have fo1 := Bo_11.out.free 1
    have fo2 := Bo_11.out.free 2
    go_wp2
    refine bodyPost_ret (v := .agg #[.bool s.b, .slice s.A s.n s.c, .int .i64 b.x]) ?_ rfl ?_
    · simp [results, Tryd.f87, go_sem, co0, co1, co2]
    · have y0 := HB_12.out.size; exact ⟨⟨s, rfl, (RX_15.out.dk ((((Dk.refl _).set (cs := #[.bool false, .slice none 0 0, .int .i64 0]) Bo_11.out 0 (by intro _ hh; cases hh) (.bool s.b)).set (cs := #[.bool s.b, .slice none 0 0, .int .i64 0]) (Bo_11.out.set 0 (.bool s.b)) 1 (by intro _ hh; cases hh) (.slice s.A s.n s.c)).set (cs := #[.bool s.b, .slice s.A s.n s.c, .int .i64 0]) ((Bo_11.out.set 0 (.bool s.b)).set 1 (.slice s.A s.n s.c)) 2 (by intro _ hh; cases hh) (.int .i64 b.x)))⟩, (below_st (below_st (below_st HB_12.out 0 (by omega) (.bool s.b)) 1 (by omega) (.slice s.A s.n s.c)) 2 (by omega) (.int .i64 b.x))⟩
  · rw [show a.mx b = a from if_neg hl]
    have hd : decide (a.cmp b < 0) = false := decide_eq_false hl
    have HD := Lib.hid hd
    clear hd hl
    have BX := Lib.hid (boxes3 w 53 #[.bool p.b, .slice p.A p.n p.c, .int .i64 a.x] 53 #[.bool q.b, .slice q.A q.n q.c, .int .i64 b.x] 53 #[.bool false, .slice none 0 0, .int .i64 0])
    go_enter Tryd.func87, Tryd.ntmps87
    go_wp2_with fail
    generalize ((w.alloc (.cells #[.bool p.b, .slice p.A p.n p.c, .int .i64 a.x] 53)).alloc (.cells #[.bool q.b, .slice q.A q.n q.c, .int .i64 b.x] 53)).alloc (.cells #[.bool false, .slice none 0 0, .int .i64 0] 53) = w0 at *
    obtain ⟨b0, b1, b2, hw⟩ := BX.out
    have Ba_0 := Lib.hid b0
    have Bb_0 := Lib.hid b1
    have Bo_0 := Lib.hid b2
    have HB_0 := Lib.hid hw
    have K := Dk.below (hw.mono (Nat.le_refl _))
    clear BX hw b0 b1 b2
    have RA_1 := Lib.hid (HA.out.dk K)
    have RB_2 := Lib.hid (HB.out.dk K)
    clear K HA HB
    have la := Ba_0.out.lt
    obtain ⟨ca0, ca1, ca2⟩ := Ba_0.out.cells3
    have lb := Bb_0.out.lt
    obtain ⟨cb0, cb1, cb2⟩ := Bb_0.out.cells3
    have lo := Bo_0.out.lt
    obtain ⟨co0, co1, co2⟩ := Bo_0.out.cells3
    go_wp2_with fail
    refine (dless_any _ p q a b E T RA_1.out RB_2.out LA.out LB.out hET).mono ?_
    rintro e w1 ⟨rfl, hb⟩
    clear la ca0 ca1 ca2 lb cb0 cb1 cb2 lo co0 co1 co2
    have K := Dk.below hb
    have Ba_3 := Lib.hid (show Bk _ _ _ #[.bool p.b, .slice p.A p.n p.c, .int .i64 a.x] from Ba_0.out.below hb)
    have Bb_4 := Lib.hid (show Bk _ _ _ #[.bool q.b, .slice q.A q.n q.c, .int .i64 b.x] from Bb_0.out.below hb)
    have Bo_5 := Lib.hid (show Bk _ _ _ #[.bool false, .slice none 0 0, .int .i64 0] from Bo_0.out.below hb)
    have HB_6 := Lib.hid (below_tr HB_0.out hb)
    clear hb
    have RA_7 := Lib.hid (RA_1.out.dk K)
    have RB_8 := Lib.hid (RB_2.out.dk K)
    clear K Ba_0 Bb_0 Bo_0 HB_0 RA_1 RB_2
    rw [HD.out]
    have la := Ba_3.out.lt
    obtain ⟨ca0, ca1, ca2⟩ := Ba_3.out.cells3
    have fa0 := Ba_3.out.free 0
    have fa1 := Ba_3.out.free 1
    have fa2 := Ba_3.out.free 2
    have lb := Bb_4.out.lt
    obtain ⟨cb0, cb1, cb2⟩ := Bb_4.out.cells3
    have lo := Bo_5.out.lt
    obtain ⟨co0, co1, co2⟩ := Bo_5.out.cells3
    have fo0 := Bo_5.out.free 0
    have fo1 := Bo_5.out.free 1
    have fo2 := Bo_5.out.free 2
    go_wp2_with fail
    refine (down_any _ p a RA_7.out (RA_7.out.1.len (k := 512) (by have := LA.out.nb; omega))).mono ?_
    rintro e w2 ⟨⟨s, rfl, hs⟩, hb⟩
    clear la ca0 ca1 ca2 fa0 fa1 fa2 lb cb0 cb1 cb2 lo co0 co1 co2 fo0 fo1 fo2
    have K := Dk.below hb
    have Ba_9 := Lib.hid (show Bk _ _ _ #[.bool p.b, .slice p.A p.n p.c, .int .i64 a.x] from Ba_3.out.below hb)
    have Bb_10 := Lib.hid (show Bk _ _ _ #[.bool q.b, .slice q.A q.n q.c, .int .i64 b.x] from Bb_4.out.below hb)
    have Bo_11 := Lib.hid (show Bk _ _ _ #[.bool false, .slice none 0 0, .int .i64 0] from Bo_5.out.below hb)
    have HB_12 := Lib.hid (below_tr HB_6.out hb)
    clear hb
    have RA_13 := Lib.hid (RA_7.out.dk K)
    have RB_14 := Lib.hid (RB_8.out.dk K)
    clear K Ba_3 Bb_4 Bo_5 HB_6 RA_7 RB_8
    have RX_15 := Lib.hid hs
    clear hs
    have la := Ba_9.out.lt
    obtain ⟨ca0, ca1, ca2⟩ := Ba_9.out.cells3
    have lb := Bb_10.out.lt
    obtain ⟨cb0, cb1, cb2⟩ := Bb_10.out.cells3
    have lo := Bo_11.out.lt
    obtain ⟨co0, co1, co2⟩ := Bo_11.out.cells3
    have fo0 := Bo_11.out.free 0
    have fo1 := Bo_11.out.free 1
    have fo2 := Bo_11.out.free 2
    go_wp2
    refine bodyPost_ret (v := .agg #[.bool s.b, .slice s.A s.n s.c, .int .i64 a.x]) ?_ rfl ?_
    · simp [results, Tryd.f87, go_sem, co0, co1, co2]
    · have y0 := HB_12.out.size; exact ⟨⟨s, rfl, (RX_15.out.dk ((((Dk.refl _).set (cs := #[.bool false, .slice none 0 0, .int .i64 0]) Bo_11.out 0 (by intro _ hh; cases hh) (.bool s.b)).set (cs := #[.bool s.b, .slice none 0 0, .int .i64 0]) (Bo_11.out.set 0 (.bool s.b)) 1 (by intro _ hh; cases hh) (.slice s.A s.n s.c)).set (cs := #[.bool s.b, .slice s.A s.n s.c, .int .i64 0]) ((Bo_11.out.set 0 (.bool s.b)).set 1 (.slice s.A s.n s.c)) 2 (by intro _ hh; cases hh) (.int .i64 a.x)))⟩, (below_st (below_st (below_st HB_12.out 0 (by omega) (.bool s.b)) 1 (by omega) (.slice s.A s.n s.c)) 2 (by omega) (.int .i64 a.x))⟩

set_option maxRecDepth 100000 in
set_option maxHeartbeats 4000000 in
theorem dmin_any (w : World) (p q : Q) (a b : D) (E T : Nat) (h : RD w p a) (h2 : RD w q b) (la : a.Lim E T) (lb : b.Lim E T) (hET : E + T ≤ 16000) :
    Calls Tryd.prog 97 #[.agg #[.bool p.b, .slice p.A p.n p.c, .int .i64 a.x], .agg #[.bool q.b, .slice q.A q.n q.c, .int .i64 b.x]] w fun e w' => (∃ r : Q, e = .returned (.agg #[.bool r.b, .slice r.A r.n r.c, .int .i64 (a.mn b).x]) ∧ RD w' r (a.mn b)) ∧ Below w.heap.size w w' := by
  have HA := Lib.hid h
  have HB := Lib.hid h2
  have LA := Lib.hid la
  have LB := Lib.hid lb
  clear h h2 la lb
  by_cases hl : b.cmp a < 0
  · rw [show a.mn b = b from if_pos hl]
    have hd : decide (b.cmp a < 0) = true := decide_eq_true hl
    have HD := Lib.hid hd
    clear hd hl
    have BX := Lib.hid (boxes3 w 53 #[.bool p.b, .slice p.A p.n p.c, .int .i64 a.x] 53 #[.bool q.b, .slice q.A q.n q.c, .int .i64 b.x] 53 #[.bool false, .slice none 0 0, .int .i64 0])
    go_enter Tryd.func97, Tryd.ntmps97
    go_wp2_with fail
    generalize ((w.alloc (.cells #[.bool p.b, .slice p.A p.n p.c, .int .i64 a.x] 53)).alloc (.cells #[.bool q.b, .slice q.A q.n q.c, .int .i64 b.x] 53)).alloc (.cells #[.bool false, .slice none 0 0, .int .i64 0] 53) = w0 at *
    obtain ⟨b0, b1, b2, hw⟩ := BX.out
    have Ba_0 := Lib.hid b0
    have Bb_0 := Lib.hid b1
    have Bo_0 := Lib.hid b2
    have HB_0 := Lib.hid hw
    have K := Dk.below (hw.mono (Nat.le_refl _))
    clear BX hw b0 b1 b2
    have RA_1 := Lib.hid (HA.out.dk K)
    have RB_2 := Lib.hid (HB.out.dk K)
    clear K HA HB
    have la := Ba_0.out.lt
    obtain ⟨ca0, ca1, ca2⟩ := Ba_0.out.cells3
    have lb := Bb_0.out.lt
    obtain ⟨cb0, cb1, cb2⟩ := Bb_0.out.cells3
    have lo := Bo_0.out.lt
    obtain ⟨co0, co1, co2⟩ := Bo_0.out.cells3
    go_wp2_with fail
    refine (dless_any _ q p b a E T RB_2.out RA_1.out LB.out LA.out hET).mono ?_
    rintro e w1 ⟨rfl, hb⟩
    clear la ca0 ca1 ca2 lb cb0 cb1 cb2 lo co0 co1 co2
    have K := Dk.below hb
    have Ba_3 := Lib.hid (show Bk _ _ _ #[.bool p.b, .slice p.A p.n p.c, .int .i64 a.x] from Ba_0.out.below hb)
    have Bb_4 := Lib.hid (show Bk _ _ _ #[.bool q.b, .slice q.A q.n q.c, .int .i64 b.x] from Bb_0.out.below hb)
    have Bo_5 := Lib.hid (show Bk _ _ _ #[.bool false, .slice none 0 0, .int .i64 0] from Bo_0.out.below hb)
    have HB_6 := Lib.hid (below_tr HB_0.out hb)
    clear hb
    have RA_7 := Lib.hid (RA_1.out.dk K)
    have RB_8 := Lib.hid (RB_2.out.dk K)
    clear K Ba_0 Bb_0 Bo_0 HB_0 RA_1 RB_2
    rw [HD.out]
    have la := Ba_3.out.lt
    obtain ⟨ca0, ca1, ca2⟩ := Ba_3.out.cells3
    have fa0 := Ba_3.out.free 0
    have fa1 := Ba_3.out.free 1
    have fa2 := Ba_3.out.free 2
    have lb := Bb_4.out.lt
    obtain ⟨cb0, cb1, cb2⟩ := Bb_4.out.cells3
    have lo := Bo_5.out.lt
    obtain ⟨co0, co1, co2⟩ := Bo_5.out.cells3
    have fo0 := Bo_5.out.free 0
    have fo1 := Bo_5.out.free 1
    have fo2 := Bo_5.out.free 2
    go_wp2_with fail
    refine (down_any _ q b (RB_8.out.dk ((((Dk.refl _).set (cs := #[.bool p.b, .slice p.A p.n p.c, .int .i64 a.x]) Ba_3.out 0 (by intro _ hh; cases hh) (.bool q.b)).set (cs := #[.bool q.b, .slice p.A p.n p.c, .int .i64 a.x]) (Ba_3.out.set 0 (.bool q.b)) 1 (by intro _ hh; cases hh) (.slice q.A q.n q.c)).set (cs := #[.bool q.b, .slice q.A q.n q.c, .int .i64 a.x]) ((Ba_3.out.set 0 (.bool q.b)).set 1 (.slice q.A q.n q.c)) 2 (by intro _ hh; cases hh) (.int .i64 b.x))) ((RB_8.out.dk ((((Dk.refl _).set (cs := #[.bool p.b, .slice p.A p.n p.c, .int .i64 a.x]) Ba_3.out 0 (by intro _ hh; cases hh) (.bool q.b)).set (cs := #[.bool q.b, .slice p.A p.n p.c, .int .i64 a.x]) (Ba_3.out.set 0 (.bool q.b)) 1 (by intro _ hh; cases hh) (.slice q.A q.n q.c)).set (cs := #[.bool q.b, .slice q.A q.n q.c, .int .i64 a.x]) ((Ba_3.out.set 0 (.bool q.b)).set 1 (.slice q.A q.n q.c)) 2 (by intro _ hh; cases hh) (.int .i64 b.x))).1.len (k := 512) (by have := LB.out.nb; omega))).mono ?_
    rintro e w2 ⟨⟨s, rfl, hs⟩, hb⟩
    clear la ca0 ca1 ca2 fa0 fa1 fa2 lb cb0 cb1 cb2 lo co0 co1 co2 fo0 fo1 fo2
    have K := Dk.trans ((((Dk.refl _).set (cs := #[.bool p.b, .slice p.A p.n p.c, .int .i64 a.x]) Ba_3.out 0 (by intro _ hh; cases hh) (.bool q.b)).set (cs := #[.bool q.b, .slice p.A p.n p.c, .int .i64 a.x]) (Ba_3.out.set 0 (.bool q.b)) 1 (by intro _ hh; cases hh) (.slice q.A q.n q.c)).set (cs := #[.bool q.b, .slice q.A q.n q.c, .int .i64 a.x]) ((Ba_3.out.set 0 (.bool q.b)).set 1 (.slice q.A q.n q.c)) 2 (by intro _ hh; cases hh) (.int .i64 b.x)) (.below hb)
    have Ba_9 := Lib.hid (show Bk _ _ _ #[.bool q.b, .slice q.A q.n q.c, .int .i64 b.x] from (((Ba_3.out.set 0 (.bool q.b)).set 1 (.slice q.A q.n q.c)).set 2 (.int .i64 b.x)).below hb)
    have y0 := Ba_3.out.lt; have y1 := Bb_4.out.lt; have y2 := Bo_5.out.lt; have y3 := HB_6.out.size; have Bb_10 := Lib.hid (show Bk _ _ _ #[.bool q.b, .slice q.A q.n q.c, .int .i64 b.x] from (((Bb_4.out.ne (by omega) 0 (.bool q.b)).ne (by omega) 1 (.slice q.A q.n q.c)).ne (by omega) 2 (.int .i64 b.x)).below hb); clear y0 y1 y2 y3
    have y0 := Ba_3.out.lt; have y1 := Bb_4.out.lt; have y2 := Bo_5.out.lt; have y3 := HB_6.out.size; have Bo_11 := Lib.hid (show Bk _ _ _ #[.bool false, .slice none 0 0, .int .i64 0] from (((Bo_5.out.ne (by omega) 0 (.bool q.b)).ne (by omega) 1 (.slice q.A q.n q.c)).ne (by omega) 2 (.int .i64 b.x)).below hb); clear y0 y1 y2 y3
    have y0 := HB_6.out.size; have HB_12 := Lib.hid (below_tr (below_st (below_st (below_st HB_6.out 0 (by omega) (.bool q.b)) 1 (by omega) (.slice q.A q.n q.c)) 2 (by omega) (.int .i64 b.x)) hb); clear y0
    clear hb
    have RA_13 := Lib.hid (RA_7.out.dk K)
    have RB_14 := Lib.hid (RB_8.out.dk K)
    clear K Ba_3 Bb_4 Bo_5 HB_6 RA_7 RB_8
    have RX_15 := Lib.hid hs
    clear hs
    have la := Ba_9.out.lt
    obtain ⟨ca0, ca1, ca2⟩ := Ba_9.out.cells3
    have lb := Bb_10.out.lt
    obtain ⟨cb0, cb1, cb2⟩ := Bb_10.out.cells3
    have lo := Bo_11.out.lt
    obtain ⟨co0, co1, co2⟩ := Bo_11.out.cells3
    have fo0 := Bo_11.out.free 0
    have fo1 := Bo_11.out.free 1
    have fo2 := Bo_11.out.free 2
    go_wp2
    refine bodyPost_ret (v := .agg #[.bool s.b, .slice s.A s.n s.c, .int .i64 b.x]) ?_ rfl ?_
    · simp [results, Tryd.f97, go_sem, co0, co1, co2]
    · have y0 := HB_12.out.size; exact ⟨⟨s, rfl, (RX_15.out.dk ((((Dk.refl _).set (cs := #[.bool false, .slice none 0 0, .int .i64 0]) Bo_11.out 0 (by intro _ hh; cases hh) (.bool s.b)).set (cs := #[.bool s.b, .slice none 0 0, .int .i64 0]) (Bo_11.out.set 0 (.bool s.b)) 1 (by intro _ hh; cases hh) (.slice s.A s.n s.c)).set (cs := #[.bool s.b, .slice s.A s.n s.c, .int .i64 0]) ((Bo_11.out.set 0 (.bool s.b)).set 1 (.slice s.A s.n s.c)) 2 (by intro _ hh; cases hh) (.int .i64 b.x)))⟩, (below_st (below_st (below_st HB_12.out 0 (by omega) (.bool s.b)) 1 (by omega) (.slice s.A s.n s.c)) 2 (by omega) (.int .i64 b.x))⟩
  · rw [show a.mn b = a from if_neg hl]
    have hd : decide (b.cmp a < 0) = false := decide_eq_false hl
    have HD := Lib.hid hd
    clear hd hl
    have BX := Lib.hid (boxes3 w 53 #[.bool p.b, .slice p.A p.n p.c, .int .i64 a.x] 53 #[.bool q.b, .slice q.A q.n q.c, .int .i64 b.x] 53 #[.bool false, .slice none 0 0, .int .i64 0])
    go_enter Tryd.func97, Tryd.ntmps97
    go_wp2_with fail
    generalize ((w.alloc (.cells #[.bool p.b, .slice p.A p.n p.c, .int .i64 a.x] 53)).alloc (.cells #[.bool q.b, .slice q.A q.n q.c, .int .i64 b.x] 53)).alloc (.cells #[.bool false, .slice none 0 0, .int .i64 0] 53) = w0 at *
    obtain ⟨b0, b1, b2, hw⟩ := BX.out
    have Ba_0 := Lib.hid b0
    have Bb_0 := Lib.hid b1
    have Bo_0 := Lib.hid b2
    have HB_0 := Lib.hid hw
    have K := Dk.below (hw.mono (Nat.le_refl _))
    clear BX hw b0 b1 b2
    have RA_1 := Lib.hid (HA.out.dk K)
    have RB_2 := Lib.hid (HB.out.dk K)
    clear K HA HB
    have la := Ba_0.out.lt
    obtain ⟨ca0, ca1, ca2⟩ := Ba_0.out.cells3
    have lb := Bb_0.out.lt
    obtain ⟨cb0, cb1, cb2⟩ := Bb_0.out.cells3
    have lo := Bo_0.out.lt
    obtain ⟨co0, co1, co2⟩ := Bo_0.out.cells3
    go_wp2_with fail
    refine (dless_any _ q p b a E T RB_2.out RA_1.out LB.out LA.out hET).mono ?_
    rintro e w1 ⟨rfl, hb⟩
    clear la ca0 ca1 ca2 lb cb0 cb1 cb2 lo co0 co1 co2
    have K := Dk.below hb
    have Ba_3 := Lib.hid (show Bk _ _ _ #[.bool p.b, .slice p.A p.n p.c, .int .i64 a.x] from Ba_0.out.below hb)
    have Bb_4 := Lib.hid (show Bk _ _ _ #[.bool q.b, .slice q.A q.n q.c, .int .i64 b.x] from Bb_0.out.below hb)
    have Bo_5 := Lib.hid (show Bk _ _ _ #[.bool false, .slice none 0 0, .int .i64 0] from Bo_0.out.below hb)
    have HB_6 := Lib.hid (below_tr HB_0.out hb)
    clear hb
    have RA_7 := Lib.hid (RA_1.out.dk K)
    have RB_8 := Lib.hid (RB_2.out.dk K)
    clear K Ba_0 Bb_0 Bo_0 HB_0 RA_1 RB_2
    rw [HD.out]
    have la := Ba_3.out.lt
    obtain ⟨ca0, ca1, ca2⟩ := Ba_3.out.cells3
    have fa0 := Ba_3.out.free 0
    have fa1 := Ba_3.out.free 1
    have fa2 := Ba_3.out.free 2
    have lb := Bb_4.out.lt
    obtain ⟨cb0, cb1, cb2⟩ := Bb_4.out.cells3
    have lo := Bo_5.out.lt
    obtain ⟨co0, co1, co2⟩ := Bo_5.out.cells3
    have fo0 := Bo_5.out.free 0
    have fo1 := Bo_5.out.free 1
    have fo2 := Bo_5.out.free 2
    go_wp2_with fail
    refine (down_any _ p a RA_7.out (RA_7.out.1.len (k := 512) (by have := LA.out.nb; omega))).mono ?_
    rintro e w2 ⟨⟨s, rfl, hs⟩, hb⟩
    clear la ca0 ca1 ca2 fa0 fa1 fa2 lb cb0 cb1 cb2 lo co0 co1 co2 fo0 fo1 fo2
    have K := Dk.below hb
    have Ba_9 := Lib.hid (show Bk _ _ _ #[.bool p.b, .slice p.A p.n p.c, .int .i64 a.x] from Ba_3.out.below hb)
    have Bb_10 := Lib.hid (show Bk _ _ _ #[.bool q.b, .slice q.A q.n q.c, .int .i64 b.x] from Bb_4.out.below hb)
    have Bo_11 := Lib.hid (show Bk _ _ _ #[.bool false, .slice none 0 0, .int .i64 0] from Bo_5.out.below hb)
    have HB_12 := Lib.hid (below_tr HB_6.out hb)
    clear hb
    have RA_13 := Lib.hid (RA_7.out.dk K)
    have RB_14 := Lib.hid (RB_8.out.dk K)
    clear K Ba_3 Bb_4 Bo_5 HB_6 RA_7 RB_8
    have RX_15 := Lib.hid hs
    clear hs
    have la := Ba_9.out.lt
    obtain ⟨ca0, ca1, ca2⟩ := Ba_9.out.cells3
    have lb := Bb_10.out.lt
    obtain ⟨cb0, cb1, cb2⟩ := Bb_10.out.cells3
    have lo := Bo_11.out.lt
    obtain ⟨co0, co1, co2⟩ := Bo_11.out.cells3
    have fo0 := Bo_11.out.free 0
    have fo1 := Bo_11.out.free 1
    have fo2 := Bo_11.out.free 2
    go_wp2
    refine bodyPost_ret (v := .agg #[.bool s.b, .slice s.A s.n s.c, .int .i64 a.x]) ?_ rfl ?_
    · simp [results, Tryd.f97, go_sem, co0, co1, co2]
    · have y0 := HB_12.out.size; exact ⟨⟨s, rfl, (RX_15.out.dk ((((Dk.refl _).set (cs := #[.bool false, .slice none 0 0, .int .i64 0]) Bo_11.out 0 (by intro _ hh; cases hh) (.bool s.b)).set (cs := #[.bool s.b, .slice none 0 0, .int .i64 0]) (Bo_11.out.set 0 (.bool s.b)) 1 (by intro _ hh; cases hh) (.slice s.A s.n s.c)).set (cs := #[.bool s.b, .slice s.A s.n s.c, .int .i64 0]) ((Bo_11.out.set 0 (.bool s.b)).set 1 (.slice s.A s.n s.c)) 2 (by intro _ hh; cases hh) (.int .i64 a.x)))⟩, (below_st (below_st (below_st HB_12.out 0 (by omega) (.bool s.b)) 1 (by omega) (.slice s.A s.n s.c)) 2 (by omega) (.int .i64 a.x))⟩

end Go.Proofs.YtgioppkggpfnoaaDoor.Nu
end
