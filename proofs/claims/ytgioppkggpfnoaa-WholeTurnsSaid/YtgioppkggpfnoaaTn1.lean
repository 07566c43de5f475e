/- Texts of the seat, laid together: Num, Rep, Trim, Back, Compare, Sub, Mul, LeftP, Right, BlP, TailP, Add, Whole, WholeM, Shelf, Clone, WholeE, WholeF, WholeG, PD, PS, Kit, QP, RatP, RatB, RK, RNat, ShortP, Back2, DivP, Less, Short, LongP, Moved. -/
import Derived.Test.YtgioppkggpfnoaaProg
import Derived.Below
import Derived.OwnWalk
import Derived.WalkKit
import Derived.KernelRfl
import Derived.Outline
import Derived.LoopTactic
import Derived.Lib.Hide
import Derived.Lib.FrozenHead2
import Derived.Laws.Strings2
import Derived.Laws.Slices
import Derived.Laws.Rows
import Derived.Laws.MakeOwn
import Derived.OneCell
import Derived.Deep.QuietTactic
import Derived.BigQuiet
import Derived.RangeFuncNested
import Derived.RangeFuncBound
import Derived.RangeFuncCalls
import Derived.RangeFuncLeaves
import Derived.RangeFuncBox
import Derived.Shelf.Abstract
import Derived.Shelf.RegionOpen
import Derived.OwnWalkIn
import Derived.TacticsInMore
import Derived.LoopNIn
import Derived.LoopIn
import Derived.Laws.Bits64b
import Derived.Lib.ItoaNum
import Derived.SizedLaws
import Derived.Shelf.Small.Bits
import Derived.Ground.Names2Prog
import Derived.Shelf.RegionOpenPlain
import Derived.Lib.SliceRun
import Derived.Deep.RegionHeld3
import Derived.RegionTactic
import Derived.StillTailTactics
import Derived.Deep.DeepCutAuto
import Derived.Deep.CutBlock
set_option linter.all false
set_option exponentiation.threshold 20000
section
/- Numbers from 0 on and their digits to the base 2^32. Plain, no program in sight. -/
namespace Go.Proofs.Ytgioppkggpfnoaa.Nu

/-- The value of digits to the base 2^32, the lowest first. -/
def val : List Nat → Nat
  | [] => 0
  | x :: xs => x + 4294967296 * val xs

def Dig (xs : List Nat) : Prop := ∀ x ∈ xs, x < 4294967296

/-- The digits of a number, without noughts at the end. -/
def digs (n : Nat) : List Nat := if h : n = 0 then [] else n % 4294967296 :: digs (n / 4294967296)
termination_by n
decreasing_by omega

theorem digs_zero : digs 0 = [] := by rw [digs]; simp
theorem digs_pos {n : Nat} (h : n ≠ 0) : digs n = n % 4294967296 :: digs (n / 4294967296) := by
  conv => lhs; rw [digs]
  simp [h]

theorem val_digs (n : Nat) : val (digs n) = n := by
  induction n using Nat.strongRecOn with
  | ind n ih =>
    by_cases h : n = 0
    · subst h; simp [digs_zero, val]
    · rw [digs_pos h, val, ih _ (by omega)]; omega

theorem dig_digs (n : Nat) : Dig (digs n) := by
  induction n using Nat.strongRecOn with
  | ind n ih =>
    by_cases h : n = 0
    · subst h; simp [digs_zero, Dig]
    · rw [digs_pos h]
      intro x hx
      rcases List.mem_cons.1 hx with rfl | hx
      · omega
      · exact ih _ (by omega) x hx

theorem val_append (xs ys : List Nat) : val (xs ++ ys) = val xs + 4294967296 ^ xs.length * val ys := by
  induction xs with
  | nil => simp [val]
  | cons x xs ih => simp only [List.cons_append, val, ih, List.length_cons, Nat.pow_succ]; grind

theorem val_zeros (k : Nat) : val (List.replicate k 0) = 0 := by
  induction k with
  | zero => rfl
  | succ k ih => simp [List.replicate_succ, val, ih]

theorem val_lt {xs : List Nat} (h : Dig xs) : val xs < 4294967296 ^ xs.length := by
  induction xs with
  | nil => simp [val]
  | cons x xs ih =>
    have h1 := ih (fun y hy => h y (List.mem_cons_of_mem _ hy))
    have h2 := h x List.mem_cons_self
    simp only [val, List.length_cons, Nat.pow_succ]
    omega

/-- A list of digits that doesn't end in nought is what its value's digits are. -/
theorem digs_val {xs : List Nat} (h : Dig xs) (hl : ∀ y, xs.getLast? = some y → y ≠ 0) : digs (val xs) = xs := by
  induction xs with
  | nil => simp [val, digs_zero]
  | cons x xs ih =>
    have hx := h x List.mem_cons_self
    have hxs : Dig xs := fun y hy => h y (List.mem_cons_of_mem _ hy)
    have hv : val (x :: xs) ≠ 0 := by
      intro h0
      simp only [val] at h0
      have h1 : val xs = 0 := by omega
      have h2 : x = 0 := by omega
      cases xs with
      | nil => exact hl x (by simp) h2
      | cons z zs =>
        have := ih hxs (fun y hy => hl y (by simpa using hy))
        rw [h1, digs_zero] at this
        cases this
    rw [digs_pos hv]
    simp only [val] at hv ⊢
    have e1 : (x + 4294967296 * val xs) % 4294967296 = x := by omega
    have e2 : (x + 4294967296 * val xs) / 4294967296 = val xs := by omega
    rw [e1, e2]
    cases xs with
    | nil => simp [val, digs_zero]
    | cons z zs => rw [ih hxs (fun y hy => hl y (by simpa using hy))]

theorem digs_last (n : Nat) (y : Nat) (h : (digs n).getLast? = some y) : y ≠ 0 := by
  induction n using Nat.strongRecOn generalizing y with
  | ind n ih =>
    by_cases h0 : n = 0
    · subst h0; simp [digs_zero] at h
    · rw [digs_pos h0] at h
      by_cases h1 : n / 4294967296 = 0
      · rw [h1, digs_zero] at h
        simp at h
        omega
      · rw [digs_pos h1, List.getLast?_cons_cons, ← digs_pos h1] at h
        exact ih _ (by omega) y h

/-- Digits and noughts behind them. -/
theorem digs_trim {xs : List Nat} (h : Dig xs) : ∃ k, xs = digs (val xs) ++ List.replicate k 0 := by
  induction xs with
  | nil => exact ⟨0, by simp [val, digs_zero]⟩
  | cons x xs ih =>
    have hx := h x List.mem_cons_self
    obtain ⟨k, hk⟩ := ih (fun y hy => h y (List.mem_cons_of_mem _ hy))
    by_cases hv : val (x :: xs) = 0
    · refine ⟨k + 1, ?_⟩
      rw [hv, digs_zero]
      simp only [val] at hv
      have h1 : val xs = 0 := by omega
      have h2 : x = 0 := by omega
      rw [h1, digs_zero] at hk
      rw [hk, h2]; simp [List.replicate_succ]
    · refine ⟨k, ?_⟩
      rw [digs_pos hv]
      simp only [val] at hv ⊢
      have e1 : (x + 4294967296 * val xs) % 4294967296 = x := by omega
      have e2 : (x + 4294967296 * val xs) / 4294967296 = val xs := by omega
      rw [e1, e2, List.cons_append, ← hk]

theorem digs_len_le {n k : Nat} : (digs n).length ≤ k ↔ n < 4294967296 ^ k := by
  induction k generalizing n with
  | zero =>
    by_cases h : n = 0
    · subst h; simp [digs_zero]
    · rw [digs_pos h]; simp; omega
  | succ k ih =>
    by_cases h : n = 0
    · subst h; simp [digs_zero, Nat.pow_pos]
    · rw [digs_pos h, List.length_cons, Nat.succ_le_succ_iff, ih, Nat.pow_succ, Nat.div_lt_iff_lt_mul (by omega)]

theorem digs_eq_nil {n : Nat} : digs n = [] ↔ n = 0 := by
  constructor
  · intro h; have := val_digs n; rw [h] at this; simpa [val] using this.symm
  · rintro rfl; exact digs_zero

theorem digs_inj {m n : Nat} (h : digs m = digs n) : m = n := by
  rw [← val_digs m, ← val_digs n, h]

/-- The digit at a place. -/
def dg (xs : List Nat) (j : Nat) : Nat := xs.getD j 0
theorem dg_of {xs : List Nat} {j : Nat} (h : j < xs.length) : dg xs j = xs[j] := by simp [dg, h]
theorem dg_lt {xs : List Nat} (h : Dig xs) (j : Nat) : dg xs j < 4294967296 := by
  by_cases hj : j < xs.length
  · rw [dg_of hj]; exact h _ (List.getElem_mem hj)
  · simp [dg, List.getElem?_eq_none (Nat.le_of_not_lt hj)]
theorem take_snoc (xs : List Nat) (m : Nat) (h : m < xs.length) : xs.take (m + 1) = xs.take m ++ [dg xs m] := by
  rw [List.take_succ_eq_append_getElem h, dg_of h]
theorem val_take_succ (xs : List Nat) (m : Nat) (h : m < xs.length) : val (xs.take (m + 1)) = val (xs.take m) + 4294967296 ^ m * dg xs m := by
  rw [take_snoc xs m h, val_append, List.length_take, Nat.min_eq_left (Nat.le_of_lt h)]
  simp [val]
theorem dig_take {xs : List Nat} (h : Dig xs) (m : Nat) : Dig (xs.take m) := fun x hx => h x (List.mem_of_mem_take hx)
theorem digs_take {xs : List Nat} (h : Dig xs) (m : Nat) (hm : m ≤ xs.length) (hl : m = 0 ∨ dg xs (m - 1) ≠ 0) : digs (val (xs.take m)) = xs.take m := by
  apply digs_val (dig_take h m)
  intro y hy
  rcases hl with rfl | hl
  · simp at hy
  · by_cases h0 : m = 0
    · subst h0; simp at hy
    · obtain ⟨k, rfl⟩ : ∃ k, m = k + 1 := ⟨m - 1, by omega⟩
      rw [take_snoc xs k (by omega)] at hy
      simp at hy
      rw [← hy]; exact hl

theorem dg_set_same (ys : List Nat) (i d : Nat) (h : i < ys.length) : dg (ys.set i d) i = d := by simp [dg, h]
theorem dg_set_ne (ys : List Nat) (i j d : Nat) (h : i ≠ j) : dg (ys.set i d) j = dg ys j := by
  simp [dg, List.getElem?_set_ne h]
theorem take_set (ys : List Nat) (i d : Nat) : (ys.set i d).take i = ys.take i := by
  apply List.ext_getElem?
  intro j
  by_cases h : j < i
  · rw [List.getElem?_take_of_lt h, List.getElem?_take_of_lt h, List.getElem?_set_ne (by omega)]
  · rw [List.getElem?_eq_none (by simp; omega), List.getElem?_eq_none (by simp; omega)]
theorem val_set_take (ys : List Nat) (i d : Nat) (h : i < ys.length) : val ((ys.set i d).take (i + 1)) = val (ys.take i) + 4294967296 ^ i * d := by
  rw [val_take_succ _ _ (by simpa using h), take_set, dg_set_same _ _ _ h]
theorem dig_set {ys : List Nat} (h : Dig ys) (i : Nat) {d : Nat} (hd : d < 4294967296) : Dig (ys.set i d) := by
  intro x hx
  rcases List.mem_or_eq_of_mem_set hx with hx | rfl
  · exact h x hx
  · exact hd
theorem dig_zeros (n : Nat) : Dig (List.replicate n 0) := by
  intro x hx
  rw [List.eq_of_mem_replicate hx]; omega
theorem dg_zeros (n j : Nat) : dg (List.replicate n 0) j = 0 := by
  by_cases h : j < n <;> simp [dg, List.getElem?_replicate, h]
theorem dg_out {xs : List Nat} {j : Nat} (h : xs.length ≤ j) : dg xs j = 0 := by simp [dg, List.getElem?_eq_none h]
/-- One digit more: also behind the end, where the digits are noughts. -/
theorem val_take_next (xs : List Nat) (m : Nat) : val (xs.take (m + 1)) = val (xs.take m) + 4294967296 ^ m * dg xs m := by
  by_cases h : m < xs.length
  · exact val_take_succ xs m h
  · rw [dg_out (by omega), List.take_of_length_le (by omega), List.take_of_length_le (by omega)]; simp
/-- One round of an addition. -/
theorem add_step {v i cy a b x y : Nat} (h : v + cy * 4294967296 ^ i = a + b) :
    (v + 4294967296 ^ i * ((cy + x + y) % 4294967296)) + (cy + x + y) / 4294967296 * 4294967296 ^ (i + 1) = (a + 4294967296 ^ i * x) + (b + 4294967296 ^ i * y) := by
  have e := Nat.div_add_mod (cy + x + y) 4294967296
  rw [Nat.pow_succ]
  generalize 4294967296 ^ i = p at *
  generalize (cy + x + y) / 4294967296 = q at *
  generalize (cy + x + y) % 4294967296 = r at *
  have e2 : p * (4294967296 * q + r) = p * (cy + x + y) := by rw [e]
  have e3 : q * (p * 4294967296) = p * (4294967296 * q) := by rw [Nat.mul_comm q, Nat.mul_assoc]
  simp only [Nat.mul_add] at e2
  rw [e3]
  have e4 : cy * p = p * cy := Nat.mul_comm _ _
  omega
end Go.Proofs.Ytgioppkggpfnoaa.Nu
end

section
/- How numbers stand in memory, and the small laws of memory that all walks of this claim use. -/
set_option linter.unusedVariables false
namespace Go.Proofs.Ytgioppkggpfnoaa.Nu
open Go.RowKit Go.Proofs

theorem ret_int {k : IntKind} {a b : Int} (h : a = b) : Ending.returned (.int k a) = .returned (.int k b) := by rw [h]
theorem below_drewN {B : Nat} {w W : World} (h : Below B w W) (n : Nat) : Below B w (W.drewN n) := ⟨h.os, h.tape, h.output, h.size, h.block⟩
theorem alloc_top (W : World) (o : Obj) : (W.alloc o).heap[W.heap.size]? = some o := by show (W.heap.push _)[W.heap.size]? = _; simp
theorem bcell {W w1 : World} (hb : Below W.heap.size W w1) : (∀ b o, b < W.heap.size → w1.cell? ⟨b, o, none⟩ = W.cell? ⟨b, o, none⟩) ∧ (∀ b o, b < W.heap.size → w1.frozen? ⟨b, o, none⟩ = W.frozen? ⟨b, o, none⟩) :=
  ⟨fun b o h => hb.cell (p := ⟨b, o, none⟩) h, fun b o h => hb.frozen (p := ⟨b, o, none⟩) h⟩

/-- A row of digits that can be read (digits of whatever size below 2^32, noughts at the end too). -/
def RL (w : World) (A : Option Addr) (n : Nat) (xs : List Nat) : Prop :=
  xs.length = n ∧ n ≤ 140737488355328 ∧ Dig xs ∧ (0 < n → ∃ b off, A = some ⟨b, off, none⟩ ∧ b < w.heap.size ∧ ∀ j, j < n → w.cell? ⟨b, off + j, none⟩ = some (.int .u32 (dg xs j)))
/-- A number from 0 on, as api.Nat holds it. -/
def RN (w : World) (A : Option Addr) (n : Nat) (x : Nat) : Prop := RL w A n (digs x)

theorem RL.below {w w' : World} {A : Option Addr} {n : Nat} {xs : List Nat} (h : RL w A n xs) (hb : Below w.heap.size w w') : RL w' A n xs := by
  obtain ⟨h1, h2, hd, h3⟩ := h
  refine ⟨h1, h2, hd, fun h0 => ?_⟩
  obtain ⟨b, off, hA, hlt, hc⟩ := h3 h0
  exact ⟨b, off, hA, Nat.lt_of_lt_of_le hlt hb.size, fun j hj => (hb.cell (p := ⟨b, off + j, none⟩) hlt).trans (hc j hj)⟩
theorem RN.below {w w' : World} {A : Option Addr} {n x : Nat} (h : RN w A n x) (hb : Below w.heap.size w w') : RN w' A n x := RL.below h hb
theorem RL.nil (w : World) (A : Option Addr) : RL w A 0 [] := ⟨rfl, by omega, by simp [Dig], fun h => absurd h (by omega)⟩
theorem RN.zero (w : World) (A : Option Addr) : RN w A 0 0 := by unfold RN; rw [digs_zero]; exact RL.nil w A
theorem RL.take {w : World} {A : Option Addr} {n : Nat} {xs : List Nat} (h : RL w A n xs) (m : Nat) (hm : m ≤ n) : RL w A m (xs.take m) := by
  obtain ⟨h1, h2, hd, h3⟩ := h
  refine ⟨by simp; omega, by omega, dig_take hd m, fun h0 => ?_⟩
  obtain ⟨b, off, hA, hlt, hc⟩ := h3 (by omega)
  refine ⟨b, off, hA, hlt, fun j hj => ?_⟩
  rw [hc j (by omega)]
  simp [dg, List.getElem?_take, hj]
/-- Digits, cut behind their last one that isn't nought, are their value's digits. -/
theorem RL.trim {w : World} {A : Option Addr} {n : Nat} {xs : List Nat} (h : RL w A n xs) (m : Nat) (hm : m ≤ n) (hv : val (xs.take m) = val xs) (hl : m = 0 ∨ dg xs (m - 1) ≠ 0) : RN w A m (val xs) := by
  unfold RN
  rw [← hv, digs_take h.2.2.1 m (by rw [h.1]; exact hm) hl]
  exact h.take m hm

/-! ### A row of digits that the call makes and writes -/
def u32s (ys : List Nat) : Array Value := (ys.map fun (y : Nat) => Value.int .u32 (y : Int)).toArray
def Blk (w : World) (g : Nat) (ys : List Nat) : Prop := w.heap[g]? = some (.cells (u32s ys) 64 (0, 0))
theorem u32s_size (ys : List Nat) : (u32s ys).size = ys.length := by simp [u32s]
theorem u32s_get (ys : List Nat) (j : Nat) (h : j < ys.length) : (u32s ys)[j]? = some (.int .u32 (dg ys j)) := by simp [u32s, dg, h]
theorem u32s_set (ys : List Nat) (i d : Nat) (v : Int) (hv : v = (d : Int)) : (u32s ys).setIfInBounds i (.int .u32 v) = u32s (ys.set i d) := by
  subst hv
  simp [u32s, List.map_set]
theorem Blk.lt {w : World} {g : Nat} {ys : List Nat} (h : Blk w g ys) : g < w.heap.size := (Array.getElem?_eq_some_iff.1 h).1
theorem Blk.cell {w : World} {g : Nat} {ys : List Nat} (h : Blk w g ys) (j : Nat) (hj : j < ys.length) : w.cell? ⟨g, j, none⟩ = some (.int .u32 (dg ys j)) := by
  rw [Lib.cell_of_heap h, u32s_get ys j hj]
theorem Blk.free {w : World} {g : Nat} {ys : List Nat} (h : Blk w g ys) (j : Nat) : w.frozen? ⟨g, j, none⟩ = false := Lib.frozen_of_heap h j
theorem Blk.set {w : World} {g : Nat} {ys : List Nat} (h : Blk w g ys) (i d : Nat) (v : Int) (hv : v = (d : Int)) : Blk (w.setCell ⟨g, i, none⟩ (.int .u32 v)) g (ys.set i d) := by
  unfold Blk
  rw [heap_setCell_same w g i _ _ _ h, u32s_set ys i d v hv]
theorem Blk.alloc {w : World} {g : Nat} {ys : List Nat} (h : Blk w g ys) (o : Obj) : Blk (w.alloc o) g ys := by
  unfold Blk; rw [Lib.alloc_old _ _ _ h.lt]; exact h
theorem Blk.below {w w' : World} {g : Nat} {ys : List Nat} (h : Blk w g ys) (hb : Below w.heap.size w w') : Blk w' g ys := by
  unfold Blk; rw [hb.block g h.lt]; exact h
theorem Blk.read {w : World} {g : Nat} {ys : List Nat} (h : Blk w g ys) (hd : Dig ys) (hl : ys.length ≤ 140737488355328) : RL w (some ⟨g, 0, none⟩) ys.length ys :=
  ⟨rfl, hl, hd, fun _ => ⟨g, 0, rfl, h.lt, fun j hj => by rw [Nat.zero_add]; exact h.cell j hj⟩⟩
/-- A made row, all noughts: behind a plain name, so that the walk doesn't look into it. -/
def mk0 (n : Nat) : Array Value := u32s (List.replicate n 0)
theorem infoU32 : (Try.prog.info? 64).map (fun i => (i.zero, i.size, i.bytes)) = some (some (.int .u32 0), 1, 4) := by kernel_rfl
theorem made_u32 (n : Nat) : madeCells (Value.int .u32 0).cells n = mk0 n := by
  apply Array.ext
  · simp [mk0, u32s_size, size_madeCells]
  · intro i h1 h2
    have hi : i < n := by simpa [size_madeCells] using h1
    simp [madeCells, mk0, u32s, Value.cells, Nat.mod_one]
theorem make_u32 (n : Nat) (hn : n ≤ 1000000000) (w : World) : (Instr.makeSlice 28 (.int .i64 n) (.int .i64 n)).run Try.prog w = .ok (.slice (some ⟨w.heap.size, 0, none⟩) n n) (w.alloc (.cells (mk0 n) 64)) := by
  obtain ⟨i0, hi, hz0, hz1, hz2⟩ := info_parts infoU32
  have h := run_make (P := Try.prog) w 28 64 i0 (.int .u32 0) Try.underlying28 hi hz0 .i64 .i64 n n (by omega) (Int.le_refl _) (by rw [hz2]; omega) (by omega)
  simp only [Int.toNat_natCast, hz1, Nat.mul_one, made_u32] at h
  exact h
theorem Blk.made (w : World) (n : Nat) : Blk (w.alloc (.cells (mk0 n) 64)) w.heap.size (List.replicate n 0) := alloc_top w _
end Go.Proofs.Ytgioppkggpfnoaa.Nu
end

section
/- The walks of limbs.trim and limbs.fits. -/
set_option linter.unusedVariables false
namespace Go.Proofs.Ytgioppkggpfnoaa.Nu
open Go.RowKit Go.Proofs

set_option maxHeartbeats 2000000 in
theorem trim_any (w : World) (A : Option Addr) (n c : Nat) (xs : List Nat) (h : RL w A n xs) (hc : n ≤ c) :
    Calls Try.prog 33 #[.slice A n c] w fun e w' => ∃ m, e = .returned (.slice A m m) ∧ RN w A m (val xs) ∧ w' = w := by
  have hn := h.2.1
  have hl := h.1
  have H := Lib.hid h
  clear h
  by_cases h0 : n = 0
  · subst h0
    go_enter Try.func33, Try.ntmps33
    go_wp2
    go_loop [3] (fun a => a = .int .i64 0) (fun a => 0)
    case atStart => rfl
    case round =>
      subst hrel
      go_wp2
      go_ret
      exact ⟨0, rfl, H.out.trim 0 (Nat.le_refl _) (by rw [List.length_eq_zero_iff.1 hl]; rfl) (.inl rfl), rfl⟩
  · obtain ⟨b, off, rfl, hlt, hcell⟩ := H.out.2.2.2 (by omega)
    have Hl := Lib.hid hl
    have Hcell := Lib.hid hcell
    clear hcell hl
    go_enter Try.func33, Try.ntmps33
    go_wp2
    go_loop [3] (fun a => ∃ m : Nat, a = .int .i64 m ∧ m ≤ n ∧ val (xs.take m) = val xs) (fun a => (intOf a).toNat)
    case atStart => exact ⟨n, rfl, Nat.le_refl _, by rw [← Hl.out, List.take_length]⟩
    case round =>
      obtain ⟨m, rfl, hm, hv⟩ := hrel
      have Hv := Lib.hid hv
      clear hv
      by_cases hm0 : m = 0
      · subst hm0
        go_wp2
        go_ret
        exact ⟨0, rfl, H.out.trim 0 (by omega) Hv.out (.inl rfl), rfl⟩
      · have hm1 : 0 < m := by omega
        have hc1 := Hcell.out (m - 1) (by omega)
        by_cases hz : dg xs (m - 1) = 0
        · rw [hz] at hc1
          have Hz := Lib.hid hz
          clear hz
          go_wp2
          go_round
          case rel => exact ⟨m - 1, by go_num, by omega, by rw [← Hv.out]; conv => rhs; rw [show m = (m - 1) + 1 by omega, val_take_succ xs (m - 1) (by rw [Hl.out]; omega), Hz.out]; simp⟩
          case measure => simp [intOf]; omega
        · have hb : (((dg xs (m - 1) : Nat) : Int) == 0) = false := by rw [beq_eq_false_iff_ne]; omega
          have Hz := Lib.hid hz
          clear hz
          go_wp2
          go_ret
          exact ⟨m, rfl, H.out.trim m hm Hv.out (.inr Hz.out), rfl⟩

/-- The number has no more digits than may be. -/
def Fit (x : Nat) : Prop := (digs x).length ≤ 512
set_option maxHeartbeats 1000000 in
theorem fits_any (w : World) (A : Option Addr) (n c : Nat) (xs : List Nat) (h : RL w A n xs) (hc : n ≤ c) (hf : Fit (val xs)) :
    Calls Try.prog 44 #[.slice A n c] w fun e w' => ∃ m, e = .returned (.tuple #[.slice A m m, .int .i64 0]) ∧ RN w A m (val xs) ∧ w' = w := by
  have H := Lib.hid h
  have HF := Lib.hid hf
  clear h hf
  go_enter Try.func44, Try.ntmps44
  go_wp2_with fail
  refine (trim_any _ A n c xs H.out hc).mono ?_
  rintro e w' ⟨m, rfl, hm, rfl⟩
  have hm2 : m ≤ 512 := by have := hm.1; have h2 := HF.out; unfold Fit at h2; omega
  have hm3 : ¬ (512 : Int) < (m : Int) := by omega
  go_wp2
  go_ret2
  exact ⟨m, rfl, hm, rfl⟩
end Go.Proofs.Ytgioppkggpfnoaa.Nu
end

section
/- slices.Backward over a row of digits: its contract, as an iterator that reads memory between two rounds; what a comparison from the highest digit down says. -/
set_option linter.unusedVariables false
namespace Go.Proofs.Ytgioppkggpfnoaa.Nu
open Go.RowKit Go.Proofs Go.Shelf
attribute [local go_sem] Oper.semAt_some

/-- A place of the row. -/
abbrev Pl (len : Nat) := { j : Nat // j < len }
/-- What has come when k rounds are over: from the highest place down. -/
def Come (len k : Nat) (pre : List (Pl len)) : Prop := pre.map (·.1) = (List.range k).map fun j => len - 1 - j
theorem Come.len {len k : Nat} {pre : List (Pl len)} (h : Come len k pre) : pre.length = k := by
  have := congrArg List.length h
  simpa using this
theorem Come.succ {len k : Nat} {pre : List (Pl len)} (h : Come len k pre) (x : Pl len) (hx : x.1 = len - 1 - k) : Come len (k + 1) (pre ++ [x]) := by
  unfold Come at *
  rw [List.map_append, h, List.range_succ, List.map_append, List.map_singleton, List.map_singleton, hx]
theorem Come.mem {len k : Nat} {pre : List (Pl len)} (h : Come len k pre) {i : Nat} (hi : i < len) (hk : len ≤ i + k) : ∃ p ∈ pre, p.1 = i := by
  have : i ∈ pre.map (·.1) := by
    rw [h, List.mem_map]
    exact ⟨len - 1 - i, List.mem_range.2 (by omega), by omega⟩
  simpa using this
theorem Come.last {len k : Nat} {ini : List (Pl len)} {x : Pl len} (h : Come len k (ini ++ [x])) : ∃ m, k = m + 1 ∧ Come len m ini ∧ x.1 = len - 1 - m := by
  cases k with
  | zero => have := h.len; simp at this
  | succ m =>
    unfold Come at h
    rw [List.map_append, List.range_succ, List.map_append] at h
    obtain ⟨h1, h2⟩ := List.append_inj' h rfl
    exact ⟨m, rfl, h1, by simpa using h2⟩
theorem Come.nil (len : Nat) : Come len 0 [] := rfl

set_option maxRecDepth 100000 in
set_option maxHeartbeats 2000000 in
theorem back1_in (F : Fence) (n : Nat) (h7 : F.fn 40) (hro : F.round = none) (hn : 1 ≤ n) (l Bs n₀ b off len cap : Nat) (xs : List Nat) (hreach : len ≤ 140737488355328) (hb : b < n₀) (J Jx : List (Pl len) → World → Prop)
    (hY : ∀ pre x W, J pre W → pre.length < len → YieldAt F (n - 1) Try.prog l #[.int .i64 (x.1 : Int), .int .u32 (dg xs x.1 : Int)] W fun e W' =>
      (e = .returned (.bool true) ∧ J (pre ++ [x]) W' ∧ Below n₀ W W') ∨ (e = .returned (.bool false) ∧ Jx (pre ++ [x]) W'))
    (W : World) (hBs : W.cell? ⟨Bs, 0, none⟩ = some (.slice (some ⟨b, off, none⟩) len cap)) (hBs2 : Bs < n₀) (hc : ∀ j, j < len → W.cell? ⟨b, off + j, none⟩ = some (.int .u32 (dg xs j))) (h0 : J [] W) :
    CallsIn F n Try.prog 40 #[.func (.yield l) #[] #[], .pointer (some ⟨Bs, 0, none⟩)] W fun e W' => (∃ v, e = .returned v) ∧
      ((∃ ys, Come len len ys ∧ J ys W') ∨ (∃ pre, (∃ k, k ≤ len ∧ Come len k pre) ∧ Jx pre W')) := by
  refine callsIn_of_wp Try.func40 rfl h7 ?_ hro
  simp only [Try.ntmps40, List.size_toArray, List.length_cons, List.length_nil, Nat.reduceAdd, Nat.reduceSub, Array.replicate_succ, Array.replicate_zero, List.push_toArray, List.append_toArray, List.nil_append, List.cons_append]
  gi_wp2
  gi_loopw [3] (fun i wr => ∃ k : Nat, k ≤ len ∧ (∃ z : Int, i = .int .i64 z ∧ z = (len : Int) - 1 - (k : Int)) ∧ (∃ pre, Come len k pre ∧ J pre wr) ∧ Below n₀ W wr)
    (fun i _ => (intOf i + 1).toNat)
  case atStart => exact ⟨0, Nat.zero_le _, ⟨_, rfl, by omega⟩, ⟨[], Come.nil _, h0⟩, Below.refl _ _⟩
  case round =>
    obtain ⟨k, hk, ⟨z, rfl, hz⟩, ⟨pre, hpre, hJs⟩, hnx⟩ := hrel
    have hBx := (hnx.cell (p := ⟨Bs, 0, none⟩) hBs2).trans hBs
    by_cases hlt : k < len
    · obtain ⟨m, hm⟩ : ∃ m : Nat, m = len - 1 - k := ⟨_, rfl⟩
      obtain rfl : z = (m : Int) := by omega
      have hm2 : m < len := by omega
      have hcx : wr.cell? ⟨b, off + m, none⟩ = some (.int .u32 (dg xs m)) := (hnx.cell (p := ⟨b, off + m, none⟩) hb).trans (hc m hm2)
      obtain ⟨fn, tmps, assign, body, hy, hR⟩ := hY _ ⟨m, hm2⟩ wr hJs (by rw [hpre.len]; exact hlt)
      dsimp only at hy
      have Hm := Lib.hid hm
      have Hp := Lib.hid hpre
      have Hz := Lib.hid hz
      clear hm hz hpre
      gi_wp2
      refine hR.mono ?_
      rintro e W3 (⟨rfl, hJ3, hk3⟩ | ⟨rfl, hJx3⟩)
      · gi_wp2
        go_roundw
        case rel => exact ⟨k + 1, by omega, ⟨_, rfl, by have := Hz.out; omega⟩, ⟨_, Hp.out.succ ⟨m, hm2⟩ Hm.out, hJ3⟩, hnx.trans hk3⟩
        case measure => simp [intOf]
      · gi_wp2
        refine bodyPost_ret (results_none rfl _ _ _) rfl ?_
        exact ⟨⟨_, rfl⟩, .inr ⟨_, ⟨k + 1, by omega, Hp.out.succ ⟨m, hm2⟩ Hm.out⟩, hJx3⟩⟩
    · obtain rfl : k = len := by omega
      have hz2 : z < 0 := by omega
      have hz3 : ¬ (0 : Int) ≤ z := by omega
      clear hz
      gi_wp2
      go_end0
      exact ⟨⟨_, rfl⟩, .inl ⟨_, hpre, hJs⟩⟩

set_option maxRecDepth 100000 in
set_option maxHeartbeats 2000000 in
theorem back1_none_in (F : Fence) (n : Nat) (h7 : F.fn 40) (hro : F.round = none) (l Bs cap : Nat) (A : Option Addr) {len : Nat} (J : List (Pl len) → World → Prop) (W : World) (hBs : W.cell? ⟨Bs, 0, none⟩ = some (.slice A 0 cap)) (h0 : J [] W) :
    CallsIn F n Try.prog 40 #[.func (.yield l) #[] #[], .pointer (some ⟨Bs, 0, none⟩)] W fun e W' => (∃ v, e = .returned v) ∧ J [] W' := by
  refine callsIn_of_wp Try.func40 rfl h7 ?_ hro
  simp only [Try.ntmps40, List.size_toArray, List.length_cons, List.length_nil, Nat.reduceAdd, Nat.reduceSub, Array.replicate_succ, Array.replicate_zero, List.push_toArray, List.append_toArray, List.nil_append, List.cons_append]
  gi_wp2
  gi_loopw [3] (fun i wr => i = .int .i64 (-1) ∧ J [] wr) (fun _ _ => 0)
  case atStart => exact ⟨rfl, h0⟩
  case round =>
    obtain ⟨rfl, hJs⟩ := hrel
    gi_wp2
    go_end0
    exact ⟨⟨_, rfl⟩, hJs⟩

set_option maxHeartbeats 1000000 in
theorem back_in (F : Fence) (n : Nat) (h5 : F.fn 30) (hro : F.round = none) (a : Option Addr) (len cap : Nat) (w : World) :
    CallsIn F n Try.prog 30 #[.slice a len cap] w fun e w' => e = .returned (.func (.func 40) #[] #[.pointer (some ⟨w.heap.size, 0, none⟩)]) ∧ w' = w.alloc (.cells #[.slice a len cap] 28) := by
  refine callsIn_of_wp Try.func30 rfl h5 ?_ hro
  simp only [Try.ntmps30, List.size_toArray, List.length_cons, List.length_nil, Nat.reduceAdd, Nat.reduceSub, Array.replicate_succ, Array.replicate_zero, List.push_toArray, List.append_toArray, List.nil_append, List.cons_append]
  gi_wp2
  go_ret
  exact ⟨rfl, rfl⟩

theorem back_stops (F : Fence) (n : Nat) (h7 : F.fn 40) (hro : F.round = none) (hn : 1 ≤ n) (Bs n₀ : Nat) (A : Option Addr) (len cap : Nat) (xs : List Nat) (w : World) (hBs : Bs < n₀) (hn₀ : n₀ ≤ w.heap.size)
    (hc : w.cell? ⟨Bs, 0, none⟩ = some (.slice A len cap)) (hI : RL w A len xs) (hA : ∀ a, A = some a → 0 < len → a.block < n₀) :
    SeqStopsK F n Try.prog 40 #[.pointer (some ⟨Bs, 0, none⟩)] (fun x : Pl len => #[Value.int .i64 (x.1 : Int), Value.int .u32 (dg xs x.1 : Int)]) (Below n₀) (fun ys => Come len len ys)
      (fun pre => ∃ k, k ≤ len ∧ Come len k pre) len w := fun l J Jx W hW _ _ hY h0 => by
  have hc' := (hW.cell (p := ⟨Bs, 0, none⟩) (show Bs < w.heap.size by omega)).trans hc
  by_cases h : len = 0
  · subst h
    exact (back1_none_in F n h7 hro l Bs cap A J W hc' h0).mono fun e W' ⟨he, hj⟩ => ⟨he, .inl ⟨_, Come.nil _, hj⟩⟩
  · obtain ⟨b, off, rfl, hb, hcs⟩ := hI.2.2.2 (by omega)
    have hb2 : b < n₀ := hA _ rfl (by omega)
    exact back1_in F n h7 hro hn l Bs n₀ b off len cap xs hI.2.1 hb2 J Jx hY W hc' hBs (fun j hj => (hW.cell (p := ⟨b, off + j, none⟩) hb).trans (hcs j hj)) h0

/-! ### a comparison from the highest digit down -/
theorem top_lt {xs zs : List Nat} (hx : Dig xs) {j : Nat} (hj : j < xs.length) (he : ∀ i, j < i → dg xs i = dg zs i) (hl : dg xs j < dg zs j) (m : Nat) (hm : j < m) : val (xs.take m) < val (zs.take m) := by
  induction m with
  | zero => omega
  | succ m ih =>
    rw [val_take_next, val_take_next]
    by_cases h : j = m
    · subst h
      have h1 : val (xs.take j) < 4294967296 ^ j := by
        have := val_lt (dig_take hx j)
        rwa [List.length_take, Nat.min_eq_left (by omega)] at this
      have h2 : 4294967296 ^ j * (dg xs j + 1) ≤ 4294967296 ^ j * dg zs j := Nat.mul_le_mul_left _ hl
      rw [Nat.mul_add] at h2
      omega
    · have := ih (by omega)
      rw [he m (by omega)]
      omega
theorem top_eq {xs zs : List Nat} (he : ∀ i, dg xs i = dg zs i) (m : Nat) : val (xs.take m) = val (zs.take m) := by
  induction m with
  | zero => rfl
  | succ m ih => rw [val_take_next, val_take_next, ih, he m]
theorem len_lt {x z : Nat} (h : (digs x).length < (digs z).length) : x < z := by
  have h1 := (digs_len_le (n := x)).1 (Nat.le_refl _)
  have h2 : ¬ z < 4294967296 ^ (digs x).length := fun h3 => by
    have := digs_len_le.2 h3
    omega
  omega
end Go.Proofs.Ytgioppkggpfnoaa.Nu
end

section
/- The walk of limbs.Compare. -/
set_option linter.unusedVariables false
namespace Go.Proofs.Ytgioppkggpfnoaa.Nu
open Go.RowKit Go.Proofs Go.Shelf
attribute [local go_sem] Oper.semAt_some

/-- -1, 0 or 1. -/
def cmp (x z : Nat) : Int := if x < z then -1 else if z < x then 1 else 0
theorem cmp_lt {x z : Nat} (h : x < z) : cmp x z = -1 := by simp [cmp, h]
theorem cmp_gt {x z : Nat} (h : z < x) : cmp x z = 1 := by simp [cmp, h, Nat.lt_asymm h]
theorem cmp_eq {x z : Nat} (h : x = z) : cmp x z = 0 := by simp [cmp, h]

/-- What the comparison has found out so far: the digits that have come are the other one's. -/
def Same (xs zs : List Nat) {len : Nat} (pre : List (Pl len)) : Prop := ∀ p ∈ pre, dg xs p.1 = dg zs p.1
def Found (xs zs : List Nat) {len : Nat} (pre : List (Pl len)) (r : Int) : Prop := ∃ ini last, pre = ini ++ [last] ∧ Same xs zs ini ∧ ((dg xs last.1 < dg zs last.1 ∧ r = -1) ∨ (dg zs last.1 < dg xs last.1 ∧ r = 1))
theorem cmp_same {xs zs : List Nat} {len : Nat} {ys : List (Pl len)} (h1 : xs.length = len) (h2 : zs.length = len) (hc : Come len len ys) (hs : Same xs zs ys) : cmp (val xs) (val zs) = 0 := by
  have he : ∀ i, dg xs i = dg zs i := fun i => by
    by_cases hi : i < len
    · obtain ⟨p, hp, rfl⟩ := hc.mem hi (by omega)
      exact hs p hp
    · rw [dg_out (by omega), dg_out (by omega)]
  have := top_eq he len
  rw [List.take_of_length_le (by omega), List.take_of_length_le (by omega)] at this
  exact cmp_eq this
theorem cmp_found {xs zs : List Nat} {len k : Nat} {pre : List (Pl len)} {r : Int} (hx : Dig xs) (hz : Dig zs) (h1 : xs.length = len) (h2 : zs.length = len) (hc : Come len k pre) (hf : Found xs zs pre r) : cmp (val xs) (val zs) = r := by
  obtain ⟨ini, x, rfl, hs, h⟩ := hf
  obtain ⟨m, rfl, hc1, hx1⟩ := hc.last
  have hx2 := x.2
  have he : ∀ i, x.1 < i → dg xs i = dg zs i := fun i hi0 => by
    by_cases hi : i < len
    · obtain ⟨p, hp, rfl⟩ := hc1.mem hi (by omega)
      exact hs p hp
    · rw [dg_out (by omega), dg_out (by omega)]
  rcases h with ⟨h, rfl⟩ | ⟨h, rfl⟩
  · have := top_lt hx (by omega) he h len x.2
    rw [List.take_of_length_le (by omega), List.take_of_length_le (by omega)] at this
    exact cmp_lt this
  · have := top_lt hz (by omega) (fun i hi => (he i hi).symm) h len x.2
    rw [List.take_of_length_le (by omega), List.take_of_length_le (by omega)] at this
    exact cmp_gt this

set_option maxRecDepth 100000 in
set_option maxHeartbeats 4000000 in
theorem compare_in (F : Fence) (n : Nat) (h4 : F.fn 16) (h6 : F.fn 30) (h8 : F.fn 40) (hro : F.round = none) (hn : 3 ≤ n) (A B : Option Addr) (len c d : Nat) (xs zs : List Nat) (w : World) (hI : RL w A len xs) (hZ : RL w B len zs) :
    CallsIn F n Try.prog 16 #[.slice A len c, .slice B len d] w fun e W' => e = .returned (.int .i64 (cmp (val xs) (val zs))) ∧ Below w.heap.size w W' := by
  have h1 : 1 ≤ n := by omega
  refine callsIn_of_wp_marks Try.func16 rfl h4 ?_ hro
  simp only [Try.ntmps16, List.size_toArray, List.length_cons, List.length_nil, Nat.reduceAdd, Nat.reduceSub, Array.replicate_succ, Array.replicate_zero, List.push_toArray, List.append_toArray, List.nil_append, List.cons_append]
  gi_wp2_with (gi_at_call 30; refine (back_in F (n - 1) h6 hro _ _ _ _).mono ?_; rintro e w' ⟨rfl, rfl⟩)
  have bZ := Boxed.new w 28 (.slice B len d)
  have bR := Boxed.new (w.alloc (.cells #[.slice B len d] 28)) 3 (.int .i64 0)
  have bN := Boxed.new ((w.alloc (.cells #[.slice B len d] 28)).alloc (.cells #[.int .i64 0] 3)) 28 (.slice A len c)
  rw [World.size_alloc] at bR
  rw [World.size_alloc, World.size_alloc] at bN
  have hB0 : Below w.heap.size w (((w.alloc (.cells #[.slice B len d] 28)).alloc (.cells #[.int .i64 0] 3)).alloc (.cells #[.slice A len c] 28)) := (((Below.refl _ w).alloc (Nat.le_refl _) _).alloc (by simp) _).alloc (by simp; omega) _
  have hA : ∀ a, A = some a → 0 < len → a.block < w.heap.size + 1 + 1 + 1 := fun a ha hl => by
    obtain ⟨b1, o1, rfl, hl1, _⟩ := hI.2.2.2 hl
    cases ha
    simp; omega
  refine wpIn_rangeFunc_ownG hro h1 (gf := 40) (lb := #[.pointer (some ⟨w.heap.size + 1 + 1, 0, none⟩)]) rfl h8 (enters_of Try.func40 (by kernel_rfl) rfl)
    (back_stops F (n - 1) h8 hro (by omega) (w.heap.size + 1 + 1) (w.heap.size + 1 + 1 + 1) A len c xs _ (by omega) (by simp) bN.cell (hI.below hB0) hA) belowK_t (belowK_b (by simp)) (Below.refl _ _) (fun _ => rfl)
    (fun pre W => (Same xs zs pre ∧ W.cell? ⟨w.heap.size, 0, none⟩ = some (.slice B len d) ∧ W.cell? ⟨w.heap.size + 1, 0, none⟩ = some (.int .i64 0) ∧ W.frozen? ⟨w.heap.size + 1, 0, none⟩ = false) ∧ Below w.heap.size w W)
    (fun c pre W => (c = .ret ∧ ∃ r, Found xs zs pre r ∧ W.cell? ⟨w.heap.size + 1, 0, none⟩ = some (.int .i64 r)) ∧ Below w.heap.size w W)
    (OwnFrom.and (Own.from (fun s A B row hs hg hr => ⟨hs.1, cell_kept hs.2.1 hg hr, cell_kept hs.2.2.1 hg hr, (frozen_kept hs.2.2.1 hg hr).trans hs.2.2.2⟩) _) (ownFrom_below (Nat.le_refl _) (by simp; omega)))
    (fun c => OwnFrom.and (Own.from (fun s A B row hs hg hr => by obtain ⟨hc, r, e1, e2⟩ := hs; exact ⟨hc, r, e1, cell_kept e2 hg hr⟩) _) (ownFrom_below (Nat.le_refl _) (by simp; omega)))
    ⟨⟨fun p hp => by simp at hp, ((bZ.alloc _).alloc _).cell, (bR.alloc _).cell, (bR.alloc _).frozen⟩, hB0⟩
    (fun x => { tmps := #[.slice A len c, .slice B len d, undef, .pointer (some ⟨w.heap.size, 0, none⟩), .pointer (some ⟨w.heap.size + 1, 0, none⟩), .int .i64 (x.1 : Int), .int .u32 (dg xs x.1 : Int), .slice A len c, .int .i64 len, .slice B len d, .int .i64 len, .bool false, undef, undef, undef, undef, undef, .slice A len c, .func (.func 40) #[] #[.pointer (some ⟨w.heap.size + 1 + 1, 0, none⟩)], .int .i64 (x.1 : Int), .int .u32 (dg xs x.1 : Int), undef, undef, undef, undef, undef, undef, undef, undef, undef, undef, undef, undef, undef, undef], defers := [] }) ?assign ?body ?done ?stop
  case assign =>
    intro l x W K hK
    gi_wp2
    exact hK
  case body =>
    rintro l pre x W ⟨⟨hp, hcz, hcr, hfr⟩, hB⟩ _
    obtain ⟨i, hi⟩ := x
    obtain ⟨b2, o2, rfl, hl2, hc2⟩ := hZ.2.2.2 (by omega)
    have hx2 := ((bcell hB).1 b2 (o2 + i) hl2).trans (hc2 i hi)
    clear hc2
    have Hp := Lib.hid hp
    clear hp
    by_cases hlt : dg xs i < dg zs i
    · have q : (dg xs i : Int) < (dg zs i : Int) := by omega
      gi_wp2
      exact ⟨(KeepsOthers.setCell _ _ _).from _, ⟨rfl, -1, ⟨pre, ⟨i, hi⟩, rfl, Hp.out, .inl ⟨hlt, rfl⟩⟩, World.cell?_setCell_same' _ _ _ (by rw [hcr]; rfl)⟩, hB.setCell (p := ⟨w.heap.size + 1, 0, none⟩) (by simp) _⟩
    · by_cases hgt : dg zs i < dg xs i
      · have q : ¬ (dg xs i : Int) < (dg zs i : Int) := by omega
        have q2 : (dg zs i : Int) < (dg xs i : Int) := by omega
        gi_wp2
        exact ⟨(KeepsOthers.setCell _ _ _).from _, ⟨rfl, 1, ⟨pre, ⟨i, hi⟩, rfl, Hp.out, .inr ⟨hgt, rfl⟩⟩, World.cell?_setCell_same' _ _ _ (by rw [hcr]; rfl)⟩, hB.setCell (p := ⟨w.heap.size + 1, 0, none⟩) (by simp) _⟩
      · have q : ¬ (dg xs i : Int) < (dg zs i : Int) := by omega
        have q2 : ¬ (dg zs i : Int) < (dg xs i : Int) := by omega
        have Hq := Lib.hid (show dg xs i = dg zs i by omega)
        gi_wp2
        exact ⟨KeepsFrom.refl _ _, Below.refl _ _, ⟨fun p hp' => (List.mem_append.1 hp').elim (Hp.out p) (fun e => by simp at e; subst e; exact Hq.out), hcz, hcr, hfr⟩, hB⟩
  case done =>
    rintro D ys W hD hys ⟨⟨hne, hcz, hcr, hfr⟩, hB⟩ hK
    have Hr := Lib.hid (cmp_same hI.1 hZ.1 hys hne)
    clear hne hys
    gi_wp2
    have hK' := (KeepsOthers.setCell W ⟨w.heap.size + 1, 0, none⟩ (.int .i64 0)).same D _ hK rfl
    refine ⟨by simp, .inl ⟨_, _, rfl, run_takeDeferred hK', ?_⟩⟩
    have hc5 := cell_kept (World.cell?_setCell_same' W ⟨w.heap.size + 1, 0, none⟩ (.int .i64 0) (by rw [hcr]; rfl)) (grownBy_putObj' _ D (.deferred none)) (fun r e => by cases e; exact ⟨_, hK', rfl⟩)
    refine ⟨.int .i64 0, ?_, by rw [Hr.out], (hB.setCell (p := ⟨w.heap.size + 1, 0, none⟩) (by simp) _).trans (belowK_b (w := w) (Nat.le_refl _) _ D _ _ (by simp at hD; omega) hK' rfl rfl)⟩
    simp [results, Try.f16, go_sem, hc5]
  case stop =>
    rintro D c pre W hD ⟨k, hk, hpre⟩ ⟨⟨rfl, r, hfo, hcr⟩, hB⟩ hK
    have Hr := Lib.hid (cmp_found hI.2.2.1 hZ.2.2.1 hI.1 hZ.1 hpre hfo)
    clear hfo hpre
    gi_wp2
    refine ⟨by simp, .inl ⟨_, _, rfl, run_takeDeferred hK, ?_⟩⟩
    have hc5 := cell_kept hcr (grownBy_putObj' _ D (.deferred none)) (fun r e => by cases e; exact ⟨_, hK, rfl⟩)
    refine ⟨.int .i64 r, ?_, by rw [Hr.out], hB.trans (belowK_b (w := w) (Nat.le_refl _) W D _ _ (by simp at hD; omega) hK rfl rfl)⟩
    simp [results, Try.f16, go_sem, hc5]

set_option maxRecDepth 100000 in
set_option maxHeartbeats 4000000 in
theorem compare_any (w : World) (A B : Option Addr) (n m c d x z : Nat) (hx : RN w A n x) (hz : RN w B m z) :
    Calls Try.prog 16 #[.slice A n c, .slice B m d] w fun e w' => e = .returned (.int .i64 (cmp x z)) ∧ Below w.heap.size w w' := by
  by_cases he : n = m
  · subst he
    have h := callsIn_wide.1 (compare_in Fence.wide 9 trivial trivial trivial rfl (by omega) A B n c d (digs x) (digs z) w hx hz)
    rw [val_digs, val_digs] at h
    exact h
  · have h1 := hx.1
    have h2 := hz.1
    have q0 : ((n : Int) == (m : Int)) = false := by rw [beq_eq_false_iff_ne]; omega
    by_cases hlt : n < m
    · have hl := Lib.hid (len_lt (x := x) (z := z) (by omega))
      have q1 : (n : Int) < (m : Int) := by omega
      clear h1 h2 hx hz
      go_enter Try.func16, Try.ntmps16
      go_wp2
      refine bodyPost_ret (v := .int .i64 (-1)) (by simp [results, Try.f16, go_sem]) rfl ?_
      exact ⟨ret_int (cmp_lt hl.out).symm, ((Below.refl _ w).alloc (Nat.le_refl _) _).alloc (by simp) _⟩
    · have hl := Lib.hid (len_lt (x := z) (z := x) (by omega))
      have q1 : ¬ (n : Int) < (m : Int) := by omega
      clear h1 h2 hx hz
      go_enter Try.func16, Try.ntmps16
      go_wp2
      refine bodyPost_ret (v := .int .i64 1) (by simp [results, Try.f16, go_sem]) rfl ?_
      exact ⟨ret_int (cmp_gt hl.out).symm, ((Below.refl _ w).alloc (Nat.le_refl _) _).alloc (by simp) _⟩
end Go.Proofs.Ytgioppkggpfnoaa.Nu
end

section
/- The walk of limbs.Sub. -/
set_option linter.unusedVariables false
namespace Go.Proofs.Ytgioppkggpfnoaa.Nu
open Go.RowKit Go.Proofs

theorem digs_mono {x z : Nat} (h : z ≤ x) : (digs z).length ≤ (digs x).length := by
  have h1 := (digs_len_le (n := x)).1 (Nat.le_refl _)
  exact digs_len_le.2 (by omega)
theorem cmp_nonneg {x z : Nat} (h : z ≤ x) : ¬ cmp x z < 0 := by
  unfold cmp
  split
  · omega
  · split <;> omega
theorem sub_step {v i ow a b x y o ow' : Nat} (h : v + b = a + ow * 4294967296 ^ i) (ho : o + ow + y = x + ow' * 4294967296) :
    (v + 4294967296 ^ i * o) + (b + 4294967296 ^ i * y) = (a + 4294967296 ^ i * x) + ow' * 4294967296 ^ (i + 1) := by
  rw [Nat.pow_succ]
  generalize 4294967296 ^ i = p at *
  have e2 : p * (o + ow + y) = p * (x + ow' * 4294967296) := by rw [ho]
  simp only [Nat.mul_add] at e2
  have e3 : ow' * (p * 4294967296) = p * (ow' * 4294967296) := by rw [Nat.mul_left_comm]
  have e4 : ow * p = p * ow := Nat.mul_comm _ _
  rw [e3]
  omega
/-- What a round of the subtraction keeps. -/
structure SubRel (xs zs : List Nat) (n : Nat) (W : World) (g : Nat) (i : Nat) (ow : Nat) (w : World) : Prop where
  ex : ∃ ys, Blk w g ys ∧ ys.length = n ∧ Dig ys ∧ val (ys.take i) + val (zs.take i) = val (xs.take i) + ow * 4294967296 ^ i
  ow : ow ≤ 1
  bel : Below W.heap.size W w
theorem SubRel.start (xs zs : List Nat) (n : Nat) (w W : World) (hb : Below W.heap.size W w) : SubRel xs zs n W w.heap.size 0 0 (w.alloc (.cells (mk0 n) 64)) :=
  ⟨⟨_, Blk.made w n, by simp, dig_zeros _, by simp [val]⟩, by omega, hb.alloc hb.size _⟩
theorem SubRel.step {xs zs : List Nat} {n : Nat} {W w : World} {g i ow : Nat} (h : SubRel xs zs n W g i ow w) (hg : W.heap.size ≤ g) (hi : i < n) (o ow' : Nat) (ho : o + ow + dg zs i = dg xs i + ow' * 4294967296) (h1 : ow' ≤ 1) (ho2 : o < 4294967296) (v : Int) (hv : v = (o : Int)) :
    SubRel xs zs n W g (i + 1) ow' (w.setCell ⟨g, i, none⟩ (.int .u32 v)) := by
  obtain ⟨⟨ys, hB, hl, hd, he⟩, hcy, hb⟩ := h
  refine ⟨⟨_, hB.set i o v hv, by simpa using hl, dig_set hd i ho2, ?_⟩, h1, hb.setCell hg _⟩
  rw [val_set_take ys i _ (by omega), val_take_next, val_take_next]
  exact sub_step he ho
theorem SubRel.stop {xs zs : List Nat} {n : Nat} {W w : World} {g ow : Nat} (h : SubRel xs zs n W g n ow w) (hx : xs.length = n) (hz : zs.length ≤ n) (hn : n ≤ 140737488355328) (hle : val zs ≤ val xs) :
    ∃ ys, RL w (some ⟨g, 0, none⟩) n ys ∧ val ys = val xs - val zs := by
  obtain ⟨⟨ys, hB, hl, hd, he⟩, hcy, hb⟩ := h
  have hr := hB.read hd (by omega)
  rw [hl] at hr
  refine ⟨_, hr, ?_⟩
  rw [List.take_of_length_le (by omega), List.take_of_length_le (by omega), List.take_of_length_le (by omega)] at he
  have hlt := val_lt hd
  rw [hl] at hlt
  have : ow = 0 := by
    false_or_by_contra
    have : ow = 1 := by omega
    subst this
    omega
  subst this
  omega
theorem SubRel.cell {xs zs : List Nat} {n : Nat} {W w : World} {g i ow : Nat} (h : SubRel xs zs n W g i ow w) (j : Nat) (hj : j < n) : (∃ v, w.cell? ⟨g, j, none⟩ = some v) ∧ w.frozen? ⟨g, j, none⟩ = false := by
  obtain ⟨⟨ys, hB, hl, hd, he⟩, hcy, hb⟩ := h
  exact ⟨⟨_, hB.cell j (by omega)⟩, hB.free j⟩

theorem wrap_u64 (a : Int) : IntKind.u64.wrap a = a % 18446744073709551616 := by simp [IntKind.wrap, IntKind.signed, IntKind.bits]
theorem sub_word (x t : Int) (h0 : 0 ≤ x) (h1 : x < 4294967296) (h2 : 0 ≤ t) (h3 : t ≤ 4294967296) :
    ∃ o ow : Nat, IntKind.u64.wrap (x - t) / 9223372036854775808 = (ow : Int) ∧ IntKind.u64.wrap (x - t) % 4294967296 = (o : Int) ∧ (o : Int) + t = x + (ow : Int) * 4294967296 ∧ ow ≤ 1 ∧ o < 4294967296 := by
  rw [wrap_u64]
  by_cases h : t ≤ x
  · exact ⟨(x - t).toNat, 0, by omega, by omega, by omega, by omega, by omega⟩
  · exact ⟨(x - t + 4294967296).toNat, 1, by omega, by omega, by omega, by omega, by omega⟩
set_option maxHeartbeats 4000000 in
set_option maxRecDepth 100000 in
theorem sub_any (w : World) (A B : Option Addr) (n m c d x z : Nat) (hx : RN w A n x) (hz : RN w B m z) (hc : n ≤ c) (hd : m ≤ d) (hn : n ≤ 512) (hle : z ≤ x) :
    Calls Try.prog 51 #[.slice A n c, .slice B m d] w fun e w' => ∃ A' k, e = .returned (.tuple #[.slice A' k k, .int .i64 0]) ∧ RN w' A' k (x - z) ∧ Below w.heap.size w w' := by
  have hnx := hx.1
  have hmz := hz.1
  have hmn : m ≤ n := by have := digs_mono hle; omega
  have hcmp := cmp_nonneg hle
  have HLE := Lib.hid hle
  have HX := Lib.hid hx
  have HZ := Lib.hid hz
  have HN := Lib.hid hnx
  have HM := Lib.hid hmz
  clear hx hz hnx hmz hle
  go_enter Try.func51, Try.ntmps51
  go_wp2_with fail
  refine (compare_any _ A B n m c d x z HX.out HZ.out).mono ?_
  rintro e w1 ⟨rfl, hB1⟩
  generalize cmp x z = t at *
  go_wp2_with fail
  rw [make_u32 n (by omega)]
  simp only [Result.andThen]
  rw [Oper.upon_value]
  have H0 := Lib.hid (SubRel.start (digs x) (digs z) n w1 w hB1)
  have hle1 := hB1.size
  obtain ⟨g, hg⟩ : ∃ g, g = w1.heap.size := ⟨_, rfl⟩
  rw [← hg] at H0 hle1 ⊢
  clear hg
  generalize w1.alloc (.cells (mk0 n) 64) = w0 at *
  go_wp2
  go_loopw [7, 21] (fun c k wr => ∃ ow i : Nat, c = .int .u64 ow ∧ k = .int .i64 i ∧ i ≤ n ∧ Hid (SubRel (digs x) (digs z) n w g i ow wr)) (fun _ k _ => n - (intOf k).toNat)
  case atStart => exact ⟨0, 0, rfl, rfl, Nat.zero_le _, H0⟩
  case round =>
    obtain ⟨ow, i, rfl, rfl, hi, Hr⟩ := hrel
    by_cases hi2 : i < n
    · obtain ⟨b1, o1, rfl, hl1, hc1⟩ := HX.out.2.2.2 (by omega)
      have hx1 := ((bcell Hr.out.bel).1 b1 (o1 + i) hl1).trans (hc1 i hi2)
      have d1 := dg_lt (dig_digs x) i
      have d2 := dg_lt (dig_digs z) i
      have hcy := Hr.out.ow
      obtain ⟨⟨v0, hv0⟩, hf0⟩ := Hr.out.cell i hi2
      have q1 : (i : Int) < (n : Int) := by omega
      by_cases hi3 : i < m
      · obtain ⟨b2, o2, rfl, hl2, hc2⟩ := HZ.out.2.2.2 (by omega)
        have hx2 := ((bcell Hr.out.bel).1 b2 (o2 + i) hl2).trans (hc2 i hi3)
        clear hc1 hc2
        have q2 : (i : Int) < (m : Int) := by omega
        obtain ⟨o, ow2, e1, e2, e3, e4, e5⟩ := sub_word (dg (digs x) i : Int) ((ow : Int) + (dg (digs z) i : Int)) (by omega) (by omega) (by omega) (by omega)
        have E1 := Lib.hid e1
        have E2 := Lib.hid e2
        have E3 := Lib.hid e3
        clear e1 e2 e3
        go_wp2
        go_roundw
        case rel => exact ⟨ow2, i + 1, by rw [E1.out], by go_num, hi2, SubRel.step Hr.out hle1 hi2 o ow2 (by have := E3.out; omega) e4 e5 _ E2.out⟩
        case measure => simp only [intOf]; omega
      · clear hc1
        have q2 : ¬ (i : Int) < (m : Int) := by omega
        have z0 : dg (digs z) i = 0 := dg_out (by rw [HM.out]; omega)
        have Z0 := Lib.hid z0
        clear z0
        obtain ⟨o, ow2, e1, e2, e3, e4, e5⟩ := sub_word (dg (digs x) i : Int) (ow : Int) (by omega) (by omega) (by omega) (by omega)
        have E1 := Lib.hid e1
        have E2 := Lib.hid e2
        have E3 := Lib.hid e3
        clear e1 e2 e3
        go_wp2
        go_roundw
        case rel => exact ⟨ow2, i + 1, by rw [E1.out], by go_num, hi2, SubRel.step Hr.out hle1 hi2 o ow2 (by have := E3.out; have := Z0.out; omega) e4 e5 _ E2.out⟩
        case measure => simp only [intOf]; omega
    · obtain rfl : i = n := by omega
      clear hi2
      obtain ⟨ys, hys, hval⟩ := SubRel.stop Hr.out HN.out (by rw [HM.out]; omega) (by omega) (by rw [val_digs, val_digs]; exact HLE.out)
      rw [val_digs, val_digs] at hval
      have HY := Lib.hid hys
      have HV := Lib.hid hval
      have HF := Lib.hid (show Fit (val ys) by
        have h1 := (digs_len_le (n := x)).1 (Nat.le_of_eq HN.out)
        rw [hval]
        unfold Fit
        exact Nat.le_trans (digs_len_le.2 (show x - z < 4294967296 ^ i by omega)) hn)
      clear hys hval
      go_wp2_with fail
      refine (fits_any _ _ i _ ys HY.out (Nat.le_refl _) HF.out).mono ?_
      rintro e w' ⟨k, rfl, hk, rfl⟩
      go_wp2
      go_ret2
      exact ⟨_, k, rfl, by rw [← HV.out]; exact hk, Hr.out.bel⟩
end Go.Proofs.Ytgioppkggpfnoaa.Nu
end

section
/- The walk of limbs.Mul. -/
set_option linter.unusedVariables false
namespace Go.Proofs.Ytgioppkggpfnoaa.Nu
open Go.RowKit Go.Proofs

theorem val_set : ∀ (ys : List Nat) (j d : Nat), j < ys.length → val (ys.set j d) + 4294967296 ^ j * dg ys j = val ys + 4294967296 ^ j * d
  | y :: ys, 0, d, _ => by simp [val, dg]; omega
  | y :: ys, j + 1, d, h => by
    have ih := val_set ys j d (by simpa using h)
    have e : dg (y :: ys) (j + 1) = dg ys j := by simp [dg]
    rw [List.set_cons_succ, val, val, e, Nat.pow_succ, Nat.mul_comm (4294967296 ^ j), Nat.mul_assoc, Nat.mul_assoc]
    generalize 4294967296 ^ j * dg ys j = p at *
    generalize 4294967296 ^ j * d = q at *
    omega
/-- A round of the inner loop. -/
theorem mul_step {v v' p cy x y o s q a b : Nat} (hs : s = cy + (x * y + o)) (hv : v' + p * o = v + p * (s % 4294967296)) (h : v + cy * p = a + x * b * q) :
    v' + s / 4294967296 * (p * 4294967296) = a + x * b * q + x * y * p := by
  have e := Nat.div_add_mod s 4294967296
  generalize s / 4294967296 = c at *
  generalize s % 4294967296 = r at *
  have e2 : p * (4294967296 * c + r) = p * s := by rw [e]
  rw [hs] at e2
  simp only [Nat.mul_add] at e2
  have e3 : c * (p * 4294967296) = p * (4294967296 * c) := by rw [Nat.mul_left_comm]; congr 1; exact Nat.mul_comm _ _
  have e4 : cy * p = p * cy := Nat.mul_comm _ _
  have e5 : x * y * p = p * (x * y) := Nat.mul_comm _ _
  rw [e3, e5]
  generalize p * (x * y) = t at *
  generalize x * b * q = t2 at *
  omega
/-- What a round of the multiplication keeps: k digits of the second one times the i-th of the first one are in. -/
structure MulRel (xs zs : List Nat) (n m : Nat) (W : World) (g : Nat) (i k cy : Nat) (w : World) : Prop where
  ex : ∃ ys, Blk w g ys ∧ ys.length = n + m ∧ Dig ys ∧ val ys + cy * 4294967296 ^ (i + k) = val (xs.take i) * val zs + dg xs i * val (zs.take k) * 4294967296 ^ i ∧ ∀ j, i + m ≤ j → dg ys j = 0
  cy : cy ≤ 4294967295
  bel : Below W.heap.size W w
theorem MulRel.start (xs zs : List Nat) (n m : Nat) (w W : World) (hb : Below W.heap.size W w) : MulRel xs zs n m W w.heap.size 0 0 0 (w.alloc (.cells (mk0 (n + m)) 64)) :=
  ⟨⟨_, Blk.made w (n + m), by simp, dig_zeros _, by simp [val, val_zeros], fun j _ => dg_zeros _ _⟩, by omega, hb.alloc hb.size _⟩
theorem MulRel.cell {xs zs : List Nat} {n m : Nat} {W w : World} {g i k cy : Nat} (h : MulRel xs zs n m W g i k cy w) (j : Nat) (hj : j < n + m) : ∃ o : Nat, o < 4294967296 ∧ w.cell? ⟨g, j, none⟩ = some (.int .u32 o) ∧ w.frozen? ⟨g, j, none⟩ = false ∧
    ∀ s : Nat, k < m → i < n → j = i + k → s = cy + (dg xs i * dg zs k + o) → s ≤ 18446744073709551615 → W.heap.size ≤ g → MulRel xs zs n m W g i (k + 1) (s / 4294967296) (w.setCell ⟨g, j, none⟩ (.int .u32 ((s % 4294967296 : Nat) : Int))) := by
  obtain ⟨⟨ys, hB, hl, hd, he, h0⟩, hcy, hb⟩ := h
  refine ⟨dg ys j, dg_lt hd j, hB.cell j (by omega), hB.free j, fun s hk hi hj2 hs hs2 hg => ⟨⟨_, hB.set j (s % 4294967296) _ rfl, by simpa using hl, dig_set hd j (Nat.mod_lt _ (by omega)), ?_, fun j2 hj3 => ?_⟩, by omega, hb.setCell hg _⟩⟩
  · have hv := val_set ys j (s % 4294967296) (by omega)
    subst hj2
    have := mul_step hs hv he
    rw [show i + (k + 1) = i + k + 1 by omega, Nat.pow_succ (n := 4294967296) (m := i + k), this, val_take_next, Nat.mul_add, Nat.add_mul, Nat.add_assoc]
    congr 2
    rw [Nat.pow_add]
    simp only [Nat.mul_assoc, Nat.mul_left_comm, Nat.mul_comm]
  · rw [dg_set_ne _ _ _ _ (by omega)]
    exact h0 j2 hj3
theorem MulRel.next {xs zs : List Nat} {n m : Nat} {W w : World} {g i cy : Nat} (h : MulRel xs zs n m W g i m cy w) (hz : zs.length = m) (hi : i < n) (hg : W.heap.size ≤ g) (v : Int) (hv : v = (cy : Int)) : MulRel xs zs n m W g (i + 1) 0 0 (w.setCell ⟨g, i + m, none⟩ (.int .u32 v)) := by
  obtain ⟨⟨ys, hB, hl, hd, he, h0⟩, hcy, hb⟩ := h
  refine ⟨⟨_, hB.set (i + m) cy v hv, by simpa using hl, dig_set hd _ (by omega), ?_, fun j hj => ?_⟩, by omega, hb.setCell hg _⟩
  · have hv2 := val_set ys (i + m) cy (by omega)
    rw [h0 (i + m) (by omega)] at hv2
    rw [List.take_of_length_le (l := zs) (by omega)] at he
    rw [val_take_next, List.take_zero]
    simp only [val, Nat.mul_zero, Nat.zero_mul, Nat.add_zero] at hv2 ⊢
    rw [hv2, Nat.mul_comm _ cy, he, Nat.add_mul]
    congr 1
    simp only [Nat.mul_assoc, Nat.mul_left_comm, Nat.mul_comm]
  · rw [dg_set_ne _ _ _ _ (by omega)]
    exact h0 j (by omega)
theorem MulRel.stop {xs zs : List Nat} {n m : Nat} {W w : World} {g : Nat} (h : MulRel xs zs n m W g n 0 0 w) (hx : xs.length = n) (hn : n + m ≤ 140737488355328) : ∃ ys, RL w (some ⟨g, 0, none⟩) (n + m) ys ∧ val ys = val xs * val zs := by
  obtain ⟨⟨ys, hB, hl, hd, he, h0⟩, hcy, hb⟩ := h
  have hr := hB.read hd (by omega)
  rw [hl] at hr
  refine ⟨_, hr, ?_⟩
  rw [List.take_of_length_le (l := xs) (by omega)] at he
  simpa [val] using he

set_option maxHeartbeats 4000000 in
set_option maxRecDepth 100000 in
theorem mul_any (w : World) (A B : Option Addr) (n m c d x z : Nat) (hx : RN w A n x) (hz : RN w B m z) (hc : n ≤ c) (hd : m ≤ d) (hs : n + m ≤ 513) (hf : Fit (x * z)) :
    Calls Try.prog 36 #[.slice A n c, .slice B m d] w fun e w' => ∃ A' k c', k ≤ c' ∧ e = .returned (.tuple #[.slice A' k c', .int .i64 0]) ∧ RN w' A' k (x * z) ∧ Below w.heap.size w w' := by
  have hnx := hx.1
  have hmz := hz.1
  have HX := Lib.hid hx
  have HZ := Lib.hid hz
  have HN := Lib.hid hnx
  have HM := Lib.hid hmz
  have HF := Lib.hid hf
  clear hx hz hnx hmz hf
  by_cases hn0 : n = 0
  · have hx0 : x = 0 := digs_eq_nil.1 (List.length_eq_zero_iff.1 (by rw [HN.out, hn0]))
    have Hx0 := Lib.hid hx0
    have q0 : ((n : Int) == 0) = true := by rw [hn0]; rfl
    clear hx0 hn0
    go_enter Try.func36, Try.ntmps36
    go_wp2
    go_ret2
    exact ⟨none, 0, 0, Nat.le_refl _, rfl, by rw [Hx0.out, Nat.zero_mul]; exact RN.zero _ _, Below.refl _ _⟩
  have q0 : ((n : Int) == 0) = false := by rw [beq_eq_false_iff_ne]; omega
  by_cases hm0 : m = 0
  · have hz0 : z = 0 := digs_eq_nil.1 (List.length_eq_zero_iff.1 (by rw [HM.out, hm0]))
    have Hz0 := Lib.hid hz0
    have q1 : ((m : Int) == 0) = true := by rw [hm0]; rfl
    clear hz0 hm0
    go_enter Try.func36, Try.ntmps36
    go_wp2
    go_ret2
    exact ⟨none, 0, 0, Nat.le_refl _, rfl, by rw [Hz0.out, Nat.mul_zero]; exact RN.zero _ _, Below.refl _ _⟩
  have q1 : ((m : Int) == 0) = false := by rw [beq_eq_false_iff_ne]; omega
  have q2 : ¬ (513 : Int) < (n : Int) + (m : Int) := by omega
  have E1 := Lib.hid (show ((n : Nat) : Int) + (m : Int) = ((n + m : Nat) : Int) by omega)
  go_enter Try.func36, Try.ntmps36
  go_wp2_with fail
  rw [E1.out, make_u32 (n + m) (by omega)]
  simp only [Result.andThen]
  rw [Oper.upon_value]
  have H0 := Lib.hid (MulRel.start (digs x) (digs z) n m w w (Below.refl _ _))
  generalize w.alloc (.cells (mk0 (n + m)) 64) = w0 at *
  go_wp2
  go_loopw [34] (fun k wr => ∃ i : Nat, k = .int .i64 i ∧ i ≤ n ∧ Hid (MulRel (digs x) (digs z) n m w w.heap.size i 0 0 wr)) (fun k _ => n - (intOf k).toNat)
  case atStart => exact ⟨0, rfl, Nat.zero_le _, H0⟩
  case round =>
    obtain ⟨i, rfl, hi, Hr⟩ := hrel
    by_cases hi2 : i < n
    · obtain ⟨b1, o1, rfl, hl1, hc1⟩ := HX.out.2.2.2 (by omega)
      have hx1 := ((bcell Hr.out.bel).1 b1 (o1 + i) hl1).trans (hc1 i hi2)
      have q3 : (i : Int) < (n : Int) := by omega
      go_wp2
      go_loopw [9, 41] (fun c k wr => ∃ cy k' : Nat, c = .int .u64 cy ∧ k = .int .i64 k' ∧ k' ≤ m ∧ Hid (MulRel (digs x) (digs z) n m w w.heap.size i k' cy wr)) (fun _ k _ => m - (intOf k).toNat)
      case atStart => exact ⟨0, 0, rfl, rfl, Nat.zero_le _, Hr⟩
      case round =>
        obtain ⟨cy, k, rfl, rfl, hk, Hk⟩ := hrel
        have hcy := Hk.out.cy
        by_cases hk2 : k < m
        · obtain ⟨b2, o2, rfl, hl2, hc2⟩ := HZ.out.2.2.2 (by omega)
          have hx2 := ((bcell Hk.out.bel).1 b2 (o2 + k) hl2).trans (hc2 k hk2)
          obtain ⟨o, ho, hco, hfo, hstep⟩ := Hk.out.cell (i + k) (by omega)
          have HS := Lib.hid hstep
          have d1 := dg_lt (dig_digs x) i
          have d2 := dg_lt (dig_digs z) k
          have q4 : (k : Int) < (m : Int) := by omega
          have hp : dg (digs x) i * dg (digs z) k ≤ 4294967295 * 4294967295 := Nat.mul_le_mul (by omega) (by omega)
          clear hstep hc1 hc2
          generalize dg (digs x) i = X at *
          generalize dg (digs z) k = Z at *
          have hp2 : (X : Int) * (Z : Int) = ((X * Z : Nat) : Int) := by simp
          have HP := Lib.hid hp2
          have p1 : (X : Int) * (Z : Int) ≤ 18446744065119617025 := by rw [hp2]; omega
          have p2 : 0 ≤ (X : Int) * (Z : Int) := by rw [hp2]; omega
          clear hp2
          go_wp2
          go_roundw
          case rel =>
            have h := HS.out (cy + (X * Z + o)) hk2 hi2 rfl rfl (by omega) (Nat.le_refl _)
            have e1 : ((cy : Int) + ((X : Int) * (Z : Int) + (o : Int))) = ((cy + (X * Z + o) : Nat) : Int) := by rw [HP.out]; omega
            refine ⟨(cy + (X * Z + o)) / 4294967296, k + 1, by rw [e1]; rfl, by go_num, hk2, ?_⟩
            rw [e1]
            exact h
          case measure => simp only [intOf]; omega
        · obtain rfl : k = m := by omega
          obtain ⟨o, ho, hco, hfo, hstep⟩ := Hk.out.cell (i + k) (by omega)
          have HS := Lib.hid (Hk.out.next HM.out hi2 (Nat.le_refl _) (cy : Int) rfl)
          clear hstep hc1 hk2
          go_wp2
          go_roundw
          case rel => exact ⟨i + 1, by go_num, hi2, HS⟩
          case measure => simp only [intOf]; omega
    · obtain rfl : i = n := by omega
      clear hi2
      obtain ⟨ys, hys, hval⟩ := MulRel.stop Hr.out HN.out (by omega)
      rw [val_digs, val_digs] at hval
      have HY := Lib.hid hys
      have HV := Lib.hid hval
      clear hys hval
      go_wp2_with fail
      refine (fits_any _ _ (i + m) _ ys HY.out (Nat.le_refl _) (by rw [HV.out]; exact HF.out)).mono ?_
      rintro e w' ⟨k, rfl, hk, rfl⟩
      go_wp2
      go_ret2
      exact ⟨_, k, k, Nat.le_refl _, rfl, by rw [← HV.out]; exact hk, Hr.out.bel⟩
end Go.Proofs.Ytgioppkggpfnoaa.Nu
end

section
/- What a round of the shift to the left keeps. -/
set_option linter.unusedVariables false
namespace Go.Proofs.Ytgioppkggpfnoaa.Nu
open Go.RowKit Go.Proofs

/-- What a round of the shift to the left keeps. -/
structure LeftRel (xs : List Nat) (n q r : Nat) (W : World) (g : Nat) (i : Nat) (w : World) : Prop where
  ex : ∃ ys, Blk w g ys ∧ ys.length = n + q + 1 ∧ Dig ys ∧ val ys = val (xs.take i) * (4294967296 ^ q * 2 ^ r) ∧ dg ys (i + q) < 2 ^ r ∧ ∀ j, i + q < j → dg ys j = 0
  bel : Below W.heap.size W w
theorem LeftRel.start (xs : List Nat) (n q r : Nat) (w W : World) (hb : Below W.heap.size W w) : LeftRel xs n q r W w.heap.size 0 (w.alloc (.cells (mk0 (n + q + 1)) 64)) :=
  ⟨⟨_, Blk.made w (n + q + 1), by simp, dig_zeros _, by simp [val, val_zeros], by rw [dg_zeros]; exact Nat.two_pow_pos r, fun j _ => dg_zeros _ _⟩, hb.alloc hb.size _⟩

theorem LeftRel.cell {xs : List Nat} {n q r : Nat} {W w : World} {g i : Nat} (h : LeftRel xs n q r W g i w) (hi : i < n) : ∃ y : Nat, y < 2 ^ r ∧ w.cell? ⟨g, i + q, none⟩ = some (.int .u32 y) ∧ w.frozen? ⟨g, i + q, none⟩ = false ∧ (∃ v, w.cell? ⟨g, i + q + 1, none⟩ = some v) ∧ w.frozen? ⟨g, i + q + 1, none⟩ = false := by
  obtain ⟨⟨ys, hB, hl, hd, he, hy, h0⟩, hb⟩ := h
  exact ⟨dg ys (i + q), hy, hB.cell _ (by omega), hB.free _, ⟨_, hB.cell _ (by omega)⟩, hB.free _⟩

theorem bits_or_u32_nat (a b : Nat) (ha : a < 4294967296) (hb : b < 4294967296) : bits .or .u32 (a : Int) (b : Int) = ((a ||| b : Nat) : Int) := by
  have hx : a ||| b < 2 ^ 32 := Nat.or_lt_two_pow (by omega) (by omega)
  have h1 : (BitVec.ofInt 32 (a : Int)).toNat = a := by
    rw [BitVec.ofInt_natCast, BitVec.toNat_ofNat]; exact Nat.mod_eq_of_lt (by omega)
  have h2 : (BitVec.ofInt 32 (b : Int)).toNat = b := by
    rw [BitVec.ofInt_natCast, BitVec.toNat_ofNat]; exact Nat.mod_eq_of_lt (by omega)
  show IntKind.u32.wrap ((BitVec.ofInt 32 (a : Int) ||| BitVec.ofInt 32 (b : Int)).toNat : Int) = _
  rw [BitVec.toNat_or, h1, h2, IntKind.wrap_u32]
  omega
theorem left_word (X r y : Nat) (hX : X < 4294967296) (hr : r < 32) (hy : y < 2 ^ r) :
    ∃ lo hi : Nat, bits .or .u32 (y : Int) (IntKind.u64.wrap ((X : Int) * 2 ^ r) % 4294967296) = ((y + lo : Nat) : Int) ∧ IntKind.u64.wrap ((X : Int) * 2 ^ r) / 4294967296 % 4294967296 = (hi : Int) ∧ lo + 4294967296 * hi = X * 2 ^ r ∧ y + lo < 4294967296 ∧ hi < 2 ^ r := by
  have e0 : 2 ^ (32 - r) * 2 ^ r = 4294967296 := by rw [← Nat.pow_add, show 32 - r + r = 32 by omega]
  have hr2 : 2 ^ r ≤ 2 ^ 31 := Nat.pow_le_pow_right (by omega) (by omega)
  have h1 : X * 2 ^ r < 4294967296 * 2 ^ r := Nat.mul_lt_mul_of_pos_right hX (Nat.two_pow_pos r)
  have hw : IntKind.u64.wrap ((X : Int) * 2 ^ r) = ((X * 2 ^ r : Nat) : Int) := by
    rw [show ((X : Int) * 2 ^ r) = ((X * 2 ^ r : Nat) : Int) by simp, IntKind.wrap_u64]
    generalize X * 2 ^ r = k at *
    omega
  have hlo : X * 2 ^ r % 4294967296 = (X % 2 ^ (32 - r)) * 2 ^ r := by
    conv => lhs; rw [← e0]
    exact Nat.mul_mod_mul_right _ _ _
  have hor : y ||| X * 2 ^ r % 4294967296 = y + X * 2 ^ r % 4294967296 := by
    rw [hlo, ← Nat.shiftLeft_eq, Nat.or_comm, ← Nat.shiftLeft_add_eq_or_of_lt hy, Nat.add_comm]
  have hlt : y + X * 2 ^ r % 4294967296 < 4294967296 := by
    rw [← hor]
    exact Nat.or_lt_two_pow (n := 32) (by omega) (Nat.mod_lt _ (by omega))
  refine ⟨X * 2 ^ r % 4294967296, X * 2 ^ r / 4294967296, ?_, ?_, Nat.mod_add_div _ _, hlt, ?_⟩
  · rw [hw, ← hor, ← bits_or_u32_nat _ _ (by omega) (Nat.mod_lt _ (by omega))]
    rfl
  · rw [hw]
    have : X * 2 ^ r / 4294967296 < 2 ^ r := Nat.div_lt_of_lt_mul h1
    generalize X * 2 ^ r = k at *
    omega
  · exact Nat.div_lt_of_lt_mul h1
theorem LeftRel.step {xs : List Nat} {n q r : Nat} {W w : World} {g i y lo hi : Nat} (h : LeftRel xs n q r W g i w) (hi0 : i < n) (hg : W.heap.size ≤ g) (hr : r < 32) (hc : w.cell? ⟨g, i + q, none⟩ = some (.int .u32 y)) (e : lo + 4294967296 * hi = dg xs i * 2 ^ r) (h1 : y + lo < 4294967296) (h2 : hi < 2 ^ r) (v1 v2 : Int) (hv1 : v1 = ((y + lo : Nat) : Int)) (hv2 : v2 = (hi : Int)) :
    LeftRel xs n q r W g (i + 1) ((w.setCell ⟨g, i + q, none⟩ (.int .u32 v1)).setCell ⟨g, i + q + 1, none⟩ (.int .u32 v2)) := by
  obtain ⟨⟨ys, hB, hl, hd, he, hy, h0⟩, hb⟩ := h
  have hyy : dg ys (i + q) = y := by
    have h3 := hB.cell (i + q) (by omega)
    rw [hc] at h3
    injection h3 with h3
    injection h3 with _ h3
    omega
  have hr2 : 2 ^ r ≤ 2 ^ 31 := Nat.pow_le_pow_right (by omega) (by omega)
  have s1 := val_set ys (i + q) (y + lo) (by omega)
  have s2 := val_set (ys.set (i + q) (y + lo)) (i + q + 1) hi (by simp; omega)
  rw [dg_set_ne _ _ _ _ (by omega), h0 (i + q + 1) (by omega)] at s2
  rw [hyy] at s1
  refine ⟨⟨_, (hB.set (i + q) (y + lo) v1 hv1).set (i + q + 1) hi v2 hv2, by simpa using hl, dig_set (dig_set hd _ h1) _ (by omega), ?_, ?_, fun j hj => ?_⟩, (hb.setCell hg _).setCell hg _⟩
  · rw [val_take_next, Nat.add_mul, ← he]
    have e2 : 4294967296 ^ i * dg xs i * (4294967296 ^ q * 2 ^ r) = 4294967296 ^ (i + q) * (lo + 4294967296 * hi) := by
      rw [e, Nat.pow_add]
      simp only [Nat.mul_assoc, Nat.mul_left_comm, Nat.mul_comm]
    rw [e2, Nat.mul_add]
    rw [Nat.mul_zero, Nat.add_zero, Nat.pow_succ, Nat.mul_assoc] at s2
    rw [Nat.mul_add] at s1
    generalize 4294967296 ^ (i + q) * (4294967296 * hi) = t at *
    generalize 4294967296 ^ (i + q) * lo = t2 at *
    generalize 4294967296 ^ (i + q) * y = t3 at *
    omega
  · rw [show i + 1 + q = i + q + 1 by omega, dg_set_same _ _ _ (by simp; omega)]
    exact h2
  · rw [dg_set_ne _ _ _ _ (by omega), dg_set_ne _ _ _ _ (by omega)]
    exact h0 j (by omega)
theorem pow_split (q r : Nat) : 4294967296 ^ q * 2 ^ r = 2 ^ (32 * q + r) := by
  rw [Nat.pow_add, Nat.pow_mul]
theorem LeftRel.stop {xs : List Nat} {n q r : Nat} {W w : World} {g : Nat} (h : LeftRel xs n q r W g n w) (hx : xs.length = n) (hn : n + q + 1 ≤ 140737488355328) : ∃ ys, RL w (some ⟨g, 0, none⟩) (n + q + 1) ys ∧ val ys = val xs * 2 ^ (32 * q + r) := by
  obtain ⟨⟨ys, hB, hl, hd, he, hy, h0⟩, hb⟩ := h
  have hr := hB.read hd (by omega)
  rw [hl] at hr
  refine ⟨_, hr, ?_⟩
  rw [List.take_of_length_le (l := xs) (by omega), pow_split] at he
  exact he
end Go.Proofs.Ytgioppkggpfnoaa.Nu
end

section
/- The walk of limbs.Right. -/
set_option linter.unusedVariables false
namespace Go.Proofs.Ytgioppkggpfnoaa.Nu
open Go.RowKit Go.Proofs

theorem dg_digs (x j : Nat) : dg (digs x) j = x / 4294967296 ^ j % 4294967296 := by
  induction j generalizing x with
  | zero =>
    by_cases h : x = 0
    · subst h; simp [digs_zero, dg]
    · rw [digs_pos h]; simp [dg]
  | succ j ih =>
    by_cases h : x = 0
    · subst h; simp [digs_zero, dg]
    · rw [digs_pos h, Nat.pow_succ, Nat.mul_comm, ← Nat.div_div_eq_div_mul, ← ih]
      simp [dg]
theorem val_take_mod {ys : List Nat} {N k : Nat} (h : ∀ j, j < k → dg ys j = N / 4294967296 ^ j % 4294967296) : val (ys.take k) = N % 4294967296 ^ k := by
  induction k with
  | zero => simp [val, Nat.mod_one]
  | succ k ih =>
    rw [val_take_next, ih (fun j hj => h j (by omega)), h k (by omega), Nat.mod_pow_succ]
theorem right_digit (a r : Nat) (hr : r < 32) : (a % 4294967296 + a / 4294967296 % 4294967296 * 4294967296) / 2 ^ r % 4294967296 = a / 2 ^ r % 4294967296 := by
  have e : a % 4294967296 + a / 4294967296 % 4294967296 * 4294967296 = a % 18446744073709551616 := by omega
  have e0 : 2 ^ r * 2 ^ (32 - r) = 4294967296 := by rw [← Nat.pow_add, show r + (32 - r) = 32 by omega]
  have e1 : a = 2 ^ r * (2 ^ (32 - r) * 4294967296 * (a / 18446744073709551616)) + a % 18446744073709551616 := by
    rw [← Nat.mul_assoc, ← Nat.mul_assoc, e0]; omega
  rw [e]
  conv => rhs; rw [e1, Nat.mul_add_div (Nat.two_pow_pos r)]
  rw [show 2 ^ (32 - r) * 4294967296 * (a / 18446744073709551616) = 4294967296 * (2 ^ (32 - r) * (a / 18446744073709551616)) by simp only [Nat.mul_assoc, Nat.mul_left_comm], Nat.mul_add_mod]
/-- The j-th digit of what is left. -/
theorem right_next (x q r j : Nat) (hr : r < 32) : (dg (digs x) (j + q) + dg (digs x) (j + q + 1) * 4294967296) / 2 ^ r % 4294967296 = x / 2 ^ (32 * q + r) / 4294967296 ^ j % 4294967296 := by
  rw [dg_digs, dg_digs, Nat.pow_succ, ← Nat.div_div_eq_div_mul, right_digit _ _ hr, Nat.div_div_eq_div_mul, Nat.div_div_eq_div_mul, ← pow_split, Nat.pow_add]
  congr 2
  simp only [Nat.mul_assoc, Nat.mul_left_comm, Nat.mul_comm]
theorem or_word (a b : Nat) (ha : a < 4294967296) (hb : b < 4294967296) : bits .or .u64 (a : Int) ((b : Int) * 4294967296) = ((a + b * 4294967296 : Nat) : Int) := by
  rw [show ((b : Int) * 4294967296) = ((b * 4294967296 : Nat) : Int) by omega, bits_or_u64_nat _ _ (by omega) (by omega)]
  congr 1
  rw [show b * 4294967296 = b <<< 32 by rw [Nat.shiftLeft_eq], Nat.or_comm, ← Nat.shiftLeft_add_eq_or_of_lt (by omega), Nat.add_comm]
theorem cast_word (a r : Nat) : (a : Int) / 2 ^ r % 4294967296 = ((a / 2 ^ r % 4294967296 : Nat) : Int) := by simp
structure RightRel (x k q r : Nat) (W : World) (g : Nat) (i : Nat) (w : World) : Prop where
  ex : ∃ ys, Blk w g ys ∧ ys.length = k ∧ Dig ys ∧ ∀ j, j < i → dg ys j = x / 2 ^ (32 * q + r) / 4294967296 ^ j % 4294967296
  bel : Below W.heap.size W w
theorem RightRel.start (x k q r : Nat) (w W : World) (hb : Below W.heap.size W w) : RightRel x k q r W w.heap.size 0 (w.alloc (.cells (mk0 k) 64)) :=
  ⟨⟨_, Blk.made w k, by simp, dig_zeros _, fun j hj => by omega⟩, hb.alloc hb.size _⟩
theorem RightRel.cell {x k q r : Nat} {W w : World} {g i : Nat} (h : RightRel x k q r W g i w) (hi : i < k) : (∃ v, w.cell? ⟨g, i, none⟩ = some v) ∧ w.frozen? ⟨g, i, none⟩ = false := by
  obtain ⟨⟨ys, hB, hl, hd, he⟩, hb⟩ := h
  exact ⟨⟨_, hB.cell _ (by omega)⟩, hB.free _⟩
theorem RightRel.step {x k q r : Nat} {W w : World} {g i : Nat} (h : RightRel x k q r W g i w) (hi : i < k) (hg : W.heap.size ≤ g) (hr : r < 32) (v : Int) (hv : v = (((dg (digs x) (i + q) + dg (digs x) (i + q + 1) * 4294967296) / 2 ^ r % 4294967296 : Nat) : Int)) :
    RightRel x k q r W g (i + 1) (w.setCell ⟨g, i, none⟩ (.int .u32 v)) := by
  obtain ⟨⟨ys, hB, hl, hd, he⟩, hb⟩ := h
  refine ⟨⟨_, hB.set i _ v hv, by simpa using hl, dig_set hd i (Nat.mod_lt _ (by omega)), fun j hj => ?_⟩, hb.setCell hg _⟩
  by_cases hji : j = i
  · subst hji
    rw [dg_set_same _ _ _ (by omega), right_next _ _ _ _ hr]
  · rw [dg_set_ne _ _ _ _ (by omega)]
    exact he j (by omega)
theorem RightRel.stop {x n k q r : Nat} {W w : World} {g : Nat} (h : RightRel x k q r W g k w) (hx : (digs x).length = n) (hk : k + q = n) (hn : n ≤ 140737488355328) : ∃ ys, RL w (some ⟨g, 0, none⟩) k ys ∧ val ys = x / 2 ^ (32 * q + r) := by
  obtain ⟨⟨ys, hB, hl, hd, he⟩, hb⟩ := h
  have hr := hB.read hd (by omega)
  rw [hl] at hr
  refine ⟨_, hr, ?_⟩
  have h1 := val_take_mod he
  rw [List.take_of_length_le (by omega)] at h1
  rw [h1]
  apply Nat.mod_eq_of_lt
  have h2 := (digs_len_le (n := x)).1 (Nat.le_of_eq hx)
  apply Nat.div_lt_of_lt_mul
  rw [← pow_split]
  refine Nat.lt_of_lt_of_le h2 ?_
  rw [← hk, Nat.pow_add, Nat.mul_comm (4294967296 ^ k), Nat.mul_assoc]
  refine Nat.mul_le_mul_left _ ?_
  exact Nat.le_mul_of_pos_left _ (Nat.two_pow_pos r)
theorem right_zero {x n q r : Nat} (hx : (digs x).length = n) (hq : n ≤ q) : x / 2 ^ (32 * q + r) = 0 := by
  have h2 := (digs_len_le (n := x)).1 (Nat.le_of_eq hx)
  apply Nat.div_eq_of_lt
  refine Nat.lt_of_lt_of_le h2 ?_
  rw [← pow_split]
  refine Nat.le_trans (Nat.pow_le_pow_right (by omega) hq) ?_
  exact Nat.le_mul_of_pos_right _ (Nat.two_pow_pos r)

set_option maxHeartbeats 4000000 in
set_option maxRecDepth 100000 in
theorem right_any (w : World) (A : Option Addr) (n c x s : Nat) (hx : RN w A n x) (hc : n ≤ c) (hn : n ≤ 512) (hs : s ≤ 9223372036854775807) :
    Calls Try.prog 49 #[.slice A n c, .int .i64 s] w fun e w' => ∃ A' k c', k ≤ c' ∧ e = .returned (.tuple #[.slice A' k c', .int .i64 0]) ∧ RN w' A' k (x / 2 ^ s) ∧ Below w.heap.size w w' := by
  have hnx := hx.1
  have HX := Lib.hid hx
  have HN := Lib.hid hnx
  clear hx hnx
  have z0 : ¬ (s : Int) < 0 := by omega
  obtain ⟨q, r, hqr, hr⟩ : ∃ q r : Nat, s = 32 * q + r ∧ r < 32 := ⟨s / 32, s % 32, by omega, by omega⟩
  have hq : (s : Int) / 32 = (q : Int) := by omega
  have hr2 : (s : Int) % 32 = (r : Int) := by omega
  have HQR := Lib.hid hqr
  clear hqr
  by_cases hnq : n ≤ q
  · have q1 : (n : Int) ≤ (q : Int) := by omega
    have H0 := Lib.hid (right_zero (r := r) HN.out hnq)
    go_enter Try.func49, Try.ntmps49
    go_wp2
    go_ret2
    exact ⟨none, 0, 0, Nat.le_refl _, rfl, by rw [HQR.out, H0.out]; exact RN.zero _ _, Below.refl _ _⟩
  have q1 : ¬ (n : Int) ≤ (q : Int) := by omega
  obtain ⟨k, hk⟩ : ∃ k, k + q = n := ⟨n - q, by omega⟩
  have hkn : k ≤ 512 := by omega
  have E1 := Lib.hid (show ((n : Nat) : Int) - (q : Int) = (k : Int) by omega)
  have HK := Lib.hid hk
  go_enter Try.func49, Try.ntmps49
  go_wp2_with fail
  rw [E1.out, make_u32 k (by omega)]
  simp only [Result.andThen]
  rw [Oper.upon_value]
  have H0 := Lib.hid (RightRel.start x k q r w w (Below.refl _ _))
  generalize w.alloc (.cells (mk0 k) 64) = w0 at *
  go_wp2
  go_loopw [24] (fun t wr => ∃ i : Nat, t = .int .i64 i ∧ i ≤ k ∧ Hid (RightRel x k q r w w.heap.size i wr)) (fun t _ => k - (intOf t).toNat)
  case atStart => exact ⟨0, rfl, Nat.zero_le _, H0⟩
  case round =>
    obtain ⟨i, rfl, hi, Hr⟩ := hrel
    by_cases hi2 : i < k
    · obtain ⟨b1, o1, rfl, hl1, hc1⟩ := HX.out.2.2.2 (by omega)
      have hx1 := ((bcell Hr.out.bel).1 b1 (o1 + (i + q)) hl1).trans (hc1 (i + q) (by omega))
      have d1 := dg_lt (dig_digs x) (i + q)
      have d2 := dg_lt (dig_digs x) (i + q + 1)
      obtain ⟨⟨v0, c1⟩, f1⟩ := Hr.out.cell hi2
      have q3 : (i : Int) < (k : Int) := by omega
      by_cases hi3 : i + q + 1 < n
      · have hx2 := ((bcell Hr.out.bel).1 b1 (o1 + (i + q + 1)) hl1).trans (hc1 (i + q + 1) hi3)
        have q4 : (i : Int) + (q : Int) + 1 < (n : Int) := by omega
        clear hc1
        have HS := Lib.hid (Hr.out.step hi2 (Nat.le_refl _) hr (bits .or .u64 (dg (digs x) (i + q) : Int) ((dg (digs x) (i + q + 1) : Int) * 4294967296) / 2 ^ r % 4294967296) (by rw [or_word _ _ d1 d2, cast_word]))
        go_wp2
        go_roundw
        case rel => exact ⟨i + 1, by go_num, hi2, HS⟩
        case measure => simp only [intOf]; omega
      · have q4 : ¬ (i : Int) + (q : Int) + 1 < (n : Int) := by omega
        clear hc1
        have hz : dg (digs x) (i + q + 1) = 0 := dg_out (by rw [HN.out]; omega)
        have HS := Lib.hid (Hr.out.step hi2 (Nat.le_refl _) hr ((dg (digs x) (i + q) : Int) / 2 ^ r % 4294967296) (by rw [hz, Nat.zero_mul, Nat.add_zero, cast_word]))
        clear hz
        go_wp2
        go_roundw
        case rel => exact ⟨i + 1, by go_num, hi2, HS⟩
        case measure => simp only [intOf]; omega
    · obtain rfl : i = k := by omega
      clear hi2
      obtain ⟨ys, hys, hval⟩ := RightRel.stop Hr.out HN.out HK.out (by omega)
      rw [← HQR.out] at hval
      have HY := Lib.hid hys
      have HV := Lib.hid hval
      have HF := Lib.hid (show Fit (val ys) by
        rw [hval]
        have h1 := (digs_len_le (n := x)).1 (Nat.le_of_eq HN.out)
        unfold Fit
        exact Nat.le_trans (digs_len_le.2 (Nat.lt_of_le_of_lt (Nat.div_le_self _ _) h1)) hn)
      clear hys hval
      go_wp2_with fail
      refine (fits_any _ _ i _ ys HY.out (Nat.le_refl _) HF.out).mono ?_
      rintro e w' ⟨k, rfl, hk, rfl⟩
      go_wp2
      go_ret2
      exact ⟨_, k, k, Nat.le_refl _, rfl, by rw [← HV.out]; exact hk, Hr.out.bel⟩
end Go.Proofs.Ytgioppkggpfnoaa.Nu
end

section
/- How many bits a number has: plain. -/
set_option linter.unusedVariables false
namespace Go.Proofs.Ytgioppkggpfnoaa.Nu
open Go.RowKit Go.Proofs

/-- How many bits. -/
def bl (x : Nat) : Nat := if x = 0 then 0 else Nat.log2 x + 1
theorem bl_top {x d low p : Nat} (hx : x = 4294967296 ^ p * d + low) (hl : low < 4294967296 ^ p) (hd : d ≠ 0) : bl x = 32 * p + bl d := by
  have e : 4294967296 ^ p = 2 ^ (32 * p) := by rw [Nat.pow_mul]
  have hp : 0 < 4294967296 ^ p := Nat.pow_pos (by omega)
  have hd1 : 1 ≤ d := by omega
  have h1 : 4294967296 ^ p * 1 ≤ 4294967296 ^ p * d := Nat.mul_le_mul_left _ hd1
  have hx0 : x ≠ 0 := by omega
  have hlog : Nat.log2 x = 32 * p + Nat.log2 d := by
    rw [Nat.log2_eq_iff hx0]
    have h2 := (Nat.log2_eq_iff hd).1 rfl
    have h3 : 2 ^ (32 * p) * 2 ^ d.log2 ≤ 2 ^ (32 * p) * d := Nat.mul_le_mul_left _ h2.1
    have h4 : 2 ^ (32 * p) * (d + 1) ≤ 2 ^ (32 * p) * 2 ^ (d.log2 + 1) := Nat.mul_le_mul_left _ h2.2
    rw [← e] at h3 h4
    rw [Nat.mul_add] at h4
    constructor
    · rw [Nat.pow_add, ← e]; omega
    · rw [show 32 * p + d.log2 + 1 = 32 * p + (d.log2 + 1) by omega, Nat.pow_add, ← e]; omega
  simp [bl, hx0, hd, hlog]
  omega
theorem bl_digs {x n : Nat} (hn : (digs x).length = n) (h0 : 0 < n) : bl x = 32 * (n - 1) + bl (dg (digs x) (n - 1)) ∧ dg (digs x) (n - 1) ≠ 0 := by
  have hd : dg (digs x) (n - 1) ≠ 0 := by
    rw [dg_of (by omega)]
    refine digs_last x _ ?_
    rw [List.getLast?_eq_getElem?, List.getElem?_eq_getElem (by omega)]
    congr 2
    omega
  refine ⟨bl_top (low := val ((digs x).take (n - 1))) ?_ ?_ hd, hd⟩
  · have := val_take_next (digs x) (n - 1)
    rw [show n - 1 + 1 = n by omega, List.take_of_length_le (by omega), val_digs] at this
    omega
  · have := val_lt (dig_take (dig_digs x) (n - 1))
    rwa [List.length_take, hn, Nat.min_eq_left (by omega)] at this
theorem bl_lib (d : Nat) (hd : d ≠ 0) (h : d < 4294967296) : Lib.bitLen d = bl d := by
  obtain ⟨h1, h2, h3⟩ := Lib.bitLenAux_bounds 64 d (by omega) hd
  have e : d.log2 = Lib.bitLenAux 64 d - 1 := by
    rw [Nat.log2_eq_iff hd]
    exact ⟨h2, by rwa [show Lib.bitLenAux 64 d - 1 + 1 = Lib.bitLenAux 64 d by omega]⟩
  unfold Lib.bitLen bl
  rw [if_neg hd, e]
  omega
theorem bl_le (x k : Nat) (h : x < 2 ^ k) : bl x ≤ k := by
  unfold bl
  split
  · omega
  · rename_i hx
    have := (Nat.log2_lt hx).2 h
    omega
end Go.Proofs.Ytgioppkggpfnoaa.Nu
end

section
/- The walks of limbs.Check, limbs.Of. -/
set_option linter.unusedVariables false
namespace Go.Proofs.Ytgioppkggpfnoaa.Nu
open Go.RowKit Go.Proofs

/-- May a row of digits be? -/
theorem check_any (w : World) (A : Option Addr) (n c : Nat) (xs : List Nat) (h : RL w A n xs) :
    Calls Try.prog 15 #[.slice A n c] w fun e w' => (∃ r : Int, e = .returned (.int .i64 r) ∧ (r = 0 ↔ n ≤ 512 ∧ RN w A n (val xs))) ∧ w' = w := by
  have H := Lib.hid h
  have hn := h.2.1
  clear h
  by_cases h5 : 512 < n
  · have q0 : (512 : Int) < (n : Int) := by omega
    go_enter Try.func15, Try.ntmps15
    go_wp2
    go_ret
    exact ⟨⟨11, rfl, by omega⟩, rfl⟩
  have q0 : ¬ (512 : Int) < (n : Int) := by omega
  by_cases hn0 : n = 0
  · have q1 : ¬ (0 : Int) < (n : Int) := by omega
    have HR := Lib.hid (H.out.trim n (Nat.le_refl _) (by rw [List.take_of_length_le (Nat.le_of_eq H.out.1)]) (.inl hn0))
    clear hn0
    go_enter Try.func15, Try.ntmps15
    go_wp2
    go_ret
    exact ⟨⟨0, rfl, fun _ => ⟨by omega, HR.out⟩, fun _ => rfl⟩, rfl⟩
  have q1 : (0 : Int) < (n : Int) := by omega
  obtain ⟨b1, o1, rfl, hl1, hc1⟩ := H.out.2.2.2 (by omega)
  have hx1 := hc1 (n - 1) (by omega)
  have hq : ((n : Int) - 1).toNat = n - 1 := by omega
  clear hc1
  by_cases hz : dg xs (n - 1) = 0
  · have q2 : ((dg xs (n - 1) : Int) == 0) = true := by rw [hz]; rfl
    have HZ := Lib.hid hz
    clear hz
    go_enter Try.func15, Try.ntmps15
    go_wp2
    go_ret
    refine ⟨⟨2, rfl, by omega, fun h => ?_⟩, rfl⟩
    have h2 := h.2.1
    have h3 := digs_trim H.out.2.2.1
    obtain ⟨k, hk⟩ := h3
    have : k = 0 := by
      have := congrArg List.length hk
      rw [List.length_append, List.length_replicate, h2, H.out.1] at this
      omega
    subst this
    rw [List.replicate_zero, List.append_nil] at hk
    have h4 := HZ.out
    rw [hk] at h4
    exact absurd h4 (bl_digs h2 (by omega)).2
  · have q2 : ((dg xs (n - 1) : Int) == 0) = false := by rw [beq_eq_false_iff_ne]; omega
    have HR := Lib.hid (H.out.trim n (Nat.le_refl _) (by rw [List.take_of_length_le (Nat.le_of_eq H.out.1)]) (.inr hz))
    clear hz
    go_enter Try.func15, Try.ntmps15
    go_wp2
    go_ret
    exact ⟨⟨0, rfl, fun _ => ⟨by omega, HR.out⟩, fun _ => rfl⟩, rfl⟩

set_option maxHeartbeats 2000000 in
theorem of_any (w : World) (x : Nat) (h : x < 18446744073709551616) :
    Calls Try.prog 18 #[.int .u64 x] w fun e w' => ∃ A m, e = .returned (.slice A m m) ∧ RN w' A m x ∧ Below w.heap.size w w' := by
  go_enter Try.func18, Try.ntmps18
  go_wp2_with fail
  have hB : Blk (w.alloc (.cells #[.int .u32 ((x : Int) % 4294967296), .int .u32 ((x : Int) / 4294967296)] 64)) w.heap.size [x % 4294967296, x / 4294967296] := by
    unfold Blk
    rw [alloc_top]
    simp [u32s]
  have hd : Dig [x % 4294967296, x / 4294967296] := by
    intro y hy
    simp only [List.mem_cons, List.not_mem_nil, or_false] at hy
    omega
  have hr := hB.read hd (by simp)
  have hv : val [x % 4294967296, x / 4294967296] = x := by simp only [val]; omega
  refine (trim_any _ _ 2 2 _ hr (Nat.le_refl _)).mono ?_
  rintro e w' ⟨m, rfl, hm, rfl⟩
  rw [hv] at hm
  have HM := Lib.hid hm
  clear hm hr hB hv hd
  go_wp2
  go_ret
  exact ⟨_, m, rfl, HM.out, (Below.refl _ w).alloc (Nat.le_refl _) _⟩
end Go.Proofs.Ytgioppkggpfnoaa.Nu
end

section
/- The walk of limbs.Add. -/
set_option linter.unusedVariables false
namespace Go.Proofs.Ytgioppkggpfnoaa.Nu
open Go.RowKit Go.Proofs

/-- What a round of the addition keeps. -/
structure AddRel (xs zs : List Nat) (n : Nat) (W : World) (g : Nat) (i : Nat) (cy : Nat) (w : World) : Prop where
  ex : ∃ ys, Blk w g ys ∧ ys.length = n + 1 ∧ Dig ys ∧ val (ys.take i) + cy * 4294967296 ^ i = val (xs.take i) + val (zs.take i)
  cy : cy ≤ 1
  bel : Below W.heap.size W w
theorem AddRel.start (xs zs : List Nat) (n : Nat) (w W : World) (hb : Below W.heap.size W w) : AddRel xs zs n W w.heap.size 0 0 (w.alloc (.cells (mk0 (n + 1)) 64)) :=
  ⟨⟨_, Blk.made w (n + 1), by simp, dig_zeros _, by simp [val]⟩, by omega, hb.alloc hb.size _⟩
theorem AddRel.step {xs zs : List Nat} {n : Nat} {W w : World} {g i cy : Nat} (h : AddRel xs zs n W g i cy w) (hg : W.heap.size ≤ g) (hx : Dig xs) (hz : Dig zs) (hi : i < n) (v c2 : Int) (hv : v = (((cy + dg xs i + dg zs i) % 4294967296 : Nat) : Int)) (hc : c2 = (((cy + dg xs i + dg zs i) / 4294967296 : Nat) : Int)) :
    ∃ cy' : Nat, c2 = (cy' : Int) ∧ AddRel xs zs n W g (i + 1) cy' (w.setCell ⟨g, i, none⟩ (.int .u32 v)) := by
  obtain ⟨⟨ys, hB, hl, hd, he⟩, hcy, hb⟩ := h
  have h1 := dg_lt hx i
  have h2 := dg_lt hz i
  refine ⟨_, hc, ⟨_, hB.set i _ v hv, by simpa using hl, dig_set hd i (Nat.mod_lt _ (by omega)), ?_⟩, ?_, hb.setCell hg _⟩
  · rw [val_set_take ys i _ (by omega), val_take_next, val_take_next]
    exact add_step he
  · have : (cy + dg xs i + dg zs i) / 4294967296 < 2 := by omega
    omega
theorem AddRel.stop {xs zs : List Nat} {n : Nat} {W w : World} {g cy : Nat} (h : AddRel xs zs n W g n cy w) (hg : W.heap.size ≤ g) (hx : xs.length = n) (hz : zs.length ≤ n) (hn : n + 1 ≤ 140737488355328) (v : Int) (hv : v = (cy : Int)) :
    ∃ ys, RL (w.setCell ⟨g, n, none⟩ (.int .u32 v)) (some ⟨g, 0, none⟩) (n + 1) ys ∧ val ys = val xs + val zs ∧ Below W.heap.size W (w.setCell ⟨g, n, none⟩ (.int .u32 v)) := by
  obtain ⟨⟨ys, hB, hl, hd, he⟩, hcy, hb⟩ := h
  have hl2 : (ys.set n cy).length = n + 1 := by simpa using hl
  have hr := (hB.set n cy v hv).read (dig_set hd n (by omega)) (by omega)
  rw [hl2] at hr
  refine ⟨_, hr, ?_, hb.setCell hg _⟩
  have e := val_set_take ys n cy (by omega)
  rw [List.take_of_length_le (by omega)] at e
  rw [e, ← List.take_of_length_le (Nat.le_of_eq hx), ← List.take_of_length_le hz, ← he, Nat.mul_comm]
theorem AddRel.cell {xs zs : List Nat} {n : Nat} {W w : World} {g i cy : Nat} (h : AddRel xs zs n W g i cy w) (j : Nat) (hj : j ≤ n) : (∃ v, w.cell? ⟨g, j, none⟩ = some v) ∧ w.frozen? ⟨g, j, none⟩ = false := by
  obtain ⟨⟨ys, hB, hl, hd, he⟩, hcy, hb⟩ := h
  exact ⟨⟨_, hB.cell j (by omega)⟩, hB.free j⟩


set_option maxHeartbeats 4000000 in
set_option maxRecDepth 100000 in
theorem add_any (w : World) (A B : Option Addr) (n m c d : Nat) (xs zs : List Nat) (hx : RL w A n xs) (hz : RL w B m zs) (hc : n ≤ c) (hd : m ≤ d) (hn : n ≤ 512) (hm : m ≤ 512) (hf : Fit (val xs + val zs)) :
    Calls Try.prog 50 #[.slice A n c, .slice B m d] w fun e w' => ∃ A' k, e = .returned (.tuple #[.slice A' k k, .int .i64 0]) ∧ RN w' A' k (val xs + val zs) ∧ Below w.heap.size w w' := by
  have HX := Lib.hid hx
  have HZ := Lib.hid hz
  have HF := Lib.hid hf
  clear hx hz hf
  by_cases hlt : n < m
  · have q0 : (n : Int) < (m : Int) := by omega
    have Hmk := Lib.hid (make_u32 (m + 1) (by omega) w)
    have E1 := Lib.hid (show ((m : Nat) : Int) + 1 = ((m + 1 : Nat) : Int) by omega)
    go_enter Try.func50, Try.ntmps50
    go_wp2_with fail
    rw [E1.out, Hmk.out]
    simp only [Result.andThen]
    rw [Oper.upon_value]
    have H0 := Lib.hid (AddRel.start zs xs m w w (Below.refl _ _))
    generalize w.alloc (.cells (mk0 (m + 1)) 64) = w0 at *
    go_wp2
    go_loopw [7, 23] (fun c k wr => ∃ cy i : Nat, c = .int .u64 cy ∧ k = .int .i64 i ∧ i ≤ m ∧ Hid (AddRel zs xs m w w.heap.size i cy wr)) (fun _ k _ => m - (intOf k).toNat)
    case atStart => exact ⟨0, 0, rfl, rfl, Nat.zero_le _, H0⟩
    case round =>
      obtain ⟨cy, i, rfl, rfl, hi, Hr⟩ := hrel
      by_cases hi2 : i < m
      · obtain ⟨b1, o1, rfl, hl1, hc1⟩ := HZ.out.2.2.2 (by omega)
        have hx1 := ((bcell Hr.out.bel).1 b1 (o1 + i) hl1).trans (hc1 i hi2)
        have d1 := dg_lt HZ.out.2.2.1 i
        have d2 := dg_lt HX.out.2.2.1 i
        have hcy := Hr.out.cy
        obtain ⟨⟨v0, hv0⟩, hf0⟩ := Hr.out.cell i hi
        by_cases hi3 : i < n
        · obtain ⟨b2, o2, rfl, hl2, hc2⟩ := HX.out.2.2.2 (by omega)
          have hx2 := ((bcell Hr.out.bel).1 b2 (o2 + i) hl2).trans (hc2 i hi3)
          clear hc1 hc2
          have q1 : (i : Int) < (m : Int) := by omega
          have q2 : (i : Int) < (n : Int) := by omega
          go_wp2
          go_roundw
          case rel =>
            obtain ⟨cy2, hcy2, hA⟩ := AddRel.step Hr.out (Nat.le_refl _) HZ.out.2.2.1 HX.out.2.2.1 hi2 ((↑cy + ↑(dg zs i) + ↑(dg xs i)) % 4294967296) ((↑cy + ↑(dg zs i) + ↑(dg xs i)) / 4294967296) (by omega) (by omega)
            exact ⟨cy2, i + 1, by rw [hcy2], by go_num, hi2, hA⟩
          case measure => simp only [intOf]; omega
        · clear hc1
          have q1 : (i : Int) < (m : Int) := by omega
          have q2 : ¬ (i : Int) < (n : Int) := by omega
          have z0 : dg xs i = 0 := dg_out (by rw [HX.out.1]; omega)
          have Z0 := Lib.hid z0
          clear z0
          go_wp2
          go_roundw
          case rel =>
            have z0 := Z0.out
            obtain ⟨cy2, hcy2, hA⟩ := AddRel.step Hr.out (Nat.le_refl _) HZ.out.2.2.1 HX.out.2.2.1 hi2 ((↑cy + ↑(dg zs i)) % 4294967296) ((↑cy + ↑(dg zs i)) / 4294967296) (by rw [z0]; omega) (by rw [z0]; omega)
            exact ⟨cy2, i + 1, by rw [hcy2], by go_num, hi2, hA⟩
          case measure => simp only [intOf]; omega
      · obtain rfl : i = m := by omega
        clear hi2
        have hcy := Hr.out.cy
        obtain ⟨⟨v0, hv0⟩, hf0⟩ := Hr.out.cell i (Nat.le_refl _)
        obtain ⟨ys, hys, hval, hb⟩ := AddRel.stop Hr.out (Nat.le_refl _) HZ.out.1 (by rw [HX.out.1]; omega) (by omega) (cy : Int) rfl
        rw [Nat.add_comm] at hval
        have HY := Lib.hid hys
        have HV := Lib.hid hval
        have HB := Lib.hid hb
        clear hys hval hb
        go_wp2_with fail
        refine (fits_any _ _ (i + 1) _ ys HY.out (Nat.le_refl _) (by rw [HV.out]; exact HF.out)).mono ?_
        rintro e w' ⟨k, rfl, hk, rfl⟩
        go_wp2
        go_ret2
        exact ⟨_, k, rfl, by rw [← HV.out]; exact hk, HB.out⟩

  · have q0 : ¬ (n : Int) < (m : Int) := by omega
    have Hmk := Lib.hid (make_u32 (n + 1) (by omega) w)
    have E1 := Lib.hid (show ((n : Nat) : Int) + 1 = ((n + 1 : Nat) : Int) by omega)
    go_enter Try.func50, Try.ntmps50
    go_wp2_with fail
    rw [E1.out, Hmk.out]
    simp only [Result.andThen]
    rw [Oper.upon_value]
    have H0 := Lib.hid (AddRel.start xs zs n w w (Below.refl _ _))
    generalize w.alloc (.cells (mk0 (n + 1)) 64) = w0 at *
    go_wp2
    go_loopw [7, 23] (fun c k wr => ∃ cy i : Nat, c = .int .u64 cy ∧ k = .int .i64 i ∧ i ≤ n ∧ Hid (AddRel xs zs n w w.heap.size i cy wr)) (fun _ k _ => n - (intOf k).toNat)
    case atStart => exact ⟨0, 0, rfl, rfl, Nat.zero_le _, H0⟩
    case round =>
      obtain ⟨cy, i, rfl, rfl, hi, Hr⟩ := hrel
      by_cases hi2 : i < n
      · obtain ⟨b1, o1, rfl, hl1, hc1⟩ := HX.out.2.2.2 (by omega)
        have hx1 := ((bcell Hr.out.bel).1 b1 (o1 + i) hl1).trans (hc1 i hi2)
        have d1 := dg_lt HX.out.2.2.1 i
        have d2 := dg_lt HZ.out.2.2.1 i
        have hcy := Hr.out.cy
        obtain ⟨⟨v0, hv0⟩, hf0⟩ := Hr.out.cell i hi
        by_cases hi3 : i < m
        · obtain ⟨b2, o2, rfl, hl2, hc2⟩ := HZ.out.2.2.2 (by omega)
          have hx2 := ((bcell Hr.out.bel).1 b2 (o2 + i) hl2).trans (hc2 i hi3)
          clear hc1 hc2
          have q1 : (i : Int) < (n : Int) := by omega
          have q2 : (i : Int) < (m : Int) := by omega
          go_wp2
          go_roundw
          case rel =>
            obtain ⟨cy2, hcy2, hA⟩ := AddRel.step Hr.out (Nat.le_refl _) HX.out.2.2.1 HZ.out.2.2.1 hi2 ((↑cy + ↑(dg xs i) + ↑(dg zs i)) % 4294967296) ((↑cy + ↑(dg xs i) + ↑(dg zs i)) / 4294967296) (by omega) (by omega)
            exact ⟨cy2, i + 1, by rw [hcy2], by go_num, hi2, hA⟩
          case measure => simp only [intOf]; omega
        · clear hc1
          have q1 : (i : Int) < (n : Int) := by omega
          have q2 : ¬ (i : Int) < (m : Int) := by omega
          have z0 : dg zs i = 0 := dg_out (by rw [HZ.out.1]; omega)
          have Z0 := Lib.hid z0
          clear z0
          go_wp2
          go_roundw
          case rel =>
            have z0 := Z0.out
            obtain ⟨cy2, hcy2, hA⟩ := AddRel.step Hr.out (Nat.le_refl _) HX.out.2.2.1 HZ.out.2.2.1 hi2 ((↑cy + ↑(dg xs i)) % 4294967296) ((↑cy + ↑(dg xs i)) / 4294967296) (by rw [z0]; omega) (by rw [z0]; omega)
            exact ⟨cy2, i + 1, by rw [hcy2], by go_num, hi2, hA⟩
          case measure => simp only [intOf]; omega
      · obtain rfl : i = n := by omega
        clear hi2
        have hcy := Hr.out.cy
        obtain ⟨⟨v0, hv0⟩, hf0⟩ := Hr.out.cell i (Nat.le_refl _)
        obtain ⟨ys, hys, hval, hb⟩ := AddRel.stop Hr.out (Nat.le_refl _) HX.out.1 (by rw [HZ.out.1]; omega) (by omega) (cy : Int) rfl
        rw [show val xs + val zs = val xs + val zs from rfl] at hval
        have HY := Lib.hid hys
        have HV := Lib.hid hval
        have HB := Lib.hid hb
        clear hys hval hb
        go_wp2_with fail
        refine (fits_any _ _ (i + 1) _ ys HY.out (Nat.le_refl _) (by rw [HV.out]; exact HF.out)).mono ?_
        rintro e w' ⟨k, rfl, hk, rfl⟩
        go_wp2
        go_ret2
        exact ⟨_, k, rfl, by rw [← HV.out]; exact hk, HB.out⟩

end Go.Proofs.Ytgioppkggpfnoaa.Nu
end

section
/- The walks of package whole: of, Of, Check, Sign, Neg, Abs, Compare. -/
set_option linter.unusedVariables false
namespace Go.Proofs.Ytgioppkggpfnoaa.Nu
open Go.RowKit Go.Proofs

/-- A whole number, as api.Int holds it: with this sign bit, over this row. -/
def RI (w : World) (b : Bool) (A : Option Addr) (n c : Nat) (z : Int) : Prop := b = decide (z < 0) ∧ n ≤ c ∧ RN w A n z.natAbs
def RZ (w : World) (v : Value) (z : Int) : Prop := ∃ b A n c, v = .agg #[.bool b, .slice A n c] ∧ RI w b A n c z
theorem RI.below {w w' : World} {b : Bool} {A : Option Addr} {n c : Nat} {z : Int} (h : RI w b A n c z) (hb : Below w.heap.size w w') : RI w' b A n c z := ⟨h.1, h.2.1, h.2.2.below hb⟩
theorem RZ.below {w w' : World} {v : Value} {z : Int} (h : RZ w v z) (hb : Below w.heap.size w w') : RZ w' v z := by
  obtain ⟨b, A, n, c, rfl, h⟩ := h
  exact ⟨b, A, n, c, rfl, h.below hb⟩
/-- A block of two cells: a struct of two fields that lie in one cell each. -/
def Blk2 (w : World) (g : Nat) (t : TypeId) (v0 v1 : Value) : Prop := w.heap[g]? = some (.cells #[v0, v1] t (0, 0))
theorem Blk2.lt {w : World} {g : Nat} {t : TypeId} {v0 v1 : Value} (h : Blk2 w g t v0 v1) : g < w.heap.size := (Array.getElem?_eq_some_iff.1 h).1
theorem Blk2.below {w w' : World} {g : Nat} {t : TypeId} {v0 v1 : Value} (h : Blk2 w g t v0 v1) (hb : Below w.heap.size w w') : Blk2 w' g t v0 v1 := by
  unfold Blk2; rw [hb.block g h.lt]; exact h
theorem Blk2.alloc {w : World} {g : Nat} {t : TypeId} {v0 v1 : Value} (h : Blk2 w g t v0 v1) (o : Obj) : Blk2 (w.alloc o) g t v0 v1 := by
  unfold Blk2; rw [Lib.alloc_old _ _ _ h.lt]; exact h
theorem Blk2.new (w : World) (t : TypeId) (v0 v1 : Value) : Blk2 (w.alloc (.cells #[v0, v1] t)) w.heap.size t v0 v1 := alloc_top w _
theorem Blk2.facts {w : World} {g : Nat} {t : TypeId} {v0 v1 : Value} (h : Blk2 w g t v0 v1) : w.cell? ⟨g, 0, none⟩ = some v0 ∧ w.cell? ⟨g, 1, none⟩ = some v1 ∧ w.frozen? ⟨g, 0, none⟩ = false ∧ w.frozen? ⟨g, 1, none⟩ = false :=
  ⟨by rw [Lib.cell_of_heap h]; rfl, by rw [Lib.cell_of_heap h]; rfl, Lib.frozen_of_heap h 0, Lib.frozen_of_heap h 1⟩
theorem Blk2.set {w : World} {g : Nat} {t : TypeId} {v0 v1 : Value} (h : Blk2 w g t v0 v1) (u0 u1 : Value) : Blk2 ((w.setCell ⟨g, 0, none⟩ u0).setCell ⟨g, 1, none⟩ u1) g t u0 u1 := by
  unfold Blk2
  rw [heap_setCell_same _ g 1 _ _ _ (heap_setCell_same w g 0 _ _ _ h)]
  rfl
theorem Blk2.other {w : World} {g g' : Nat} {t : TypeId} {v0 v1 : Value} (h : Blk2 w g t v0 v1) (hg : g ≠ g') (u0 u1 : Value) : Blk2 ((w.setCell ⟨g', 0, none⟩ u0).setCell ⟨g', 1, none⟩ u1) g t v0 v1 := by
  unfold Blk2
  rw [Below.heap_setCell _ _ _ _ hg, Below.heap_setCell _ _ _ _ hg]
  exact h
theorem RL.set2 {w : World} {A : Option Addr} {n : Nat} {xs : List Nat} (h : RL w A n xs) {g : Nat} {t : TypeId} {p : Bool} {a : Option Addr} {l c : Nat} (hB : Blk2 w g t (.bool p) (.slice a l c)) (u0 u1 : Value) :
    RL ((w.setCell ⟨g, 0, none⟩ u0).setCell ⟨g, 1, none⟩ u1) A n xs := by
  obtain ⟨h1, h2, hd, h3⟩ := h
  refine ⟨h1, h2, hd, fun h0 => ?_⟩
  obtain ⟨b, off, hA, hlt, hc⟩ := h3 h0
  have hbg : b ≠ g := fun e => by
    subst e
    have h4 := hc 0 h0
    rw [Lib.cell_of_heap hB] at h4
    rcases Nat.lt_or_ge (off + 0) 2 with h5 | h5
    · have : off + 0 = 0 ∨ off + 0 = 1 := by omega
      rcases this with h6 | h6 <;> rw [h6] at h4 <;> simp at h4
    · rw [Array.getElem?_eq_none (by simpa using h5)] at h4
      cases h4
  refine ⟨b, off, hA, by simpa [World.setCell] using hlt, fun j hj => ?_⟩
  rw [← hc j hj]
  exact World.cell?_of_block ((Below.heap_setCell _ _ _ _ hbg).trans (Below.heap_setCell _ _ _ _ hbg))
theorem RI.set2 {w : World} {b : Bool} {A : Option Addr} {n c : Nat} {z : Int} (h : RI w b A n c z) {g : Nat} {t : TypeId} {p : Bool} {a : Option Addr} {l c' : Nat} (hB : Blk2 w g t (.bool p) (.slice a l c')) (u0 u1 : Value) :
    RI ((w.setCell ⟨g, 0, none⟩ u0).setCell ⟨g, 1, none⟩ u1) b A n c z := ⟨h.1, h.2.1, RL.set2 h.2.2 hB u0 u1⟩
theorem below_set2 {B : Nat} {w w' : World} (h : Below B w w') {g : Nat} (hg : B ≤ g) (u0 u1 : Value) : Below B w ((w'.setCell ⟨g, 0, none⟩ u0).setCell ⟨g, 1, none⟩ u1) :=
  (h.setCell (p := ⟨g, 0, none⟩) hg u0).setCell (p := ⟨g, 1, none⟩) hg u1
/-- What 'RI' says of a number whose value is told otherwise. -/
theorem RI.cast {w : World} {b : Bool} {A : Option Addr} {n c : Nat} {z z' : Int} (h : RI w b A n c z) (e : z = z') : RI w b A n c z' := e ▸ h
theorem RI.neg {w : World} {b : Bool} {A : Option Addr} {n c : Nat} {z : Int} (h : RI w b A n c z) : z = if b then -(z.natAbs : Int) else (z.natAbs : Int) := by
  have := h.1
  by_cases hz : z < 0
  · rw [decide_eq_true hz] at this; subst this; simp; omega
  · rw [decide_eq_false hz] at this; subst this; simp; omega
def Size (z : Int) : Prop := Fit z.natAbs

set_option maxHeartbeats 1000000 in
theorem wof_any (w : World) (b : Bool) (A : Option Addr) (n c : Nat) :
    Calls Try.prog 37 #[.bool b, .slice A n c] w fun e w' => e = .returned (.agg #[.bool (b && decide (0 < n)), .slice A n c]) ∧ Below w.heap.size w w' := by
  by_cases h : 0 < n
  · have q : (0 : Int) < (n : Int) := by omega
    rw [decide_eq_true h]
    cases b
    · go_enter Try.func37, Try.ntmps37
      go_wp2
      refine bodyPost_ret (v := .agg #[.bool false, .slice A n c]) (by simp [results, Try.f37, go_sem, *]) rfl ?_
      exact ⟨rfl, (Below.refl _ w).alloc (Nat.le_refl _) _⟩
    · go_enter Try.func37, Try.ntmps37
      go_wp2
      refine bodyPost_ret (v := .agg #[.bool true, .slice A n c]) (by simp [results, Try.f37, go_sem, *]) rfl ?_
      exact ⟨rfl, (Below.refl _ w).alloc (Nat.le_refl _) _⟩
  · have q : ¬ (0 : Int) < (n : Int) := by omega
    obtain rfl : n = 0 := by omega
    clear h q
    cases b
    · go_enter Try.func37, Try.ntmps37
      go_wp2
      refine bodyPost_ret (v := .agg #[.bool false, .slice A 0 c]) (by simp [results, Try.f37, go_sem, *]) rfl ?_
      exact ⟨rfl, (Below.refl _ w).alloc (Nat.le_refl _) _⟩
    · go_enter Try.func37, Try.ntmps37
      go_wp2
      refine bodyPost_ret (v := .agg #[.bool false, .slice A 0 c]) (by simp [results, Try.f37, go_sem, *]) rfl ?_
      exact ⟨rfl, (Below.refl _ w).alloc (Nat.le_refl _) _⟩
theorem RI.pos {w : World} {b : Bool} {A : Option Addr} {n c : Nat} {z : Int} (h : RI w b A n c z) : 0 < n ↔ z ≠ 0 := by
  have h1 := h.2.2.1
  by_cases hz : z = 0
  · subst hz
    rw [show (0 : Int).natAbs = 0 from rfl, digs_zero] at h1
    simp at h1
    omega
  · have : digs z.natAbs ≠ [] := fun e => hz (by have := digs_eq_nil.1 e; omega)
    have := List.length_pos_iff.2 this
    exact ⟨fun _ => hz, fun _ => by omega⟩
/-- A number of this size, below 0 if b is true: as 'of' makes it. -/
theorem RI.of {w : World} {A : Option Addr} {n c x : Nat} (b : Bool) (h : RN w A n x) (hc : n ≤ c) : RI w (b && decide (0 < n)) A n c (if b then -(x : Int) else x) := by
  have h0 : 0 < n ↔ x ≠ 0 := by
    have h1 := h.1
    by_cases hx : x = 0
    · subst hx; rw [digs_zero] at h1; simp at h1; omega
    · have : digs x ≠ [] := fun e => hx (digs_eq_nil.1 e)
      have := List.length_pos_iff.2 this
      exact ⟨fun _ => hx, fun _ => by omega⟩
  refine ⟨?_, hc, ?_⟩
  · cases b
    · have : ¬ (x : Int) < 0 := by omega
      simp [this]
    · simp only [Bool.true_and, if_true]
      congr 1
      rw [h0]
      apply propext
      omega
  · cases b
    · simpa using h
    · simpa using h

def sgn (z : Int) : Int := if z = 0 then 0 else if z < 0 then -1 else 1
set_option maxHeartbeats 1000000 in
theorem wsign_any (w : World) (b : Bool) (A : Option Addr) (n c : Nat) (z : Int) (h : RI w b A n c z) :
    Calls Try.prog 39 #[.agg #[.bool b, .slice A n c]] w fun e w' => e = .returned (.int .i64 (sgn z)) ∧ Below w.heap.size w w' := by
  have h0 := h.pos
  have hb := h.1
  clear h
  by_cases hz : z = 0
  · have q : ((n : Int) == 0) = true := by rw [beq_iff_eq]; omega
    rw [show sgn z = 0 by simp [sgn, hz]]
    clear hb hz h0
    go_enter Try.func39, Try.ntmps39
    go_wp2
    go_ret
    exact ⟨rfl, (Below.refl _ w).alloc (Nat.le_refl _) _⟩
  · have q : ((n : Int) == 0) = false := by rw [beq_eq_false_iff_ne]; omega
    by_cases hn : z < 0
    · rw [show sgn z = -1 by simp [sgn, hz, hn]]
      rw [decide_eq_true hn] at hb
      subst hb
      clear hz hn h0
      go_enter Try.func39, Try.ntmps39
      go_wp2
      go_ret
      exact ⟨rfl, (Below.refl _ w).alloc (Nat.le_refl _) _⟩
    · rw [show sgn z = 1 by simp [sgn, hz, hn]]
      rw [decide_eq_false hn] at hb
      subst hb
      clear hz hn h0
      go_enter Try.func39, Try.ntmps39
      go_wp2
      go_ret
      exact ⟨rfl, (Below.refl _ w).alloc (Nat.le_refl _) _⟩

theorem abs_ite (b : Bool) (n : Nat) : (if b then -(n : Int) else (n : Int)).natAbs = n := by cases b <;> simp
theorem add_sum {b : Bool} {z z2 : Int} (h : b = decide (z < 0)) (h2 : b = decide (z2 < 0)) : (if b then -((val (digs z.natAbs) + val (digs z2.natAbs) : Nat) : Int) else ((val (digs z.natAbs) + val (digs z2.natAbs) : Nat) : Int)) = z + z2 := by
  rw [val_digs, val_digs]
  cases b
  · have := of_decide_eq_false h.symm
    have := of_decide_eq_false h2.symm
    simp; omega
  · have := of_decide_eq_true h.symm
    have := of_decide_eq_true h2.symm
    simp; omega
theorem sub_sum {b b2 : Bool} {z z2 : Int} (h : b = decide (z < 0)) (h2 : b2 = decide (z2 < 0)) (hb : b ≠ b2) (hle : z2.natAbs ≤ z.natAbs) : (if b then -((z.natAbs - z2.natAbs : Nat) : Int) else ((z.natAbs - z2.natAbs : Nat) : Int)) = z + z2 := by
  subst h h2
  by_cases h1 : z < 0
  · by_cases h3 : z2 < 0
    · simp [h1, h3] at hb
    · simp [h1]; omega
  · by_cases h3 : z2 < 0
    · simp [h1]; omega
    · simp [h1, h3] at hb

set_option maxHeartbeats 2000000 in
theorem wadd_any (w : World) (b b2 : Bool) (A A2 : Option Addr) (n c n2 c2 : Nat) (z z2 : Int) (h : RI w b A n c z) (h2 : RI w b2 A2 n2 c2 z2) (hn : n ≤ 512) (hn2 : n2 ≤ 512) (hf : Size (z + z2)) :
    Calls Try.prog 43 #[.agg #[.bool b, .slice A n c], .agg #[.bool b2, .slice A2 n2 c2]] w fun e w' => (∃ b' A' n' c', e = .returned (.tuple #[.agg #[.bool b', .slice A' n' c'], .int .i64 0]) ∧ RI w' b' A' n' c' (z + z2)) ∧ Below w.heap.size w w' := by
  have H := Lib.hid h
  have H2 := Lib.hid h2
  have HF := Lib.hid hf
  clear h h2 hf
  by_cases hbb : b = b2
  · have q : (b == b2) = true := by rw [hbb]; exact beq_self_eq_true _
    have HS := Lib.hid (add_sum H.out.1 (hbb.trans H2.out.1))
    have B0 := Lib.hid (((Blk2.new w 30 (.bool b) (.slice A n c)).alloc (.cells #[.bool b2, .slice A2 n2 c2] 30)).alloc (.cells #[.bool false, .slice none 0 0] 30))
    have B1 := Lib.hid ((Blk2.new (w.alloc (.cells #[.bool b, .slice A n c] 30)) 30 (.bool b2) (.slice A2 n2 c2)).alloc (.cells #[.bool false, .slice none 0 0] 30))
    have B2 := Lib.hid (Blk2.new ((w.alloc (.cells #[.bool b, .slice A n c] 30)).alloc (.cells #[.bool b2, .slice A2 n2 c2] 30)) 30 (.bool false) (.slice none 0 0))
    have HW := Lib.hid (show Below w.heap.size w (((w.alloc (.cells #[.bool b, .slice A n c] 30)).alloc (.cells #[.bool b2, .slice A2 n2 c2] 30)).alloc (.cells #[.bool false, .slice none 0 0] 30)) from (((Below.refl _ w).alloc (Nat.le_refl _) _).alloc (by simp) _).alloc (by simp; omega) _)
    simp only [World.size_alloc] at B0 B1 B2
    clear hbb
    go_enter Try.func43, Try.ntmps43
    go_wp2_with fail
    generalize ((w.alloc (.cells #[.bool b, .slice A n c] 30)).alloc (.cells #[.bool b2, .slice A2 n2 c2] 30)).alloc (.cells #[.bool false, .slice none 0 0] 30) = w0 at *
    refine (add_any _ A A2 n n2 c c2 (digs z.natAbs) (digs z2.natAbs) (H.out.2.2.below HW.out) (H2.out.2.2.below HW.out) H.out.2.1 H2.out.2.1 hn hn2 (by
      have h3 := HF.out
      unfold Size at h3
      rw [← HS.out] at h3
      rw [abs_ite] at h3
      exact h3)).mono ?_
    rintro e w1 ⟨A', k, rfl, hr, hb⟩
    obtain ⟨a0, a1, _, _⟩ := (B0.out.below hb).facts
    have B2' := Lib.hid (B2.out.below hb)
    have HR := Lib.hid hr
    have HB := Lib.hid (HW.out.trans (hb.mono HW.out.size))
    clear hr hb B1 B2
    go_wp2_with fail
    refine (wof_any w1 b A' k k).mono ?_
    rintro e w2 ⟨rfl, hb2⟩
    obtain ⟨r0, r1, s0, s1⟩ := (B2'.out.below hb2).facts
    have B3 := Lib.hid (B2'.out.below hb2)
    have HB2 := Lib.hid (HB.out.trans (hb2.mono HB.out.size))
    have HR2 := Lib.hid (HR.out.below hb2)
    clear hb2 a0 a1
    go_wp2
    refine bodyPost_ret (v := .tuple #[.agg #[.bool (b && decide (0 < k)), .slice A' k k], .int .i64 0]) ?_ rfl ?_
    · simp [results, Try.f43, go_sem, r0, r1]
    · exact ⟨⟨_, _, _, _, rfl, ((RI.of b HR2.out (Nat.le_refl _)).cast HS.out).set2 B3.out _ _⟩, below_set2 HB2.out (by omega) _ _⟩
  · have q : (b == b2) = false := by rw [beq_eq_false_iff_ne]; exact hbb
    by_cases hle0 : z2.natAbs ≤ z.natAbs
    · have hle := hle0
      have HS := Lib.hid (sub_sum H.out.1 H2.out.1 hbb hle)
      have hcmp := cmp_nonneg hle
      have HLE := Lib.hid hle
      clear hbb hle hle0
      have B0 := Lib.hid (((Blk2.new w 30 (.bool b) (.slice A n c)).alloc (.cells #[.bool b2, .slice A2 n2 c2] 30)).alloc (.cells #[.bool false, .slice none 0 0] 30))
      have B1 := Lib.hid ((Blk2.new (w.alloc (.cells #[.bool b, .slice A n c] 30)) 30 (.bool b2) (.slice A2 n2 c2)).alloc (.cells #[.bool false, .slice none 0 0] 30))
      have B2 := Lib.hid (Blk2.new ((w.alloc (.cells #[.bool b, .slice A n c] 30)).alloc (.cells #[.bool b2, .slice A2 n2 c2] 30)) 30 (.bool false) (.slice none 0 0))
      have HW := Lib.hid (show Below w.heap.size w (((w.alloc (.cells #[.bool b, .slice A n c] 30)).alloc (.cells #[.bool b2, .slice A2 n2 c2] 30)).alloc (.cells #[.bool false, .slice none 0 0] 30)) from (((Below.refl _ w).alloc (Nat.le_refl _) _).alloc (by simp) _).alloc (by simp; omega) _)
      simp only [World.size_alloc] at B0 B1 B2
      go_enter Try.func43, Try.ntmps43
      go_wp2_with fail
      generalize ((w.alloc (.cells #[.bool b, .slice A n c] 30)).alloc (.cells #[.bool b2, .slice A2 n2 c2] 30)).alloc (.cells #[.bool false, .slice none 0 0] 30) = w0 at *
      refine (compare_any _ A A2 n n2 c c2 _ _ (H.out.2.2.below HW.out) (H2.out.2.2.below HW.out)).mono ?_
      rintro e w1 ⟨rfl, hb⟩
      generalize cmp z.natAbs z2.natAbs = t at *
      obtain ⟨a0, a1, _, _⟩ := (B0.out.below hb).facts
      obtain ⟨d0, d1, _, _⟩ := (B1.out.below hb).facts
      have B0' := Lib.hid (B0.out.below hb)
      have B2' := Lib.hid (B2.out.below hb)
      have HB := Lib.hid (HW.out.trans (hb.mono HW.out.size))
      clear hb B0 B1 B2
      go_wp2_with fail
      refine (sub_any _ A A2 n n2 c c2 _ _ (H.out.2.2.below HB.out) (H2.out.2.2.below HB.out) H.out.2.1 H2.out.2.1 hn HLE.out).mono ?_
      rintro e w2 ⟨A', k, rfl, hr, hb⟩
      obtain ⟨a0', a1', _, _⟩ := (B0'.out.below hb).facts
      have B2 := Lib.hid (B2'.out.below hb)
      have HR := Lib.hid hr
      have HB1 := Lib.hid (HB.out.trans (hb.mono HB.out.size))
      clear hr hb a0 a1 d0 d1 B2'
      go_wp2_with fail
      refine (wof_any w2 b A' k k).mono ?_
      rintro e w3 ⟨rfl, hb2⟩
      obtain ⟨r0, r1, s0, s1⟩ := (B2.out.below hb2).facts
      have B3 := Lib.hid (B2.out.below hb2)
      have HB2 := Lib.hid (HB1.out.trans (hb2.mono HB1.out.size))
      have HR2 := Lib.hid (HR.out.below hb2)
      clear hb2 a0' a1'
      go_wp2
      refine bodyPost_ret (v := .tuple #[.agg #[.bool (b && decide (0 < k)), .slice A' k k], .int .i64 0]) ?_ rfl ?_
      · simp [results, Try.f43, go_sem, r0, r1]
      · exact ⟨⟨_, _, _, _, rfl, ((RI.of b HR2.out (Nat.le_refl _)).cast HS.out).set2 B3.out _ _⟩, below_set2 HB2.out (by omega) _ _⟩
    · have hle : z.natAbs ≤ z2.natAbs := by omega
      have hlt : z.natAbs < z2.natAbs := by omega
      have HS := Lib.hid ((sub_sum H2.out.1 H.out.1 (Ne.symm hbb) hle).trans (Int.add_comm _ _))
      have hcmp : cmp z.natAbs z2.natAbs < 0 := by rw [cmp_lt hlt]; decide
      have HLE := Lib.hid hle
      clear hbb hle hle0 hlt
      have B0 := Lib.hid (((Blk2.new w 30 (.bool b) (.slice A n c)).alloc (.cells #[.bool b2, .slice A2 n2 c2] 30)).alloc (.cells #[.bool false, .slice none 0 0] 30))
      have B1 := Lib.hid ((Blk2.new (w.alloc (.cells #[.bool b, .slice A n c] 30)) 30 (.bool b2) (.slice A2 n2 c2)).alloc (.cells #[.bool false, .slice none 0 0] 30))
      have B2 := Lib.hid (Blk2.new ((w.alloc (.cells #[.bool b, .slice A n c] 30)).alloc (.cells #[.bool b2, .slice A2 n2 c2] 30)) 30 (.bool false) (.slice none 0 0))
      have HW := Lib.hid (show Below w.heap.size w (((w.alloc (.cells #[.bool b, .slice A n c] 30)).alloc (.cells #[.bool b2, .slice A2 n2 c2] 30)).alloc (.cells #[.bool false, .slice none 0 0] 30)) from (((Below.refl _ w).alloc (Nat.le_refl _) _).alloc (by simp) _).alloc (by simp; omega) _)
      simp only [World.size_alloc] at B0 B1 B2
      go_enter Try.func43, Try.ntmps43
      go_wp2_with fail
      generalize ((w.alloc (.cells #[.bool b, .slice A n c] 30)).alloc (.cells #[.bool b2, .slice A2 n2 c2] 30)).alloc (.cells #[.bool false, .slice none 0 0] 30) = w0 at *
      refine (compare_any _ A A2 n n2 c c2 _ _ (H.out.2.2.below HW.out) (H2.out.2.2.below HW.out)).mono ?_
      rintro e w1 ⟨rfl, hb⟩
      generalize cmp z.natAbs z2.natAbs = t at *
      obtain ⟨a0, a1, _, _⟩ := (B0.out.below hb).facts
      obtain ⟨d0, d1, _, _⟩ := (B1.out.below hb).facts
      have B0' := Lib.hid (((B0.out.below hb).set (.bool b2) (.slice A2 n2 c2)).other (g' := w.heap.size + 1) (by omega) (.bool b) (.slice A n c))
      have B2' := Lib.hid (((B2.out.below hb).other (g' := w.heap.size) (by omega) (.bool b2) (.slice A2 n2 c2)).other (g' := w.heap.size + 1) (by omega) (.bool b) (.slice A n c))
      have HB := Lib.hid (below_set2 (g := w.heap.size + 1) (below_set2 (g := w.heap.size) (HW.out.trans (hb.mono HW.out.size)) (by omega) (.bool b2) (.slice A2 n2 c2)) (by omega) (.bool b) (.slice A n c))
      obtain ⟨_, _, f0, f1⟩ := (B0.out.below hb).facts
      obtain ⟨_, _, f2, f3⟩ := (B1.out.below hb).facts
      clear hb B0 B1 B2
      go_wp2_with fail
      refine (sub_any _ A2 A n2 n c2 c _ _ (H2.out.2.2.below HB.out) (H.out.2.2.below HB.out) H2.out.2.1 H.out.2.1 hn2 HLE.out).mono ?_
      rintro e w2 ⟨A', k, rfl, hr, hb⟩
      obtain ⟨a0', a1', _, _⟩ := (B0'.out.below hb).facts
      have B2 := Lib.hid (B2'.out.below hb)
      have HR := Lib.hid hr
      have HB1 := Lib.hid (HB.out.trans (hb.mono HB.out.size))
      clear hr hb a0 a1 d0 d1 B2'
      go_wp2_with fail
      refine (wof_any w2 b2 A' k k).mono ?_
      rintro e w3 ⟨rfl, hb2⟩
      obtain ⟨r0, r1, s0, s1⟩ := (B2.out.below hb2).facts
      have B3 := Lib.hid (B2.out.below hb2)
      have HB2 := Lib.hid (HB1.out.trans (hb2.mono HB1.out.size))
      have HR2 := Lib.hid (HR.out.below hb2)
      clear hb2 a0' a1'
      go_wp2
      refine bodyPost_ret (v := .tuple #[.agg #[.bool (b2 && decide (0 < k)), .slice A' k k], .int .i64 0]) ?_ rfl ?_
      · simp [results, Try.f43, go_sem, r0, r1]
      · exact ⟨⟨_, _, _, _, rfl, ((RI.of b2 HR2.out (Nat.le_refl _)).cast HS.out).set2 B3.out _ _⟩, below_set2 HB2.out (by omega) _ _⟩
end Go.Proofs.Ytgioppkggpfnoaa.Nu
end

section
/- The walks of package whole: Mul. -/
set_option linter.unusedVariables false
namespace Go.Proofs.Ytgioppkggpfnoaa.Nu
open Go.RowKit Go.Proofs

theorem mul_prod {b b2 : Bool} {z z2 : Int} (h : b = decide (z < 0)) (h2 : b2 = decide (z2 < 0)) : (if (b != b2) then -((z.natAbs * z2.natAbs : Nat) : Int) else ((z.natAbs * z2.natAbs : Nat) : Int)) = z * z2 := by
  subst h h2
  have e : ((z.natAbs * z2.natAbs : Nat) : Int) = (z.natAbs : Int) * (z2.natAbs : Int) := by simp
  by_cases h1 : z < 0
  · have e1 : (z.natAbs : Int) = -z := by omega
    by_cases h3 : z2 < 0
    · have e2 : (z2.natAbs : Int) = -z2 := by omega
      rw [e, e1, e2]; simp [h1, h3, Int.neg_mul, Int.mul_neg]
    · have e2 : (z2.natAbs : Int) = z2 := by omega
      rw [e, e1, e2]; simp [h1, h3, Int.neg_mul, Int.mul_neg]
  · have e1 : (z.natAbs : Int) = z := by omega
    by_cases h3 : z2 < 0
    · have e2 : (z2.natAbs : Int) = -z2 := by omega
      rw [e, e1, e2]; simp [h1, h3, Int.neg_mul, Int.mul_neg]
    · have e2 : (z2.natAbs : Int) = z2 := by omega
      rw [e, e1, e2]; simp [h1, h3, Int.neg_mul, Int.mul_neg]

set_option maxHeartbeats 2000000 in
theorem wmul_any (w : World) (b b2 : Bool) (A A2 : Option Addr) (n c n2 c2 : Nat) (z z2 : Int) (h : RI w b A n c z) (h2 : RI w b2 A2 n2 c2 z2) (hn : n + n2 ≤ 513) (hf : Size (z * z2)) :
    Calls Try.prog 24 #[.agg #[.bool b, .slice A n c], .agg #[.bool b2, .slice A2 n2 c2]] w fun e w' => (∃ b' A' n' c', e = .returned (.tuple #[.agg #[.bool b', .slice A' n' c'], .int .i64 0]) ∧ RI w' b' A' n' c' (z * z2)) ∧ Below w.heap.size w w' := by
  have H := Lib.hid h
  have H2 := Lib.hid h2
  have HF := Lib.hid hf
  have HS := Lib.hid (mul_prod h.1 h2.1)
  clear h h2 hf
  have B0 := Lib.hid (((Blk2.new w 30 (.bool b) (.slice A n c)).alloc (.cells #[.bool b2, .slice A2 n2 c2] 30)).alloc (.cells #[.bool false, .slice none 0 0] 30))
  have B1 := Lib.hid ((Blk2.new (w.alloc (.cells #[.bool b, .slice A n c] 30)) 30 (.bool b2) (.slice A2 n2 c2)).alloc (.cells #[.bool false, .slice none 0 0] 30))
  have B2 := Lib.hid (Blk2.new ((w.alloc (.cells #[.bool b, .slice A n c] 30)).alloc (.cells #[.bool b2, .slice A2 n2 c2] 30)) 30 (.bool false) (.slice none 0 0))
  have HW := Lib.hid (show Below w.heap.size w (((w.alloc (.cells #[.bool b, .slice A n c] 30)).alloc (.cells #[.bool b2, .slice A2 n2 c2] 30)).alloc (.cells #[.bool false, .slice none 0 0] 30)) from (((Below.refl _ w).alloc (Nat.le_refl _) _).alloc (by simp) _).alloc (by simp; omega) _)
  simp only [World.size_alloc] at B0 B1 B2
  go_enter Try.func24, Try.ntmps24
  go_wp2_with fail
  generalize ((w.alloc (.cells #[.bool b, .slice A n c] 30)).alloc (.cells #[.bool b2, .slice A2 n2 c2] 30)).alloc (.cells #[.bool false, .slice none 0 0] 30) = w0 at *
  refine (mul_any _ A A2 n n2 c c2 _ _ (H.out.2.2.below HW.out) (H2.out.2.2.below HW.out) H.out.2.1 H2.out.2.1 hn (by
    have h3 := HF.out
    unfold Size at h3
    rw [← HS.out, abs_ite] at h3
    exact h3)).mono ?_
  rintro e w1 ⟨A', k, c', hkc, rfl, hr, hb⟩
  obtain ⟨a0, a1, _, _⟩ := (B0.out.below hb).facts
  obtain ⟨d0, d1, _, _⟩ := (B1.out.below hb).facts
  have B2' := Lib.hid (B2.out.below hb)
  have HR := Lib.hid hr
  have HB := Lib.hid (HW.out.trans (hb.mono HW.out.size))
  clear hr hb B1 B2
  go_wp2_with fail
  refine (wof_any w1 (b != b2) A' k c').mono ?_
  rintro e w2 ⟨rfl, hb2⟩
  obtain ⟨r0, r1, s0, s1⟩ := (B2'.out.below hb2).facts
  have B3 := Lib.hid (B2'.out.below hb2)
  have HB2 := Lib.hid (HB.out.trans (hb2.mono HB.out.size))
  have HR2 := Lib.hid (HR.out.below hb2)
  clear hb2 a0 a1 d0 d1
  go_wp2
  refine bodyPost_ret (v := .tuple #[.agg #[.bool ((b != b2) && decide (0 < k)), .slice A' k c'], .int .i64 0]) ?_ rfl ?_
  · simp [results, Try.f24, go_sem, r0, r1]
  · exact ⟨⟨_, _, _, _, rfl, ((RI.of (b != b2) HR2.out hkc).cast HS.out).set2 B3.out _ _⟩, below_set2 HB2.out (by omega) _ _⟩

end Go.Proofs.Ytgioppkggpfnoaa.Nu
end

section
/-
  DERIVED: THE SHELF's CONTRACTS AT THIS DUMP, IN PLAIN WORDS (tools/lay-plain.mjs out of 'TryShelf.lean', which tools/lay-shelf.mjs wrote): THE SAME DECLARATIONS UNDER THE SAME NAMES: 'import', 'namespace', 'open', 'def', 'theorem' AND NOTHING ELSE: no command of the shelf's: FOR A HAND-IN. Each laying: the table of numbers ('.._ren') and one theorem, a field a fact of the dump's own or the kernel's comparison; each contract: ONE APPLICATION.
-/
namespace Go.Proofs
open Go.Shelf
def Try.lays133_ren : Go.Shelf.Ren := ⟨fun | 133 => 45 | 128 => 52 | n => n, fun | 51 => 64 | 3 => 3 | 4 => 4 | 46 => 71 | 5 => 5 | 9 => 9 | n => n, fun | n => n⟩
theorem Try.lays133 : Go.Proofs.Lays.n133 Try.prog Try.lays133_ren := {
  mixed := by kernel_rfl
  f128 := Try.func52.trans (congrArg some (by kernel_rfl))
  f133 := Try.func45.trans (congrArg some (by kernel_rfl))
  t3 := Try.underlying3
  a3 := Try.isAgg3
  z3 := Try.sizeOf3
  v3 := Try.zeroValue3
  t4 := Try.underlying4
  a4 := Try.isAgg4
  z4 := Try.sizeOf4
  v4 := Try.zeroValue4
  t5 := Try.underlying5
  a5 := Try.isAgg5
  z5 := Try.sizeOf5
  v5 := Try.zeroValue5
  t9 := Try.underlying9
  a9 := Try.isAgg9
  z9 := Try.sizeOf9
  v9 := Try.zeroValue9
  t46 := Try.underlying71
  a46 := Try.isAgg71
  z46 := Try.sizeOf71
  v46 := Try.zeroValue71
  t51 := Try.underlying64
  a51 := Try.isAgg64
  z51 := Try.sizeOf64
  v51 := Try.zeroValue64 }
/-- bits.LeadingZeros32: "LeadingZeros32 returns the number of leading zero bits in x; the result is 32 for x == 0.": IT RETURNS '32 - Lib.bitLen x'; the world is as it was. ITS CALLEE bits.Len32 IS MET BY ITS OWN CONTRACT OFF THE SHELF (lay that first): entered in place it sends the kernel out of memory. (LAID: no walk: one application.) -/
theorem Try.bits_LeadingZeros32 (x : Int) (w : World) (h0 : 0 ≤ x) (h1 : x ≤ 4294967295) :
    Calls Try.prog 45 #[.int .u32 x] w fun e w' => e = .returned (.int .i64 (32 - (Lib.bitLen x.toNat : Int))) ∧ w' = w := Any.bits_LeadingZeros32 Try.lays133 x w h0 h1
end Go.Proofs
end

section
/- The walk of slices.Clone over a row of digits. -/
set_option linter.unusedVariables false
namespace Go.Proofs.Ytgioppkggpfnoaa.Nu
open Go.RowKit Go.Proofs

/-- A row that the call owns reads as its digits. -/
theorem RL.of_own {w : World} {base n : Nat} {v : Value} {xs : List Nat} (h : w.ownsRow base 64 1 v n (xs.map fun (y : Nat) => Value.int .u32 (y : Int))) (hd : Dig xs) (hn : n ≤ 140737488355328) :
    ∃ A c, v = .slice A n c ∧ n ≤ c ∧ RL w A n xs := by
  obtain ⟨hl, h⟩ := h
  have hl' : xs.length = n := by simpa using hl
  rcases h with ⟨rfl, rfl⟩ | ⟨g, cap, cur, rfl, hb, hg, hc1, hc2, hc3, hc4⟩
  · obtain rfl := List.length_eq_zero_iff.1 hl'
    exact ⟨none, 0, rfl, Nat.le_refl _, RL.nil _ _⟩
  · refine ⟨_, cap, rfl, hc1, hl', hn, hd, fun _ => ⟨g, 0, rfl, (Array.getElem?_eq_some_iff.1 hg).1, fun j hj => ?_⟩⟩
    rw [Nat.zero_add, Lib.cell_of_heap hg]
    have h1 : (cur.toList.take (n * 1))[j]? = some (.int .u32 (dg xs j : Int)) := by
      rw [hc4]
      simp [dg, hl', hj]
    rw [List.getElem?_take_of_lt (by omega)] at h1
    simpa using h1

set_option maxHeartbeats 2000000 in
set_option maxRecDepth 100000 in
theorem clone_any (w : World) (A : Option Addr) (n c : Nat) (xs : List Nat) (h : RL w A n xs) (hn : n ≤ 100000000) :
    Calls Try.prog 32 #[.slice A n c] w fun e w' => (∃ A' c', e = .returned (.slice A' n c') ∧ n ≤ c' ∧ RL w' A' n xs) ∧ Below w.heap.size w w' := by
  have q22 := fun (w : World) (a : Option Addr) (n c n' c' : Nat) => Lib.run_eql_slice_nil (P := Try.prog) w _ _ a n c n' c' Try.underlying28
  obtain ⟨i0, hi, hz0, hz1, hz2⟩ := info_parts infoU32
  have H := Lib.hid h
  cases A with
  | none =>
    have hn0 : n = 0 := by
      false_or_by_contra
      obtain ⟨b, off, hA, _⟩ := h.2.2.2 (by omega)
      cases hA
    subst hn0
    obtain rfl : xs = [] := List.length_eq_zero_iff.1 h.1
    clear h H
    go_enter Try.func32, Try.ntmps32
    go_wp2
    go_ret
    exact ⟨⟨none, 0, rfl, Nat.le_refl _, RL.nil _ _⟩, Below.refl _ _⟩
  | some ad =>
    have hA : 0 < n → ∃ b off, ad = ⟨b, off, none⟩ ∧ b < w.heap.size ∧ ∀ j, j < n → w.cell? ⟨b, off + j, none⟩ = some (.int .u32 (dg xs j)) := fun h0 => by
      obtain ⟨b, off, hA, h3⟩ := h.2.2.2 h0
      cases hA
      exact ⟨b, off, rfl, h3⟩
    have HA := Lib.hid hA
    clear h hA
    go_enter Try.func32, Try.ntmps32
    go_wp2_with (at_builtin; refine wpList_append_own _ rfl _ _ 28 rfl w.heap.size 64 i0 (.int .u32 0) 1 4 Try.underlying28 hi hz0 hz1 hz2 rfl (by decide) _ _ _ rfl (World.ownsRow_made w #[] 0 (Nat.le_refl _) (Nat.zero_le _) rfl) ad n c (xs.map fun (y : Nat) => Value.int .u32 (y : Int)) rfl ?qc1 ?qc2 ?qc3 ?qc4 ?qc5 ?qc6 ?_)
    case qc1 => simpa using H.out.1
    case qc2 =>
      intro j u hj
      have hjn : j < xs.length := by
        have := (List.getElem?_eq_some_iff.1 hj).1
        simpa using this
      obtain ⟨b, off, rfl, hb, hc⟩ := HA.out (by have := H.out.1; omega)
      rw [Addr.add_lit]
      refine Lib.cell?_alloc_some _ ?_
      rw [hc j (by have := H.out.1; omega)]
      rw [← hj]
      simp [dg, hjn]
    case qc3 => intro u hu; obtain ⟨x, _, rfl⟩ := List.mem_map.1 hu; rfl
    case qc4 => unfold maxLen; omega
    case qc5 => omega
    case qc6 => simp
    intro v' w1 hown hgrow hnil
    have hown2 := hown
    obtain ⟨A', c', rfl, hc', hr⟩ := RL.of_own (by simpa using hown2) H.out.2.2.1 H.out.2.1
    have HR := Lib.hid hr
    have HB := Lib.hid (((Below.refl w.heap.size w).alloc (Nat.le_refl _) _).grown hgrow (by simp) (by intro k hk; simp [Value.ownBlock] at hk; omega))
    clear hown hgrow hnil hr hown2
    go_wp2
    go_ret
    exact ⟨⟨A', c', rfl, hc', HR.out⟩, HB.out⟩
end Go.Proofs.Ytgioppkggpfnoaa.Nu
end

section
/- The walks of package whole: Compare, Check, Of. -/
set_option linter.unusedVariables false
namespace Go.Proofs.Ytgioppkggpfnoaa.Nu
open Go.RowKit Go.Proofs

def icmp (z z2 : Int) : Int := if z < z2 then -1 else if z2 < z then 1 else 0
theorem sgn_cases (z : Int) : (z < 0 ∧ sgn z = -1) ∨ (z = 0 ∧ sgn z = 0) ∨ (0 < z ∧ sgn z = 1) := by
  rcases Int.lt_trichotomy z 0 with h | h | h
  · exact .inl ⟨h, by unfold sgn; rw [if_neg (by omega), if_pos h]⟩
  · exact .inr (.inl ⟨h, by unfold sgn; rw [if_pos h]⟩)
  · exact .inr (.inr ⟨h, by unfold sgn; rw [if_neg (by omega), if_neg (by omega)]⟩)
theorem icmp_lt {z z2 : Int} (h : z < z2) : icmp z z2 = -1 := by unfold icmp; rw [if_pos h]
theorem icmp_gt {z z2 : Int} (h : z2 < z) : icmp z z2 = 1 := by unfold icmp; rw [if_neg (by omega), if_pos h]
theorem icmp_eq {z z2 : Int} (h : z2 = z) : icmp z z2 = 0 := by unfold icmp; rw [if_neg (by omega), if_neg (by omega)]
theorem sgn_lt {z z2 : Int} (h : sgn z < sgn z2) : icmp z z2 = -1 := by
  have := sgn_cases z
  have := sgn_cases z2
  exact icmp_lt (by omega)
theorem sgn_gt {z z2 : Int} (h : sgn z2 < sgn z) : icmp z z2 = 1 := by
  have := sgn_cases z
  have := sgn_cases z2
  exact icmp_gt (by omega)
theorem sgn_neg {z z2 : Int} (h : sgn z = sgn z2) (hn : sgn z < 0) : cmp z2.natAbs z.natAbs = icmp z z2 := by
  have h1 := sgn_cases z
  have h2 := sgn_cases z2
  rcases Int.lt_trichotomy z z2 with h3 | h3 | h3
  · rw [icmp_lt h3, cmp_lt (by omega)]
  · rw [icmp_eq h3.symm, cmp_eq (by omega)]
  · rw [icmp_gt h3, cmp_gt (by omega)]
theorem sgn_nonneg {z z2 : Int} (h : sgn z = sgn z2) (hn : ¬ sgn z < 0) : cmp z.natAbs z2.natAbs = icmp z z2 := by
  have h1 := sgn_cases z
  have h2 := sgn_cases z2
  rcases Int.lt_trichotomy z z2 with h3 | h3 | h3
  · rw [icmp_lt h3, cmp_lt (by omega)]
  · rw [icmp_eq h3.symm, cmp_eq (by omega)]
  · rw [icmp_gt h3, cmp_gt (by omega)]

set_option maxRecDepth 100000 in
set_option maxHeartbeats 4000000 in
theorem wcompare_any (w : World) (b b2 : Bool) (A A2 : Option Addr) (n c n2 c2 : Nat) (z z2 : Int) (h : RI w b A n c z) (h2 : RI w b2 A2 n2 c2 z2) :
    Calls Try.prog 27 #[.agg #[.bool b, .slice A n c], .agg #[.bool b2, .slice A2 n2 c2]] w fun e w' => e = .returned (.int .i64 (icmp z z2)) ∧ Below w.heap.size w w' := by
  have H := Lib.hid h
  have H2 := Lib.hid h2
  clear h h2
  have B0 := Lib.hid ((Blk2.new w 30 (.bool b) (.slice A n c)).alloc (.cells #[.bool b2, .slice A2 n2 c2] 30))
  have B1 := Lib.hid (Blk2.new (w.alloc (.cells #[.bool b, .slice A n c] 30)) 30 (.bool b2) (.slice A2 n2 c2))
  have HW := Lib.hid (show Below w.heap.size w ((w.alloc (.cells #[.bool b, .slice A n c] 30)).alloc (.cells #[.bool b2, .slice A2 n2 c2] 30)) from ((Below.refl _ w).alloc (Nat.le_refl _) _).alloc (by simp) _)
  simp only [World.size_alloc] at B0 B1
  obtain ⟨a0, a1, _, _⟩ := B0.out.facts
  obtain ⟨d0, d1, _, _⟩ := B1.out.facts
  go_enter Try.func27, Try.ntmps27
  go_wp2_with fail
  generalize (w.alloc (.cells #[.bool b, .slice A n c] 30)).alloc (.cells #[.bool b2, .slice A2 n2 c2] 30) = w0 at *
  have HWd := Lib.hid (HW.out.drew)
  have B0d := Lib.hid (show Blk2 w0.drew w.heap.size 30 (.bool b) (.slice A n c) from B0.out)
  have B1d := Lib.hid (show Blk2 w0.drew (w.heap.size + 1) 30 (.bool b2) (.slice A2 n2 c2) from B1.out)
  clear B1
  have HH := H
  go_region_held3 (fun w' => w'.cell? ⟨w.heap.size, 0, none⟩ = some (.bool b) ∧ w'.cell? ⟨w.heap.size, 1, none⟩ = some (.slice A n c) ∧ w'.cell? ⟨w.heap.size + 1, 0, none⟩ = some (.bool b2) ∧ w'.cell? ⟨w.heap.size + 1, 1, none⟩ = some (.slice A2 n2 c2)) (first | exact ⟨a0, a1, d0, d1⟩ | exact ⟨k0, k1, k2, k3⟩ | exact ⟨m0, m1, m2, m3⟩)
    (first
     | (go_at_call 39; refine (wsign_any _ b A n c z (H.out.below HWd.out)).mono ?_; rintro e w1 ⟨rfl, hb⟩; obtain ⟨k0, k1, _, _⟩ := (B0d.out.below hb).facts; obtain ⟨k2, k3, _, _⟩ := (B1d.out.below hb).facts; have B0' := Lib.hid (B0d.out.below hb); have B1' := Lib.hid (B1d.out.below hb); have HB := Lib.hid (HWd.out.trans (hb.mono HWd.out.size)); clear hb H)
     | (go_at_call 39; refine (wsign_any _ b2 A2 n2 c2 z2 (H2.out.below HB.out)).mono ?_; rintro e w2 ⟨rfl, hb⟩; obtain ⟨m0, m1, _, _⟩ := (B0'.out.below hb).facts; obtain ⟨m2, m3, _, _⟩ := (B1'.out.below hb).facts; have HB2 := Lib.hid (HB.out.trans (hb.mono HB.out.size)); clear hb))
  by_cases he : sgn z = sgn z2
  · have q0 : ((sgn z : Int) == sgn z2) = true := by rw [beq_iff_eq]; exact he
    have q1 : ((sgn z : Int) != sgn z2) = false := by rw [bne, q0]; rfl
    have q2 : ¬ (sgn z : Int) < sgn z2 := by omega
    by_cases hn : sgn z < 0
    · have HS := Lib.hid (sgn_neg he hn)
      clear he
      generalize sgn z = x at *
      generalize sgn z2 = y at *
      go_wp2_with fail
      refine (compare_any w2 A2 A n2 n c2 c _ _ (H2.out.2.2.below HB2.out) (HH.out.2.2.below HB2.out)).mono ?_
      rintro e w3 ⟨rfl, hb⟩
      have HB3 := Lib.hid (HB2.out.trans (hb.mono HB2.out.size))
      clear hb
      go_wp2
      go_ret
      exact ⟨ret_int HS.out, HB3.out⟩
    · have HS := Lib.hid (sgn_nonneg he hn)
      clear he
      generalize sgn z = x at *
      generalize sgn z2 = y at *
      go_wp2_with fail
      refine (compare_any w2 A A2 n n2 c c2 _ _ (HH.out.2.2.below HB2.out) (H2.out.2.2.below HB2.out)).mono ?_
      rintro e w3 ⟨rfl, hb⟩
      have HB3 := Lib.hid (HB2.out.trans (hb.mono HB2.out.size))
      clear hb
      go_wp2
      go_ret
      exact ⟨ret_int HS.out, HB3.out⟩
  · have q0 : ((sgn z : Int) == sgn z2) = false := by rw [beq_eq_false_iff_ne]; exact he
    have q1 : ((sgn z : Int) != sgn z2) = true := by rw [bne, q0]; rfl
    by_cases hl : sgn z < sgn z2
    · have HS := Lib.hid (sgn_lt hl)
      clear he
      generalize sgn z = x at *
      generalize sgn z2 = y at *
      go_wp2
      go_ret
      exact ⟨ret_int HS.out.symm, HB2.out⟩
    · have HS := Lib.hid (sgn_gt (z := z) (z2 := z2) (by omega))
      clear he
      generalize sgn z = x at *
      generalize sgn z2 = y at *
      go_wp2
      go_ret
      exact ⟨ret_int HS.out.symm, HB2.out⟩
end Go.Proofs.Ytgioppkggpfnoaa.Nu
end

section
/- The walks of package whole: Check, Of. -/
set_option linter.unusedVariables false
namespace Go.Proofs.Ytgioppkggpfnoaa.Nu
open Go.RowKit Go.Proofs

/-- The number that a sign bit and a row of digits stand for. -/
def zv (b : Bool) (xs : List Nat) : Int := if b then -(val xs : Int) else (val xs : Int)
set_option maxHeartbeats 2000000 in
theorem wcheck_any (w : World) (b : Bool) (A : Option Addr) (n c : Nat) (xs : List Nat) (h : RL w A n xs) (hc : n ≤ c) :
    Calls Try.prog 14 #[.agg #[.bool b, .slice A n c]] w fun e w' => (∃ r : Int, e = .returned (.int .i64 r) ∧ (r = 0 ↔ n ≤ 512 ∧ RI w b A n c (zv b xs))) ∧ Below w.heap.size w w' := by
  have H := Lib.hid h
  clear h
  have B0 := Lib.hid (Blk2.new w 30 (.bool b) (.slice A n c))
  have HW := Lib.hid (show Below w.heap.size w (w.alloc (.cells #[.bool b, .slice A n c] 30)) from (Below.refl _ w).alloc (Nat.le_refl _) _)
  go_enter Try.func14, Try.ntmps14
  go_wp2_with fail
  generalize w.alloc (.cells #[.bool b, .slice A n c] 30) = w0 at *
  refine (check_any w0 A n c xs (H.out.below HW.out)).mono ?_
  rintro e w1 ⟨⟨r, rfl, hr⟩, rfl⟩
  obtain ⟨a0, a1, _, _⟩ := B0.out.facts
  by_cases h0 : r = 0
  · subst h0
    have hr2 := hr.1 rfl
    have HR := Lib.hid (show RN w A n (val xs) from ⟨hr2.2.1, H.out.2.1, hr2.2.2.2.1, fun h0 => by
      obtain ⟨b1, o1, e1, e2, e3⟩ := H.out.2.2.2 h0
      have e4 : digs (val xs) = xs := by
        have h3 := digs_trim H.out.2.2.1
        obtain ⟨k, hk⟩ := h3
        have : k = 0 := by
          have := congrArg List.length hk
          rw [List.length_append, List.length_replicate, hr2.2.1, H.out.1] at this
          omega
        subst this
        rw [List.replicate_zero, List.append_nil] at hk
        exact hk.symm
      rw [e4]
      exact ⟨b1, o1, e1, e2, e3⟩⟩)
    have hn5 := hr2.1
    clear hr hr2
    by_cases hb : b = true ∧ n = 0
    · obtain ⟨rfl, rfl⟩ := hb
      go_wp2
      go_ret
      refine ⟨⟨2, rfl, by omega, fun h => ?_⟩, HW.out⟩
      have h1 := h.2.1
      have h2 := HR.out.1
      have h3 : val xs = 0 := digs_eq_nil.1 (List.length_eq_zero_iff.1 h2)
      simp [zv, h3] at h1
    · have hw : RI w b A n c (zv b xs) := by
        have := RI.of b HR.out hc
        have e : (b && decide (0 < n)) = b := by
          cases b
          · rfl
          · have : n ≠ 0 := fun e => hb ⟨rfl, e⟩
            simp; omega
        rw [e] at this
        exact this
      have HWI := Lib.hid hw
      clear hw
      cases b
      · clear hb
        go_wp2
        go_ret
        exact ⟨⟨0, rfl, fun _ => ⟨hn5, HWI.out⟩, fun _ => rfl⟩, HW.out⟩
      · have hn0 : n ≠ 0 := fun e => hb ⟨rfl, e⟩
        have q : ((n : Int) == 0) = false := by rw [beq_eq_false_iff_ne]; omega
        clear hb hn0
        go_wp2
        go_ret
        exact ⟨⟨0, rfl, fun _ => ⟨hn5, HWI.out⟩, fun _ => rfl⟩, HW.out⟩
  · have q : ((r : Int) == 0) = false := by rw [beq_eq_false_iff_ne]; exact h0
    have H0 := Lib.hid h0
    have HR := Lib.hid hr
    clear h0 hr
    go_wp2
    go_ret
    refine ⟨⟨r, rfl, fun h => absurd h H0.out, fun h => ?_⟩, HW.out⟩
    refine HR.out.2 ⟨h.1, ?_⟩
    have h1 := h.2.2.2
    have h2 : (zv b xs).natAbs = val xs := by unfold zv; cases b <;> simp
    rw [h2] at h1
    exact h1.below HW.out
end Go.Proofs.Ytgioppkggpfnoaa.Nu
end

section
/- The walk of whole.Of. -/
set_option linter.unusedVariables false
namespace Go.Proofs.Ytgioppkggpfnoaa.Nu
open Go.RowKit Go.Proofs

set_option maxHeartbeats 2000000 in
theorem wOf_any (w : World) (z : Int) (h0 : -9223372036854775808 ≤ z) (h1 : z ≤ 9223372036854775807) :
    Calls Try.prog 29 #[.int .i64 z] w fun e w' => (∃ b' A' n' c', e = .returned (.agg #[.bool b', .slice A' n' c']) ∧ RI w' b' A' n' c' z) ∧ Below w.heap.size w w' := by
  have B2 := Lib.hid (Blk2.new w 30 (.bool false) (.slice none 0 0))
  have HW := Lib.hid (show Below w.heap.size w (w.alloc (.cells #[.bool false, .slice none 0 0] 30)) from (Below.refl _ w).alloc (Nat.le_refl _) _)
  by_cases hz : z < 0
  · go_enter Try.func29, Try.ntmps29
    go_wp2_with fail
    generalize w.alloc (.cells #[.bool false, .slice none 0 0] 30) = w0 at *
    rw [show IntKind.u64.wrap (-IntKind.u64.wrap z) = ((z.natAbs : Nat) : Int) by rw [wrap_u64, wrap_u64]; omega]
    refine (of_any w0 z.natAbs (by omega)).mono ?_
    rintro e w1 ⟨A, m, rfl, hr, hb⟩
    have B2' := Lib.hid (B2.out.below hb)
    have HR := Lib.hid hr
    have HB := Lib.hid (HW.out.trans (hb.mono HW.out.size))
    clear hr hb B2
    go_wp2_with fail
    refine (wof_any w1 true A m m).mono ?_
    rintro e w2 ⟨rfl, hb2⟩
    obtain ⟨r0, r1, s0, s1⟩ := (B2'.out.below hb2).facts
    have B3 := Lib.hid (B2'.out.below hb2)
    have HB2 := Lib.hid (HB.out.trans (hb2.mono HB.out.size))
    have HR2 := Lib.hid (HR.out.below hb2)
    have HZ := Lib.hid hz
    clear hb2 hz
    go_wp2
    refine bodyPost_ret (v := .agg #[.bool (true && decide (0 < m)), .slice A m m]) ?_ rfl ?_
    · simp [results, Try.f29, go_sem, r0, r1]
    · exact ⟨⟨_, _, _, _, rfl, ((RI.of true HR2.out (Nat.le_refl _)).cast (by have := HZ.out; simp only [if_true]; omega)).set2 B3.out _ _⟩, below_set2 HB2.out (by omega) _ _⟩
  · go_enter Try.func29, Try.ntmps29
    go_wp2_with fail
    generalize w.alloc (.cells #[.bool false, .slice none 0 0] 30) = w0 at *
    rw [show z = ((z.natAbs : Nat) : Int) by omega]
    refine (of_any w0 z.natAbs (by omega)).mono ?_
    rintro e w1 ⟨A, m, rfl, hr, hb⟩
    have B2' := Lib.hid (B2.out.below hb)
    have HR := Lib.hid hr
    have HB := Lib.hid (HW.out.trans (hb.mono HW.out.size))
    clear hr hb B2
    go_wp2_with fail
    refine (wof_any w1 false A m m).mono ?_
    rintro e w2 ⟨rfl, hb2⟩
    obtain ⟨r0, r1, s0, s1⟩ := (B2'.out.below hb2).facts
    have B3 := Lib.hid (B2'.out.below hb2)
    have HB2 := Lib.hid (HB.out.trans (hb2.mono HB.out.size))
    have HR2 := Lib.hid (HR.out.below hb2)
    have HZ := Lib.hid hz
    clear hb2 hz
    go_wp2
    refine bodyPost_ret (v := .agg #[.bool (false && decide (0 < m)), .slice A m m]) ?_ rfl ?_
    · simp [results, Try.f29, go_sem, r0, r1]
    · exact ⟨⟨_, _, _, _, rfl, ((RI.of false HR2.out (Nat.le_refl _)).cast (by have := HZ.out; simp only [Bool.false_eq_true, if_false]; omega)).set2 B3.out _ _⟩, below_set2 HB2.out (by omega) _ _⟩
end Go.Proofs.Ytgioppkggpfnoaa.Nu
end

section
/- Numbers times powers of two, plain: what the program's dyads stand for and how they are reckoned with. No program in sight. -/
namespace Go.Proofs.Ytgioppkggpfnoaa.Nu

/-- How many bits a number has. -/
def nb (x : Nat) : Nat := if x = 0 then 0 else Nat.log2 x + 1
theorem nb_zero : nb 0 = 0 := rfl
theorem nb_le {x k : Nat} : nb x ≤ k ↔ x < 2 ^ k := by
  unfold nb
  by_cases h : x = 0
  · subst h; simp [Nat.two_pow_pos]
  · rw [if_neg h, ← Nat.log2_lt h]; omega
theorem nb_mul (x y : Nat) : nb (x * y) ≤ nb x + nb y := by
  rw [nb_le, Nat.pow_add]
  exact Nat.mul_lt_mul'' (nb_le.1 (Nat.le_refl _)) (nb_le.1 (Nat.le_refl _))
theorem nb_mono {x y : Nat} (h : x ≤ y) : nb x ≤ nb y := nb_le.2 (Nat.lt_of_le_of_lt h (nb_le.1 (Nat.le_refl _)))

/-- How many noughts stand at the end of a number's bits. -/
def tz (n : Nat) : Nat := if h : n = 0 then 0 else if n % 2 = 1 then 0 else tz (n / 2) + 1
termination_by n
decreasing_by omega
/-- A whole number times a power of two. -/
structure D where
  z : Int
  x : Int
/-- In the one form that it has: odd, or all of it nought. -/
def D.Can (d : D) : Prop := d.z % 2 = 1 ∨ d.z = 0 ∧ d.x = 0
def D.mk' (z x : Int) : D := if z = 0 then ⟨0, 0⟩ else ⟨z / 2 ^ tz z.natAbs, x + tz z.natAbs⟩
def D.val (d : D) : Rat := d.z * (2 : Rat) ^ d.x
/-- No finer than 2^-E, less than 2^T. -/
def D.Lim (E T : Nat) (d : D) : Prop := -(E : Int) ≤ d.x ∧ d.x + nb d.z.natAbs ≤ T
/-! ### The one form -/
theorem D.Lim.mono {d : D} {E T E' T' : Nat} (h : d.Lim E T) (h1 : E ≤ E') (h2 : T ≤ T') : d.Lim E' T' := ⟨by have := h.1; omega, by have := h.2; omega⟩
theorem zero_can : D.Can ⟨0, 0⟩ := .inr ⟨rfl, rfl⟩
/-! ### Neg, Abs, Mul -/
def D.neg (d : D) : D := ⟨-d.z, d.x⟩
def D.abs (d : D) : D := ⟨d.z.natAbs, d.x⟩
/-! ### Add -/
def D.add (a b : D) : D :=
  if a.z = 0 then D.mk' b.z b.x else if b.z = 0 then D.mk' a.z a.x else D.mk' (a.z * 2 ^ (a.x - min a.x b.x).toNat + b.z * 2 ^ (b.x - min a.x b.x).toNat) (min a.x b.x)
theorem nb_add (x y : Int) (k : Nat) (h : nb x.natAbs ≤ k) (h2 : nb y.natAbs ≤ k) : nb (x + y).natAbs ≤ k + 1 := by
  rw [nb_le] at *
  rw [Nat.pow_succ]
  omega
def D.sub (a b : D) : D := a.add b.neg
/-! ### Compare -/
/-- -1, 0 or 1, as two numbers stand to each other. -/
def qcmp (p q : Rat) : Int := if p < q then -1 else if q < p then 1 else 0
def D.cmp (a b : D) : Int := qcmp a.val b.val
/-- Above how many bits the highest one stands. -/
def D.top (d : D) : Int := d.x + nb d.z.natAbs
/-! ### Round -/
def D.round (d : D) (bits : Nat) (up : Bool) : D :=
  if nb d.z.natAbs ≤ bits then d else D.mk' (if up then -(-d.z / 2 ^ (nb d.z.natAbs - bits)) else d.z / 2 ^ (nb d.z.natAbs - bits)) (d.x + (nb d.z.natAbs - bits : Nat))
end Go.Proofs.Ytgioppkggpfnoaa.Nu
end

section
/- Spans and sets of dyads, plain: what the program computes with them. No program in sight. -/
namespace Go.Proofs.Ytgioppkggpfnoaa.Nu

def D.zero : D := ⟨0, 0⟩
def D.mx (a b : D) : D := if a.cmp b < 0 then b else a
/-- All numbers between two. -/
structure Sp where
  lo : D
  hi : D
def Sp.Can (s : Sp) : Prop := s.lo.Can ∧ s.hi.Can
def Sp.Lim (E T : Nat) (s : Sp) : Prop := s.lo.Lim E T ∧ s.hi.Lim E T
def Sp.zero : Sp := ⟨D.zero, D.zero⟩
def Sp.out (l h : D) (bits : Nat) : Sp := ⟨l.round bits false, h.round bits true⟩
def Sp.add (a b : Sp) (bits : Nat) : Sp := Sp.out (a.lo.add b.lo) (a.hi.add b.hi) bits
def Sp.neg (a : Sp) : Sp := ⟨a.hi.neg, a.lo.neg⟩
def Sp.sub (a b : Sp) (bits : Nat) : Sp := a.add b.neg bits
def Sp.size (a : Sp) : D := a.lo.abs.mx a.hi.abs
theorem Sp.Lim.mono {s : Sp} {E T E' T' : Nat} (h : s.Lim E T) (h1 : E ≤ E') (h2 : T ≤ T') : s.Lim E' T' := ⟨h.1.mono h1 h2, h.2.mono h1 h2⟩
theorem D.Lim.nb {d : D} {E T : Nat} (h : d.Lim E T) : Nu.nb d.z.natAbs ≤ E + T := by have := h.1; have := h.2; omega
def dot (a b : Nat → Rat) : Nat → Rat
  | 0 => 0
  | k + 1 => dot a b k + a k * b k
/-! ### Sets -/
/-- A set of n places: its middle, its m ways, and how much more it goes place by place. -/
structure Zo where
  n : Nat
  c : Nat → D
  m : Nat
  g : Nat → Nat → D
  r : Nat → D
structure Zo.Can (z : Zo) : Prop where
  c : ∀ i, i < z.n → (z.c i).Can
  g : ∀ k i, k < z.m → i < z.n → (z.g k i).Can
  r : ∀ i, i < z.n → (z.r i).Can
  p : ∀ i, i < z.n → 0 ≤ (z.r i).z

/-! ### How far a set goes, in numbers -/
def qabs (q : Rat) : Rat := if 0 ≤ q then q else -q
def sumQ (f : Nat → Rat) : Nat → Rat
  | 0 => 0
  | k + 1 => sumQ f k + f k
def Zo.far (z : Zo) (d : Nat → Rat) : Rat :=
  dot (fun i => (z.c i).val) d z.n + sumQ (fun k => qabs (dot (fun i => (z.g k i).val) d z.n)) z.m + dot (fun i => (z.r i).val) (fun i => qabs (d i)) z.n
end Go.Proofs.Ytgioppkggpfnoaa.Nu
end

section
/- Blocks, and numbers in memory: the small laws that the walks over structs use. -/
set_option linter.unusedVariables false
namespace Go.Proofs.Ytgioppkggpfnoaa.Nu
open Go.RowKit Go.Proofs

/-- A block known whole. -/
def Bk (w : World) (g : Nat) (t : TypeId) (cs : Array Value) : Prop := w.heap[g]? = some (.cells cs t (0, 0))
theorem Bk.lt {w : World} {g : Nat} {t : TypeId} {cs : Array Value} (h : Bk w g t cs) : g < w.heap.size := (Array.getElem?_eq_some_iff.1 h).1
theorem Bk.below {w w' : World} {g : Nat} {t : TypeId} {cs : Array Value} (h : Bk w g t cs) (hb : Below w.heap.size w w') : Bk w' g t cs := by
  unfold Bk; rw [hb.block g h.lt]; exact h
theorem Bk.alloc {w : World} {g : Nat} {t : TypeId} {cs : Array Value} (h : Bk w g t cs) (o : Obj) : Bk (w.alloc o) g t cs := by
  unfold Bk; rw [Lib.alloc_old _ _ _ h.lt]; exact h
theorem Bk.new (w : World) (t : TypeId) (cs : Array Value) : Bk (w.alloc (.cells cs t)) w.heap.size t cs := alloc_top w _
theorem Bk.drew {w : World} {g : Nat} {t : TypeId} {cs : Array Value} (h : Bk w g t cs) : Bk w.drew g t cs := h
theorem Bk.cell {w : World} {g : Nat} {t : TypeId} {cs : Array Value} (h : Bk w g t cs) (j : Nat) {v : Value} (hj : cs[j]? = some v) : w.cell? ⟨g, j, none⟩ = some v := by rw [Lib.cell_of_heap h]; exact hj
theorem Bk.free {w : World} {g : Nat} {t : TypeId} {cs : Array Value} (h : Bk w g t cs) (j : Nat) : w.frozen? ⟨g, j, none⟩ = false := Lib.frozen_of_heap h j
theorem Bk.set {w : World} {g : Nat} {t : TypeId} {cs : Array Value} (h : Bk w g t cs) (j : Nat) (v : Value) : Bk (w.setCell ⟨g, j, none⟩ v) g t (cs.setIfInBounds j v) := by
  unfold Bk; rw [heap_setCell_same w g j _ _ _ h]
theorem Bk.ne {w : World} {g g' : Nat} {t : TypeId} {cs : Array Value} (h : Bk w g t cs) (hg : g ≠ g') (j : Nat) (v : Value) : Bk (w.setCell ⟨g', j, none⟩ v) g t cs := by
  unfold Bk; rw [Below.heap_setCell _ _ _ _ hg]; exact h

/-- Every digit that lay somewhere lies there. -/
def Dk (w w' : World) : Prop := w.heap.size ≤ w'.heap.size ∧ ∀ b o v, w.cell? ⟨b, o, none⟩ = some (.int .u32 v) → w'.cell? ⟨b, o, none⟩ = some (.int .u32 v)
theorem Dk.refl (w : World) : Dk w w := ⟨Nat.le_refl _, fun _ _ _ h => h⟩
theorem Dk.trans {w w1 w2 : World} (h : Dk w w1) (h2 : Dk w1 w2) : Dk w w2 := ⟨Nat.le_trans h.1 h2.1, fun b o v e => h2.2 b o v (h.2 b o v e)⟩
theorem cell_lt {w : World} {b o : Nat} {v : Value} (h : w.cell? ⟨b, o, none⟩ = some v) : b < w.heap.size := by
  false_or_by_contra
  rename_i hb
  have e : w.heap[b]? = none := Array.getElem?_eq_none (by omega)
  simp [World.cell?, e] at h
theorem Dk.below {w w' : World} (h : Below w.heap.size w w') : Dk w w' := ⟨h.size, fun b o v e => (h.cell (p := ⟨b, o, none⟩) (cell_lt e)).trans e⟩
theorem Dk.alloc {w w' : World} (h : Dk w w') (o : Obj) : Dk w (w'.alloc o) := h.trans (.below ((Below.refl _ w').alloc (Nat.le_refl _) o))
theorem Dk.set {w w' : World} (h : Dk w w') {g : Nat} {t : TypeId} {cs : Array Value} (B : Bk w' g t cs) (j : Nat) (hj : ∀ v, cs[j]? ≠ some (.int .u32 v)) (u : Value) : Dk w (w'.setCell ⟨g, j, none⟩ u) := by
  refine h.trans ⟨by simp [World.setCell], fun b o v e => ?_⟩
  by_cases hb : b = g
  · subst hb
    by_cases ho : o = j
    · subst ho
      rw [Lib.cell_of_heap B] at e
      exact absurd e (hj v)
    · rw [Lib.cell_of_heap (B.set j u)]
      rw [Lib.cell_of_heap B] at e
      rw [Array.getElem?_setIfInBounds_ne (Ne.symm ho)]
      exact e
  · rw [← e]
    exact World.cell?_of_block (Below.heap_setCell _ _ _ _ hb)
theorem Dk.drew {w w' : World} (h : Dk w w') : Dk w w'.drew := h
theorem RL.dk {w w' : World} {A : Option Addr} {n : Nat} {xs : List Nat} (h : RL w A n xs) (k : Dk w w') : RL w' A n xs := by
  obtain ⟨h1, h2, hd, h3⟩ := h
  refine ⟨h1, h2, hd, fun h0 => ?_⟩
  obtain ⟨b, off, hA, hlt, hc⟩ := h3 h0
  exact ⟨b, off, hA, Nat.lt_of_lt_of_le hlt k.1, fun j hj => k.2 _ _ _ (hc j hj)⟩
theorem RI.dk {w w' : World} {b : Bool} {A : Option Addr} {n c : Nat} {z : Int} (h : RI w b A n c z) (k : Dk w w') : RI w' b A n c z := ⟨h.1, h.2.1, RL.dk h.2.2 k⟩

/-- Where a whole number's digits lie, and its sign bit. -/
structure Q where
  b : Bool
  A : Option Addr
  n : Nat
  c : Nat
def Q.nil : Q := ⟨false, none, 0, 0⟩
/-- A whole number, as a struct's cells hold it. -/
def RW (w : World) (q : Q) (z : Int) : Prop := RI w q.b q.A q.n q.c z
/-- A dyad: its whole number so, and in its one form. -/
def RD (w : World) (q : Q) (d : D) : Prop := RW w q d.z ∧ d.Can
theorem RW.below {w w' : World} {q : Q} {z : Int} (h : RW w q z) (hb : Below w.heap.size w w') : RW w' q z := RI.below h hb
theorem RW.dk {w w' : World} {q : Q} {z : Int} (h : RW w q z) (hb : Dk w w') : RW w' q z := RI.dk h hb
theorem RD.below {w w' : World} {q : Q} {d : D} (h : RD w q d) (hb : Below w.heap.size w w') : RD w' q d := ⟨RW.below h.1 hb, h.2⟩
theorem RD.dk {w w' : World} {q : Q} {d : D} (h : RD w q d) (hb : Dk w w') : RD w' q d := ⟨RW.dk h.1 hb, h.2⟩
theorem RW.zero (w : World) : RW w Q.nil 0 := ⟨rfl, Nat.le_refl _, RN.zero w none⟩
theorem RD.zero (w : World) : RD w Q.nil D.zero := ⟨RW.zero w, zero_can⟩
/-- Where a span's two numbers lie. -/
structure SQ where
  lo : Q
  hi : Q
def RS (w : World) (s : SQ) (a : Sp) : Prop := RD w s.lo a.lo ∧ RD w s.hi a.hi
theorem RS.below {w w' : World} {s : SQ} {a : Sp} (h : RS w s a) (hb : Below w.heap.size w w') : RS w' s a := ⟨h.1.below hb, h.2.below hb⟩
theorem RS.dk {w w' : World} {s : SQ} {a : Sp} (h : RS w s a) (hb : Dk w w') : RS w' s a := ⟨h.1.dk hb, h.2.dk hb⟩
theorem RS.zero (w : World) : RS w ⟨Q.nil, Q.nil⟩ Sp.zero := ⟨RD.zero w, RD.zero w⟩
/-- How many digits: by its bits. -/
theorem RW.len {w : World} {q : Q} {z : Int} (h : RW w q z) {k : Nat} (hk : nb z.natAbs ≤ 32 * k) : q.n ≤ k := by
  have h1 := h.2.2.1
  rw [← h1]
  refine digs_len_le.2 ?_
  have h2 := nb_le.1 hk
  rw [show (4294967296 : Nat) = 2 ^ 32 from rfl, ← Nat.pow_mul]
  exact h2
theorem RI.rw {w : World} {b : Bool} {A : Option Addr} {n c : Nat} {z : Int} (h : RI w b A n c z) : RW w ⟨b, A, n, c⟩ z := h
theorem size_nb {z : Int} (h : nb z.natAbs ≤ 16384) : Size z := by
  unfold Size Fit
  refine digs_len_le.2 ?_
  rw [show (4294967296 : Nat) = 2 ^ 32 from rfl, ← Nat.pow_mul]
  exact nb_le.1 h
theorem below_al {w w' : World} (h : Below w.heap.size w w') (o : Obj) : Below w.heap.size w (w'.alloc o) := h.alloc h.size o
theorem below_st {w w' : World} (h : Below w.heap.size w w') {g : Nat} (j : Nat) (hg : w.heap.size ≤ g) (v : Value) : Below w.heap.size w (w'.setCell ⟨g, j, none⟩ v) := h.setCell (p := ⟨g, j, none⟩) hg v
theorem below_dr {w w' : World} (h : Below w.heap.size w w') : Below w.heap.size w w'.drew := h.drew
theorem below_tr {w w1 w2 : World} (h : Below w.heap.size w w1) (h2 : Below w1.heap.size w1 w2) : Below w.heap.size w w2 := h.trans (h2.mono h.size)
theorem boxes1 (w : World) (t0 : TypeId) (c0 : Array Value) : Bk (w.alloc (.cells c0 t0)) (w.heap.size) t0 c0 ∧ Below w.heap.size w (w.alloc (.cells c0 t0)) :=
  ⟨(Bk.new w t0 c0), (below_al (Below.refl _ w) _)⟩
theorem boxes2 (w : World) (t0 : TypeId) (c0 : Array Value) (t1 : TypeId) (c1 : Array Value) : Bk ((w.alloc (.cells c0 t0)).alloc (.cells c1 t1)) (w.heap.size) t0 c0 ∧ Bk ((w.alloc (.cells c0 t0)).alloc (.cells c1 t1)) (w.heap.size + 1) t1 c1 ∧ Below w.heap.size w ((w.alloc (.cells c0 t0)).alloc (.cells c1 t1)) :=
  ⟨((Bk.new w t0 c0).alloc (.cells c1 t1)), (by have hh := (Bk.new (w.alloc (.cells c0 t0)) t1 c1); simpa only [World.size_alloc] using hh), (below_al (below_al (Below.refl _ w) _) _)⟩
theorem boxes3 (w : World) (t0 : TypeId) (c0 : Array Value) (t1 : TypeId) (c1 : Array Value) (t2 : TypeId) (c2 : Array Value) : Bk (((w.alloc (.cells c0 t0)).alloc (.cells c1 t1)).alloc (.cells c2 t2)) (w.heap.size) t0 c0 ∧ Bk (((w.alloc (.cells c0 t0)).alloc (.cells c1 t1)).alloc (.cells c2 t2)) (w.heap.size + 1) t1 c1 ∧ Bk (((w.alloc (.cells c0 t0)).alloc (.cells c1 t1)).alloc (.cells c2 t2)) (w.heap.size + 2) t2 c2 ∧ Below w.heap.size w (((w.alloc (.cells c0 t0)).alloc (.cells c1 t1)).alloc (.cells c2 t2)) :=
  ⟨(((Bk.new w t0 c0).alloc (.cells c1 t1)).alloc (.cells c2 t2)), (by have hh := ((Bk.new (w.alloc (.cells c0 t0)) t1 c1).alloc (.cells c2 t2)); simpa only [World.size_alloc] using hh), (by have hh := (Bk.new ((w.alloc (.cells c0 t0)).alloc (.cells c1 t1)) t2 c2); simpa only [World.size_alloc] using hh), (below_al (below_al (below_al (Below.refl _ w) _) _) _)⟩
end Go.Proofs.Ytgioppkggpfnoaa.Nu
end

section
namespace Go.Proofs.Ytgioppkggpfnoaa.Nu
open Go.RowKit Go.Proofs
theorem Bk.cells2 {w : World} {g : Nat} {t : TypeId} {a0 a1 : Value} (h : Bk w g t #[a0, a1]) : w.cell? ⟨g, 0, none⟩ = some a0 ∧ w.cell? ⟨g, 1, none⟩ = some a1 := ⟨h.cell 0 rfl, h.cell 1 rfl⟩
theorem Bk.cells3 {w : World} {g : Nat} {t : TypeId} {a0 a1 a2 : Value} (h : Bk w g t #[a0, a1, a2]) : w.cell? ⟨g, 0, none⟩ = some a0 ∧ w.cell? ⟨g, 1, none⟩ = some a1 ∧ w.cell? ⟨g, 2, none⟩ = some a2 := ⟨h.cell 0 rfl, h.cell 1 rfl, h.cell 2 rfl⟩
theorem Bk.cells4 {w : World} {g : Nat} {t : TypeId} {a0 a1 a2 a3 : Value} (h : Bk w g t #[a0, a1, a2, a3]) : w.cell? ⟨g, 0, none⟩ = some a0 ∧ w.cell? ⟨g, 1, none⟩ = some a1 ∧ w.cell? ⟨g, 2, none⟩ = some a2 ∧ w.cell? ⟨g, 3, none⟩ = some a3 := ⟨h.cell 0 rfl, h.cell 1 rfl, h.cell 2 rfl, h.cell 3 rfl⟩
theorem Bk.cells6 {w : World} {g : Nat} {t : TypeId} {a0 a1 a2 a3 a4 a5 : Value} (h : Bk w g t #[a0, a1, a2, a3, a4, a5]) : w.cell? ⟨g, 0, none⟩ = some a0 ∧ w.cell? ⟨g, 1, none⟩ = some a1 ∧ w.cell? ⟨g, 2, none⟩ = some a2 ∧ w.cell? ⟨g, 3, none⟩ = some a3 ∧ w.cell? ⟨g, 4, none⟩ = some a4 ∧ w.cell? ⟨g, 5, none⟩ = some a5 := ⟨h.cell 0 rfl, h.cell 1 rfl, h.cell 2 rfl, h.cell 3 rfl, h.cell 4 rfl, h.cell 5 rfl⟩
theorem Bk.cells12 {w : World} {g : Nat} {t : TypeId} {a0 a1 a2 a3 a4 a5 a6 a7 a8 a9 a10 a11 : Value} (h : Bk w g t #[a0, a1, a2, a3, a4, a5, a6, a7, a8, a9, a10, a11]) : w.cell? ⟨g, 0, none⟩ = some a0 ∧ w.cell? ⟨g, 1, none⟩ = some a1 ∧ w.cell? ⟨g, 2, none⟩ = some a2 ∧ w.cell? ⟨g, 3, none⟩ = some a3 ∧ w.cell? ⟨g, 4, none⟩ = some a4 ∧ w.cell? ⟨g, 5, none⟩ = some a5 ∧ w.cell? ⟨g, 6, none⟩ = some a6 ∧ w.cell? ⟨g, 7, none⟩ = some a7 ∧ w.cell? ⟨g, 8, none⟩ = some a8 ∧ w.cell? ⟨g, 9, none⟩ = some a9 ∧ w.cell? ⟨g, 10, none⟩ = some a10 ∧ w.cell? ⟨g, 11, none⟩ = some a11 := ⟨h.cell 0 rfl, h.cell 1 rfl, h.cell 2 rfl, h.cell 3 rfl, h.cell 4 rfl, h.cell 5 rfl, h.cell 6 rfl, h.cell 7 rfl, h.cell 8 rfl, h.cell 9 rfl, h.cell 10 rfl, h.cell 11 rfl⟩
end Go.Proofs.Ytgioppkggpfnoaa.Nu
end

section
/- The contracts of whole.Add, Mul, Compare, Of in one form: a number's place is one letter. -/
set_option linter.unusedVariables false
namespace Go.Proofs.Ytgioppkggpfnoaa.Nu
open Go.RowKit Go.Proofs

theorem wadd_q (w : World) (p q : Q) (x y : Int) (h : RW w p x) (h2 : RW w q y) (hx : nb x.natAbs ≤ 16000) (hy : nb y.natAbs ≤ 16000) :
    Calls Try.prog 43 #[.agg #[.bool p.b, .slice p.A p.n p.c], .agg #[.bool q.b, .slice q.A q.n q.c]] w fun e w' => (∃ r : Q, e = .returned (.tuple #[.agg #[.bool r.b, .slice r.A r.n r.c], .int .i64 0]) ∧ RW w' r (x + y)) ∧ Below w.heap.size w w' :=
  (wadd_any w p.b q.b p.A q.A p.n p.c q.n q.c x y h h2 (h.len (k := 512) (by omega)) (h2.len (k := 512) (by omega)) (size_nb (Nat.le_trans (nb_add x y 16000 hx hy) (by omega)))).mono fun _ _ ⟨⟨b, A, n, c, he, hr⟩, hb⟩ => ⟨⟨⟨b, A, n, c⟩, he, hr⟩, hb⟩
theorem wmul_q (w : World) (p q : Q) (x y : Int) (h : RW w p x) (h2 : RW w q y) (hxy : nb x.natAbs + nb y.natAbs ≤ 16320) :
    Calls Try.prog 24 #[.agg #[.bool p.b, .slice p.A p.n p.c], .agg #[.bool q.b, .slice q.A q.n q.c]] w fun e w' => (∃ r : Q, e = .returned (.tuple #[.agg #[.bool r.b, .slice r.A r.n r.c], .int .i64 0]) ∧ RW w' r (x * y)) ∧ Below w.heap.size w w' := by
  have h3 := h.len (k := (nb x.natAbs + 31) / 32) (by omega)
  have h4 := h2.len (k := (nb y.natAbs + 31) / 32) (by omega)
  have h5 := nb_mul x.natAbs y.natAbs
  rw [← Int.natAbs_mul] at h5
  exact (wmul_any w p.b q.b p.A q.A p.n p.c q.n q.c x y h h2 (by omega) (size_nb (by omega))).mono fun _ _ ⟨⟨b, A, n, c, he, hr⟩, hb⟩ => ⟨⟨⟨b, A, n, c⟩, he, hr⟩, hb⟩
theorem wcompare_q (w : World) (p q : Q) (x y : Int) (h : RW w p x) (h2 : RW w q y) :
    Calls Try.prog 27 #[.agg #[.bool p.b, .slice p.A p.n p.c], .agg #[.bool q.b, .slice q.A q.n q.c]] w fun e w' => e = .returned (.int .i64 (icmp x y)) ∧ Below w.heap.size w w' :=
  wcompare_any w p.b q.b p.A q.A p.n p.c q.n q.c x y h h2
theorem wOf_q (w : World) (z : Int) (h0 : -9223372036854775808 ≤ z) (h1 : z ≤ 9223372036854775807) :
    Calls Try.prog 29 #[.int .i64 z] w fun e w' => (∃ r : Q, e = .returned (.agg #[.bool r.b, .slice r.A r.n r.c]) ∧ RW w' r z) ∧ Below w.heap.size w w' :=
  (wOf_any w z h0 h1).mono fun _ _ ⟨⟨b, A, n, c, he, hr⟩, hb⟩ => ⟨⟨⟨b, A, n, c⟩, he, hr⟩, hb⟩
end Go.Proofs.Ytgioppkggpfnoaa.Nu
end

section
/- Ratios in lowest terms, plain. No program in sight. -/
namespace Go.Proofs.Ytgioppkggpfnoaa.Nu

theorem gcd_swap (a b : Int) : Int.gcd b a = Nat.gcd a.natAbs b.natAbs := by rw [Int.gcd_comm]; rfl
theorem make_num (a b : Int) (hb : b ≠ 0) : (Rat.divInt a b).num.natAbs = a.natAbs / Nat.gcd a.natAbs b.natAbs := by
  rw [Rat.num_divInt, gcd_swap, Int.natAbs_ediv_of_dvd, Int.natAbs_mul, Int.natAbs_sign_of_ne_zero hb, Nat.one_mul]
  · rfl
  · rw [← gcd_swap]
    exact Int.dvd_mul_of_dvd_right (Int.gcd_dvd_right b a)
theorem make_den (a b : Int) (hb : b ≠ 0) : (Rat.divInt a b).den = b.natAbs / Nat.gcd a.natAbs b.natAbs := by
  rw [Rat.den_divInt, if_neg hb, gcd_swap]
theorem make_neg (a b : Int) (hb : b ≠ 0) : decide ((Rat.divInt a b).num < 0) = ((decide (a < 0) != decide (b < 0)) && decide (0 < a.natAbs / Nat.gcd a.natAbs b.natAbs)) := by
  have hg : 0 < Nat.gcd a.natAbs b.natAbs := Nat.gcd_pos_of_pos_right _ (by omega)
  have hgi : (0 : Int) < ((Nat.gcd a.natAbs b.natAbs : Nat) : Int) := by omega
  have hd : ((Nat.gcd a.natAbs b.natAbs : Nat) : Int) ∣ b.sign * a := by
    rw [← gcd_swap]
    exact Int.dvd_mul_of_dvd_right (Int.gcd_dvd_right b a)
  have hq : 0 < a.natAbs / Nat.gcd a.natAbs b.natAbs ↔ a ≠ 0 := by
    constructor
    · intro h e
      subst e
      simp at h
    · intro h
      exact Nat.div_pos (Nat.le_of_dvd (by omega) (Nat.gcd_dvd_left _ _)) hg
  have hn : (Rat.divInt a b).num < 0 ↔ b.sign * a < 0 := by
    rw [Rat.num_divInt, gcd_swap]
    constructor
    · intro h
      false_or_by_contra
      rename_i h2
      have := Int.ediv_nonneg (a := b.sign * a) (by omega) (Int.le_of_lt hgi)
      omega
    · intro h
      exact Int.ediv_neg_of_neg_of_pos h hgi
  rw [Bool.eq_iff_iff]
  simp only [decide_eq_true_eq, Bool.and_eq_true, bne_iff_ne, ne_eq, decide_eq_decide]
  rw [hn, hq]
  rcases Int.lt_trichotomy b 0 with h | h | h
  · rw [Int.sign_eq_neg_one_of_neg h]
    omega
  · exact absurd h hb
  · rw [Int.sign_eq_one_of_pos h]
    omega
theorem add_eq (r s : Rat) : Rat.divInt (r.num * s.den + s.num * r.den) ((r.den : Int) * s.den) = r + s := by
  rw [Rat.add_def', ← Rat.divInt_ofNat]
  simp
theorem mul_eq (r s : Rat) : Rat.divInt (r.num * s.num) ((r.den : Int) * s.den) = r * s := by
  rw [Rat.mul_def', ← Rat.divInt_ofNat]
  simp
theorem rat_eq (r s : Rat) : r = s ↔ r.num * s.den = s.num * r.den := by
  constructor
  · rintro rfl; rfl
  · intro h
    have y0 := r.den_nz; have y1 := s.den_nz; have := (Rat.divInt_eq_divInt_iff (d₁ := r.den) (d₂ := s.den) (n₁ := r.num) (n₂ := s.num) (by omega) (by omega)).2 h; clear y0 y1
    rw [Rat.num_divInt_den, Rat.num_divInt_den] at this
    exact this
end Go.Proofs.Ytgioppkggpfnoaa.Nu
end

section
/- How many bits a ratio's two numbers have, plain. No program in sight. -/
set_option linter.unusedVariables false
namespace Go.Proofs.Ytgioppkggpfnoaa.Nu

/-- Neither number of a ratio has more bits. -/
def RLim (a : Nat) (x : Rat) : Prop := nb x.num.natAbs ≤ a ∧ nb x.den ≤ a
theorem RLim.mono {a b : Nat} {x : Rat} (h : RLim a x) (hab : a ≤ b) : RLim b x := ⟨Nat.le_trans h.1 hab, Nat.le_trans h.2 hab⟩
theorem make_lim {n d : Int} {p : Nat} (hd : d ≠ 0) (h1 : nb n.natAbs ≤ p) (h2 : nb d.natAbs ≤ p) : RLim p (Rat.divInt n d) := by
  constructor
  · rw [make_num n d hd]
    exact Nat.le_trans (nb_mono (Nat.div_le_self _ _)) h1
  · rw [make_den n d hd]
    exact Nat.le_trans (nb_mono (Nat.div_le_self _ _)) h2
theorem nb_imul (x y : Int) : nb (x * y).natAbs ≤ nb x.natAbs + nb y.natAbs := by rw [Int.natAbs_mul]; exact nb_mul _ _
theorem addn_lim {a b : Nat} {r s : Rat} (hr : RLim a r) (hs : RLim b s) : nb (r.num * s.den).natAbs ≤ a + b ∧ nb (s.num * r.den).natAbs ≤ a + b ∧ nb ((r.den : Int) * s.den).natAbs ≤ a + b ∧ nb (r.num * s.den + s.num * r.den).natAbs ≤ a + b + 1 := by
  have h1 := nb_imul r.num s.den
  have h2 := nb_imul s.num r.den
  have h3 := nb_imul r.den s.den
  rw [Int.natAbs_natCast] at h1 h2
  rw [Int.natAbs_natCast, Int.natAbs_natCast] at h3
  have := hr.1
  have := hr.2
  have := hs.1
  have := hs.2
  exact ⟨by omega, by omega, by omega, nb_add _ _ _ (by omega) (by omega)⟩
theorem den_ne (r s : Rat) : ((r.den : Int) * s.den) ≠ 0 := by
  have := r.den_nz
  have := s.den_nz
  exact Int.mul_ne_zero (by omega) (by omega)
theorem radd_lim {a b : Nat} {r s : Rat} (hr : RLim a r) (hs : RLim b s) : RLim (a + b + 1) (r + s) := by
  obtain ⟨h1, h2, h3, h4⟩ := addn_lim hr hs
  rw [← add_eq]
  exact make_lim (den_ne r s) h4 (by omega)
theorem muln_lim {a b : Nat} {r s : Rat} (hr : RLim a r) (hs : RLim b s) : nb (r.num * s.num).natAbs ≤ a + b ∧ nb ((r.den : Int) * s.den).natAbs ≤ a + b := by
  have h1 := nb_imul r.num s.num
  have h3 := nb_imul r.den s.den
  rw [Int.natAbs_natCast, Int.natAbs_natCast] at h3
  have := hr.1
  have := hr.2
  have := hs.1
  have := hs.2
  exact ⟨by omega, by omega⟩
theorem rmul_lim {a b : Nat} {r s : Rat} (hr : RLim a r) (hs : RLim b s) : RLim (a + b) (r * s) := by
  obtain ⟨h1, h2⟩ := muln_lim hr hs
  rw [← mul_eq]
  exact make_lim (den_ne r s) h1 h2
theorem rzero_lim (a : Nat) (h : 1 ≤ a) : RLim a 0 := ⟨by show nb 0 ≤ a; rw [nb_zero]; omega, by show nb 1 ≤ a; exact Nat.le_trans (by decide) h⟩
end Go.Proofs.Ytgioppkggpfnoaa.Nu
end

section
/- Ratios in memory. -/
set_option linter.unusedVariables false
namespace Go.Proofs.Ytgioppkggpfnoaa.Nu
open Go.RowKit Go.Proofs

/-- Where a ratio's two numbers lie. -/
structure TQ where
  q : Q
  A : Option Addr
  n : Nat
  c : Nat
def RR (w : World) (t : TQ) (x : Rat) : Prop := RW w t.q x.num ∧ RN w t.A t.n x.den ∧ t.n ≤ t.c
theorem RR.below {w w' : World} {t : TQ} {x : Rat} (h : RR w t x) (hb : Below w.heap.size w w') : RR w' t x := ⟨h.1.below hb, h.2.1.below hb, h.2.2⟩
theorem RR.dk {w w' : World} {t : TQ} {x : Rat} (h : RR w t x) (hb : Dk w w') : RR w' t x := ⟨h.1.dk hb, RL.dk h.2.1 hb, h.2.2⟩
theorem RR.rw {w : World} {t : TQ} {x : Rat} (h : RR w t x) : RW w t.q x.num := h.1
theorem RN.dk {w w' : World} {A : Option Addr} {n x : Nat} (h : RN w A n x) (hb : Dk w w') : RN w' A n x := RL.dk h hb
/-- How many digits a number has: by its bits. -/
theorem rn_len {w : World} {A : Option Addr} {n x k : Nat} (h : RN w A n x) (hk : nb x ≤ 32 * k) : n ≤ k := by
  rw [← h.1]
  refine digs_len_le.2 ?_
  have h2 := nb_le.1 hk
  rw [show (4294967296 : Nat) = 2 ^ 32 from rfl, ← Nat.pow_mul]
  exact h2
theorem rn_nb {w : World} {A : Option Addr} {n x k : Nat} (h : RN w A n x) (hk : n ≤ k) : nb x ≤ 32 * k := by
  have h1 := h.1
  have h2 : x < 4294967296 ^ k := digs_len_le.1 (by rw [h1]; exact hk)
  rw [show (4294967296 : Nat) = 2 ^ 32 from rfl, ← Nat.pow_mul] at h2
  exact nb_le.2 h2
theorem rw_nb {w : World} {q : Q} {z : Int} {k : Nat} (h : RW w q z) (hk : q.n ≤ k) : nb z.natAbs ≤ 32 * k := rn_nb h.2.2 hk
theorem rn_pos {w : World} {A : Option Addr} {n x : Nat} (h : RN w A n x) : n = 0 ↔ x = 0 := by
  constructor
  · intro e
    exact digs_eq_nil.1 (List.length_eq_zero_iff.1 (by rw [h.1, e]))
  · rintro rfl
    have := h.1
    rw [digs_zero] at this
    simpa using this.symm
end Go.Proofs.Ytgioppkggpfnoaa.Nu
end

section
/- The walks of whole.Nat, ratio.den, ratio.first, ratio.Zero. -/
set_option linter.unusedVariables false
namespace Go.Proofs.Ytgioppkggpfnoaa.Nu
open Go.RowKit Go.Proofs

set_option maxRecDepth 100000 in
set_option maxHeartbeats 4000000 in
theorem wnat_any (w : World) (A : Option Addr) (n c x : Nat) (h : RN w A n x) (hx : nb x ≤ 16384) :
    Calls Try.prog 38 #[.slice A n c] w fun e w' => (∃ r : Q, e = .returned (.agg #[.bool r.b, .slice r.A r.n r.c]) ∧ RW w' r (x : Int)) ∧ Below w.heap.size w w' := by
  have n512 : n ≤ 512 := rn_len h (k := 512) hx
  have HA := Lib.hid h
  clear h hx
  have BX := Lib.hid (boxes1 w 30 #[.bool false, .slice none 0 0])
  go_enter Try.func38, Try.ntmps38
  go_wp2_with fail
  generalize w.alloc (.cells #[.bool false, .slice none 0 0] 30) = w0 at *
  obtain ⟨b0, hw⟩ := BX.out
  have Bo_0 := Lib.hid b0
  have HB_0 := Lib.hid hw
  have K := Dk.below (hw.mono (Nat.le_refl _))
  clear BX hw b0
  have RA_1 := Lib.hid (HA.out.dk K)
  clear K HA
  have lo := Bo_0.out.lt
  obtain ⟨co0, co1⟩ := Bo_0.out.cells2
  go_wp2_with fail
  refine (clone_any _ A n c (digs x) RA_1.out (by omega)).mono ?_
  rintro e w1 ⟨⟨A', c', rfl, hcc, hr⟩, hb⟩
  clear lo co0 co1
  have K := Dk.below hb
  have Bo_2 := Lib.hid (show Bk _ _ _ #[.bool false, .slice none 0 0] from Bo_0.out.below hb)
  have HB_3 := Lib.hid (below_tr HB_0.out hb)
  clear hb
  have RA_4 := Lib.hid (RA_1.out.dk K)
  clear K Bo_0 HB_0 RA_1
  have hr' : RN w1 A' n x := hr
  have RX_5 := Lib.hid hr'
  clear hr'
  have HC := Lib.hid hcc
  clear hcc hr
  have lo := Bo_2.out.lt
  obtain ⟨co0, co1⟩ := Bo_2.out.cells2
  go_wp2_with fail
  refine (wof_any _ false A' n c').mono ?_
  rintro e w2 ⟨rfl, hb⟩
  clear lo co0 co1
  have K := Dk.below hb
  have Bo_6 := Lib.hid (show Bk _ _ _ #[.bool false, .slice none 0 0] from Bo_2.out.below hb)
  have HB_7 := Lib.hid (below_tr HB_3.out hb)
  clear hb
  have RA_8 := Lib.hid (RA_4.out.dk K)
  have RX_9 := Lib.hid (RX_5.out.dk K)
  clear K Bo_2 HB_3 RA_4 RX_5
  have lo := Bo_6.out.lt
  obtain ⟨co0, co1⟩ := Bo_6.out.cells2
  have fo0 := Bo_6.out.free 0
  have fo1 := Bo_6.out.free 1
  go_wp2
  refine bodyPost_ret (v := .agg #[.bool false, (.slice A' n c')]) ?_ rfl ?_
  · simp [results, Try.f38, go_sem, co0, co1]
  · have y0 := HB_7.out.size; exact ⟨⟨⟨false, A', n, c'⟩, rfl, ⟨rfl, HC.out, (RX_9.out.dk (((Dk.refl _).set (cs := #[.bool false, .slice none 0 0]) Bo_6.out 0 (by intro _ hh; cases hh) (.bool false)).set (cs := #[.bool false, .slice none 0 0]) (Bo_6.out.set 0 (.bool false)) 1 (by intro _ hh; cases hh) (.slice A' n c')))⟩⟩, (below_st (below_st HB_7.out 0 (by omega) (.bool false)) 1 (by omega) (.slice A' n c'))⟩

set_option maxRecDepth 100000 in
set_option maxHeartbeats 4000000 in
theorem rden_any (w : World) (t : TQ) (x : Rat) (h : RR w t x) (hx : nb x.den ≤ 16384) :
    Calls Try.prog 25 #[.agg #[.bool t.q.b, .slice t.q.A t.q.n t.q.c, .slice t.A t.n t.c]] w fun e w' => (∃ r : Q, e = .returned (.agg #[.bool r.b, .slice r.A r.n r.c]) ∧ RW w' r (x.den : Int)) ∧ Below w.heap.size w w' := by
  have HA := Lib.hid h
  clear h
  have BX := Lib.hid (boxes2 w 32 #[.bool t.q.b, .slice t.q.A t.q.n t.q.c, .slice t.A t.n t.c] 30 #[.bool false, .slice none 0 0])
  go_enter Try.func25, Try.ntmps25
  go_wp2_with fail
  generalize (w.alloc (.cells #[.bool t.q.b, .slice t.q.A t.q.n t.q.c, .slice t.A t.n t.c] 32)).alloc (.cells #[.bool false, .slice none 0 0] 30) = w0 at *
  obtain ⟨b0, b1, hw⟩ := BX.out
  have Ba_0 := Lib.hid b0
  have Bo_0 := Lib.hid b1
  have HB_0 := Lib.hid hw
  have K := Dk.below (hw.mono (Nat.le_refl _))
  clear BX hw b0 b1
  have RA_1 := Lib.hid (HA.out.dk K)
  clear K HA
  have la := Ba_0.out.lt
  obtain ⟨ca0, ca1, ca2⟩ := Ba_0.out.cells3
  have lo := Bo_0.out.lt
  obtain ⟨co0, co1⟩ := Bo_0.out.cells2
  go_wp2_with fail
  refine (wnat_any _ t.A t.n t.c x.den RA_1.out.2.1 hx).mono ?_
  rintro e w1 ⟨⟨r, rfl, hr⟩, hb⟩
  clear la ca0 ca1 ca2 lo co0 co1
  have K := Dk.below hb
  have Ba_2 := Lib.hid (show Bk _ _ _ #[.bool t.q.b, .slice t.q.A t.q.n t.q.c, .slice t.A t.n t.c] from Ba_0.out.below hb)
  have Bo_3 := Lib.hid (show Bk _ _ _ #[.bool false, .slice none 0 0] from Bo_0.out.below hb)
  have HB_4 := Lib.hid (below_tr HB_0.out hb)
  clear hb
  have RA_5 := Lib.hid (RA_1.out.dk K)
  clear K Ba_0 Bo_0 HB_0 RA_1
  have RX_6 := Lib.hid hr
  clear hr
  have la := Ba_2.out.lt
  obtain ⟨ca0, ca1, ca2⟩ := Ba_2.out.cells3
  have lo := Bo_3.out.lt
  obtain ⟨co0, co1⟩ := Bo_3.out.cells2
  have fo0 := Bo_3.out.free 0
  have fo1 := Bo_3.out.free 1
  go_wp2
  refine bodyPost_ret (v := .agg #[.bool r.b, .slice r.A r.n r.c]) ?_ rfl ?_
  · simp [results, Try.f25, go_sem, co0, co1]
  · have y0 := HB_4.out.size; exact ⟨⟨r, rfl, (RX_6.out.dk (((Dk.refl _).set (cs := #[.bool false, .slice none 0 0]) Bo_3.out 0 (by intro _ hh; cases hh) (.bool r.b)).set (cs := #[.bool r.b, .slice none 0 0]) (Bo_3.out.set 0 (.bool r.b)) 1 (by intro _ hh; cases hh) (.slice r.A r.n r.c)))⟩, (below_st (below_st HB_4.out 0 (by omega) (.bool r.b)) 1 (by omega) (.slice r.A r.n r.c))⟩

set_option maxRecDepth 100000 in
set_option maxHeartbeats 4000000 in
theorem first_zero (w : World) (g k : Nat) (h : ∀ j, j < k → w.cell? ⟨g, j, none⟩ = some (.int .i64 0)) (hk : k ≤ 1000) :
    Calls Try.prog 26 #[.slice (some ⟨g, 0, none⟩) k k] w fun e w' => e = .returned (.int .i64 0) ∧ Below w.heap.size w w' := by
  have H := Lib.hid h
  clear h
  go_enter Try.func26, Try.ntmps26
  go_wp2_with fail
  go_loopw [7] (fun a wr => ∃ i : Nat, a = .int .i64 i ∧ i ≤ k ∧ wr = w) (fun a _ => k - (intOf a).toNat)
  case atStart => exact ⟨0, rfl, Nat.zero_le _, rfl⟩
  case round =>
    obtain ⟨i, rfl, hi, rfl⟩ := hrel
    by_cases hi2 : i < k
    · have q3 : (i : Int) < (k : Int) := by omega
      have x0 := H.out i hi2
      go_wp2
      go_roundw
      case rel => exact ⟨i + 1, by go_num, hi2, trivial⟩
      case measure => simp only [intOf]; omega
    · have q3 : ¬ (i : Int) < (k : Int) := by omega
      go_wp2
      go_ret
      exact ⟨rfl, Below.refl _ _⟩

set_option maxRecDepth 100000 in
set_option maxHeartbeats 4000000 in
theorem rzero_any (w : World)  :
    Calls Try.prog 22 #[] w fun e w' => (∃ t : TQ, e = .returned (.agg #[.bool t.q.b, .slice t.q.A t.q.n t.q.c, .slice t.A t.n t.c]) ∧ RR w' t 0) ∧ Below w.heap.size w w' := by
  have BX := Lib.hid (boxes1 w 32 #[.bool false, .slice none 0 0, .slice none 0 0])
  go_enter Try.func22, Try.ntmps22
  go_wp2_with fail
  generalize w.alloc (.cells #[.bool false, .slice none 0 0, .slice none 0 0] 32) = w0 at *
  obtain ⟨b0, hw⟩ := BX.out
  have Bo_0 := Lib.hid b0
  have HB_0 := Lib.hid hw
  have K := Dk.below (hw.mono (Nat.le_refl _))
  clear BX hw b0
  clear K
  have lo := Bo_0.out.lt
  obtain ⟨co0, co1, co2⟩ := Bo_0.out.cells3
  go_wp2_with fail
  refine (of_any _ 1 (by omega)).mono ?_
  rintro e w1 ⟨A, m, rfl, hr, hb⟩
  clear lo co0 co1 co2
  have K := Dk.below hb
  have Bo_1 := Lib.hid (show Bk _ _ _ #[.bool false, .slice none 0 0, .slice none 0 0] from Bo_0.out.below hb)
  have HB_2 := Lib.hid (below_tr HB_0.out hb)
  clear hb
  clear K Bo_0 HB_0
  have RX_3 := Lib.hid hr
  clear hr
  have lo := Bo_1.out.lt
  obtain ⟨co0, co1, co2⟩ := Bo_1.out.cells3
  have fo0 := Bo_1.out.free 0
  have fo1 := Bo_1.out.free 1
  have fo2 := Bo_1.out.free 2
  go_wp2
  refine bodyPost_ret (v := .agg #[.bool false, (.slice none 0 0), (.slice A m m)]) ?_ rfl ?_
  · simp [results, Try.f22, go_sem, co0, co1, co2]
  · have y0 := HB_2.out.size; exact ⟨⟨⟨Q.nil, A, m, m⟩, rfl, ⟨rfl, Nat.le_refl _, RN.zero _ _⟩, (RX_3.out.dk ((((Dk.refl _).set (cs := #[.bool false, .slice none 0 0, .slice none 0 0]) Bo_1.out 0 (by intro _ hh; cases hh) (.bool false)).set (cs := #[.bool false, .slice none 0 0, .slice none 0 0]) (Bo_1.out.set 0 (.bool false)) 1 (by intro _ hh; cases hh) (.slice none 0 0)).set (cs := #[.bool false, (.slice none 0 0), .slice none 0 0]) ((Bo_1.out.set 0 (.bool false)).set 1 (.slice none 0 0)) 2 (by intro _ hh; cases hh) (.slice A m m))), Nat.le_refl _⟩, (below_st (below_st (below_st HB_2.out 0 (by omega) (.bool false)) 1 (by omega) (.slice none 0 0)) 2 (by omega) (.slice A m m))⟩

end Go.Proofs.Ytgioppkggpfnoaa.Nu
end

section
/- limbs.short's plain part: a row divided by one digit, from the highest digit down. -/
set_option linter.unusedVariables false
namespace Go.Proofs.Ytgioppkggpfnoaa.Nu
open Go.RowKit Go.Proofs

theorem val_drop (ys : List Nat) (j : Nat) (h : j < ys.length) : val (ys.drop j) = dg ys j + 4294967296 * val (ys.drop (j + 1)) := by
  rw [List.drop_eq_getElem_cons h, dg_of h]
  rfl
/-- What stands when the places from j on have come. -/
structure ShortRel (xs : List Nat) (d n j rest : Nat) (qs : List Nat) : Prop where
  len : qs.length = n
  dig : Dig qs
  eq : val (xs.drop j) = val (qs.drop j) * d + rest
  rest : rest < d
theorem ShortRel.start {xs : List Nat} {d n : Nat} (hx : xs.length = n) (hd : 0 < d) : ShortRel xs d n n 0 (List.replicate n 0) := by
  refine ⟨by simp, dig_zeros _, ?_, hd⟩
  rw [List.drop_eq_nil_of_le (by omega), List.drop_eq_nil_of_le (by simp)]
  simp [val]
theorem short_word {rest x d : Nat} (hr : rest < d) (hx : x < 4294967296) (hd : d < 4294967296) : rest * 4294967296 + x < 18446744073709551616 ∧ (rest * 4294967296 + x) / d < 4294967296 ∧ (rest * 4294967296 + x) % d < d := by
  refine ⟨by omega, ?_, Nat.mod_lt _ (by omega)⟩
  rw [Nat.div_lt_iff_lt_mul (by omega)]
  have := Nat.mul_le_mul_right 4294967296 hr
  rw [Nat.succ_mul] at this
  rw [Nat.mul_comm 4294967296]
  omega
theorem ShortRel.step {xs qs : List Nat} {d n j rest : Nat} (h : ShortRel xs d n (j + 1) rest qs) (hx : xs.length = n) (hxd : Dig xs) (hj : j < n) (hd : d < 4294967296) : ShortRel xs d n j ((rest * 4294967296 + dg xs j) % d) (qs.set j ((rest * 4294967296 + dg xs j) / d)) := by
  obtain ⟨h1, h2, h3⟩ := short_word h.rest (dg_lt hxd j) hd
  refine ⟨by simpa using h.len, dig_set h.dig j h2, ?_, h3⟩
  rw [val_drop xs j (by omega), val_drop _ j (by rw [List.length_set, h.len]; exact hj), dg_set_same _ _ _ (by rw [h.len]; exact hj), List.drop_set_of_lt (by omega), h.eq]
  have e := Nat.div_add_mod (rest * 4294967296 + dg xs j) d
  generalize (rest * 4294967296 + dg xs j) / d = q at *
  generalize (rest * 4294967296 + dg xs j) % d = r at *
  generalize val (qs.drop (j + 1)) = v at *
  rw [Nat.add_mul, Nat.mul_add, Nat.mul_comm q d, Nat.mul_assoc]
  omega
theorem ShortRel.done {xs qs : List Nat} {d n rest : Nat} (h : ShortRel xs d n 0 rest qs) : val qs = val xs / d ∧ rest = val xs % d := by
  have e := h.eq
  rw [List.drop_zero, List.drop_zero] at e
  have hr := h.rest
  rw [e, Nat.mul_comm]
  refine ⟨?_, ?_⟩
  · rw [Nat.mul_add_div (by omega), Nat.div_eq_of_lt hr, Nat.add_zero]
  · rw [Nat.mul_add_mod, Nat.mod_eq_of_lt hr]
end Go.Proofs.Ytgioppkggpfnoaa.Nu
end

section
/- slices.Backward once more: for a loop that writes into its own older variables between two rounds. -/
set_option linter.unusedVariables false
namespace Go.Proofs.Ytgioppkggpfnoaa.Nu
open Go.RowKit Go.Proofs Go.Shelf
attribute [local go_sem] Oper.semAt_some

/-- What lay below s lies there, and the iterator's own variable. -/
def KB (s Bn : Nat) (W W' : World) : Prop := Below s W W' ∧ W'.heap[Bn]? = W.heap[Bn]?
theorem KB.refl (s Bn : Nat) (W : World) : KB s Bn W W := ⟨Below.refl _ _, rfl⟩
theorem KB.trans {s Bn : Nat} {A B C : World} (h : KB s Bn A B) (h2 : KB s Bn B C) : KB s Bn A C := ⟨h.1.trans h2.1, h2.2.trans h.2⟩
theorem KB.put {s Bn : Nat} {w : World} (hs : s ≤ w.heap.size) (hB : Bn < w.heap.size) (W : World) (l : Nat) (o o' : Obj) (hl : w.heap.size ≤ l) (ho : W.heap[l]? = some o) (hc : o.isCells = false) (hw : o.isWalk = false) : KB s Bn W (W.putObj l o') := ⟨belowK_b hs W l o o' hl ho hc hw, by
  show (W.heap.setIfInBounds l o')[Bn]? = _
  rw [Array.getElem?_setIfInBounds_ne (by omega)]⟩
theorem KB.set {s Bn : Nat} {W W' : World} (h : KB s Bn W W') {g : Nat} (hg : s ≤ g) (hB : Bn ≠ g) (j : Nat) (v : Value) : KB s Bn W (W'.setCell ⟨g, j, none⟩ v) := ⟨h.1.setCell (p := ⟨g, j, none⟩) hg _, (Below.heap_setCell _ _ _ _ hB).trans h.2⟩
theorem KB.drew {s Bn : Nat} {W W' : World} (h : KB s Bn W W') : KB s Bn W W'.drew := ⟨h.1.drew, h.2⟩
theorem RL.belowN {w w' : World} {A : Option Addr} {n n0 : Nat} {xs : List Nat} (h : RL w A n xs) (hb : Below n0 w w') (hA : ∀ b o s, A = some ⟨b, o, s⟩ → b < n0) : RL w' A n xs := by
  obtain ⟨h1, h2, hd, h3⟩ := h
  refine ⟨h1, h2, hd, fun h0 => ?_⟩
  obtain ⟨b, off, hA2, hlt, hc⟩ := h3 h0
  exact ⟨b, off, hA2, Nat.lt_of_lt_of_le hlt hb.size, fun j hj => (hb.cell (p := ⟨b, off + j, none⟩) (hA _ _ _ hA2)).trans (hc j hj)⟩
set_option maxRecDepth 100000 in
set_option maxHeartbeats 2000000 in
theorem back1_inK (F : Fence) (n : Nat) (h7 : F.fn 40) (hro : F.round = none) (hn : 1 ≤ n) (l Bs n₀ b off len cap : Nat) (xs : List Nat) (hreach : len ≤ 140737488355328) (hb : b < n₀) (J Jx : List (Pl len) → World → Prop)
    (hY : ∀ pre x W, J pre W → pre.length < len → YieldAt F (n - 1) Try.prog l #[.int .i64 (x.1 : Int), .int .u32 (dg xs x.1 : Int)] W fun e W' =>
      (e = .returned (.bool true) ∧ J (pre ++ [x]) W' ∧ KB n₀ Bs W W') ∨ (e = .returned (.bool false) ∧ Jx (pre ++ [x]) W'))
    (W : World) (hBs : W.cell? ⟨Bs, 0, none⟩ = some (.slice (some ⟨b, off, none⟩) len cap)) (hc : ∀ j, j < len → W.cell? ⟨b, off + j, none⟩ = some (.int .u32 (dg xs j))) (h0 : J [] W) :
    CallsIn F n Try.prog 40 #[.func (.yield l) #[] #[], .pointer (some ⟨Bs, 0, none⟩)] W fun e W' => (∃ v, e = .returned v) ∧
      ((∃ ys, Come len len ys ∧ J ys W') ∨ (∃ pre, (∃ k, k ≤ len ∧ Come len k pre) ∧ Jx pre W')) := by
  refine callsIn_of_wp Try.func40 rfl h7 ?_ hro
  simp only [Try.ntmps40, List.size_toArray, List.length_cons, List.length_nil, Nat.reduceAdd, Nat.reduceSub, Array.replicate_succ, Array.replicate_zero, List.push_toArray, List.append_toArray, List.nil_append, List.cons_append]
  gi_wp2
  gi_loopw [3] (fun i wr => ∃ k : Nat, k ≤ len ∧ (∃ z : Int, i = .int .i64 z ∧ z = (len : Int) - 1 - (k : Int)) ∧ (∃ pre, Come len k pre ∧ J pre wr) ∧ KB n₀ Bs W wr)
    (fun i _ => (intOf i + 1).toNat)
  case atStart => exact ⟨0, Nat.zero_le _, ⟨_, rfl, by omega⟩, ⟨[], Come.nil _, h0⟩, KB.refl _ _ _⟩
  case round =>
    obtain ⟨k, hk, ⟨z, rfl, hz⟩, ⟨pre, hpre, hJs⟩, hnx⟩ := hrel
    have hBx := (World.cell?_of_block hnx.2).trans hBs
    by_cases hlt : k < len
    · obtain ⟨m, hm⟩ : ∃ m : Nat, m = len - 1 - k := ⟨_, rfl⟩
      obtain rfl : z = (m : Int) := by omega
      have hm2 : m < len := by omega
      have hcx : wr.cell? ⟨b, off + m, none⟩ = some (.int .u32 (dg xs m)) := (hnx.1.cell (p := ⟨b, off + m, none⟩) hb).trans (hc m hm2)
      obtain ⟨fn, tmps, assign, body, hy, hR⟩ := hY _ ⟨m, hm2⟩ wr hJs (by rw [hpre.len]; exact hlt)
      dsimp only at hy
      have Hm := Lib.hid hm
      have Hp := Lib.hid hpre
      have Hz := Lib.hid hz
      clear hm hz hpre
      gi_wp2
      refine hR.mono ?_
      rintro e W3 (⟨rfl, hJ3, hk3⟩ | ⟨rfl, hJx3⟩)
      · gi_wp2
        go_roundw
        case rel => exact ⟨k + 1, by omega, ⟨_, rfl, by have := Hz.out; omega⟩, ⟨_, Hp.out.succ ⟨m, hm2⟩ Hm.out, hJ3⟩, hnx.trans hk3⟩
        case measure => simp [intOf]
      · gi_wp2
        refine bodyPost_ret (results_none rfl _ _ _) rfl ?_
        exact ⟨⟨_, rfl⟩, .inr ⟨_, ⟨k + 1, by omega, Hp.out.succ ⟨m, hm2⟩ Hm.out⟩, hJx3⟩⟩
    · obtain rfl : k = len := by omega
      have hz2 : z < 0 := by omega
      have hz3 : ¬ (0 : Int) ≤ z := by omega
      clear hz
      gi_wp2
      go_end0
      exact ⟨⟨_, rfl⟩, .inl ⟨_, hpre, hJs⟩⟩

theorem back_stopsK (F : Fence) (n : Nat) (h7 : F.fn 40) (hro : F.round = none) (hn : 1 ≤ n) (Bs n₀ : Nat) (A : Option Addr) (len cap : Nat) (xs : List Nat) (w : World) (hBs : Bs < w.heap.size) (hn₀ : n₀ ≤ w.heap.size)
    (hc : w.cell? ⟨Bs, 0, none⟩ = some (.slice A len cap)) (hI : RL w A len xs) (hA : ∀ a, A = some a → 0 < len → a.block < n₀) :
    SeqStopsK F n Try.prog 40 #[.pointer (some ⟨Bs, 0, none⟩)] (fun x : Pl len => #[Value.int .i64 (x.1 : Int), Value.int .u32 (dg xs x.1 : Int)]) (KB n₀ Bs) (fun ys => Come len len ys)
      (fun pre => ∃ k, k ≤ len ∧ Come len k pre) len w := fun l J Jx W hW _ _ hY h0 => by
  have hc' := (hW.cell (p := ⟨Bs, 0, none⟩) hBs).trans hc
  by_cases h : len = 0
  · subst h
    exact (back1_none_in F n h7 hro l Bs cap A J W hc' h0).mono fun e W' ⟨he, hj⟩ => ⟨he, .inl ⟨_, Come.nil _, hj⟩⟩
  · obtain ⟨b, off, rfl, hb, hcs⟩ := hI.2.2.2 (by omega)
    have hb2 : b < n₀ := hA _ rfl (by omega)
    exact back1_inK F n h7 hro hn l Bs n₀ b off len cap xs hI.2.1 hb2 J Jx hY W hc' (fun j hj => (hW.cell (p := ⟨b, off + j, none⟩) hb).trans (hcs j hj)) h0

end Go.Proofs.Ytgioppkggpfnoaa.Nu
end

section
/- Division on paper, digit by digit to a base B: the guess by the two highest digits, and how it is put right. Plain, no program in sight. -/
namespace Go.Proofs.Ytgioppkggpfnoaa.Nu

/-- The digits at hand: W is the window, V what is divided by; p is the base's power below the three (two) highest digits. -/
structure DivWin (B p W V u0 u1 u2 wr v1 v2 vr : Nat) : Prop where
  hW : W = ((u0 * B + u1) * B + u2) * p + wr
  hV : V = (v1 * B + v2) * p + vr
  wr : wr < p
  vr : vr < p
  u1 : u1 < B
  u2 : u2 < B
  v2 : v2 < B
  v1 : 0 < v1
  small : W < V * B
theorem mul_lt_cancel {a b c : Nat} (h : a * c < b * c) : a < b := Nat.lt_of_mul_lt_mul_right h
variable {B p W V u0 u1 u2 wr v1 v2 vr : Nat}
theorem DivWin.ppos (h : DivWin B p W V u0 u1 u2 wr v1 v2 vr) : 0 < p := Nat.lt_of_le_of_lt (Nat.zero_le _) h.wr
theorem DivWin.Bpos (h : DivWin B p W V u0 u1 u2 wr v1 v2 vr) : 0 < B := Nat.lt_of_le_of_lt (Nat.zero_le _) h.u1
theorem DivWin.Wlt (h : DivWin B p W V u0 u1 u2 wr v1 v2 vr) : W < ((u0 * B + u1) * B + u2 + 1) * p := by
  rw [h.hW, Nat.succ_mul]
  exact Nat.add_lt_add_left h.wr _
theorem DivWin.Vlt (h : DivWin B p W V u0 u1 u2 wr v1 v2 vr) : V < (v1 * B + v2 + 1) * p := by
  rw [h.hV, Nat.succ_mul]
  exact Nat.add_lt_add_left h.vr _
theorem DivWin.Vge (h : DivWin B p W V u0 u1 u2 wr v1 v2 vr) : (v1 * B + v2) * p ≤ V := by
  rw [h.hV]
  exact Nat.le_add_right _ _
theorem DivWin.Vpos (h : DivWin B p W V u0 u1 u2 wr v1 v2 vr) : 0 < V := by
  refine Nat.lt_of_lt_of_le ?_ h.Vge
  exact Nat.mul_pos (Nat.lt_of_lt_of_le (Nat.mul_pos h.v1 h.Bpos) (Nat.le_add_right _ _)) h.ppos
/-- The highest digit is no greater than that of what is divided by. -/
theorem DivWin.top (h : DivWin B p W V u0 u1 u2 wr v1 v2 vr) : u0 ≤ v1 := by
  have h1 : u0 * (B * B * p) ≤ W := by
    rw [h.hW]
    refine Nat.le_trans ?_ (Nat.le_add_right _ _)
    have : u0 * (B * B * p) = u0 * B * B * p := by simp only [Nat.mul_assoc]
    rw [this]
    refine Nat.mul_le_mul_right _ (Nat.le_trans ?_ (Nat.le_add_right _ _))
    exact Nat.mul_le_mul_right _ (Nat.le_add_right _ _)
  have h2 : V * B < (v1 + 1) * (B * B * p) := by
    have := Nat.mul_lt_mul_of_pos_right h.Vlt h.Bpos
    refine Nat.lt_of_lt_of_le this ?_
    have e : (v1 + 1) * (B * B * p) = ((v1 + 1) * B) * p * B := by simp only [Nat.mul_assoc, Nat.mul_left_comm, Nat.mul_comm]
    rw [e]
    refine Nat.mul_le_mul_right _ (Nat.mul_le_mul_right _ ?_)
    have := h.v2
    rw [Nat.succ_mul]
    omega
  have h3 : u0 * (B * B * p) < (v1 + 1) * (B * B * p) := Nat.lt_of_le_of_lt h1 (Nat.lt_trans h.small h2)
  exact Nat.le_of_lt_succ (mul_lt_cancel h3)
theorem DivWin.quot (h : DivWin B p W V u0 u1 u2 wr v1 v2 vr) : W / V < B := (Nat.div_lt_iff_lt_mul h.Vpos).2 (by rw [Nat.mul_comm]; exact h.small)
/-- The first guess is no less. -/
theorem DivWin.first (h : DivWin B p W V u0 u1 u2 wr v1 v2 vr) : W / V ≤ (u0 * B + u1) / v1 := by
  rw [Nat.le_div_iff_mul_le h.v1]
  have h1 : W / V * V ≤ W := Nat.div_mul_le_self _ _
  have h2 : W / V * (v1 * B * p) ≤ W / V * V := by
    refine Nat.mul_le_mul_left _ (Nat.le_trans ?_ h.Vge)
    exact Nat.mul_le_mul_right _ (Nat.le_add_right _ _)
  have h3 : W < (u0 * B + u1 + 1) * (B * p) := by
    refine Nat.lt_of_lt_of_le h.Wlt ?_
    rw [← Nat.mul_assoc]
    refine Nat.mul_le_mul_right _ ?_
    have := h.u2
    rw [Nat.succ_mul (u0 * B + u1)]
    omega
  have h4 : W / V * v1 * (B * p) < (u0 * B + u1 + 1) * (B * p) := by
    refine Nat.lt_of_le_of_lt ?_ h3
    have e : W / V * v1 * (B * p) = W / V * (v1 * B * p) := by simp only [Nat.mul_assoc]
    rw [e]
    exact Nat.le_trans h2 h1
  exact Nat.le_of_lt_succ (mul_lt_cancel h4)
/-- What the guess keeps while it is put right. -/
structure Guess (B W V high v1 g r : Nat) : Prop where
  eq : g * v1 + r = high
  ge : W / V ≤ g
theorem Guess.big {high g r : Nat} (hg : Guess B W V high v1 g r) (h : DivWin B p W V u0 u1 u2 wr v1 v2 vr) (hh : high = u0 * B + u1) (hb : B ≤ g ∨ r * B + u2 < g * v2) : W / V < g := by
  rcases hb with hb | hb
  · exact Nat.lt_of_lt_of_le h.quot hb
  · rw [Nat.div_lt_iff_lt_mul h.Vpos]
    have h1 : (u0 * B + u1) * B + u2 + 1 ≤ g * (v1 * B + v2) := by
      rw [← hh, ← hg.eq, Nat.add_mul, Nat.mul_add, ← Nat.mul_assoc]
      omega
    have h2 := Nat.mul_le_mul_right p h1
    have h3 : g * (v1 * B + v2) * p ≤ g * V := by
      rw [Nat.mul_assoc]
      exact Nat.mul_le_mul_left _ h.Vge
    exact Nat.lt_of_lt_of_le h.Wlt (Nat.le_trans h2 h3)
theorem Guess.less {high g r : Nat} (hg : Guess B W V high v1 g r) (h : W / V < g) : Guess B W V high v1 (g - 1) (r + v1) := by
  obtain ⟨k, rfl⟩ : ∃ k, g = k + 1 := ⟨g - 1, by have := Nat.lt_of_le_of_lt (Nat.zero_le _) h; omega⟩
  have := hg.eq
  rw [Nat.succ_mul] at this
  exact ⟨by show k * v1 + (r + v1) = high; omega, by show W / V ≤ k; omega⟩
/-- With what is left above the base: below the base. -/
theorem Guess.stop {high g r : Nat} (hg : Guess B W V high v1 g r) (h : DivWin B p W V u0 u1 u2 wr v1 v2 vr) (hh : high = u0 * B + u1) (hr : B ≤ r) : g < B ∧ g * v2 ≤ r * B + u2 := by
  have h1 : g < B := by
    have h2 := hg.eq
    have h3 : high < v1 * B + B := by
      have := Nat.mul_le_mul_right B h.top
      have := h.u1
      omega
    have h4 : g * v1 < B * v1 := by rw [Nat.mul_comm B]; omega
    exact mul_lt_cancel h4
  refine ⟨h1, Nat.le_trans ?_ (Nat.le_add_right _ _)⟩
  exact Nat.mul_le_mul (Nat.le_of_lt (Nat.lt_of_lt_of_le h1 hr)) (Nat.le_of_lt h.v2)
/-- At the end: the guess is right, or one too great. -/
theorem Guess.done {high g r : Nat} (hg : Guess B W V high v1 g r) (h : DivWin B p W V u0 u1 u2 wr v1 v2 vr) (hh : high = u0 * B + u1) (hb : g < B) (hl : g * v2 ≤ r * B + u2) : W / V ≤ g ∧ g ≤ W / V + 1 := by
  refine ⟨hg.ge, ?_⟩
  have h1 : g * (v1 * B + v2) ≤ (u0 * B + u1) * B + u2 := by
    rw [← hh, ← hg.eq, Nat.add_mul, Nat.mul_add, ← Nat.mul_assoc]
    omega
  have h2 : g * V ≤ W + g * vr := by
    rw [h.hV, Nat.mul_add, ← Nat.mul_assoc]
    refine Nat.add_le_add_right (Nat.le_trans (Nat.mul_le_mul_right p h1) ?_) _
    rw [h.hW]
    exact Nat.le_add_right _ _
  have h3 : g * vr < V := by
    refine Nat.lt_of_lt_of_le (Nat.mul_lt_mul'' hb h.vr) (Nat.le_trans ?_ h.Vge)
    refine Nat.mul_le_mul_right _ (Nat.le_trans ?_ (Nat.le_add_right _ _))
    exact Nat.le_mul_of_pos_left _ h.v1
  by_cases h0 : g = 0
  · rw [h0]; exact Nat.zero_le _
  · obtain ⟨k, rfl⟩ : ∃ k, g = k + 1 := ⟨g - 1, by omega⟩
    have hk : k ≤ W / V := by
      rw [Nat.le_div_iff_mul_le h.Vpos]
      rw [Nat.succ_mul] at h2
      omega
    exact Nat.succ_le_succ hk
/-- One digit of the quotient: what is left, and all together. -/
theorem div_round {U0 U V Q p Lo W q U' B : Nat} (hU : U = Lo + W * p) (hlo : Lo < p) (hV : 0 < V) (h0 : U0 = Q * (p * B) * V + U) (hq : q = W / V) (hU' : U' = Lo + W % V * p) :
    U0 = (q + B * Q) * p * V + U' ∧ U' < V * p := by
  have e := Nat.div_add_mod W V
  subst hq hU hU'
  refine ⟨?_, ?_⟩
  · rw [h0]
    have h1 : W * p = V * (W / V) * p + W % V * p := by rw [← Nat.add_mul, e]
    rw [h1]
    have h2 : (W / V + B * Q) * p * V = V * (W / V) * p + Q * (p * B) * V := by
      rw [Nat.add_mul, Nat.add_mul]
      congr 1
      · simp only [Nat.mul_left_comm, Nat.mul_comm]
      · simp only [Nat.mul_assoc, Nat.mul_left_comm, Nat.mul_comm]
    rw [h2]
    omega
  · have h1 : W % V + 1 ≤ V := Nat.mod_lt _ hV
    have h2 := Nat.mul_le_mul_right p h1
    rw [Nat.succ_mul] at h2
    omega
theorem div_done {x y s Q U V U0 : Nat} (hU : U0 = x * 2 ^ s) (hV : V = y * 2 ^ s) (hy : 0 < y) (h : U0 = Q * V + U) (hl : U < V) : Q = x / y ∧ U / 2 ^ s = x % y := by
  have hp : 0 < 2 ^ s := Nat.two_pow_pos s
  have hVp : 0 < V := by rw [hV]; exact Nat.mul_pos hy hp
  have h1 : U0 / V = Q := by
    rw [h, Nat.mul_comm, Nat.mul_add_div hVp, Nat.div_eq_of_lt hl, Nat.add_zero]
  have h2 : U0 % V = U := by
    rw [h, Nat.mul_comm, Nat.mul_add_mod, Nat.mod_eq_of_lt hl]
  refine ⟨?_, ?_⟩
  · rw [← h1, hU, hV, Nat.mul_div_mul_right _ _ hp]
  · rw [← h2, hU, hV, Nat.mul_mod_mul_right, Nat.mul_div_cancel _ hp]
/-- One round of the subtraction of a multiple: what is borrowed goes on. -/
theorem less_step {a b c g v u o ow ow' cy i B : Nat} (P : Nat) (h : a + g * b = c + (ow + cy) * P) (hw : o + (cy + g * v) % B + ow = u + ow' * B) :
    (a + P * o) + g * (b + P * v) = (c + P * u) + (ow' + (cy + g * v) / B) * (P * B) := by
  have e := Nat.div_add_mod (cy + g * v) B
  generalize (cy + g * v) / B = q at *
  generalize (cy + g * v) % B = r at *
  have e2 : P * (B * q + r) = P * (cy + g * v) := by rw [e]
  have e3 : P * (o + r + ow) = P * (u + ow' * B) := by rw [hw]
  simp only [Nat.mul_add, Nat.add_mul] at e2 e3 h ⊢
  have k1 : g * (P * v) = P * (g * v) := Nat.mul_left_comm _ _ _
  have k2 : ow' * (P * B) = P * (ow' * B) := Nat.mul_left_comm _ _ _
  have k3 : q * (P * B) = P * (B * q) := by rw [Nat.mul_left_comm, Nat.mul_comm q]
  have k4 : ow * P = P * ow := Nat.mul_comm _ _
  have k5 : cy * P = P * cy := Nat.mul_comm _ _
  rw [k1, k2, k3]
  rw [k4, k5] at h
  omega
end Go.Proofs.Ytgioppkggpfnoaa.Nu
end

section
/- The walks of limbs.less and limbs.back: what is written is a stretch of a row of the caller's own. -/
set_option linter.unusedVariables false
namespace Go.Proofs.Ytgioppkggpfnoaa.Nu
open Go.RowKit Go.Proofs

theorem less_last (u cy ow : Nat) (hu : u < 4294967296) (hcy : cy < 4294967296) (how : ow ≤ 1) :
    ∃ o ow' : Nat, IntKind.u64.wrap (IntKind.u64.wrap ((u : Int) - (cy : Int)) - (ow : Int)) / 9223372036854775808 = (ow' : Int) ∧ IntKind.u64.wrap (IntKind.u64.wrap ((u : Int) - (cy : Int)) - (ow : Int)) % 4294967296 = (o : Int) ∧ o + cy + ow = u + ow' * 4294967296 ∧ o < 4294967296 ∧ ow' ≤ 1 := by
  rw [wrap_u64, wrap_u64]
  by_cases h : cy + ow ≤ u
  · exact ⟨u - (cy + ow), 0, by omega, by omega, by omega, by omega, by omega⟩
  · exact ⟨u + 4294967296 - (cy + ow), 1, by omega, by omega, by omega, by omega, by omega⟩
/-- One block is written, no other. -/
def Only (g : Nat) (w w' : World) : Prop := w.grownBy w' (some g) ∧ w'.heap.size = w.heap.size
theorem Only.refl (g : Nat) (w : World) : Only g w w := ⟨World.grownBy.refl _ _, rfl⟩
theorem Only.set {g : Nat} {W w : World} (h : Only g W w) (k : Nat) (v : Value) : Only g W (w.setCell ⟨g, k, none⟩ v) :=
  ⟨⟨h.1.os, h.1.tape, h.1.output, by have := h.1.size; simpa [World.setCell] using this, fun j hj hg => (Below.heap_setCell _ _ _ _ (fun e => hg (by rw [e]))).trans (h.1.block j hj hg)⟩, by simpa [World.setCell] using h.2⟩
theorem Only.cell {g : Nat} {w w' : World} (h : Only g w w') {b o : Nat} {v : Value} (hb : b ≠ g) (hc : w.cell? ⟨b, o, none⟩ = some v) : w'.cell? ⟨b, o, none⟩ = some v := h.1.cell hc (fun e => hb (by cases e; rfl))
/-- A row of digits that lies in another block. -/
theorem RL.only {g : Nat} {w w' : World} {A : Option Addr} {n : Nat} {xs : List Nat} (h : RL w A n xs) (hA : ∀ b o s, A = some ⟨b, o, s⟩ → b ≠ g) (ho : Only g w w') : RL w' A n xs := by
  obtain ⟨h1, h2, hd, h3⟩ := h
  refine ⟨h1, h2, hd, fun h0 => ?_⟩
  obtain ⟨b, off, rfl, hlt, hc⟩ := h3 h0
  exact ⟨b, off, rfl, by rw [ho.2]; exact hlt, fun j hj => ho.cell (hA b off none rfl) (hc j hj)⟩
theorem set_mid (pre us post : List Nat) (i d : Nat) (hi : i < us.length) : (pre ++ us ++ post).set (pre.length + i) d = pre ++ us.set i d ++ post := by
  rw [List.append_assoc, List.append_assoc, List.set_append_right _ _ (by omega), Nat.add_sub_cancel_left, List.set_append_left _ _ hi]
theorem dg_mid (pre us post : List Nat) (i : Nat) (hi : i < us.length) : dg (pre ++ us ++ post) (pre.length + i) = dg us i := by
  unfold dg
  rw [List.append_assoc, List.getD_eq_getElem?_getD, List.getElem?_append_right (by omega), Nat.add_sub_cancel_left, List.getElem?_append_left hi, ← List.getD_eq_getElem?_getD]
/-- What a round of the subtraction of a multiple keeps. -/
structure LessRel (pre us post vs : List Nat) (n d : Nat) (W : World) (g : Nat) (i cy ow : Nat) (w : World) : Prop where
  ex : ∃ os, Blk w g (pre ++ os ++ post) ∧ os.length = n + 1 ∧ Dig os ∧ val (os.take i) + d * val (vs.take i) = val (us.take i) + (ow + cy) * 4294967296 ^ i ∧ ∀ j, i ≤ j → dg os j = dg us j
  cy : cy < 4294967296
  ow : ow ≤ 1
  only : Only g W w
theorem LessRel.cell {pre us post vs : List Nat} {n d : Nat} {W w : World} {g i cy ow : Nat} (h : LessRel pre us post vs n d W g i cy ow w) {j : Nat} (hij : i ≤ j) (hj : j ≤ n) : w.cell? ⟨g, pre.length + j, none⟩ = some (.int .u32 (dg us j)) ∧ w.frozen? ⟨g, pre.length + j, none⟩ = false := by
  obtain ⟨⟨os, hB, hl, hd, he, h0⟩, _, _, _⟩ := h
  refine ⟨?_, hB.free _⟩
  rw [hB.cell _ (by simp; omega), dg_mid _ _ _ _ (by omega), h0 j hij]
theorem LessRel.step {pre us post vs : List Nat} {n d : Nat} {W w : World} {g i cy ow : Nat} (h : LessRel pre us post vs n d W g i cy ow w) (hi : i < n + 1) {o ow' v : Nat} (hw : o + (cy + d * v) % 4294967296 + ow = dg us i + ow' * 4294967296) (ho : o < 4294967296) (how : ow' ≤ 1) (hcy : (cy + d * v) / 4294967296 < 4294967296) (hv : dg vs i = v) (x : Int) (hx : x = (o : Int)) :
    LessRel pre us post vs n d W g (i + 1) ((cy + d * v) / 4294967296) ow' (w.setCell ⟨g, pre.length + i, none⟩ (.int .u32 x)) := by
  obtain ⟨⟨os, hB, hl, hd, he, h0⟩, _, _, hon⟩ := h
  have hb := hB.set (pre.length + i) o x hx
  rw [set_mid _ _ _ _ _ (by omega)] at hb
  refine ⟨⟨_, hb, by simpa using hl, dig_set hd i ho, ?_, fun j hj => ?_⟩, hcy, how, hon.set _ _⟩
  · rw [val_set_take os i _ (by omega), val_take_next, val_take_next, Nat.pow_succ, hv]
    exact less_step (i := 0) (4294967296 ^ i) he hw
  · rw [dg_set_ne _ _ _ _ (by omega)]
    exact h0 j (by omega)
theorem less_word (u cy dv ow : Nat) (hu : u < 4294967296) (hcy : cy < 4294967296) (hdv : dv ≤ 18446744065119617025) (how : ow ≤ 1) :
    ∃ o ow' : Nat, IntKind.u64.wrap (IntKind.u64.wrap ((u : Int) - ((cy : Int) + (dv : Int)) % 4294967296) - (ow : Int)) / 9223372036854775808 = (ow' : Int) ∧ IntKind.u64.wrap (IntKind.u64.wrap ((u : Int) - ((cy : Int) + (dv : Int)) % 4294967296) - (ow : Int)) % 4294967296 = (o : Int) ∧ o + (cy + dv) % 4294967296 + ow = u + ow' * 4294967296 ∧ o < 4294967296 ∧ ow' ≤ 1 := by
  rw [wrap_u64, wrap_u64]
  by_cases h : (cy + dv) % 4294967296 + ow ≤ u
  · exact ⟨u - ((cy + dv) % 4294967296 + ow), 0, by omega, by omega, by omega, by omega, by omega⟩
  · exact ⟨u + 4294967296 - ((cy + dv) % 4294967296 + ow), 1, by omega, by omega, by omega, by omega, by omega⟩
theorem LessRel.start {pre us post vs : List Nat} {n d : Nat} {w : World} {g : Nat} (hB : Blk w g (pre ++ us ++ post)) (hl : us.length = n + 1) (hd : Dig us) : LessRel pre us post vs n d w g 0 0 0 w :=
  ⟨⟨us, hB, hl, hd, by simp [val], fun _ _ => rfl⟩, by omega, by omega, Only.refl _ _⟩
theorem mul_word (d v cy : Nat) (hd : d < 4294967296) (hv : v < 4294967296) (hcy : cy < 4294967296) : d * v ≤ 18446744065119617025 ∧ (cy + d * v) / 4294967296 < 4294967296 := by
  have h1 : d * v ≤ 4294967295 * 4294967295 := Nat.mul_le_mul (by omega) (by omega)
  refine ⟨h1, Nat.div_lt_of_lt_mul ?_⟩
  omega
set_option maxHeartbeats 4000000 in
set_option maxRecDepth 100000 in
theorem less_any (w : World) (B : Option Addr) (n c e' g d : Nat) (pre us post vs : List Nat) (hB : Blk w g (pre ++ us ++ post)) (hl : us.length = n + 1) (hdu : Dig us) (hv : RL w B n vs) (hne : ∀ b o s, B = some ⟨b, o, s⟩ → b ≠ g) (hd : d < 4294967296) (hn : n ≤ 1000) (k : Nat) (hk : pre.length = k) :
    Calls Try.prog 47 #[.slice (some ⟨g, k, none⟩) (n + 1) e', .slice B n c, .int .u64 d] w fun e w' => ∃ os ow, e = .returned (.bool (decide (ow = 1))) ∧ Blk w' g (pre ++ os ++ post) ∧ os.length = n + 1 ∧ Dig os ∧ val os + d * val vs = val us + ow * 4294967296 ^ (n + 1) ∧ ow ≤ 1 ∧ Only g w w' := by
  have HV := Lib.hid hv
  have HNE := Lib.hid hne
  have hnv := hv.1
  have HNV := Lib.hid hnv
  have HDV := Lib.hid hv.2.2.1
  have HL := Lib.hid hl
  have HDU := Lib.hid hdu
  have HK := Lib.hid hk
  have H0 := Lib.hid (LessRel.start (vs := vs) (d := d) hB hl hdu)
  clear hB hl hdu hv hne hnv hk
  go_enter Try.func47, Try.ntmps47
  go_wp2_with fail
  go_loopw [7, 8, 15] (fun s7 s8 kk wr => ∃ cy ow i : Nat, s7 = .int .u64 cy ∧ s8 = .int .u64 ow ∧ kk = .int .i64 i ∧ i ≤ n ∧ Hid (LessRel pre us post vs n d w g i cy ow wr)) (fun _ _ kk _ => n - (intOf kk).toNat)
  case atStart => exact ⟨0, 0, 0, rfl, rfl, rfl, Nat.zero_le _, H0⟩
  case round =>
    clear H0
    obtain ⟨cy, ow, i, rfl, rfl, rfl, hi, Hr⟩ := hrel
    have hcy := Hr.out.cy
    have how := Hr.out.ow
    by_cases hi2 : i < n
    · have q3 : (i : Int) < (n : Int) := by omega
      have q4 : (i : Int) < (n : Int) + 1 := by omega
      obtain ⟨b2, o2, rfl, hl2, hc2⟩ := HV.out.2.2.2 (by omega)
      have x0 := Hr.out.only.cell (HNE.out b2 o2 none rfl) (hc2 i hi2)
      obtain ⟨c1, f1⟩ := Hr.out.cell (Nat.le_refl i) (by omega)
      rw [HK.out] at c1 f1
      have dv := dg_lt HDV.out i
      have du := dg_lt HDU.out i
      obtain ⟨m1, m2⟩ := mul_word d (dg vs i) cy hd dv hcy
      obtain ⟨o, ow2, e1, e2, e3, e4, e5⟩ := less_word (dg us i) cy (d * dg vs i) ow du hcy m1 how
      have HS := Lib.hid (Hr.out.step (by omega) e3 e4 e5 m2 rfl _ e2)
      rw [HK.out] at HS
      obtain ⟨t, ht⟩ : ∃ t, t = d * dg vs i := ⟨_, rfl⟩
      have p1 : (d : Int) * (dg vs i : Int) = (t : Int) := by rw [ht]; simp
      rw [← ht] at HS e1 e2 m1 m2
      have p2 : IntKind.u64.wrap (t : Int) = (t : Int) := by rw [wrap_u64]; omega
      have p3 : IntKind.u64.wrap ((cy : Int) + (t : Int)) = (cy : Int) + (t : Int) := by rw [wrap_u64]; omega
      have E1 := Lib.hid e1
      have E3 := Lib.hid (show ((cy : Int) + (t : Int)) / 4294967296 = (((cy + t) / 4294967296 : Nat) : Int) by omega)
      have q5 : k + i < k + (n + 1) := by omega
      clear e1 e2 e3 e4 e5 ht hc2 m1 m2
      go_wp2
      go_roundw
      case rel => exact ⟨(cy + t) / 4294967296, ow2, i + 1, by rw [E3.out], by rw [E1.out], by go_num, hi2, HS⟩
      case measure => simp only [intOf]; omega
    · obtain rfl : i = n := by omega
      clear hi2
      obtain ⟨c1, f1⟩ := Hr.out.cell (Nat.le_refl i) (by omega)
      rw [HK.out] at c1 f1
      have du := dg_lt HDU.out i
      obtain ⟨o, ow2, e1, e2, e3, e4, e5⟩ := less_last (dg us i) cy ow du hcy how
      have HS := Lib.hid (Hr.out.step (by omega) (d := d) (v := 0) (by rw [Nat.mul_zero, Nat.add_zero, Nat.mod_eq_of_lt hcy]; exact e3) e4 e5 (by rw [Nat.mul_zero, Nat.add_zero]; omega) (dg_out (by rw [HNV.out]; exact Nat.le_refl _)) _ e2)
      rw [HK.out] at HS
      have E1 := Lib.hid e1
      have q4 : (i : Int) < (i : Int) + 1 := by omega
      have C0 := Lib.hid hcy
      have W5 := Lib.hid e5
      clear e1 e2 e3 e4 e5
      go_wp2
      go_ret
      obtain ⟨⟨os, h1, h2, h3, h4, _⟩, _, h5, h6⟩ := HS.out
      refine ⟨os, ow2, ?_, h1, h2, h3, ?_, W5.out, h6⟩
      · exact congrArg (fun b => Ending.returned (Value.bool b)) ((congrArg (fun t : Int => t == 1) E1.out).trans (show ((ow2 : Int) == 1) = decide (ow2 = 1) by rw [Bool.eq_iff_iff]; simp; omega))
      · rw [List.take_of_length_le (by omega), List.take_of_length_le (by rw [HNV.out]; omega), List.take_of_length_le (by rw [HL.out]; omega)] at h4
        rw [Nat.mul_zero, Nat.add_zero, Nat.div_eq_of_lt C0.out, Nat.add_zero] at h4
        exact h4
/-! ### back: u and v together -/
/-- What a round of the addition keeps. -/
structure BkRel (pre us post vs : List Nat) (n : Nat) (W : World) (g : Nat) (i cy : Nat) (w : World) : Prop where
  ex : ∃ os, Blk w g (pre ++ os ++ post) ∧ os.length = n + 1 ∧ Dig os ∧ val (os.take i) + cy * 4294967296 ^ i = val (us.take i) + val (vs.take i) ∧ ∀ j, i ≤ j → dg os j = dg us j
  cy : cy ≤ 1
  only : Only g W w
theorem BkRel.cell {pre us post vs : List Nat} {n : Nat} {W w : World} {g i cy : Nat} (h : BkRel pre us post vs n W g i cy w) {j : Nat} (hij : i ≤ j) (hj : j ≤ n) : w.cell? ⟨g, pre.length + j, none⟩ = some (.int .u32 (dg us j)) ∧ w.frozen? ⟨g, pre.length + j, none⟩ = false := by
  obtain ⟨⟨os, hB, hl, hd, he, h0⟩, _, _⟩ := h
  refine ⟨?_, hB.free _⟩
  rw [hB.cell _ (by simp; omega), dg_mid _ _ _ _ (by omega), h0 j hij]
theorem back_step {a b c cy cy' o u v : Nat} (P : Nat) (h : a + cy * P = b + c) (hw : o + cy' * 4294967296 = cy + (u + v)) : (a + P * o) + cy' * (P * 4294967296) = (b + P * u) + (c + P * v) := by
  have e2 : P * (o + cy' * 4294967296) = P * (cy + (u + v)) := by rw [hw]
  simp only [Nat.mul_add] at e2
  have k1 : cy' * (P * 4294967296) = P * (cy' * 4294967296) := Nat.mul_left_comm _ _ _
  have k2 : cy * P = P * cy := Nat.mul_comm _ _
  rw [k1]
  omega
theorem BkRel.step {pre us post vs : List Nat} {n : Nat} {W w : World} {g i cy : Nat} (h : BkRel pre us post vs n W g i cy w) (hi : i < n + 1) {o cy' : Nat} (hw : o + cy' * 4294967296 = cy + (dg us i + dg vs i)) (ho : o < 4294967296) (hcy : cy' ≤ 1) (x : Int) (hx : x = (o : Int)) :
    BkRel pre us post vs n W g (i + 1) cy' (w.setCell ⟨g, pre.length + i, none⟩ (.int .u32 x)) := by
  obtain ⟨⟨os, hB, hl, hd, he, h0⟩, _, hon⟩ := h
  have hb := hB.set (pre.length + i) o x hx
  rw [set_mid _ _ _ _ _ (by omega)] at hb
  refine ⟨⟨_, hb, by simpa using hl, dig_set hd i ho, ?_, fun j hj => ?_⟩, hcy, hon.set _ _⟩
  · rw [val_set_take os i _ (by omega), val_take_next, val_take_next, Nat.pow_succ]
    exact back_step (4294967296 ^ i) he hw
  · rw [dg_set_ne _ _ _ _ (by omega)]
    exact h0 j (by omega)
theorem BkRel.start {pre us post vs : List Nat} {n : Nat} {w : World} {g : Nat} (hB : Blk w g (pre ++ us ++ post)) (hl : us.length = n + 1) (hd : Dig us) : BkRel pre us post vs n w g 0 0 w :=
  ⟨⟨us, hB, hl, hd, by simp [val], fun _ _ => rfl⟩, by omega, Only.refl _ _⟩
set_option maxHeartbeats 4000000 in
set_option maxRecDepth 100000 in
theorem back_any (w : World) (B : Option Addr) (n c e' g : Nat) (pre us post vs : List Nat) (hB : Blk w g (pre ++ us ++ post)) (hl : us.length = n + 1) (hdu : Dig us) (hv : RL w B n vs) (hne : ∀ b o s, B = some ⟨b, o, s⟩ → b ≠ g) (hn : n ≤ 1000) (k : Nat) (hk : pre.length = k) :
    Calls Try.prog 48 #[.slice (some ⟨g, k, none⟩) (n + 1) e', .slice B n c] w fun e w' => ∃ os ow, e = .returned (.tuple #[]) ∧ Blk w' g (pre ++ os ++ post) ∧ os.length = n + 1 ∧ Dig os ∧ val os + ow * 4294967296 ^ (n + 1) = val us + val vs ∧ Only g w w' := by
  have HV := Lib.hid hv
  have HNE := Lib.hid hne
  have hnv := hv.1
  have HNV := Lib.hid hnv
  have HDV := Lib.hid hv.2.2.1
  have HL := Lib.hid hl
  have HDU := Lib.hid hdu
  have HK := Lib.hid hk
  have H0 := Lib.hid (BkRel.start (vs := vs) hB hl hdu)
  clear hB hl hdu hv hne hnv hk
  go_enter Try.func48, Try.ntmps48
  go_wp2_with fail
  go_loopw [4, 9] (fun s4 kk wr => ∃ cy i : Nat, s4 = .int .u64 cy ∧ kk = .int .i64 i ∧ i ≤ n ∧ Hid (BkRel pre us post vs n w g i cy wr)) (fun _ kk _ => n - (intOf kk).toNat)
  case atStart => exact ⟨0, 0, rfl, rfl, Nat.zero_le _, H0⟩
  case round =>
    clear H0
    obtain ⟨cy, i, rfl, rfl, hi, Hr⟩ := hrel
    have hcy := Hr.out.cy
    by_cases hi2 : i < n
    · have q3 : (i : Int) < (n : Int) := by omega
      have q4 : (i : Int) < (n : Int) + 1 := by omega
      obtain ⟨b2, o2, rfl, hl2, hc2⟩ := HV.out.2.2.2 (by omega)
      have x0 := Hr.out.only.cell (HNE.out b2 o2 none rfl) (hc2 i hi2)
      obtain ⟨c1, f1⟩ := Hr.out.cell (Nat.le_refl i) (by omega)
      rw [HK.out] at c1 f1
      have dv := dg_lt HDV.out i
      have du := dg_lt HDU.out i
      have HS := Lib.hid (Hr.out.step (by omega) (o := (cy + (dg us i + dg vs i)) % 4294967296) (cy' := (cy + (dg us i + dg vs i)) / 4294967296) (by omega) (by omega) (by omega) (((cy : Int) + ((dg us i : Int) + (dg vs i : Int))) % 4294967296) (by omega))
      rw [HK.out] at HS
      have p1 : IntKind.u64.wrap ((dg us i : Int) + (dg vs i : Int)) = (dg us i : Int) + (dg vs i : Int) := by rw [wrap_u64]; omega
      have p2 : IntKind.u64.wrap ((cy : Int) + ((dg us i : Int) + (dg vs i : Int))) = (cy : Int) + ((dg us i : Int) + (dg vs i : Int)) := by rw [wrap_u64]; omega
      have E3 := Lib.hid (show ((cy : Int) + ((dg us i : Int) + (dg vs i : Int))) / 4294967296 = (((cy + (dg us i + dg vs i)) / 4294967296 : Nat) : Int) by omega)
      clear hc2
      go_wp2
      go_roundw
      case rel => exact ⟨_, i + 1, by rw [E3.out], by go_num, hi2, HS⟩
      case measure => simp only [intOf]; omega
    · obtain rfl : i = n := by omega
      clear hi2
      obtain ⟨c1, f1⟩ := Hr.out.cell (Nat.le_refl i) (by omega)
      rw [HK.out] at c1 f1
      have du := dg_lt HDU.out i
      have z0 : dg vs i = 0 := dg_out (by rw [HNV.out]; exact Nat.le_refl _)
      have HS := Lib.hid (Hr.out.step (by omega) (o := (cy + dg us i) % 4294967296) (cy' := (cy + dg us i) / 4294967296) (by rw [z0]; omega) (by omega) (by omega) (((dg us i : Int) + (cy : Int)) % 4294967296) (by omega))
      rw [HK.out] at HS
      have q4 : (i : Int) < (i : Int) + 1 := by omega
      clear z0
      go_wp2
      go_end0
      obtain ⟨⟨os, h1, h2, h3, h4, _⟩, _, h6⟩ := HS.out
      refine ⟨os, (cy + dg us i) / 4294967296, rfl, h1, h2, h3, ?_, h6⟩
      rw [List.take_of_length_le (by omega), List.take_of_length_le (by rw [HL.out]; omega), List.take_of_length_le (by rw [HNV.out]; omega)] at h4
      exact h4
end Go.Proofs.Ytgioppkggpfnoaa.Nu
end

section
/- The walk of limbs.short. -/
set_option linter.unusedVariables false
namespace Go.Proofs.Ytgioppkggpfnoaa.Nu
open Go.RowKit Go.Proofs Go.Shelf
attribute [local go_sem] Oper.semAt_some

theorem or_word3 (a b : Nat) (ha : a < 4294967296) (hb : b < 4294967296) : bits .or .u64 ((b : Int) * 4294967296) (a : Int) = ((b * 4294967296 + a : Nat) : Int) := by
  rw [show ((b : Int) * 4294967296) = ((b * 4294967296 : Nat) : Int) by omega, bits_or_u64_nat _ _ (by omega) (by omega)]
  congr 1
  rw [show b * 4294967296 = b <<< 32 by rw [Nat.shiftLeft_eq], ← Nat.shiftLeft_add_eq_or_of_lt (by omega)]
/-- What the rounds keep, whatever the order of places; in the right order: the plain law's relation. -/
structure ShortJ (xs : List Nat) (d n : Nat) (s : Nat) (pre : List (Pl n)) (W : World) : Prop where
  ex : ∃ qs rest, (∀ j, j < n → W.cell? ⟨s + 1, j, none⟩ = some (.int .u32 (dg qs j : Int)) ∧ W.frozen? ⟨s + 1, j, none⟩ = false) ∧ qs.length = n ∧ Dig qs ∧ rest < d ∧ W.cell? ⟨s + 1 + 1 + 1, 0, none⟩ = some (.int .u64 (rest : Int)) ∧ W.frozen? ⟨s + 1 + 1 + 1, 0, none⟩ = false ∧ ∀ k, k ≤ n → Come n k pre → ShortRel xs d n (n - k) rest qs
  cd : W.cell? ⟨s, 0, none⟩ = some (.int .u32 (d : Int))
  co : W.cell? ⟨s + 1 + 1, 0, none⟩ = some (.slice (some ⟨s + 1, 0, none⟩) n n)
theorem ShortJ.kept {xs : List Nat} {d n s : Nat} {pre : List (Pl n)} {W W' : World} {row : Option Nat} (h : ShortJ xs d n s pre W) (hg : W.grownBy W' row) (hr : ∀ r, row = some r → ∃ o : Obj, W.heap[r]? = some o ∧ o.isCells = false) : ShortJ xs d n s pre W' := by
  obtain ⟨⟨qs, rest, h1, h2, h3, h4, h5, h6, h7⟩, h8, h9⟩ := h
  exact ⟨⟨qs, rest, fun j hj => ⟨cell_kept (h1 j hj).1 hg hr, (frozen_kept (h1 j hj).1 hg hr).trans (h1 j hj).2⟩, h2, h3, h4, cell_kept h5 hg hr, (frozen_kept h5 hg hr).trans h6, h7⟩, cell_kept h8 hg hr, cell_kept h9 hg hr⟩
theorem ShortJ.below {xs : List Nat} {d n s : Nat} {pre : List (Pl n)} {W W' : World} (h : ShortJ xs d n s pre W) (hs : s + 1 + 1 + 1 < W.heap.size) (hb : Below W.heap.size W W') : ShortJ xs d n s pre W' := by
  obtain ⟨⟨qs, rest, h1, h2, h3, h4, h5, h6, h7⟩, h8, h9⟩ := h
  obtain ⟨b1, b2⟩ := bcell hb
  exact ⟨⟨qs, rest, fun j hj => ⟨(b1 _ _ (by omega)).trans (h1 j hj).1, (b2 _ _ (by omega)).trans (h1 j hj).2⟩, h2, h3, h4, (b1 _ _ (by omega)).trans h5, (b2 _ _ (by omega)).trans h6, h7⟩, (b1 _ _ (by omega)).trans h8, (b1 _ _ (by omega)).trans h9⟩
/-- One round: the digit is laid, the rest goes on. -/
theorem short_fin {xs qs : List Nat} {d n s rest i e t q r : Nat} {pre : List (Pl n)} {w W W1 : World} (hi : i < n) (B : Nat) (hxl : xs.length = n) (hxd : Dig xs) (hl : qs.length = n) (hdq : Dig qs) (hr : rest < d) (hd : d < 4294967296) (hq : q = t / d) (hr2 : r = t % d) (he : e = dg xs i) (ht : t = rest * 4294967296 + e)
    (hk : ∀ k, k ≤ n → Come n k pre → ShortRel xs d n (n - k) rest qs) (hb : Below s w W1) (hko : KeepsOthers W W1) (hkb : KB s (s + 1 + 1 + 1 + 1) W W1)
    (hc : ∀ j, j < n → W1.cell? ⟨s + 1, j, none⟩ = some (.int .u32 (dg qs j : Int)) ∧ W1.frozen? ⟨s + 1, j, none⟩ = false)
    (d2 : W1.cell? ⟨s + 1 + 1 + 1, 0, none⟩ = some (.int .u64 (t : Int))) (g2 : W1.frozen? ⟨s + 1 + 1 + 1, 0, none⟩ = false) (d3 : W1.cell? ⟨s, 0, none⟩ = some (.int .u32 (d : Int))) (d4 : W1.cell? ⟨s + 1 + 1, 0, none⟩ = some (.slice (some ⟨s + 1, 0, none⟩) n n)) :
    KeepsFrom B W (((W1.setCell ⟨s + 1, i, none⟩ (.int .u32 (q : Int))).setCell ⟨s + 1 + 1 + 1, 0, none⟩ (.int .u64 (r : Int))).drew) ∧ KB s (s + 1 + 1 + 1 + 1) W (((W1.setCell ⟨s + 1, i, none⟩ (.int .u32 (q : Int))).setCell ⟨s + 1 + 1 + 1, 0, none⟩ (.int .u64 (r : Int))).drew) ∧
    ShortJ xs d n s (pre ++ [⟨i, hi⟩]) (((W1.setCell ⟨s + 1, i, none⟩ (.int .u32 (q : Int))).setCell ⟨s + 1 + 1 + 1, 0, none⟩ (.int .u64 (r : Int))).drew) ∧ Below s w (((W1.setCell ⟨s + 1, i, none⟩ (.int .u32 (q : Int))).setCell ⟨s + 1 + 1 + 1, 0, none⟩ (.int .u64 (r : Int))).drew) := by
  have hw := short_word hr (dg_lt hxd i) hd
  rw [← he, ← ht] at hw
  have hcell : ∀ b o, b ≠ s + 1 + 1 + 1 → (((W1.setCell ⟨s + 1, i, none⟩ (.int .u32 (q : Int))).setCell ⟨s + 1 + 1 + 1, 0, none⟩ (.int .u64 (r : Int))).drew).cell? ⟨b, o, none⟩ = (W1.setCell ⟨s + 1, i, none⟩ (.int .u32 (q : Int))).cell? ⟨b, o, none⟩ := fun b o hne => World.cell?_setCell_far _ ⟨s + 1 + 1 + 1, 0, none⟩ ⟨b, o, none⟩ _ (Ne.symm hne)
  have hfr : ∀ a, (((W1.setCell ⟨s + 1, i, none⟩ (.int .u32 (q : Int))).setCell ⟨s + 1 + 1 + 1, 0, none⟩ (.int .u64 (r : Int))).drew).frozen? a = W1.frozen? a := fun a => by
    show (((W1.setCell ⟨s + 1, i, none⟩ (.int .u32 (q : Int))).setCell ⟨s + 1 + 1 + 1, 0, none⟩ (.int .u64 (r : Int)))).frozen? a = _
    rw [World.frozen?_setCell, World.frozen?_setCell]
  refine ⟨(((hko.trans (KeepsOthers.setCell _ _ _)).trans (KeepsOthers.setCell _ _ _)).trans (KeepsOthers.drew _)).from B, ((hkb.set (by omega) (by omega) _ _).set (by omega) (by omega) _ _).drew, ⟨⟨qs.set i q, r, fun j hj => ?_, by simpa using hl, dig_set hdq i (by rw [hq]; exact hw.2.1), by rw [hr2]; exact hw.2.2, ?_, ?_, ?_⟩, ?_, ?_⟩, ((hb.setCell (p := ⟨s + 1, i, none⟩) (by simp) _).setCell (p := ⟨s + 1 + 1 + 1, 0, none⟩) (by simp; omega) _).drew⟩
  · rw [hfr, hcell _ _ (by omega)]
    refine ⟨?_, (hc j hj).2⟩
    by_cases hij : j = i
    · subst hij
      rw [dg_set_same _ _ _ (by omega)]
      exact World.cell?_setCell_same' _ _ _ (by rw [(hc j hj).1]; rfl)
    · rw [dg_set_ne _ _ _ _ (Ne.symm hij), World.cell?_setCell_other _ _ _ _ (by intro h; injection h with _ h2; exact hij h2.symm)]
      exact (hc j hj).1
  · exact World.cell?_setCell_same' _ _ _ (by rw [World.cell?_setCell_far _ _ _ _ (by simp), d2]; rfl)
  · rw [hfr]; exact g2
  · intro k hk2 hcome
    obtain ⟨m, rfl, h1, h2⟩ := hcome.last
    have h3 := hk m (by omega) h1
    simp only at h2
    have e1 : n - m = i + 1 := by omega
    have e2 : n - (m + 1) = i := by omega
    rw [e1] at h3
    rw [e2, hq, hr2, ht, he]
    exact h3.step hxl hxd hi hd
  · rw [hcell _ _ (by omega), World.cell?_setCell_far _ _ _ _ (by simp)]
    exact d3
  · rw [hcell _ _ (by omega), World.cell?_setCell_far _ _ _ _ (by simp)]
    exact d4
set_option maxRecDepth 100000 in
set_option maxHeartbeats 4000000 in
theorem short_in (w : World) (A : Option Addr) (n c d : Nat) (xs : List Nat) (hI : RL w A n xs) (hc : n ≤ c) (hn : n ≤ 1000) (h0 : 0 < d) (hd : d < 4294967296) :
    CallsIn Fence.wide 9 Try.prog 41 #[.slice A n c, .int .u32 d] w fun e W' => ∃ A1 n1 c1, n1 ≤ c1 ∧ e = .returned (.tuple #[.slice A1 n1 c1, .int .u32 ((val xs % d : Nat) : Int)]) ∧ RN W' A1 n1 (val xs / d) ∧ Below w.heap.size w W' := by
  refine callsIn_of_wp_marks Try.func41 rfl trivial ?_ rfl
  simp only [Try.ntmps41, List.size_toArray, List.length_cons, List.length_nil, Nat.reduceAdd, Nat.reduceSub, Array.replicate_succ, Array.replicate_zero, List.push_toArray, List.append_toArray, List.nil_append, List.cons_append]
  gi_wp2_with fail
  rw [make_u32 n (by omega)]
  simp only [Result.andThen]
  rw [Oper.uponIn_value]
  gi_wp2_with fail
  refine ⟨trivial, ?_⟩
  have bD := Boxed.new w 64 (.int .u32 d)
  have bM := Blk.made (w.alloc (.cells #[.int .u32 d] 64)) n
  have bO := Boxed.new ((w.alloc (.cells #[.int .u32 d] 64)).alloc (.cells (mk0 n) 64)) 28 (.slice (some ⟨w.heap.size + 1, 0, none⟩) n n)
  have bR := Boxed.new (((w.alloc (.cells #[.int .u32 d] 64)).alloc (.cells (mk0 n) 64)).alloc (.cells #[.slice (some ⟨w.heap.size + 1, 0, none⟩) n n] 28)) 52 (.int .u64 0)
  rw [World.size_alloc] at bM
  rw [World.size_alloc, World.size_alloc] at bO
  rw [World.size_alloc, World.size_alloc, World.size_alloc] at bR
  have hB0 : Below w.heap.size w ((((w.alloc (.cells #[.int .u32 d] 64)).alloc (.cells (mk0 n) 64)).alloc (.cells #[.slice (some ⟨w.heap.size + 1, 0, none⟩) n n] 28)).alloc (.cells #[.int .u64 0] 52)) := ((((Below.refl _ w).alloc (Nat.le_refl _) _).alloc (by simp) _).alloc (by simp; omega) _).alloc (by simp; omega) _
  have hJ0 : ShortJ xs d n w.heap.size [] ((((w.alloc (.cells #[.int .u32 d] 64)).alloc (.cells (mk0 n) 64)).alloc (.cells #[.slice (some ⟨w.heap.size + 1, 0, none⟩) n n] 28)).alloc (.cells #[.int .u64 0] 52)) :=
    ⟨⟨List.replicate n 0, 0, fun j hj => ⟨((bM.alloc _).alloc _).cell j (by simpa using hj), ((bM.alloc _).alloc _).free j⟩, by simp, dig_zeros _, h0, bR.cell, bR.frozen, fun k hk hk2 => by
      have := hk2.len
      obtain rfl : k = 0 := by simpa using this.symm
      exact ShortRel.start hI.1 h0⟩, (((bD.alloc _).alloc _).alloc _).cell, (bO.alloc _).cell⟩
  have hz4 : ((((w.alloc (.cells #[.int .u32 d] 64)).alloc (.cells (mk0 n) 64)).alloc (.cells #[.slice (some ⟨w.heap.size + 1, 0, none⟩) n n] 28)).alloc (.cells #[.int .u64 0] 52)).heap.size = w.heap.size + 1 + 1 + 1 + 1 := by simp
  generalize ((((w.alloc (.cells #[.int .u32 d] 64)).alloc (.cells (mk0 n) 64)).alloc (.cells #[.slice (some ⟨w.heap.size + 1, 0, none⟩) n n] 28)).alloc (.cells #[.int .u64 0] 52)) = w4 at *
  clear bD bM bO bR
  refine (back_in Fence.wide 8 trivial rfl _ _ _ _).mono ?_
  rintro e w' ⟨rfl, rfl⟩
  have bN := Boxed.new w4 28 (.slice A n c)
  have HJ0 := Lib.hid hJ0
  clear hJ0
  gi_wp2_with fail
  rw [hz4] at bN
  have hA : ∀ a, A = some a → 0 < n → a.block < w.heap.size := fun a ha hl => by
    obtain ⟨b1, o1, rfl, hl1, _⟩ := hI.2.2.2 hl
    cases ha
    exact hl1
  refine wpIn_rangeFunc_ownG rfl (by omega) (gf := 40) (lb := #[.pointer (some ⟨w.heap.size + 1 + 1 + 1 + 1, 0, none⟩)]) rfl trivial (enters_of Try.func40 (by kernel_rfl) rfl)
    (back_stopsK Fence.wide 8 trivial rfl (by omega) (w.heap.size + 1 + 1 + 1 + 1) w.heap.size A n c xs _ (by simp [hz4]) (by simp [hz4]; omega) bN.cell (hI.below (hB0.alloc (by omega) _)) hA) KB.trans (KB.put (by simp [hz4]; omega) (by simp [hz4])) (Below.refl _ _) (fun _ => rfl)
    (fun pre W => ShortJ xs d n w.heap.size pre W ∧ Below w.heap.size w W)
    (fun c pre W => False)
    (OwnFrom.and (Own.from (fun s A B row hs hg hr => hs.kept hg hr) _) (ownFrom_below (Nat.le_refl _) (by simp [hz4]; try omega)))
    (fun c => (Own.from (fun s A B row hs hg hr => hs) _))
    ⟨HJ0.out.below (by omega) (by simpa using (Below.refl _ w4).alloc (Nat.le_refl _) _), hB0.alloc (by omega) _⟩
    (fun x => { tmps := #[.slice A n c, .int .u32 d, undef, .pointer (some ⟨w.heap.size, 0, none⟩), .slice none 0 0, .int .u32 0, .pointer (some ⟨w.heap.size + 1 + 1, 0, none⟩), .pointer (some ⟨w.heap.size + 1 + 1 + 1, 0, none⟩), .int .i64 (x.1 : Int), .int .u32 (dg xs x.1 : Int), .slice A n c, .int .i64 n, .slice (some ⟨w.heap.size + 1, 0, none⟩) n n, .slice A n c, .func (.func 40) #[] #[.pointer (some ⟨w.heap.size + 1 + 1 + 1 + 1, 0, none⟩)], .int .i64 (x.1 : Int), .int .u32 (dg xs x.1 : Int), undef, undef, undef, undef, undef, undef, undef, undef, undef, undef, undef, undef, undef, undef, undef, undef, undef, undef, undef, undef, undef], defers := [] }) ?assign ?body ?done ?stop
  case assign =>
    intro l x W K hK
    gi_wp2
    exact hK
  case body =>
    rintro l pre x W ⟨hJ, hB⟩ _
    obtain ⟨i, hi⟩ := x
    obtain ⟨⟨qs, rest, c1, hl, hdq, hr, c2, f2, hk⟩, c3, c4⟩ := hJ
    obtain ⟨c5, f5⟩ := c1 i hi
    have he := dg_lt hI.2.2.1 i
    obtain ⟨w1', w2', w3'⟩ := short_word hr he hd
    have p1 : bits .or .u64 ((rest : Int) * 4294967296) (dg xs i : Int) = ((rest * 4294967296 + dg xs i : Nat) : Int) := or_word3 _ _ he (by omega)
    have HK := Lib.hid hk
    have HC := Lib.hid c1
    have HDQ := Lib.hid hdq
    obtain ⟨e, hee⟩ : ∃ e, e = dg xs i := ⟨_, rfl⟩
    have HEE := Lib.hid hee
    rw [← hee] at p1 he w1' w2' w3'
    dsimp only at *
    rw [← hee]
    obtain ⟨t, ht⟩ : ∃ t, t = rest * 4294967296 + e := ⟨_, rfl⟩
    have HT := Lib.hid ht
    rw [← ht] at p1 w1' w2' w3'
    clear hk c1 hdq hee ht
    have hi2 : (i : Int) < (n : Int) := by omega
    have z1 : ¬ (d : Int) = 0 := by omega
    have z2 : ((d : Int) == 0) = false := by rw [beq_eq_false_iff_ne]; exact z1
    gi_wp2_with fail
    have hfo : Try.prog.follows .mixedOrders = true := by kernel_rfl
    have z3 : 0 < (d : Int) := by omega
    have z4 : ¬ d = 0 := by omega
    obtain ⟨q, hq⟩ : ∃ q, q = t / d := ⟨_, rfl⟩
    obtain ⟨r, hr2⟩ : ∃ r, r = t % d := ⟨_, rfl⟩
    have z5 : (t : Int) / (d : Int) = (q : Int) := by rw [hq]; simp
    have z6 : (t : Int) % (d : Int) = (r : Int) := by rw [hr2]; simp
    rw [← hq] at w2'
    rw [← hr2] at w3'
    have HQ := Lib.hid hq
    have HR := Lib.hid hr2
    clear hq hr2
    have z7 : IntKind.u64.wrap (q : Int) = (q : Int) := by rw [wrap_u64]; omega
    have z8 : IntKind.u64.wrap (t : Int) = (t : Int) := by rw [wrap_u64]; omega
    have d3 : (W.setCell ⟨w.heap.size + 1 + 1 + 1, 0, none⟩ (.int .u64 (t : Int))).cell? ⟨w.heap.size, 0, none⟩ = some (.int .u32 (d : Int)) := by rw [World.cell?_setCell_far _ _ _ _ (by simp; omega)]; exact c3
    have d4 : (W.setCell ⟨w.heap.size + 1 + 1 + 1, 0, none⟩ (.int .u64 (t : Int))).cell? ⟨w.heap.size + 1 + 1, 0, none⟩ = some (.slice (some ⟨w.heap.size + 1, 0, none⟩) n n) := by rw [World.cell?_setCell_far _ _ _ _ (by simp)]; exact c4
    have z9 : (d = 0) = False := by simp; omega
    have z10 : ((d : Int) = 0) = False := by simp; omega
    have d2 : (W.setCell ⟨w.heap.size + 1 + 1 + 1, 0, none⟩ (.int .u64 (t : Int))).cell? ⟨w.heap.size + 1 + 1 + 1, 0, none⟩ = some (.int .u64 (t : Int)) := World.cell?_setCell_same' _ _ _ (by rw [c2]; rfl)
    have d5 : (W.setCell ⟨w.heap.size + 1 + 1 + 1, 0, none⟩ (.int .u64 (t : Int))).cell? ⟨w.heap.size + 1, i, none⟩ = some (.int .u32 (dg qs i : Int)) := by rw [World.cell?_setCell_far _ _ _ _ (by simp; omega)]; exact c5
    have g5 : (W.setCell ⟨w.heap.size + 1 + 1 + 1, 0, none⟩ (.int .u64 (t : Int))).frozen? ⟨w.heap.size + 1, i, none⟩ = false := by rw [World.frozen?_setCell]; exact f5
    have g2 : (W.setCell ⟨w.heap.size + 1 + 1 + 1, 0, none⟩ (.int .u64 (t : Int))).frozen? ⟨w.heap.size + 1 + 1 + 1, 0, none⟩ = false := by rw [World.frozen?_setCell]; exact f2
    have HB2 := Lib.hid (hB.setCell (p := ⟨w.heap.size + 1 + 1 + 1, 0, none⟩) (by simp; omega) (.int .u64 (t : Int)))
    have HKO := Lib.hid (KeepsOthers.setCell W ⟨w.heap.size + 1 + 1 + 1, 0, none⟩ (.int .u64 (t : Int)))
    have hne1 : (⟨w.heap.size + 1, 0, none⟩ : Addr).block ≠ (⟨w.heap.size + 1 + 1 + 1, 0, none⟩ : Addr).block := by simp only; omega
    have HKB := Lib.hid ((KB.refl w.heap.size (w.heap.size + 1 + 1 + 1 + 1) W).set (g := w.heap.size + 1 + 1 + 1) (by omega) (by omega) 0 (.int .u64 (t : Int)))
    have HC2 := Lib.hid (fun (j : Nat) (hj : j < n) => show (W.setCell ⟨w.heap.size + 1 + 1 + 1, 0, none⟩ (.int .u64 (t : Int))).cell? ⟨w.heap.size + 1, j, none⟩ = some (.int .u32 (dg qs j : Int)) ∧ (W.setCell ⟨w.heap.size + 1 + 1 + 1, 0, none⟩ (.int .u64 (t : Int))).frozen? ⟨w.heap.size + 1, j, none⟩ = false from ⟨by rw [World.cell?_setCell_far _ _ _ _ (by simp only; omega)]; exact (HC.out j hj).1, by rw [World.frozen?_setCell]; exact (HC.out j hj).2⟩)
    clear hne1
    clear c2 c3 c4 c5 f2 f5
    generalize W.setCell ⟨w.heap.size + 1 + 1 + 1, 0, none⟩ (.int .u64 (t : Int)) = W1 at *
    have z11 : IntKind.u64.wrap (d : Int) = (d : Int) := by rw [wrap_u64]; omega
    have z12 : IntKind.u32.wrap (q : Int) = (q : Int) := by rw [IntKind.wrap_u32]; omega
    have z13 : IntKind.u64.wrap (r : Int) = (r : Int) := by rw [wrap_u64]; omega
    have FIN := Lib.hid (short_fin hi (w4.alloc (.cells #[.slice A n c] 28)).heap.size hI.1 hI.2.2.1 hl HDQ.out hr hd HQ.out HR.out HEE.out HT.out HK.out HB2.out HKO.out HKB.out HC2.out d2 g2 d3 d4)
    gi_region_with (fail)
    all_goals gi_wp2
    all_goals exact FIN.out
  case done =>
    rintro D ys W hD hys ⟨hJ, hB⟩ hK
    obtain ⟨⟨qs, rest, c1, hl, hdq, hr, c2, f2, hk⟩, c3, c4⟩ := hJ
    have hfin := hk n (Nat.le_refl _) hys
    rw [Nat.sub_self] at hfin
    obtain ⟨e1, e2⟩ := hfin.done
    have HR := Lib.hid (show RL W.drew (some ⟨w.heap.size + 1, 0, none⟩) n qs from ⟨hl, by omega, hdq, fun h0 => ⟨w.heap.size + 1, 0, rfl, World.block_lt_of_cell? W ⟨w.heap.size + 1, 0, none⟩ (c1 0 h0).1, fun j hj => by rw [Nat.zero_add]; exact (c1 j hj).1⟩⟩)
    have E1 := Lib.hid e1
    have E2 := Lib.hid e2
    have hr32 : rest < 4294967296 := by omega
    have z1 : IntKind.u32.wrap (rest : Int) = (rest : Int) := by rw [IntKind.wrap_u32]; omega
    clear c1 c3 hk hys e1 e2 hfin hdq hl f2 hr
    have k0 := Lib.hid (show W.cell? ⟨w.heap.size + 1 + 1, 0, none⟩ = some (.slice (some ⟨w.heap.size + 1, 0, none⟩) n n) ∧ W.cell? ⟨w.heap.size + 1 + 1 + 1, 0, none⟩ = some (.int .u64 (rest : Int)) from ⟨c4, c2⟩)
    have k1 := Lib.hid (show W.drew.cell? ⟨w.heap.size + 1 + 1, 0, none⟩ = some (.slice (some ⟨w.heap.size + 1, 0, none⟩) n n) ∧ W.drew.cell? ⟨w.heap.size + 1 + 1 + 1, 0, none⟩ = some (.int .u64 (rest : Int)) from ⟨c4, c2⟩)
    gi_wp2_with fail
    refine wpIn_wide.2 ?_
    go_region_held3 (fun w' => w'.cell? ⟨w.heap.size + 1 + 1, 0, none⟩ = some (.slice (some ⟨w.heap.size + 1, 0, none⟩) n n) ∧ w'.cell? ⟨w.heap.size + 1 + 1 + 1, 0, none⟩ = some (.int .u64 (rest : Int))) (first | with_reducible exact k0.out | with_reducible exact k1.out)
      (first | (go_at_call 33; refine (trim_any _ (some ⟨w.heap.size + 1, 0, none⟩) n n qs HR.out (Nat.le_refl _)).mono ?_; rintro e w' ⟨m, rfl, hm, rfl⟩; have HM := Lib.hid hm; clear hm) | fail)
    go_wp2
    gi_wp2
    have hK' : W.drew.heap[D]? = some (.deferred (some [])) := hK
    refine ⟨by simp, .inl ⟨_, _, rfl, run_takeDeferred hK', ?_⟩⟩
    have hB3 : Below (w.heap.size + 1 + 1 + 1 + 1 + 1) W.drew (W.drew.putObj D (.deferred none)) := belowK_b (w := w4.alloc (.cells #[.slice A n c] 28)) (by simp [hz4]) W.drew D _ _ hD hK' rfl rfl
    refine ⟨.tuple #[.slice (some ⟨w.heap.size + 1, 0, none⟩) m m, .int .u32 (rest : Int)], ?_, _, _, _, Nat.le_refl m, by rw [← E2.out], ?_, hB.drew.trans (hB3.mono (by omega))⟩
    · simp [results, Try.f41, go_sem]
    · rw [← E1.out]
      exact RL.belowN HM.out hB3 (fun b o s e => by cases e; omega)
  case stop =>
    rintro D c pre W hD ⟨k, hk, hpre⟩ hf hK
    exact hf.elim
end Go.Proofs.Ytgioppkggpfnoaa.Nu
end

section
/- limbs.long's plain part: windows of a row, one digit of the quotient. -/
set_option linter.unusedVariables false
namespace Go.Proofs.Ytgioppkggpfnoaa.Nu
open Go.RowKit Go.Proofs

theorem val_put {ys : List Nat} {i d : Nat} (h : i < ys.length) : val (ys.set i d) + 4294967296 ^ i * dg ys i = val ys + 4294967296 ^ i * d := by
  induction ys generalizing i with
  | nil => exact absurd h (by simp)
  | cons y ys ih =>
    cases i with
    | zero => simp [val, dg]; omega
    | succ i =>
      have := ih (i := i) (by simpa using h)
      have e1 : dg (y :: ys) (i + 1) = dg ys i := by simp [dg]
      rw [e1]
      simp only [List.set_cons_succ, val, Nat.pow_succ]
      rw [Nat.mul_comm (4294967296 ^ i) 4294967296, Nat.mul_assoc, Nat.mul_assoc]
      omega
/-- The window's highest digits and those of what is divided by. -/
theorem div_win {mid vs : List Nat} {nb : Nat} (hm : mid.length = nb + 1) (hv : vs.length = nb) (h2 : 2 ≤ nb) (dm : Dig mid) (dv : Dig vs) (h1 : 0 < dg vs (nb - 1)) (hs : val mid < val vs * 4294967296) :
    DivWin 4294967296 (4294967296 ^ (nb - 2)) (val mid) (val vs) (dg mid nb) (dg mid (nb - 1)) (dg mid (nb - 2)) (val (mid.take (nb - 2))) (dg vs (nb - 1)) (dg vs (nb - 2)) (val (vs.take (nb - 2))) := by
  obtain ⟨m, rfl⟩ : ∃ m, nb = m + 2 := ⟨nb - 2, by omega⟩
  have e1 : val mid = val (mid.take m) + 4294967296 ^ m * dg mid m + 4294967296 ^ (m + 1) * dg mid (m + 1) + 4294967296 ^ (m + 2) * dg mid (m + 2) := by
    rw [← val_take_next, ← val_take_next, ← val_take_next, List.take_of_length_le (by omega)]
  have e2 : val vs = val (vs.take m) + 4294967296 ^ m * dg vs m + 4294967296 ^ (m + 1) * dg vs (m + 1) := by
    rw [← val_take_next, ← val_take_next, List.take_of_length_le (by omega)]
  have k1 : m + 2 - 1 = m + 1 := by omega
  have k2 : m + 2 - 2 = m := by omega
  rw [k1] at h1
  rw [k1, k2]
  have l1 := val_lt (dig_take dm m)
  have l2 := val_lt (dig_take dv m)
  rw [List.length_take, Nat.min_eq_left (by omega)] at l1 l2
  have p1 : 4294967296 ^ (m + 1) = 4294967296 ^ m * 4294967296 := Nat.pow_succ _ _
  have p2 : 4294967296 ^ (m + 2) = 4294967296 ^ m * 4294967296 * 4294967296 := by rw [Nat.pow_succ, Nat.pow_succ]
  refine ⟨?_, ?_, l1, l2, dg_lt dm _, dg_lt dm _, dg_lt dv _, h1, hs⟩
  · rw [e1, p1, p2, Nat.add_mul, Nat.add_mul, Nat.add_mul]
    have a1 : 4294967296 ^ m * 4294967296 * dg mid (m + 1) = dg mid (m + 1) * 4294967296 * 4294967296 ^ m := by
      rw [Nat.mul_assoc, Nat.mul_comm (4294967296 ^ m), Nat.mul_comm 4294967296]
    have a2 : 4294967296 ^ m * 4294967296 * 4294967296 * dg mid (m + 2) = dg mid (m + 2) * 4294967296 * 4294967296 * 4294967296 ^ m := by
      rw [Nat.mul_assoc, Nat.mul_assoc, Nat.mul_comm (4294967296 ^ m)]
      congr 1
      omega
    rw [a1, a2, Nat.mul_comm (4294967296 ^ m) (dg mid m)]
    omega
  · rw [e2, p1, Nat.add_mul]
    have a1 : 4294967296 ^ m * 4294967296 * dg vs (m + 1) = dg vs (m + 1) * 4294967296 * 4294967296 ^ m := by
      rw [Nat.mul_assoc, Nat.mul_comm (4294967296 ^ m), Nat.mul_comm 4294967296]
    rw [a1, Nat.mul_comm (4294967296 ^ m) (dg vs m)]
    omega
/-- A row in three: what lies below the window, the window, what lies above. -/
theorem cut_row (us : List Nat) (k n : Nat) (h : k + n ≤ us.length) : us = us.take k ++ (us.drop k).take n ++ us.drop (k + n) ∧ (us.take k).length = k ∧ ((us.drop k).take n).length = n := by
  refine ⟨?_, by simp; omega, by simp; omega⟩
  rw [List.append_assoc]
  conv => lhs; rw [← List.take_append_drop k us]
  congr 1
  conv => lhs; rw [← List.take_append_drop n (us.drop k)]
  rw [List.drop_drop]
theorem dig_cut {us : List Nat} (h : Dig us) (k n : Nat) : Dig (us.take k) ∧ Dig ((us.drop k).take n) ∧ Dig (us.drop (k + n)) :=
  ⟨fun x hx => h x (List.mem_of_mem_take hx), fun x hx => h x (List.mem_of_mem_drop (List.mem_of_mem_take hx)), fun x hx => h x (List.mem_of_mem_drop hx)⟩
theorem dig_app {a b : List Nat} (ha : Dig a) (hb : Dig b) : Dig (a ++ b) := fun x hx => (List.mem_append.1 hx).elim (ha x) (hb x)
/-- Where the whole is small, nothing lies above the window. -/
theorem cut_val {pre mid post : List Nat} {k nb V : Nat} (hk : pre.length = k) (hn : mid.length = nb + 1) (hV : V < 4294967296 ^ nb) (h : val (pre ++ mid ++ post) < V * 4294967296 ^ (k + 1)) :
    val post = 0 ∧ val (pre ++ mid ++ post) = val pre + val mid * 4294967296 ^ k ∧ val mid < V * 4294967296 := by
  have e : val (pre ++ mid ++ post) = val pre + 4294967296 ^ k * val mid + 4294967296 ^ (k + (nb + 1)) * val post := by
    rw [val_append, val_append, List.length_append, hk, hn]
  have hp : 0 < 4294967296 ^ (k + (nb + 1)) := Nat.pow_pos (by omega)
  have l1 : V * 4294967296 ^ (k + 1) < 4294967296 ^ (k + (nb + 1)) := by
    have := Nat.mul_lt_mul_of_pos_right hV (show 0 < 4294967296 ^ (k + 1) from Nat.pow_pos (by omega))
    rw [← Nat.pow_add, show nb + (k + 1) = k + (nb + 1) by omega] at this
    exact this
  have hz : val post = 0 := by
    rcases Nat.eq_zero_or_pos (val post) with h0 | h0
    · exact h0
    · have := Nat.le_mul_of_pos_right (4294967296 ^ (k + (nb + 1))) h0
      omega
  rw [hz, Nat.mul_zero, Nat.add_zero] at e
  refine ⟨hz, by rw [e, Nat.mul_comm], ?_⟩
  have hp2 : 0 < 4294967296 ^ k := Nat.pow_pos (by omega)
  have l2 : val mid * 4294967296 ^ k < V * 4294967296 * 4294967296 ^ k := by
    have : V * 4294967296 ^ (k + 1) = V * 4294967296 * 4294967296 ^ k := by rw [Nat.pow_succ, Nat.mul_comm (4294967296 ^ k), Nat.mul_assoc]
    rw [← this]
    rw [Nat.mul_comm (val mid)]
    omega
  exact Nat.lt_of_mul_lt_mul_right l2
/-- The digit guessed, the multiple taken away: no loan, or one that is given back. -/
theorem less_zero {W V g r P : Nat} (hV : 0 < V) (hge : W / V ≤ g) (h : r + g * V = W) : g = W / V ∧ r = W % V := by
  have h1 : g ≤ W / V := by
    rw [Nat.le_div_iff_mul_le hV]
    omega
  have h2 : g = W / V := by omega
  subst h2
  have := Nat.div_add_mod W V
  rw [Nat.mul_comm] at this
  exact ⟨rfl, by omega⟩
theorem less_one {W V g r r2 ow2 P : Nat} (hV : 0 < V) (hle : g ≤ W / V + 1) (hVP : V < P) (hr : r < P) (hr2 : r2 < P) (h : r + g * V = W + P) (hb : r2 + ow2 * P = r + V) : g = W / V + 1 ∧ r2 = W % V := by
  have e := Nat.div_add_mod W V
  have hm := Nat.mod_lt W hV
  have h1 : W / V < g := by
    rcases Nat.lt_or_ge (W / V) g with h0 | h0
    · exact h0
    · have := Nat.mul_le_mul_right V h0
      rw [Nat.mul_comm V] at e
      omega
  have h2 : g = W / V + 1 := by omega
  subst h2
  rw [Nat.succ_mul, Nat.mul_comm] at h
  generalize V * (W / V) = t at *
  refine ⟨rfl, ?_⟩
  rcases ow2 with _ | _ | k
  · omega
  · omega
  · rw [show (k + 1 + 1) * P = k * P + P + P by rw [Nat.add_mul, Nat.add_mul]; omega] at hb
    omega
/-- What the loop over the quotient's digits keeps. -/
structure LongRel (X V nb na : Nat) (ysv : List Nat) (W : World) (gv gu gq kk : Nat) (w : World) : Prop where
  bel : Below W.heap.size W w
  vb : Blk w gv ysv
  ex : ∃ us qs Q, Blk w gu us ∧ us.length = na + 1 ∧ Dig us ∧ Blk w gq qs ∧ qs.length = na - nb + 1 ∧ Dig qs ∧ X = Q * 4294967296 ^ kk * V + val us ∧ val us < V * 4294967296 ^ kk ∧ val qs = Q * 4294967296 ^ kk ∧ ∀ j, j < kk → dg qs j = 0
theorem Blk.only {g b : Nat} {w w' : World} {ys : List Nat} (h : Blk w b ys) (hb : b ≠ g) (ho : Only g w w') : Blk w' b ys := by
  unfold Blk
  rw [ho.1.block b h.lt (fun e => hb (by cases e; rfl))]
  exact h
theorem Below.only {g : Nat} {W w w' : World} (h : Below W.heap.size W w) (hg : W.heap.size ≤ g) (ho : Only g w w') : Below W.heap.size W w' :=
  ⟨ho.1.os.trans h.os, ho.1.tape.trans h.tape, ho.1.output.trans h.output, by rw [ho.2]; exact h.size, fun j hj => (ho.1.block j (Nat.lt_of_lt_of_le hj h.size) (fun e => by cases e; omega)).trans (h.block j hj)⟩
theorem LongRel.dr {X V nb na : Nat} {ysv : List Nat} {W w : World} {gv gu gq kk : Nat} (h : LongRel X V nb na ysv W gv gu gq kk w) (n : Nat) : LongRel X V nb na ysv W gv gu gq kk (w.drewN n) :=
  ⟨below_drewN h.bel n, h.vb, h.ex⟩
/-- One round: the window's rest in its place, the digit in its own. -/
theorem LongRel.step {X V nb na : Nat} {ysv : List Nat} {W w w' : World} {gv gu gq k : Nat} (hW : W.heap.size ≤ gu) (hg : W.heap.size ≤ gq) (hvq : gv ≠ gq) (huq : gu ≠ gq) (hV : 0 < V) (hVn : V < 4294967296 ^ nb)
    {pre mid post os qs : List Nat} {Q q : Nat} (hb : Below W.heap.size W w') (hvb : Blk w' gv ysv) (hu : Blk w' gu (pre ++ os ++ post)) (hq : Blk w' gq qs)
    (hk : pre.length = k) (hm : mid.length = nb + 1) (ho : os.length = nb + 1) (hl : (pre ++ mid ++ post).length = na + 1) (hd : Dig (pre ++ mid ++ post)) (hdo : Dig os) (hql : qs.length = na - nb + 1) (hqd : Dig qs) (hkq : k < na - nb + 1)
    (hX : X = Q * 4294967296 ^ (k + 1) * V + val (pre ++ mid ++ post)) (hs : val (pre ++ mid ++ post) < V * 4294967296 ^ (k + 1)) (hqv : val qs = Q * 4294967296 ^ (k + 1)) (hz : ∀ j, j < k + 1 → dg qs j = 0)
    (hqe : q = val mid / V) (hoe : val os = val mid % V) (x : Int) (hx : x = (q : Int)) :
    LongRel X V nb na ysv W gv gu gq k (w'.setCell ⟨gq, k, none⟩ (.int .u32 x)) := by
  obtain ⟨z, e, l⟩ := cut_val hk hm hVn hs
  have hpre : val pre < 4294967296 ^ k := by
    rw [← hk]
    exact val_lt (fun x hx => hd x (List.mem_append_left _ (List.mem_append_left _ hx)))
  have hdp : Dig pre := fun x hx => hd x (List.mem_append_left _ (List.mem_append_left _ hx))
  have hdq : Dig post := fun x hx => hd x (List.mem_append_right _ hx)
  have e2 : val (pre ++ os ++ post) = val pre + val os * 4294967296 ^ k := by
    rw [val_append, val_append, z, hk, Nat.mul_zero, Nat.add_zero, Nat.mul_comm]
  have hqB : q < 4294967296 := by
    rw [hqe, Nat.div_lt_iff_lt_mul hV, Nat.mul_comm]
    exact l
  obtain ⟨r1, r2⟩ := div_round (p := 4294967296 ^ k) (B := 4294967296) (U0 := X) (V := V) (Q := Q) (Lo := val pre) (W := val mid) (q := q) (U' := val (pre ++ os ++ post)) e hpre hV (by rw [hX, Nat.pow_succ]) hqe (by rw [e2, hoe])
  refine ⟨Below.only hb hg ((Only.refl gq _).set k _), ?_, pre ++ os ++ post, qs.set k q, q + 4294967296 * Q, ?_, ?_, dig_app (dig_app hdp hdo) hdq, hq.set k q x hx, by simpa using hql, dig_set hqd k hqB, r1, r2, ?_, fun j hj => ?_⟩
  · exact (Blk.only hvb hvq ((Only.refl gq _).set k _))
  · exact (Blk.only hu huq ((Only.refl gq _).set k _))
  · simp only [List.length_append] at hl ⊢; omega
  · have := val_put (ys := qs) (i := k) (d := q) (by omega)
    rw [hz k (by omega), Nat.mul_zero, Nat.add_zero, hqv, Nat.pow_succ] at this
    rw [this, Nat.add_mul, Nat.mul_comm (4294967296 ^ k) q]
    have : Q * (4294967296 ^ k * 4294967296) = 4294967296 * Q * 4294967296 ^ k := by
      rw [Nat.mul_comm (4294967296 ^ k), ← Nat.mul_assoc, Nat.mul_comm Q]
    omega
  · rw [dg_set_ne _ _ _ _ (by omega)]
    exact hz j (by omega)
end Go.Proofs.Ytgioppkggpfnoaa.Nu
end

section
/- The walk of limbs.moved. -/
set_option linter.unusedVariables false
namespace Go.Proofs.Ytgioppkggpfnoaa.Nu
open Go.RowKit Go.Proofs

theorem LeftRel.blk {xs : List Nat} {n r : Nat} {W w : World} {g : Nat} (h : LeftRel xs n 0 r W g n w) (hx : xs.length = n) : ∃ ys, Blk w g ys ∧ ys.length = n + 1 ∧ Dig ys ∧ val ys = val xs * 2 ^ r := by
  obtain ⟨⟨ys, hB, hl, hd, he, hy, h0⟩, hb⟩ := h
  refine ⟨ys, hB, hl, hd, ?_⟩
  rw [he, List.take_of_length_le (by omega), Nat.pow_zero, Nat.one_mul]
set_option maxHeartbeats 4000000 in
set_option maxRecDepth 100000 in
theorem moved_any (w : World) (A : Option Addr) (n c s : Nat) (xs : List Nat) (hx : RL w A n xs) (hc : n ≤ c) (hn : n ≤ 1000) (hs : s < 32) :
    Calls Try.prog 46 #[.slice A n c, .int .i64 s] w fun e w' => (∃ ys, e = .returned (.slice (some ⟨w.heap.size, 0, none⟩) (n + 1) (n + 1)) ∧ Blk w' w.heap.size ys ∧ ys.length = n + 1 ∧ Dig ys ∧ val ys = val xs * 2 ^ s) ∧ Below w.heap.size w w' := by
  have hnx := hx.1
  have HX := Lib.hid hx
  have HN := Lib.hid hnx
  have HD := Lib.hid hx.2.2.1
  clear hx hnx
  have E1 := Lib.hid (show ((n : Nat) : Int) + 1 = ((n + 1 : Nat) : Int) by omega)
  have z0 : ¬ (s : Int) < 0 := by omega
  go_enter Try.func46, Try.ntmps46
  go_wp2_with fail
  rw [E1.out, make_u32 (n + 1) (by omega)]
  simp only [Result.andThen]
  rw [Oper.upon_value]
  have H0 := Lib.hid (LeftRel.start xs n 0 s w w (Below.refl _ _))
  simp only [Nat.add_zero] at H0
  generalize w.alloc (.cells (mk0 (n + 1)) 64) = w0 at *
  go_wp2
  go_loopw [15] (fun k wr => ∃ i : Nat, k = .int .i64 i ∧ i ≤ n ∧ Hid (LeftRel xs n 0 s w w.heap.size i wr)) (fun k _ => n - (intOf k).toNat)
  case atStart => exact ⟨0, rfl, Nat.zero_le _, H0⟩
  case round =>
    obtain ⟨i, rfl, hi, Hr⟩ := hrel
    by_cases hi2 : i < n
    · obtain ⟨b1, o1, rfl, hl1, hc1⟩ := HX.out.2.2.2 (by omega)
      have hx1 := ((bcell Hr.out.bel).1 b1 (o1 + i) hl1).trans (hc1 i hi2)
      have d1 := dg_lt HD.out i
      obtain ⟨y, hy, c1, f1, ⟨v2, c2⟩, f2⟩ := Hr.out.cell hi2
      replace c1 : wr.cell? ⟨w.heap.size, i, none⟩ = some (.int .u32 y) := c1
      replace f1 : wr.frozen? ⟨w.heap.size, i, none⟩ = false := f1
      replace c2 : wr.cell? ⟨w.heap.size, i + 1, none⟩ = some v2 := c2
      replace f2 : wr.frozen? ⟨w.heap.size, i + 1, none⟩ = false := f2
      have q3 : (i : Int) < (n : Int) := by omega
      have q4 : (i : Int) < ((n + 1 : Nat) : Int) := by omega
      have q5 : i < n + 1 := by omega
      clear hc1
      obtain ⟨lo, hi, e1, e2, e3, e4, e5⟩ := left_word (dg xs i) s y d1 hs hy
      have HS : Hid (LeftRel xs n 0 s w w.heap.size (i + 1) ((wr.setCell ⟨w.heap.size, i, none⟩ (.int .u32 _)).setCell ⟨w.heap.size, i + 1, none⟩ (.int .u32 _))) := Lib.hid (Hr.out.step hi2 (Nat.le_refl _) hs c1 e3 e4 e5 _ _ e1 e2)
      clear e1 e2 e3 e4 e5
      go_wp2
      go_roundw
      case rel => exact ⟨i + 1, by go_num, hi2, HS⟩
      case measure => simp only [intOf]; omega
    · obtain rfl : i = n := by omega
      clear hi2
      have HB := Lib.hid (Hr.out.blk HN.out)
      have HW := Lib.hid Hr.out.bel
      clear Hr
      go_wp2
      go_ret
      obtain ⟨ys, h1, h2, h3, h4⟩ := HB.out
      exact ⟨⟨ys, rfl, h1, h2, h3, h4⟩, HW.out⟩
end Go.Proofs.Ytgioppkggpfnoaa.Nu
end
