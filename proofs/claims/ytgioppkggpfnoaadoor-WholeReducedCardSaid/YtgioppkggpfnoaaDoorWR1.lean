/- Texts of the seat, laid together: Num, Rep, Trim, Back, Compare, Sub, Mul, LeftP, Right, BlP, TailP, Add, Whole, WholeM, Left, WholeB, Shelf, Bits, Tail, WholeC, Clone, WholeD, WholeE, WholeF, WholeG, Dyad, DyadB, DyadC, PD, PS, Kit, PH. -/
import Derived.Test.YtgioppkggpfnoaaDoorProg
import Derived.Below
import Derived.OwnWalk
import Derived.WalkKit
import Derived.KernelRfl
import Derived.Outline
import Derived.LoopTactic
import Derived.Lib.Hide
import Derived.Lib.FrozenHead2
import Derived.Laws.Strings2
import Derived.Laws.Slices
import Derived.Laws.Rows
import Derived.Laws.MakeOwn
import Derived.OneCell
import Derived.Deep.QuietTactic
import Derived.BigQuiet
import Derived.RangeFuncNested
import Derived.RangeFuncBound
import Derived.RangeFuncCalls
import Derived.RangeFuncLeaves
import Derived.RangeFuncBox
import Derived.Shelf.Abstract
import Derived.Shelf.RegionOpen
import Derived.OwnWalkIn
import Derived.TacticsInMore
import Derived.LoopNIn
import Derived.LoopIn
import Derived.Laws.Bits64b
import Derived.Lib.ItoaNum
import Derived.SizedLaws
import Derived.Shelf.Small.Bits
import Derived.Ground.Names2Prog
import Derived.Lib.LaidTab
import Derived.Shelf.RegionOpenPlain
import Derived.Lib.SliceRun
import Derived.StillTailTactics
import Derived.Deep.RegionHeld3
set_option linter.all false
set_option exponentiation.threshold 20000
section
/- Numbers from 0 on and their digits to the base 2^32. Plain, no program in sight. -/
namespace Go.Proofs.YtgioppkggpfnoaaDoor.Nu

/-- The value of digits to the base 2^32, the lowest first. -/
def val : List Nat → Nat
  | [] => 0
  | x :: xs => x + 4294967296 * val xs

def Dig (xs : List Nat) : Prop := ∀ x ∈ xs, x < 4294967296

/-- The digits of a number, without noughts at the end. -/
def digs (n : Nat) : List Nat := if h : n = 0 then [] else n % 4294967296 :: digs (n / 4294967296)
termination_by n
decreasing_by omega

theorem digs_zero : digs 0 = [] := by rw [digs]; simp
theorem digs_pos {n : Nat} (h : n ≠ 0) : digs n = n % 4294967296 :: digs (n / 4294967296) := by
  conv => lhs; rw [digs]
  simp [h]

theorem val_digs (n : Nat) : val (digs n) = n := by
  induction n using Nat.strongRecOn with
  | ind n ih =>
    by_cases h : n = 0
    · subst h; simp [digs_zero, val]
    · rw [digs_pos h, val, ih _ (by omega)]; omega

theorem dig_digs (n : Nat) : Dig (digs n) := by
  induction n using Nat.strongRecOn with
  | ind n ih =>
    by_cases h : n = 0
    · subst h; simp [digs_zero, Dig]
    · rw [digs_pos h]
      intro x hx
      rcases List.mem_cons.1 hx with rfl | hx
      · omega
      · exact ih _ (by omega) x hx

theorem val_append (xs ys : List Nat) : val (xs ++ ys) = val xs + 4294967296 ^ xs.length * val ys := by
  induction xs with
  | nil => simp [val]
  | cons x xs ih => simp only [List.cons_append, val, ih, List.length_cons, Nat.pow_succ]; grind

theorem val_zeros (k : Nat) : val (List.replicate k 0) = 0 := by
  induction k with
  | zero => rfl
  | succ k ih => simp [List.replicate_succ, val, ih]

theorem val_lt {xs : List Nat} (h : Dig xs) : val xs < 4294967296 ^ xs.length := by
  induction xs with
  | nil => simp [val]
  | cons x xs ih =>
    have h1 := ih (fun y hy => h y (List.mem_cons_of_mem _ hy))
    have h2 := h x List.mem_cons_self
    simp only [val, List.length_cons, Nat.pow_succ]
    omega

/-- A list of digits that doesn't end in nought is what its value's digits are. -/
theorem digs_val {xs : List Nat} (h : Dig xs) (hl : ∀ y, xs.getLast? = some y → y ≠ 0) : digs (val xs) = xs := by
  induction xs with
  | nil => simp [val, digs_zero]
  | cons x xs ih =>
    have hx := h x List.mem_cons_self
    have hxs : Dig xs := fun y hy => h y (List.mem_cons_of_mem _ hy)
    have hv : val (x :: xs) ≠ 0 := by
      intro h0
      simp only [val] at h0
      have h1 : val xs = 0 := by omega
      have h2 : x = 0 := by omega
      cases xs with
      | nil => exact hl x (by simp) h2
      | cons z zs =>
        have := ih hxs (fun y hy => hl y (by simpa using hy))
        rw [h1, digs_zero] at this
        cases this
    rw [digs_pos hv]
    simp only [val] at hv ⊢
    have e1 : (x + 4294967296 * val xs) % 4294967296 = x := by omega
    have e2 : (x + 4294967296 * val xs) / 4294967296 = val xs := by omega
    rw [e1, e2]
    cases xs with
    | nil => simp [val, digs_zero]
    | cons z zs => rw [ih hxs (fun y hy => hl y (by simpa using hy))]

theorem digs_last (n : Nat) (y : Nat) (h : (digs n).getLast? = some y) : y ≠ 0 := by
  induction n using Nat.strongRecOn generalizing y with
  | ind n ih =>
    by_cases h0 : n = 0
    · subst h0; simp [digs_zero] at h
    · rw [digs_pos h0] at h
      by_cases h1 : n / 4294967296 = 0
      · rw [h1, digs_zero] at h
        simp at h
        omega
      · rw [digs_pos h1, List.getLast?_cons_cons, ← digs_pos h1] at h
        exact ih _ (by omega) y h

/-- Digits and noughts behind them. -/
theorem digs_trim {xs : List Nat} (h : Dig xs) : ∃ k, xs = digs (val xs) ++ List.replicate k 0 := by
  induction xs with
  | nil => exact ⟨0, by simp [val, digs_zero]⟩
  | cons x xs ih =>
    have hx := h x List.mem_cons_self
    obtain ⟨k, hk⟩ := ih (fun y hy => h y (List.mem_cons_of_mem _ hy))
    by_cases hv : val (x :: xs) = 0
    · refine ⟨k + 1, ?_⟩
      rw [hv, digs_zero]
      simp only [val] at hv
      have h1 : val xs = 0 := by omega
      have h2 : x = 0 := by omega
      rw [h1, digs_zero] at hk
      rw [hk, h2]; simp [List.replicate_succ]
    · refine ⟨k, ?_⟩
      rw [digs_pos hv]
      simp only [val] at hv ⊢
      have e1 : (x + 4294967296 * val xs) % 4294967296 = x := by omega
      have e2 : (x + 4294967296 * val xs) / 4294967296 = val xs := by omega
      rw [e1, e2, List.cons_append, ← hk]

theorem digs_len_le {n k : Nat} : (digs n).length ≤ k ↔ n < 4294967296 ^ k := by
  induction k generalizing n with
  | zero =>
    by_cases h : n = 0
    · subst h; simp [digs_zero]
    · rw [digs_pos h]; simp; omega
  | succ k ih =>
    by_cases h : n = 0
    · subst h; simp [digs_zero, Nat.pow_pos]
    · rw [digs_pos h, List.length_cons, Nat.succ_le_succ_iff, ih, Nat.pow_succ, Nat.div_lt_iff_lt_mul (by omega)]

theorem digs_eq_nil {n : Nat} : digs n = [] ↔ n = 0 := by
  constructor
  · intro h; have := val_digs n; rw [h] at this; simpa [val] using this.symm
  · rintro rfl; exact digs_zero

theorem digs_inj {m n : Nat} (h : digs m = digs n) : m = n := by
  rw [← val_digs m, ← val_digs n, h]

/-- The digit at a place. -/
def dg (xs : List Nat) (j : Nat) : Nat := xs.getD j 0
theorem dg_of {xs : List Nat} {j : Nat} (h : j < xs.length) : dg xs j = xs[j] := by simp [dg, h]
theorem dg_lt {xs : List Nat} (h : Dig xs) (j : Nat) : dg xs j < 4294967296 := by
  by_cases hj : j < xs.length
  · rw [dg_of hj]; exact h _ (List.getElem_mem hj)
  · simp [dg, List.getElem?_eq_none (Nat.le_of_not_lt hj)]
theorem take_snoc (xs : List Nat) (m : Nat) (h : m < xs.length) : xs.take (m + 1) = xs.take m ++ [dg xs m] := by
  rw [List.take_succ_eq_append_getElem h, dg_of h]
theorem val_take_succ (xs : List Nat) (m : Nat) (h : m < xs.length) : val (xs.take (m + 1)) = val (xs.take m) + 4294967296 ^ m * dg xs m := by
  rw [take_snoc xs m h, val_append, List.length_take, Nat.min_eq_left (Nat.le_of_lt h)]
  simp [val]
theorem dig_take {xs : List Nat} (h : Dig xs) (m : Nat) : Dig (xs.take m) := fun x hx => h x (List.mem_of_mem_take hx)
theorem digs_take {xs : List Nat} (h : Dig xs) (m : Nat) (hm : m ≤ xs.length) (hl : m = 0 ∨ dg xs (m - 1) ≠ 0) : digs (val (xs.take m)) = xs.take m := by
  apply digs_val (dig_take h m)
  intro y hy
  rcases hl with rfl | hl
  · simp at hy
  · by_cases h0 : m = 0
    · subst h0; simp at hy
    · obtain ⟨k, rfl⟩ : ∃ k, m = k + 1 := ⟨m - 1, by omega⟩
      rw [take_snoc xs k (by omega)] at hy
      simp at hy
      rw [← hy]; exact hl

theorem dg_set_same (ys : List Nat) (i d : Nat) (h : i < ys.length) : dg (ys.set i d) i = d := by simp [dg, h]
theorem dg_set_ne (ys : List Nat) (i j d : Nat) (h : i ≠ j) : dg (ys.set i d) j = dg ys j := by
  simp [dg, List.getElem?_set_ne h]
theorem take_set (ys : List Nat) (i d : Nat) : (ys.set i d).take i = ys.take i := by
  apply List.ext_getElem?
  intro j
  by_cases h : j < i
  · rw [List.getElem?_take_of_lt h, List.getElem?_take_of_lt h, List.getElem?_set_ne (by omega)]
  · rw [List.getElem?_eq_none (by simp; omega), List.getElem?_eq_none (by simp; omega)]
theorem val_set_take (ys : List Nat) (i d : Nat) (h : i < ys.length) : val ((ys.set i d).take (i + 1)) = val (ys.take i) + 4294967296 ^ i * d := by
  rw [val_take_succ _ _ (by simpa using h), take_set, dg_set_same _ _ _ h]
theorem dig_set {ys : List Nat} (h : Dig ys) (i : Nat) {d : Nat} (hd : d < 4294967296) : Dig (ys.set i d) := by
  intro x hx
  rcases List.mem_or_eq_of_mem_set hx with hx | rfl
  · exact h x hx
  · exact hd
theorem dig_zeros (n : Nat) : Dig (List.replicate n 0) := by
  intro x hx
  rw [List.eq_of_mem_replicate hx]; omega
theorem dg_zeros (n j : Nat) : dg (List.replicate n 0) j = 0 := by
  by_cases h : j < n <;> simp [dg, List.getElem?_replicate, h]
theorem dg_out {xs : List Nat} {j : Nat} (h : xs.length ≤ j) : dg xs j = 0 := by simp [dg, List.getElem?_eq_none h]
/-- One digit more: also behind the end, where the digits are noughts. -/
theorem val_take_next (xs : List Nat) (m : Nat) : val (xs.take (m + 1)) = val (xs.take m) + 4294967296 ^ m * dg xs m := by
  by_cases h : m < xs.length
  · exact val_take_succ xs m h
  · rw [dg_out (by omega), List.take_of_length_le (by omega), List.take_of_length_le (by omega)]; simp
/-- One round of an addition. -/
theorem add_step {v i cy a b x y : Nat} (h : v + cy * 4294967296 ^ i = a + b) :
    (v + 4294967296 ^ i * ((cy + x + y) % 4294967296)) + (cy + x + y) / 4294967296 * 4294967296 ^ (i + 1) = (a + 4294967296 ^ i * x) + (b + 4294967296 ^ i * y) := by
  have e := Nat.div_add_mod (cy + x + y) 4294967296
  rw [Nat.pow_succ]
  generalize 4294967296 ^ i = p at *
  generalize (cy + x + y) / 4294967296 = q at *
  generalize (cy + x + y) % 4294967296 = r at *
  have e2 : p * (4294967296 * q + r) = p * (cy + x + y) := by rw [e]
  have e3 : q * (p * 4294967296) = p * (4294967296 * q) := by rw [Nat.mul_comm q, Nat.mul_assoc]
  simp only [Nat.mul_add] at e2
  rw [e3]
  have e4 : cy * p = p * cy := Nat.mul_comm _ _
  omega
end Go.Proofs.YtgioppkggpfnoaaDoor.Nu
end

section
/- How numbers stand in memory, and the small laws of memory that all walks of this claim use. -/
set_option linter.unusedVariables false
namespace Go.Proofs.YtgioppkggpfnoaaDoor.Nu
open Go.RowKit Go.Proofs

theorem ret_int {k : IntKind} {a b : Int} (h : a = b) : Ending.returned (.int k a) = .returned (.int k b) := by rw [h]
theorem below_drewN {B : Nat} {w W : World} (h : Below B w W) (n : Nat) : Below B w (W.drewN n) := ⟨h.os, h.tape, h.output, h.size, h.block⟩
theorem alloc_top (W : World) (o : Obj) : (W.alloc o).heap[W.heap.size]? = some o := by show (W.heap.push _)[W.heap.size]? = _; simp
theorem bcell {W w1 : World} (hb : Below W.heap.size W w1) : (∀ b o, b < W.heap.size → w1.cell? ⟨b, o, none⟩ = W.cell? ⟨b, o, none⟩) ∧ (∀ b o, b < W.heap.size → w1.frozen? ⟨b, o, none⟩ = W.frozen? ⟨b, o, none⟩) :=
  ⟨fun b o h => hb.cell (p := ⟨b, o, none⟩) h, fun b o h => hb.frozen (p := ⟨b, o, none⟩) h⟩

/-- A row of digits that can be read (digits of whatever size below 2^32, noughts at the end too). -/
def RL (w : World) (A : Option Addr) (n : Nat) (xs : List Nat) : Prop :=
  xs.length = n ∧ n ≤ 140737488355328 ∧ Dig xs ∧ (0 < n → ∃ b off, A = some ⟨b, off, none⟩ ∧ b < w.heap.size ∧ ∀ j, j < n → w.cell? ⟨b, off + j, none⟩ = some (.int .u32 (dg xs j)))
/-- A number from 0 on, as api.Nat holds it. -/
def RN (w : World) (A : Option Addr) (n : Nat) (x : Nat) : Prop := RL w A n (digs x)

theorem RL.below {w w' : World} {A : Option Addr} {n : Nat} {xs : List Nat} (h : RL w A n xs) (hb : Below w.heap.size w w') : RL w' A n xs := by
  obtain ⟨h1, h2, hd, h3⟩ := h
  refine ⟨h1, h2, hd, fun h0 => ?_⟩
  obtain ⟨b, off, hA, hlt, hc⟩ := h3 h0
  exact ⟨b, off, hA, Nat.lt_of_lt_of_le hlt hb.size, fun j hj => (hb.cell (p := ⟨b, off + j, none⟩) hlt).trans (hc j hj)⟩
theorem RN.below {w w' : World} {A : Option Addr} {n x : Nat} (h : RN w A n x) (hb : Below w.heap.size w w') : RN w' A n x := RL.below h hb
theorem RL.nil (w : World) (A : Option Addr) : RL w A 0 [] := ⟨rfl, by omega, by simp [Dig], fun h => absurd h (by omega)⟩
theorem RN.zero (w : World) (A : Option Addr) : RN w A 0 0 := by unfold RN; rw [digs_zero]; exact RL.nil w A
theorem RL.take {w : World} {A : Option Addr} {n : Nat} {xs : List Nat} (h : RL w A n xs) (m : Nat) (hm : m ≤ n) : RL w A m (xs.take m) := by
  obtain ⟨h1, h2, hd, h3⟩ := h
  refine ⟨by simp; omega, by omega, dig_take hd m, fun h0 => ?_⟩
  obtain ⟨b, off, hA, hlt, hc⟩ := h3 (by omega)
  refine ⟨b, off, hA, hlt, fun j hj => ?_⟩
  rw [hc j (by omega)]
  simp [dg, List.getElem?_take, hj]
/-- Digits, cut behind their last one that isn't nought, are their value's digits. -/
theorem RL.trim {w : World} {A : Option Addr} {n : Nat} {xs : List Nat} (h : RL w A n xs) (m : Nat) (hm : m ≤ n) (hv : val (xs.take m) = val xs) (hl : m = 0 ∨ dg xs (m - 1) ≠ 0) : RN w A m (val xs) := by
  unfold RN
  rw [← hv, digs_take h.2.2.1 m (by rw [h.1]; exact hm) hl]
  exact h.take m hm

/-! ### A row of digits that the call makes and writes -/
def u32s (ys : List Nat) : Array Value := (ys.map fun (y : Nat) => Value.int .u32 (y : Int)).toArray
def Blk (w : World) (g : Nat) (ys : List Nat) : Prop := w.heap[g]? = some (.cells (u32s ys) 118 (0, 0))
theorem u32s_size (ys : List Nat) : (u32s ys).size = ys.length := by simp [u32s]
theorem u32s_get (ys : List Nat) (j : Nat) (h : j < ys.length) : (u32s ys)[j]? = some (.int .u32 (dg ys j)) := by simp [u32s, dg, h]
theorem u32s_set (ys : List Nat) (i d : Nat) (v : Int) (hv : v = (d : Int)) : (u32s ys).setIfInBounds i (.int .u32 v) = u32s (ys.set i d) := by
  subst hv
  simp [u32s, List.map_set]
theorem Blk.lt {w : World} {g : Nat} {ys : List Nat} (h : Blk w g ys) : g < w.heap.size := (Array.getElem?_eq_some_iff.1 h).1
theorem Blk.cell {w : World} {g : Nat} {ys : List Nat} (h : Blk w g ys) (j : Nat) (hj : j < ys.length) : w.cell? ⟨g, j, none⟩ = some (.int .u32 (dg ys j)) := by
  rw [Lib.cell_of_heap h, u32s_get ys j hj]
theorem Blk.free {w : World} {g : Nat} {ys : List Nat} (h : Blk w g ys) (j : Nat) : w.frozen? ⟨g, j, none⟩ = false := Lib.frozen_of_heap h j
theorem Blk.set {w : World} {g : Nat} {ys : List Nat} (h : Blk w g ys) (i d : Nat) (v : Int) (hv : v = (d : Int)) : Blk (w.setCell ⟨g, i, none⟩ (.int .u32 v)) g (ys.set i d) := by
  unfold Blk
  rw [heap_setCell_same w g i _ _ _ h, u32s_set ys i d v hv]
theorem Blk.alloc {w : World} {g : Nat} {ys : List Nat} (h : Blk w g ys) (o : Obj) : Blk (w.alloc o) g ys := by
  unfold Blk; rw [Lib.alloc_old _ _ _ h.lt]; exact h
theorem Blk.below {w w' : World} {g : Nat} {ys : List Nat} (h : Blk w g ys) (hb : Below w.heap.size w w') : Blk w' g ys := by
  unfold Blk; rw [hb.block g h.lt]; exact h
theorem Blk.read {w : World} {g : Nat} {ys : List Nat} (h : Blk w g ys) (hd : Dig ys) (hl : ys.length ≤ 140737488355328) : RL w (some ⟨g, 0, none⟩) ys.length ys :=
  ⟨rfl, hl, hd, fun _ => ⟨g, 0, rfl, h.lt, fun j hj => by rw [Nat.zero_add]; exact h.cell j hj⟩⟩
/-- A made row, all noughts: behind a plain name, so that the walk doesn't look into it. -/
def mk0 (n : Nat) : Array Value := u32s (List.replicate n 0)
theorem infoU32 : (Tryd.prog.info? 118).map (fun i => (i.zero, i.size, i.bytes)) = some (some (.int .u32 0), 1, 4) := by kernel_rfl
theorem made_u32 (n : Nat) : madeCells (Value.int .u32 0).cells n = mk0 n := by
  apply Array.ext
  · simp [mk0, u32s_size, size_madeCells]
  · intro i h1 h2
    have hi : i < n := by simpa [size_madeCells] using h1
    simp [madeCells, mk0, u32s, Value.cells, Nat.mod_one]
theorem make_u32 (n : Nat) (hn : n ≤ 1000000000) (w : World) : (Instr.makeSlice 23 (.int .i64 n) (.int .i64 n)).run Tryd.prog w = .ok (.slice (some ⟨w.heap.size, 0, none⟩) n n) (w.alloc (.cells (mk0 n) 118)) := by
  obtain ⟨i0, hi, hz0, hz1, hz2⟩ := info_parts infoU32
  have h := run_make (P := Tryd.prog) w 23 118 i0 (.int .u32 0) Tryd.underlying23 hi hz0 .i64 .i64 n n (by omega) (Int.le_refl _) (by rw [hz2]; omega) (by omega)
  simp only [Int.toNat_natCast, hz1, Nat.mul_one, made_u32] at h
  exact h
theorem Blk.made (w : World) (n : Nat) : Blk (w.alloc (.cells (mk0 n) 118)) w.heap.size (List.replicate n 0) := alloc_top w _
end Go.Proofs.YtgioppkggpfnoaaDoor.Nu
end

section
/- The walks of limbs.trim and limbs.fits. -/
set_option linter.unusedVariables false
namespace Go.Proofs.YtgioppkggpfnoaaDoor.Nu
open Go.RowKit Go.Proofs

set_option maxHeartbeats 2000000 in
theorem trim_any (w : World) (A : Option Addr) (n c : Nat) (xs : List Nat) (h : RL w A n xs) (hc : n ≤ c) :
    Calls Tryd.prog 72 #[.slice A n c] w fun e w' => ∃ m, e = .returned (.slice A m m) ∧ RN w A m (val xs) ∧ w' = w := by
  have hn := h.2.1
  have hl := h.1
  have H := Lib.hid h
  clear h
  by_cases h0 : n = 0
  · subst h0
    go_enter Tryd.func72, Tryd.ntmps72
    go_wp2
    go_loop [3] (fun a => a = .int .i64 0) (fun a => 0)
    case atStart => rfl
    case round =>
      subst hrel
      go_wp2
      go_ret
      exact ⟨0, rfl, H.out.trim 0 (Nat.le_refl _) (by rw [List.length_eq_zero_iff.1 hl]; rfl) (.inl rfl), rfl⟩
  · obtain ⟨b, off, rfl, hlt, hcell⟩ := H.out.2.2.2 (by omega)
    have Hl := Lib.hid hl
    have Hcell := Lib.hid hcell
    clear hcell hl
    go_enter Tryd.func72, Tryd.ntmps72
    go_wp2
    go_loop [3] (fun a => ∃ m : Nat, a = .int .i64 m ∧ m ≤ n ∧ val (xs.take m) = val xs) (fun a => (intOf a).toNat)
    case atStart => exact ⟨n, rfl, Nat.le_refl _, by rw [← Hl.out, List.take_length]⟩
    case round =>
      obtain ⟨m, rfl, hm, hv⟩ := hrel
      have Hv := Lib.hid hv
      clear hv
      by_cases hm0 : m = 0
      · subst hm0
        go_wp2
        go_ret
        exact ⟨0, rfl, H.out.trim 0 (by omega) Hv.out (.inl rfl), rfl⟩
      · have hm1 : 0 < m := by omega
        have hc1 := Hcell.out (m - 1) (by omega)
        by_cases hz : dg xs (m - 1) = 0
        · rw [hz] at hc1
          have Hz := Lib.hid hz
          clear hz
          go_wp2
          go_round
          case rel => exact ⟨m - 1, by go_num, by omega, by rw [← Hv.out]; conv => rhs; rw [show m = (m - 1) + 1 by omega, val_take_succ xs (m - 1) (by rw [Hl.out]; omega), Hz.out]; simp⟩
          case measure => simp [intOf]; omega
        · have hb : (((dg xs (m - 1) : Nat) : Int) == 0) = false := by rw [beq_eq_false_iff_ne]; omega
          have Hz := Lib.hid hz
          clear hz
          go_wp2
          go_ret
          exact ⟨m, rfl, H.out.trim m hm Hv.out (.inr Hz.out), rfl⟩

/-- The number has no more digits than may be. -/
def Fit (x : Nat) : Prop := (digs x).length ≤ 512
set_option maxHeartbeats 1000000 in
theorem fits_any (w : World) (A : Option Addr) (n c : Nat) (xs : List Nat) (h : RL w A n xs) (hc : n ≤ c) (hf : Fit (val xs)) :
    Calls Tryd.prog 74 #[.slice A n c] w fun e w' => ∃ m, e = .returned (.tuple #[.slice A m m, .int .i64 0]) ∧ RN w A m (val xs) ∧ w' = w := by
  have H := Lib.hid h
  have HF := Lib.hid hf
  clear h hf
  go_enter Tryd.func74, Tryd.ntmps74
  go_wp2_with fail
  refine (trim_any _ A n c xs H.out hc).mono ?_
  rintro e w' ⟨m, rfl, hm, rfl⟩
  have hm2 : m ≤ 512 := by have := hm.1; have h2 := HF.out; unfold Fit at h2; omega
  have hm3 : ¬ (512 : Int) < (m : Int) := by omega
  go_wp2
  go_ret2
  exact ⟨m, rfl, hm, rfl⟩
end Go.Proofs.YtgioppkggpfnoaaDoor.Nu
end

section
/- slices.Backward over a row of digits: its contract, as an iterator that reads memory between two rounds; what a comparison from the highest digit down says. -/
set_option linter.unusedVariables false
namespace Go.Proofs.YtgioppkggpfnoaaDoor.Nu
open Go.RowKit Go.Proofs Go.Shelf
attribute [local go_sem] Oper.semAt_some

/-- A place of the row. -/
abbrev Pl (len : Nat) := { j : Nat // j < len }
/-- What has come when k rounds are over: from the highest place down. -/
def Come (len k : Nat) (pre : List (Pl len)) : Prop := pre.map (·.1) = (List.range k).map fun j => len - 1 - j
theorem Come.len {len k : Nat} {pre : List (Pl len)} (h : Come len k pre) : pre.length = k := by
  have := congrArg List.length h
  simpa using this
theorem Come.succ {len k : Nat} {pre : List (Pl len)} (h : Come len k pre) (x : Pl len) (hx : x.1 = len - 1 - k) : Come len (k + 1) (pre ++ [x]) := by
  unfold Come at *
  rw [List.map_append, h, List.range_succ, List.map_append, List.map_singleton, List.map_singleton, hx]
theorem Come.mem {len k : Nat} {pre : List (Pl len)} (h : Come len k pre) {i : Nat} (hi : i < len) (hk : len ≤ i + k) : ∃ p ∈ pre, p.1 = i := by
  have : i ∈ pre.map (·.1) := by
    rw [h, List.mem_map]
    exact ⟨len - 1 - i, List.mem_range.2 (by omega), by omega⟩
  simpa using this
theorem Come.last {len k : Nat} {ini : List (Pl len)} {x : Pl len} (h : Come len k (ini ++ [x])) : ∃ m, k = m + 1 ∧ Come len m ini ∧ x.1 = len - 1 - m := by
  cases k with
  | zero => have := h.len; simp at this
  | succ m =>
    unfold Come at h
    rw [List.map_append, List.range_succ, List.map_append] at h
    obtain ⟨h1, h2⟩ := List.append_inj' h rfl
    exact ⟨m, rfl, h1, by simpa using h2⟩
theorem Come.nil (len : Nat) : Come len 0 [] := rfl

set_option maxRecDepth 100000 in
set_option maxHeartbeats 2000000 in
theorem back1_in (F : Fence) (n : Nat) (h7 : F.fn 143) (hro : F.round = none) (hn : 1 ≤ n) (l Bs n₀ b off len cap : Nat) (xs : List Nat) (hreach : len ≤ 140737488355328) (hb : b < n₀) (J Jx : List (Pl len) → World → Prop)
    (hY : ∀ pre x W, J pre W → pre.length < len → YieldAt F (n - 1) Tryd.prog l #[.int .i64 (x.1 : Int), .int .u32 (dg xs x.1 : Int)] W fun e W' =>
      (e = .returned (.bool true) ∧ J (pre ++ [x]) W' ∧ Below n₀ W W') ∨ (e = .returned (.bool false) ∧ Jx (pre ++ [x]) W'))
    (W : World) (hBs : W.cell? ⟨Bs, 0, none⟩ = some (.slice (some ⟨b, off, none⟩) len cap)) (hBs2 : Bs < n₀) (hc : ∀ j, j < len → W.cell? ⟨b, off + j, none⟩ = some (.int .u32 (dg xs j))) (h0 : J [] W) :
    CallsIn F n Tryd.prog 143 #[.func (.yield l) #[] #[], .pointer (some ⟨Bs, 0, none⟩)] W fun e W' => (∃ v, e = .returned v) ∧
      ((∃ ys, Come len len ys ∧ J ys W') ∨ (∃ pre, (∃ k, k ≤ len ∧ Come len k pre) ∧ Jx pre W')) := by
  refine callsIn_of_wp Tryd.func143 rfl h7 ?_ hro
  simp only [Tryd.ntmps143, List.size_toArray, List.length_cons, List.length_nil, Nat.reduceAdd, Nat.reduceSub, Array.replicate_succ, Array.replicate_zero, List.push_toArray, List.append_toArray, List.nil_append, List.cons_append]
  gi_wp2
  gi_loopw [3] (fun i wr => ∃ k : Nat, k ≤ len ∧ (∃ z : Int, i = .int .i64 z ∧ z = (len : Int) - 1 - (k : Int)) ∧ (∃ pre, Come len k pre ∧ J pre wr) ∧ Below n₀ W wr)
    (fun i _ => (intOf i + 1).toNat)
  case atStart => exact ⟨0, Nat.zero_le _, ⟨_, rfl, by omega⟩, ⟨[], Come.nil _, h0⟩, Below.refl _ _⟩
  case round =>
    obtain ⟨k, hk, ⟨z, rfl, hz⟩, ⟨pre, hpre, hJs⟩, hnx⟩ := hrel
    have hBx := (hnx.cell (p := ⟨Bs, 0, none⟩) hBs2).trans hBs
    by_cases hlt : k < len
    · obtain ⟨m, hm⟩ : ∃ m : Nat, m = len - 1 - k := ⟨_, rfl⟩
      obtain rfl : z = (m : Int) := by omega
      have hm2 : m < len := by omega
      have hcx : wr.cell? ⟨b, off + m, none⟩ = some (.int .u32 (dg xs m)) := (hnx.cell (p := ⟨b, off + m, none⟩) hb).trans (hc m hm2)
      obtain ⟨fn, tmps, assign, body, hy, hR⟩ := hY _ ⟨m, hm2⟩ wr hJs (by rw [hpre.len]; exact hlt)
      dsimp only at hy
      have Hm := Lib.hid hm
      have Hp := Lib.hid hpre
      have Hz := Lib.hid hz
      clear hm hz hpre
      gi_wp2
      refine hR.mono ?_
      rintro e W3 (⟨rfl, hJ3, hk3⟩ | ⟨rfl, hJx3⟩)
      · gi_wp2
        go_roundw
        case rel => exact ⟨k + 1, by omega, ⟨_, rfl, by have := Hz.out; omega⟩, ⟨_, Hp.out.succ ⟨m, hm2⟩ Hm.out, hJ3⟩, hnx.trans hk3⟩
        case measure => simp [intOf]
      · gi_wp2
        refine bodyPost_ret (results_none rfl _ _ _) rfl ?_
        exact ⟨⟨_, rfl⟩, .inr ⟨_, ⟨k + 1, by omega, Hp.out.succ ⟨m, hm2⟩ Hm.out⟩, hJx3⟩⟩
    · obtain rfl : k = len := by omega
      have hz2 : z < 0 := by omega
      have hz3 : ¬ (0 : Int) ≤ z := by omega
      clear hz
      gi_wp2
      go_end0
      exact ⟨⟨_, rfl⟩, .inl ⟨_, hpre, hJs⟩⟩

set_option maxRecDepth 100000 in
set_option maxHeartbeats 2000000 in
theorem back1_none_in (F : Fence) (n : Nat) (h7 : F.fn 143) (hro : F.round = none) (l Bs cap : Nat) (A : Option Addr) {len : Nat} (J : List (Pl len) → World → Prop) (W : World) (hBs : W.cell? ⟨Bs, 0, none⟩ = some (.slice A 0 cap)) (h0 : J [] W) :
    CallsIn F n Tryd.prog 143 #[.func (.yield l) #[] #[], .pointer (some ⟨Bs, 0, none⟩)] W fun e W' => (∃ v, e = .returned v) ∧ J [] W' := by
  refine callsIn_of_wp Tryd.func143 rfl h7 ?_ hro
  simp only [Tryd.ntmps143, List.size_toArray, List.length_cons, List.length_nil, Nat.reduceAdd, Nat.reduceSub, Array.replicate_succ, Array.replicate_zero, List.push_toArray, List.append_toArray, List.nil_append, List.cons_append]
  gi_wp2
  gi_loopw [3] (fun i wr => i = .int .i64 (-1) ∧ J [] wr) (fun _ _ => 0)
  case atStart => exact ⟨rfl, h0⟩
  case round =>
    obtain ⟨rfl, hJs⟩ := hrel
    gi_wp2
    go_end0
    exact ⟨⟨_, rfl⟩, hJs⟩

set_option maxHeartbeats 1000000 in
theorem back_in (F : Fence) (n : Nat) (h5 : F.fn 84) (hro : F.round = none) (a : Option Addr) (len cap : Nat) (w : World) :
    CallsIn F n Tryd.prog 84 #[.slice a len cap] w fun e w' => e = .returned (.func (.func 143) #[] #[.pointer (some ⟨w.heap.size, 0, none⟩)]) ∧ w' = w.alloc (.cells #[.slice a len cap] 23) := by
  refine callsIn_of_wp Tryd.func84 rfl h5 ?_ hro
  simp only [Tryd.ntmps84, List.size_toArray, List.length_cons, List.length_nil, Nat.reduceAdd, Nat.reduceSub, Array.replicate_succ, Array.replicate_zero, List.push_toArray, List.append_toArray, List.nil_append, List.cons_append]
  gi_wp2
  go_ret
  exact ⟨rfl, rfl⟩

theorem back_stops (F : Fence) (n : Nat) (h7 : F.fn 143) (hro : F.round = none) (hn : 1 ≤ n) (Bs n₀ : Nat) (A : Option Addr) (len cap : Nat) (xs : List Nat) (w : World) (hBs : Bs < n₀) (hn₀ : n₀ ≤ w.heap.size)
    (hc : w.cell? ⟨Bs, 0, none⟩ = some (.slice A len cap)) (hI : RL w A len xs) (hA : ∀ a, A = some a → 0 < len → a.block < n₀) :
    SeqStopsK F n Tryd.prog 143 #[.pointer (some ⟨Bs, 0, none⟩)] (fun x : Pl len => #[Value.int .i64 (x.1 : Int), Value.int .u32 (dg xs x.1 : Int)]) (Below n₀) (fun ys => Come len len ys)
      (fun pre => ∃ k, k ≤ len ∧ Come len k pre) len w := fun l J Jx W hW _ _ hY h0 => by
  have hc' := (hW.cell (p := ⟨Bs, 0, none⟩) (show Bs < w.heap.size by omega)).trans hc
  by_cases h : len = 0
  · subst h
    exact (back1_none_in F n h7 hro l Bs cap A J W hc' h0).mono fun e W' ⟨he, hj⟩ => ⟨he, .inl ⟨_, Come.nil _, hj⟩⟩
  · obtain ⟨b, off, rfl, hb, hcs⟩ := hI.2.2.2 (by omega)
    have hb2 : b < n₀ := hA _ rfl (by omega)
    exact back1_in F n h7 hro hn l Bs n₀ b off len cap xs hI.2.1 hb2 J Jx hY W hc' hBs (fun j hj => (hW.cell (p := ⟨b, off + j, none⟩) hb).trans (hcs j hj)) h0

/-! ### a comparison from the highest digit down -/
theorem top_lt {xs zs : List Nat} (hx : Dig xs) {j : Nat} (hj : j < xs.length) (he : ∀ i, j < i → dg xs i = dg zs i) (hl : dg xs j < dg zs j) (m : Nat) (hm : j < m) : val (xs.take m) < val (zs.take m) := by
  induction m with
  | zero => omega
  | succ m ih =>
    rw [val_take_next, val_take_next]
    by_cases h : j = m
    · subst h
      have h1 : val (xs.take j) < 4294967296 ^ j := by
        have := val_lt (dig_take hx j)
        rwa [List.length_take, Nat.min_eq_left (by omega)] at this
      have h2 : 4294967296 ^ j * (dg xs j + 1) ≤ 4294967296 ^ j * dg zs j := Nat.mul_le_mul_left _ hl
      rw [Nat.mul_add] at h2
      omega
    · have := ih (by omega)
      rw [he m (by omega)]
      omega
theorem top_eq {xs zs : List Nat} (he : ∀ i, dg xs i = dg zs i) (m : Nat) : val (xs.take m) = val (zs.take m) := by
  induction m with
  | zero => rfl
  | succ m ih => rw [val_take_next, val_take_next, ih, he m]
theorem len_lt {x z : Nat} (h : (digs x).length < (digs z).length) : x < z := by
  have h1 := (digs_len_le (n := x)).1 (Nat.le_refl _)
  have h2 : ¬ z < 4294967296 ^ (digs x).length := fun h3 => by
    have := digs_len_le.2 h3
    omega
  omega
end Go.Proofs.YtgioppkggpfnoaaDoor.Nu
end

section
/- The walk of limbs.Compare. -/
set_option linter.unusedVariables false
namespace Go.Proofs.YtgioppkggpfnoaaDoor.Nu
open Go.RowKit Go.Proofs Go.Shelf
attribute [local go_sem] Oper.semAt_some

/-- -1, 0 or 1. -/
def cmp (x z : Nat) : Int := if x < z then -1 else if z < x then 1 else 0
theorem cmp_lt {x z : Nat} (h : x < z) : cmp x z = -1 := by simp [cmp, h]
theorem cmp_gt {x z : Nat} (h : z < x) : cmp x z = 1 := by simp [cmp, h, Nat.lt_asymm h]
theorem cmp_eq {x z : Nat} (h : x = z) : cmp x z = 0 := by simp [cmp, h]

/-- What the comparison has found out so far: the digits that have come are the other one's. -/
def Same (xs zs : List Nat) {len : Nat} (pre : List (Pl len)) : Prop := ∀ p ∈ pre, dg xs p.1 = dg zs p.1
def Found (xs zs : List Nat) {len : Nat} (pre : List (Pl len)) (r : Int) : Prop := ∃ ini last, pre = ini ++ [last] ∧ Same xs zs ini ∧ ((dg xs last.1 < dg zs last.1 ∧ r = -1) ∨ (dg zs last.1 < dg xs last.1 ∧ r = 1))
theorem cmp_same {xs zs : List Nat} {len : Nat} {ys : List (Pl len)} (h1 : xs.length = len) (h2 : zs.length = len) (hc : Come len len ys) (hs : Same xs zs ys) : cmp (val xs) (val zs) = 0 := by
  have he : ∀ i, dg xs i = dg zs i := fun i => by
    by_cases hi : i < len
    · obtain ⟨p, hp, rfl⟩ := hc.mem hi (by omega)
      exact hs p hp
    · rw [dg_out (by omega), dg_out (by omega)]
  have := top_eq he len
  rw [List.take_of_length_le (by omega), List.take_of_length_le (by omega)] at this
  exact cmp_eq this
theorem cmp_found {xs zs : List Nat} {len k : Nat} {pre : List (Pl len)} {r : Int} (hx : Dig xs) (hz : Dig zs) (h1 : xs.length = len) (h2 : zs.length = len) (hc : Come len k pre) (hf : Found xs zs pre r) : cmp (val xs) (val zs) = r := by
  obtain ⟨ini, x, rfl, hs, h⟩ := hf
  obtain ⟨m, rfl, hc1, hx1⟩ := hc.last
  have hx2 := x.2
  have he : ∀ i, x.1 < i → dg xs i = dg zs i := fun i hi0 => by
    by_cases hi : i < len
    · obtain ⟨p, hp, rfl⟩ := hc1.mem hi (by omega)
      exact hs p hp
    · rw [dg_out (by omega), dg_out (by omega)]
  rcases h with ⟨h, rfl⟩ | ⟨h, rfl⟩
  · have := top_lt hx (by omega) he h len x.2
    rw [List.take_of_length_le (by omega), List.take_of_length_le (by omega)] at this
    exact cmp_lt this
  · have := top_lt hz (by omega) (fun i hi => (he i hi).symm) h len x.2
    rw [List.take_of_length_le (by omega), List.take_of_length_le (by omega)] at this
    exact cmp_gt this

set_option maxRecDepth 100000 in
set_option maxHeartbeats 4000000 in
theorem compare_in (F : Fence) (n : Nat) (h4 : F.fn 22) (h6 : F.fn 84) (h8 : F.fn 143) (hro : F.round = none) (hn : 3 ≤ n) (A B : Option Addr) (len c d : Nat) (xs zs : List Nat) (w : World) (hI : RL w A len xs) (hZ : RL w B len zs) :
    CallsIn F n Tryd.prog 22 #[.slice A len c, .slice B len d] w fun e W' => e = .returned (.int .i64 (cmp (val xs) (val zs))) ∧ Below w.heap.size w W' := by
  have h1 : 1 ≤ n := by omega
  refine callsIn_of_wp_marks Tryd.func22 rfl h4 ?_ hro
  simp only [Tryd.ntmps22, List.size_toArray, List.length_cons, List.length_nil, Nat.reduceAdd, Nat.reduceSub, Array.replicate_succ, Array.replicate_zero, List.push_toArray, List.append_toArray, List.nil_append, List.cons_append]
  gi_wp2_with (gi_at_call 84; refine (back_in F (n - 1) h6 hro _ _ _ _).mono ?_; rintro e w' ⟨rfl, rfl⟩)
  have bZ := Boxed.new w 23 (.slice B len d)
  have bR := Boxed.new (w.alloc (.cells #[.slice B len d] 23)) 3 (.int .i64 0)
  have bN := Boxed.new ((w.alloc (.cells #[.slice B len d] 23)).alloc (.cells #[.int .i64 0] 3)) 23 (.slice A len c)
  rw [World.size_alloc] at bR
  rw [World.size_alloc, World.size_alloc] at bN
  have hB0 : Below w.heap.size w (((w.alloc (.cells #[.slice B len d] 23)).alloc (.cells #[.int .i64 0] 3)).alloc (.cells #[.slice A len c] 23)) := (((Below.refl _ w).alloc (Nat.le_refl _) _).alloc (by simp) _).alloc (by simp; omega) _
  have hA : ∀ a, A = some a → 0 < len → a.block < w.heap.size + 1 + 1 + 1 := fun a ha hl => by
    obtain ⟨b1, o1, rfl, hl1, _⟩ := hI.2.2.2 hl
    cases ha
    simp; omega
  refine wpIn_rangeFunc_ownG hro h1 (gf := 143) (lb := #[.pointer (some ⟨w.heap.size + 1 + 1, 0, none⟩)]) rfl h8 (enters_of Tryd.func143 (by kernel_rfl) rfl)
    (back_stops F (n - 1) h8 hro (by omega) (w.heap.size + 1 + 1) (w.heap.size + 1 + 1 + 1) A len c xs _ (by omega) (by simp) bN.cell (hI.below hB0) hA) belowK_t (belowK_b (by simp)) (Below.refl _ _) (fun _ => rfl)
    (fun pre W => (Same xs zs pre ∧ W.cell? ⟨w.heap.size, 0, none⟩ = some (.slice B len d) ∧ W.cell? ⟨w.heap.size + 1, 0, none⟩ = some (.int .i64 0) ∧ W.frozen? ⟨w.heap.size + 1, 0, none⟩ = false) ∧ Below w.heap.size w W)
    (fun c pre W => (c = .ret ∧ ∃ r, Found xs zs pre r ∧ W.cell? ⟨w.heap.size + 1, 0, none⟩ = some (.int .i64 r)) ∧ Below w.heap.size w W)
    (OwnFrom.and (Own.from (fun s A B row hs hg hr => ⟨hs.1, cell_kept hs.2.1 hg hr, cell_kept hs.2.2.1 hg hr, (frozen_kept hs.2.2.1 hg hr).trans hs.2.2.2⟩) _) (ownFrom_below (Nat.le_refl _) (by simp; omega)))
    (fun c => OwnFrom.and (Own.from (fun s A B row hs hg hr => by obtain ⟨hc, r, e1, e2⟩ := hs; exact ⟨hc, r, e1, cell_kept e2 hg hr⟩) _) (ownFrom_below (Nat.le_refl _) (by simp; omega)))
    ⟨⟨fun p hp => by simp at hp, ((bZ.alloc _).alloc _).cell, (bR.alloc _).cell, (bR.alloc _).frozen⟩, hB0⟩
    (fun x => { tmps := #[.slice A len c, .slice B len d, undef, .pointer (some ⟨w.heap.size, 0, none⟩), .pointer (some ⟨w.heap.size + 1, 0, none⟩), .int .i64 (x.1 : Int), .int .u32 (dg xs x.1 : Int), .slice A len c, .int .i64 len, .slice B len d, .int .i64 len, .bool false, undef, undef, undef, undef, undef, .slice A len c, .func (.func 143) #[] #[.pointer (some ⟨w.heap.size + 1 + 1, 0, none⟩)], .int .i64 (x.1 : Int), .int .u32 (dg xs x.1 : Int), undef, undef, undef, undef, undef, undef, undef, undef, undef, undef, undef, undef, undef, undef], defers := [] }) ?assign ?body ?done ?stop
  case assign =>
    intro l x W K hK
    gi_wp2
    exact hK
  case body =>
    rintro l pre x W ⟨⟨hp, hcz, hcr, hfr⟩, hB⟩ _
    obtain ⟨i, hi⟩ := x
    obtain ⟨b2, o2, rfl, hl2, hc2⟩ := hZ.2.2.2 (by omega)
    have hx2 := ((bcell hB).1 b2 (o2 + i) hl2).trans (hc2 i hi)
    clear hc2
    have Hp := Lib.hid hp
    clear hp
    by_cases hlt : dg xs i < dg zs i
    · have q : (dg xs i : Int) < (dg zs i : Int) := by omega
      gi_wp2
      exact ⟨(KeepsOthers.setCell _ _ _).from _, ⟨rfl, -1, ⟨pre, ⟨i, hi⟩, rfl, Hp.out, .inl ⟨hlt, rfl⟩⟩, World.cell?_setCell_same' _ _ _ (by rw [hcr]; rfl)⟩, hB.setCell (p := ⟨w.heap.size + 1, 0, none⟩) (by simp) _⟩
    · by_cases hgt : dg zs i < dg xs i
      · have q : ¬ (dg xs i : Int) < (dg zs i : Int) := by omega
        have q2 : (dg zs i : Int) < (dg xs i : Int) := by omega
        gi_wp2
        exact ⟨(KeepsOthers.setCell _ _ _).from _, ⟨rfl, 1, ⟨pre, ⟨i, hi⟩, rfl, Hp.out, .inr ⟨hgt, rfl⟩⟩, World.cell?_setCell_same' _ _ _ (by rw [hcr]; rfl)⟩, hB.setCell (p := ⟨w.heap.size + 1, 0, none⟩) (by simp) _⟩
      · have q : ¬ (dg xs i : Int) < (dg zs i : Int) := by omega
        have q2 : ¬ (dg zs i : Int) < (dg xs i : Int) := by omega
        have Hq := Lib.hid (show dg xs i = dg zs i by omega)
        gi_wp2
        exact ⟨KeepsFrom.refl _ _, Below.refl _ _, ⟨fun p hp' => (List.mem_append.1 hp').elim (Hp.out p) (fun e => by simp at e; subst e; exact Hq.out), hcz, hcr, hfr⟩, hB⟩
  case done =>
    rintro D ys W hD hys ⟨⟨hne, hcz, hcr, hfr⟩, hB⟩ hK
    have Hr := Lib.hid (cmp_same hI.1 hZ.1 hys hne)
    clear hne hys
    gi_wp2
    have hK' := (KeepsOthers.setCell W ⟨w.heap.size + 1, 0, none⟩ (.int .i64 0)).same D _ hK rfl
    refine ⟨by simp, .inl ⟨_, _, rfl, run_takeDeferred hK', ?_⟩⟩
    have hc5 := cell_kept (World.cell?_setCell_same' W ⟨w.heap.size + 1, 0, none⟩ (.int .i64 0) (by rw [hcr]; rfl)) (grownBy_putObj' _ D (.deferred none)) (fun r e => by cases e; exact ⟨_, hK', rfl⟩)
    refine ⟨.int .i64 0, ?_, by rw [Hr.out], (hB.setCell (p := ⟨w.heap.size + 1, 0, none⟩) (by simp) _).trans (belowK_b (w := w) (Nat.le_refl _) _ D _ _ (by simp at hD; omega) hK' rfl rfl)⟩
    simp [results, Tryd.f22, go_sem, hc5]
  case stop =>
    rintro D c pre W hD ⟨k, hk, hpre⟩ ⟨⟨rfl, r, hfo, hcr⟩, hB⟩ hK
    have Hr := Lib.hid (cmp_found hI.2.2.1 hZ.2.2.1 hI.1 hZ.1 hpre hfo)
    clear hfo hpre
    gi_wp2
    refine ⟨by simp, .inl ⟨_, _, rfl, run_takeDeferred hK, ?_⟩⟩
    have hc5 := cell_kept hcr (grownBy_putObj' _ D (.deferred none)) (fun r e => by cases e; exact ⟨_, hK, rfl⟩)
    refine ⟨.int .i64 r, ?_, by rw [Hr.out], hB.trans (belowK_b (w := w) (Nat.le_refl _) W D _ _ (by simp at hD; omega) hK rfl rfl)⟩
    simp [results, Tryd.f22, go_sem, hc5]

set_option maxRecDepth 100000 in
set_option maxHeartbeats 4000000 in
theorem compare_any (w : World) (A B : Option Addr) (n m c d x z : Nat) (hx : RN w A n x) (hz : RN w B m z) :
    Calls Tryd.prog 22 #[.slice A n c, .slice B m d] w fun e w' => e = .returned (.int .i64 (cmp x z)) ∧ Below w.heap.size w w' := by
  by_cases he : n = m
  · subst he
    have h := callsIn_wide.1 (compare_in Fence.wide 9 trivial trivial trivial rfl (by omega) A B n c d (digs x) (digs z) w hx hz)
    rw [val_digs, val_digs] at h
    exact h
  · have h1 := hx.1
    have h2 := hz.1
    have q0 : ((n : Int) == (m : Int)) = false := by rw [beq_eq_false_iff_ne]; omega
    by_cases hlt : n < m
    · have hl := Lib.hid (len_lt (x := x) (z := z) (by omega))
      have q1 : (n : Int) < (m : Int) := by omega
      clear h1 h2 hx hz
      go_enter Tryd.func22, Tryd.ntmps22
      go_wp2
      refine bodyPost_ret (v := .int .i64 (-1)) (by simp [results, Tryd.f22, go_sem]) rfl ?_
      exact ⟨ret_int (cmp_lt hl.out).symm, ((Below.refl _ w).alloc (Nat.le_refl _) _).alloc (by simp) _⟩
    · have hl := Lib.hid (len_lt (x := z) (z := x) (by omega))
      have q1 : ¬ (n : Int) < (m : Int) := by omega
      clear h1 h2 hx hz
      go_enter Tryd.func22, Tryd.ntmps22
      go_wp2
      refine bodyPost_ret (v := .int .i64 1) (by simp [results, Tryd.f22, go_sem]) rfl ?_
      exact ⟨ret_int (cmp_gt hl.out).symm, ((Below.refl _ w).alloc (Nat.le_refl _) _).alloc (by simp) _⟩
end Go.Proofs.YtgioppkggpfnoaaDoor.Nu
end

section
/- The walk of limbs.Sub. -/
set_option linter.unusedVariables false
namespace Go.Proofs.YtgioppkggpfnoaaDoor.Nu
open Go.RowKit Go.Proofs

theorem digs_mono {x z : Nat} (h : z ≤ x) : (digs z).length ≤ (digs x).length := by
  have h1 := (digs_len_le (n := x)).1 (Nat.le_refl _)
  exact digs_len_le.2 (by omega)
theorem cmp_nonneg {x z : Nat} (h : z ≤ x) : ¬ cmp x z < 0 := by
  unfold cmp
  split
  · omega
  · split <;> omega
theorem sub_step {v i ow a b x y o ow' : Nat} (h : v + b = a + ow * 4294967296 ^ i) (ho : o + ow + y = x + ow' * 4294967296) :
    (v + 4294967296 ^ i * o) + (b + 4294967296 ^ i * y) = (a + 4294967296 ^ i * x) + ow' * 4294967296 ^ (i + 1) := by
  rw [Nat.pow_succ]
  generalize 4294967296 ^ i = p at *
  have e2 : p * (o + ow + y) = p * (x + ow' * 4294967296) := by rw [ho]
  simp only [Nat.mul_add] at e2
  have e3 : ow' * (p * 4294967296) = p * (ow' * 4294967296) := by rw [Nat.mul_left_comm]
  have e4 : ow * p = p * ow := Nat.mul_comm _ _
  rw [e3]
  omega
/-- What a round of the subtraction keeps. -/
structure SubRel (xs zs : List Nat) (n : Nat) (W : World) (g : Nat) (i : Nat) (ow : Nat) (w : World) : Prop where
  ex : ∃ ys, Blk w g ys ∧ ys.length = n ∧ Dig ys ∧ val (ys.take i) + val (zs.take i) = val (xs.take i) + ow * 4294967296 ^ i
  ow : ow ≤ 1
  bel : Below W.heap.size W w
theorem SubRel.start (xs zs : List Nat) (n : Nat) (w W : World) (hb : Below W.heap.size W w) : SubRel xs zs n W w.heap.size 0 0 (w.alloc (.cells (mk0 n) 118)) :=
  ⟨⟨_, Blk.made w n, by simp, dig_zeros _, by simp [val]⟩, by omega, hb.alloc hb.size _⟩
theorem SubRel.step {xs zs : List Nat} {n : Nat} {W w : World} {g i ow : Nat} (h : SubRel xs zs n W g i ow w) (hg : W.heap.size ≤ g) (hi : i < n) (o ow' : Nat) (ho : o + ow + dg zs i = dg xs i + ow' * 4294967296) (h1 : ow' ≤ 1) (ho2 : o < 4294967296) (v : Int) (hv : v = (o : Int)) :
    SubRel xs zs n W g (i + 1) ow' (w.setCell ⟨g, i, none⟩ (.int .u32 v)) := by
  obtain ⟨⟨ys, hB, hl, hd, he⟩, hcy, hb⟩ := h
  refine ⟨⟨_, hB.set i o v hv, by simpa using hl, dig_set hd i ho2, ?_⟩, h1, hb.setCell hg _⟩
  rw [val_set_take ys i _ (by omega), val_take_next, val_take_next]
  exact sub_step he ho
theorem SubRel.stop {xs zs : List Nat} {n : Nat} {W w : World} {g ow : Nat} (h : SubRel xs zs n W g n ow w) (hx : xs.length = n) (hz : zs.length ≤ n) (hn : n ≤ 140737488355328) (hle : val zs ≤ val xs) :
    ∃ ys, RL w (some ⟨g, 0, none⟩) n ys ∧ val ys = val xs - val zs := by
  obtain ⟨⟨ys, hB, hl, hd, he⟩, hcy, hb⟩ := h
  have hr := hB.read hd (by omega)
  rw [hl] at hr
  refine ⟨_, hr, ?_⟩
  rw [List.take_of_length_le (by omega), List.take_of_length_le (by omega), List.take_of_length_le (by omega)] at he
  have hlt := val_lt hd
  rw [hl] at hlt
  have : ow = 0 := by
    false_or_by_contra
    have : ow = 1 := by omega
    subst this
    omega
  subst this
  omega
theorem SubRel.cell {xs zs : List Nat} {n : Nat} {W w : World} {g i ow : Nat} (h : SubRel xs zs n W g i ow w) (j : Nat) (hj : j < n) : (∃ v, w.cell? ⟨g, j, none⟩ = some v) ∧ w.frozen? ⟨g, j, none⟩ = false := by
  obtain ⟨⟨ys, hB, hl, hd, he⟩, hcy, hb⟩ := h
  exact ⟨⟨_, hB.cell j (by omega)⟩, hB.free j⟩

theorem wrap_u64 (a : Int) : IntKind.u64.wrap a = a % 18446744073709551616 := by simp [IntKind.wrap, IntKind.signed, IntKind.bits]
theorem sub_word (x t : Int) (h0 : 0 ≤ x) (h1 : x < 4294967296) (h2 : 0 ≤ t) (h3 : t ≤ 4294967296) :
    ∃ o ow : Nat, IntKind.u64.wrap (x - t) / 9223372036854775808 = (ow : Int) ∧ IntKind.u64.wrap (x - t) % 4294967296 = (o : Int) ∧ (o : Int) + t = x + (ow : Int) * 4294967296 ∧ ow ≤ 1 ∧ o < 4294967296 := by
  rw [wrap_u64]
  by_cases h : t ≤ x
  · exact ⟨(x - t).toNat, 0, by omega, by omega, by omega, by omega, by omega⟩
  · exact ⟨(x - t + 4294967296).toNat, 1, by omega, by omega, by omega, by omega, by omega⟩
set_option maxHeartbeats 4000000 in
set_option maxRecDepth 100000 in
theorem sub_any (w : World) (A B : Option Addr) (n m c d x z : Nat) (hx : RN w A n x) (hz : RN w B m z) (hc : n ≤ c) (hd : m ≤ d) (hn : n ≤ 512) (hle : z ≤ x) :
    Calls Tryd.prog 152 #[.slice A n c, .slice B m d] w fun e w' => ∃ A' k, e = .returned (.tuple #[.slice A' k k, .int .i64 0]) ∧ RN w' A' k (x - z) ∧ Below w.heap.size w w' := by
  have hnx := hx.1
  have hmz := hz.1
  have hmn : m ≤ n := by have := digs_mono hle; omega
  have hcmp := cmp_nonneg hle
  have HLE := Lib.hid hle
  have HX := Lib.hid hx
  have HZ := Lib.hid hz
  have HN := Lib.hid hnx
  have HM := Lib.hid hmz
  clear hx hz hnx hmz hle
  go_enter Tryd.func152, Tryd.ntmps152
  go_wp2_with fail
  refine (compare_any _ A B n m c d x z HX.out HZ.out).mono ?_
  rintro e w1 ⟨rfl, hB1⟩
  generalize cmp x z = t at *
  go_wp2_with fail
  rw [make_u32 n (by omega)]
  simp only [Result.andThen]
  rw [Oper.upon_value]
  have H0 := Lib.hid (SubRel.start (digs x) (digs z) n w1 w hB1)
  have hle1 := hB1.size
  obtain ⟨g, hg⟩ : ∃ g, g = w1.heap.size := ⟨_, rfl⟩
  rw [← hg] at H0 hle1 ⊢
  clear hg
  generalize w1.alloc (.cells (mk0 n) 118) = w0 at *
  go_wp2
  go_loopw [7, 21] (fun c k wr => ∃ ow i : Nat, c = .int .u64 ow ∧ k = .int .i64 i ∧ i ≤ n ∧ Hid (SubRel (digs x) (digs z) n w g i ow wr)) (fun _ k _ => n - (intOf k).toNat)
  case atStart => exact ⟨0, 0, rfl, rfl, Nat.zero_le _, H0⟩
  case round =>
    obtain ⟨ow, i, rfl, rfl, hi, Hr⟩ := hrel
    by_cases hi2 : i < n
    · obtain ⟨b1, o1, rfl, hl1, hc1⟩ := HX.out.2.2.2 (by omega)
      have hx1 := ((bcell Hr.out.bel).1 b1 (o1 + i) hl1).trans (hc1 i hi2)
      have d1 := dg_lt (dig_digs x) i
      have d2 := dg_lt (dig_digs z) i
      have hcy := Hr.out.ow
      obtain ⟨⟨v0, hv0⟩, hf0⟩ := Hr.out.cell i hi2
      have q1 : (i : Int) < (n : Int) := by omega
      by_cases hi3 : i < m
      · obtain ⟨b2, o2, rfl, hl2, hc2⟩ := HZ.out.2.2.2 (by omega)
        have hx2 := ((bcell Hr.out.bel).1 b2 (o2 + i) hl2).trans (hc2 i hi3)
        clear hc1 hc2
        have q2 : (i : Int) < (m : Int) := by omega
        obtain ⟨o, ow2, e1, e2, e3, e4, e5⟩ := sub_word (dg (digs x) i : Int) ((ow : Int) + (dg (digs z) i : Int)) (by omega) (by omega) (by omega) (by omega)
        have E1 := Lib.hid e1
        have E2 := Lib.hid e2
        have E3 := Lib.hid e3
        clear e1 e2 e3
        go_wp2
        go_roundw
        case rel => exact ⟨ow2, i + 1, by rw [E1.out], by go_num, hi2, SubRel.step Hr.out hle1 hi2 o ow2 (by have := E3.out; omega) e4 e5 _ E2.out⟩
        case measure => simp only [intOf]; omega
      · clear hc1
        have q2 : ¬ (i : Int) < (m : Int) := by omega
        have z0 : dg (digs z) i = 0 := dg_out (by rw [HM.out]; omega)
        have Z0 := Lib.hid z0
        clear z0
        obtain ⟨o, ow2, e1, e2, e3, e4, e5⟩ := sub_word (dg (digs x) i : Int) (ow : Int) (by omega) (by omega) (by omega) (by omega)
        have E1 := Lib.hid e1
        have E2 := Lib.hid e2
        have E3 := Lib.hid e3
        clear e1 e2 e3
        go_wp2
        go_roundw
        case rel => exact ⟨ow2, i + 1, by rw [E1.out], by go_num, hi2, SubRel.step Hr.out hle1 hi2 o ow2 (by have := E3.out; have := Z0.out; omega) e4 e5 _ E2.out⟩
        case measure => simp only [intOf]; omega
    · obtain rfl : i = n := by omega
      clear hi2
      obtain ⟨ys, hys, hval⟩ := SubRel.stop Hr.out HN.out (by rw [HM.out]; omega) (by omega) (by rw [val_digs, val_digs]; exact HLE.out)
      rw [val_digs, val_digs] at hval
      have HY := Lib.hid hys
      have HV := Lib.hid hval
      have HF := Lib.hid (show Fit (val ys) by
        have h1 := (digs_len_le (n := x)).1 (Nat.le_of_eq HN.out)
        rw [hval]
        unfold Fit
        exact Nat.le_trans (digs_len_le.2 (show x - z < 4294967296 ^ i by omega)) hn)
      clear hys hval
      go_wp2_with fail
      refine (fits_any _ _ i _ ys HY.out (Nat.le_refl _) HF.out).mono ?_
      rintro e w' ⟨k, rfl, hk, rfl⟩
      go_wp2
      go_ret2
      exact ⟨_, k, rfl, by rw [← HV.out]; exact hk, Hr.out.bel⟩
end Go.Proofs.YtgioppkggpfnoaaDoor.Nu
end

section
/- The walk of limbs.Mul. -/
set_option linter.unusedVariables false
namespace Go.Proofs.YtgioppkggpfnoaaDoor.Nu
open Go.RowKit Go.Proofs

theorem val_set : ∀ (ys : List Nat) (j d : Nat), j < ys.length → val (ys.set j d) + 4294967296 ^ j * dg ys j = val ys + 4294967296 ^ j * d
  | y :: ys, 0, d, _ => by simp [val, dg]; omega
  | y :: ys, j + 1, d, h => by
    have ih := val_set ys j d (by simpa using h)
    have e : dg (y :: ys) (j + 1) = dg ys j := by simp [dg]
    rw [List.set_cons_succ, val, val, e, Nat.pow_succ, Nat.mul_comm (4294967296 ^ j), Nat.mul_assoc, Nat.mul_assoc]
    generalize 4294967296 ^ j * dg ys j = p at *
    generalize 4294967296 ^ j * d = q at *
    omega
/-- A round of the inner loop. -/
theorem mul_step {v v' p cy x y o s q a b : Nat} (hs : s = cy + (x * y + o)) (hv : v' + p * o = v + p * (s % 4294967296)) (h : v + cy * p = a + x * b * q) :
    v' + s / 4294967296 * (p * 4294967296) = a + x * b * q + x * y * p := by
  have e := Nat.div_add_mod s 4294967296
  generalize s / 4294967296 = c at *
  generalize s % 4294967296 = r at *
  have e2 : p * (4294967296 * c + r) = p * s := by rw [e]
  rw [hs] at e2
  simp only [Nat.mul_add] at e2
  have e3 : c * (p * 4294967296) = p * (4294967296 * c) := by rw [Nat.mul_left_comm]; congr 1; exact Nat.mul_comm _ _
  have e4 : cy * p = p * cy := Nat.mul_comm _ _
  have e5 : x * y * p = p * (x * y) := Nat.mul_comm _ _
  rw [e3, e5]
  generalize p * (x * y) = t at *
  generalize x * b * q = t2 at *
  omega
/-- What a round of the multiplication keeps: k digits of the second one times the i-th of the first one are in. -/
structure MulRel (xs zs : List Nat) (n m : Nat) (W : World) (g : Nat) (i k cy : Nat) (w : World) : Prop where
  ex : ∃ ys, Blk w g ys ∧ ys.length = n + m ∧ Dig ys ∧ val ys + cy * 4294967296 ^ (i + k) = val (xs.take i) * val zs + dg xs i * val (zs.take k) * 4294967296 ^ i ∧ ∀ j, i + m ≤ j → dg ys j = 0
  cy : cy ≤ 4294967295
  bel : Below W.heap.size W w
theorem MulRel.start (xs zs : List Nat) (n m : Nat) (w W : World) (hb : Below W.heap.size W w) : MulRel xs zs n m W w.heap.size 0 0 0 (w.alloc (.cells (mk0 (n + m)) 118)) :=
  ⟨⟨_, Blk.made w (n + m), by simp, dig_zeros _, by simp [val, val_zeros], fun j _ => dg_zeros _ _⟩, by omega, hb.alloc hb.size _⟩
theorem MulRel.cell {xs zs : List Nat} {n m : Nat} {W w : World} {g i k cy : Nat} (h : MulRel xs zs n m W g i k cy w) (j : Nat) (hj : j < n + m) : ∃ o : Nat, o < 4294967296 ∧ w.cell? ⟨g, j, none⟩ = some (.int .u32 o) ∧ w.frozen? ⟨g, j, none⟩ = false ∧
    ∀ s : Nat, k < m → i < n → j = i + k → s = cy + (dg xs i * dg zs k + o) → s ≤ 18446744073709551615 → W.heap.size ≤ g → MulRel xs zs n m W g i (k + 1) (s / 4294967296) (w.setCell ⟨g, j, none⟩ (.int .u32 ((s % 4294967296 : Nat) : Int))) := by
  obtain ⟨⟨ys, hB, hl, hd, he, h0⟩, hcy, hb⟩ := h
  refine ⟨dg ys j, dg_lt hd j, hB.cell j (by omega), hB.free j, fun s hk hi hj2 hs hs2 hg => ⟨⟨_, hB.set j (s % 4294967296) _ rfl, by simpa using hl, dig_set hd j (Nat.mod_lt _ (by omega)), ?_, fun j2 hj3 => ?_⟩, by omega, hb.setCell hg _⟩⟩
  · have hv := val_set ys j (s % 4294967296) (by omega)
    subst hj2
    have := mul_step hs hv he
    rw [show i + (k + 1) = i + k + 1 by omega, Nat.pow_succ (n := 4294967296) (m := i + k), this, val_take_next, Nat.mul_add, Nat.add_mul, Nat.add_assoc]
    congr 2
    rw [Nat.pow_add]
    simp only [Nat.mul_assoc, Nat.mul_left_comm, Nat.mul_comm]
  · rw [dg_set_ne _ _ _ _ (by omega)]
    exact h0 j2 hj3
theorem MulRel.next {xs zs : List Nat} {n m : Nat} {W w : World} {g i cy : Nat} (h : MulRel xs zs n m W g i m cy w) (hz : zs.length = m) (hi : i < n) (hg : W.heap.size ≤ g) (v : Int) (hv : v = (cy : Int)) : MulRel xs zs n m W g (i + 1) 0 0 (w.setCell ⟨g, i + m, none⟩ (.int .u32 v)) := by
  obtain ⟨⟨ys, hB, hl, hd, he, h0⟩, hcy, hb⟩ := h
  refine ⟨⟨_, hB.set (i + m) cy v hv, by simpa using hl, dig_set hd _ (by omega), ?_, fun j hj => ?_⟩, by omega, hb.setCell hg _⟩
  · have hv2 := val_set ys (i + m) cy (by omega)
    rw [h0 (i + m) (by omega)] at hv2
    rw [List.take_of_length_le (l := zs) (by omega)] at he
    rw [val_take_next, List.take_zero]
    simp only [val, Nat.mul_zero, Nat.zero_mul, Nat.add_zero] at hv2 ⊢
    rw [hv2, Nat.mul_comm _ cy, he, Nat.add_mul]
    congr 1
    simp only [Nat.mul_assoc, Nat.mul_left_comm, Nat.mul_comm]
  · rw [dg_set_ne _ _ _ _ (by omega)]
    exact h0 j (by omega)
theorem MulRel.stop {xs zs : List Nat} {n m : Nat} {W w : World} {g : Nat} (h : MulRel xs zs n m W g n 0 0 w) (hx : xs.length = n) (hn : n + m ≤ 140737488355328) : ∃ ys, RL w (some ⟨g, 0, none⟩) (n + m) ys ∧ val ys = val xs * val zs := by
  obtain ⟨⟨ys, hB, hl, hd, he, h0⟩, hcy, hb⟩ := h
  have hr := hB.read hd (by omega)
  rw [hl] at hr
  refine ⟨_, hr, ?_⟩
  rw [List.take_of_length_le (l := xs) (by omega)] at he
  simpa [val] using he

set_option maxHeartbeats 4000000 in
set_option maxRecDepth 100000 in
theorem mul_any (w : World) (A B : Option Addr) (n m c d x z : Nat) (hx : RN w A n x) (hz : RN w B m z) (hc : n ≤ c) (hd : m ≤ d) (hs : n + m ≤ 513) (hf : Fit (x * z)) :
    Calls Tryd.prog 17 #[.slice A n c, .slice B m d] w fun e w' => ∃ A' k c', k ≤ c' ∧ e = .returned (.tuple #[.slice A' k c', .int .i64 0]) ∧ RN w' A' k (x * z) ∧ Below w.heap.size w w' := by
  have hnx := hx.1
  have hmz := hz.1
  have HX := Lib.hid hx
  have HZ := Lib.hid hz
  have HN := Lib.hid hnx
  have HM := Lib.hid hmz
  have HF := Lib.hid hf
  clear hx hz hnx hmz hf
  by_cases hn0 : n = 0
  · have hx0 : x = 0 := digs_eq_nil.1 (List.length_eq_zero_iff.1 (by rw [HN.out, hn0]))
    have Hx0 := Lib.hid hx0
    have q0 : ((n : Int) == 0) = true := by rw [hn0]; rfl
    clear hx0 hn0
    go_enter Tryd.func17, Tryd.ntmps17
    go_wp2
    go_ret2
    exact ⟨none, 0, 0, Nat.le_refl _, rfl, by rw [Hx0.out, Nat.zero_mul]; exact RN.zero _ _, Below.refl _ _⟩
  have q0 : ((n : Int) == 0) = false := by rw [beq_eq_false_iff_ne]; omega
  by_cases hm0 : m = 0
  · have hz0 : z = 0 := digs_eq_nil.1 (List.length_eq_zero_iff.1 (by rw [HM.out, hm0]))
    have Hz0 := Lib.hid hz0
    have q1 : ((m : Int) == 0) = true := by rw [hm0]; rfl
    clear hz0 hm0
    go_enter Tryd.func17, Tryd.ntmps17
    go_wp2
    go_ret2
    exact ⟨none, 0, 0, Nat.le_refl _, rfl, by rw [Hz0.out, Nat.mul_zero]; exact RN.zero _ _, Below.refl _ _⟩
  have q1 : ((m : Int) == 0) = false := by rw [beq_eq_false_iff_ne]; omega
  have q2 : ¬ (513 : Int) < (n : Int) + (m : Int) := by omega
  have E1 := Lib.hid (show ((n : Nat) : Int) + (m : Int) = ((n + m : Nat) : Int) by omega)
  go_enter Tryd.func17, Tryd.ntmps17
  go_wp2_with fail
  rw [E1.out, make_u32 (n + m) (by omega)]
  simp only [Result.andThen]
  rw [Oper.upon_value]
  have H0 := Lib.hid (MulRel.start (digs x) (digs z) n m w w (Below.refl _ _))
  generalize w.alloc (.cells (mk0 (n + m)) 118) = w0 at *
  go_wp2
  go_loopw [34] (fun k wr => ∃ i : Nat, k = .int .i64 i ∧ i ≤ n ∧ Hid (MulRel (digs x) (digs z) n m w w.heap.size i 0 0 wr)) (fun k _ => n - (intOf k).toNat)
  case atStart => exact ⟨0, rfl, Nat.zero_le _, H0⟩
  case round =>
    obtain ⟨i, rfl, hi, Hr⟩ := hrel
    by_cases hi2 : i < n
    · obtain ⟨b1, o1, rfl, hl1, hc1⟩ := HX.out.2.2.2 (by omega)
      have hx1 := ((bcell Hr.out.bel).1 b1 (o1 + i) hl1).trans (hc1 i hi2)
      have q3 : (i : Int) < (n : Int) := by omega
      go_wp2
      go_loopw [9, 41] (fun c k wr => ∃ cy k' : Nat, c = .int .u64 cy ∧ k = .int .i64 k' ∧ k' ≤ m ∧ Hid (MulRel (digs x) (digs z) n m w w.heap.size i k' cy wr)) (fun _ k _ => m - (intOf k).toNat)
      case atStart => exact ⟨0, 0, rfl, rfl, Nat.zero_le _, Hr⟩
      case round =>
        obtain ⟨cy, k, rfl, rfl, hk, Hk⟩ := hrel
        have hcy := Hk.out.cy
        by_cases hk2 : k < m
        · obtain ⟨b2, o2, rfl, hl2, hc2⟩ := HZ.out.2.2.2 (by omega)
          have hx2 := ((bcell Hk.out.bel).1 b2 (o2 + k) hl2).trans (hc2 k hk2)
          obtain ⟨o, ho, hco, hfo, hstep⟩ := Hk.out.cell (i + k) (by omega)
          have HS := Lib.hid hstep
          have d1 := dg_lt (dig_digs x) i
          have d2 := dg_lt (dig_digs z) k
          have q4 : (k : Int) < (m : Int) := by omega
          have hp : dg (digs x) i * dg (digs z) k ≤ 4294967295 * 4294967295 := Nat.mul_le_mul (by omega) (by omega)
          clear hstep hc1 hc2
          generalize dg (digs x) i = X at *
          generalize dg (digs z) k = Z at *
          have hp2 : (X : Int) * (Z : Int) = ((X * Z : Nat) : Int) := by simp
          have HP := Lib.hid hp2
          have p1 : (X : Int) * (Z : Int) ≤ 18446744065119617025 := by rw [hp2]; omega
          have p2 : 0 ≤ (X : Int) * (Z : Int) := by rw [hp2]; omega
          clear hp2
          go_wp2
          go_roundw
          case rel =>
            have h := HS.out (cy + (X * Z + o)) hk2 hi2 rfl rfl (by omega) (Nat.le_refl _)
            have e1 : ((cy : Int) + ((X : Int) * (Z : Int) + (o : Int))) = ((cy + (X * Z + o) : Nat) : Int) := by rw [HP.out]; omega
            refine ⟨(cy + (X * Z + o)) / 4294967296, k + 1, by rw [e1]; rfl, by go_num, hk2, ?_⟩
            rw [e1]
            exact h
          case measure => simp only [intOf]; omega
        · obtain rfl : k = m := by omega
          obtain ⟨o, ho, hco, hfo, hstep⟩ := Hk.out.cell (i + k) (by omega)
          have HS := Lib.hid (Hk.out.next HM.out hi2 (Nat.le_refl _) (cy : Int) rfl)
          clear hstep hc1 hk2
          go_wp2
          go_roundw
          case rel => exact ⟨i + 1, by go_num, hi2, HS⟩
          case measure => simp only [intOf]; omega
    · obtain rfl : i = n := by omega
      clear hi2
      obtain ⟨ys, hys, hval⟩ := MulRel.stop Hr.out HN.out (by omega)
      rw [val_digs, val_digs] at hval
      have HY := Lib.hid hys
      have HV := Lib.hid hval
      clear hys hval
      go_wp2_with fail
      refine (fits_any _ _ (i + m) _ ys HY.out (Nat.le_refl _) (by rw [HV.out]; exact HF.out)).mono ?_
      rintro e w' ⟨k, rfl, hk, rfl⟩
      go_wp2
      go_ret2
      exact ⟨_, k, k, Nat.le_refl _, rfl, by rw [← HV.out]; exact hk, Hr.out.bel⟩
end Go.Proofs.YtgioppkggpfnoaaDoor.Nu
end

section
/- What a round of the shift to the left keeps. -/
set_option linter.unusedVariables false
namespace Go.Proofs.YtgioppkggpfnoaaDoor.Nu
open Go.RowKit Go.Proofs

/-- What a round of the shift to the left keeps. -/
structure LeftRel (xs : List Nat) (n q r : Nat) (W : World) (g : Nat) (i : Nat) (w : World) : Prop where
  ex : ∃ ys, Blk w g ys ∧ ys.length = n + q + 1 ∧ Dig ys ∧ val ys = val (xs.take i) * (4294967296 ^ q * 2 ^ r) ∧ dg ys (i + q) < 2 ^ r ∧ ∀ j, i + q < j → dg ys j = 0
  bel : Below W.heap.size W w
theorem LeftRel.start (xs : List Nat) (n q r : Nat) (w W : World) (hb : Below W.heap.size W w) : LeftRel xs n q r W w.heap.size 0 (w.alloc (.cells (mk0 (n + q + 1)) 118)) :=
  ⟨⟨_, Blk.made w (n + q + 1), by simp, dig_zeros _, by simp [val, val_zeros], by rw [dg_zeros]; exact Nat.two_pow_pos r, fun j _ => dg_zeros _ _⟩, hb.alloc hb.size _⟩

theorem LeftRel.cell {xs : List Nat} {n q r : Nat} {W w : World} {g i : Nat} (h : LeftRel xs n q r W g i w) (hi : i < n) : ∃ y : Nat, y < 2 ^ r ∧ w.cell? ⟨g, i + q, none⟩ = some (.int .u32 y) ∧ w.frozen? ⟨g, i + q, none⟩ = false ∧ (∃ v, w.cell? ⟨g, i + q + 1, none⟩ = some v) ∧ w.frozen? ⟨g, i + q + 1, none⟩ = false := by
  obtain ⟨⟨ys, hB, hl, hd, he, hy, h0⟩, hb⟩ := h
  exact ⟨dg ys (i + q), hy, hB.cell _ (by omega), hB.free _, ⟨_, hB.cell _ (by omega)⟩, hB.free _⟩

theorem bits_or_u32_nat (a b : Nat) (ha : a < 4294967296) (hb : b < 4294967296) : bits .or .u32 (a : Int) (b : Int) = ((a ||| b : Nat) : Int) := by
  have hx : a ||| b < 2 ^ 32 := Nat.or_lt_two_pow (by omega) (by omega)
  have h1 : (BitVec.ofInt 32 (a : Int)).toNat = a := by
    rw [BitVec.ofInt_natCast, BitVec.toNat_ofNat]; exact Nat.mod_eq_of_lt (by omega)
  have h2 : (BitVec.ofInt 32 (b : Int)).toNat = b := by
    rw [BitVec.ofInt_natCast, BitVec.toNat_ofNat]; exact Nat.mod_eq_of_lt (by omega)
  show IntKind.u32.wrap ((BitVec.ofInt 32 (a : Int) ||| BitVec.ofInt 32 (b : Int)).toNat : Int) = _
  rw [BitVec.toNat_or, h1, h2, IntKind.wrap_u32]
  omega
theorem left_word (X r y : Nat) (hX : X < 4294967296) (hr : r < 32) (hy : y < 2 ^ r) :
    ∃ lo hi : Nat, bits .or .u32 (y : Int) (IntKind.u64.wrap ((X : Int) * 2 ^ r) % 4294967296) = ((y + lo : Nat) : Int) ∧ IntKind.u64.wrap ((X : Int) * 2 ^ r) / 4294967296 % 4294967296 = (hi : Int) ∧ lo + 4294967296 * hi = X * 2 ^ r ∧ y + lo < 4294967296 ∧ hi < 2 ^ r := by
  have e0 : 2 ^ (32 - r) * 2 ^ r = 4294967296 := by rw [← Nat.pow_add, show 32 - r + r = 32 by omega]
  have hr2 : 2 ^ r ≤ 2 ^ 31 := Nat.pow_le_pow_right (by omega) (by omega)
  have h1 : X * 2 ^ r < 4294967296 * 2 ^ r := Nat.mul_lt_mul_of_pos_right hX (Nat.two_pow_pos r)
  have hw : IntKind.u64.wrap ((X : Int) * 2 ^ r) = ((X * 2 ^ r : Nat) : Int) := by
    rw [show ((X : Int) * 2 ^ r) = ((X * 2 ^ r : Nat) : Int) by simp, IntKind.wrap_u64]
    generalize X * 2 ^ r = k at *
    omega
  have hlo : X * 2 ^ r % 4294967296 = (X % 2 ^ (32 - r)) * 2 ^ r := by
    conv => lhs; rw [← e0]
    exact Nat.mul_mod_mul_right _ _ _
  have hor : y ||| X * 2 ^ r % 4294967296 = y + X * 2 ^ r % 4294967296 := by
    rw [hlo, ← Nat.shiftLeft_eq, Nat.or_comm, ← Nat.shiftLeft_add_eq_or_of_lt hy, Nat.add_comm]
  have hlt : y + X * 2 ^ r % 4294967296 < 4294967296 := by
    rw [← hor]
    exact Nat.or_lt_two_pow (n := 32) (by omega) (Nat.mod_lt _ (by omega))
  refine ⟨X * 2 ^ r % 4294967296, X * 2 ^ r / 4294967296, ?_, ?_, Nat.mod_add_div _ _, hlt, ?_⟩
  · rw [hw, ← hor, ← bits_or_u32_nat _ _ (by omega) (Nat.mod_lt _ (by omega))]
    rfl
  · rw [hw]
    have : X * 2 ^ r / 4294967296 < 2 ^ r := Nat.div_lt_of_lt_mul h1
    generalize X * 2 ^ r = k at *
    omega
  · exact Nat.div_lt_of_lt_mul h1
theorem LeftRel.step {xs : List Nat} {n q r : Nat} {W w : World} {g i y lo hi : Nat} (h : LeftRel xs n q r W g i w) (hi0 : i < n) (hg : W.heap.size ≤ g) (hr : r < 32) (hc : w.cell? ⟨g, i + q, none⟩ = some (.int .u32 y)) (e : lo + 4294967296 * hi = dg xs i * 2 ^ r) (h1 : y + lo < 4294967296) (h2 : hi < 2 ^ r) (v1 v2 : Int) (hv1 : v1 = ((y + lo : Nat) : Int)) (hv2 : v2 = (hi : Int)) :
    LeftRel xs n q r W g (i + 1) ((w.setCell ⟨g, i + q, none⟩ (.int .u32 v1)).setCell ⟨g, i + q + 1, none⟩ (.int .u32 v2)) := by
  obtain ⟨⟨ys, hB, hl, hd, he, hy, h0⟩, hb⟩ := h
  have hyy : dg ys (i + q) = y := by
    have h3 := hB.cell (i + q) (by omega)
    rw [hc] at h3
    injection h3 with h3
    injection h3 with _ h3
    omega
  have hr2 : 2 ^ r ≤ 2 ^ 31 := Nat.pow_le_pow_right (by omega) (by omega)
  have s1 := val_set ys (i + q) (y + lo) (by omega)
  have s2 := val_set (ys.set (i + q) (y + lo)) (i + q + 1) hi (by simp; omega)
  rw [dg_set_ne _ _ _ _ (by omega), h0 (i + q + 1) (by omega)] at s2
  rw [hyy] at s1
  refine ⟨⟨_, (hB.set (i + q) (y + lo) v1 hv1).set (i + q + 1) hi v2 hv2, by simpa using hl, dig_set (dig_set hd _ h1) _ (by omega), ?_, ?_, fun j hj => ?_⟩, (hb.setCell hg _).setCell hg _⟩
  · rw [val_take_next, Nat.add_mul, ← he]
    have e2 : 4294967296 ^ i * dg xs i * (4294967296 ^ q * 2 ^ r) = 4294967296 ^ (i + q) * (lo + 4294967296 * hi) := by
      rw [e, Nat.pow_add]
      simp only [Nat.mul_assoc, Nat.mul_left_comm, Nat.mul_comm]
    rw [e2, Nat.mul_add]
    rw [Nat.mul_zero, Nat.add_zero, Nat.pow_succ, Nat.mul_assoc] at s2
    rw [Nat.mul_add] at s1
    generalize 4294967296 ^ (i + q) * (4294967296 * hi) = t at *
    generalize 4294967296 ^ (i + q) * lo = t2 at *
    generalize 4294967296 ^ (i + q) * y = t3 at *
    omega
  · rw [show i + 1 + q = i + q + 1 by omega, dg_set_same _ _ _ (by simp; omega)]
    exact h2
  · rw [dg_set_ne _ _ _ _ (by omega), dg_set_ne _ _ _ _ (by omega)]
    exact h0 j (by omega)
theorem pow_split (q r : Nat) : 4294967296 ^ q * 2 ^ r = 2 ^ (32 * q + r) := by
  rw [Nat.pow_add, Nat.pow_mul]
theorem LeftRel.stop {xs : List Nat} {n q r : Nat} {W w : World} {g : Nat} (h : LeftRel xs n q r W g n w) (hx : xs.length = n) (hn : n + q + 1 ≤ 140737488355328) : ∃ ys, RL w (some ⟨g, 0, none⟩) (n + q + 1) ys ∧ val ys = val xs * 2 ^ (32 * q + r) := by
  obtain ⟨⟨ys, hB, hl, hd, he, hy, h0⟩, hb⟩ := h
  have hr := hB.read hd (by omega)
  rw [hl] at hr
  refine ⟨_, hr, ?_⟩
  rw [List.take_of_length_le (l := xs) (by omega), pow_split] at he
  exact he
end Go.Proofs.YtgioppkggpfnoaaDoor.Nu
end

section
/- The walk of limbs.Right. -/
set_option linter.unusedVariables false
namespace Go.Proofs.YtgioppkggpfnoaaDoor.Nu
open Go.RowKit Go.Proofs

theorem dg_digs (x j : Nat) : dg (digs x) j = x / 4294967296 ^ j % 4294967296 := by
  induction j generalizing x with
  | zero =>
    by_cases h : x = 0
    · subst h; simp [digs_zero, dg]
    · rw [digs_pos h]; simp [dg]
  | succ j ih =>
    by_cases h : x = 0
    · subst h; simp [digs_zero, dg]
    · rw [digs_pos h, Nat.pow_succ, Nat.mul_comm, ← Nat.div_div_eq_div_mul, ← ih]
      simp [dg]
theorem val_take_mod {ys : List Nat} {N k : Nat} (h : ∀ j, j < k → dg ys j = N / 4294967296 ^ j % 4294967296) : val (ys.take k) = N % 4294967296 ^ k := by
  induction k with
  | zero => simp [val, Nat.mod_one]
  | succ k ih =>
    rw [val_take_next, ih (fun j hj => h j (by omega)), h k (by omega), Nat.mod_pow_succ]
theorem right_digit (a r : Nat) (hr : r < 32) : (a % 4294967296 + a / 4294967296 % 4294967296 * 4294967296) / 2 ^ r % 4294967296 = a / 2 ^ r % 4294967296 := by
  have e : a % 4294967296 + a / 4294967296 % 4294967296 * 4294967296 = a % 18446744073709551616 := by omega
  have e0 : 2 ^ r * 2 ^ (32 - r) = 4294967296 := by rw [← Nat.pow_add, show r + (32 - r) = 32 by omega]
  have e1 : a = 2 ^ r * (2 ^ (32 - r) * 4294967296 * (a / 18446744073709551616)) + a % 18446744073709551616 := by
    rw [← Nat.mul_assoc, ← Nat.mul_assoc, e0]; omega
  rw [e]
  conv => rhs; rw [e1, Nat.mul_add_div (Nat.two_pow_pos r)]
  rw [show 2 ^ (32 - r) * 4294967296 * (a / 18446744073709551616) = 4294967296 * (2 ^ (32 - r) * (a / 18446744073709551616)) by simp only [Nat.mul_assoc, Nat.mul_left_comm], Nat.mul_add_mod]
/-- The j-th digit of what is left. -/
theorem right_next (x q r j : Nat) (hr : r < 32) : (dg (digs x) (j + q) + dg (digs x) (j + q + 1) * 4294967296) / 2 ^ r % 4294967296 = x / 2 ^ (32 * q + r) / 4294967296 ^ j % 4294967296 := by
  rw [dg_digs, dg_digs, Nat.pow_succ, ← Nat.div_div_eq_div_mul, right_digit _ _ hr, Nat.div_div_eq_div_mul, Nat.div_div_eq_div_mul, ← pow_split, Nat.pow_add]
  congr 2
  simp only [Nat.mul_assoc, Nat.mul_left_comm, Nat.mul_comm]
theorem or_word (a b : Nat) (ha : a < 4294967296) (hb : b < 4294967296) : bits .or .u64 (a : Int) ((b : Int) * 4294967296) = ((a + b * 4294967296 : Nat) : Int) := by
  rw [show ((b : Int) * 4294967296) = ((b * 4294967296 : Nat) : Int) by omega, bits_or_u64_nat _ _ (by omega) (by omega)]
  congr 1
  rw [show b * 4294967296 = b <<< 32 by rw [Nat.shiftLeft_eq], Nat.or_comm, ← Nat.shiftLeft_add_eq_or_of_lt (by omega), Nat.add_comm]
theorem cast_word (a r : Nat) : (a : Int) / 2 ^ r % 4294967296 = ((a / 2 ^ r % 4294967296 : Nat) : Int) := by simp
structure RightRel (x k q r : Nat) (W : World) (g : Nat) (i : Nat) (w : World) : Prop where
  ex : ∃ ys, Blk w g ys ∧ ys.length = k ∧ Dig ys ∧ ∀ j, j < i → dg ys j = x / 2 ^ (32 * q + r) / 4294967296 ^ j % 4294967296
  bel : Below W.heap.size W w
theorem RightRel.start (x k q r : Nat) (w W : World) (hb : Below W.heap.size W w) : RightRel x k q r W w.heap.size 0 (w.alloc (.cells (mk0 k) 118)) :=
  ⟨⟨_, Blk.made w k, by simp, dig_zeros _, fun j hj => by omega⟩, hb.alloc hb.size _⟩
theorem RightRel.cell {x k q r : Nat} {W w : World} {g i : Nat} (h : RightRel x k q r W g i w) (hi : i < k) : (∃ v, w.cell? ⟨g, i, none⟩ = some v) ∧ w.frozen? ⟨g, i, none⟩ = false := by
  obtain ⟨⟨ys, hB, hl, hd, he⟩, hb⟩ := h
  exact ⟨⟨_, hB.cell _ (by omega)⟩, hB.free _⟩
theorem RightRel.step {x k q r : Nat} {W w : World} {g i : Nat} (h : RightRel x k q r W g i w) (hi : i < k) (hg : W.heap.size ≤ g) (hr : r < 32) (v : Int) (hv : v = (((dg (digs x) (i + q) + dg (digs x) (i + q + 1) * 4294967296) / 2 ^ r % 4294967296 : Nat) : Int)) :
    RightRel x k q r W g (i + 1) (w.setCell ⟨g, i, none⟩ (.int .u32 v)) := by
  obtain ⟨⟨ys, hB, hl, hd, he⟩, hb⟩ := h
  refine ⟨⟨_, hB.set i _ v hv, by simpa using hl, dig_set hd i (Nat.mod_lt _ (by omega)), fun j hj => ?_⟩, hb.setCell hg _⟩
  by_cases hji : j = i
  · subst hji
    rw [dg_set_same _ _ _ (by omega), right_next _ _ _ _ hr]
  · rw [dg_set_ne _ _ _ _ (by omega)]
    exact he j (by omega)
theorem RightRel.stop {x n k q r : Nat} {W w : World} {g : Nat} (h : RightRel x k q r W g k w) (hx : (digs x).length = n) (hk : k + q = n) (hn : n ≤ 140737488355328) : ∃ ys, RL w (some ⟨g, 0, none⟩) k ys ∧ val ys = x / 2 ^ (32 * q + r) := by
  obtain ⟨⟨ys, hB, hl, hd, he⟩, hb⟩ := h
  have hr := hB.read hd (by omega)
  rw [hl] at hr
  refine ⟨_, hr, ?_⟩
  have h1 := val_take_mod he
  rw [List.take_of_length_le (by omega)] at h1
  rw [h1]
  apply Nat.mod_eq_of_lt
  have h2 := (digs_len_le (n := x)).1 (Nat.le_of_eq hx)
  apply Nat.div_lt_of_lt_mul
  rw [← pow_split]
  refine Nat.lt_of_lt_of_le h2 ?_
  rw [← hk, Nat.pow_add, Nat.mul_comm (4294967296 ^ k), Nat.mul_assoc]
  refine Nat.mul_le_mul_left _ ?_
  exact Nat.le_mul_of_pos_left _ (Nat.two_pow_pos r)
theorem right_zero {x n q r : Nat} (hx : (digs x).length = n) (hq : n ≤ q) : x / 2 ^ (32 * q + r) = 0 := by
  have h2 := (digs_len_le (n := x)).1 (Nat.le_of_eq hx)
  apply Nat.div_eq_of_lt
  refine Nat.lt_of_lt_of_le h2 ?_
  rw [← pow_split]
  refine Nat.le_trans (Nat.pow_le_pow_right (by omega) hq) ?_
  exact Nat.le_mul_of_pos_right _ (Nat.two_pow_pos r)

set_option maxHeartbeats 4000000 in
set_option maxRecDepth 100000 in
theorem right_any (w : World) (A : Option Addr) (n c x s : Nat) (hx : RN w A n x) (hc : n ≤ c) (hn : n ≤ 512) (hs : s ≤ 9223372036854775807) :
    Calls Tryd.prog 137 #[.slice A n c, .int .i64 s] w fun e w' => ∃ A' k c', k ≤ c' ∧ e = .returned (.tuple #[.slice A' k c', .int .i64 0]) ∧ RN w' A' k (x / 2 ^ s) ∧ Below w.heap.size w w' := by
  have hnx := hx.1
  have HX := Lib.hid hx
  have HN := Lib.hid hnx
  clear hx hnx
  have z0 : ¬ (s : Int) < 0 := by omega
  obtain ⟨q, r, hqr, hr⟩ : ∃ q r : Nat, s = 32 * q + r ∧ r < 32 := ⟨s / 32, s % 32, by omega, by omega⟩
  have hq : (s : Int) / 32 = (q : Int) := by omega
  have hr2 : (s : Int) % 32 = (r : Int) := by omega
  have HQR := Lib.hid hqr
  clear hqr
  by_cases hnq : n ≤ q
  · have q1 : (n : Int) ≤ (q : Int) := by omega
    have H0 := Lib.hid (right_zero (r := r) HN.out hnq)
    go_enter Tryd.func137, Tryd.ntmps137
    go_wp2
    go_ret2
    exact ⟨none, 0, 0, Nat.le_refl _, rfl, by rw [HQR.out, H0.out]; exact RN.zero _ _, Below.refl _ _⟩
  have q1 : ¬ (n : Int) ≤ (q : Int) := by omega
  obtain ⟨k, hk⟩ : ∃ k, k + q = n := ⟨n - q, by omega⟩
  have hkn : k ≤ 512 := by omega
  have E1 := Lib.hid (show ((n : Nat) : Int) - (q : Int) = (k : Int) by omega)
  have HK := Lib.hid hk
  go_enter Tryd.func137, Tryd.ntmps137
  go_wp2_with fail
  rw [E1.out, make_u32 k (by omega)]
  simp only [Result.andThen]
  rw [Oper.upon_value]
  have H0 := Lib.hid (RightRel.start x k q r w w (Below.refl _ _))
  generalize w.alloc (.cells (mk0 k) 118) = w0 at *
  go_wp2
  go_loopw [24] (fun t wr => ∃ i : Nat, t = .int .i64 i ∧ i ≤ k ∧ Hid (RightRel x k q r w w.heap.size i wr)) (fun t _ => k - (intOf t).toNat)
  case atStart => exact ⟨0, rfl, Nat.zero_le _, H0⟩
  case round =>
    obtain ⟨i, rfl, hi, Hr⟩ := hrel
    by_cases hi2 : i < k
    · obtain ⟨b1, o1, rfl, hl1, hc1⟩ := HX.out.2.2.2 (by omega)
      have hx1 := ((bcell Hr.out.bel).1 b1 (o1 + (i + q)) hl1).trans (hc1 (i + q) (by omega))
      have d1 := dg_lt (dig_digs x) (i + q)
      have d2 := dg_lt (dig_digs x) (i + q + 1)
      obtain ⟨⟨v0, c1⟩, f1⟩ := Hr.out.cell hi2
      have q3 : (i : Int) < (k : Int) := by omega
      by_cases hi3 : i + q + 1 < n
      · have hx2 := ((bcell Hr.out.bel).1 b1 (o1 + (i + q + 1)) hl1).trans (hc1 (i + q + 1) hi3)
        have q4 : (i : Int) + (q : Int) + 1 < (n : Int) := by omega
        clear hc1
        have HS := Lib.hid (Hr.out.step hi2 (Nat.le_refl _) hr (bits .or .u64 (dg (digs x) (i + q) : Int) ((dg (digs x) (i + q + 1) : Int) * 4294967296) / 2 ^ r % 4294967296) (by rw [or_word _ _ d1 d2, cast_word]))
        go_wp2
        go_roundw
        case rel => exact ⟨i + 1, by go_num, hi2, HS⟩
        case measure => simp only [intOf]; omega
      · have q4 : ¬ (i : Int) + (q : Int) + 1 < (n : Int) := by omega
        clear hc1
        have hz : dg (digs x) (i + q + 1) = 0 := dg_out (by rw [HN.out]; omega)
        have HS := Lib.hid (Hr.out.step hi2 (Nat.le_refl _) hr ((dg (digs x) (i + q) : Int) / 2 ^ r % 4294967296) (by rw [hz, Nat.zero_mul, Nat.add_zero, cast_word]))
        clear hz
        go_wp2
        go_roundw
        case rel => exact ⟨i + 1, by go_num, hi2, HS⟩
        case measure => simp only [intOf]; omega
    · obtain rfl : i = k := by omega
      clear hi2
      obtain ⟨ys, hys, hval⟩ := RightRel.stop Hr.out HN.out HK.out (by omega)
      rw [← HQR.out] at hval
      have HY := Lib.hid hys
      have HV := Lib.hid hval
      have HF := Lib.hid (show Fit (val ys) by
        rw [hval]
        have h1 := (digs_len_le (n := x)).1 (Nat.le_of_eq HN.out)
        unfold Fit
        exact Nat.le_trans (digs_len_le.2 (Nat.lt_of_le_of_lt (Nat.div_le_self _ _) h1)) hn)
      clear hys hval
      go_wp2_with fail
      refine (fits_any _ _ i _ ys HY.out (Nat.le_refl _) HF.out).mono ?_
      rintro e w' ⟨k, rfl, hk, rfl⟩
      go_wp2
      go_ret2
      exact ⟨_, k, k, Nat.le_refl _, rfl, by rw [← HV.out]; exact hk, Hr.out.bel⟩
end Go.Proofs.YtgioppkggpfnoaaDoor.Nu
end

section
/- How many bits a number has: plain. -/
set_option linter.unusedVariables false
namespace Go.Proofs.YtgioppkggpfnoaaDoor.Nu
open Go.RowKit Go.Proofs

/-- How many bits. -/
def bl (x : Nat) : Nat := if x = 0 then 0 else Nat.log2 x + 1
theorem bl_top {x d low p : Nat} (hx : x = 4294967296 ^ p * d + low) (hl : low < 4294967296 ^ p) (hd : d ≠ 0) : bl x = 32 * p + bl d := by
  have e : 4294967296 ^ p = 2 ^ (32 * p) := by rw [Nat.pow_mul]
  have hp : 0 < 4294967296 ^ p := Nat.pow_pos (by omega)
  have hd1 : 1 ≤ d := by omega
  have h1 : 4294967296 ^ p * 1 ≤ 4294967296 ^ p * d := Nat.mul_le_mul_left _ hd1
  have hx0 : x ≠ 0 := by omega
  have hlog : Nat.log2 x = 32 * p + Nat.log2 d := by
    rw [Nat.log2_eq_iff hx0]
    have h2 := (Nat.log2_eq_iff hd).1 rfl
    have h3 : 2 ^ (32 * p) * 2 ^ d.log2 ≤ 2 ^ (32 * p) * d := Nat.mul_le_mul_left _ h2.1
    have h4 : 2 ^ (32 * p) * (d + 1) ≤ 2 ^ (32 * p) * 2 ^ (d.log2 + 1) := Nat.mul_le_mul_left _ h2.2
    rw [← e] at h3 h4
    rw [Nat.mul_add] at h4
    constructor
    · rw [Nat.pow_add, ← e]; omega
    · rw [show 32 * p + d.log2 + 1 = 32 * p + (d.log2 + 1) by omega, Nat.pow_add, ← e]; omega
  simp [bl, hx0, hd, hlog]
  omega
theorem bl_digs {x n : Nat} (hn : (digs x).length = n) (h0 : 0 < n) : bl x = 32 * (n - 1) + bl (dg (digs x) (n - 1)) ∧ dg (digs x) (n - 1) ≠ 0 := by
  have hd : dg (digs x) (n - 1) ≠ 0 := by
    rw [dg_of (by omega)]
    refine digs_last x _ ?_
    rw [List.getLast?_eq_getElem?, List.getElem?_eq_getElem (by omega)]
    congr 2
    omega
  refine ⟨bl_top (low := val ((digs x).take (n - 1))) ?_ ?_ hd, hd⟩
  · have := val_take_next (digs x) (n - 1)
    rw [show n - 1 + 1 = n by omega, List.take_of_length_le (by omega), val_digs] at this
    omega
  · have := val_lt (dig_take (dig_digs x) (n - 1))
    rwa [List.length_take, hn, Nat.min_eq_left (by omega)] at this
theorem bl_lib (d : Nat) (hd : d ≠ 0) (h : d < 4294967296) : Lib.bitLen d = bl d := by
  obtain ⟨h1, h2, h3⟩ := Lib.bitLenAux_bounds 64 d (by omega) hd
  have e : d.log2 = Lib.bitLenAux 64 d - 1 := by
    rw [Nat.log2_eq_iff hd]
    exact ⟨h2, by rwa [show Lib.bitLenAux 64 d - 1 + 1 = Lib.bitLenAux 64 d by omega]⟩
  unfold Lib.bitLen bl
  rw [if_neg hd, e]
  omega
theorem bl_le (x k : Nat) (h : x < 2 ^ k) : bl x ≤ k := by
  unfold bl
  split
  · omega
  · rename_i hx
    have := (Nat.log2_lt hx).2 h
    omega
end Go.Proofs.YtgioppkggpfnoaaDoor.Nu
end

section
/- The walks of limbs.Check, limbs.Of. -/
set_option linter.unusedVariables false
namespace Go.Proofs.YtgioppkggpfnoaaDoor.Nu
open Go.RowKit Go.Proofs

/-- May a row of digits be? -/
theorem check_any (w : World) (A : Option Addr) (n c : Nat) (xs : List Nat) (h : RL w A n xs) :
    Calls Tryd.prog 15 #[.slice A n c] w fun e w' => (∃ r : Int, e = .returned (.int .i64 r) ∧ (r = 0 ↔ n ≤ 512 ∧ RN w A n (val xs))) ∧ w' = w := by
  have H := Lib.hid h
  have hn := h.2.1
  clear h
  by_cases h5 : 512 < n
  · have q0 : (512 : Int) < (n : Int) := by omega
    go_enter Tryd.func15, Tryd.ntmps15
    go_wp2
    go_ret
    exact ⟨⟨11, rfl, by omega⟩, rfl⟩
  have q0 : ¬ (512 : Int) < (n : Int) := by omega
  by_cases hn0 : n = 0
  · have q1 : ¬ (0 : Int) < (n : Int) := by omega
    have HR := Lib.hid (H.out.trim n (Nat.le_refl _) (by rw [List.take_of_length_le (Nat.le_of_eq H.out.1)]) (.inl hn0))
    clear hn0
    go_enter Tryd.func15, Tryd.ntmps15
    go_wp2
    go_ret
    exact ⟨⟨0, rfl, fun _ => ⟨by omega, HR.out⟩, fun _ => rfl⟩, rfl⟩
  have q1 : (0 : Int) < (n : Int) := by omega
  obtain ⟨b1, o1, rfl, hl1, hc1⟩ := H.out.2.2.2 (by omega)
  have hx1 := hc1 (n - 1) (by omega)
  have hq : ((n : Int) - 1).toNat = n - 1 := by omega
  clear hc1
  by_cases hz : dg xs (n - 1) = 0
  · have q2 : ((dg xs (n - 1) : Int) == 0) = true := by rw [hz]; rfl
    have HZ := Lib.hid hz
    clear hz
    go_enter Tryd.func15, Tryd.ntmps15
    go_wp2
    go_ret
    refine ⟨⟨2, rfl, by omega, fun h => ?_⟩, rfl⟩
    have h2 := h.2.1
    have h3 := digs_trim H.out.2.2.1
    obtain ⟨k, hk⟩ := h3
    have : k = 0 := by
      have := congrArg List.length hk
      rw [List.length_append, List.length_replicate, h2, H.out.1] at this
      omega
    subst this
    rw [List.replicate_zero, List.append_nil] at hk
    have h4 := HZ.out
    rw [hk] at h4
    exact absurd h4 (bl_digs h2 (by omega)).2
  · have q2 : ((dg xs (n - 1) : Int) == 0) = false := by rw [beq_eq_false_iff_ne]; omega
    have HR := Lib.hid (H.out.trim n (Nat.le_refl _) (by rw [List.take_of_length_le (Nat.le_of_eq H.out.1)]) (.inr hz))
    clear hz
    go_enter Tryd.func15, Tryd.ntmps15
    go_wp2
    go_ret
    exact ⟨⟨0, rfl, fun _ => ⟨by omega, HR.out⟩, fun _ => rfl⟩, rfl⟩

set_option maxHeartbeats 2000000 in
theorem of_any (w : World) (x : Nat) (h : x < 18446744073709551616) :
    Calls Tryd.prog 14 #[.int .u64 x] w fun e w' => ∃ A m, e = .returned (.slice A m m) ∧ RN w' A m x ∧ Below w.heap.size w w' := by
  go_enter Tryd.func14, Tryd.ntmps14
  go_wp2_with fail
  have hB : Blk (w.alloc (.cells #[.int .u32 ((x : Int) % 4294967296), .int .u32 ((x : Int) / 4294967296)] 118)) w.heap.size [x % 4294967296, x / 4294967296] := by
    unfold Blk
    rw [alloc_top]
    simp [u32s]
  have hd : Dig [x % 4294967296, x / 4294967296] := by
    intro y hy
    simp only [List.mem_cons, List.not_mem_nil, or_false] at hy
    omega
  have hr := hB.read hd (by simp)
  have hv : val [x % 4294967296, x / 4294967296] = x := by simp only [val]; omega
  refine (trim_any _ _ 2 2 _ hr (Nat.le_refl _)).mono ?_
  rintro e w' ⟨m, rfl, hm, rfl⟩
  rw [hv] at hm
  have HM := Lib.hid hm
  clear hm hr hB hv hd
  go_wp2
  go_ret
  exact ⟨_, m, rfl, HM.out, (Below.refl _ w).alloc (Nat.le_refl _) _⟩
end Go.Proofs.YtgioppkggpfnoaaDoor.Nu
end

section
/- The walk of limbs.Add. -/
set_option linter.unusedVariables false
namespace Go.Proofs.YtgioppkggpfnoaaDoor.Nu
open Go.RowKit Go.Proofs

/-- What a round of the addition keeps. -/
structure AddRel (xs zs : List Nat) (n : Nat) (W : World) (g : Nat) (i : Nat) (cy : Nat) (w : World) : Prop where
  ex : ∃ ys, Blk w g ys ∧ ys.length = n + 1 ∧ Dig ys ∧ val (ys.take i) + cy * 4294967296 ^ i = val (xs.take i) + val (zs.take i)
  cy : cy ≤ 1
  bel : Below W.heap.size W w
theorem AddRel.start (xs zs : List Nat) (n : Nat) (w W : World) (hb : Below W.heap.size W w) : AddRel xs zs n W w.heap.size 0 0 (w.alloc (.cells (mk0 (n + 1)) 118)) :=
  ⟨⟨_, Blk.made w (n + 1), by simp, dig_zeros _, by simp [val]⟩, by omega, hb.alloc hb.size _⟩
theorem AddRel.step {xs zs : List Nat} {n : Nat} {W w : World} {g i cy : Nat} (h : AddRel xs zs n W g i cy w) (hg : W.heap.size ≤ g) (hx : Dig xs) (hz : Dig zs) (hi : i < n) (v c2 : Int) (hv : v = (((cy + dg xs i + dg zs i) % 4294967296 : Nat) : Int)) (hc : c2 = (((cy + dg xs i + dg zs i) / 4294967296 : Nat) : Int)) :
    ∃ cy' : Nat, c2 = (cy' : Int) ∧ AddRel xs zs n W g (i + 1) cy' (w.setCell ⟨g, i, none⟩ (.int .u32 v)) := by
  obtain ⟨⟨ys, hB, hl, hd, he⟩, hcy, hb⟩ := h
  have h1 := dg_lt hx i
  have h2 := dg_lt hz i
  refine ⟨_, hc, ⟨_, hB.set i _ v hv, by simpa using hl, dig_set hd i (Nat.mod_lt _ (by omega)), ?_⟩, ?_, hb.setCell hg _⟩
  · rw [val_set_take ys i _ (by omega), val_take_next, val_take_next]
    exact add_step he
  · have : (cy + dg xs i + dg zs i) / 4294967296 < 2 := by omega
    omega
theorem AddRel.stop {xs zs : List Nat} {n : Nat} {W w : World} {g cy : Nat} (h : AddRel xs zs n W g n cy w) (hg : W.heap.size ≤ g) (hx : xs.length = n) (hz : zs.length ≤ n) (hn : n + 1 ≤ 140737488355328) (v : Int) (hv : v = (cy : Int)) :
    ∃ ys, RL (w.setCell ⟨g, n, none⟩ (.int .u32 v)) (some ⟨g, 0, none⟩) (n + 1) ys ∧ val ys = val xs + val zs ∧ Below W.heap.size W (w.setCell ⟨g, n, none⟩ (.int .u32 v)) := by
  obtain ⟨⟨ys, hB, hl, hd, he⟩, hcy, hb⟩ := h
  have hl2 : (ys.set n cy).length = n + 1 := by simpa using hl
  have hr := (hB.set n cy v hv).read (dig_set hd n (by omega)) (by omega)
  rw [hl2] at hr
  refine ⟨_, hr, ?_, hb.setCell hg _⟩
  have e := val_set_take ys n cy (by omega)
  rw [List.take_of_length_le (by omega)] at e
  rw [e, ← List.take_of_length_le (Nat.le_of_eq hx), ← List.take_of_length_le hz, ← he, Nat.mul_comm]
theorem AddRel.cell {xs zs : List Nat} {n : Nat} {W w : World} {g i cy : Nat} (h : AddRel xs zs n W g i cy w) (j : Nat) (hj : j ≤ n) : (∃ v, w.cell? ⟨g, j, none⟩ = some v) ∧ w.frozen? ⟨g, j, none⟩ = false := by
  obtain ⟨⟨ys, hB, hl, hd, he⟩, hcy, hb⟩ := h
  exact ⟨⟨_, hB.cell j (by omega)⟩, hB.free j⟩


set_option maxHeartbeats 4000000 in
set_option maxRecDepth 100000 in
theorem add_any (w : World) (A B : Option Addr) (n m c d : Nat) (xs zs : List Nat) (hx : RL w A n xs) (hz : RL w B m zs) (hc : n ≤ c) (hd : m ≤ d) (hn : n ≤ 512) (hm : m ≤ 512) (hf : Fit (val xs + val zs)) :
    Calls Tryd.prog 151 #[.slice A n c, .slice B m d] w fun e w' => ∃ A' k, e = .returned (.tuple #[.slice A' k k, .int .i64 0]) ∧ RN w' A' k (val xs + val zs) ∧ Below w.heap.size w w' := by
  have HX := Lib.hid hx
  have HZ := Lib.hid hz
  have HF := Lib.hid hf
  clear hx hz hf
  by_cases hlt : n < m
  · have q0 : (n : Int) < (m : Int) := by omega
    have Hmk := Lib.hid (make_u32 (m + 1) (by omega) w)
    have E1 := Lib.hid (show ((m : Nat) : Int) + 1 = ((m + 1 : Nat) : Int) by omega)
    go_enter Tryd.func151, Tryd.ntmps151
    go_wp2_with fail
    rw [E1.out, Hmk.out]
    simp only [Result.andThen]
    rw [Oper.upon_value]
    have H0 := Lib.hid (AddRel.start zs xs m w w (Below.refl _ _))
    generalize w.alloc (.cells (mk0 (m + 1)) 118) = w0 at *
    go_wp2
    go_loopw [7, 23] (fun c k wr => ∃ cy i : Nat, c = .int .u64 cy ∧ k = .int .i64 i ∧ i ≤ m ∧ Hid (AddRel zs xs m w w.heap.size i cy wr)) (fun _ k _ => m - (intOf k).toNat)
    case atStart => exact ⟨0, 0, rfl, rfl, Nat.zero_le _, H0⟩
    case round =>
      obtain ⟨cy, i, rfl, rfl, hi, Hr⟩ := hrel
      by_cases hi2 : i < m
      · obtain ⟨b1, o1, rfl, hl1, hc1⟩ := HZ.out.2.2.2 (by omega)
        have hx1 := ((bcell Hr.out.bel).1 b1 (o1 + i) hl1).trans (hc1 i hi2)
        have d1 := dg_lt HZ.out.2.2.1 i
        have d2 := dg_lt HX.out.2.2.1 i
        have hcy := Hr.out.cy
        obtain ⟨⟨v0, hv0⟩, hf0⟩ := Hr.out.cell i hi
        by_cases hi3 : i < n
        · obtain ⟨b2, o2, rfl, hl2, hc2⟩ := HX.out.2.2.2 (by omega)
          have hx2 := ((bcell Hr.out.bel).1 b2 (o2 + i) hl2).trans (hc2 i hi3)
          clear hc1 hc2
          have q1 : (i : Int) < (m : Int) := by omega
          have q2 : (i : Int) < (n : Int) := by omega
          go_wp2
          go_roundw
          case rel =>
            obtain ⟨cy2, hcy2, hA⟩ := AddRel.step Hr.out (Nat.le_refl _) HZ.out.2.2.1 HX.out.2.2.1 hi2 ((↑cy + ↑(dg zs i) + ↑(dg xs i)) % 4294967296) ((↑cy + ↑(dg zs i) + ↑(dg xs i)) / 4294967296) (by omega) (by omega)
            exact ⟨cy2, i + 1, by rw [hcy2], by go_num, hi2, hA⟩
          case measure => simp only [intOf]; omega
        · clear hc1
          have q1 : (i : Int) < (m : Int) := by omega
          have q2 : ¬ (i : Int) < (n : Int) := by omega
          have z0 : dg xs i = 0 := dg_out (by rw [HX.out.1]; omega)
          have Z0 := Lib.hid z0
          clear z0
          go_wp2
          go_roundw
          case rel =>
            have z0 := Z0.out
            obtain ⟨cy2, hcy2, hA⟩ := AddRel.step Hr.out (Nat.le_refl _) HZ.out.2.2.1 HX.out.2.2.1 hi2 ((↑cy + ↑(dg zs i)) % 4294967296) ((↑cy + ↑(dg zs i)) / 4294967296) (by rw [z0]; omega) (by rw [z0]; omega)
            exact ⟨cy2, i + 1, by rw [hcy2], by go_num, hi2, hA⟩
          case measure => simp only [intOf]; omega
      · obtain rfl : i = m := by omega
        clear hi2
        have hcy := Hr.out.cy
        obtain ⟨⟨v0, hv0⟩, hf0⟩ := Hr.out.cell i (Nat.le_refl _)
        obtain ⟨ys, hys, hval, hb⟩ := AddRel.stop Hr.out (Nat.le_refl _) HZ.out.1 (by rw [HX.out.1]; omega) (by omega) (cy : Int) rfl
        rw [Nat.add_comm] at hval
        have HY := Lib.hid hys
        have HV := Lib.hid hval
        have HB := Lib.hid hb
        clear hys hval hb
        go_wp2_with fail
        refine (fits_any _ _ (i + 1) _ ys HY.out (Nat.le_refl _) (by rw [HV.out]; exact HF.out)).mono ?_
        rintro e w' ⟨k, rfl, hk, rfl⟩
        go_wp2
        go_ret2
        exact ⟨_, k, rfl, by rw [← HV.out]; exact hk, HB.out⟩

  · have q0 : ¬ (n : Int) < (m : Int) := by omega
    have Hmk := Lib.hid (make_u32 (n + 1) (by omega) w)
    have E1 := Lib.hid (show ((n : Nat) : Int) + 1 = ((n + 1 : Nat) : Int) by omega)
    go_enter Tryd.func151, Tryd.ntmps151
    go_wp2_with fail
    rw [E1.out, Hmk.out]
    simp only [Result.andThen]
    rw [Oper.upon_value]
    have H0 := Lib.hid (AddRel.start xs zs n w w (Below.refl _ _))
    generalize w.alloc (.cells (mk0 (n + 1)) 118) = w0 at *
    go_wp2
    go_loopw [7, 23] (fun c k wr => ∃ cy i : Nat, c = .int .u64 cy ∧ k = .int .i64 i ∧ i ≤ n ∧ Hid (AddRel xs zs n w w.heap.size i cy wr)) (fun _ k _ => n - (intOf k).toNat)
    case atStart => exact ⟨0, 0, rfl, rfl, Nat.zero_le _, H0⟩
    case round =>
      obtain ⟨cy, i, rfl, rfl, hi, Hr⟩ := hrel
      by_cases hi2 : i < n
      · obtain ⟨b1, o1, rfl, hl1, hc1⟩ := HX.out.2.2.2 (by omega)
        have hx1 := ((bcell Hr.out.bel).1 b1 (o1 + i) hl1).trans (hc1 i hi2)
        have d1 := dg_lt HX.out.2.2.1 i
        have d2 := dg_lt HZ.out.2.2.1 i
        have hcy := Hr.out.cy
        obtain ⟨⟨v0, hv0⟩, hf0⟩ := Hr.out.cell i hi
        by_cases hi3 : i < m
        · obtain ⟨b2, o2, rfl, hl2, hc2⟩ := HZ.out.2.2.2 (by omega)
          have hx2 := ((bcell Hr.out.bel).1 b2 (o2 + i) hl2).trans (hc2 i hi3)
          clear hc1 hc2
          have q1 : (i : Int) < (n : Int) := by omega
          have q2 : (i : Int) < (m : Int) := by omega
          go_wp2
          go_roundw
          case rel =>
            obtain ⟨cy2, hcy2, hA⟩ := AddRel.step Hr.out (Nat.le_refl _) HX.out.2.2.1 HZ.out.2.2.1 hi2 ((↑cy + ↑(dg xs i) + ↑(dg zs i)) % 4294967296) ((↑cy + ↑(dg xs i) + ↑(dg zs i)) / 4294967296) (by omega) (by omega)
            exact ⟨cy2, i + 1, by rw [hcy2], by go_num, hi2, hA⟩
          case measure => simp only [intOf]; omega
        · clear hc1
          have q1 : (i : Int) < (n : Int) := by omega
          have q2 : ¬ (i : Int) < (m : Int) := by omega
          have z0 : dg zs i = 0 := dg_out (by rw [HZ.out.1]; omega)
          have Z0 := Lib.hid z0
          clear z0
          go_wp2
          go_roundw
          case rel =>
            have z0 := Z0.out
            obtain ⟨cy2, hcy2, hA⟩ := AddRel.step Hr.out (Nat.le_refl _) HX.out.2.2.1 HZ.out.2.2.1 hi2 ((↑cy + ↑(dg xs i)) % 4294967296) ((↑cy + ↑(dg xs i)) / 4294967296) (by rw [z0]; omega) (by rw [z0]; omega)
            exact ⟨cy2, i + 1, by rw [hcy2], by go_num, hi2, hA⟩
          case measure => simp only [intOf]; omega
      · obtain rfl : i = n := by omega
        clear hi2
        have hcy := Hr.out.cy
        obtain ⟨⟨v0, hv0⟩, hf0⟩ := Hr.out.cell i (Nat.le_refl _)
        obtain ⟨ys, hys, hval, hb⟩ := AddRel.stop Hr.out (Nat.le_refl _) HX.out.1 (by rw [HZ.out.1]; omega) (by omega) (cy : Int) rfl
        rw [show val xs + val zs = val xs + val zs from rfl] at hval
        have HY := Lib.hid hys
        have HV := Lib.hid hval
        have HB := Lib.hid hb
        clear hys hval hb
        go_wp2_with fail
        refine (fits_any _ _ (i + 1) _ ys HY.out (Nat.le_refl _) (by rw [HV.out]; exact HF.out)).mono ?_
        rintro e w' ⟨k, rfl, hk, rfl⟩
        go_wp2
        go_ret2
        exact ⟨_, k, rfl, by rw [← HV.out]; exact hk, HB.out⟩

end Go.Proofs.YtgioppkggpfnoaaDoor.Nu
end

section
/- The walks of package whole: of, Of, Check, Sign, Neg, Abs, Compare. -/
set_option linter.unusedVariables false
namespace Go.Proofs.YtgioppkggpfnoaaDoor.Nu
open Go.RowKit Go.Proofs

/-- A whole number, as api.Int holds it: with this sign bit, over this row. -/
def RI (w : World) (b : Bool) (A : Option Addr) (n c : Nat) (z : Int) : Prop := b = decide (z < 0) ∧ n ≤ c ∧ RN w A n z.natAbs
def RZ (w : World) (v : Value) (z : Int) : Prop := ∃ b A n c, v = .agg #[.bool b, .slice A n c] ∧ RI w b A n c z
theorem RI.below {w w' : World} {b : Bool} {A : Option Addr} {n c : Nat} {z : Int} (h : RI w b A n c z) (hb : Below w.heap.size w w') : RI w' b A n c z := ⟨h.1, h.2.1, h.2.2.below hb⟩
theorem RZ.below {w w' : World} {v : Value} {z : Int} (h : RZ w v z) (hb : Below w.heap.size w w') : RZ w' v z := by
  obtain ⟨b, A, n, c, rfl, h⟩ := h
  exact ⟨b, A, n, c, rfl, h.below hb⟩
/-- A block of two cells: a struct of two fields that lie in one cell each. -/
def Blk2 (w : World) (g : Nat) (t : TypeId) (v0 v1 : Value) : Prop := w.heap[g]? = some (.cells #[v0, v1] t (0, 0))
theorem Blk2.lt {w : World} {g : Nat} {t : TypeId} {v0 v1 : Value} (h : Blk2 w g t v0 v1) : g < w.heap.size := (Array.getElem?_eq_some_iff.1 h).1
theorem Blk2.below {w w' : World} {g : Nat} {t : TypeId} {v0 v1 : Value} (h : Blk2 w g t v0 v1) (hb : Below w.heap.size w w') : Blk2 w' g t v0 v1 := by
  unfold Blk2; rw [hb.block g h.lt]; exact h
theorem Blk2.alloc {w : World} {g : Nat} {t : TypeId} {v0 v1 : Value} (h : Blk2 w g t v0 v1) (o : Obj) : Blk2 (w.alloc o) g t v0 v1 := by
  unfold Blk2; rw [Lib.alloc_old _ _ _ h.lt]; exact h
theorem Blk2.new (w : World) (t : TypeId) (v0 v1 : Value) : Blk2 (w.alloc (.cells #[v0, v1] t)) w.heap.size t v0 v1 := alloc_top w _
theorem Blk2.facts {w : World} {g : Nat} {t : TypeId} {v0 v1 : Value} (h : Blk2 w g t v0 v1) : w.cell? ⟨g, 0, none⟩ = some v0 ∧ w.cell? ⟨g, 1, none⟩ = some v1 ∧ w.frozen? ⟨g, 0, none⟩ = false ∧ w.frozen? ⟨g, 1, none⟩ = false :=
  ⟨by rw [Lib.cell_of_heap h]; rfl, by rw [Lib.cell_of_heap h]; rfl, Lib.frozen_of_heap h 0, Lib.frozen_of_heap h 1⟩
theorem Blk2.set {w : World} {g : Nat} {t : TypeId} {v0 v1 : Value} (h : Blk2 w g t v0 v1) (u0 u1 : Value) : Blk2 ((w.setCell ⟨g, 0, none⟩ u0).setCell ⟨g, 1, none⟩ u1) g t u0 u1 := by
  unfold Blk2
  rw [heap_setCell_same _ g 1 _ _ _ (heap_setCell_same w g 0 _ _ _ h)]
  rfl
theorem Blk2.other {w : World} {g g' : Nat} {t : TypeId} {v0 v1 : Value} (h : Blk2 w g t v0 v1) (hg : g ≠ g') (u0 u1 : Value) : Blk2 ((w.setCell ⟨g', 0, none⟩ u0).setCell ⟨g', 1, none⟩ u1) g t v0 v1 := by
  unfold Blk2
  rw [Below.heap_setCell _ _ _ _ hg, Below.heap_setCell _ _ _ _ hg]
  exact h
theorem RL.set2 {w : World} {A : Option Addr} {n : Nat} {xs : List Nat} (h : RL w A n xs) {g : Nat} {t : TypeId} {p : Bool} {a : Option Addr} {l c : Nat} (hB : Blk2 w g t (.bool p) (.slice a l c)) (u0 u1 : Value) :
    RL ((w.setCell ⟨g, 0, none⟩ u0).setCell ⟨g, 1, none⟩ u1) A n xs := by
  obtain ⟨h1, h2, hd, h3⟩ := h
  refine ⟨h1, h2, hd, fun h0 => ?_⟩
  obtain ⟨b, off, hA, hlt, hc⟩ := h3 h0
  have hbg : b ≠ g := fun e => by
    subst e
    have h4 := hc 0 h0
    rw [Lib.cell_of_heap hB] at h4
    rcases Nat.lt_or_ge (off + 0) 2 with h5 | h5
    · have : off + 0 = 0 ∨ off + 0 = 1 := by omega
      rcases this with h6 | h6 <;> rw [h6] at h4 <;> simp at h4
    · rw [Array.getElem?_eq_none (by simpa using h5)] at h4
      cases h4
  refine ⟨b, off, hA, by simpa [World.setCell] using hlt, fun j hj => ?_⟩
  rw [← hc j hj]
  exact World.cell?_of_block ((Below.heap_setCell _ _ _ _ hbg).trans (Below.heap_setCell _ _ _ _ hbg))
theorem RI.set2 {w : World} {b : Bool} {A : Option Addr} {n c : Nat} {z : Int} (h : RI w b A n c z) {g : Nat} {t : TypeId} {p : Bool} {a : Option Addr} {l c' : Nat} (hB : Blk2 w g t (.bool p) (.slice a l c')) (u0 u1 : Value) :
    RI ((w.setCell ⟨g, 0, none⟩ u0).setCell ⟨g, 1, none⟩ u1) b A n c z := ⟨h.1, h.2.1, RL.set2 h.2.2 hB u0 u1⟩
theorem below_set2 {B : Nat} {w w' : World} (h : Below B w w') {g : Nat} (hg : B ≤ g) (u0 u1 : Value) : Below B w ((w'.setCell ⟨g, 0, none⟩ u0).setCell ⟨g, 1, none⟩ u1) :=
  (h.setCell (p := ⟨g, 0, none⟩) hg u0).setCell (p := ⟨g, 1, none⟩) hg u1
/-- What 'RI' says of a number whose value is told otherwise. -/
theorem RI.cast {w : World} {b : Bool} {A : Option Addr} {n c : Nat} {z z' : Int} (h : RI w b A n c z) (e : z = z') : RI w b A n c z' := e ▸ h
theorem RI.neg {w : World} {b : Bool} {A : Option Addr} {n c : Nat} {z : Int} (h : RI w b A n c z) : z = if b then -(z.natAbs : Int) else (z.natAbs : Int) := by
  have := h.1
  by_cases hz : z < 0
  · rw [decide_eq_true hz] at this; subst this; simp; omega
  · rw [decide_eq_false hz] at this; subst this; simp; omega
def Size (z : Int) : Prop := Fit z.natAbs

set_option maxHeartbeats 1000000 in
theorem wof_any (w : World) (b : Bool) (A : Option Addr) (n c : Nat) :
    Calls Tryd.prog 127 #[.bool b, .slice A n c] w fun e w' => e = .returned (.agg #[.bool (b && decide (0 < n)), .slice A n c]) ∧ Below w.heap.size w w' := by
  by_cases h : 0 < n
  · have q : (0 : Int) < (n : Int) := by omega
    rw [decide_eq_true h]
    cases b
    · go_enter Tryd.func127, Tryd.ntmps127
      go_wp2
      refine bodyPost_ret (v := .agg #[.bool false, .slice A n c]) (by simp [results, Tryd.f127, go_sem, *]) rfl ?_
      exact ⟨rfl, (Below.refl _ w).alloc (Nat.le_refl _) _⟩
    · go_enter Tryd.func127, Tryd.ntmps127
      go_wp2
      refine bodyPost_ret (v := .agg #[.bool true, .slice A n c]) (by simp [results, Tryd.f127, go_sem, *]) rfl ?_
      exact ⟨rfl, (Below.refl _ w).alloc (Nat.le_refl _) _⟩
  · have q : ¬ (0 : Int) < (n : Int) := by omega
    obtain rfl : n = 0 := by omega
    clear h q
    cases b
    · go_enter Tryd.func127, Tryd.ntmps127
      go_wp2
      refine bodyPost_ret (v := .agg #[.bool false, .slice A 0 c]) (by simp [results, Tryd.f127, go_sem, *]) rfl ?_
      exact ⟨rfl, (Below.refl _ w).alloc (Nat.le_refl _) _⟩
    · go_enter Tryd.func127, Tryd.ntmps127
      go_wp2
      refine bodyPost_ret (v := .agg #[.bool false, .slice A 0 c]) (by simp [results, Tryd.f127, go_sem, *]) rfl ?_
      exact ⟨rfl, (Below.refl _ w).alloc (Nat.le_refl _) _⟩
theorem RI.pos {w : World} {b : Bool} {A : Option Addr} {n c : Nat} {z : Int} (h : RI w b A n c z) : 0 < n ↔ z ≠ 0 := by
  have h1 := h.2.2.1
  by_cases hz : z = 0
  · subst hz
    rw [show (0 : Int).natAbs = 0 from rfl, digs_zero] at h1
    simp at h1
    omega
  · have : digs z.natAbs ≠ [] := fun e => hz (by have := digs_eq_nil.1 e; omega)
    have := List.length_pos_iff.2 this
    exact ⟨fun _ => hz, fun _ => by omega⟩
/-- A number of this size, below 0 if b is true: as 'of' makes it. -/
theorem RI.of {w : World} {A : Option Addr} {n c x : Nat} (b : Bool) (h : RN w A n x) (hc : n ≤ c) : RI w (b && decide (0 < n)) A n c (if b then -(x : Int) else x) := by
  have h0 : 0 < n ↔ x ≠ 0 := by
    have h1 := h.1
    by_cases hx : x = 0
    · subst hx; rw [digs_zero] at h1; simp at h1; omega
    · have : digs x ≠ [] := fun e => hx (digs_eq_nil.1 e)
      have := List.length_pos_iff.2 this
      exact ⟨fun _ => hx, fun _ => by omega⟩
  refine ⟨?_, hc, ?_⟩
  · cases b
    · have : ¬ (x : Int) < 0 := by omega
      simp [this]
    · simp only [Bool.true_and, if_true]
      congr 1
      rw [h0]
      apply propext
      omega
  · cases b
    · simpa using h
    · simpa using h

def sgn (z : Int) : Int := if z = 0 then 0 else if z < 0 then -1 else 1
set_option maxHeartbeats 1000000 in
theorem wsign_any (w : World) (b : Bool) (A : Option Addr) (n c : Nat) (z : Int) (h : RI w b A n c z) :
    Calls Tryd.prog 94 #[.agg #[.bool b, .slice A n c]] w fun e w' => e = .returned (.int .i64 (sgn z)) ∧ Below w.heap.size w w' := by
  have h0 := h.pos
  have hb := h.1
  clear h
  by_cases hz : z = 0
  · have q : ((n : Int) == 0) = true := by rw [beq_iff_eq]; omega
    rw [show sgn z = 0 by simp [sgn, hz]]
    clear hb hz h0
    go_enter Tryd.func94, Tryd.ntmps94
    go_wp2
    go_ret
    exact ⟨rfl, (Below.refl _ w).alloc (Nat.le_refl _) _⟩
  · have q : ((n : Int) == 0) = false := by rw [beq_eq_false_iff_ne]; omega
    by_cases hn : z < 0
    · rw [show sgn z = -1 by simp [sgn, hz, hn]]
      rw [decide_eq_true hn] at hb
      subst hb
      clear hz hn h0
      go_enter Tryd.func94, Tryd.ntmps94
      go_wp2
      go_ret
      exact ⟨rfl, (Below.refl _ w).alloc (Nat.le_refl _) _⟩
    · rw [show sgn z = 1 by simp [sgn, hz, hn]]
      rw [decide_eq_false hn] at hb
      subst hb
      clear hz hn h0
      go_enter Tryd.func94, Tryd.ntmps94
      go_wp2
      go_ret
      exact ⟨rfl, (Below.refl _ w).alloc (Nat.le_refl _) _⟩

theorem abs_ite (b : Bool) (n : Nat) : (if b then -(n : Int) else (n : Int)).natAbs = n := by cases b <;> simp
theorem add_sum {b : Bool} {z z2 : Int} (h : b = decide (z < 0)) (h2 : b = decide (z2 < 0)) : (if b then -((val (digs z.natAbs) + val (digs z2.natAbs) : Nat) : Int) else ((val (digs z.natAbs) + val (digs z2.natAbs) : Nat) : Int)) = z + z2 := by
  rw [val_digs, val_digs]
  cases b
  · have := of_decide_eq_false h.symm
    have := of_decide_eq_false h2.symm
    simp; omega
  · have := of_decide_eq_true h.symm
    have := of_decide_eq_true h2.symm
    simp; omega
theorem sub_sum {b b2 : Bool} {z z2 : Int} (h : b = decide (z < 0)) (h2 : b2 = decide (z2 < 0)) (hb : b ≠ b2) (hle : z2.natAbs ≤ z.natAbs) : (if b then -((z.natAbs - z2.natAbs : Nat) : Int) else ((z.natAbs - z2.natAbs : Nat) : Int)) = z + z2 := by
  subst h h2
  by_cases h1 : z < 0
  · by_cases h3 : z2 < 0
    · simp [h1, h3] at hb
    · simp [h1]; omega
  · by_cases h3 : z2 < 0
    · simp [h1]; omega
    · simp [h1, h3] at hb

set_option maxHeartbeats 2000000 in
theorem wadd_any (w : World) (b b2 : Bool) (A A2 : Option Addr) (n c n2 c2 : Nat) (z z2 : Int) (h : RI w b A n c z) (h2 : RI w b2 A2 n2 c2 z2) (hn : n ≤ 512) (hn2 : n2 ≤ 512) (hf : Size (z + z2)) :
    Calls Tryd.prog 102 #[.agg #[.bool b, .slice A n c], .agg #[.bool b2, .slice A2 n2 c2]] w fun e w' => (∃ b' A' n' c', e = .returned (.tuple #[.agg #[.bool b', .slice A' n' c'], .int .i64 0]) ∧ RI w' b' A' n' c' (z + z2)) ∧ Below w.heap.size w w' := by
  have H := Lib.hid h
  have H2 := Lib.hid h2
  have HF := Lib.hid hf
  clear h h2 hf
  by_cases hbb : b = b2
  · have q : (b == b2) = true := by rw [hbb]; exact beq_self_eq_true _
    have HS := Lib.hid (add_sum H.out.1 (hbb.trans H2.out.1))
    have B0 := Lib.hid (((Blk2.new w 51 (.bool b) (.slice A n c)).alloc (.cells #[.bool b2, .slice A2 n2 c2] 51)).alloc (.cells #[.bool false, .slice none 0 0] 51))
    have B1 := Lib.hid ((Blk2.new (w.alloc (.cells #[.bool b, .slice A n c] 51)) 51 (.bool b2) (.slice A2 n2 c2)).alloc (.cells #[.bool false, .slice none 0 0] 51))
    have B2 := Lib.hid (Blk2.new ((w.alloc (.cells #[.bool b, .slice A n c] 51)).alloc (.cells #[.bool b2, .slice A2 n2 c2] 51)) 51 (.bool false) (.slice none 0 0))
    have HW := Lib.hid (show Below w.heap.size w (((w.alloc (.cells #[.bool b, .slice A n c] 51)).alloc (.cells #[.bool b2, .slice A2 n2 c2] 51)).alloc (.cells #[.bool false, .slice none 0 0] 51)) from (((Below.refl _ w).alloc (Nat.le_refl _) _).alloc (by simp) _).alloc (by simp; omega) _)
    simp only [World.size_alloc] at B0 B1 B2
    clear hbb
    go_enter Tryd.func102, Tryd.ntmps102
    go_wp2_with fail
    generalize ((w.alloc (.cells #[.bool b, .slice A n c] 51)).alloc (.cells #[.bool b2, .slice A2 n2 c2] 51)).alloc (.cells #[.bool false, .slice none 0 0] 51) = w0 at *
    refine (add_any _ A A2 n n2 c c2 (digs z.natAbs) (digs z2.natAbs) (H.out.2.2.below HW.out) (H2.out.2.2.below HW.out) H.out.2.1 H2.out.2.1 hn hn2 (by
      have h3 := HF.out
      unfold Size at h3
      rw [← HS.out] at h3
      rw [abs_ite] at h3
      exact h3)).mono ?_
    rintro e w1 ⟨A', k, rfl, hr, hb⟩
    obtain ⟨a0, a1, _, _⟩ := (B0.out.below hb).facts
    have B2' := Lib.hid (B2.out.below hb)
    have HR := Lib.hid hr
    have HB := Lib.hid (HW.out.trans (hb.mono HW.out.size))
    clear hr hb B1 B2
    go_wp2_with fail
    refine (wof_any w1 b A' k k).mono ?_
    rintro e w2 ⟨rfl, hb2⟩
    obtain ⟨r0, r1, s0, s1⟩ := (B2'.out.below hb2).facts
    have B3 := Lib.hid (B2'.out.below hb2)
    have HB2 := Lib.hid (HB.out.trans (hb2.mono HB.out.size))
    have HR2 := Lib.hid (HR.out.below hb2)
    clear hb2 a0 a1
    go_wp2
    refine bodyPost_ret (v := .tuple #[.agg #[.bool (b && decide (0 < k)), .slice A' k k], .int .i64 0]) ?_ rfl ?_
    · simp [results, Tryd.f102, go_sem, r0, r1]
    · exact ⟨⟨_, _, _, _, rfl, ((RI.of b HR2.out (Nat.le_refl _)).cast HS.out).set2 B3.out _ _⟩, below_set2 HB2.out (by omega) _ _⟩
  · have q : (b == b2) = false := by rw [beq_eq_false_iff_ne]; exact hbb
    by_cases hle0 : z2.natAbs ≤ z.natAbs
    · have hle := hle0
      have HS := Lib.hid (sub_sum H.out.1 H2.out.1 hbb hle)
      have hcmp := cmp_nonneg hle
      have HLE := Lib.hid hle
      clear hbb hle hle0
      have B0 := Lib.hid (((Blk2.new w 51 (.bool b) (.slice A n c)).alloc (.cells #[.bool b2, .slice A2 n2 c2] 51)).alloc (.cells #[.bool false, .slice none 0 0] 51))
      have B1 := Lib.hid ((Blk2.new (w.alloc (.cells #[.bool b, .slice A n c] 51)) 51 (.bool b2) (.slice A2 n2 c2)).alloc (.cells #[.bool false, .slice none 0 0] 51))
      have B2 := Lib.hid (Blk2.new ((w.alloc (.cells #[.bool b, .slice A n c] 51)).alloc (.cells #[.bool b2, .slice A2 n2 c2] 51)) 51 (.bool false) (.slice none 0 0))
      have HW := Lib.hid (show Below w.heap.size w (((w.alloc (.cells #[.bool b, .slice A n c] 51)).alloc (.cells #[.bool b2, .slice A2 n2 c2] 51)).alloc (.cells #[.bool false, .slice none 0 0] 51)) from (((Below.refl _ w).alloc (Nat.le_refl _) _).alloc (by simp) _).alloc (by simp; omega) _)
      simp only [World.size_alloc] at B0 B1 B2
      go_enter Tryd.func102, Tryd.ntmps102
      go_wp2_with fail
      generalize ((w.alloc (.cells #[.bool b, .slice A n c] 51)).alloc (.cells #[.bool b2, .slice A2 n2 c2] 51)).alloc (.cells #[.bool false, .slice none 0 0] 51) = w0 at *
      refine (compare_any _ A A2 n n2 c c2 _ _ (H.out.2.2.below HW.out) (H2.out.2.2.below HW.out)).mono ?_
      rintro e w1 ⟨rfl, hb⟩
      generalize cmp z.natAbs z2.natAbs = t at *
      obtain ⟨a0, a1, _, _⟩ := (B0.out.below hb).facts
      obtain ⟨d0, d1, _, _⟩ := (B1.out.below hb).facts
      have B0' := Lib.hid (B0.out.below hb)
      have B2' := Lib.hid (B2.out.below hb)
      have HB := Lib.hid (HW.out.trans (hb.mono HW.out.size))
      clear hb B0 B1 B2
      go_wp2_with fail
      refine (sub_any _ A A2 n n2 c c2 _ _ (H.out.2.2.below HB.out) (H2.out.2.2.below HB.out) H.out.2.1 H2.out.2.1 hn HLE.out).mono ?_
      rintro e w2 ⟨A', k, rfl, hr, hb⟩
      obtain ⟨a0', a1', _, _⟩ := (B0'.out.below hb).facts
      have B2 := Lib.hid (B2'.out.below hb)
      have HR := Lib.hid hr
      have HB1 := Lib.hid (HB.out.trans (hb.mono HB.out.size))
      clear hr hb a0 a1 d0 d1 B2'
      go_wp2_with fail
      refine (wof_any w2 b A' k k).mono ?_
      rintro e w3 ⟨rfl, hb2⟩
      obtain ⟨r0, r1, s0, s1⟩ := (B2.out.below hb2).facts
      have B3 := Lib.hid (B2.out.below hb2)
      have HB2 := Lib.hid (HB1.out.trans (hb2.mono HB1.out.size))
      have HR2 := Lib.hid (HR.out.below hb2)
      clear hb2 a0' a1'
      go_wp2
      refine bodyPost_ret (v := .tuple #[.agg #[.bool (b && decide (0 < k)), .slice A' k k], .int .i64 0]) ?_ rfl ?_
      · simp [results, Tryd.f102, go_sem, r0, r1]
      · exact ⟨⟨_, _, _, _, rfl, ((RI.of b HR2.out (Nat.le_refl _)).cast HS.out).set2 B3.out _ _⟩, below_set2 HB2.out (by omega) _ _⟩
    · have hle : z.natAbs ≤ z2.natAbs := by omega
      have hlt : z.natAbs < z2.natAbs := by omega
      have HS := Lib.hid ((sub_sum H2.out.1 H.out.1 (Ne.symm hbb) hle).trans (Int.add_comm _ _))
      have hcmp : cmp z.natAbs z2.natAbs < 0 := by rw [cmp_lt hlt]; decide
      have HLE := Lib.hid hle
      clear hbb hle hle0 hlt
      have B0 := Lib.hid (((Blk2.new w 51 (.bool b) (.slice A n c)).alloc (.cells #[.bool b2, .slice A2 n2 c2] 51)).alloc (.cells #[.bool false, .slice none 0 0] 51))
      have B1 := Lib.hid ((Blk2.new (w.alloc (.cells #[.bool b, .slice A n c] 51)) 51 (.bool b2) (.slice A2 n2 c2)).alloc (.cells #[.bool false, .slice none 0 0] 51))
      have B2 := Lib.hid (Blk2.new ((w.alloc (.cells #[.bool b, .slice A n c] 51)).alloc (.cells #[.bool b2, .slice A2 n2 c2] 51)) 51 (.bool false) (.slice none 0 0))
      have HW := Lib.hid (show Below w.heap.size w (((w.alloc (.cells #[.bool b, .slice A n c] 51)).alloc (.cells #[.bool b2, .slice A2 n2 c2] 51)).alloc (.cells #[.bool false, .slice none 0 0] 51)) from (((Below.refl _ w).alloc (Nat.le_refl _) _).alloc (by simp) _).alloc (by simp; omega) _)
      simp only [World.size_alloc] at B0 B1 B2
      go_enter Tryd.func102, Tryd.ntmps102
      go_wp2_with fail
      generalize ((w.alloc (.cells #[.bool b, .slice A n c] 51)).alloc (.cells #[.bool b2, .slice A2 n2 c2] 51)).alloc (.cells #[.bool false, .slice none 0 0] 51) = w0 at *
      refine (compare_any _ A A2 n n2 c c2 _ _ (H.out.2.2.below HW.out) (H2.out.2.2.below HW.out)).mono ?_
      rintro e w1 ⟨rfl, hb⟩
      generalize cmp z.natAbs z2.natAbs = t at *
      obtain ⟨a0, a1, _, _⟩ := (B0.out.below hb).facts
      obtain ⟨d0, d1, _, _⟩ := (B1.out.below hb).facts
      have B0' := Lib.hid (((B0.out.below hb).set (.bool b2) (.slice A2 n2 c2)).other (g' := w.heap.size + 1) (by omega) (.bool b) (.slice A n c))
      have B2' := Lib.hid (((B2.out.below hb).other (g' := w.heap.size) (by omega) (.bool b2) (.slice A2 n2 c2)).other (g' := w.heap.size + 1) (by omega) (.bool b) (.slice A n c))
      have HB := Lib.hid (below_set2 (g := w.heap.size + 1) (below_set2 (g := w.heap.size) (HW.out.trans (hb.mono HW.out.size)) (by omega) (.bool b2) (.slice A2 n2 c2)) (by omega) (.bool b) (.slice A n c))
      obtain ⟨_, _, f0, f1⟩ := (B0.out.below hb).facts
      obtain ⟨_, _, f2, f3⟩ := (B1.out.below hb).facts
      clear hb B0 B1 B2
      go_wp2_with fail
      refine (sub_any _ A2 A n2 n c2 c _ _ (H2.out.2.2.below HB.out) (H.out.2.2.below HB.out) H2.out.2.1 H.out.2.1 hn2 HLE.out).mono ?_
      rintro e w2 ⟨A', k, rfl, hr, hb⟩
      obtain ⟨a0', a1', _, _⟩ := (B0'.out.below hb).facts
      have B2 := Lib.hid (B2'.out.below hb)
      have HR := Lib.hid hr
      have HB1 := Lib.hid (HB.out.trans (hb.mono HB.out.size))
      clear hr hb a0 a1 d0 d1 B2'
      go_wp2_with fail
      refine (wof_any w2 b2 A' k k).mono ?_
      rintro e w3 ⟨rfl, hb2⟩
      obtain ⟨r0, r1, s0, s1⟩ := (B2.out.below hb2).facts
      have B3 := Lib.hid (B2.out.below hb2)
      have HB2 := Lib.hid (HB1.out.trans (hb2.mono HB1.out.size))
      have HR2 := Lib.hid (HR.out.below hb2)
      clear hb2 a0' a1'
      go_wp2
      refine bodyPost_ret (v := .tuple #[.agg #[.bool (b2 && decide (0 < k)), .slice A' k k], .int .i64 0]) ?_ rfl ?_
      · simp [results, Tryd.f102, go_sem, r0, r1]
      · exact ⟨⟨_, _, _, _, rfl, ((RI.of b2 HR2.out (Nat.le_refl _)).cast HS.out).set2 B3.out _ _⟩, below_set2 HB2.out (by omega) _ _⟩
end Go.Proofs.YtgioppkggpfnoaaDoor.Nu
end

section
/- The walks of package whole: Mul. -/
set_option linter.unusedVariables false
namespace Go.Proofs.YtgioppkggpfnoaaDoor.Nu
open Go.RowKit Go.Proofs

theorem mul_prod {b b2 : Bool} {z z2 : Int} (h : b = decide (z < 0)) (h2 : b2 = decide (z2 < 0)) : (if (b != b2) then -((z.natAbs * z2.natAbs : Nat) : Int) else ((z.natAbs * z2.natAbs : Nat) : Int)) = z * z2 := by
  subst h h2
  have e : ((z.natAbs * z2.natAbs : Nat) : Int) = (z.natAbs : Int) * (z2.natAbs : Int) := by simp
  by_cases h1 : z < 0
  · have e1 : (z.natAbs : Int) = -z := by omega
    by_cases h3 : z2 < 0
    · have e2 : (z2.natAbs : Int) = -z2 := by omega
      rw [e, e1, e2]; simp [h1, h3, Int.neg_mul, Int.mul_neg]
    · have e2 : (z2.natAbs : Int) = z2 := by omega
      rw [e, e1, e2]; simp [h1, h3, Int.neg_mul, Int.mul_neg]
  · have e1 : (z.natAbs : Int) = z := by omega
    by_cases h3 : z2 < 0
    · have e2 : (z2.natAbs : Int) = -z2 := by omega
      rw [e, e1, e2]; simp [h1, h3, Int.neg_mul, Int.mul_neg]
    · have e2 : (z2.natAbs : Int) = z2 := by omega
      rw [e, e1, e2]; simp [h1, h3, Int.neg_mul, Int.mul_neg]

set_option maxHeartbeats 2000000 in
theorem wmul_any (w : World) (b b2 : Bool) (A A2 : Option Addr) (n c n2 c2 : Nat) (z z2 : Int) (h : RI w b A n c z) (h2 : RI w b2 A2 n2 c2 z2) (hn : n + n2 ≤ 513) (hf : Size (z * z2)) :
    Calls Tryd.prog 99 #[.agg #[.bool b, .slice A n c], .agg #[.bool b2, .slice A2 n2 c2]] w fun e w' => (∃ b' A' n' c', e = .returned (.tuple #[.agg #[.bool b', .slice A' n' c'], .int .i64 0]) ∧ RI w' b' A' n' c' (z * z2)) ∧ Below w.heap.size w w' := by
  have H := Lib.hid h
  have H2 := Lib.hid h2
  have HF := Lib.hid hf
  have HS := Lib.hid (mul_prod h.1 h2.1)
  clear h h2 hf
  have B0 := Lib.hid (((Blk2.new w 51 (.bool b) (.slice A n c)).alloc (.cells #[.bool b2, .slice A2 n2 c2] 51)).alloc (.cells #[.bool false, .slice none 0 0] 51))
  have B1 := Lib.hid ((Blk2.new (w.alloc (.cells #[.bool b, .slice A n c] 51)) 51 (.bool b2) (.slice A2 n2 c2)).alloc (.cells #[.bool false, .slice none 0 0] 51))
  have B2 := Lib.hid (Blk2.new ((w.alloc (.cells #[.bool b, .slice A n c] 51)).alloc (.cells #[.bool b2, .slice A2 n2 c2] 51)) 51 (.bool false) (.slice none 0 0))
  have HW := Lib.hid (show Below w.heap.size w (((w.alloc (.cells #[.bool b, .slice A n c] 51)).alloc (.cells #[.bool b2, .slice A2 n2 c2] 51)).alloc (.cells #[.bool false, .slice none 0 0] 51)) from (((Below.refl _ w).alloc (Nat.le_refl _) _).alloc (by simp) _).alloc (by simp; omega) _)
  simp only [World.size_alloc] at B0 B1 B2
  go_enter Tryd.func99, Tryd.ntmps99
  go_wp2_with fail
  generalize ((w.alloc (.cells #[.bool b, .slice A n c] 51)).alloc (.cells #[.bool b2, .slice A2 n2 c2] 51)).alloc (.cells #[.bool false, .slice none 0 0] 51) = w0 at *
  refine (mul_any _ A A2 n n2 c c2 _ _ (H.out.2.2.below HW.out) (H2.out.2.2.below HW.out) H.out.2.1 H2.out.2.1 hn (by
    have h3 := HF.out
    unfold Size at h3
    rw [← HS.out, abs_ite] at h3
    exact h3)).mono ?_
  rintro e w1 ⟨A', k, c', hkc, rfl, hr, hb⟩
  obtain ⟨a0, a1, _, _⟩ := (B0.out.below hb).facts
  obtain ⟨d0, d1, _, _⟩ := (B1.out.below hb).facts
  have B2' := Lib.hid (B2.out.below hb)
  have HR := Lib.hid hr
  have HB := Lib.hid (HW.out.trans (hb.mono HW.out.size))
  clear hr hb B1 B2
  go_wp2_with fail
  refine (wof_any w1 (b != b2) A' k c').mono ?_
  rintro e w2 ⟨rfl, hb2⟩
  obtain ⟨r0, r1, s0, s1⟩ := (B2'.out.below hb2).facts
  have B3 := Lib.hid (B2'.out.below hb2)
  have HB2 := Lib.hid (HB.out.trans (hb2.mono HB.out.size))
  have HR2 := Lib.hid (HR.out.below hb2)
  clear hb2 a0 a1 d0 d1
  go_wp2
  refine bodyPost_ret (v := .tuple #[.agg #[.bool ((b != b2) && decide (0 < k)), .slice A' k c'], .int .i64 0]) ?_ rfl ?_
  · simp [results, Tryd.f99, go_sem, r0, r1]
  · exact ⟨⟨_, _, _, _, rfl, ((RI.of (b != b2) HR2.out hkc).cast HS.out).set2 B3.out _ _⟩, below_set2 HB2.out (by omega) _ _⟩

end Go.Proofs.YtgioppkggpfnoaaDoor.Nu
end

section
/- The walk of limbs.Left. -/
set_option linter.unusedVariables false
namespace Go.Proofs.YtgioppkggpfnoaaDoor.Nu
open Go.RowKit Go.Proofs

set_option maxHeartbeats 4000000 in
set_option maxRecDepth 100000 in
theorem left_any (w : World) (A : Option Addr) (n c x s : Nat) (hx : RN w A n x) (hc : n ≤ c) (hn : n ≤ 512) (hs : s ≤ 16384) (hf : Fit (x * 2 ^ s)) :
    Calls Tryd.prog 20 #[.slice A n c, .int .i64 s] w fun e w' => ∃ A' k c', k ≤ c' ∧ e = .returned (.tuple #[.slice A' k c', .int .i64 0]) ∧ RN w' A' k (x * 2 ^ s) ∧ Below w.heap.size w w' := by
  have hnx := hx.1
  have HX := Lib.hid hx
  have HN := Lib.hid hnx
  have HF := Lib.hid hf
  clear hx hnx hf
  have z0 : ¬ (s : Int) < 0 := by omega
  by_cases hn0 : n = 0
  · have hx0 : x = 0 := digs_eq_nil.1 (List.length_eq_zero_iff.1 (by rw [HN.out, hn0]))
    have Hx0 := Lib.hid hx0
    have q0 : ((n : Int) == 0) = true := by rw [hn0]; rfl
    clear hx0 hn0
    go_enter Tryd.func20, Tryd.ntmps20
    go_wp2
    go_ret2
    exact ⟨none, 0, 0, Nat.le_refl _, rfl, by rw [Hx0.out, Nat.zero_mul]; exact RN.zero _ _, Below.refl _ _⟩
  have q0 : ((n : Int) == 0) = false := by rw [beq_eq_false_iff_ne]; omega
  have q2 : ¬ (16384 : Int) < (s : Int) := by omega
  obtain ⟨q, r, hqr, hr⟩ : ∃ q r : Nat, s = 32 * q + r ∧ r < 32 := ⟨s / 32, s % 32, by omega, by omega⟩
  have hq : (s : Int) / 32 = (q : Int) := by omega
  have hr2 : (s : Int) % 32 = (r : Int) := by omega
  have hq3 : q ≤ 512 := by omega
  have E1 := Lib.hid (show ((n : Nat) : Int) + (q : Int) + 1 = ((n + q + 1 : Nat) : Int) by omega)
  have HQR := Lib.hid hqr
  clear hqr
  go_enter Tryd.func20, Tryd.ntmps20
  go_wp2_with fail
  rw [E1.out, make_u32 (n + q + 1) (by omega)]
  simp only [Result.andThen]
  rw [Oper.upon_value]
  have H0 := Lib.hid (LeftRel.start (digs x) n q r w w (Below.refl _ _))
  generalize w.alloc (.cells (mk0 (n + q + 1)) 118) = w0 at *
  go_wp2
  go_loopw [29] (fun k wr => ∃ i : Nat, k = .int .i64 i ∧ i ≤ n ∧ Hid (LeftRel (digs x) n q r w w.heap.size i wr)) (fun k _ => n - (intOf k).toNat)
  case atStart => exact ⟨0, rfl, Nat.zero_le _, H0⟩
  case round =>
    obtain ⟨i, rfl, hi, Hr⟩ := hrel
    by_cases hi2 : i < n
    · obtain ⟨b1, o1, rfl, hl1, hc1⟩ := HX.out.2.2.2 (by omega)
      have hx1 := ((bcell Hr.out.bel).1 b1 (o1 + i) hl1).trans (hc1 i hi2)
      have d1 := dg_lt (dig_digs x) i
      obtain ⟨y, hy, c1, f1, ⟨v2, c2⟩, f2⟩ := Hr.out.cell hi2
      have q3 : (i : Int) < (n : Int) := by omega
      clear hc1
      obtain ⟨lo, hi, e1, e2, e3, e4, e5⟩ := left_word (dg (digs x) i) r y d1 hr hy
      have HS := Lib.hid (Hr.out.step hi2 (Nat.le_refl _) hr c1 e3 e4 e5 _ _ e1 e2)
      clear e1 e2 e3 e4 e5
      go_wp2
      go_roundw
      case rel => exact ⟨i + 1, by go_num, hi2, HS⟩
      case measure => simp only [intOf]; omega
    · obtain rfl : i = n := by omega
      clear hi2
      obtain ⟨ys, hys, hval⟩ := LeftRel.stop Hr.out HN.out (by omega)
      rw [val_digs, ← HQR.out] at hval
      have HY := Lib.hid hys
      have HV := Lib.hid hval
      clear hys hval
      go_wp2_with fail
      refine (fits_any _ _ (i + q + 1) _ ys HY.out (Nat.le_refl _) (by rw [HV.out]; exact HF.out)).mono ?_
      rintro e w' ⟨k, rfl, hk, rfl⟩
      go_wp2
      go_ret2
      exact ⟨_, k, k, Nat.le_refl _, rfl, by rw [← HV.out]; exact hk, Hr.out.bel⟩
end Go.Proofs.YtgioppkggpfnoaaDoor.Nu
end

section
/- The walk of whole.Left. -/
set_option linter.unusedVariables false
namespace Go.Proofs.YtgioppkggpfnoaaDoor.Nu
open Go.RowKit Go.Proofs

theorem left_prod {b : Bool} {z : Int} {s : Nat} (h : b = decide (z < 0)) : (if b then -((z.natAbs * 2 ^ s : Nat) : Int) else ((z.natAbs * 2 ^ s : Nat) : Int)) = z * 2 ^ s := by
  subst h
  have e : ((z.natAbs * 2 ^ s : Nat) : Int) = (z.natAbs : Int) * 2 ^ s := by simp
  rw [e]
  by_cases h1 : z < 0
  · rw [show (z.natAbs : Int) = -z by omega]; simp [h1, Int.neg_mul]
  · rw [show (z.natAbs : Int) = z by omega]; simp [h1, Int.neg_mul]

set_option maxHeartbeats 2000000 in
theorem wleft_any (w : World) (b : Bool) (A : Option Addr) (n c s : Nat) (z : Int) (h : RI w b A n c z) (hn : n ≤ 512) (hs : s ≤ 16384) (hf : Size (z * 2 ^ s)) :
    Calls Tryd.prog 104 #[.agg #[.bool b, .slice A n c], .int .i64 s] w fun e w' => (∃ b' A' n' c', e = .returned (.tuple #[.agg #[.bool b', .slice A' n' c'], .int .i64 0]) ∧ RI w' b' A' n' c' (z * 2 ^ s)) ∧ Below w.heap.size w w' := by
  have H := Lib.hid h
  have HF := Lib.hid hf
  have HS := Lib.hid (left_prod (s := s) h.1)
  clear h hf
  have B0 := Lib.hid ((Blk2.new w 51 (.bool b) (.slice A n c)).alloc (.cells #[.bool false, .slice none 0 0] 51))
  have B2 := Lib.hid (Blk2.new (w.alloc (.cells #[.bool b, .slice A n c] 51)) 51 (.bool false) (.slice none 0 0))
  have HW := Lib.hid (show Below w.heap.size w ((w.alloc (.cells #[.bool b, .slice A n c] 51)).alloc (.cells #[.bool false, .slice none 0 0] 51)) from ((Below.refl _ w).alloc (Nat.le_refl _) _).alloc (by simp) _)
  simp only [World.size_alloc] at B0 B2
  go_enter Tryd.func104, Tryd.ntmps104
  go_wp2_with fail
  generalize (w.alloc (.cells #[.bool b, .slice A n c] 51)).alloc (.cells #[.bool false, .slice none 0 0] 51) = w0 at *
  refine (left_any _ A n c _ s (H.out.2.2.below HW.out) H.out.2.1 hn hs (by
    have h3 := HF.out
    unfold Size at h3
    rw [← HS.out, abs_ite] at h3
    exact h3)).mono ?_
  rintro e w1 ⟨A', k, c', hkc, rfl, hr, hb⟩
  obtain ⟨a0, a1, _, _⟩ := (B0.out.below hb).facts
  have B2' := Lib.hid (B2.out.below hb)
  have HR := Lib.hid hr
  have HB := Lib.hid (HW.out.trans (hb.mono HW.out.size))
  clear hr hb B2
  go_wp2_with fail
  refine (wof_any w1 b A' k c').mono ?_
  rintro e w2 ⟨rfl, hb2⟩
  obtain ⟨r0, r1, s0, s1⟩ := (B2'.out.below hb2).facts
  have B3 := Lib.hid (B2'.out.below hb2)
  have HB2 := Lib.hid (HB.out.trans (hb2.mono HB.out.size))
  have HR2 := Lib.hid (HR.out.below hb2)
  clear hb2 a0 a1
  go_wp2
  refine bodyPost_ret (v := .tuple #[.agg #[.bool (b && decide (0 < k)), .slice A' k c'], .int .i64 0]) ?_ rfl ?_
  · simp [results, Tryd.f104, go_sem, r0, r1]
  · exact ⟨⟨_, _, _, _, rfl, ((RI.of b HR2.out hkc).cast HS.out).set2 B3.out _ _⟩, below_set2 HB2.out (by omega) _ _⟩
end Go.Proofs.YtgioppkggpfnoaaDoor.Nu
end

section
/-
  DERIVED: THE SHELF's CONTRACTS AT THIS DUMP, IN PLAIN WORDS (tools/lay-plain.mjs out of 'TrydShelf.lean', which tools/lay-shelf.mjs wrote): THE SAME DECLARATIONS UNDER THE SAME NAMES: 'import', 'namespace', 'open', 'def', 'theorem' AND NOTHING ELSE: no command of the shelf's: FOR A HAND-IN. Each laying: the table of numbers ('.._ren') and one theorem, a field a fact of the dump's own or the kernel's comparison; each contract: ONE APPLICATION.
-/
namespace Go.Proofs
open Go.Shelf
def Tryd.lays128_ren : Go.Shelf.Ren := ⟨fun | 128 => 169 | n => n, fun | 51 => 118 | 3 => 3 | 4 => 4 | 46 => 119 | 5 => 5 | 9 => 9 | n => n, fun | n => n⟩
theorem Tryd.lays128 : Go.Proofs.Lays.n128 Tryd.prog Tryd.lays128_ren := {
  mixed := by kernel_rfl
  f128 := Tryd.func169.trans (congrArg some (by kernel_rfl))
  t3 := Tryd.underlying3
  a3 := Tryd.isAgg3
  z3 := Tryd.sizeOf3
  v3 := Tryd.zeroValue3
  t4 := Tryd.underlying4
  a4 := Tryd.isAgg4
  z4 := Tryd.sizeOf4
  v4 := Tryd.zeroValue4
  t5 := Tryd.underlying5
  a5 := Tryd.isAgg5
  z5 := Tryd.sizeOf5
  v5 := Tryd.zeroValue5
  t9 := Tryd.underlying9
  a9 := Tryd.isAgg9
  z9 := Tryd.sizeOf9
  v9 := Tryd.zeroValue9
  t46 := Tryd.underlying119
  a46 := Tryd.isAgg119
  z46 := Tryd.sizeOf119
  v46 := Tryd.zeroValue119
  t51 := Tryd.underlying118
  a51 := Tryd.isAgg118
  z51 := Tryd.sizeOf118
  v51 := Tryd.zeroValue118 }
/-- bits.Len32: "Len32 returns the minimum number of bits required to represent x; the result is 0 for x == 0.": IT RETURNS 'Lib.bitLen x'; the world is as it was. ('h0', 'h1': x is a uint32.) (LAID: no walk: one application.) -/
theorem Tryd.bits_Len32 (x : Int) (w : World) (h0 : 0 ≤ x) (h1 : x ≤ 4294967295) :
    Calls Tryd.prog 169 #[.int .u32 x] w fun e w' => e = .returned (.int .i64 (Lib.bitLen x.toNat)) ∧ w' = w := Any.bits_Len32 Tryd.lays128 x w h0 h1
end Go.Proofs
end

section
/- The walks of limbs.Bits, limbs.Tail, limbs.Of, limbs.Check, and of math/bits.TrailingZeros32. -/
set_option linter.unusedVariables false
namespace Go.Proofs.YtgioppkggpfnoaaDoor.Nu
open Go.RowKit Go.Proofs

theorem bits_and_u32_nat (a b : Nat) (ha : a < 4294967296) (hb : b < 4294967296) : bits .and .u32 (a : Int) (b : Int) = ((a &&& b : Nat) : Int) := by
  have hx : a &&& b < 2 ^ 32 := Nat.and_lt_two_pow _ (by omega)
  have h1 : (BitVec.ofInt 32 (a : Int)).toNat = a := by
    rw [BitVec.ofInt_natCast, BitVec.toNat_ofNat]; exact Nat.mod_eq_of_lt (by omega)
  have h2 : (BitVec.ofInt 32 (b : Int)).toNat = b := by
    rw [BitVec.ofInt_natCast, BitVec.toNat_ofNat]; exact Nat.mod_eq_of_lt (by omega)
  show IntKind.u32.wrap ((BitVec.ofInt 32 (a : Int) &&& BitVec.ofInt 32 (b : Int)).toNat : Int) = _
  rw [BitVec.toNat_and, h1, h2, IntKind.wrap_u32]
  omega
theorem and_compl (m t : Nat) (h : m < 2 ^ t) : m &&& (2 ^ t - (m + 1)) = 0 := by
  apply Nat.eq_of_testBit_eq
  intro i
  rw [Nat.testBit_and, Nat.testBit_two_pow_sub_succ h]
  cases m.testBit i <;> simp
theorem odd_and (a b : Nat) : (2 * a + 1) &&& (2 * b + 1) = 2 * (a &&& b) + 1 := by
  apply Nat.eq_of_testBit_eq
  intro i
  cases i with
  | zero => simp
  | succ i =>
    rw [Nat.testBit_and, Nat.testBit_succ, Nat.testBit_succ, Nat.testBit_succ, show (2 * a + 1) / 2 = a by omega, show (2 * b + 1) / 2 = b by omega, show (2 * (a &&& b) + 1) / 2 = (a &&& b) by omega, Nat.testBit_and]
/-- The lowest bit that is set. -/
theorem low_bit (x k m : Nat) (h0 : x = 2 ^ k * (2 * m + 1)) (h1 : x < 4294967296) : k < 32 ∧ x &&& (4294967296 - x) = 2 ^ k := by
  have hk : k < 32 := by
    false_or_by_contra
    have h2 : 2 ^ 32 ≤ 2 ^ k := Nat.pow_le_pow_right (by omega) (by omega)
    have h3 : 2 ^ k * 1 ≤ 2 ^ k * (2 * m + 1) := Nat.mul_le_mul_left _ (by omega)
    omega
  have e : 4294967296 = 2 ^ k * (2 * 2 ^ (31 - k)) := by
    rw [← Nat.pow_succ', ← Nat.pow_add, show k + (31 - k).succ = 32 by omega]
  have hm : m < 2 ^ (31 - k) := by
    have h4 : 2 ^ k * (2 * m + 1) < 2 ^ k * (2 * 2 ^ (31 - k)) := by rw [← h0, ← e]; exact h1
    have := Nat.lt_of_mul_lt_mul_left h4
    omega
  have e2 : 4294967296 - x = 2 ^ k * (2 * (2 ^ (31 - k) - (m + 1)) + 1) := by
    rw [e, h0, ← Nat.mul_sub]
    congr 1
    omega
  refine ⟨hk, ?_⟩
  rw [e2]
  conv => lhs; rw [h0]
  rw [Nat.mul_comm (2 ^ k), Nat.mul_comm (2 ^ k), ← Nat.shiftLeft_eq, ← Nat.shiftLeft_eq, ← Nat.shiftLeft_and_distrib, odd_and, and_compl _ _ hm, Nat.shiftLeft_eq]
  simp
/-- The listed table, as the program's text lays it. -/
def bruijn : List Int := [0, 1, 28, 2, 29, 14, 24, 3, 30, 22, 20, 15, 25, 17, 4, 8, 31, 27, 13, 23, 21, 19, 16, 7, 26, 12, 18, 6, 11, 5, 10, 9]
def BTab (w : World) : Prop := 1 < w.heap.size ∧ ∀ j v, bruijn[j]? = some v → w.cell? ⟨1, j, none⟩ = some (.int .u8 v)
theorem BTab.below {w w' : World} (h : BTab w) (hb : Below w.heap.size w w') : BTab w' :=
  ⟨Nat.lt_of_lt_of_le h.1 hb.size, fun j v hj => (hb.cell (p := ⟨1, j, none⟩) h.1).trans (h.2 j v hj)⟩
theorem bruijn_at : ∀ k : Nat, k < 32 → 2 ^ k * 125613361 % 4294967296 / 134217728 < 32 ∧ bruijn[2 ^ k * 125613361 % 4294967296 / 134217728]? = some (k : Int) := by decide
theorem tz_word (x k m : Nat) (h0 : x = 2 ^ k * (2 * m + 1)) (h1 : x < 4294967296) :
    ∃ j : Nat, bits .and .u32 (x : Int) (-(x : Int) % 4294967296) * 125613361 % 4294967296 / 134217728 = (j : Int) ∧ j < 32 ∧ bruijn[j]? = some (k : Int) := by
  obtain ⟨hk, e⟩ := low_bit x k m h0 h1
  have hx : 0 < x := by rw [h0]; exact Nat.mul_pos (Nat.two_pow_pos k) (by omega)
  have e1 : -(x : Int) % 4294967296 = ((4294967296 - x : Nat) : Int) := by omega
  refine ⟨_, ?_, bruijn_at k hk⟩
  rw [e1, bits_and_u32_nat _ _ h1 (by omega), e]
  simp

set_option maxHeartbeats 1000000 in
theorem tz32_any (w : World) (x k m : Nat) (h0 : x = 2 ^ k * (2 * m + 1)) (h1 : x < 4294967296) (htab : BTab w) :
    Calls Tryd.prog 172 #[.int .u32 x] w fun e w' => e = .returned (.int .i64 k) ∧ w' = w := by
  obtain ⟨j, e1, hj, hv⟩ := tz_word x k m h0 h1
  have hx : 0 < x := by rw [h0]; exact Nat.mul_pos (Nat.two_pow_pos k) (by omega)
  have q0 : ((x : Int) == 0) = false := by rw [beq_eq_false_iff_ne]; omega
  have hc := htab.2 j k hv
  have hk := (low_bit x k m h0 h1).1
  clear h0 hv htab
  go_enter Tryd.func172, Tryd.ntmps172
  go_wp2
  go_ret
  exact ⟨rfl, rfl⟩

set_option maxHeartbeats 1000000 in
theorem bits_any (w : World) (A : Option Addr) (n c x : Nat) (hx : RN w A n x) (hn : n ≤ 512) :
    Calls Tryd.prog 147 #[.slice A n c] w fun e w' => e = .returned (.int .i64 (bl x : Nat)) ∧ w' = w := by
  have HX := Lib.hid hx
  have HN := Lib.hid hx.1
  clear hx
  by_cases hn0 : n = 0
  · have hx0 : x = 0 := digs_eq_nil.1 (List.length_eq_zero_iff.1 (by rw [HN.out, hn0]))
    subst hx0
    have q0 : ((n : Int) == 0) = true := by rw [hn0]; rfl
    clear hn0
    go_enter Tryd.func147, Tryd.ntmps147
    go_wp2
    go_ret
    exact ⟨rfl, rfl⟩
  have q0 : ((n : Int) == 0) = false := by rw [beq_eq_false_iff_ne]; omega
  obtain ⟨hb, hd⟩ := bl_digs HN.out (by omega)
  have d1 := dg_lt (dig_digs x) (n - 1)
  have hl := bl_le _ 32 d1
  obtain ⟨b1, o1, rfl, hl1, hc1⟩ := HX.out.2.2.2 (by omega)
  have hx1 := hc1 (n - 1) (by omega)
  have hq : ((n : Int) - 1).toNat = n - 1 := by omega
  have hl2 := bl_lib _ hd d1
  generalize dg (digs x) (n - 1) = d at *
  have HB := Lib.hid hb
  have HL := Lib.hid hl2
  have HC := Lib.hid (Tryd.bits_Len32 (d : Int) w (by omega) (by omega))
  clear hb hc1 hl2
  go_enter Tryd.func147, Tryd.ntmps147
  go_wp2_with fail
  refine HC.out.mono ?_
  rintro e w' ⟨rfl, rfl⟩
  rw [Int.toNat_natCast, HL.out]
  go_wp2
  go_ret
  refine ⟨ret_int ?_, rfl⟩
  rw [HB.out]
  omega
theorem BTab.dk {w w' : World} (h : BTab w) (k : Below w.heap.size w w') : BTab w' := h.below k
end Go.Proofs.YtgioppkggpfnoaaDoor.Nu
end

section
/- The walk of limbs.Tail. -/
set_option linter.unusedVariables false
namespace Go.Proofs.YtgioppkggpfnoaaDoor.Nu
open Go.RowKit Go.Proofs

/-- x is m's odd one times 2 to the power of k. -/
def Odd2 (x k m : Nat) : Prop := x = 2 ^ k * (2 * m + 1)
theorem odd_ex (x : Nat) (h : x ≠ 0) : ∃ k m, Odd2 x k m := by
  induction x using Nat.strongRecOn with
  | ind x ih =>
    by_cases h2 : x % 2 = 1
    · exact ⟨0, x / 2, by unfold Odd2; simp; omega⟩
    · obtain ⟨k, m, hk⟩ := ih (x / 2) (by omega) (by omega)
      refine ⟨k + 1, m, ?_⟩
      unfold Odd2 at *
      rw [Nat.pow_succ', Nat.mul_assoc, ← hk]
      omega
theorem odd_digit_low {x q a m : Nat} (h : Odd2 x (32 * q + a) m) {j : Nat} (hj : j < q) : dg (digs x) j = 0 := by
  rw [dg_digs, h, ← pow_split, show q = j + (q - j - 1) + 1 by omega, Nat.pow_succ, Nat.pow_add]
  rw [show 4294967296 ^ j * 4294967296 ^ (q - j - 1) * 4294967296 * 2 ^ a * (2 * m + 1) = 4294967296 ^ j * (4294967296 * (4294967296 ^ (q - j - 1) * 2 ^ a * (2 * m + 1))) by simp only [Nat.mul_assoc, Nat.mul_left_comm], Nat.mul_div_cancel_left _ (Nat.pow_pos (by omega)), Nat.mul_mod_right]
theorem odd_digit {x q a m : Nat} (h : Odd2 x (32 * q + a) m) (ha : a < 32) : ∃ m', Odd2 (dg (digs x) q) a m' := by
  have e0 : 2 ^ a * 2 ^ (32 - a) = 4294967296 := by rw [← Nat.pow_add, show a + (32 - a) = 32 by omega]
  have e1 : 2 ^ (32 - a) = 2 * 2 ^ (31 - a) := by rw [← Nat.pow_succ', show (31 - a).succ = 32 - a by omega]
  refine ⟨(2 * m + 1) % 2 ^ (32 - a) / 2, ?_⟩
  unfold Odd2
  rw [dg_digs, h, ← pow_split, Nat.mul_assoc, Nat.mul_div_cancel_left _ (Nat.pow_pos (by omega))]
  conv => lhs; rw [← e0]
  rw [Nat.mul_mod_mul_left]
  congr 1
  have : (2 * m + 1) % 2 ^ (32 - a) % 2 = 1 := by
    rw [e1, Nat.mod_mul_right_mod]; omega
  omega
theorem odd_pos {x k m : Nat} (h : Odd2 x k m) : x ≠ 0 := by
  unfold Odd2 at h
  have : 0 < x := by rw [h]; exact Nat.mul_pos (Nat.two_pow_pos k) (by omega)
  omega

set_option maxHeartbeats 2000000 in
set_option maxRecDepth 100000 in
theorem tail_any (w : World) (A : Option Addr) (n c x k m : Nat) (hx : RN w A n x) (hn : n ≤ 512) (hk : Odd2 x k m) (htab : BTab w) :
    Calls Tryd.prog 149 #[.slice A n c] w fun e w' => e = .returned (.int .i64 k) ∧ w' = w := by
  obtain ⟨q, a, rfl, ha⟩ : ∃ q a : Nat, k = 32 * q + a ∧ a < 32 := ⟨k / 32, k % 32, by omega, by omega⟩
  obtain ⟨m', hd⟩ := odd_digit hk ha
  have hd0 := odd_pos hd
  have hq : q < n := by
    false_or_by_contra
    rename_i h
    exact hd0 (dg_out (by rw [hx.1]; omega))
  have HX := Lib.hid hx
  have HT := Lib.hid htab
  have HK := Lib.hid hk
  have HD := Lib.hid hd
  obtain ⟨b1, o1, rfl, hl1, hc1⟩ := HX.out.2.2.2 (by omega)
  have HC := Lib.hid hc1
  clear hx htab hk hd hc1
  go_enter Tryd.func149, Tryd.ntmps149
  go_wp2
  go_loop [7] (fun t => ∃ i : Nat, t = .int .i64 i ∧ i ≤ q) (fun t => q - (intOf t).toNat)
  case atStart => exact ⟨0, rfl, Nat.zero_le _⟩
  case round =>
    obtain ⟨i, rfl, hi⟩ := hrel
    have hx1 := HC.out i (by omega)
    have q3 : (i : Int) < (n : Int) := by omega
    by_cases hi2 : i < q
    · rw [odd_digit_low HK.out hi2] at hx1
      go_wp2
      go_round
      case rel => exact ⟨i + 1, by go_num, hi2⟩
      case measure => simp only [intOf]; omega
    · obtain rfl : i = q := by omega
      have d1 := dg_lt (dig_digs x) i
      have HZ := Lib.hid (tz32_any w (dg (digs x) i) a m' HD.out d1 HT.out)
      have q4 : ((dg (digs x) i : Int) == 0) = false := by rw [beq_eq_false_iff_ne]; omega
      go_wp2_with fail
      refine HZ.out.mono ?_
      rintro e w' ⟨rfl, rfl⟩
      go_wp2
      go_ret
      exact ⟨ret_int (by omega), rfl⟩

set_option maxHeartbeats 2000000 in
theorem tail_zero (w : World) (A : Option Addr) (c : Nat) : Calls Tryd.prog 149 #[.slice A 0 c] w fun e w' => e = .returned (.int .i64 0) ∧ w' = w := by
  go_enter Tryd.func149, Tryd.ntmps149
  go_wp2
  go_loop [7] (fun t => t = .int .i64 0) (fun t => 0)
  case atStart => rfl
  case round =>
    subst hrel
    go_wp2
    go_ret
    exact ⟨rfl, rfl⟩

end Go.Proofs.YtgioppkggpfnoaaDoor.Nu
end

section
/- The walk of whole.Right. -/
set_option linter.unusedVariables false
namespace Go.Proofs.YtgioppkggpfnoaaDoor.Nu
open Go.RowKit Go.Proofs

theorem pow_pos_int (s : Nat) : (0 : Int) < 2 ^ s := Int.pow_pos (by decide)
theorem cast_pow (s : Nat) : ((2 ^ s : Nat) : Int) = 2 ^ s := by simp
theorem right_pos {b : Bool} {z : Int} {s : Nat} (h : b = decide (z < 0)) (hz : ¬ z < 0) : (if b then -((z.natAbs / 2 ^ s : Nat) : Int) else ((z.natAbs / 2 ^ s : Nat) : Int)) = z / 2 ^ s := by
  rw [decide_eq_false hz] at h
  subst h
  simp only [Bool.false_eq_true, if_false, Int.natCast_ediv, cast_pow]
  rw [show (z.natAbs : Int) = z by omega]
theorem right_even {b : Bool} {z : Int} {s k m : Nat} (h : b = decide (z < 0)) (hz : z < 0) (hk : Odd2 z.natAbs k m) (hs : s ≤ k) : (if b then -((z.natAbs / 2 ^ s : Nat) : Int) else ((z.natAbs / 2 ^ s : Nat) : Int)) = z / 2 ^ s := by
  rw [decide_eq_true hz] at h
  subst h
  have hd : (2 ^ s : Nat) ∣ z.natAbs := by
    rw [hk]
    exact Nat.dvd_trans (Nat.pow_dvd_pow 2 hs) (Nat.dvd_mul_right _ _)
  obtain ⟨t, ht⟩ := hd
  have hzt : z = -(2 ^ s * (t : Int)) := by
    have : (z.natAbs : Int) = 2 ^ s * (t : Int) := by rw [ht]; simp
    omega
  simp only [if_true]
  rw [ht, Nat.mul_div_cancel_left _ (Nat.two_pow_pos s)]
  rw [hzt, ← Int.mul_neg, Int.mul_ediv_cancel_left _ (by have := pow_pos_int s; omega)]
theorem right_odd {z : Int} {s k m : Nat} (hz : z < 0) (hk : Odd2 z.natAbs k m) (hs : ¬ s ≤ k) : -((z.natAbs / 2 ^ s + 1 : Nat) : Int) = z / 2 ^ s ∧ z.natAbs / 2 ^ s + 1 ≤ z.natAbs := by
  have hp := Nat.two_pow_pos s
  have h2 : 2 ≤ 2 ^ s := by
    have : 2 ^ 1 ≤ 2 ^ s := Nat.pow_le_pow_right (by omega) (by omega)
    omega
  have hmod : z.natAbs % 2 ^ s ≠ 0 := fun e => by
    obtain ⟨t, ht⟩ := Nat.dvd_of_mod_eq_zero e
    rw [hk, show s = k + 1 + (s - k - 1) by omega, Nat.pow_add, Nat.pow_succ, Nat.mul_assoc, Nat.mul_assoc] at ht
    have := Nat.eq_of_mul_eq_mul_left (Nat.two_pow_pos k) ht
    omega
  have hdm := Nat.div_add_mod z.natAbs (2 ^ s)
  have hlt := Nat.mod_lt z.natAbs hp
  constructor
  · generalize hq : z.natAbs / 2 ^ s = Q at *
    generalize hr : z.natAbs % 2 ^ s = R at *
    have hP := pow_pos_int s
    have h3 : (2 ^ s : Int) * (Q : Int) + (R : Int) = -z := by
      have : ((2 ^ s * Q + R : Nat) : Int) = (z.natAbs : Int) := by rw [hdm]
      simp only [Int.natCast_add, Int.natCast_mul, cast_pow] at this
      omega
    have hR : (R : Int) < 2 ^ s := by rw [← cast_pow]; omega
    have h4 : z = (2 ^ s - (R : Int)) + 2 ^ s * (-((Q + 1 : Nat) : Int)) := by
      rw [Int.mul_neg, Int.natCast_add, Int.mul_add]
      simp only [Int.natCast_one, Int.mul_one]
      omega
    rw [h4, Int.add_mul_ediv_left _ _ (by omega), Int.ediv_eq_zero_of_lt (by omega) (by omega)]
    omega
  · have : z.natAbs / 2 ^ s ≤ z.natAbs / 2 := Nat.div_le_div_left h2 (by omega)
    omega

set_option maxHeartbeats 2000000 in
theorem wright_any (w : World) (b : Bool) (A : Option Addr) (n c s : Nat) (z : Int) (h : RI w b A n c z) (hn : n ≤ 512) (hs : s ≤ 9223372036854775807) (htab : BTab w) :
    Calls Tryd.prog 150 #[.agg #[.bool b, .slice A n c], .int .i64 s] w fun e w' => (∃ b' A' n' c', e = .returned (.tuple #[.agg #[.bool b', .slice A' n' c'], .int .i64 0]) ∧ RI w' b' A' n' c' (z / 2 ^ s)) ∧ Below w.heap.size w w' := by
  have H := Lib.hid h
  have HT := Lib.hid htab
  have hbz := h.1
  clear h htab
  have B0 := Lib.hid ((Blk2.new w 51 (.bool b) (.slice A n c)).alloc (.cells #[.bool false, .slice none 0 0] 51))
  have B2 := Lib.hid (Blk2.new (w.alloc (.cells #[.bool b, .slice A n c] 51)) 51 (.bool false) (.slice none 0 0))
  have HW := Lib.hid (show Below w.heap.size w ((w.alloc (.cells #[.bool b, .slice A n c] 51)).alloc (.cells #[.bool false, .slice none 0 0] 51)) from ((Below.refl _ w).alloc (Nat.le_refl _) _).alloc (by simp) _)
  simp only [World.size_alloc] at B0 B2
  by_cases hz : z < 0
  · obtain ⟨k, m, hk⟩ := odd_ex z.natAbs (by omega)
    have hb1 : b = true := by rw [hbz]; exact decide_eq_true hz
    have HK := Lib.hid hk
    have HZ := Lib.hid hz
    subst hb1
    clear hz hbz hk
    by_cases hsk : s ≤ k
    · have q0 : (s : Int) ≤ (k : Int) := by omega
      have HS := Lib.hid (right_even H.out.1 HZ.out HK.out hsk)
      go_enter Tryd.func150, Tryd.ntmps150
      go_wp2_with fail
      generalize (w.alloc (.cells #[.bool true, .slice A n c] 51)).alloc (.cells #[.bool false, .slice none 0 0] 51) = w0 at *
      refine (right_any _ A n c _ s (H.out.2.2.below HW.out) H.out.2.1 hn hs).mono ?_
      rintro e w1 ⟨A', k', c', hkc, rfl, hr, hb⟩
      obtain ⟨a0, a1, _, _⟩ := (B0.out.below hb).facts
      have B2' := Lib.hid (B2.out.below hb)
      have HR := Lib.hid hr
      have HB := Lib.hid (HW.out.trans (hb.mono HW.out.size))
      clear hr hb B2
      go_wp2_with fail
      refine (tail_any w1 A n c _ k m (H.out.2.2.below HB.out) hn HK.out (HT.out.below HB.out)).mono ?_
      rintro e w1' ⟨rfl, rfl⟩
      go_wp2_with fail
      refine (wof_any w1' true A' k' c').mono ?_
      rintro e w2 ⟨rfl, hb2⟩
      obtain ⟨r0, r1, s0, s1⟩ := (B2'.out.below hb2).facts
      have B3 := Lib.hid (B2'.out.below hb2)
      have HB2 := Lib.hid (HB.out.trans (hb2.mono HB.out.size))
      have HR2 := Lib.hid (HR.out.below hb2)
      clear hb2 a0 a1
      go_wp2
      refine bodyPost_ret (v := .tuple #[.agg #[.bool (true && decide (0 < k')), .slice A' k' c'], .int .i64 0]) ?_ rfl ?_
      · simp [results, Tryd.f150, go_sem, r0, r1]
      · exact ⟨⟨_, _, _, _, rfl, ((RI.of true HR2.out hkc).cast HS.out).set2 B3.out _ _⟩, below_set2 HB2.out (by omega) _ _⟩
    · have q0 : ¬ (s : Int) ≤ (k : Int) := by omega
      have HS := Lib.hid (right_odd HZ.out HK.out hsk)
      go_enter Tryd.func150, Tryd.ntmps150
      go_wp2_with fail
      generalize (w.alloc (.cells #[.bool true, .slice A n c] 51)).alloc (.cells #[.bool false, .slice none 0 0] 51) = w0 at *
      refine (right_any _ A n c _ s (H.out.2.2.below HW.out) H.out.2.1 hn hs).mono ?_
      rintro e w1 ⟨A', k', c', hkc, rfl, hr, hb⟩
      obtain ⟨a0, a1, _, _⟩ := (B0.out.below hb).facts
      have B2' := Lib.hid (B2.out.below hb)
      have HR := Lib.hid hr
      have HB := Lib.hid (HW.out.trans (hb.mono HW.out.size))
      clear hr hb B2
      go_wp2_with fail
      refine (tail_any w1 A n c _ k m (H.out.2.2.below HB.out) hn HK.out (HT.out.below HB.out)).mono ?_
      rintro e w1' ⟨rfl, rfl⟩
      go_wp2_with fail
      refine (of_any w1' 1 (by decide)).mono ?_
      rintro e w2 ⟨A1, k1, rfl, hr1, hb1⟩
      have B3 := Lib.hid (B2'.out.below hb1)
      have HB2 := Lib.hid (HB.out.trans (hb1.mono HB.out.size))
      have HR2 := Lib.hid (HR.out.below hb1)
      have HR1 := Lib.hid hr1
      clear hr1 hb1 a0 a1
      go_wp2_with fail
      have hk1 : k' ≤ 512 := by
        rw [← HR2.out.1]
        have h1 := (digs_len_le (n := z.natAbs)).1 (Nat.le_of_eq H.out.2.2.1)
        exact Nat.le_trans (digs_len_le.2 (Nat.lt_of_le_of_lt (Nat.div_le_self _ _) h1)) hn
      have hk2 : k1 ≤ 512 := by
        rw [← HR1.out.1]
        exact digs_len_le.2 (by exact Nat.one_lt_pow (by omega) (by omega))
      refine (add_any w2 A' A1 k' k1 c' k1 _ _ HR2.out HR1.out hkc (Nat.le_refl _) hk1 hk2 (by
        rw [val_digs, val_digs]
        have h1 := (digs_len_le (n := z.natAbs)).1 (Nat.le_of_eq H.out.2.2.1)
        have h2 := HS.out.2
        unfold Fit
        exact Nat.le_trans (digs_len_le.2 (by omega)) hn)).mono ?_
      rintro e w3 ⟨A3, k3, rfl, hr3, hb3⟩
      rw [val_digs, val_digs] at hr3
      have B4 := Lib.hid (B3.out.below hb3)
      have HB3 := Lib.hid (HB2.out.trans (hb3.mono HB2.out.size))
      have HR3 := Lib.hid hr3
      clear hr3 hb3
      go_wp2_with fail
      refine (wof_any w3 true A3 k3 k3).mono ?_
      rintro e w4 ⟨rfl, hb4⟩
      obtain ⟨r0, r1, s0, s1⟩ := (B4.out.below hb4).facts
      have B5 := Lib.hid (B4.out.below hb4)
      have HB4 := Lib.hid (HB3.out.trans (hb4.mono HB3.out.size))
      have HR4 := Lib.hid (HR3.out.below hb4)
      clear hb4
      go_wp2
      refine bodyPost_ret (v := .tuple #[.agg #[.bool (true && decide (0 < k3)), .slice A3 k3 k3], .int .i64 0]) ?_ rfl ?_
      · simp [results, Tryd.f150, go_sem, r0, r1]
      · exact ⟨⟨_, _, _, _, rfl, ((RI.of true HR4.out (Nat.le_refl _)).cast HS.out.1).set2 B5.out _ _⟩, below_set2 HB4.out (by omega) _ _⟩
  · have HS := Lib.hid (right_pos (s := s) H.out.1 hz)
    have hb1 : b = false := by rw [hbz]; exact decide_eq_false hz
    subst hb1
    clear hz hbz
    go_enter Tryd.func150, Tryd.ntmps150
    go_wp2_with fail
    generalize (w.alloc (.cells #[.bool false, .slice A n c] 51)).alloc (.cells #[.bool false, .slice none 0 0] 51) = w0 at *
    refine (right_any _ A n c _ s (H.out.2.2.below HW.out) H.out.2.1 hn hs).mono ?_
    rintro e w1 ⟨A', k, c', hkc, rfl, hr, hb⟩
    obtain ⟨a0, a1, _, _⟩ := (B0.out.below hb).facts
    have B2' := Lib.hid (B2.out.below hb)
    have HR := Lib.hid hr
    have HB := Lib.hid (HW.out.trans (hb.mono HW.out.size))
    clear hr hb B2
    go_wp2_with fail
    refine (wof_any w1 false A' k c').mono ?_
    rintro e w2 ⟨rfl, hb2⟩
    obtain ⟨r0, r1, s0, s1⟩ := (B2'.out.below hb2).facts
    have B3 := Lib.hid (B2'.out.below hb2)
    have HB2 := Lib.hid (HB.out.trans (hb2.mono HB.out.size))
    have HR2 := Lib.hid (HR.out.below hb2)
    clear hb2 a0 a1
    go_wp2
    refine bodyPost_ret (v := .tuple #[.agg #[.bool (false && decide (0 < k)), .slice A' k c'], .int .i64 0]) ?_ rfl ?_
    · simp [results, Tryd.f150, go_sem, r0, r1]
    · exact ⟨⟨_, _, _, _, rfl, ((RI.of false HR2.out hkc).cast HS.out).set2 B3.out _ _⟩, below_set2 HB2.out (by omega) _ _⟩
end Go.Proofs.YtgioppkggpfnoaaDoor.Nu
end

section
/- The walk of slices.Clone over a row of digits. -/
set_option linter.unusedVariables false
namespace Go.Proofs.YtgioppkggpfnoaaDoor.Nu
open Go.RowKit Go.Proofs

/-- A row that the call owns reads as its digits. -/
theorem RL.of_own {w : World} {base n : Nat} {v : Value} {xs : List Nat} (h : w.ownsRow base 118 1 v n (xs.map fun (y : Nat) => Value.int .u32 (y : Int))) (hd : Dig xs) (hn : n ≤ 140737488355328) :
    ∃ A c, v = .slice A n c ∧ n ≤ c ∧ RL w A n xs := by
  obtain ⟨hl, h⟩ := h
  have hl' : xs.length = n := by simpa using hl
  rcases h with ⟨rfl, rfl⟩ | ⟨g, cap, cur, rfl, hb, hg, hc1, hc2, hc3, hc4⟩
  · obtain rfl := List.length_eq_zero_iff.1 hl'
    exact ⟨none, 0, rfl, Nat.le_refl _, RL.nil _ _⟩
  · refine ⟨_, cap, rfl, hc1, hl', hn, hd, fun _ => ⟨g, 0, rfl, (Array.getElem?_eq_some_iff.1 hg).1, fun j hj => ?_⟩⟩
    rw [Nat.zero_add, Lib.cell_of_heap hg]
    have h1 : (cur.toList.take (n * 1))[j]? = some (.int .u32 (dg xs j : Int)) := by
      rw [hc4]
      simp [dg, hl', hj]
    rw [List.getElem?_take_of_lt (by omega)] at h1
    simpa using h1

set_option maxHeartbeats 2000000 in
set_option maxRecDepth 100000 in
theorem clone_any (w : World) (A : Option Addr) (n c : Nat) (xs : List Nat) (h : RL w A n xs) (hn : n ≤ 100000000) :
    Calls Tryd.prog 75 #[.slice A n c] w fun e w' => (∃ A' c', e = .returned (.slice A' n c') ∧ n ≤ c' ∧ RL w' A' n xs) ∧ Below w.heap.size w w' := by
  have q22 := fun (w : World) (a : Option Addr) (n c n' c' : Nat) => Lib.run_eql_slice_nil (P := Tryd.prog) w _ _ a n c n' c' Tryd.underlying23
  obtain ⟨i0, hi, hz0, hz1, hz2⟩ := info_parts infoU32
  have H := Lib.hid h
  cases A with
  | none =>
    have hn0 : n = 0 := by
      false_or_by_contra
      obtain ⟨b, off, hA, _⟩ := h.2.2.2 (by omega)
      cases hA
    subst hn0
    obtain rfl : xs = [] := List.length_eq_zero_iff.1 h.1
    clear h H
    go_enter Tryd.func75, Tryd.ntmps75
    go_wp2
    go_ret
    exact ⟨⟨none, 0, rfl, Nat.le_refl _, RL.nil _ _⟩, Below.refl _ _⟩
  | some ad =>
    have hA : 0 < n → ∃ b off, ad = ⟨b, off, none⟩ ∧ b < w.heap.size ∧ ∀ j, j < n → w.cell? ⟨b, off + j, none⟩ = some (.int .u32 (dg xs j)) := fun h0 => by
      obtain ⟨b, off, hA, h3⟩ := h.2.2.2 h0
      cases hA
      exact ⟨b, off, rfl, h3⟩
    have HA := Lib.hid hA
    clear h hA
    go_enter Tryd.func75, Tryd.ntmps75
    go_wp2_with (at_builtin; refine wpList_append_own _ rfl _ _ 23 rfl w.heap.size 118 i0 (.int .u32 0) 1 4 Tryd.underlying23 hi hz0 hz1 hz2 rfl (by decide) _ _ _ rfl (World.ownsRow_made w #[] 0 (Nat.le_refl _) (Nat.zero_le _) rfl) ad n c (xs.map fun (y : Nat) => Value.int .u32 (y : Int)) rfl ?qc1 ?qc2 ?qc3 ?qc4 ?qc5 ?qc6 ?_)
    case qc1 => simpa using H.out.1
    case qc2 =>
      intro j u hj
      have hjn : j < xs.length := by
        have := (List.getElem?_eq_some_iff.1 hj).1
        simpa using this
      obtain ⟨b, off, rfl, hb, hc⟩ := HA.out (by have := H.out.1; omega)
      rw [Addr.add_lit]
      refine Lib.cell?_alloc_some _ ?_
      rw [hc j (by have := H.out.1; omega)]
      rw [← hj]
      simp [dg, hjn]
    case qc3 => intro u hu; obtain ⟨x, _, rfl⟩ := List.mem_map.1 hu; rfl
    case qc4 => unfold maxLen; omega
    case qc5 => omega
    case qc6 => simp
    intro v' w1 hown hgrow hnil
    have hown2 := hown
    obtain ⟨A', c', rfl, hc', hr⟩ := RL.of_own (by simpa using hown2) H.out.2.2.1 H.out.2.1
    have HR := Lib.hid hr
    have HB := Lib.hid (((Below.refl w.heap.size w).alloc (Nat.le_refl _) _).grown hgrow (by simp) (by intro k hk; simp [Value.ownBlock] at hk; omega))
    clear hown hgrow hnil hr hown2
    go_wp2
    go_ret
    exact ⟨⟨A', c', rfl, hc', HR.out⟩, HB.out⟩
end Go.Proofs.YtgioppkggpfnoaaDoor.Nu
end

section
/- The walks of package whole: Abs, Neg, Compare, Check, Of. -/
set_option linter.unusedVariables false
namespace Go.Proofs.YtgioppkggpfnoaaDoor.Nu
open Go.RowKit Go.Proofs

set_option maxHeartbeats 2000000 in
theorem wabs_any (w : World) (b : Bool) (A : Option Addr) (n c : Nat) (z : Int) (h : RI w b A n c z) (hn : n ≤ 512) :
    Calls Tryd.prog 107 #[.agg #[.bool b, .slice A n c]] w fun e w' => (∃ b' A' n' c', e = .returned (.agg #[.bool b', .slice A' n' c']) ∧ RI w' b' A' n' c' (z.natAbs : Int)) ∧ Below w.heap.size w w' := by
  have H := Lib.hid h
  clear h
  have B0 := Lib.hid ((Blk2.new w 51 (.bool b) (.slice A n c)).alloc (.cells #[.bool false, .slice none 0 0] 51))
  have B2 := Lib.hid (Blk2.new (w.alloc (.cells #[.bool b, .slice A n c] 51)) 51 (.bool false) (.slice none 0 0))
  have HW := Lib.hid (show Below w.heap.size w ((w.alloc (.cells #[.bool b, .slice A n c] 51)).alloc (.cells #[.bool false, .slice none 0 0] 51)) from ((Below.refl _ w).alloc (Nat.le_refl _) _).alloc (by simp) _)
  simp only [World.size_alloc] at B0 B2
  go_enter Tryd.func107, Tryd.ntmps107
  go_wp2_with fail
  generalize (w.alloc (.cells #[.bool b, .slice A n c] 51)).alloc (.cells #[.bool false, .slice none 0 0] 51) = w0 at *
  refine (clone_any _ A n c _ (H.out.2.2.below HW.out) (by omega)).mono ?_
  rintro e w1 ⟨⟨A', c', rfl, hkc, hr⟩, hb⟩
  have B2' := Lib.hid (B2.out.below hb)
  have HR := Lib.hid hr
  have HB := Lib.hid (HW.out.trans (hb.mono HW.out.size))
  clear hr hb B2
  go_wp2_with fail
  refine (wof_any w1 false A' n c').mono ?_
  rintro e w2 ⟨rfl, hb2⟩
  obtain ⟨r0, r1, s0, s1⟩ := (B2'.out.below hb2).facts
  have B3 := Lib.hid (B2'.out.below hb2)
  have HB2 := Lib.hid (HB.out.trans (hb2.mono HB.out.size))
  have HR2 := Lib.hid (show RN w2 A' n z.natAbs from HR.out.below hb2)
  clear hb2
  go_wp2
  refine bodyPost_ret (v := .agg #[.bool (false && decide (0 < n)), .slice A' n c']) ?_ rfl ?_
  · simp [results, Tryd.f107, go_sem, r0, r1]
  · exact ⟨⟨_, _, _, _, rfl, ((RI.of false HR2.out hkc).cast rfl).set2 B3.out _ _⟩, below_set2 HB2.out (by omega) _ _⟩

theorem neg_sum {b : Bool} {z : Int} (h : b = decide (z < 0)) : (if (!b) then -((z.natAbs : Nat) : Int) else ((z.natAbs : Nat) : Int)) = -z := by
  subst h
  by_cases h1 : z < 0
  · simp [h1]; omega
  · simp [h1]; omega
set_option maxRecDepth 100000 in
set_option maxHeartbeats 2000000 in
theorem wneg_any (w : World) (b : Bool) (A : Option Addr) (n c : Nat) (z : Int) (h : RI w b A n c z) (hn : n ≤ 512) :
    Calls Tryd.prog 153 #[.agg #[.bool b, .slice A n c]] w fun e w' => (∃ b' A' n' c', e = .returned (.agg #[.bool b', .slice A' n' c']) ∧ RI w' b' A' n' c' (-z)) ∧ Below w.heap.size w w' := by
  have H := Lib.hid h
  have HS := Lib.hid (neg_sum h.1)
  clear h
  have B0 := Lib.hid ((Blk2.new w 51 (.bool b) (.slice A n c)).alloc (.cells #[.bool false, .slice none 0 0] 51))
  have B2 := Lib.hid (Blk2.new (w.alloc (.cells #[.bool b, .slice A n c] 51)) 51 (.bool false) (.slice none 0 0))
  have HW := Lib.hid (show Below w.heap.size w ((w.alloc (.cells #[.bool b, .slice A n c] 51)).alloc (.cells #[.bool false, .slice none 0 0] 51)) from ((Below.refl _ w).alloc (Nat.le_refl _) _).alloc (by simp) _)
  simp only [World.size_alloc] at B0 B2
  obtain ⟨a0, a1, _, _⟩ := B0.out.facts
  go_enter Tryd.func153, Tryd.ntmps153
  go_wp2_with fail
  generalize (w.alloc (.cells #[.bool b, .slice A n c] 51)).alloc (.cells #[.bool false, .slice none 0 0] 51) = w0 at *
  have HWd := Lib.hid (HW.out.drew)
  have B0d := Lib.hid (show Blk2 w0.drew w.heap.size 51 (.bool b) (.slice A n c) from B0.out)
  have B2d := Lib.hid (show Blk2 w0.drew (w.heap.size + 1) 51 (.bool false) (.slice none 0 0) from B2.out)
  clear B2
  go_region_held3 (fun w' => w'.cell? ⟨w.heap.size, 0, none⟩ = some (.bool b) ∧ w'.cell? ⟨w.heap.size, 1, none⟩ = some (.slice A n c)) (first | exact ⟨a0, a1⟩ | exact ⟨k0, k1⟩ | exact ⟨k2, k3⟩ | exact ⟨k4.1, k4.2.1⟩)
    (first
     | (go_at_call 75; refine (clone_any _ A n c _ (H.out.2.2.below HWd.out) (by omega)).mono ?_; rintro e w1 ⟨⟨A', c', rfl, hkc, hr⟩, hb⟩; obtain ⟨k0, k1, _, _⟩ := (B0d.out.below hb).facts; have B0' := Lib.hid (B0d.out.below hb); have B2' := Lib.hid (B2d.out.below hb); have HR := Lib.hid hr; have HB := Lib.hid (HWd.out.trans (hb.mono HWd.out.size)); clear hr hb)
     | (go_at_call 127; refine (wof_any _ (!b) A' n c').mono ?_; rintro e w2 ⟨rfl, hb2⟩; obtain ⟨k2, k3, _, _⟩ := (B0'.out.below hb2).facts; obtain ⟨r0, r1, s0, s1⟩ := (B2'.out.below hb2).facts; have B3 := Lib.hid (B2'.out.below hb2); have k4 := (((B0'.out.below hb2).other (g' := w.heap.size + 1) (by omega) (.bool (!b && decide (0 < n))) (.slice A' n c')).facts); have HB2 := Lib.hid (HB.out.trans (hb2.mono HB.out.size)); have HR2 := Lib.hid (show RN w2 A' n z.natAbs from HR.out.below hb2); clear hb2))
  go_wp2
  refine bodyPost_ret (v := .agg #[.bool (!b && decide (0 < n)), .slice A' n c']) ?_ rfl ?_
  · simp [results, Tryd.f153, go_sem, r0, r1]
  · exact ⟨⟨_, _, _, _, rfl, ((RI.of (!b) HR2.out hkc).cast HS.out).set2 B3.out _ _⟩, below_set2 HB2.out (by omega) _ _⟩
end Go.Proofs.YtgioppkggpfnoaaDoor.Nu
end

section
/- The walks of package whole: Compare, Check, Of. -/
set_option linter.unusedVariables false
namespace Go.Proofs.YtgioppkggpfnoaaDoor.Nu
open Go.RowKit Go.Proofs

def icmp (z z2 : Int) : Int := if z < z2 then -1 else if z2 < z then 1 else 0
theorem sgn_cases (z : Int) : (z < 0 ∧ sgn z = -1) ∨ (z = 0 ∧ sgn z = 0) ∨ (0 < z ∧ sgn z = 1) := by
  rcases Int.lt_trichotomy z 0 with h | h | h
  · exact .inl ⟨h, by unfold sgn; rw [if_neg (by omega), if_pos h]⟩
  · exact .inr (.inl ⟨h, by unfold sgn; rw [if_pos h]⟩)
  · exact .inr (.inr ⟨h, by unfold sgn; rw [if_neg (by omega), if_neg (by omega)]⟩)
theorem icmp_lt {z z2 : Int} (h : z < z2) : icmp z z2 = -1 := by unfold icmp; rw [if_pos h]
theorem icmp_gt {z z2 : Int} (h : z2 < z) : icmp z z2 = 1 := by unfold icmp; rw [if_neg (by omega), if_pos h]
theorem icmp_eq {z z2 : Int} (h : z2 = z) : icmp z z2 = 0 := by unfold icmp; rw [if_neg (by omega), if_neg (by omega)]
theorem sgn_lt {z z2 : Int} (h : sgn z < sgn z2) : icmp z z2 = -1 := by
  have := sgn_cases z
  have := sgn_cases z2
  exact icmp_lt (by omega)
theorem sgn_gt {z z2 : Int} (h : sgn z2 < sgn z) : icmp z z2 = 1 := by
  have := sgn_cases z
  have := sgn_cases z2
  exact icmp_gt (by omega)
theorem sgn_neg {z z2 : Int} (h : sgn z = sgn z2) (hn : sgn z < 0) : cmp z2.natAbs z.natAbs = icmp z z2 := by
  have h1 := sgn_cases z
  have h2 := sgn_cases z2
  rcases Int.lt_trichotomy z z2 with h3 | h3 | h3
  · rw [icmp_lt h3, cmp_lt (by omega)]
  · rw [icmp_eq h3.symm, cmp_eq (by omega)]
  · rw [icmp_gt h3, cmp_gt (by omega)]
theorem sgn_nonneg {z z2 : Int} (h : sgn z = sgn z2) (hn : ¬ sgn z < 0) : cmp z.natAbs z2.natAbs = icmp z z2 := by
  have h1 := sgn_cases z
  have h2 := sgn_cases z2
  rcases Int.lt_trichotomy z z2 with h3 | h3 | h3
  · rw [icmp_lt h3, cmp_lt (by omega)]
  · rw [icmp_eq h3.symm, cmp_eq (by omega)]
  · rw [icmp_gt h3, cmp_gt (by omega)]

set_option maxRecDepth 100000 in
set_option maxHeartbeats 4000000 in
theorem wcompare_any (w : World) (b b2 : Bool) (A A2 : Option Addr) (n c n2 c2 : Nat) (z z2 : Int) (h : RI w b A n c z) (h2 : RI w b2 A2 n2 c2 z2) :
    Calls Tryd.prog 110 #[.agg #[.bool b, .slice A n c], .agg #[.bool b2, .slice A2 n2 c2]] w fun e w' => e = .returned (.int .i64 (icmp z z2)) ∧ Below w.heap.size w w' := by
  have H := Lib.hid h
  have H2 := Lib.hid h2
  clear h h2
  have B0 := Lib.hid ((Blk2.new w 51 (.bool b) (.slice A n c)).alloc (.cells #[.bool b2, .slice A2 n2 c2] 51))
  have B1 := Lib.hid (Blk2.new (w.alloc (.cells #[.bool b, .slice A n c] 51)) 51 (.bool b2) (.slice A2 n2 c2))
  have HW := Lib.hid (show Below w.heap.size w ((w.alloc (.cells #[.bool b, .slice A n c] 51)).alloc (.cells #[.bool b2, .slice A2 n2 c2] 51)) from ((Below.refl _ w).alloc (Nat.le_refl _) _).alloc (by simp) _)
  simp only [World.size_alloc] at B0 B1
  obtain ⟨a0, a1, _, _⟩ := B0.out.facts
  obtain ⟨d0, d1, _, _⟩ := B1.out.facts
  go_enter Tryd.func110, Tryd.ntmps110
  go_wp2_with fail
  generalize (w.alloc (.cells #[.bool b, .slice A n c] 51)).alloc (.cells #[.bool b2, .slice A2 n2 c2] 51) = w0 at *
  have HWd := Lib.hid (HW.out.drew)
  have B0d := Lib.hid (show Blk2 w0.drew w.heap.size 51 (.bool b) (.slice A n c) from B0.out)
  have B1d := Lib.hid (show Blk2 w0.drew (w.heap.size + 1) 51 (.bool b2) (.slice A2 n2 c2) from B1.out)
  clear B1
  have HH := H
  go_region_held3 (fun w' => w'.cell? ⟨w.heap.size, 0, none⟩ = some (.bool b) ∧ w'.cell? ⟨w.heap.size, 1, none⟩ = some (.slice A n c) ∧ w'.cell? ⟨w.heap.size + 1, 0, none⟩ = some (.bool b2) ∧ w'.cell? ⟨w.heap.size + 1, 1, none⟩ = some (.slice A2 n2 c2)) (first | exact ⟨a0, a1, d0, d1⟩ | exact ⟨k0, k1, k2, k3⟩ | exact ⟨m0, m1, m2, m3⟩)
    (first
     | (go_at_call 94; refine (wsign_any _ b A n c z (H.out.below HWd.out)).mono ?_; rintro e w1 ⟨rfl, hb⟩; obtain ⟨k0, k1, _, _⟩ := (B0d.out.below hb).facts; obtain ⟨k2, k3, _, _⟩ := (B1d.out.below hb).facts; have B0' := Lib.hid (B0d.out.below hb); have B1' := Lib.hid (B1d.out.below hb); have HB := Lib.hid (HWd.out.trans (hb.mono HWd.out.size)); clear hb H)
     | (go_at_call 94; refine (wsign_any _ b2 A2 n2 c2 z2 (H2.out.below HB.out)).mono ?_; rintro e w2 ⟨rfl, hb⟩; obtain ⟨m0, m1, _, _⟩ := (B0'.out.below hb).facts; obtain ⟨m2, m3, _, _⟩ := (B1'.out.below hb).facts; have HB2 := Lib.hid (HB.out.trans (hb.mono HB.out.size)); clear hb))
  by_cases he : sgn z = sgn z2
  · have q0 : ((sgn z : Int) == sgn z2) = true := by rw [beq_iff_eq]; exact he
    have q1 : ((sgn z : Int) != sgn z2) = false := by rw [bne, q0]; rfl
    have q2 : ¬ (sgn z : Int) < sgn z2 := by omega
    by_cases hn : sgn z < 0
    · have HS := Lib.hid (sgn_neg he hn)
      clear he
      generalize sgn z = x at *
      generalize sgn z2 = y at *
      go_wp2_with fail
      refine (compare_any w2 A2 A n2 n c2 c _ _ (H2.out.2.2.below HB2.out) (HH.out.2.2.below HB2.out)).mono ?_
      rintro e w3 ⟨rfl, hb⟩
      have HB3 := Lib.hid (HB2.out.trans (hb.mono HB2.out.size))
      clear hb
      go_wp2
      go_ret
      exact ⟨ret_int HS.out, HB3.out⟩
    · have HS := Lib.hid (sgn_nonneg he hn)
      clear he
      generalize sgn z = x at *
      generalize sgn z2 = y at *
      go_wp2_with fail
      refine (compare_any w2 A A2 n n2 c c2 _ _ (HH.out.2.2.below HB2.out) (H2.out.2.2.below HB2.out)).mono ?_
      rintro e w3 ⟨rfl, hb⟩
      have HB3 := Lib.hid (HB2.out.trans (hb.mono HB2.out.size))
      clear hb
      go_wp2
      go_ret
      exact ⟨ret_int HS.out, HB3.out⟩
  · have q0 : ((sgn z : Int) == sgn z2) = false := by rw [beq_eq_false_iff_ne]; exact he
    have q1 : ((sgn z : Int) != sgn z2) = true := by rw [bne, q0]; rfl
    by_cases hl : sgn z < sgn z2
    · have HS := Lib.hid (sgn_lt hl)
      clear he
      generalize sgn z = x at *
      generalize sgn z2 = y at *
      go_wp2
      go_ret
      exact ⟨ret_int HS.out.symm, HB2.out⟩
    · have HS := Lib.hid (sgn_gt (z := z) (z2 := z2) (by omega))
      clear he
      generalize sgn z = x at *
      generalize sgn z2 = y at *
      go_wp2
      go_ret
      exact ⟨ret_int HS.out.symm, HB2.out⟩
end Go.Proofs.YtgioppkggpfnoaaDoor.Nu
end

section
/- The walks of package whole: Check, Of. -/
set_option linter.unusedVariables false
namespace Go.Proofs.YtgioppkggpfnoaaDoor.Nu
open Go.RowKit Go.Proofs

/-- The number that a sign bit and a row of digits stand for. -/
def zv (b : Bool) (xs : List Nat) : Int := if b then -(val xs : Int) else (val xs : Int)
set_option maxHeartbeats 2000000 in
theorem wcheck_any (w : World) (b : Bool) (A : Option Addr) (n c : Nat) (xs : List Nat) (h : RL w A n xs) (hc : n ≤ c) :
    Calls Tryd.prog 95 #[.agg #[.bool b, .slice A n c]] w fun e w' => (∃ r : Int, e = .returned (.int .i64 r) ∧ (r = 0 ↔ n ≤ 512 ∧ RI w b A n c (zv b xs))) ∧ Below w.heap.size w w' := by
  have H := Lib.hid h
  clear h
  have B0 := Lib.hid (Blk2.new w 51 (.bool b) (.slice A n c))
  have HW := Lib.hid (show Below w.heap.size w (w.alloc (.cells #[.bool b, .slice A n c] 51)) from (Below.refl _ w).alloc (Nat.le_refl _) _)
  go_enter Tryd.func95, Tryd.ntmps95
  go_wp2_with fail
  generalize w.alloc (.cells #[.bool b, .slice A n c] 51) = w0 at *
  refine (check_any w0 A n c xs (H.out.below HW.out)).mono ?_
  rintro e w1 ⟨⟨r, rfl, hr⟩, rfl⟩
  obtain ⟨a0, a1, _, _⟩ := B0.out.facts
  by_cases h0 : r = 0
  · subst h0
    have hr2 := hr.1 rfl
    have HR := Lib.hid (show RN w A n (val xs) from ⟨hr2.2.1, H.out.2.1, hr2.2.2.2.1, fun h0 => by
      obtain ⟨b1, o1, e1, e2, e3⟩ := H.out.2.2.2 h0
      have e4 : digs (val xs) = xs := by
        have h3 := digs_trim H.out.2.2.1
        obtain ⟨k, hk⟩ := h3
        have : k = 0 := by
          have := congrArg List.length hk
          rw [List.length_append, List.length_replicate, hr2.2.1, H.out.1] at this
          omega
        subst this
        rw [List.replicate_zero, List.append_nil] at hk
        exact hk.symm
      rw [e4]
      exact ⟨b1, o1, e1, e2, e3⟩⟩)
    have hn5 := hr2.1
    clear hr hr2
    by_cases hb : b = true ∧ n = 0
    · obtain ⟨rfl, rfl⟩ := hb
      go_wp2
      go_ret
      refine ⟨⟨2, rfl, by omega, fun h => ?_⟩, HW.out⟩
      have h1 := h.2.1
      have h2 := HR.out.1
      have h3 : val xs = 0 := digs_eq_nil.1 (List.length_eq_zero_iff.1 h2)
      simp [zv, h3] at h1
    · have hw : RI w b A n c (zv b xs) := by
        have := RI.of b HR.out hc
        have e : (b && decide (0 < n)) = b := by
          cases b
          · rfl
          · have : n ≠ 0 := fun e => hb ⟨rfl, e⟩
            simp; omega
        rw [e] at this
        exact this
      have HWI := Lib.hid hw
      clear hw
      cases b
      · clear hb
        go_wp2
        go_ret
        exact ⟨⟨0, rfl, fun _ => ⟨hn5, HWI.out⟩, fun _ => rfl⟩, HW.out⟩
      · have hn0 : n ≠ 0 := fun e => hb ⟨rfl, e⟩
        have q : ((n : Int) == 0) = false := by rw [beq_eq_false_iff_ne]; omega
        clear hb hn0
        go_wp2
        go_ret
        exact ⟨⟨0, rfl, fun _ => ⟨hn5, HWI.out⟩, fun _ => rfl⟩, HW.out⟩
  · have q : ((r : Int) == 0) = false := by rw [beq_eq_false_iff_ne]; exact h0
    have H0 := Lib.hid h0
    have HR := Lib.hid hr
    clear h0 hr
    go_wp2
    go_ret
    refine ⟨⟨r, rfl, fun h => absurd h H0.out, fun h => ?_⟩, HW.out⟩
    refine HR.out.2 ⟨h.1, ?_⟩
    have h1 := h.2.2.2
    have h2 : (zv b xs).natAbs = val xs := by unfold zv; cases b <;> simp
    rw [h2] at h1
    exact h1.below HW.out
end Go.Proofs.YtgioppkggpfnoaaDoor.Nu
end

section
/- The walk of whole.Of. -/
set_option linter.unusedVariables false
namespace Go.Proofs.YtgioppkggpfnoaaDoor.Nu
open Go.RowKit Go.Proofs

set_option maxHeartbeats 2000000 in
theorem wOf_any (w : World) (z : Int) (h0 : -9223372036854775808 ≤ z) (h1 : z ≤ 9223372036854775807) :
    Calls Tryd.prog 64 #[.int .i64 z] w fun e w' => (∃ b' A' n' c', e = .returned (.agg #[.bool b', .slice A' n' c']) ∧ RI w' b' A' n' c' z) ∧ Below w.heap.size w w' := by
  have B2 := Lib.hid (Blk2.new w 51 (.bool false) (.slice none 0 0))
  have HW := Lib.hid (show Below w.heap.size w (w.alloc (.cells #[.bool false, .slice none 0 0] 51)) from (Below.refl _ w).alloc (Nat.le_refl _) _)
  by_cases hz : z < 0
  · go_enter Tryd.func64, Tryd.ntmps64
    go_wp2_with fail
    generalize w.alloc (.cells #[.bool false, .slice none 0 0] 51) = w0 at *
    rw [show IntKind.u64.wrap (-IntKind.u64.wrap z) = ((z.natAbs : Nat) : Int) by rw [wrap_u64, wrap_u64]; omega]
    refine (of_any w0 z.natAbs (by omega)).mono ?_
    rintro e w1 ⟨A, m, rfl, hr, hb⟩
    have B2' := Lib.hid (B2.out.below hb)
    have HR := Lib.hid hr
    have HB := Lib.hid (HW.out.trans (hb.mono HW.out.size))
    clear hr hb B2
    go_wp2_with fail
    refine (wof_any w1 true A m m).mono ?_
    rintro e w2 ⟨rfl, hb2⟩
    obtain ⟨r0, r1, s0, s1⟩ := (B2'.out.below hb2).facts
    have B3 := Lib.hid (B2'.out.below hb2)
    have HB2 := Lib.hid (HB.out.trans (hb2.mono HB.out.size))
    have HR2 := Lib.hid (HR.out.below hb2)
    have HZ := Lib.hid hz
    clear hb2 hz
    go_wp2
    refine bodyPost_ret (v := .agg #[.bool (true && decide (0 < m)), .slice A m m]) ?_ rfl ?_
    · simp [results, Tryd.f64, go_sem, r0, r1]
    · exact ⟨⟨_, _, _, _, rfl, ((RI.of true HR2.out (Nat.le_refl _)).cast (by have := HZ.out; simp only [if_true]; omega)).set2 B3.out _ _⟩, below_set2 HB2.out (by omega) _ _⟩
  · go_enter Tryd.func64, Tryd.ntmps64
    go_wp2_with fail
    generalize w.alloc (.cells #[.bool false, .slice none 0 0] 51) = w0 at *
    rw [show z = ((z.natAbs : Nat) : Int) by omega]
    refine (of_any w0 z.natAbs (by omega)).mono ?_
    rintro e w1 ⟨A, m, rfl, hr, hb⟩
    have B2' := Lib.hid (B2.out.below hb)
    have HR := Lib.hid hr
    have HB := Lib.hid (HW.out.trans (hb.mono HW.out.size))
    clear hr hb B2
    go_wp2_with fail
    refine (wof_any w1 false A m m).mono ?_
    rintro e w2 ⟨rfl, hb2⟩
    obtain ⟨r0, r1, s0, s1⟩ := (B2'.out.below hb2).facts
    have B3 := Lib.hid (B2'.out.below hb2)
    have HB2 := Lib.hid (HB.out.trans (hb2.mono HB.out.size))
    have HR2 := Lib.hid (HR.out.below hb2)
    have HZ := Lib.hid hz
    clear hb2 hz
    go_wp2
    refine bodyPost_ret (v := .agg #[.bool (false && decide (0 < m)), .slice A m m]) ?_ rfl ?_
    · simp [results, Tryd.f64, go_sem, r0, r1]
    · exact ⟨⟨_, _, _, _, rfl, ((RI.of false HR2.out (Nat.le_refl _)).cast (by have := HZ.out; simp only [Bool.false_eq_true, if_false]; omega)).set2 B3.out _ _⟩, below_set2 HB2.out (by omega) _ _⟩
end Go.Proofs.YtgioppkggpfnoaaDoor.Nu
end

section
/- The walks of package dyad: Sign. A dyad's value lies in three cells: the sign bit, the row, the exponent. -/
set_option linter.unusedVariables false
namespace Go.Proofs.YtgioppkggpfnoaaDoor.Nu
open Go.RowKit Go.Proofs

set_option maxHeartbeats 2000000 in
theorem dsign_any (w : World) (b : Bool) (A : Option Addr) (n c : Nat) (z e : Int) (h : RI w b A n c z) :
    Calls Tryd.prog 34 #[.agg #[.bool b, .slice A n c, .int .i64 e]] w fun e w' => e = .returned (.int .i64 (sgn z)) ∧ Below w.heap.size w w' := by
  have H := Lib.hid h
  clear h
  have HW := Lib.hid ((Below.refl _ w).alloc (Nat.le_refl _) (.cells #[.bool b, .slice A n c, .int .i64 e] 53))
  go_enter Tryd.func34, Tryd.ntmps34
  go_wp2_with fail
  generalize w.alloc (.cells #[.bool b, .slice A n c, .int .i64 e] 53) = w0 at *
  refine (wsign_any w0 b A n c z (H.out.below HW.out)).mono ?_
  rintro e' w1 ⟨rfl, hb⟩
  have HB := Lib.hid (HW.out.trans (hb.mono HW.out.size))
  clear hb
  go_wp2
  go_ret
  exact ⟨rfl, HB.out⟩
end Go.Proofs.YtgioppkggpfnoaaDoor.Nu
end

section
/- The walk of dyad.Make. -/
set_option linter.unusedVariables false
namespace Go.Proofs.YtgioppkggpfnoaaDoor.Nu
open Go.RowKit Go.Proofs

/-- A block of three cells. -/
def Blk3 (w : World) (g : Nat) (t : TypeId) (v0 v1 v2 : Value) : Prop := w.heap[g]? = some (.cells #[v0, v1, v2] t (0, 0))
theorem Blk3.lt {w : World} {g : Nat} {t : TypeId} {v0 v1 v2 : Value} (h : Blk3 w g t v0 v1 v2) : g < w.heap.size := (Array.getElem?_eq_some_iff.1 h).1
theorem Blk3.below {w w' : World} {g : Nat} {t : TypeId} {v0 v1 v2 : Value} (h : Blk3 w g t v0 v1 v2) (hb : Below w.heap.size w w') : Blk3 w' g t v0 v1 v2 := by
  unfold Blk3; rw [hb.block g h.lt]; exact h
theorem Blk3.alloc {w : World} {g : Nat} {t : TypeId} {v0 v1 v2 : Value} (h : Blk3 w g t v0 v1 v2) (o : Obj) : Blk3 (w.alloc o) g t v0 v1 v2 := by
  unfold Blk3; rw [Lib.alloc_old _ _ _ h.lt]; exact h
theorem Blk3.new (w : World) (t : TypeId) (v0 v1 v2 : Value) : Blk3 (w.alloc (.cells #[v0, v1, v2] t)) w.heap.size t v0 v1 v2 := alloc_top w _
theorem Blk3.facts {w : World} {g : Nat} {t : TypeId} {v0 v1 v2 : Value} (h : Blk3 w g t v0 v1 v2) : w.cell? ⟨g, 0, none⟩ = some v0 ∧ w.cell? ⟨g, 1, none⟩ = some v1 ∧ w.cell? ⟨g, 2, none⟩ = some v2 ∧ w.frozen? ⟨g, 0, none⟩ = false ∧ w.frozen? ⟨g, 1, none⟩ = false ∧ w.frozen? ⟨g, 2, none⟩ = false :=
  ⟨by rw [Lib.cell_of_heap h]; rfl, by rw [Lib.cell_of_heap h]; rfl, by rw [Lib.cell_of_heap h]; rfl, Lib.frozen_of_heap h 0, Lib.frozen_of_heap h 1, Lib.frozen_of_heap h 2⟩
theorem RL.set3 {w : World} {A : Option Addr} {n : Nat} {xs : List Nat} (h : RL w A n xs) {g : Nat} {t : TypeId} {p : Bool} {a : Option Addr} {l c : Nat} {y : Int} (hB : Blk3 w g t (.bool p) (.slice a l c) (.int .i64 y)) (u0 u1 u2 : Value) :
    RL (((w.setCell ⟨g, 0, none⟩ u0).setCell ⟨g, 1, none⟩ u1).setCell ⟨g, 2, none⟩ u2) A n xs := by
  obtain ⟨h1, h2, hd, h3⟩ := h
  refine ⟨h1, h2, hd, fun h0 => ?_⟩
  obtain ⟨b, off, hA, hlt, hc⟩ := h3 h0
  have hbg : b ≠ g := fun e => by
    subst e
    have h4 := hc 0 h0
    rw [Lib.cell_of_heap hB] at h4
    rcases Nat.lt_or_ge (off + 0) 3 with h5 | h5
    · have : off + 0 = 0 ∨ off + 0 = 1 ∨ off + 0 = 2 := by omega
      rcases this with h6 | h6 | h6 <;> rw [h6] at h4 <;> simp at h4
    · rw [Array.getElem?_eq_none (by simpa using h5)] at h4
      cases h4
  refine ⟨b, off, hA, by simpa [World.setCell] using hlt, fun j hj => ?_⟩
  rw [← hc j hj]
  exact World.cell?_of_block ((Below.heap_setCell _ _ _ _ hbg).trans ((Below.heap_setCell _ _ _ _ hbg).trans (Below.heap_setCell _ _ _ _ hbg)))
theorem RI.set3 {w : World} {b : Bool} {A : Option Addr} {n c : Nat} {z : Int} (h : RI w b A n c z) {g : Nat} {t : TypeId} {p : Bool} {a : Option Addr} {l c' : Nat} {y : Int} (hB : Blk3 w g t (.bool p) (.slice a l c') (.int .i64 y)) (u0 u1 u2 : Value) :
    RI (((w.setCell ⟨g, 0, none⟩ u0).setCell ⟨g, 1, none⟩ u1).setCell ⟨g, 2, none⟩ u2) b A n c z := ⟨h.1, h.2.1, RL.set3 h.2.2 hB u0 u1 u2⟩
theorem odd_sgn {z : Int} {k m : Nat} (h : Odd2 z.natAbs k m) : sgn (z / 2 ^ k) ≠ 0 := by
  have hz := odd_pos h
  have hq : z / 2 ^ k ≠ 0 := fun e => by
    have hp := pow_pos_int k
    have h1 := Int.mul_ediv_add_emod z (2 ^ k)
    have hd : (2 ^ k : Int) ∣ z := by
      rw [← Int.dvd_natAbs, h, Int.natCast_mul, cast_pow]
      exact Int.dvd_mul_right _ _
    rw [e, Int.emod_eq_zero_of_dvd hd] at h1
    simp at h1
    omega
  have := sgn_cases (z / 2 ^ k)
  omega
theorem below_set3 {B : Nat} {w w' : World} (h : Below B w w') {g : Nat} (hg : B ≤ g) (u0 u1 u2 : Value) : Below B w (((w'.setCell ⟨g, 0, none⟩ u0).setCell ⟨g, 1, none⟩ u1).setCell ⟨g, 2, none⟩ u2) :=
  (below_set2 h hg u0 u1).setCell (p := ⟨g, 2, none⟩) hg u2

set_option maxRecDepth 100000 in
set_option maxHeartbeats 4000000 in
theorem dmake_any (w : World) (b : Bool) (A : Option Addr) (n c : Nat) (z x : Int) (k m : Nat) (h : RI w b A n c z) (hn : n ≤ 512) (htab : BTab w) (hx0 : -65536 ≤ x) (hx1 : x ≤ 65536) (hk : Odd2 z.natAbs k m) (hxk : x + k ≤ 65536) :
    Calls Tryd.prog 93 #[.agg #[.bool b, .slice A n c], .int .i64 x] w fun e w' => (∃ b' A' n' c', e = .returned (.tuple #[.agg #[.bool b', .slice A' n' c', .int .i64 (x + k)], .int .i64 0]) ∧ RI w' b' A' n' c' (z / 2 ^ k)) ∧ Below w.heap.size w w' := by
  have H := Lib.hid h
  have HT := Lib.hid htab
  have HK := Lib.hid hk
  clear h htab hk
  have B0 := Lib.hid ((Blk2.new w 51 (.bool b) (.slice A n c)).alloc (.cells #[.bool false, .slice none 0 0, .int .i64 0] 53))
  have B2 := Lib.hid (Blk3.new (w.alloc (.cells #[.bool b, .slice A n c] 51)) 53 (.bool false) (.slice none 0 0) (.int .i64 0))
  have HW := Lib.hid (show Below w.heap.size w ((w.alloc (.cells #[.bool b, .slice A n c] 51)).alloc (.cells #[.bool false, .slice none 0 0, .int .i64 0] 53)) from ((Below.refl _ w).alloc (Nat.le_refl _) _).alloc (by simp) _)
  simp only [World.size_alloc] at B0 B2
  go_enter Tryd.func93, Tryd.ntmps93
  go_wp2_with fail
  generalize (w.alloc (.cells #[.bool b, .slice A n c] 51)).alloc (.cells #[.bool false, .slice none 0 0, .int .i64 0] 53) = w0 at *
  refine (tail_any w0 A n c _ k m (H.out.2.2.below HW.out) hn HK.out (HT.out.below HW.out)).mono ?_
  rintro e w0' ⟨rfl, rfl⟩
  obtain ⟨a0, a1, _, _⟩ := B0.out.facts
  go_wp2_with fail
  refine (wright_any w0' b A n c k z (H.out.below HW.out) hn (by omega) (HT.out.below HW.out)).mono ?_
  rintro e w1 ⟨⟨b', A', n', c', rfl, hr⟩, hb⟩
  have B2' := Lib.hid ((B2.out.below hb).alloc (.cells #[.bool b', .slice A' n' c'] 51))
  have B3 := Lib.hid (Blk2.new w1 51 (.bool b') (.slice A' n' c'))
  have HB := Lib.hid ((HW.out.trans (hb.mono HW.out.size)).alloc (Nat.le_trans HW.out.size hb.size) (.cells #[.bool b', .slice A' n' c'] 51))
  have HR := Lib.hid (hr.below ((Below.refl _ w1).alloc (Nat.le_refl _) (.cells #[.bool b', .slice A' n' c'] 51)))
  have HQ := Lib.hid (odd_sgn HK.out)
  clear hb hr a0 a1 B0 B2
  go_wp2_with fail
  refine (wsign_any _ b' A' n' c' _ HR.out).mono ?_
  rintro e w2 ⟨rfl, hb⟩
  have q0 : ((sgn (z / 2 ^ k) : Int) == 0) = false := by rw [beq_eq_false_iff_ne]; exact HQ.out
  generalize sgn (z / 2 ^ k) = t at *
  obtain ⟨m0, m1, _, _⟩ := (B3.out.below hb).facts
  obtain ⟨r0, r1, r2, s0, s1, s2⟩ := (B2'.out.below hb).facts
  have B4 := Lib.hid (B2'.out.below hb)
  have HB2 := Lib.hid (HB.out.trans (hb.mono HB.out.size))
  have HR2 := Lib.hid (HR.out.below hb)
  have p0 : ¬ (65536 : Int) < x := by omega
  have p1 : ¬ x < -65536 := by omega
  have p2 : ¬ (65536 : Int) < x + (k : Int) := by omega
  have p3 : -65536 ≤ x + (k : Int) := by omega
  clear hb B3 B2'
  go_wp2
  refine bodyPost_ret (v := .tuple #[.agg #[.bool b', .slice A' n' c', .int .i64 (x + k)], .int .i64 0]) ?_ rfl ?_
  · simp [results, Tryd.f93, go_sem, r0, r1, r2]
  · exact ⟨⟨_, _, _, _, rfl, HR2.out.set3 B4.out _ _ _⟩, below_set3 HB2.out (by omega) _ _ _⟩

set_option maxRecDepth 100000 in
set_option maxHeartbeats 4000000 in
theorem dmake_zero (w : World) (b : Bool) (A : Option Addr) (n c : Nat) (x : Int) (h : RI w b A n c 0) (htab : BTab w) :
    Calls Tryd.prog 93 #[.agg #[.bool b, .slice A n c], .int .i64 x] w fun e w' => e = .returned (.tuple #[.agg #[.bool false, .slice none 0 0, .int .i64 0], .int .i64 0]) ∧ Below w.heap.size w w' := by
  obtain rfl : n = 0 := by have := h.pos; omega
  have H := Lib.hid h
  have HT := Lib.hid htab
  clear h htab
  have B0 := Lib.hid ((Blk2.new w 51 (.bool b) (.slice A 0 c)).alloc (.cells #[.bool false, .slice none 0 0, .int .i64 0] 53))
  have B2 := Lib.hid (Blk3.new (w.alloc (.cells #[.bool b, .slice A 0 c] 51)) 53 (.bool false) (.slice none 0 0) (.int .i64 0))
  have HW := Lib.hid (show Below w.heap.size w ((w.alloc (.cells #[.bool b, .slice A 0 c] 51)).alloc (.cells #[.bool false, .slice none 0 0, .int .i64 0] 53)) from ((Below.refl _ w).alloc (Nat.le_refl _) _).alloc (by simp) _)
  simp only [World.size_alloc] at B0 B2
  go_enter Tryd.func93, Tryd.ntmps93
  go_wp2_with fail
  generalize (w.alloc (.cells #[.bool b, .slice A 0 c] 51)).alloc (.cells #[.bool false, .slice none 0 0, .int .i64 0] 53) = w0 at *
  refine (tail_zero w0 A c).mono ?_
  rintro e w0' ⟨rfl, rfl⟩
  obtain ⟨a0, a1, _, _⟩ := B0.out.facts
  go_wp2_with fail
  refine (wright_any w0' b A 0 c 0 0 (H.out.below HW.out) (by omega) (by omega) (HT.out.below HW.out)).mono ?_
  rintro e w1 ⟨⟨b', A', n', c', rfl, hr⟩, hb⟩
  rw [show (0 : Int) / 2 ^ 0 = 0 by decide] at hr
  have B2' := Lib.hid ((B2.out.below hb).alloc (.cells #[.bool b', .slice A' n' c'] 51))
  have B3 := Lib.hid (Blk2.new w1 51 (.bool b') (.slice A' n' c'))
  have HB := Lib.hid ((HW.out.trans (hb.mono HW.out.size)).alloc (Nat.le_trans HW.out.size hb.size) (.cells #[.bool b', .slice A' n' c'] 51))
  have HR := Lib.hid (hr.below ((Below.refl _ w1).alloc (Nat.le_refl _) (.cells #[.bool b', .slice A' n' c'] 51)))
  clear hb hr a0 a1 B0 B2
  go_wp2_with fail
  refine (wsign_any _ b' A' n' c' _ HR.out).mono ?_
  rintro e w2 ⟨rfl, hb⟩
  rw [show sgn 0 = 0 from rfl]
  obtain ⟨r0, r1, r2, s0, s1, s2⟩ := (B2'.out.below hb).facts
  have HB2 := Lib.hid (HB.out.trans (hb.mono HB.out.size))
  clear hb B3 B2'
  go_wp2
  refine bodyPost_ret (v := .tuple #[.agg #[.bool false, .slice none 0 0, .int .i64 0], .int .i64 0]) ?_ rfl ?_
  · simp [results, Tryd.f93, go_sem, r0, r1, r2]
  · exact ⟨rfl, below_set3 HB2.out (by omega) _ _ _⟩
end Go.Proofs.YtgioppkggpfnoaaDoor.Nu
end

section
/- The walks of dyad.Neg. -/
set_option linter.unusedVariables false
namespace Go.Proofs.YtgioppkggpfnoaaDoor.Nu
open Go.RowKit Go.Proofs

theorem Blk3.other3 {w : World} {g g' : Nat} {t : TypeId} {v0 v1 v2 : Value} (h : Blk3 w g t v0 v1 v2) (hg : g ≠ g') (u0 u1 u2 : Value) : Blk3 (((w.setCell ⟨g', 0, none⟩ u0).setCell ⟨g', 1, none⟩ u1).setCell ⟨g', 2, none⟩ u2) g t v0 v1 v2 := by
  unfold Blk3
  rw [Below.heap_setCell _ _ _ _ hg, Below.heap_setCell _ _ _ _ hg, Below.heap_setCell _ _ _ _ hg]
  exact h
set_option maxRecDepth 100000 in
set_option maxHeartbeats 4000000 in
theorem dneg_any (w : World) (b : Bool) (A : Option Addr) (n c : Nat) (z x : Int) (h : RI w b A n c z) (hn : n ≤ 512) :
    Calls Tryd.prog 111 #[.agg #[.bool b, .slice A n c, .int .i64 x]] w fun e w' => (∃ b' A' n' c', e = .returned (.agg #[.bool b', .slice A' n' c', .int .i64 x]) ∧ RI w' b' A' n' c' (-z)) ∧ Below w.heap.size w w' := by
  have H := Lib.hid h
  clear h
  have B0 := Lib.hid ((Blk3.new w 53 (.bool b) (.slice A n c) (.int .i64 x)).alloc (.cells #[.bool false, .slice none 0 0, .int .i64 0] 53))
  have B2 := Lib.hid (Blk3.new (w.alloc (.cells #[.bool b, .slice A n c, .int .i64 x] 53)) 53 (.bool false) (.slice none 0 0) (.int .i64 0))
  have HW := Lib.hid (show Below w.heap.size w ((w.alloc (.cells #[.bool b, .slice A n c, .int .i64 x] 53)).alloc (.cells #[.bool false, .slice none 0 0, .int .i64 0] 53)) from ((Below.refl _ w).alloc (Nat.le_refl _) _).alloc (by simp) _)
  simp only [World.size_alloc] at B0 B2
  obtain ⟨a0, a1, a2, _, _, _⟩ := B0.out.facts
  go_enter Tryd.func111, Tryd.ntmps111
  go_wp2_with fail
  generalize (w.alloc (.cells #[.bool b, .slice A n c, .int .i64 x] 53)).alloc (.cells #[.bool false, .slice none 0 0, .int .i64 0] 53) = w0 at *
  have HWd := Lib.hid (HW.out.drew)
  have B0d := Lib.hid (show Blk3 w0.drew w.heap.size 53 (.bool b) (.slice A n c) (.int .i64 x) from B0.out)
  have B2d := Lib.hid (show Blk3 w0.drew (w.heap.size + 1) 53 (.bool false) (.slice none 0 0) (.int .i64 0) from B2.out)
  clear B2
  go_region_held3 (fun w' => w'.cell? ⟨w.heap.size, 0, none⟩ = some (.bool b) ∧ w'.cell? ⟨w.heap.size, 1, none⟩ = some (.slice A n c) ∧ w'.cell? ⟨w.heap.size, 2, none⟩ = some (.int .i64 x)) (first | exact ⟨a0, a1, a2⟩ | exact ⟨k0, k1, k2⟩ | exact ⟨k4.1, k4.2.1, k4.2.2.1⟩)
    (first
     | (go_at_call 153; refine (wneg_any _ b A n c z (H.out.below HWd.out) hn).mono ?_; rintro e w1 ⟨⟨b', A', n', c', rfl, hr⟩, hb⟩; obtain ⟨k0, k1, k2, _⟩ := (B0d.out.below hb).facts; obtain ⟨r0, r1, r2, s0, s1, s2⟩ := (B2d.out.below hb).facts; have B3 := Lib.hid (B2d.out.below hb); have k4 := (((B0d.out.below hb).other3 (g' := w.heap.size + 1) (by omega) (.bool b') (.slice A' n' c') (.int .i64 x)).facts); have HR := Lib.hid hr; have HB := Lib.hid (HWd.out.trans (hb.mono HWd.out.size)); clear hr hb))
  go_wp2
  refine bodyPost_ret (v := .agg #[.bool b', .slice A' n' c', .int .i64 x]) ?_ rfl ?_
  · simp [results, Tryd.f111, go_sem, r0, r1, r2]
  · exact ⟨⟨_, _, _, _, rfl, HR.out.set3 B3.out _ _ _⟩, below_set3 HB.out (by omega) _ _ _⟩
end Go.Proofs.YtgioppkggpfnoaaDoor.Nu
end

section
/- Numbers times powers of two, plain: what the program's dyads stand for and how they are reckoned with. No program in sight. -/
namespace Go.Proofs.YtgioppkggpfnoaaDoor.Nu

/-- How many bits a number has. -/
def nb (x : Nat) : Nat := if x = 0 then 0 else Nat.log2 x + 1
theorem nb_zero : nb 0 = 0 := rfl
theorem nb_le {x k : Nat} : nb x ≤ k ↔ x < 2 ^ k := by
  unfold nb
  by_cases h : x = 0
  · subst h; simp [Nat.two_pow_pos]
  · rw [if_neg h, ← Nat.log2_lt h]; omega
theorem nb_pos {x : Nat} (h : x ≠ 0) : 0 < nb x := by unfold nb; rw [if_neg h]; omega
theorem nb_mul_pow {x : Nat} (h : x ≠ 0) (k : Nat) : nb (x * 2 ^ k) = nb x + k := by
  apply Nat.le_antisymm
  · rw [nb_le, Nat.pow_add]
    exact Nat.mul_lt_mul_of_pos_right (nb_le.1 (Nat.le_refl _)) (Nat.two_pow_pos k)
  · false_or_by_contra
    rename_i h1
    have h2 : nb (x * 2 ^ k) ≤ nb x + k - 1 := by omega
    rw [nb_le, show nb x + k - 1 = nb x - 1 + k by have := nb_pos h; omega, Nat.pow_add] at h2
    have h3 := Nat.lt_of_mul_lt_mul_right h2
    have h4 := nb_le.2 h3
    have := nb_pos h
    omega
theorem nb_mul (x y : Nat) : nb (x * y) ≤ nb x + nb y := by
  rw [nb_le, Nat.pow_add]
  exact Nat.mul_lt_mul'' (nb_le.1 (Nat.le_refl _)) (nb_le.1 (Nat.le_refl _))
/-- How many noughts stand at the end of a number's bits. -/
def tz (n : Nat) : Nat := if h : n = 0 then 0 else if n % 2 = 1 then 0 else tz (n / 2) + 1
termination_by n
decreasing_by omega
theorem tz_spec (n : Nat) (h : n ≠ 0) : ∃ m, n = 2 ^ tz n * (2 * m + 1) := by
  induction n using Nat.strongRecOn with
  | ind n ih =>
    rw [tz]
    by_cases h1 : n % 2 = 1
    · rw [dif_neg h, if_pos h1]
      exact ⟨n / 2, by rw [Nat.pow_zero]; omega⟩
    · obtain ⟨m, hm⟩ := ih (n / 2) (by omega) (by omega)
      rw [dif_neg h, if_neg h1]
      refine ⟨m, ?_⟩
      rw [Nat.pow_succ, Nat.mul_comm (2 ^ _) 2, Nat.mul_assoc, ← hm]
      omega
theorem tz_odd {n : Nat} (h : n % 2 = 1) : tz n = 0 := by
  rw [tz, dif_neg (by omega), if_pos h]

/-- A whole number times a power of two. -/
structure D where
  z : Int
  x : Int
theorem D.ext' {a b : D} (h : a.z = b.z) (h2 : a.x = b.x) : a = b := by cases a; cases b; simp_all
/-- In the one form that it has: odd, or all of it nought. -/
def D.Can (d : D) : Prop := d.z % 2 = 1 ∨ d.z = 0 ∧ d.x = 0
def D.mk' (z x : Int) : D := if z = 0 then ⟨0, 0⟩ else ⟨z / 2 ^ tz z.natAbs, x + tz z.natAbs⟩
def D.val (d : D) : Rat := d.z * (2 : Rat) ^ d.x
/-- No finer than 2^-E, less than 2^T. -/
def D.Lim (E T : Nat) (d : D) : Prop := -(E : Int) ≤ d.x ∧ d.x + nb d.z.natAbs ≤ T
theorem two_ne : (2 : Rat) ≠ 0 := by decide
theorem two_pos : (0 : Rat) < 2 := by decide
theorem zpow_pos (x : Int) : (0 : Rat) < (2 : Rat) ^ x := Rat.zpow_pos two_pos

theorem zpow_add' (m n : Int) : (2 : Rat) ^ (m + n) = (2 : Rat) ^ m * (2 : Rat) ^ n := Rat.zpow_add two_ne m n
theorem cast_two_pow (k : Nat) : ((2 ^ k : Int) : Rat) = (2 : Rat) ^ (k : Int) := by rw [Rat.intCast_pow, Rat.zpow_natCast]; rfl
theorem cast_mul_pow (z : Int) (k : Nat) : ((z * 2 ^ k : Int) : Rat) = z * (2 : Rat) ^ (k : Int) := by rw [Rat.intCast_mul, cast_two_pow]

/-! ### The one form -/
theorem mk_zero (x : Int) : D.mk' 0 x = ⟨0, 0⟩ := by unfold D.mk'; rw [if_pos rfl]
theorem mk_pos {z : Int} (h : z ≠ 0) (x : Int) : D.mk' z x = ⟨z / 2 ^ tz z.natAbs, x + tz z.natAbs⟩ := by unfold D.mk'; rw [if_neg h]
theorem tz_div {z : Int} (h : z ≠ 0) : z / 2 ^ tz z.natAbs * 2 ^ tz z.natAbs = z ∧ z / 2 ^ tz z.natAbs % 2 = 1 := by
  obtain ⟨m, hm⟩ := tz_spec z.natAbs (by omega)
  generalize tz z.natAbs = k at *
  have hp : (0 : Int) < 2 ^ k := Int.pow_pos (by decide)
  have hc : ((2 ^ k * (2 * m + 1) : Nat) : Int) = 2 ^ k * (2 * (m : Int) + 1) := by simp
  rcases Int.lt_or_gt_of_ne h with h1 | h1
  · have e : z = 2 ^ k * (2 * (-(m : Int) - 1) + 1) := by
      rw [show (2 * (-(m : Int) - 1) + 1) = -(2 * (m : Int) + 1) by omega, Int.mul_neg, ← hc, ← hm]; omega
    generalize hq : 2 * (-(m : Int) - 1) + 1 = q at e
    have e2 : z / 2 ^ k = q := by rw [e, Int.mul_ediv_cancel_left _ (by omega)]
    rw [e2]
    exact ⟨by rw [e, Int.mul_comm], by omega⟩
  · have e : z = 2 ^ k * (2 * (m : Int) + 1) := by rw [← hc, ← hm]; omega
    generalize hq : 2 * (m : Int) + 1 = q at e
    have e2 : z / 2 ^ k = q := by rw [e, Int.mul_ediv_cancel_left _ (by omega)]
    rw [e2]
    exact ⟨by rw [e, Int.mul_comm], by omega⟩
theorem mk_can (z x : Int) : (D.mk' z x).Can := by
  by_cases h : z = 0
  · subst h; rw [mk_zero]; exact .inr ⟨rfl, rfl⟩
  · rw [mk_pos h]; exact .inl (tz_div h).2
theorem mk_val (z x : Int) : (D.mk' z x).val = z * (2 : Rat) ^ x := by
  by_cases h : z = 0
  · subst h; rw [mk_zero]; simp [D.val, Rat.zero_mul]
  · rw [mk_pos h]
    simp only [D.val]
    rw [Int.add_comm, zpow_add', ← Rat.mul_assoc, ← cast_mul_pow, (tz_div h).1]
theorem mk_top {z : Int} (h : z ≠ 0) (x : Int) : (D.mk' z x).x + nb (D.mk' z x).z.natAbs = x + nb z.natAbs := by
  have h1 := (tz_div h).1
  have h2 := (tz_div h).2
  rw [mk_pos h]
  simp only
  generalize z / 2 ^ tz z.natAbs = q at *
  have e : z.natAbs = q.natAbs * 2 ^ tz z.natAbs := by
    conv => lhs; rw [← h1]
    rw [Int.natAbs_mul, Int.natAbs_pow]; rfl
  have := nb_mul_pow (x := q.natAbs) (by omega) (tz z.natAbs)
  rw [← e] at this
  omega
theorem mk_lim {z x : Int} {E T : Nat} (h : -(E : Int) ≤ x) (ht : x + nb z.natAbs ≤ T) : (D.mk' z x).Lim E T := by
  by_cases h0 : z = 0
  · subst h0; rw [mk_zero]; exact ⟨by simp only; omega, by simp only [Int.natAbs_zero, nb_zero]; omega⟩
  · refine ⟨?_, by rw [mk_top h0]; exact ht⟩
    rw [mk_pos h0]; simp only; omega
theorem D.Lim.mono {d : D} {E T E' T' : Nat} (h : d.Lim E T) (h1 : E ≤ E') (h2 : T ≤ T') : d.Lim E' T' := ⟨by have := h.1; omega, by have := h.2; omega⟩
theorem zero_can : D.Can ⟨0, 0⟩ := .inr ⟨rfl, rfl⟩
theorem zero_lim (E T : Nat) : D.Lim E T ⟨0, 0⟩ := ⟨by simp only; omega, by simp only [Int.natAbs_zero, nb_zero]; omega⟩
theorem zero_val : D.val ⟨0, 0⟩ = 0 := by simp [D.val]
theorem val_of_zero {d : D} (h : d.z = 0) : d.val = 0 := by simp [D.val, h, Rat.zero_mul]

/-! ### Neg, Abs, Mul -/
def D.neg (d : D) : D := ⟨-d.z, d.x⟩
def D.abs (d : D) : D := ⟨d.z.natAbs, d.x⟩
def D.mul (a b : D) : D := D.mk' (a.z * b.z) (a.x + b.x)
theorem neg_can {d : D} (h : d.Can) : d.neg.Can := by
  rcases h with h | ⟨h, h2⟩
  · exact .inl (by simp only [D.neg]; omega)
  · exact .inr ⟨by simp only [D.neg]; omega, h2⟩
theorem abs_can {d : D} (h : d.Can) : d.abs.Can := by
  rcases h with h | ⟨h, h2⟩
  · exact .inl (by simp only [D.abs]; omega)
  · exact .inr ⟨by simp only [D.abs]; omega, h2⟩
theorem neg_lim {d : D} {E T : Nat} (h : d.Lim E T) : d.neg.Lim E T := ⟨h.1, by simp only [D.neg, Int.natAbs_neg]; exact h.2⟩
theorem abs_lim {d : D} {E T : Nat} (h : d.Lim E T) : d.abs.Lim E T := ⟨h.1, by simp only [D.abs, Int.natAbs_natCast]; exact h.2⟩
theorem neg_val (d : D) : d.neg.val = -d.val := by simp [D.neg, D.val, Rat.intCast_neg, Rat.neg_mul]
theorem mul_val (a b : D) : (a.mul b).val = a.val * b.val := by
  unfold D.mul D.val
  have := mk_val (a.z * b.z) (a.x + b.x)
  unfold D.val at this
  rw [this, Rat.intCast_mul, zpow_add']
  grind
theorem mul_lim {a b : D} {E T E' T' : Nat} (h : a.Lim E T) (h' : b.Lim E' T') : (a.mul b).Lim (E + E') (T + T') := by
  refine mk_lim (by have := h.1; have := h'.1; omega) ?_
  have := nb_mul a.z.natAbs b.z.natAbs
  rw [Int.natAbs_mul]
  have := h.2
  have := h'.2
  omega

/-! ### Add -/
def D.add (a b : D) : D :=
  if a.z = 0 then D.mk' b.z b.x else if b.z = 0 then D.mk' a.z a.x else D.mk' (a.z * 2 ^ (a.x - min a.x b.x).toNat + b.z * 2 ^ (b.x - min a.x b.x).toNat) (min a.x b.x)
theorem add_can (a b : D) : (a.add b).Can := by
  unfold D.add
  split
  · exact mk_can _ _
  · split <;> exact mk_can _ _
theorem scale_val (z x low : Int) (h : low ≤ x) : ((z * 2 ^ (x - low).toNat : Int) : Rat) * (2 : Rat) ^ low = z * (2 : Rat) ^ x := by
  rw [cast_mul_pow, Rat.mul_assoc, ← zpow_add']
  congr 2
  omega
theorem add_val (a b : D) : (a.add b).val = a.val + b.val := by
  unfold D.add
  split
  · rename_i h
    rw [mk_val, val_of_zero h, Rat.zero_add]; rfl
  · split
    · rename_i h
      rw [mk_val, val_of_zero h, Rat.add_zero]; rfl
    · rw [mk_val, Rat.intCast_add, Rat.add_mul, scale_val _ _ _ (by omega), scale_val _ _ _ (by omega)]; rfl
/-- Brought to one power of two. -/
theorem scale_nb {d : D} {E T : Nat} (h : d.Lim E T) {low : Int} (hl : low ≤ d.x) (h0 : d.z ≠ 0) : low + nb (d.z * 2 ^ (d.x - low).toNat).natAbs ≤ T := by
  rw [Int.natAbs_mul, Int.natAbs_pow, show Int.natAbs 2 = 2 from rfl, nb_mul_pow (by omega)]
  have := h.2
  omega
theorem nb_add (x y : Int) (k : Nat) (h : nb x.natAbs ≤ k) (h2 : nb y.natAbs ≤ k) : nb (x + y).natAbs ≤ k + 1 := by
  rw [nb_le] at *
  rw [Nat.pow_succ]
  omega
theorem add_lim {a b : D} {E T : Nat} (h : a.Lim E T) (h' : b.Lim E T) : (a.add b).Lim E (T + 1) := by
  unfold D.add
  split
  · exact mk_lim h'.1 (by have := h'.2; omega)
  · split
    · exact mk_lim h.1 (by have := h.2; omega)
    · rename_i h0 h1
      refine mk_lim (by have := h.1; have := h'.1; omega) ?_
      have h2 := scale_nb h (low := min a.x b.x) (by omega) h0
      have h3 := scale_nb h' (low := min a.x b.x) (by omega) h1
      generalize min a.x b.x = low at *
      have := nb_add (a.z * 2 ^ (a.x - low).toNat) (b.z * 2 ^ (b.x - low).toNat) (T - low).toNat (by omega) (by omega)
      have h4 := nb_pos (x := a.z.natAbs) (by omega)
      have h5 : low ≤ T := by omega
      omega
def D.sub (a b : D) : D := a.add b.neg
theorem sub_val (a b : D) : (a.sub b).val = a.val - b.val := by unfold D.sub; rw [add_val, neg_val]; grind

/-! ### Compare -/
theorem val_pos {d : D} : 0 < d.val ↔ 0 < d.z := by
  unfold D.val
  constructor
  · intro h
    false_or_by_contra
    rename_i h1
    have h2 : (d.z : Rat) ≤ 0 := by rw [show (0 : Rat) = ((0 : Int) : Rat) from rfl, Rat.intCast_le_intCast]; omega
    have h3 := Rat.mul_le_mul_of_nonneg_right h2 (Rat.le_of_lt (zpow_pos d.x))
    rw [Rat.zero_mul] at h3
    exact absurd h (Rat.not_lt.2 h3)
  · intro h
    have h2 : (0 : Rat) < (d.z : Rat) := by rw [show (0 : Rat) = ((0 : Int) : Rat) from rfl, Rat.intCast_lt_intCast]; omega
    exact Rat.mul_pos h2 (zpow_pos d.x)
theorem val_neg {d : D} : d.val < 0 ↔ d.z < 0 := by
  have h := val_pos (d := d.neg)
  rw [neg_val] at h
  simp only [D.neg] at h
  constructor
  · intro h1; have := h.1 (by grind); omega
  · intro h1; have := h.2 (by omega); grind
theorem abs_val (d : D) : d.abs.val = if 0 ≤ d.val then d.val else -d.val := by
  by_cases h : d.z < 0
  · have h1 := val_neg.2 h
    rw [if_neg (Rat.not_le.2 h1), ← neg_val]
    unfold D.abs D.neg
    congr 2; omega
  · have h1 : ¬ d.val < 0 := fun e => h (val_neg.1 e)
    rw [if_pos (Rat.not_lt.1 h1)]
    unfold D.abs
    congr 2; omega
/-- -1, 0 or 1, as two numbers stand to each other. -/
def qcmp (p q : Rat) : Int := if p < q then -1 else if q < p then 1 else 0
def D.cmp (a b : D) : Int := qcmp a.val b.val
theorem dcmp_lt {a b : D} (h : a.val < b.val) : a.cmp b = -1 := by unfold D.cmp qcmp; rw [if_pos h]
theorem dcmp_gt {a b : D} (h : b.val < a.val) : a.cmp b = 1 := by unfold D.cmp qcmp; rw [if_neg (Rat.not_lt.2 (Rat.le_of_lt h)), if_pos h]
theorem dcmp_eq {a b : D} (h : a.val = b.val) : a.cmp b = 0 := by unfold D.cmp qcmp; rw [h, if_neg Rat.lt_irrefl, if_neg Rat.lt_irrefl]
theorem qcmp_cases (p q : Rat) : (p < q ∧ qcmp p q = -1) ∨ (p = q ∧ qcmp p q = 0) ∨ (q < p ∧ qcmp p q = 1) := by
  unfold qcmp
  by_cases h : p < q
  · rw [if_pos h]; exact .inl ⟨h, rfl⟩
  · rw [if_neg h]
    by_cases h2 : q < p
    · rw [if_pos h2]; exact .inr (.inr ⟨h2, rfl⟩)
    · rw [if_neg h2]; exact .inr (.inl ⟨Rat.le_antisymm (Rat.not_lt.1 h2) (Rat.not_lt.1 h), rfl⟩)
theorem cmp_neg_iff {a b : D} : a.cmp b < 0 ↔ a.val < b.val := by
  have := qcmp_cases a.val b.val
  unfold D.cmp
  constructor
  · intro h
    rcases this with ⟨h1, _⟩ | ⟨_, h2⟩ | ⟨_, h2⟩
    · exact h1
    · omega
    · omega
  · intro h
    have := dcmp_lt h
    unfold D.cmp at this
    omega
/-- Above how many bits the highest one stands. -/
def D.top (d : D) : Int := d.x + nb d.z.natAbs
theorem natpow_cast (k : Nat) : ((2 ^ k : Nat) : Int) = 2 ^ k := by simp
theorem val_lt_top {d : D} : d.val < (2 : Rat) ^ d.top := by
  unfold D.val D.top
  have h := nb_le.1 (Nat.le_refl (nb d.z.natAbs))
  have h1 : d.z < (2 ^ nb d.z.natAbs : Nat) := by omega
  rw [natpow_cast] at h1
  have h2 := Rat.mul_lt_mul_of_pos_right (Rat.intCast_lt_intCast.2 h1) (zpow_pos d.x)
  rw [cast_two_pow] at h2
  rw [Int.add_comm, zpow_add']
  exact h2
theorem val_ge_top {d : D} (h0 : 0 < d.z) : (2 : Rat) ^ (d.top - 1) ≤ d.val := by
  unfold D.val D.top
  have hp := nb_pos (x := d.z.natAbs) (by omega)
  have h : 2 ^ (nb d.z.natAbs - 1) ≤ d.z.natAbs := by
    false_or_by_contra
    rename_i h1
    have := nb_le.2 (Nat.lt_of_not_le h1)
    omega
  have h1 : ((2 ^ (nb d.z.natAbs - 1) : Nat) : Int) ≤ d.z := by omega
  rw [natpow_cast] at h1
  have h2 := Rat.mul_le_mul_of_nonneg_right (Rat.intCast_le_intCast.2 h1) (Rat.le_of_lt (zpow_pos d.x))
  rw [cast_two_pow] at h2
  rw [show d.x + (nb d.z.natAbs : Int) - 1 = ((nb d.z.natAbs - 1 : Nat) : Int) + d.x by omega, zpow_add']
  exact h2
theorem zpow_le {m n : Int} (h : m ≤ n) : (2 : Rat) ^ m ≤ (2 : Rat) ^ n := by
  obtain ⟨k, rfl⟩ : ∃ k : Nat, n = m + k := ⟨(n - m).toNat, by omega⟩
  rw [zpow_add', ← cast_two_pow]
  have h1 : ((1 : Int) : Rat) ≤ ((2 ^ k : Int) : Rat) := by
    rw [Rat.intCast_le_intCast]
    have : (0 : Int) < 2 ^ k := Int.pow_pos (by decide)
    omega
  have h2 := Rat.mul_le_mul_of_nonneg_left h1 (Rat.le_of_lt (zpow_pos m))
  rw [show ((1 : Int) : Rat) = 1 from rfl, Rat.mul_one] at h2
  exact h2
theorem dtop_lt {a b : D} (hb : 0 < b.z) (h : a.top < b.top) : a.val < b.val := by
  have h1 := val_lt_top (d := a)
  have h2 := val_ge_top hb
  have h3 := zpow_le (m := a.top) (n := b.top - 1) (by omega)
  grind
theorem top_neg (d : D) : d.neg.top = d.top := by simp [D.neg, D.top]
theorem top_lt_neg {a b : D} (ha : a.z < 0) (h : b.top < a.top) : a.val < b.val := by
  have := dtop_lt (a := b.neg) (b := a.neg) (by simp only [D.neg]; omega) (by rw [top_neg, top_neg]; exact h)
  rw [neg_val, neg_val] at this
  grind
theorem scaled_cmp {a b : D} {low : Int} (ha : low ≤ a.x) (hb : low ≤ b.x) : (a.z * 2 ^ (a.x - low).toNat < b.z * 2 ^ (b.x - low).toNat ↔ a.val < b.val) ∧ (a.z * 2 ^ (a.x - low).toNat = b.z * 2 ^ (b.x - low).toNat ↔ a.val = b.val) := by
  have h1 : a.val = ((a.z * 2 ^ (a.x - low).toNat : Int) : Rat) * (2 : Rat) ^ low := (scale_val a.z a.x low ha).symm
  have h2 : b.val = ((b.z * 2 ^ (b.x - low).toNat : Int) : Rat) * (2 : Rat) ^ low := (scale_val b.z b.x low hb).symm
  rw [h1, h2]
  generalize a.z * 2 ^ (a.x - low).toNat = p
  generalize b.z * 2 ^ (b.x - low).toNat = q
  constructor
  · constructor
    · intro h; exact Rat.mul_lt_mul_of_pos_right (Rat.intCast_lt_intCast.2 h) (zpow_pos low)
    · intro h
      false_or_by_contra
      rename_i h3
      have h4 := Rat.mul_le_mul_of_nonneg_right (Rat.intCast_le_intCast.2 (Int.not_lt.1 h3)) (Rat.le_of_lt (zpow_pos low))
      exact absurd h (Rat.not_lt.2 h4)
  · constructor
    · intro h; rw [h]
    · intro h
      false_or_by_contra
      rename_i h3
      rcases Int.lt_or_gt_of_ne h3 with h4 | h4
      · have := Rat.mul_lt_mul_of_pos_right (Rat.intCast_lt_intCast.2 h4) (zpow_pos low)
        rw [h] at this
        exact Rat.lt_irrefl this
      · have := Rat.mul_lt_mul_of_pos_right (Rat.intCast_lt_intCast.2 h4) (zpow_pos low)
        rw [h] at this
        exact Rat.lt_irrefl this

/-! ### Round -/
def D.round (d : D) (bits : Nat) (up : Bool) : D :=
  if nb d.z.natAbs ≤ bits then d else D.mk' (if up then -(-d.z / 2 ^ (nb d.z.natAbs - bits)) else d.z / 2 ^ (nb d.z.natAbs - bits)) (d.x + (nb d.z.natAbs - bits : Nat))
theorem round_can {d : D} (h : d.Can) (bits : Nat) (up : Bool) : (d.round bits up).Can := by
  unfold D.round
  split
  · exact h
  · exact mk_can _ _
theorem round_exact {d : D} {bits : Nat} (h : nb d.z.natAbs ≤ bits) (up : Bool) : d.round bits up = d := by unfold D.round; rw [if_pos h]
theorem floor_pow (z : Int) (k : Nat) : z / 2 ^ k * 2 ^ k ≤ z := Int.ediv_mul_le z (by have : (0 : Int) < 2 ^ k := Int.pow_pos (by decide); omega)
theorem round_down (d : D) (bits : Nat) : (d.round bits false).val ≤ d.val := by
  unfold D.round
  split
  · exact Rat.le_refl
  · rw [if_neg (by decide), mk_val]
    generalize nb d.z.natAbs - bits = k
    rw [Int.add_comm, zpow_add', ← Rat.mul_assoc, ← cast_mul_pow]
    exact Rat.mul_le_mul_of_nonneg_right (Rat.intCast_le_intCast.2 (floor_pow _ _)) (Rat.le_of_lt (zpow_pos d.x))
theorem round_up (d : D) (bits : Nat) : d.val ≤ (d.round bits true).val := by
  unfold D.round
  split
  · exact Rat.le_refl
  · rw [if_pos rfl, mk_val]
    generalize nb d.z.natAbs - bits = k
    rw [Int.add_comm, zpow_add', ← Rat.mul_assoc, ← cast_mul_pow]
    refine Rat.mul_le_mul_of_nonneg_right (Rat.intCast_le_intCast.2 ?_) (Rat.le_of_lt (zpow_pos d.x))
    have := floor_pow (-d.z) k
    rw [Int.neg_mul]
    omega
theorem floor_nb (z : Int) (k m : Nat) (h : nb z.natAbs ≤ k + m) : nb (z / 2 ^ k).natAbs ≤ m + 1 := by
  rw [nb_le] at *
  have hp : (0 : Int) < 2 ^ k := Int.pow_pos (by decide)
  have h1 := floor_pow z k
  have h2 := Int.lt_ediv_add_one_mul_self z hp
  have e : ((2 ^ (k + m) : Nat) : Int) = 2 ^ k * 2 ^ m := by rw [natpow_cast, Int.pow_add]
  have h3 : -(2 ^ k * 2 ^ m) < z ∧ z < 2 ^ k * 2 ^ m := by rw [← e]; omega
  have hm : (0 : Int) < 2 ^ m := Int.pow_pos (by decide)
  have e2 : ((2 ^ (m + 1) : Nat) : Int) = 2 * 2 ^ m := by rw [natpow_cast, Int.pow_succ, Int.mul_comm]
  generalize z / 2 ^ k = q at *
  have h4 : q < 2 ^ m := by
    false_or_by_contra
    rename_i h
    have := Int.mul_le_mul_of_nonneg_right (Int.not_lt.1 h) (Int.le_of_lt hp)
    rw [Int.mul_comm (2 ^ m)] at this
    omega
  have h5 : -(2 ^ m) - 1 < q := by
    false_or_by_contra
    rename_i h
    have h6 : q + 1 ≤ -(2 ^ m) := by omega
    have := Int.mul_le_mul_of_nonneg_right h6 (Int.le_of_lt hp)
    rw [Int.neg_mul, Int.mul_comm (2 ^ m)] at this
    omega
  omega
theorem round_lim {d : D} {E T : Nat} (h : d.Lim E T) (bits : Nat) (up : Bool) : (d.round bits up).Lim E (T + 1) := by
  unfold D.round
  split
  · exact h.mono (Nat.le_refl _) (by omega)
  · rename_i h0
    refine mk_lim (by have := h.1; omega) ?_
    have h1 := h.2
    cases up
    · have := floor_nb d.z (nb d.z.natAbs - bits) bits (by omega)
      rw [if_neg (by decide)]
      omega
    · have := floor_nb (-d.z) (nb d.z.natAbs - bits) bits (by rw [Int.natAbs_neg]; omega)
      rw [if_pos rfl, Int.natAbs_neg]
      omega
end Go.Proofs.YtgioppkggpfnoaaDoor.Nu
end

section
/- Spans and sets of dyads, plain: what the program computes with them. No program in sight. -/
namespace Go.Proofs.YtgioppkggpfnoaaDoor.Nu

def D.zero : D := ⟨0, 0⟩
def D.mx (a b : D) : D := if a.cmp b < 0 then b else a
def D.mn (a b : D) : D := if b.cmp a < 0 then b else a
theorem mx_self (a : D) : a.mx a = a := by unfold D.mx; split <;> rfl
theorem mn_self (a : D) : a.mn a = a := by unfold D.mn; split <;> rfl
theorem mx_lim {a b : D} {E T : Nat} (ha : a.Lim E T) (hb : b.Lim E T) : (a.mx b).Lim E T := by unfold D.mx; split <;> assumption
theorem mn_lim {a b : D} {E T : Nat} (ha : a.Lim E T) (hb : b.Lim E T) : (a.mn b).Lim E T := by unfold D.mn; split <;> assumption
theorem mx_val (a b : D) : (a.mx b).val = if a.val < b.val then b.val else a.val := by
  unfold D.mx
  by_cases h : a.val < b.val
  · rw [if_pos (cmp_neg_iff.2 h), if_pos h]
  · rw [if_neg (fun e => h (cmp_neg_iff.1 e)), if_neg h]
/-- All numbers between two. -/
structure Sp where
  lo : D
  hi : D
def Sp.Can (s : Sp) : Prop := s.lo.Can ∧ s.hi.Can
def Sp.Lim (E T : Nat) (s : Sp) : Prop := s.lo.Lim E T ∧ s.hi.Lim E T
def Sp.zero : Sp := ⟨D.zero, D.zero⟩
def Sp.pt (d : D) : Sp := ⟨d, d⟩
def Sp.out (l h : D) (bits : Nat) : Sp := ⟨l.round bits false, h.round bits true⟩
def Sp.add (a b : Sp) (bits : Nat) : Sp := Sp.out (a.lo.add b.lo) (a.hi.add b.hi) bits
def Sp.neg (a : Sp) : Sp := ⟨a.hi.neg, a.lo.neg⟩
def Sp.sub (a b : Sp) (bits : Nat) : Sp := a.add b.neg bits
def Sp.mul (a b : Sp) (bits : Nat) : Sp :=
  Sp.out ((((a.lo.mul b.lo).mn (a.lo.mul b.hi)).mn (a.hi.mul b.lo)).mn (a.hi.mul b.hi)) ((((a.lo.mul b.lo).mx (a.lo.mul b.hi)).mx (a.hi.mul b.lo)).mx (a.hi.mul b.hi)) bits
def Sp.size (a : Sp) : D := a.lo.abs.mx a.hi.abs
theorem Sp.Lim.mono {s : Sp} {E T E' T' : Nat} (h : s.Lim E T) (h1 : E ≤ E') (h2 : T ≤ T') : s.Lim E' T' := ⟨h.1.mono h1 h2, h.2.mono h1 h2⟩
theorem D.Lim.nb {d : D} {E T : Nat} (h : d.Lim E T) : Nu.nb d.z.natAbs ≤ E + T := by have := h.1; have := h.2; omega
theorem round_same {d : D} {E T bits : Nat} (h : d.Lim E T) (hb : E + T ≤ bits) (up : Bool) : d.round bits up = d := round_exact (Nat.le_trans h.nb hb) up
theorem out_can {l h : D} (hl : l.Can) (hh : h.Can) (bits : Nat) : (Sp.out l h bits).Can := ⟨round_can hl _ _, round_can hh _ _⟩
theorem out_lim {l h : D} {E T : Nat} (hl : l.Lim E T) (hh : h.Lim E T) (bits : Nat) : (Sp.out l h bits).Lim E (T + 1) := ⟨round_lim hl _ _, round_lim hh _ _⟩
theorem sadd_can (a b : Sp) (bits : Nat) : (a.add b bits).Can := out_can (add_can _ _) (add_can _ _) _
theorem sadd_lim {a b : Sp} {E T : Nat} (ha : a.Lim E T) (hb : b.Lim E T) (bits : Nat) : (a.add b bits).Lim E (T + 2) := out_lim (add_lim ha.1 hb.1) (add_lim ha.2 hb.2) _
theorem smul_lim {a b : Sp} {E T E' T' : Nat} (ha : a.Lim E T) (hb : b.Lim E' T') (bits : Nat) : (a.mul b bits).Lim (E + E') (T + T' + 1) :=
  out_lim (mn_lim (mn_lim (mn_lim (mul_lim ha.1 hb.1) (mul_lim ha.1 hb.2)) (mul_lim ha.2 hb.1)) (mul_lim ha.2 hb.2)) (mx_lim (mx_lim (mx_lim (mul_lim ha.1 hb.1) (mul_lim ha.1 hb.2)) (mul_lim ha.2 hb.1)) (mul_lim ha.2 hb.2)) _
theorem sneg_lim {a : Sp} {E T : Nat} (h : a.Lim E T) : a.neg.Lim E T := ⟨neg_lim h.2, neg_lim h.1⟩
theorem pt_lim {d : D} {E T : Nat} (h : d.Lim E T) : (Sp.pt d).Lim E T := ⟨h, h⟩
theorem szero_lim (E T : Nat) : Sp.zero.Lim E T := ⟨zero_lim E T, zero_lim E T⟩
theorem size_lim {a : Sp} {E T : Nat} (h : a.Lim E T) : a.size.Lim E T := mx_lim (abs_lim h.1) (abs_lim h.2)
/-- With bits enough points are reckoned with exactly. -/
theorem add_pt {a b : D} {E T bits : Nat} (ha : a.Lim E T) (hb : b.Lim E T) (h : E + T + 1 ≤ bits) : (Sp.pt a).add (Sp.pt b) bits = Sp.pt (a.add b) := by
  unfold Sp.add Sp.out Sp.pt
  simp only
  rw [round_same (add_lim ha hb) (by omega), round_same (add_lim ha hb) (by omega)]
theorem mul_pt {a b : D} {E T E' T' bits : Nat} (ha : a.Lim E T) (hb : b.Lim E' T') (h : E + E' + T + T' ≤ bits) : (Sp.pt a).mul (Sp.pt b) bits = Sp.pt (a.mul b) := by
  unfold Sp.mul Sp.out Sp.pt
  simp only [mn_self, mx_self]
  rw [round_same (mul_lim ha hb) (by omega), round_same (mul_lim ha hb) (by omega)]
theorem size_pt (d : D) : (Sp.pt d).size = d.abs := by unfold Sp.size Sp.pt; simp only [mx_self]
/-- Place by place times each other, and all together. -/
def inner (a b : Nat → Sp) (bits : Nat) : Nat → Sp
  | 0 => Sp.zero
  | k + 1 => (inner a b bits k).add ((a k).mul (b k) bits) bits
theorem inner_lim {a b : Nat → Sp} {E T E' T' : Nat} (bits k : Nat) (ha : ∀ i, i < k → (a i).Lim E T) (hb : ∀ i, i < k → (b i).Lim E' T') : (inner a b bits k).Lim (E + E') (T + T' + 1 + 2 * k) := by
  induction k with
  | zero => exact szero_lim _ _
  | succ k ih =>
    have h1 := ih (fun i hi => ha i (by omega)) (fun i hi => hb i (by omega))
    have h2 := smul_lim (ha k (by omega)) (hb k (by omega)) bits
    exact (sadd_lim h1 (h2.mono (Nat.le_refl _) (by omega)) bits).mono (Nat.le_refl _) (by omega)
/-- The same of numbers alone. -/
def dotD (a b : Nat → D) : Nat → D
  | 0 => D.zero
  | k + 1 => (dotD a b k).add ((a k).mul (b k))
def dot (a b : Nat → Rat) : Nat → Rat
  | 0 => 0
  | k + 1 => dot a b k + a k * b k
theorem dotD_val (a b : Nat → D) (k : Nat) : (dotD a b k).val = dot (fun i => (a i).val) (fun i => (b i).val) k := by
  induction k with
  | zero => exact zero_val
  | succ k ih => simp only [dotD, dot, add_val, mul_val, ih]
theorem dotD_lim {a b : Nat → D} {E T E' T' : Nat} (k : Nat) (ha : ∀ i, i < k → (a i).Lim E T) (hb : ∀ i, i < k → (b i).Lim E' T') : (dotD a b k).Lim (E + E') (T + T' + k) := by
  induction k with
  | zero => exact zero_lim _ _
  | succ k ih =>
    have h1 := ih (fun i hi => ha i (by omega)) (fun i hi => hb i (by omega))
    have h2 := (mul_lim (ha k (by omega)) (hb k (by omega))).mono (Nat.le_refl _) (show T + T' ≤ T + T' + k by omega)
    exact add_lim h1 h2
theorem inner_pt {a b : Nat → D} {E T E' T' bits : Nat} (k : Nat) (ha : ∀ i, i < k → (a i).Lim E T) (hb : ∀ i, i < k → (b i).Lim E' T') (h : E + E' + T + T' + k ≤ bits) :
    inner (fun i => Sp.pt (a i)) (fun i => Sp.pt (b i)) bits k = Sp.pt (dotD a b k) := by
  induction k with
  | zero => rfl
  | succ k ih =>
    have h0 := ih (fun i hi => ha i (by omega)) (fun i hi => hb i (by omega)) (by omega)
    have h1 := dotD_lim k (fun i hi => ha i (by omega)) (fun i hi => hb i (by omega))
    have h2 := mul_lim (ha k (by omega)) (hb k (by omega))
    simp only [inner, dotD]
    rw [h0, mul_pt (ha k (by omega)) (hb k (by omega)) (by omega), add_pt h1 (h2.mono (Nat.le_refl _) (by omega)) (by omega)]

/-! ### Sets -/
/-- A set of n places: its middle, its m ways, and how much more it goes place by place. -/
structure Zo where
  n : Nat
  c : Nat → D
  m : Nat
  g : Nat → Nat → D
  r : Nat → D
def pts (a : Nat → D) : Nat → Sp := fun i => Sp.pt (a i)
def supG (g : Nat → Nat → D) (dir : Nat → Sp) (n bits : Nat) (all : Sp) : Nat → Sp
  | 0 => all
  | k + 1 => (supG g dir n bits all k).add (Sp.pt (inner (pts (g k)) dir bits n).size) bits
def supR (r : Nat → D) (dir : Nat → Sp) (bits : Nat) (all : Sp) : Nat → Sp
  | 0 => all
  | k + 1 => (supR r dir bits all k).add ((Sp.pt (r k)).mul (Sp.pt (dir k).size) bits) bits
def Zo.supS (z : Zo) (dir : Nat → Sp) (bits : Nat) : Sp := supR z.r dir bits (supG z.g dir z.n bits (inner (pts z.c) dir bits z.n) z.m) z.n
def Zo.sup (z : Zo) (dir : Nat → Sp) (bits : Nat) : D := (z.supS dir bits).hi
structure Zo.Lim (E T : Nat) (z : Zo) : Prop where
  c : ∀ i, i < z.n → (z.c i).Lim E T
  g : ∀ k i, k < z.m → i < z.n → (z.g k i).Lim E T
  r : ∀ i, i < z.n → (z.r i).Lim E T
structure Zo.Can (z : Zo) : Prop where
  c : ∀ i, i < z.n → (z.c i).Can
  g : ∀ k i, k < z.m → i < z.n → (z.g k i).Can
  r : ∀ i, i < z.n → (z.r i).Can
  p : ∀ i, i < z.n → 0 ≤ (z.r i).z

/-! ### How far a set goes, in numbers -/
def qabs (q : Rat) : Rat := if 0 ≤ q then q else -q
def sumQ (f : Nat → Rat) : Nat → Rat
  | 0 => 0
  | k + 1 => sumQ f k + f k
def Zo.far (z : Zo) (d : Nat → Rat) : Rat :=
  dot (fun i => (z.c i).val) d z.n + sumQ (fun k => qabs (dot (fun i => (z.g k i).val) d z.n)) z.m + dot (fun i => (z.r i).val) (fun i => qabs (d i)) z.n
theorem abs_qabs (d : D) : d.abs.val = qabs d.val := abs_val d
theorem dot_add (a b d : Nat → Rat) (n : Nat) : dot (fun i => a i + b i) d n = dot a d n + dot b d n := by
  induction n with
  | zero => simp only [dot]; grind
  | succ n ih => simp only [dot, ih]; grind
theorem supG_pt {g : Nat → Nat → D} {d : Nat → D} {E T E' T' n bits : Nat} {c : D} (m : Nat) (hg : ∀ k i, k < m → i < n → (g k i).Lim E T) (hd : ∀ i, i < n → (d i).Lim E' T')
    (hc : c.Lim (E + E') (T + T' + n)) (h : E + E' + T + T' + n + m ≤ bits) :
    ∃ s : D, supG g (pts d) n bits (Sp.pt c) m = Sp.pt s ∧ s.Lim (E + E') (T + T' + n + m) ∧ s.val = c.val + sumQ (fun k => qabs (dot (fun i => (g k i).val) (fun i => (d i).val) n)) m := by
  induction m with
  | zero => exact ⟨c, rfl, hc, by simp only [sumQ]; grind⟩
  | succ m ih =>
    obtain ⟨s, h1, h2, h3⟩ := ih (fun k i hk hi => hg k i (by omega) hi) (by omega)
    have h4 := (abs_lim (dotD_lim n (fun i hi => hg m i (by omega) hi) hd)).mono (Nat.le_refl _) (show T + T' + n ≤ T + T' + n + m by omega)
    have h5 := inner_pt (bits := bits) n (fun i hi => hg m i (by omega) hi) hd (by omega)
    refine ⟨s.add (dotD (g m) d n).abs, ?_, add_lim h2 h4, ?_⟩
    · simp only [supG]
      rw [h1]
      unfold pts
      rw [h5, size_pt, add_pt h2 h4 (by omega)]
    · rw [add_val, h3, abs_qabs, dotD_val]
      simp only [sumQ]
      grind
theorem supR_pt {r : Nat → D} {d : Nat → D} {E T E' T' bits q : Nat} {c : D} (n : Nat) (hr : ∀ i, i < n → (r i).Lim E T) (hd : ∀ i, i < n → (d i).Lim E' T')
    (hc : c.Lim (E + E') (T + T' + q)) (h : E + E' + T + T' + q + n ≤ bits) :
    ∃ s : D, supR r (pts d) bits (Sp.pt c) n = Sp.pt s ∧ s.Lim (E + E') (T + T' + q + n) ∧ s.val = c.val + dot (fun i => (r i).val) (fun i => qabs (d i).val) n := by
  induction n with
  | zero => exact ⟨c, rfl, hc, by simp only [dot]; grind⟩
  | succ n ih =>
    obtain ⟨s, h1, h2, h3⟩ := ih (fun i hi => hr i (by omega)) (fun i hi => hd i (by omega)) (by omega)
    have h4 := (mul_lim (hr n (by omega)) (abs_lim (hd n (by omega)))).mono (Nat.le_refl _) (show T + T' ≤ T + T' + q + n by omega)
    refine ⟨s.add ((r n).mul (d n).abs), ?_, add_lim h2 h4, ?_⟩
    · simp only [supR]
      rw [h1]
      unfold pts
      rw [size_pt, mul_pt (hr n (by omega)) (abs_lim (hd n (by omega))) (by omega), add_pt h2 h4 (by omega)]
    · rw [add_val, h3, mul_val, abs_qabs]
      simp only [dot]
      grind
/-- With bits enough: just so far. -/
theorem sup_far {z : Zo} {d : Nat → D} {E T E' T' bits : Nat} (hz : z.Lim E T) (hd : ∀ i, i < z.n → (d i).Lim E' T') (h : E + E' + T + T' + z.n + z.m + z.n ≤ bits) :
    (z.sup (pts d) bits).val = z.far (fun i => (d i).val) := by
  have h1 := inner_pt (bits := bits) z.n hz.c hd (by omega)
  have h2 := dotD_lim z.n hz.c hd
  obtain ⟨s, h3, h4, h5⟩ := supG_pt (bits := bits) z.m hz.g hd h2 (by omega)
  obtain ⟨t, h6, h7, h8⟩ := supR_pt (q := z.n + z.m) (bits := bits) z.n hz.r hd (by rw [← Nat.add_assoc]; exact h4) (by omega)
  unfold Zo.sup Zo.supS Zo.far
  have e : inner (pts z.c) (pts d) bits z.n = Sp.pt (dotD z.c d z.n) := h1
  rw [e, h3, h6]
  show t.val = _
  rw [h8, h5, dotD_val]
end Go.Proofs.YtgioppkggpfnoaaDoor.Nu
end

section
/- Blocks, and numbers in memory: the small laws that the walks over structs use. -/
set_option linter.unusedVariables false
namespace Go.Proofs.YtgioppkggpfnoaaDoor.Nu
open Go.RowKit Go.Proofs

/-- A block known whole. -/
def Bk (w : World) (g : Nat) (t : TypeId) (cs : Array Value) : Prop := w.heap[g]? = some (.cells cs t (0, 0))
theorem Bk.lt {w : World} {g : Nat} {t : TypeId} {cs : Array Value} (h : Bk w g t cs) : g < w.heap.size := (Array.getElem?_eq_some_iff.1 h).1
theorem Bk.below {w w' : World} {g : Nat} {t : TypeId} {cs : Array Value} (h : Bk w g t cs) (hb : Below w.heap.size w w') : Bk w' g t cs := by
  unfold Bk; rw [hb.block g h.lt]; exact h
theorem Bk.alloc {w : World} {g : Nat} {t : TypeId} {cs : Array Value} (h : Bk w g t cs) (o : Obj) : Bk (w.alloc o) g t cs := by
  unfold Bk; rw [Lib.alloc_old _ _ _ h.lt]; exact h
theorem Bk.new (w : World) (t : TypeId) (cs : Array Value) : Bk (w.alloc (.cells cs t)) w.heap.size t cs := alloc_top w _
theorem Bk.drew {w : World} {g : Nat} {t : TypeId} {cs : Array Value} (h : Bk w g t cs) : Bk w.drew g t cs := h
theorem Bk.cell {w : World} {g : Nat} {t : TypeId} {cs : Array Value} (h : Bk w g t cs) (j : Nat) {v : Value} (hj : cs[j]? = some v) : w.cell? ⟨g, j, none⟩ = some v := by rw [Lib.cell_of_heap h]; exact hj
theorem Bk.free {w : World} {g : Nat} {t : TypeId} {cs : Array Value} (h : Bk w g t cs) (j : Nat) : w.frozen? ⟨g, j, none⟩ = false := Lib.frozen_of_heap h j
theorem Bk.set {w : World} {g : Nat} {t : TypeId} {cs : Array Value} (h : Bk w g t cs) (j : Nat) (v : Value) : Bk (w.setCell ⟨g, j, none⟩ v) g t (cs.setIfInBounds j v) := by
  unfold Bk; rw [heap_setCell_same w g j _ _ _ h]
theorem Bk.ne {w : World} {g g' : Nat} {t : TypeId} {cs : Array Value} (h : Bk w g t cs) (hg : g ≠ g') (j : Nat) (v : Value) : Bk (w.setCell ⟨g', j, none⟩ v) g t cs := by
  unfold Bk; rw [Below.heap_setCell _ _ _ _ hg]; exact h

/-- Every digit that lay somewhere lies there. -/
def Dk (w w' : World) : Prop := w.heap.size ≤ w'.heap.size ∧ ∀ b o v, w.cell? ⟨b, o, none⟩ = some (.int .u32 v) → w'.cell? ⟨b, o, none⟩ = some (.int .u32 v)
theorem Dk.refl (w : World) : Dk w w := ⟨Nat.le_refl _, fun _ _ _ h => h⟩
theorem Dk.trans {w w1 w2 : World} (h : Dk w w1) (h2 : Dk w1 w2) : Dk w w2 := ⟨Nat.le_trans h.1 h2.1, fun b o v e => h2.2 b o v (h.2 b o v e)⟩
theorem cell_lt {w : World} {b o : Nat} {v : Value} (h : w.cell? ⟨b, o, none⟩ = some v) : b < w.heap.size := by
  false_or_by_contra
  rename_i hb
  have e : w.heap[b]? = none := Array.getElem?_eq_none (by omega)
  simp [World.cell?, e] at h
theorem Dk.below {w w' : World} (h : Below w.heap.size w w') : Dk w w' := ⟨h.size, fun b o v e => (h.cell (p := ⟨b, o, none⟩) (cell_lt e)).trans e⟩
theorem Dk.alloc {w w' : World} (h : Dk w w') (o : Obj) : Dk w (w'.alloc o) := h.trans (.below ((Below.refl _ w').alloc (Nat.le_refl _) o))
theorem Dk.set {w w' : World} (h : Dk w w') {g : Nat} {t : TypeId} {cs : Array Value} (B : Bk w' g t cs) (j : Nat) (hj : ∀ v, cs[j]? ≠ some (.int .u32 v)) (u : Value) : Dk w (w'.setCell ⟨g, j, none⟩ u) := by
  refine h.trans ⟨by simp [World.setCell], fun b o v e => ?_⟩
  by_cases hb : b = g
  · subst hb
    by_cases ho : o = j
    · subst ho
      rw [Lib.cell_of_heap B] at e
      exact absurd e (hj v)
    · rw [Lib.cell_of_heap (B.set j u)]
      rw [Lib.cell_of_heap B] at e
      rw [Array.getElem?_setIfInBounds_ne (Ne.symm ho)]
      exact e
  · rw [← e]
    exact World.cell?_of_block (Below.heap_setCell _ _ _ _ hb)
theorem Dk.drew {w w' : World} (h : Dk w w') : Dk w w'.drew := h
theorem RL.dk {w w' : World} {A : Option Addr} {n : Nat} {xs : List Nat} (h : RL w A n xs) (k : Dk w w') : RL w' A n xs := by
  obtain ⟨h1, h2, hd, h3⟩ := h
  refine ⟨h1, h2, hd, fun h0 => ?_⟩
  obtain ⟨b, off, hA, hlt, hc⟩ := h3 h0
  exact ⟨b, off, hA, Nat.lt_of_lt_of_le hlt k.1, fun j hj => k.2 _ _ _ (hc j hj)⟩
theorem RI.dk {w w' : World} {b : Bool} {A : Option Addr} {n c : Nat} {z : Int} (h : RI w b A n c z) (k : Dk w w') : RI w' b A n c z := ⟨h.1, h.2.1, RL.dk h.2.2 k⟩

/-- Where a whole number's digits lie, and its sign bit. -/
structure Q where
  b : Bool
  A : Option Addr
  n : Nat
  c : Nat
def Q.nil : Q := ⟨false, none, 0, 0⟩
/-- A whole number, as a struct's cells hold it. -/
def RW (w : World) (q : Q) (z : Int) : Prop := RI w q.b q.A q.n q.c z
/-- A dyad: its whole number so, and in its one form. -/
def RD (w : World) (q : Q) (d : D) : Prop := RW w q d.z ∧ d.Can
theorem RW.below {w w' : World} {q : Q} {z : Int} (h : RW w q z) (hb : Below w.heap.size w w') : RW w' q z := RI.below h hb
theorem RW.dk {w w' : World} {q : Q} {z : Int} (h : RW w q z) (hb : Dk w w') : RW w' q z := RI.dk h hb
theorem RD.below {w w' : World} {q : Q} {d : D} (h : RD w q d) (hb : Below w.heap.size w w') : RD w' q d := ⟨RW.below h.1 hb, h.2⟩
theorem RD.dk {w w' : World} {q : Q} {d : D} (h : RD w q d) (hb : Dk w w') : RD w' q d := ⟨RW.dk h.1 hb, h.2⟩
theorem RW.zero (w : World) : RW w Q.nil 0 := ⟨rfl, Nat.le_refl _, RN.zero w none⟩
theorem RD.zero (w : World) : RD w Q.nil D.zero := ⟨RW.zero w, zero_can⟩
/-- Where a span's two numbers lie. -/
structure SQ where
  lo : Q
  hi : Q
def RS (w : World) (s : SQ) (a : Sp) : Prop := RD w s.lo a.lo ∧ RD w s.hi a.hi
theorem RS.below {w w' : World} {s : SQ} {a : Sp} (h : RS w s a) (hb : Below w.heap.size w w') : RS w' s a := ⟨h.1.below hb, h.2.below hb⟩
theorem RS.dk {w w' : World} {s : SQ} {a : Sp} (h : RS w s a) (hb : Dk w w') : RS w' s a := ⟨h.1.dk hb, h.2.dk hb⟩
theorem RS.zero (w : World) : RS w ⟨Q.nil, Q.nil⟩ Sp.zero := ⟨RD.zero w, RD.zero w⟩
/-- How many digits: by its bits. -/
theorem RW.len {w : World} {q : Q} {z : Int} (h : RW w q z) {k : Nat} (hk : nb z.natAbs ≤ 32 * k) : q.n ≤ k := by
  have h1 := h.2.2.1
  rw [← h1]
  refine digs_len_le.2 ?_
  have h2 := nb_le.1 hk
  rw [show (4294967296 : Nat) = 2 ^ 32 from rfl, ← Nat.pow_mul]
  exact h2
theorem RI.rw {w : World} {b : Bool} {A : Option Addr} {n c : Nat} {z : Int} (h : RI w b A n c z) : RW w ⟨b, A, n, c⟩ z := h
theorem size_nb {z : Int} (h : nb z.natAbs ≤ 16384) : Size z := by
  unfold Size Fit
  refine digs_len_le.2 ?_
  rw [show (4294967296 : Nat) = 2 ^ 32 from rfl, ← Nat.pow_mul]
  exact nb_le.1 h
theorem below_al {w w' : World} (h : Below w.heap.size w w') (o : Obj) : Below w.heap.size w (w'.alloc o) := h.alloc h.size o
theorem below_st {w w' : World} (h : Below w.heap.size w w') {g : Nat} (j : Nat) (hg : w.heap.size ≤ g) (v : Value) : Below w.heap.size w (w'.setCell ⟨g, j, none⟩ v) := h.setCell (p := ⟨g, j, none⟩) hg v
theorem below_dr {w w' : World} (h : Below w.heap.size w w') : Below w.heap.size w w'.drew := h.drew
theorem below_tr {w w1 w2 : World} (h : Below w.heap.size w w1) (h2 : Below w1.heap.size w1 w2) : Below w.heap.size w w2 := h.trans (h2.mono h.size)
theorem Bk.new_1 (w : World) (o0 : Obj) (t : TypeId) (cs : Array Value) : Bk ((w.alloc o0).alloc (.cells cs t)) (w.heap.size + 1) t cs := by
  have hh := Bk.new (w.alloc o0) t cs
  simpa only [World.size_alloc] using hh
theorem boxes1 (w : World) (t0 : TypeId) (c0 : Array Value) : Bk (w.alloc (.cells c0 t0)) (w.heap.size) t0 c0 ∧ Below w.heap.size w (w.alloc (.cells c0 t0)) :=
  ⟨(Bk.new w t0 c0), (below_al (Below.refl _ w) _)⟩
theorem boxes2 (w : World) (t0 : TypeId) (c0 : Array Value) (t1 : TypeId) (c1 : Array Value) : Bk ((w.alloc (.cells c0 t0)).alloc (.cells c1 t1)) (w.heap.size) t0 c0 ∧ Bk ((w.alloc (.cells c0 t0)).alloc (.cells c1 t1)) (w.heap.size + 1) t1 c1 ∧ Below w.heap.size w ((w.alloc (.cells c0 t0)).alloc (.cells c1 t1)) :=
  ⟨((Bk.new w t0 c0).alloc (.cells c1 t1)), (by have hh := (Bk.new (w.alloc (.cells c0 t0)) t1 c1); simpa only [World.size_alloc] using hh), (below_al (below_al (Below.refl _ w) _) _)⟩
theorem boxes3 (w : World) (t0 : TypeId) (c0 : Array Value) (t1 : TypeId) (c1 : Array Value) (t2 : TypeId) (c2 : Array Value) : Bk (((w.alloc (.cells c0 t0)).alloc (.cells c1 t1)).alloc (.cells c2 t2)) (w.heap.size) t0 c0 ∧ Bk (((w.alloc (.cells c0 t0)).alloc (.cells c1 t1)).alloc (.cells c2 t2)) (w.heap.size + 1) t1 c1 ∧ Bk (((w.alloc (.cells c0 t0)).alloc (.cells c1 t1)).alloc (.cells c2 t2)) (w.heap.size + 2) t2 c2 ∧ Below w.heap.size w (((w.alloc (.cells c0 t0)).alloc (.cells c1 t1)).alloc (.cells c2 t2)) :=
  ⟨(((Bk.new w t0 c0).alloc (.cells c1 t1)).alloc (.cells c2 t2)), (by have hh := ((Bk.new (w.alloc (.cells c0 t0)) t1 c1).alloc (.cells c2 t2)); simpa only [World.size_alloc] using hh), (by have hh := (Bk.new ((w.alloc (.cells c0 t0)).alloc (.cells c1 t1)) t2 c2); simpa only [World.size_alloc] using hh), (below_al (below_al (below_al (Below.refl _ w) _) _) _)⟩
theorem boxes4 (w : World) (t0 : TypeId) (c0 : Array Value) (t1 : TypeId) (c1 : Array Value) (t2 : TypeId) (c2 : Array Value) (t3 : TypeId) (c3 : Array Value) : Bk ((((w.alloc (.cells c0 t0)).alloc (.cells c1 t1)).alloc (.cells c2 t2)).alloc (.cells c3 t3)) (w.heap.size) t0 c0 ∧ Bk ((((w.alloc (.cells c0 t0)).alloc (.cells c1 t1)).alloc (.cells c2 t2)).alloc (.cells c3 t3)) (w.heap.size + 1) t1 c1 ∧ Bk ((((w.alloc (.cells c0 t0)).alloc (.cells c1 t1)).alloc (.cells c2 t2)).alloc (.cells c3 t3)) (w.heap.size + 2) t2 c2 ∧ Bk ((((w.alloc (.cells c0 t0)).alloc (.cells c1 t1)).alloc (.cells c2 t2)).alloc (.cells c3 t3)) (w.heap.size + 3) t3 c3 ∧ Below w.heap.size w ((((w.alloc (.cells c0 t0)).alloc (.cells c1 t1)).alloc (.cells c2 t2)).alloc (.cells c3 t3)) :=
  ⟨((((Bk.new w t0 c0).alloc (.cells c1 t1)).alloc (.cells c2 t2)).alloc (.cells c3 t3)), (by have hh := (((Bk.new (w.alloc (.cells c0 t0)) t1 c1).alloc (.cells c2 t2)).alloc (.cells c3 t3)); simpa only [World.size_alloc] using hh), (by have hh := ((Bk.new ((w.alloc (.cells c0 t0)).alloc (.cells c1 t1)) t2 c2).alloc (.cells c3 t3)); simpa only [World.size_alloc] using hh), (by have hh := (Bk.new (((w.alloc (.cells c0 t0)).alloc (.cells c1 t1)).alloc (.cells c2 t2)) t3 c3); simpa only [World.size_alloc] using hh), (below_al (below_al (below_al (below_al (Below.refl _ w) _) _) _) _)⟩
theorem boxes5 (w : World) (t0 : TypeId) (c0 : Array Value) (t1 : TypeId) (c1 : Array Value) (t2 : TypeId) (c2 : Array Value) (t3 : TypeId) (c3 : Array Value) (t4 : TypeId) (c4 : Array Value) : Bk (((((w.alloc (.cells c0 t0)).alloc (.cells c1 t1)).alloc (.cells c2 t2)).alloc (.cells c3 t3)).alloc (.cells c4 t4)) (w.heap.size) t0 c0 ∧ Bk (((((w.alloc (.cells c0 t0)).alloc (.cells c1 t1)).alloc (.cells c2 t2)).alloc (.cells c3 t3)).alloc (.cells c4 t4)) (w.heap.size + 1) t1 c1 ∧ Bk (((((w.alloc (.cells c0 t0)).alloc (.cells c1 t1)).alloc (.cells c2 t2)).alloc (.cells c3 t3)).alloc (.cells c4 t4)) (w.heap.size + 2) t2 c2 ∧ Bk (((((w.alloc (.cells c0 t0)).alloc (.cells c1 t1)).alloc (.cells c2 t2)).alloc (.cells c3 t3)).alloc (.cells c4 t4)) (w.heap.size + 3) t3 c3 ∧ Bk (((((w.alloc (.cells c0 t0)).alloc (.cells c1 t1)).alloc (.cells c2 t2)).alloc (.cells c3 t3)).alloc (.cells c4 t4)) (w.heap.size + 4) t4 c4 ∧ Below w.heap.size w (((((w.alloc (.cells c0 t0)).alloc (.cells c1 t1)).alloc (.cells c2 t2)).alloc (.cells c3 t3)).alloc (.cells c4 t4)) :=
  ⟨(((((Bk.new w t0 c0).alloc (.cells c1 t1)).alloc (.cells c2 t2)).alloc (.cells c3 t3)).alloc (.cells c4 t4)), (by have hh := ((((Bk.new (w.alloc (.cells c0 t0)) t1 c1).alloc (.cells c2 t2)).alloc (.cells c3 t3)).alloc (.cells c4 t4)); simpa only [World.size_alloc] using hh), (by have hh := (((Bk.new ((w.alloc (.cells c0 t0)).alloc (.cells c1 t1)) t2 c2).alloc (.cells c3 t3)).alloc (.cells c4 t4)); simpa only [World.size_alloc] using hh), (by have hh := ((Bk.new (((w.alloc (.cells c0 t0)).alloc (.cells c1 t1)).alloc (.cells c2 t2)) t3 c3).alloc (.cells c4 t4)); simpa only [World.size_alloc] using hh), (by have hh := (Bk.new ((((w.alloc (.cells c0 t0)).alloc (.cells c1 t1)).alloc (.cells c2 t2)).alloc (.cells c3 t3)) t4 c4); simpa only [World.size_alloc] using hh), (below_al (below_al (below_al (below_al (below_al (Below.refl _ w) _) _) _) _) _)⟩
end Go.Proofs.YtgioppkggpfnoaaDoor.Nu
end

section
namespace Go.Proofs.YtgioppkggpfnoaaDoor.Nu
open Go.RowKit Go.Proofs
theorem Bk.cells2 {w : World} {g : Nat} {t : TypeId} {a0 a1 : Value} (h : Bk w g t #[a0, a1]) : w.cell? ⟨g, 0, none⟩ = some a0 ∧ w.cell? ⟨g, 1, none⟩ = some a1 := ⟨h.cell 0 rfl, h.cell 1 rfl⟩
theorem Bk.cells3 {w : World} {g : Nat} {t : TypeId} {a0 a1 a2 : Value} (h : Bk w g t #[a0, a1, a2]) : w.cell? ⟨g, 0, none⟩ = some a0 ∧ w.cell? ⟨g, 1, none⟩ = some a1 ∧ w.cell? ⟨g, 2, none⟩ = some a2 := ⟨h.cell 0 rfl, h.cell 1 rfl, h.cell 2 rfl⟩
theorem Bk.cells4 {w : World} {g : Nat} {t : TypeId} {a0 a1 a2 a3 : Value} (h : Bk w g t #[a0, a1, a2, a3]) : w.cell? ⟨g, 0, none⟩ = some a0 ∧ w.cell? ⟨g, 1, none⟩ = some a1 ∧ w.cell? ⟨g, 2, none⟩ = some a2 ∧ w.cell? ⟨g, 3, none⟩ = some a3 := ⟨h.cell 0 rfl, h.cell 1 rfl, h.cell 2 rfl, h.cell 3 rfl⟩
theorem Bk.cells6 {w : World} {g : Nat} {t : TypeId} {a0 a1 a2 a3 a4 a5 : Value} (h : Bk w g t #[a0, a1, a2, a3, a4, a5]) : w.cell? ⟨g, 0, none⟩ = some a0 ∧ w.cell? ⟨g, 1, none⟩ = some a1 ∧ w.cell? ⟨g, 2, none⟩ = some a2 ∧ w.cell? ⟨g, 3, none⟩ = some a3 ∧ w.cell? ⟨g, 4, none⟩ = some a4 ∧ w.cell? ⟨g, 5, none⟩ = some a5 := ⟨h.cell 0 rfl, h.cell 1 rfl, h.cell 2 rfl, h.cell 3 rfl, h.cell 4 rfl, h.cell 5 rfl⟩
theorem Bk.cells12 {w : World} {g : Nat} {t : TypeId} {a0 a1 a2 a3 a4 a5 a6 a7 a8 a9 a10 a11 : Value} (h : Bk w g t #[a0, a1, a2, a3, a4, a5, a6, a7, a8, a9, a10, a11]) : w.cell? ⟨g, 0, none⟩ = some a0 ∧ w.cell? ⟨g, 1, none⟩ = some a1 ∧ w.cell? ⟨g, 2, none⟩ = some a2 ∧ w.cell? ⟨g, 3, none⟩ = some a3 ∧ w.cell? ⟨g, 4, none⟩ = some a4 ∧ w.cell? ⟨g, 5, none⟩ = some a5 ∧ w.cell? ⟨g, 6, none⟩ = some a6 ∧ w.cell? ⟨g, 7, none⟩ = some a7 ∧ w.cell? ⟨g, 8, none⟩ = some a8 ∧ w.cell? ⟨g, 9, none⟩ = some a9 ∧ w.cell? ⟨g, 10, none⟩ = some a10 ∧ w.cell? ⟨g, 11, none⟩ = some a11 := ⟨h.cell 0 rfl, h.cell 1 rfl, h.cell 2 rfl, h.cell 3 rfl, h.cell 4 rfl, h.cell 5 rfl, h.cell 6 rfl, h.cell 7 rfl, h.cell 8 rfl, h.cell 9 rfl, h.cell 10 rfl, h.cell 11 rfl⟩
end Go.Proofs.YtgioppkggpfnoaaDoor.Nu
end

section
/- The set that holds two, plain: what the program computes, and that it goes no less far than either. No program in sight. -/
namespace Go.Proofs.YtgioppkggpfnoaaDoor.Nu

def D.half : D := ⟨1, -1⟩
theorem half_val : D.half.val = 1 / 2 := by
  unfold D.half D.val
  have h := zpow_add' 1 (-1)
  rw [show (1 : Int) + -1 = ((0 : Nat) : Int) from rfl, Rat.zpow_natCast, show (1 : Int) = ((1 : Nat) : Int) from rfl, Rat.zpow_natCast] at h
  show ((1 : Int) : Rat) * (2 : Rat) ^ (-1 : Int) = 1 / 2
  rw [show ((1 : Int) : Rat) = 1 from rfl]
  rw [show (2 : Rat) ^ (0 : Nat) = 1 from rfl, show (2 : Rat) ^ (1 : Nat) = 2 from by decide] at h
  grind
theorem half_lim : D.half.Lim 1 0 := ⟨by decide, by decide⟩
def halfE (x y : D) : D := (x.add y).mul D.half
def halfM (x y : D) (bits : Nat) : D := (halfE x y).round bits false
def halfO (x y : D) (bits : Nat) : D := (halfE x y).sub (halfM x y bits)
theorem halfE_val (x y : D) : (halfE x y).val = (x.val + y.val) / 2 := by unfold halfE; rw [mul_val, add_val, half_val]; grind
theorem halfE_lim {x y : D} {E T : Nat} (hx : x.Lim E T) (hy : y.Lim E T) : (halfE x y).Lim (E + 1) (T + 1) := mul_lim (T := T + 1) (T' := 0) (add_lim hx hy) half_lim
theorem halfM_lim {x y : D} {E T : Nat} (hx : x.Lim E T) (hy : y.Lim E T) (bits : Nat) : (halfM x y bits).Lim (E + 1) (T + 2) := round_lim (halfE_lim hx hy) _ _
theorem halfO_lim {x y : D} {E T : Nat} (hx : x.Lim E T) (hy : y.Lim E T) (bits : Nat) : (halfO x y bits).Lim (E + 1) (T + 3) :=
  add_lim ((halfE_lim hx hy).mono (Nat.le_refl _) (by omega)) (neg_lim (halfM_lim hx hy bits))
theorem halfO_val (x y : D) (bits : Nat) : (halfO x y bits).val = (x.val + y.val) / 2 - (halfM x y bits).val := by unfold halfO; rw [sub_val, halfE_val]
theorem halfO_nonneg (x y : D) (bits : Nat) : 0 ≤ (halfO x y bits).val := by
  have := round_down (halfE x y) bits
  unfold halfO halfM
  rw [sub_val]
  grind
/-- A size more, rounded upwards. -/
def mor (r o : D) (bits : Nat) : D := ((Sp.pt r).add (Sp.pt o.abs) bits).hi
theorem mor_can (r o : D) (bits : Nat) : (mor r o bits).Can := (sadd_can _ _ _).2
theorem mor_lim {r o : D} {E T : Nat} (hr : r.Lim E T) (ho : o.Lim E T) (bits : Nat) : (mor r o bits).Lim E (T + 2) := (sadd_lim (pt_lim hr) (pt_lim (abs_lim ho)) bits).2
theorem mor_ge (r o : D) (bits : Nat) : r.val + qabs o.val ≤ (mor r o bits).val := by
  have := round_up (r.add o.abs) bits
  unfold mor Sp.add Sp.out Sp.pt
  simp only
  rw [add_val, abs_qabs] at this
  exact this
def Zo.at (z : Zo) (i : Nat) : Nat → D := if i < z.m then z.g i else fun _ => D.zero
/-- The two lists of which way k is half of both together. -/
def wayA (a : Zo) (k : Nat) : Nat → D := if k = 0 then a.c else a.at ((k - 1) / 2)
def wayB (b : Zo) (k : Nat) : Nat → D := if k = 0 then fun i => (b.c i).neg else if k % 2 = 1 then b.at ((k - 1) / 2) else fun i => (b.at ((k - 1) / 2) i).neg
def hullR (a b : Zo) (bits : Nat) : Nat → Nat → D
  | 0 => fun i => mor ((a.r i).mx (b.r i)) (halfO (a.c i) (b.c i) bits) bits
  | k + 1 => fun i => mor (hullR a b bits k i) (halfO (wayA a k i) (wayB b k i) bits) bits
def hull (a b : Zo) (bits : Nat) : Zo where
  n := a.n
  c i := halfM (a.c i) (b.c i) bits
  m := 2 * max a.m b.m + 1
  g k i := halfM (wayA a k i) (wayB b k i) bits
  r := hullR a b bits (2 * max a.m b.m + 1)

theorem at_lim {z : Zo} {E T : Nat} (h : z.Lim E T) (k i : Nat) (hi : i < z.n) : (z.at k i).Lim E T := by
  unfold Zo.at
  by_cases hk : k < z.m
  · rw [if_pos hk]; exact h.g k i hk hi
  · rw [if_neg hk]; exact zero_lim _ _
theorem wayA_lim {z : Zo} {E T : Nat} (h : z.Lim E T) (k i : Nat) (hi : i < z.n) : (wayA z k i).Lim E T := by
  unfold wayA
  split
  · exact h.c i hi
  · exact at_lim h _ _ hi
theorem wayB_lim {z : Zo} {E T : Nat} (h : z.Lim E T) (k i : Nat) (hi : i < z.n) : (wayB z k i).Lim E T := by
  unfold wayB
  split
  · exact neg_lim (h.c i hi)
  · split
    · exact at_lim h _ _ hi
    · exact neg_lim (at_lim h _ _ hi)
theorem hullR_lim {a b : Zo} {E T : Nat} (ha : a.Lim E T) (hb : b.Lim E T) (hn : a.n = b.n) (bits k i : Nat) (hi : i < a.n) : (hullR a b bits k i).Lim (E + 1) (T + 5 + 2 * k) := by
  induction k with
  | zero => exact (mor_lim ((mx_lim (ha.r i hi) (hb.r i (by omega))).mono (by omega) (show T ≤ T + 3 by omega)) (halfO_lim (ha.c i hi) (hb.c i (by omega)) bits) bits).mono (Nat.le_refl _) (by omega)
  | succ k ih => exact (mor_lim ih ((halfO_lim (wayA_lim ha k i hi) (wayB_lim hb k i (by omega)) bits).mono (Nat.le_refl _) (by omega)) bits).mono (Nat.le_refl _) (by omega)
theorem hull_lim {a b : Zo} {E T : Nat} (ha : a.Lim E T) (hb : b.Lim E T) (hn : a.n = b.n) (bits : Nat) : (hull a b bits).Lim (E + 1) (T + 7 + 4 * max a.m b.m) where
  c i hi := (halfM_lim (ha.c i hi) (hb.c i (by rw [← hn]; exact hi)) bits).mono (Nat.le_refl _) (by omega)
  g k i hk hi := (halfM_lim (wayA_lim ha k i hi) (wayB_lim hb k i (by rw [← hn]; exact hi)) bits).mono (Nat.le_refl _) (by omega)
  r i hi := (hullR_lim ha hb hn bits _ i hi).mono (Nat.le_refl _) (by omega)
theorem qabs_nonneg (q : Rat) : 0 ≤ qabs q := by unfold qabs; split <;> grind
theorem qabs_le (q : Rat) : q ≤ qabs q := by unfold qabs; split <;> grind
theorem qabs_neg_le (q : Rat) : -q ≤ qabs q := by unfold qabs; split <;> grind
theorem qabs_neg (q : Rat) : qabs (-q) = qabs q := by unfold qabs; split <;> split <;> grind
theorem qabs_of_nonneg {q : Rat} (h : 0 ≤ q) : qabs q = q := by unfold qabs; rw [if_pos h]
theorem qabs_tri (p q : Rat) : qabs (p + q) ≤ qabs p + qabs q := by unfold qabs; split <;> split <;> split <;> grind
theorem mul_le_abs {o : Rat} (h : 0 ≤ o) (d : Rat) : o * d ≤ o * qabs d ∧ -(o * qabs d) ≤ o * d := by
  have h1 := Rat.mul_le_mul_of_nonneg_left (qabs_le d) h
  have h2 := Rat.mul_le_mul_of_nonneg_left (qabs_neg_le d) h
  rw [Rat.mul_neg] at h2
  exact ⟨h1, by grind⟩
theorem dot_off {o d : Nat → Rat} (n : Nat) (h : ∀ i, i < n → 0 ≤ o i) : dot o d n ≤ dot o (fun i => qabs (d i)) n ∧ -(dot o (fun i => qabs (d i)) n) ≤ dot o d n := by
  induction n with
  | zero => simp only [dot]; exact ⟨by grind, by grind⟩
  | succ n ih =>
    have h1 := ih (fun i hi => h i (by omega))
    have h2 := mul_le_abs (h n (by omega)) (d n)
    simp only [dot]
    exact ⟨by grind, by grind⟩
theorem qabs_dot_off {o d : Nat → Rat} (n : Nat) (h : ∀ i, i < n → 0 ≤ o i) : qabs (dot o d n) ≤ dot o (fun i => qabs (d i)) n := by
  have := dot_off (d := d) n h
  unfold qabs at *
  split <;> grind
theorem dot_mono {p q d : Nat → Rat} (n : Nat) (h : ∀ i, i < n → p i ≤ q i) (hd : ∀ i, 0 ≤ d i) : dot p d n ≤ dot q d n := by
  induction n with
  | zero => simp only [dot]; exact Rat.le_refl
  | succ n ih =>
    have h1 := ih (fun i hi => h i (by omega))
    have h2 := Rat.mul_le_mul_of_nonneg_right (h n (by omega)) (hd n)
    simp only [dot]
    grind
theorem dot_congr {p q d : Nat → Rat} (n : Nat) (h : ∀ i, i < n → p i = q i) : dot p d n = dot q d n := by
  induction n with
  | zero => rfl
  | succ n ih => simp only [dot]; rw [ih (fun i hi => h i (by omega)), h n (by omega)]
theorem sumQ_mono {p q : Nat → Rat} (n : Nat) (h : ∀ i, i < n → p i ≤ q i) : sumQ p n ≤ sumQ q n := by
  induction n with
  | zero => exact Rat.le_refl
  | succ n ih =>
    have h1 := ih (fun i hi => h i (by omega))
    have h2 := h n (by omega)
    simp only [sumQ]
    grind
theorem sumQ_congr {p q : Nat → Rat} (n : Nat) (h : ∀ i, i < n → p i = q i) : sumQ p n = sumQ q n := by
  induction n with
  | zero => rfl
  | succ n ih => simp only [sumQ]; rw [ih (fun i hi => h i (by omega)), h n (by omega)]
theorem sumQ_add (p q : Nat → Rat) (n : Nat) : sumQ (fun i => p i + q i) n = sumQ p n + sumQ q n := by
  induction n with
  | zero => simp only [sumQ]; grind
  | succ n ih => simp only [sumQ, ih]; grind
theorem sumQ_pairs (f : Nat → Rat) (M : Nat) : sumQ f (2 * M + 1) = f 0 + sumQ (fun i => f (2 * i + 1) + f (2 * i + 2)) M := by
  induction M with
  | zero => simp only [sumQ]; grind
  | succ M ih =>
    show sumQ f (2 * M + 1) + f (2 * M + 1) + f (2 * M + 2) = f 0 + (sumQ (fun i => f (2 * i + 1) + f (2 * i + 2)) M + (f (2 * M + 1) + f (2 * M + 2)))
    rw [ih]; grind
theorem sumQ_zero {f : Nat → Rat} (n : Nat) (h : ∀ i, i < n → f i = 0) : sumQ f n = 0 := by
  induction n with
  | zero => rfl
  | succ n ih => simp only [sumQ]; rw [ih (fun i hi => h i (by omega)), h n (by omega)]; grind
/-- As many as there are, or more that are none. -/
theorem sumQ_more {f : Nat → Rat} {m M : Nat} (h : m ≤ M) (hz : ∀ i, m ≤ i → i < M → f i = 0) : sumQ f M = sumQ f m := by
  induction M with
  | zero => rw [show m = 0 by omega]
  | succ M ih =>
    by_cases e : m = M + 1
    · rw [e]
    · simp only [sumQ]
      rw [ih (by omega) (fun i h1 h2 => hz i h1 (by omega)), hz M (by omega) (by omega)]
      grind
theorem dot_zero {p d : Nat → Rat} (n : Nat) (h : ∀ i, i < n → p i = 0) : dot p d n = 0 := by
  induction n with
  | zero => rfl
  | succ n ih => simp only [dot]; rw [ih (fun i hi => h i (by omega)), h n (by omega)]; grind

/-- The ways' exact lists, in numbers. -/
def wayQ (a b : Zo) (k : Nat) : Nat → Rat := fun i => ((wayA a k i).val + (wayB b k i).val) / 2
def maxQ (p q : Rat) : Rat := if p < q then q else p
/-- How far the set of exact halves goes. -/
def lowQ (a b : Zo) (d : Nat → Rat) : Rat :=
  dot (fun i => ((a.c i).val + (b.c i).val) / 2) d a.n + sumQ (fun k => qabs (dot (wayQ a b k) d a.n)) (2 * max a.m b.m + 1) + dot (fun i => maxQ (a.r i).val (b.r i).val) (fun i => qabs (d i)) a.n
/-- How much is off, all in all. -/
def offQ (a b : Zo) (bits : Nat) (k : Nat) : Nat → Rat := fun i => (halfO (a.c i) (b.c i) bits).val + sumQ (fun j => (halfO (wayA a j i) (wayB b j i) bits).val) k
theorem hullR_ge (a b : Zo) (bits k i : Nat) : maxQ (a.r i).val (b.r i).val + offQ a b bits k i ≤ (hullR a b bits k i).val := by
  induction k with
  | zero =>
    have h1 := mor_ge ((a.r i).mx (b.r i)) (halfO (a.c i) (b.c i) bits) bits
    rw [mx_val, qabs_of_nonneg (halfO_nonneg _ _ _)] at h1
    simp only [hullR, offQ, sumQ, maxQ]
    grind
  | succ k ih =>
    have h1 := mor_ge (hullR a b bits k i) (halfO (wayA a k i) (wayB b k i) bits) bits
    rw [qabs_of_nonneg (halfO_nonneg _ _ _)] at h1
    simp only [hullR, offQ, sumQ] at *
    grind
theorem far_way (a b : Zo) (bits k n : Nat) (d : Nat → Rat) : qabs (dot (wayQ a b k) d n) ≤ qabs (dot (fun i => (halfM (wayA a k i) (wayB b k i) bits).val) d n) + dot (fun i => (halfO (wayA a k i) (wayB b k i) bits).val) (fun i => qabs (d i)) n := by
  have e : dot (wayQ a b k) d n = dot (fun i => (halfM (wayA a k i) (wayB b k i) bits).val) d n + dot (fun i => (halfO (wayA a k i) (wayB b k i) bits).val) d n := by
    rw [← dot_add]
    refine dot_congr n fun i hi => ?_
    unfold wayQ
    rw [halfO_val]
    grind
  have h1 := qabs_dot_off (d := d) (o := fun i => (halfO (wayA a k i) (wayB b k i) bits).val) n (fun i _ => halfO_nonneg _ _ _)
  have h2 := qabs_tri (dot (fun i => (halfM (wayA a k i) (wayB b k i) bits).val) d n) (dot (fun i => (halfO (wayA a k i) (wayB b k i) bits).val) d n)
  rw [e]
  grind
theorem dot_sumQ (f : Nat → Nat → Rat) (d : Nat → Rat) (n m : Nat) : dot (fun i => sumQ (fun k => f k i) m) d n = sumQ (fun k => dot (f k) d n) m := by
  induction m with
  | zero => simp only [sumQ]; exact dot_zero n (fun _ _ => rfl)
  | succ m ih => simp only [sumQ]; rw [dot_add, ih]
/-- What holds both goes no less far than the exact halves. -/
theorem hull_low (a b : Zo) (bits : Nat) (d : Nat → Rat) : lowQ a b d ≤ (hull a b bits).far d := by
  unfold lowQ Zo.far hull
  simp only
  have h1 := dot_mono (d := fun i => qabs (d i)) a.n (fun i _ => hullR_ge a b bits (2 * max a.m b.m + 1) i) (fun i => qabs_nonneg _)
  have h2 : dot (fun i => ((a.c i).val + (b.c i).val) / 2) d a.n ≤ dot (fun i => (halfM (a.c i) (b.c i) bits).val) d a.n + dot (fun i => (halfO (a.c i) (b.c i) bits).val) (fun i => qabs (d i)) a.n := by
    have e : dot (fun i => ((a.c i).val + (b.c i).val) / 2) d a.n = dot (fun i => (halfM (a.c i) (b.c i) bits).val) d a.n + dot (fun i => (halfO (a.c i) (b.c i) bits).val) d a.n := by
      rw [← dot_add]
      refine dot_congr _ fun i hi => ?_
      rw [halfO_val]
      grind
    have h1 := (dot_off (d := d) (o := fun i => (halfO (a.c i) (b.c i) bits).val) a.n (fun i _ => halfO_nonneg _ _ _)).1
    rw [e]
    grind
  have h3 := sumQ_mono (2 * max a.m b.m + 1) (fun k _ => far_way a b bits k a.n d)
  rw [sumQ_add] at h3
  have h4 : dot (fun i => maxQ (a.r i).val (b.r i).val + offQ a b bits (2 * max a.m b.m + 1) i) (fun i => qabs (d i)) a.n =
      dot (fun i => maxQ (a.r i).val (b.r i).val) (fun i => qabs (d i)) a.n + (dot (fun i => (halfO (a.c i) (b.c i) bits).val) (fun i => qabs (d i)) a.n + sumQ (fun k => dot (fun i => (halfO (wayA a k i) (wayB b k i) bits).val) (fun i => qabs (d i)) a.n) (2 * max a.m b.m + 1)) := by
    unfold offQ
    rw [dot_add, dot_add, dot_sumQ]
  rw [h4] at h1
  grind
theorem dot_half (a b d : Nat → Rat) (n : Nat) : dot (fun i => (a i + b i) / 2) d n = (dot a d n + dot b d n) / 2 := by
  induction n with
  | zero => simp only [dot]; grind
  | succ n ih => simp only [dot, ih]; grind
theorem dot_neg (a d : Nat → Rat) (n : Nat) : dot (fun i => -(a i)) d n = -(dot a d n) := by
  induction n with
  | zero => simp only [dot]; grind
  | succ n ih => simp only [dot, ih]; grind
def Zo.gd (z : Zo) (d : Nat → Rat) (n i : Nat) : Rat := dot (fun j => (z.at i j).val) d n
def Zo.cd (z : Zo) (d : Nat → Rat) (n : Nat) : Rat := dot (fun j => (z.c j).val) d n
theorem way_zero (a b : Zo) (d : Nat → Rat) (n : Nat) : dot (wayQ a b 0) d n = (a.cd d n - b.cd d n) / 2 := by
  unfold wayQ wayA wayB
  simp only [if_true, neg_val]
  rw [dot_half, dot_neg]
  unfold Zo.cd
  grind
theorem way_plus (a b : Zo) (d : Nat → Rat) (n i : Nat) : dot (wayQ a b (2 * i + 1)) d n = (a.gd d n i + b.gd d n i) / 2 := by
  unfold wayQ wayA wayB
  simp only [show ¬ 2 * i + 1 = 0 by omega, if_false, show (2 * i + 1) % 2 = 1 by omega, if_true, show (2 * i + 1 - 1) / 2 = i by omega]
  rw [dot_half]; rfl
theorem way_minus (a b : Zo) (d : Nat → Rat) (n i : Nat) : dot (wayQ a b (2 * i + 2)) d n = (a.gd d n i - b.gd d n i) / 2 := by
  unfold wayQ wayA wayB
  simp only [show ¬ 2 * i + 2 = 0 by omega, if_false, show ¬ (2 * i + 2) % 2 = 1 by omega, show (2 * i + 2 - 1) / 2 = i by omega, neg_val]
  rw [dot_half, dot_neg]
  unfold Zo.gd
  grind
/-- In halves: as sums and differences. -/
theorem lowQ_eq (a b : Zo) (d : Nat → Rat) : lowQ a b d = (a.cd d a.n + b.cd d a.n) / 2 + (qabs ((a.cd d a.n - b.cd d a.n) / 2) + sumQ (fun i => qabs ((a.gd d a.n i + b.gd d a.n i) / 2) + qabs ((a.gd d a.n i - b.gd d a.n i) / 2)) (max a.m b.m)) + dot (fun i => maxQ (a.r i).val (b.r i).val) (fun i => qabs (d i)) a.n := by
  unfold lowQ
  rw [sumQ_pairs, dot_half, way_zero]
  simp only [way_plus, way_minus]
  rfl
theorem far_eq (z : Zo) (d : Nat → Rat) {M : Nat} (h : z.m ≤ M) : z.far d = z.cd d z.n + sumQ (fun i => qabs (z.gd d z.n i)) M + dot (fun i => (z.r i).val) (fun i => qabs (d i)) z.n := by
  unfold Zo.far
  congr 2
  rw [sumQ_more (m := z.m) (M := M) h]
  · refine sumQ_congr _ fun i hi => ?_
    unfold Zo.gd Zo.at
    rw [if_pos hi]
  · intro i h1 _
    unfold Zo.gd Zo.at
    rw [if_neg (by omega)]
    show qabs (dot (fun _ => D.zero.val) d z.n) = 0
    rw [show D.zero.val = 0 from zero_val, dot_zero _ (fun _ _ => rfl)]
    rfl
theorem half_abs (p q : Rat) : qabs p ≤ qabs ((p + q) / 2) + qabs ((p - q) / 2) ∧ qabs q ≤ qabs ((p + q) / 2) + qabs ((p - q) / 2) := by
  constructor
  · have := qabs_tri ((p + q) / 2) ((p - q) / 2)
    rw [show (p + q) / 2 + (p - q) / 2 = p by grind] at this
    exact this
  · have := qabs_tri ((p + q) / 2) (-((p - q) / 2))
    rw [show (p + q) / 2 + -((p - q) / 2) = q by grind, qabs_neg] at this
    exact this
theorem low_a (a b : Zo) (d : Nat → Rat) : a.far d ≤ lowQ a b d := by
  rw [lowQ_eq, far_eq a d (Nat.le_max_left a.m b.m)]
  have h1 := qabs_le ((a.cd d a.n - b.cd d a.n) / 2)
  have h2 := sumQ_mono (max a.m b.m) (fun i _ => (half_abs (a.gd d a.n i) (b.gd d a.n i)).1)
  have h3 := dot_mono (p := fun i => (a.r i).val) (q := fun i => maxQ (a.r i).val (b.r i).val) (d := fun i => qabs (d i)) a.n (fun i _ => by unfold maxQ; split <;> grind) (fun i => qabs_nonneg _)
  grind
theorem low_b (a b : Zo) (d : Nat → Rat) (hn : a.n = b.n) : b.far d ≤ lowQ a b d := by
  rw [lowQ_eq, far_eq b d (Nat.le_max_right a.m b.m), ← hn]
  have h1 := qabs_neg_le ((a.cd d a.n - b.cd d a.n) / 2)
  have h2 := sumQ_mono (max a.m b.m) (fun i _ => (half_abs (a.gd d a.n i) (b.gd d a.n i)).2)
  have h3 := dot_mono (p := fun i => (b.r i).val) (q := fun i => maxQ (a.r i).val (b.r i).val) (d := fun i => qabs (d i)) a.n (fun i _ => by unfold maxQ; split <;> grind) (fun i => qabs_nonneg _)
  grind
theorem hull_a (a b : Zo) (bits : Nat) (d : Nat → Rat) : a.far d ≤ (hull a b bits).far d := Rat.le_trans (low_a a b d) (hull_low a b bits d)
theorem hull_b (a b : Zo) (bits : Nat) (d : Nat → Rat) (hn : a.n = b.n) : b.far d ≤ (hull a b bits).far d := Rat.le_trans (low_b a b d hn) (hull_low a b bits d)
/-! With bits enough: exactly that. -/
end Go.Proofs.YtgioppkggpfnoaaDoor.Nu
end
