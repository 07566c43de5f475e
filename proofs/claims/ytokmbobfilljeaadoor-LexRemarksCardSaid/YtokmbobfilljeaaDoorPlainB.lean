/- The lexer's plain law, second part: one step by the byte with which a text begins; how tokens stand in memory; what Scan's contract says. -/
import Derived.Test.YtokmbobfilljeaaDoorWalkB
namespace Go.Proofs.YtokmbobfilljeaaDoor.Lx
open Go.RowKit Go.Proofs

theorem step_hash {b : UInt8} {r : List UInt8} (h : b.toNat = 35) : step (b :: r) = .skip (spanLen notLine (b :: r)) := by simp [step, h]
theorem step_blank {b : UInt8} {r : List UInt8} (h : b.toNat = 32 ∨ b.toNat = 9 ∨ b.toNat = 13) : step (b :: r) = .skip 1 := by
  have h1 : ¬ b.toNat = 35 := by omega
  have h2 : blank b = true := by simp [blank]; omega
  simp [step, h1, h2]
theorem step_line {b : UInt8} {r : List UInt8} (h : b.toNat = 10) : step (b :: r) = .tok 3 1 := by
  have h2 : blank b = false := by simp [blank]; omega
  simp [step, h, h2]
theorem step_letter {b : UInt8} {r : List UInt8} (h : isLetter b = true) : step (b :: r) = .tok 0 (spanLen isLetter (b :: r)) := by
  have h0 := h
  simp only [isLetter, decide_eq_true_eq] at h0
  have h1 : ¬ b.toNat = 35 := by omega
  have h3 : ¬ b.toNat = 10 := by omega
  have h2 : blank b = false := by simp [blank]; omega
  simp [step, h1, h2, h3, h]
theorem step_num {b : UInt8} {r : List UInt8} (h : b.toNat = 45 ∨ isDigit b = true) : step (b :: r) = Step.of 1 (numLen (b :: r)) := by
  have h0 := h
  simp only [isDigit, decide_eq_true_eq] at h0
  have h1 : ¬ b.toNat = 35 := by omega
  have h3 : ¬ b.toNat = 10 := by omega
  have h2 : blank b = false := by simp [blank]; omega
  have h4 : isLetter b = false := by simp [isLetter]; omega
  simp [step, h1, h2, h3, h4, h]
theorem step_sign {b : UInt8} {r : List UInt8} (h1 : b.toNat ≠ 35) (h2 : ¬ (b.toNat = 32 ∨ b.toNat = 9 ∨ b.toNat = 13)) (h3 : b.toNat ≠ 10) (h4 : isLetter b = false) (h5 : b.toNat ≠ 45) (h6 : isDigit b = false) : step (b :: r) = Step.of 2 (signIn signs (b :: r)) := by
  have h2' : blank b = false := by simp [blank]; omega
  simp [step, h1, h2', h3, h4, h5, h6]

/-- A token as it stands in a row: three cells. -/
def tokCells : List Tok → List Value
  | [] => []
  | t :: ts => .int .i64 t.kind :: .int .i64 t.pos :: .string ⟨t.text.toArray⟩ :: tokCells ts
theorem tokCells_append (xs ys : List Tok) : tokCells (xs ++ ys) = tokCells xs ++ tokCells ys := by
  induction xs with
  | nil => rfl
  | cons x xs ih => simp [tokCells, ih]
theorem tokCells_length (xs : List Tok) : (tokCells xs).length = xs.length * 3 := by
  induction xs with
  | nil => rfl
  | cons x xs ih => simp [tokCells, ih]; omega

/-- What Scan hands back. -/
def ScanPost0 (R : Except Nat (List Tok)) (w : World) (e : Ending) (w' : World) : Prop :=
  match R with
  | .ok ts => ∃ v, e = .returned (.tuple #[v, .agg #[.int .i64 0, .int .i64 0]]) ∧ w'.ownsRow w.heap.size 30 3 v ts.length (tokCells ts) ∧ Below w.heap.size w w'
  | .error k => e = .returned (.tuple #[.slice none 0 0, .agg #[.int .i64 2, .int .i64 k]]) ∧ Below w.heap.size w w'

structure ScanPost (R : Except Nat (List Tok)) (w : World) (e : Ending) (w' : World) : Prop where
  out : ScanPost0 R w e w'
theorem scanPost_ok {R : Except Nat (List Tok)} {ts : List Tok} {w w' : World} {e : Ending} {v : Value} (hR : R = .ok ts) (he : e = .returned (.tuple #[v, .agg #[.int .i64 0, .int .i64 0]])) (ho : w'.ownsRow w.heap.size 30 3 v ts.length (tokCells ts)) (hB : Below w.heap.size w w') : ScanPost R w e w' := by
  subst hR; exact ⟨⟨v, he, ho, hB⟩⟩
theorem scanPost_bad {R : Except Nat (List Tok)} {k : Nat} {w w' : World} {e : Ending} (hR : R = .error k) (he : e = .returned (.tuple #[.slice none 0 0, .agg #[.int .i64 2, .int .i64 k]])) (hB : Below w.heap.size w w') : ScanPost R w e w' := by
  subst hR; exact ⟨⟨he, hB⟩⟩

/-- Scan's state between two rounds. -/
def ScanRel (s : ByteArray) (w : World) (v a : Value) (wr : World) : Prop :=
  ∃ (k : Nat) (pre : List Tok), a = .int .i64 k ∧ k ≤ s.size ∧ pre.length ≤ k ∧ ahead pre (lex k (s.data.toList.drop k)) = lex 0 s.data.toList ∧
    wr.ownsRow (w.heap.size + 1) 30 3 v pre.length (tokCells pre) ∧ wr.heap[w.heap.size]? = some (.cells #[.int .i64 0, .int .i64 0] 26 (0, 0)) ∧ Below w.heap.size w wr

theorem rel_skip {s : ByteArray} {w : World} {k n : Nat} {pre : List Tok} {v : Value} {wr : World} (hk : k < s.size) (hs : step (s.data.toList.drop k) = .skip n) (hp : pre.length ≤ k)
    (ha : ahead pre (lex k (s.data.toList.drop k)) = lex 0 s.data.toList) (ho : wr.ownsRow (w.heap.size + 1) 30 3 v pre.length (tokCells pre)) (hb : wr.heap[w.heap.size]? = some (.cells #[.int .i64 0, .int .i64 0] 26 (0, 0))) (hB : Below w.heap.size w wr) :
    ScanRel s w v (.int .i64 (k + n : Nat)) wr := by
  have hr : s.data.toList.drop k ≠ [] := by rw [drop_cons s k hk]; simp
  have h1 := (step_le (s.data.toList.drop k)).1 n hs
  simp at h1
  refine ⟨k + n, pre, rfl, by omega, by omega, ?_, ho, hb, hB⟩
  rw [← ha, lex_skip hr hs, List.drop_drop]
theorem rel_tok {s : ByteArray} {w : World} {k c n : Nat} {pre : List Tok} {v : Value} {wr : World} (hk : k < s.size) (hs : step (s.data.toList.drop k) = .tok c n) (hp : pre.length ≤ k)
    (ha : ahead pre (lex k (s.data.toList.drop k)) = lex 0 s.data.toList) (ho : wr.ownsRow (w.heap.size + 1) 30 3 v (pre.length + 1) (tokCells pre ++ tokCells [⟨c, k, (s.data.toList.drop k).take n⟩])) (hb : wr.heap[w.heap.size]? = some (.cells #[.int .i64 0, .int .i64 0] 26 (0, 0))) (hB : Below w.heap.size w wr) :
    ScanRel s w v (.int .i64 (k + n : Nat)) wr := by
  have hr : s.data.toList.drop k ≠ [] := by rw [drop_cons s k hk]; simp
  have h1 := (step_le (s.data.toList.drop k)).2 c n hs
  simp at h1
  refine ⟨k + n, pre ++ [⟨c, k, (s.data.toList.drop k).take n⟩], rfl, by omega, by simp; omega, ?_, ?_, hb, hB⟩
  · rw [← ha, lex_tok hr hs, List.drop_drop, ahead_tok]
  · rw [tokCells_append]; simpa using ho
theorem rel_bad {s : ByteArray} {k : Nat} {pre : List Tok} (hk : k < s.size) (hs : step (s.data.toList.drop k) = .bad)
    (ha : ahead pre (lex k (s.data.toList.drop k)) = lex 0 s.data.toList) : lex 0 s.data.toList = .error k := by
  have hr : s.data.toList.drop k ≠ [] := by rw [drop_cons s k hk]; simp
  rw [← ha, lex_bad hr hs]; rfl
theorem rel_end {s : ByteArray} {k : Nat} {pre : List Tok} (hk : s.size ≤ k)
    (ha : ahead pre (lex k (s.data.toList.drop k)) = lex 0 s.data.toList) : lex 0 s.data.toList = .ok (pre ++ [⟨4, k, []⟩]) := by
  rw [← ha, drop_end s k hk, lex_nil]; rfl
end Go.Proofs.YtokmbobfilljeaaDoor.Lx
