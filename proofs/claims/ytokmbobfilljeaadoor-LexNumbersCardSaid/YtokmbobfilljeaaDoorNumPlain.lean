/- The plain law behind LexNumbers: which digit texts are one number. -/
import Derived.Test.YtokmbobfilljeaaDoorBackPlain
namespace Go.Proofs.YtokmbobfilljeaaDoor.Lx

def Digs (D : List UInt8) : Prop := D ≠ [] ∧ ∀ b ∈ D, isDigit b = true
theorem span_all {p : UInt8 → Bool} (D R : List UInt8) (h : ∀ b ∈ D, p b = true) (hR : spanLen p R = 0) : spanLen p (D ++ R) = D.length := by
  induction D with
  | nil => simpa using hR
  | cons b D ih => rw [List.cons_append, spanLen_cons_yes (h b List.mem_cons_self), ih (fun c hc => h c (List.mem_cons_of_mem _ hc))]; rfl
theorem digs_minus (D R : List UInt8) (h : Digs D) : minus (D ++ R) = 0 := by
  obtain ⟨h0, h1⟩ := h
  cases D with
  | nil => exact absurd rfl h0
  | cons b D =>
    have := h1 b List.mem_cons_self
    simp only [isDigit, decide_eq_true_eq] at this
    simp only [List.cons_append, minus]
    rw [if_neg (by omega)]
theorem sp0 (p : UInt8 → Bool) (c : UInt8) (R : List UInt8) (h : p c = false) : spanLen p (c :: R) = 0 := spanLen_cons_no h

theorem numLen_digs (D R : List UInt8) (h : Digs D) (hR : spanLen isDigit R = 0) : numLen (D ++ R) = tailLen D.length R := by
  unfold numLen
  rw [digs_minus D R h, List.drop_zero, span_all D R h.2 hR, Nat.zero_add, List.drop_left, if_neg]
  exact fun h0 => h.1 (List.length_eq_zero_iff.1 h0)
theorem numLen_minus (D R : List UInt8) (h : Digs D) (hR : spanLen isDigit R = 0) : numLen (45 :: (D ++ R)) = tailLen (1 + D.length) R := by
  have hm : minus (45 :: (D ++ R)) = 1 := rfl
  unfold numLen
  rw [hm, List.drop_succ_cons, List.drop_zero, span_all D R h.2 hR, if_neg (fun h0 => h.1 (List.length_eq_zero_iff.1 h0)), Nat.add_comm 1, List.drop_succ_cons, List.drop_left]
theorem tail_blank (e : Nat) : tailLen e [32] = some e := rfl
theorem tail_digs (e : Nat) (c : UInt8) (D : List UInt8) (hc : c.toNat = 46 ∨ c.toNat = 47) (h : Digs D) : tailLen e (c :: (D ++ [32])) = some (e + 1 + D.length) := by
  have hs := span_all D [32] h.2 (by rfl)
  simp only [tailLen, if_pos hc, hs]
  rw [if_neg (fun h0 => h.1 (List.length_eq_zero_iff.1 h0))]
theorem tail_none (e : Nat) (c : UInt8) (hc : c.toNat = 46 ∨ c.toNat = 47) : tailLen e [c, 32] = none := by
  simp only [tailLen, if_pos hc, show spanLen isDigit [32] = 0 from rfl, if_true]

theorem step_num' {b : UInt8} {r : List UInt8} (h : isDigit b = true) : step (b :: r) = Step.of 1 (numLen (b :: r)) := by
  have h0 := h
  simp only [isDigit, decide_eq_true_eq] at h0
  have h1 : ¬ b.toNat = 35 := by omega
  have h3 : ¬ b.toNat = 10 := by omega
  have h2 : blank b = false := by simp [blank]; omega
  have h4 : isLetter b = false := by simp [isLetter]; omega
  simp [step, h1, h2, h3, h4, h]
theorem step_digs (D R : List UInt8) (h : Digs D) : step (D ++ R) = Step.of 1 (numLen (D ++ R)) := by
  obtain ⟨h0, h1⟩ := h
  cases D with
  | nil => exact absurd rfl h0
  | cons b D => rw [List.cons_append]; exact step_num' (h1 b List.mem_cons_self)
theorem step_minus (r : List UInt8) : step (45 :: r) = Step.of 1 (numLen (45 :: r)) := rfl

theorem lex_blank (r : List UInt8) : lex 0 (32 :: r) = lex 1 r := by
  rw [lex_skip (r := 32 :: r) (n := 1) (by simp) rfl]; rfl
theorem lex_one (s : List UInt8) (_ : s ≠ []) (h : step (s ++ [32]) = .tok 1 s.length) : lex 0 ([32] ++ s ++ [32]) = .ok [⟨1, 1, s⟩, ⟨4, 2 + s.length, []⟩] := by
  have e : [32] ++ s ++ [32] = (32 : UInt8) :: (s ++ [32]) := by simp
  rw [e, lex_blank, lex_tok (by simp) h, List.drop_left, List.take_left, lex_skip (r := [32]) (n := 1) (by simp) rfl]
  simp only [List.drop_succ_cons, List.drop_nil, lex_nil, Except.map]
  rw [show 1 + s.length + 1 = 2 + s.length by omega]
theorem lex_none (s : List UInt8) (h : step (s ++ [32]) = .bad) : lex 0 ([32] ++ s ++ [32]) = .error 1 := by
  have e : [32] ++ s ++ [32] = (32 : UInt8) :: (s ++ [32]) := by simp
  rw [e, lex_blank, lex_bad (by simp) h]

theorem num_plain (D : List UInt8) (h : Digs D) : lex 0 ([32] ++ D ++ [32]) = .ok [⟨1, 1, D⟩, ⟨4, 2 + D.length, []⟩] :=
  lex_one D h.1 (by rw [step_digs D _ h, numLen_digs D _ h rfl, tail_blank]; rfl)
theorem num_minus (D : List UInt8) (h : Digs D) : lex 0 ([32] ++ (45 :: D) ++ [32]) = .ok [⟨1, 1, 45 :: D⟩, ⟨4, 2 + (45 :: D).length, []⟩] :=
  lex_one (45 :: D) (by simp) (by rw [List.cons_append, step_minus, numLen_minus D _ h rfl, tail_blank]; simp [Step.of, Nat.add_comm])
theorem num_two (c : UInt8) (D E : List UInt8) (hc : c.toNat = 46 ∨ c.toNat = 47) (h : Digs D) (h2 : Digs E) : lex 0 ([32] ++ (D ++ c :: E) ++ [32]) = .ok [⟨1, 1, D ++ c :: E⟩, ⟨4, 2 + (D ++ c :: E).length, []⟩] :=
  lex_one _ (by simp) (by
    have hcd : isDigit c = false := by simp [isDigit]; omega
    rw [List.append_assoc, List.cons_append, step_digs D _ h, numLen_digs D _ h (sp0 _ _ _ hcd), tail_digs _ c E hc h2]
    simp [Step.of]; omega)
theorem num_open (c : UInt8) (D : List UInt8) (hc : c.toNat = 46 ∨ c.toNat = 47) (h : Digs D) : lex 0 ([32] ++ (D ++ [c]) ++ [32]) = .error 1 :=
  lex_none _ (by
    have hcd : isDigit c = false := by simp [isDigit]; omega
    rw [List.append_assoc, List.singleton_append, step_digs D _ h, numLen_digs D _ h (sp0 _ _ _ hcd), tail_none _ c hc]; rfl)
theorem num_bare : lex 0 ([32] ++ [45] ++ [32]) = .error 1 := rfl
theorem digs_cons (b : UInt8) (D : List UInt8) (hb : isDigit b = true) (h : ∀ c ∈ D, isDigit c = true) : Digs (b :: D) :=
  ⟨by simp, fun c hc => by rcases List.mem_cons.1 hc with rfl | hc; exact hb; exact h c hc⟩
end Go.Proofs.YtokmbobfilljeaaDoor.Lx
