/- The plain laws behind LexBack, LexLines and LexRemarks: a step by a part of a text; tokens written again; line ends; remarks at lines' ends. -/
import Derived.Test.YtokmbobfilljeaaDoorCoversPlain
namespace Go.Proofs.YtokmbobfilljeaaDoor.Lx

/-- What may stand behind a token: nothing, a blank or a line's end. -/
def Sep (R : List UInt8) : Prop := R = [] ∨ ∃ c R', R = c :: R' ∧ (c.toNat = 32 ∨ c.toNat = 10)

theorem sep_span {p : UInt8 → Bool} (R : List UInt8) (h : Sep R) (hp : ∀ c : UInt8, c.toNat = 32 ∨ c.toNat = 10 → p c = false) : spanLen p R = 0 := by
  rcases h with rfl | ⟨c, R', rfl, hc⟩
  · rfl
  · exact spanLen_cons_no (hp c hc)
theorem digit_sep (c : UInt8) (h : c.toNat = 32 ∨ c.toNat = 10) : isDigit c = false := by simp [isDigit]; omega
theorem letter_sep (c : UInt8) (h : c.toNat = 32 ∨ c.toNat = 10) : isLetter c = false := by simp [isLetter]; omega

theorem spanLen_append (p : UInt8 → Bool) (x R : List UInt8) (h : spanLen p R = 0) : spanLen p (x ++ R) = spanLen p x := by
  induction x with
  | nil => simpa [spanLen_nil] using h
  | cons b x ih =>
    cases hb : p b
    · rw [List.cons_append, spanLen_cons_no hb, spanLen_cons_no hb]
    · rw [List.cons_append, spanLen_cons_yes hb, spanLen_cons_yes hb, ih]
theorem spanLen_takeN (p : UInt8 → Bool) (y : List UInt8) : ∀ j, spanLen p (y.take j) = min j (spanLen p y) := by
  induction y with
  | nil => intro j; simp [spanLen_nil]
  | cons b y ih =>
    intro j
    cases j with
    | zero => simp [spanLen_nil]
    | succ j =>
      rw [List.take_succ_cons]
      cases hb : p b
      · rw [spanLen_cons_no hb, spanLen_cons_no hb]; simp
      · rw [spanLen_cons_yes hb, spanLen_cons_yes hb, ih]; omega

theorem tailLen_append (e : Nat) (y R : List UInt8) (h : Sep R) : tailLen e (y ++ R) = tailLen e y := by
  cases y with
  | nil =>
    rcases h with rfl | ⟨c, R', rfl, hc⟩
    · rfl
    · simp only [List.nil_append, tailLen]
      rw [if_neg (by omega)]
  | cons c r' =>
    simp only [List.cons_append, tailLen]
    rw [spanLen_append isDigit r' R (sep_span R h digit_sep)]
theorem minus_append (x R : List UInt8) (h : x ≠ []) : minus (x ++ R) = minus x := by
  cases x with
  | nil => exact absurd rfl h
  | cons b r => rfl
theorem numLen_append (x R : List UInt8) (hx : x ≠ []) (h : Sep R) : numLen (x ++ R) = numLen x := by
  have hm := minus_le x
  have hs := spanLen_le isDigit (x.drop (minus x))
  simp only [List.length_drop] at hs
  unfold numLen
  rw [minus_append x R hx, List.drop_append_of_le_length hm, spanLen_append isDigit _ R (sep_span R h digit_sep), List.drop_append_of_le_length (by omega), tailLen_append _ _ R h]
theorem prefix_append (w x R : List UInt8) (hw : ∀ b ∈ w, b.toNat ≠ 32 ∧ b.toNat ≠ 10) (h : Sep R) : w.isPrefixOf (x ++ R) = w.isPrefixOf x := by
  induction w generalizing x with
  | nil => cases x <;> simp [List.isPrefixOf]
  | cons a w ih =>
    cases x with
    | nil =>
      rcases h with rfl | ⟨c, R', rfl, hc⟩
      · rfl
      · have := hw a List.mem_cons_self
        have hne : (a == c) = false := by
          rw [beq_eq_false_iff_ne]; rintro rfl; omega
        simp [List.isPrefixOf, hne]
    | cons b x =>
      simp only [List.cons_append, List.isPrefixOf]
      rw [ih x (fun b hb => hw b (List.mem_cons_of_mem _ hb))]
theorem signIn_append (ws : List (List UInt8)) (x R : List UInt8) (hw : ∀ w ∈ ws, ∀ b ∈ w, b.toNat ≠ 32 ∧ b.toNat ≠ 10) (h : Sep R) : signIn ws (x ++ R) = signIn ws x := by
  induction ws with
  | nil => rfl
  | cons w ws ih =>
    simp only [signIn]
    rw [prefix_append w x R (hw w List.mem_cons_self) h, ih (fun v hv => hw v (List.mem_cons_of_mem _ hv))]
theorem signs_plain : ∀ w ∈ signs, ∀ b ∈ w, b.toNat ≠ 32 ∧ b.toNat ≠ 10 := by decide

/-- A step is the same with a blank or a line's end behind. -/
theorem step_append (b : UInt8) (r R : List UInt8) (hb : b.toNat ≠ 35) (h : Sep R) : step (b :: r ++ R) = step (b :: r) := by
  have e1 := spanLen_append isLetter (b :: r) R (sep_span R h letter_sep)
  have e2 := numLen_append (b :: r) R (by simp) h
  have e3 := signIn_append signs (b :: r) R signs_plain h
  rw [List.cons_append] at e1 e2 e3 ⊢
  simp only [step, if_neg hb]
  rw [e1, e2, e3]

/-- A token alone is cut as it was. -/
theorem numLen_take (r : List UInt8) (n : Nat) (h : numLen r = some n) : numLen (r.take n) = some n := by
  have hn := numLen_le r n h
  unfold numLen at h
  split at h
  · cases h
  · rename_i hd
    have ht := tailLen_le _ _ _ h
    have hm : minus (r.take n) = minus r := by
      obtain ⟨q, rfl⟩ : ∃ q, n = q + 1 := ⟨n - 1, by omega⟩
      cases r <;> rfl
    have e1 : (r.take n).drop (minus r) = (r.drop (minus r)).take (n - minus r) := by rw [List.drop_take]
    have e2 : spanLen isDigit ((r.take n).drop (minus r)) = spanLen isDigit (r.drop (minus r)) := by
      rw [e1, spanLen_takeN]; omega
    unfold numLen
    rw [hm, e2, if_neg hd, List.drop_take]
    obtain ⟨e, he⟩ : ∃ e, minus r + spanLen isDigit (r.drop (minus r)) = e := ⟨_, rfl⟩
    rw [he] at h ht ⊢
    cases hy : r.drop e with
    | nil => rw [hy] at h; simp only [tailLen] at h; simp only [List.take_nil, tailLen]; exact h
    | cons c r' =>
      rw [hy] at h
      simp only [tailLen] at h
      split at h
      · rename_i hc
        split at h
        · cases h
        · rename_i hf
          injection h with h
          obtain ⟨q, hq⟩ : ∃ q, n - e = q + 1 := ⟨n - e - 1, by omega⟩
          rw [hq, List.take_succ_cons]
          simp only [tailLen, if_pos hc]
          have : spanLen isDigit (r'.take q) = spanLen isDigit r' := by rw [spanLen_takeN]; omega
          rw [this, if_neg hf, h]
      · rename_i hc
        injection h with h
        rw [show n - e = 0 by omega]
        simp only [List.take_zero, tailLen]
        rw [h]
theorem signIn_take (ws : List (List UInt8)) (r : List UInt8) (n : Nat) (h : signIn ws r = some n) : r.take n ∈ ws := by
  induction ws with
  | nil => simp [signIn] at h
  | cons w ws ih =>
    simp only [signIn] at h
    split at h
    · rename_i hp
      injection h with h
      obtain ⟨t, rfl⟩ := List.isPrefixOf_iff_prefix.1 hp
      subst h
      simp
    · exact List.mem_cons_of_mem _ (ih h)
theorem signs_step : ∀ w ∈ signs, step w = .tok 2 w.length := by
  intro w hw
  simp only [signs, List.mem_cons, List.not_mem_nil, or_false] at hw
  rcases hw with rfl | rfl | rfl | rfl | rfl | rfl | rfl | rfl <;> rfl
theorem step_take (r : List UInt8) (c n : Nat) (h : step r = .tok c n) : step (r.take n) = .tok c n ∧ (r.take n).length = n ∧ 0 < n := by
  have hle := (step_le r).2 c n h
  have hlen : (r.take n).length = n := by simp; omega
  refine ⟨?_, hlen, hle.1⟩
  cases r with
  | nil => simp [step] at h
  | cons b r' =>
    obtain ⟨q, rfl⟩ : ∃ q, n = q + 1 := ⟨n - 1, by omega⟩
    have h0 := h
    rw [List.take_succ_cons]
    simp only [step] at h ⊢
    split at h
    · cases h
    rename_i h1
    rw [if_neg h1]
    split at h
    · cases h
    rename_i h2
    rw [if_neg h2]
    split at h
    · rename_i h3
      rw [if_pos h3]; exact h
    rename_i h3
    rw [if_neg h3]
    split at h
    · rename_i h4
      rw [if_pos h4]
      injection h with hc hn
      rw [← hc]
      have := spanLen_takeN isLetter (b :: r') (q + 1)
      rw [List.take_succ_cons] at this
      rw [this, hn, Nat.min_self]
    rename_i h4
    rw [if_neg h4]
    split at h
    · rename_i h5
      rw [if_pos h5]
      cases hn : numLen (b :: r') with
      | none => rw [hn] at h; cases h
      | some m =>
        rw [hn] at h
        simp only [Step.of] at h
        injection h with hc hm
        subst hm
        have := numLen_take _ _ hn
        rw [List.take_succ_cons] at this
        rw [this, ← hc]; rfl
    · rename_i h5
      cases hn : signIn signs (b :: r') with
      | none => rw [hn] at h; cases h
      | some m =>
        rw [hn] at h
        simp only [Step.of] at h
        injection h with hc hm
        subst hm hc
        have hmem := signIn_take _ _ _ hn
        have hs := signs_step _ hmem
        rw [hlen, List.take_succ_cons] at hs
        simp only [step, if_neg h1, if_neg h2, if_neg h3, if_neg h4, if_neg h5] at hs
        rw [if_neg h5]; exact hs

/-- A token's kind and text, without its place. -/
abbrev KT := Nat × List UInt8
def kt (t : Tok) : KT := (t.kind, t.text)
def forget : Except Nat (List Tok) → Option (List KT)
  | .ok ts => some (ts.map kt)
  | .error _ => none
theorem forget_map (e : Except Nat (List Tok)) (t : Tok) : forget (e.map (t :: ·)) = (forget e).map (kt t :: ·) := by cases e <;> rfl
theorem forget_pos (r : List UInt8) : ∀ k j, forget (lex k r) = forget (lex j r) := by
  induction hn : r.length using Nat.strongRecOn generalizing r with
  | ind n ih =>
    intro k j
    by_cases hr : r = []
    · subst hr; rfl
    · have hs := step_le r
      have hp := List.length_pos_iff.2 hr
      cases hst : step r with
      | bad => rw [lex_bad hr hst, lex_bad hr hst]; rfl
      | skip m =>
        have := hs.1 m hst
        rw [lex_skip hr hst, lex_skip hr hst]
        exact ih _ (by simp; omega) (r.drop m) rfl _ _
      | tok c m =>
        have := hs.2 c m hst
        rw [lex_tok hr hst, lex_tok hr hst, forget_map, forget_map, ih _ (by simp; omega) (r.drop m) rfl (k + m) (j + m)]
        rfl
/-- What is cut of a text: kinds and texts. -/
def lexA (r : List UInt8) : Option (List KT) := forget (lex 0 r)
theorem lexA_nil : lexA [] = some [(4, [])] := rfl
theorem lexA_skip {r : List UInt8} {n : Nat} (hr : r ≠ []) (h : step r = .skip n) : lexA r = lexA (r.drop n) := by
  unfold lexA; rw [lex_skip hr h]; exact forget_pos _ _ _
theorem lexA_tok {r : List UInt8} {c n : Nat} (hr : r ≠ []) (h : step r = .tok c n) : lexA r = (lexA (r.drop n)).map ((c, r.take n) :: ·) := by
  unfold lexA; rw [lex_tok hr h, forget_map, forget_pos _ (0 + n) 0]; rfl
theorem lexA_bad {r : List UInt8} (hr : r ≠ []) (h : step r = .bad) : lexA r = none := by
  unfold lexA; rw [lex_bad hr h]; rfl
theorem lexA_ok {r : List UInt8} {ts : List Tok} (h : lex 0 r = .ok ts) : lexA r = some (ts.map kt) := by unfold lexA; rw [h]; rfl
theorem lexA_err {r : List UInt8} {e : Nat} (h : lex 0 r = .error e) : lexA r = none := by unfold lexA; rw [h]; rfl

/-! ### There and back -/
/-- Tokens that are cut of their own texts; the last one the end. -/
def Good : List KT → Prop
  | [] => False
  | [t] => t = (4, [])
  | t :: u :: ts => step t.2 = .tok t.1 t.2.length ∧ t.2 ≠ [] ∧ Good (u :: ts)
theorem good_lexA (r : List UInt8) (us : List KT) (h : lexA r = some us) : Good us := by
  induction hn : r.length using Nat.strongRecOn generalizing r us with
  | ind n ih =>
    by_cases hr : r = []
    · subst hr; rw [lexA_nil] at h; injection h with h; subst h; rfl
    · have hs := step_le r
      have hp := List.length_pos_iff.2 hr
      cases hst : step r with
      | bad => rw [lexA_bad hr hst] at h; cases h
      | skip m =>
        have := hs.1 m hst
        rw [lexA_skip hr hst] at h
        exact ih _ (by simp; omega) _ _ h rfl
      | tok c m =>
        have := hs.2 c m hst
        rw [lexA_tok hr hst] at h
        obtain ⟨hs1, hs2, hs3⟩ := step_take r c m hst
        cases hl : lexA (r.drop m) with
        | none => rw [hl] at h; cases h
        | some vs =>
          rw [hl] at h
          injection h with h
          subst h
          have hg := ih (r.drop m).length (by simp; omega) _ _ hl rfl
          cases vs with
          | nil => exact hg.elim
          | cons u vs =>
            refine ⟨?_, ?_, hg⟩
            · simp only; rw [hs2]; exact hs1
            · simp only; intro h0; rw [h0] at hs2; simp at hs2; omega

def sepOf : Option Nat → Nat → List UInt8
  | none, _ => []
  | some p, k => if k ≠ 4 ∧ k ≠ 3 ∧ p ≠ 3 then [32] else []
def joinL : Option Nat → List KT → List UInt8
  | _, [] => []
  | p, t :: ts => sepOf p t.1 ++ t.2 ++ joinL (some t.1) ts

theorem good_last (us : List KT) (h : Good us) : ∃ pre, us = pre ++ [(4, [])] := by
  induction us with
  | nil => exact h.elim
  | cons t us ih =>
    cases us with
    | nil => exact ⟨[], by rw [show t = (4, []) from h]; rfl⟩
    | cons u us =>
      obtain ⟨pre, hp⟩ := ih h.2.2
      exact ⟨t :: pre, by rw [hp]; rfl⟩
theorem step_lt4 (r : List UInt8) (c n : Nat) (h : step r = .tok c n) : c < 4 := ((step_le r).2 c n h).2.2

theorem joinL_sep (c : Nat) (us : List KT) (hc : c ≠ 3) (h : Good us) : Sep (joinL (some c) us) := by
  cases us with
  | nil => exact .inl rfl
  | cons t us =>
    cases us with
    | nil =>
      rw [show t = (4, []) from h]
      exact .inl rfl
    | cons u us =>
      have h4 := step_lt4 _ _ _ h.1
      by_cases h3 : t.1 = 3
      · obtain ⟨hl, ht⟩ := step_kind3 t.2 t.2.length (by rw [← h3]; exact h.1)
        refine .inr ⟨10, joinL (some t.1) (u :: us), ?_, .inr rfl⟩
        have : t.2 = [10] := by rw [← hl, List.take_length] at ht; exact ht
        simp [joinL, sepOf, h3, this]
      · refine .inr ⟨32, t.2 ++ joinL (some t.1) (u :: us), ?_, .inl rfl⟩
        rw [joinL]
        simp only [sepOf, if_pos (show t.1 ≠ 4 ∧ t.1 ≠ 3 ∧ c ≠ 3 from ⟨by omega, h3, hc⟩)]
        rfl

theorem step_word (b : UInt8) (r : List UInt8) (c : Nat) (h : step (b :: r) = .tok c (b :: r).length) : b.toNat ≠ 35 := by
  intro h35; rw [step_hash' h35] at h; cases h
where step_hash' {b : UInt8} {r : List UInt8} (h : b.toNat = 35) : step (b :: r) = .skip (spanLen notLine (b :: r)) := by simp [step, h]

theorem lexA_text (t : List UInt8) (c : Nat) (R : List UInt8) (h0 : t ≠ []) (h : step t = .tok c t.length) (hR : c ≠ 3 → Sep R) : lexA (t ++ R) = (lexA R).map ((c, t) :: ·) := by
  have hst : step (t ++ R) = .tok c t.length := by
    cases t with
    | nil => exact absurd rfl h0
    | cons b r =>
      by_cases h3 : c = 3
      · subst h3
        obtain ⟨hl, ht⟩ := step_kind3 _ _ h
        have : b :: r = [10] := by rw [← hl, List.take_length] at ht; exact ht
        injection this with hb hr
        subst hb hr
        rfl
      · rw [step_append b r R (step_word b r c h) (hR h3)]; exact h
  rw [lexA_tok (by cases t <;> simp_all) hst]
  simp

theorem lexA_joinL (us : List KT) (h : Good us) : ∀ p, lexA (joinL p us) = some us := by
  induction us with
  | nil => exact h.elim
  | cons t us ih =>
    intro p
    have hsep : ∀ x, lexA (sepOf p t.1 ++ x) = lexA x := by
      intro x
      unfold sepOf
      split
      · rfl
      · split
        · exact lexA_skip (r := 32 :: x) (n := 1) (by simp) (by rfl)
        · rfl
    cases us with
    | nil =>
      have ht : t = (4, []) := h
      rw [joinL, List.append_assoc, hsep]
      subst ht
      rfl
    | cons u us =>
      rw [joinL, List.append_assoc, hsep, lexA_text t.2 t.1 _ h.2.1 h.1 (fun h3 => joinL_sep t.1 (u :: us) h3 h.2.2), ih h.2.2]
      rfl

/-! ### Line ends -/
def lineCount (us : List KT) : Nat := us.countP (fun t => t.1 == 3)
theorem count_span (p : UInt8 → Bool) (hp : ∀ c : UInt8, p c = true → c.toNat ≠ 10) (r : List UInt8) : (r.take (spanLen p r)).count 10 = 0 := by
  rw [List.count_eq_zero]
  intro h
  exact hp 10 (spanLen_take p r 10 h) rfl
theorem numLen_count (r : List UInt8) (n : Nat) (h : numLen r = some n) : (r.take n).count 10 = 0 := by
  rw [List.count_eq_zero]
  intro hm
  have hn := numLen_le r n h
  have hd : ∀ (y : List UInt8) (j : Nat), j ≤ spanLen isDigit y → (10 : UInt8) ∉ y.take j := by
    intro y j hj hc
    have h1 : (10 : UInt8) ∈ y.take (spanLen isDigit y) := by
      have : y.take j = (y.take (spanLen isDigit y)).take j := by rw [List.take_take, Nat.min_eq_left hj]
      rw [this] at hc
      exact List.mem_of_mem_take hc
    have := spanLen_take isDigit y 10 h1
    simp [isDigit] at this
  unfold numLen at h
  split at h
  · cases h
  · have ht := tailLen_le _ _ _ h
    have hml := minus_le r
    obtain ⟨e, he⟩ : ∃ e, minus r + spanLen isDigit (r.drop (minus r)) = e := ⟨_, rfl⟩
    rw [he] at h ht
    have hme : minus r ≤ e := by omega
    have e0 : r.take n = r.take (minus r) ++ ((r.drop (minus r)).take (e - minus r) ++ (r.drop e).take (n - e)) := by
      have a1 : r.take n = r.take e ++ (r.drop e).take (n - e) := by
        conv => lhs; rw [show n = e + (n - e) by omega, List.take_add]
      have a2 : r.take e = r.take (minus r) ++ (r.drop (minus r)).take (e - minus r) := by
        conv => lhs; rw [show e = minus r + (e - minus r) by omega, List.take_add]
      rw [a1, a2, List.append_assoc]
    rw [e0] at hm
    rcases List.mem_append.1 hm with hm | hm
    · cases r with
      | nil => simp at hm
      | cons b r' =>
        simp only [minus] at hm
        split at hm
        · rename_i hb
          simp only [List.take_succ_cons, List.take_zero, List.mem_singleton] at hm
          rw [← hm] at hb; exact absurd hb (by decide)
        · simp at hm
    · rcases List.mem_append.1 hm with hm | hm
      · exact hd _ _ (by omega) hm
      · cases hy : r.drop e with
        | nil => rw [hy] at hm; simp at hm
        | cons c r' =>
          rw [hy] at h hm
          simp only [tailLen] at h
          split at h
          · rename_i hc
            split at h
            · cases h
            · injection h with h
              obtain ⟨q, hq⟩ : ∃ q, n - e = q + 1 := ⟨n - e - 1, by omega⟩
              rw [hq, List.take_succ_cons] at hm
              rcases List.mem_cons.1 hm with hm | hm
              · rw [← hm] at hc; exact absurd hc (by decide)
              · exact hd r' q (by omega) hm
          · injection h with h
            rw [show n - e = 0 by omega] at hm
            simp at hm
theorem step_count (r : List UInt8) : (∀ n, step r = .skip n → (r.take n).count 10 = 0) ∧ (∀ c n, step r = .tok c n → (r.take n).count 10 = if c = 3 then 1 else 0) := by
  cases r with
  | nil => simp [step]
  | cons b r' =>
    simp only [step]
    constructor
    · intro n h
      split at h
      · injection h with h
        rw [← h]
        exact count_span notLine (by simp [notLine]) _
      split at h
      · rename_i hb
        injection h with h
        rw [← h]
        simp only [blank, decide_eq_true_eq] at hb
        have : b ≠ 10 := by rintro rfl; revert hb; decide
        simp [this]
      split at h
      · cases h
      split at h
      · cases h
      split at h
      · cases hn : numLen (b :: r') <;> simp [hn, Step.of] at h
      · cases hn : signIn signs (b :: r') <;> simp [hn, Step.of] at h
    · intro c n h
      split at h
      · cases h
      split at h
      · cases h
      split at h
      · rename_i hb
        injection h with h h'
        subst h h'
        rw [show b = 10 from UInt8.toNat_inj.1 hb]
        simp
      split at h
      · injection h with h h'
        subst h
        rw [← h']
        exact count_span isLetter (by simp [isLetter]; omega) _
      split at h
      · cases hn : numLen (b :: r') <;> simp only [hn, Step.of] at h
        · cases h
        · injection h with h h'
          subst h h'
          exact numLen_count _ _ hn
      · cases hn : signIn signs (b :: r') <;> simp only [hn, Step.of] at h
        · cases h
        · injection h with h h'
          subst h h'
          have := signIn_take _ _ _ hn
          have hall : ∀ w ∈ signs, w.count 10 = 0 := by decide
          exact hall _ this
theorem lexA_lines (r : List UInt8) (us : List KT) (h : lexA r = some us) : lineCount us = r.count 10 := by
  induction hn : r.length using Nat.strongRecOn generalizing r us with
  | ind n ih =>
    by_cases hr : r = []
    · subst hr; rw [lexA_nil] at h; injection h with h; subst h; rfl
    · have hs := step_le r
      have hcn := step_count r
      have hp := List.length_pos_iff.2 hr
      have hsplit : ∀ m, r.count 10 = (r.take m).count 10 + (r.drop m).count 10 := fun m => by rw [← List.count_append, List.take_append_drop]
      cases hst : step r with
      | bad => rw [lexA_bad hr hst] at h; cases h
      | skip m =>
        have := hs.1 m hst
        rw [lexA_skip hr hst] at h
        rw [hsplit m, hcn.1 m hst, ih (r.drop m).length (by simp; omega) _ _ h rfl]
        omega
      | tok c m =>
        have := hs.2 c m hst
        rw [lexA_tok hr hst] at h
        cases hl : lexA (r.drop m) with
        | none => rw [hl] at h; cases h
        | some vs =>
          rw [hl] at h
          injection h with h
          subst h
          rw [hsplit m, hcn.2 c m hst, ← ih (r.drop m).length (by simp; omega) _ _ hl rfl]
          simp only [lineCount, List.countP_cons, beq_iff_eq]
          split <;> omega

/-! ### Remarks at lines' ends -/
def joinS (sep : List UInt8) : List (List UInt8) → List UInt8
  | [] => []
  | [x] => x
  | x :: y :: xs => x ++ sep ++ joinS sep (y :: xs)
theorem lexA_ne (r : List UInt8) (us : List KT) (h : lexA r = some us) : us ≠ [] := by
  intro h0; subst h0; exact good_lexA r [] h
theorem lexA_split (x R : List UInt8) (hx : ∀ b ∈ x, b.toNat ≠ 35) (hR : Sep R) : lexA (x ++ R) = (lexA x).bind fun us => (lexA R).map (us.dropLast ++ ·) := by
  induction hn : x.length using Nat.strongRecOn generalizing x with
  | ind n ih =>
    cases hx0 : x with
    | nil => rw [lexA_nil]; simp
    | cons b r =>
      rw [← hx0]
      have hne : x ≠ [] := by rw [hx0]; simp
      have hne' : x ++ R ≠ [] := by rw [hx0]; simp
      have hs := step_le x
      have hp := List.length_pos_iff.2 hne
      have hst' : step (x ++ R) = step x := by rw [hx0]; exact step_append b r R (hx b (by rw [hx0]; exact List.mem_cons_self)) hR
      cases hst : step x with
      | bad =>
        rw [lexA_bad hne hst, lexA_bad hne' (hst'.trans hst)]; rfl
      | skip m =>
        have hm := hs.1 m hst
        rw [lexA_skip hne hst, lexA_skip hne' (hst'.trans hst), List.drop_append_of_le_length hm.2]
        exact ih _ (by simp; omega) (x.drop m) (fun c hc => hx c (List.mem_of_mem_drop hc)) rfl
      | tok c m =>
        have hm := hs.2 c m hst
        rw [lexA_tok hne hst, lexA_tok hne' (hst'.trans hst), List.drop_append_of_le_length hm.2.1, List.take_append_of_le_length hm.2.1,
          ih _ (by simp; omega) (x.drop m) (fun c hc => hx c (List.mem_of_mem_drop hc)) rfl]
        cases hl : lexA (x.drop m) with
        | none => rfl
        | some us =>
          have := lexA_ne _ _ hl
          obtain ⟨u, vs, rfl⟩ : ∃ u vs, us = u :: vs := by cases us with
            | nil => exact absurd rfl this
            | cons u vs => exact ⟨u, vs, rfl⟩
          cases hl2 : lexA R with
          | none => rfl
          | some ws => simp
theorem lexA_tail (remark rest : List UInt8) (hr : ∀ b ∈ remark, b.toNat ≠ 10) : lexA ([32, 9, 35] ++ remark ++ [10] ++ rest) = lexA ([10] ++ rest) := by
  have h1 : lexA ([32, 9, 35] ++ remark ++ [10] ++ rest) = lexA (9 :: 35 :: (remark ++ [10] ++ rest)) := by
    have := lexA_skip (r := 32 :: 9 :: 35 :: (remark ++ [10] ++ rest)) (n := 1) (by simp) rfl
    simpa using this
  have h2 : lexA (9 :: 35 :: (remark ++ [10] ++ rest)) = lexA (35 :: (remark ++ [10] ++ rest)) := lexA_skip (r := 9 :: 35 :: (remark ++ [10] ++ rest)) (n := 1) (by simp) rfl
  have hs : spanLen notLine (remark ++ [10] ++ rest) = remark.length := by
    rw [List.append_assoc, List.singleton_append]
    clear h1 h2
    induction remark with
    | nil => exact spanLen_cons_no (by decide)
    | cons b r ih =>
      rw [List.cons_append, spanLen_cons_yes (by simp [notLine]; exact hr b List.mem_cons_self), ih (fun c hc => hr c (List.mem_cons_of_mem _ hc))]
      rfl
  have hst : step (35 :: (remark ++ [10] ++ rest)) = .skip (remark.length + 1) := by
    have : step (35 :: (remark ++ [10] ++ rest)) = .skip (spanLen notLine (35 :: (remark ++ [10] ++ rest))) := by simp [step]
    rw [this, spanLen_cons_yes (by decide), hs]
  rw [h1, h2, lexA_skip (by simp) hst, List.drop_succ_cons, List.append_assoc, List.drop_left]
theorem lexA_remarks (remark : List UInt8) (hr : ∀ b ∈ remark, b.toNat ≠ 10) (lines : List (List UInt8)) (hl : ∀ x ∈ lines, ∀ b ∈ x, b.toNat ≠ 35) :
    lexA (joinS [10] lines) = lexA (joinS ([32, 9, 35] ++ remark ++ [10]) lines) := by
  induction lines with
  | nil => rfl
  | cons x xs ih =>
    cases xs with
    | nil => rfl
    | cons y ys =>
      have hx := hl x List.mem_cons_self
      have ih' := ih (fun z hz => hl z (List.mem_cons_of_mem _ hz))
      have e1 : lexA ([10] ++ joinS [10] (y :: ys)) = lexA ([10] ++ joinS ([32, 9, 35] ++ remark ++ [10]) (y :: ys)) := by
        rw [lexA_tok (r := [10] ++ joinS [10] (y :: ys)) (c := 3) (n := 1) (by simp) rfl, lexA_tok (r := [10] ++ joinS ([32, 9, 35] ++ remark ++ [10]) (y :: ys)) (c := 3) (n := 1) (by simp) rfl]
        simp only [List.singleton_append, List.drop_succ_cons, List.drop_zero, List.take_succ_cons, List.take_zero]
        rw [ih']
      simp only [joinS]
      rw [List.append_assoc, List.append_assoc x, lexA_split x ([10] ++ joinS [10] (y :: ys)) hx (.inr ⟨10, _, rfl, .inr rfl⟩), lexA_split x ([32, 9, 35] ++ remark ++ [10] ++ joinS ([32, 9, 35] ++ remark ++ [10]) (y :: ys)) hx (.inr ⟨32, _, rfl, .inl rfl⟩), e1, lexA_tail remark _ hr]
end Go.Proofs.YtokmbobfilljeaaDoor.Lx
