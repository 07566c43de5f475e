/- The plain law of the lexer: how a text is cut into tokens, as a function on lists of bytes; no program in sight. -/
namespace Go.Proofs.YtokmbobfilljeaaDoor.Lx

def isDigit (b : UInt8) : Bool := decide (48 ≤ b.toNat ∧ b.toNat ≤ 57)
def isLetter (b : UInt8) : Bool := decide ((97 ≤ b.toNat ∧ b.toNat ≤ 122) ∨ (65 ≤ b.toNat ∧ b.toNat ≤ 90))
def notLine (b : UInt8) : Bool := decide (b.toNat ≠ 10)
def blank (b : UInt8) : Bool := decide (b.toNat = 32 ∨ b.toNat = 9 ∨ b.toNat = 13)

def spanLen (p : UInt8 → Bool) (r : List UInt8) : Nat := (r.takeWhile p).length

theorem spanLen_cons_yes {p : UInt8 → Bool} {b : UInt8} {r : List UInt8} (h : p b = true) : spanLen p (b :: r) = spanLen p r + 1 := by
  simp [spanLen, h]
theorem spanLen_cons_no {p : UInt8 → Bool} {b : UInt8} {r : List UInt8} (h : p b = false) : spanLen p (b :: r) = 0 := by
  simp [spanLen, h]
theorem spanLen_nil {p : UInt8 → Bool} : spanLen p [] = 0 := rfl
theorem spanLen_le (p : UInt8 → Bool) (r : List UInt8) : spanLen p r ≤ r.length := by
  induction r with
  | nil => simp [spanLen]
  | cons b r ih => cases h : p b <;> simp [spanLen_cons_yes, spanLen_cons_no, h, ih]

/-- The signs, the longer ones first. -/
def signs : List (List UInt8) := [[62, 61], [60, 61], [91], [93], [44], [59], [43], [61]]

def signIn : List (List UInt8) → List UInt8 → Option Nat
  | [], _ => none
  | w :: ws, r => if w.isPrefixOf r then some w.length else signIn ws r

/-- How long the number is with which a text begins. -/
def minus (r : List UInt8) : Nat := match r with
  | b :: _ => if b.toNat = 45 then 1 else 0
  | [] => 0
def tailLen (e : Nat) (r : List UInt8) : Option Nat := match r with
  | c :: r' => if c.toNat = 46 ∨ c.toNat = 47 then (if spanLen isDigit r' = 0 then none else some (e + 1 + spanLen isDigit r')) else some e
  | [] => some e
def numLen (r : List UInt8) : Option Nat :=
  if spanLen isDigit (r.drop (minus r)) = 0 then none
  else tailLen (minus r + spanLen isDigit (r.drop (minus r))) (r.drop (minus r + spanLen isDigit (r.drop (minus r))))

inductive Step where
  | skip (n : Nat)
  | tok (kind n : Nat)
  | bad

def Step.of (kind : Nat) : Option Nat → Step
  | none => .bad
  | some n => .tok kind n

def step (r : List UInt8) : Step := match r with
  | [] => .bad
  | b :: r' =>
    if b.toNat = 35 then .skip (spanLen notLine (b :: r'))
    else if blank b then .skip 1
    else if b.toNat = 10 then .tok 3 1
    else if isLetter b then .tok 0 (spanLen isLetter (b :: r'))
    else if b.toNat = 45 ∨ isDigit b = true then Step.of 1 (numLen (b :: r'))
    else Step.of 2 (signIn signs (b :: r'))

structure Tok where
  kind : Nat
  pos : Nat
  text : List UInt8

/-- A text's tokens from a place on; or where no token begins. -/
def lexF : Nat → Nat → List UInt8 → Except Nat (List Tok)
  | 0, k, _ => .error k
  | f + 1, k, r =>
    if r = [] then .ok [⟨4, k, []⟩]
    else match step r with
      | .skip n => lexF f (k + n) (r.drop n)
      | .tok c n => (lexF f (k + n) (r.drop n)).map (⟨c, k, r.take n⟩ :: ·)
      | .bad => .error k
def lex (k : Nat) (r : List UInt8) : Except Nat (List Tok) := lexF (r.length + 1) k r

/-! how far a step goes -/
theorem signIn_le (ws : List (List UInt8)) (r : List UInt8) (n : Nat) (hw : ∀ w ∈ ws, w ≠ []) (h : signIn ws r = some n) : 0 < n ∧ n ≤ r.length := by
  induction ws with
  | nil => simp [signIn] at h
  | cons w ws ih =>
    simp only [signIn] at h
    split at h
    · rename_i hp
      injection h with h
      subst h
      have := (List.isPrefixOf_iff_prefix.1 hp).length_le
      have := List.length_pos_iff.2 (hw w List.mem_cons_self)
      omega
    · exact ih (fun v hv => hw v (List.mem_cons_of_mem _ hv)) h
theorem tailLen_le (e : Nat) (r : List UInt8) (n : Nat) (h : tailLen e r = some n) : e ≤ n ∧ n ≤ e + r.length := by
  unfold tailLen at h
  split at h
  · rename_i c r'
    have := spanLen_le isDigit r'
    split at h
    · split at h
      · cases h
      · injection h with h; simp; omega
    · injection h with h; simp; omega
  · injection h with h; simp; omega
theorem minus_le (r : List UInt8) : minus r ≤ r.length := by
  unfold minus; split
  · split <;> simp
  · simp
theorem numLen_le (r : List UInt8) (n : Nat) (h : numLen r = some n) : 0 < n ∧ n ≤ r.length := by
  unfold numLen at h
  split at h
  · cases h
  · have h1 := tailLen_le _ _ _ h
    have h2 := spanLen_le isDigit (r.drop (minus r))
    have h3 := minus_le r
    simp only [List.length_drop] at h1 h2
    omega
theorem step_le (r : List UInt8) : (∀ n, step r = .skip n → 0 < n ∧ n ≤ r.length) ∧ (∀ c n, step r = .tok c n → 0 < n ∧ n ≤ r.length ∧ c < 4) := by
  cases r with
  | nil => simp [step]
  | cons b r' =>
    simp only [step]
    constructor
    · intro n h
      split at h
      · rename_i hb
        injection h with h
        have := spanLen_le notLine (b :: r')
        have h1 : notLine b = true := by simp [notLine, hb]
        rw [spanLen_cons_yes h1] at h this
        omega
      split at h
      · injection h with h; simp; omega
      split at h
      · cases h
      split at h
      · cases h
      split at h
      · cases hn : numLen (b :: r') <;> simp [hn, Step.of] at h
      · cases hn : signIn signs (b :: r') <;> simp [hn, Step.of] at h
    · intro c n h
      split at h
      · cases h
      split at h
      · cases h
      split at h
      · injection h with h h'; simp; omega
      split at h
      · rename_i hb
        injection h with h h'
        have := spanLen_le isLetter (b :: r')
        rw [spanLen_cons_yes hb] at h' this
        omega
      split at h
      · cases hn : numLen (b :: r') <;> simp only [hn, Step.of] at h
        · cases h
        · injection h with h h'
          have := numLen_le _ _ hn
          omega
      · cases hn : signIn signs (b :: r') <;> simp only [hn, Step.of] at h
        · cases h
        · injection h with h h'
          have := signIn_le _ _ _ (by decide) hn
          omega

/-! rounds enough -/
theorem lexF_same (f : Nat) : ∀ (g k : Nat) (r : List UInt8), r.length < f → r.length < g → lexF f k r = lexF g k r := by
  induction f with
  | zero => intro g k r h; omega
  | succ f ih =>
    intro g k r h hg
    obtain ⟨g, rfl⟩ : ∃ m, g = m + 1 := ⟨g - 1, by omega⟩
    simp only [lexF]
    split
    · rfl
    · rename_i hr
      have hp := List.length_pos_iff.2 hr
      have hs := step_le r
      cases hst : step r with
      | bad => rfl
      | skip n =>
        have h1 := hs.1 n hst
        exact ih g _ _ (by simp; omega) (by simp; omega)
      | tok c n =>
        have h1 := hs.2 c n hst
        dsimp only
        rw [ih g _ _ (by simp; omega) (by simp; omega)]
theorem lex_nil (k : Nat) : lex k [] = .ok [⟨4, k, []⟩] := rfl
theorem lex_unfold {k : Nat} {r : List UInt8} (hr : r ≠ []) : lex k r = (match step r with
      | .skip n => lex (k + n) (r.drop n)
      | .tok c n => (lex (k + n) (r.drop n)).map (⟨c, k, r.take n⟩ :: ·)
      | .bad => .error k) := by
  have hs := step_le r
  have hp := List.length_pos_iff.2 hr
  conv => lhs; unfold lex
  simp only [lexF, if_neg hr]
  cases hst : step r with
  | bad => rfl
  | skip n =>
    have h1 := hs.1 n hst
    exact lexF_same _ _ _ _ (by simp; omega) (by simp)
  | tok c n =>
    have h1 := hs.2 c n hst
    dsimp only
    unfold lex
    rw [lexF_same r.length ((r.drop n).length + 1) _ _ (by simp; omega) (by simp)]
theorem lex_skip {k n : Nat} {r : List UInt8} (hr : r ≠ []) (h : step r = .skip n) : lex k r = lex (k + n) (r.drop n) := by
  rw [lex_unfold hr, h]
theorem lex_tok {k c n : Nat} {r : List UInt8} (hr : r ≠ []) (h : step r = .tok c n) : lex k r = (lex (k + n) (r.drop n)).map (⟨c, k, r.take n⟩ :: ·) := by
  rw [lex_unfold hr, h]
theorem lex_bad {k : Nat} {r : List UInt8} (hr : r ≠ []) (h : step r = .bad) : lex k r = .error k := by
  rw [lex_unfold hr, h]

/-- What has been cut, ahead of what is cut of the rest. -/
def ahead (pre : List Tok) (e : Except Nat (List Tok)) : Except Nat (List Tok) := e.map (pre ++ ·)
theorem ahead_nil (e : Except Nat (List Tok)) : ahead [] e = e := by cases e <;> rfl
theorem ahead_tok (pre : List Tok) (t : Tok) (e : Except Nat (List Tok)) : ahead pre (e.map (t :: ·)) = ahead (pre ++ [t]) e := by
  cases e <;> simp [ahead, Except.map]
end Go.Proofs.YtokmbobfilljeaaDoor.Lx
