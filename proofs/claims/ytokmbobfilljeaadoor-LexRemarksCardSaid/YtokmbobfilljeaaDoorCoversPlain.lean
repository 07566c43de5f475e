/- The plain law behind LexCovers: a text's tokens stand one behind the other, and between them there are blanks and remarks alone. -/
import Derived.Test.YtokmbobfilljeaaDoorPlain
namespace Go.Proofs.YtokmbobfilljeaaDoor.Lx

def gapOk : Bool → List UInt8 → Bool
  | _, [] => true
  | rem, b :: g => if b.toNat = 10 then false else if b.toNat = 35 then gapOk true g else if !rem && !blank b then false else gapOk rem g

theorem gapOk_blanks (g r : List UInt8) (h : ∀ b ∈ g, blank b = true) : gapOk false (g ++ r) = gapOk false r := by
  induction g with
  | nil => rfl
  | cons b g ih =>
    have hb := h b List.mem_cons_self
    have hb' := hb
    simp only [blank, decide_eq_true_eq] at hb'
    have h1 : ¬ b.toNat = 10 := by omega
    have h2 : ¬ b.toNat = 35 := by omega
    simp only [List.cons_append, gapOk, if_neg h1, if_neg h2, hb, Bool.not_true, Bool.and_false, Bool.false_eq_true, if_false]
    exact ih (fun c hc => h c (List.mem_cons_of_mem _ hc))
theorem gapOk_notLine (g : List UInt8) (h : ∀ b ∈ g, notLine b = true) : gapOk true g = true := by
  induction g with
  | nil => rfl
  | cons b g ih =>
    have hb := h b List.mem_cons_self
    simp only [notLine, decide_eq_true_eq] at hb
    simp only [gapOk, if_neg hb, Bool.not_true, Bool.false_and, Bool.false_eq_true, if_false, ite_self]
    exact ih (fun c hc => h c (List.mem_cons_of_mem _ hc))

theorem spanLen_take (p : UInt8 → Bool) (r : List UInt8) : ∀ b ∈ r.take (spanLen p r), p b = true := by
  induction r with
  | nil => simp
  | cons c r ih =>
    cases h : p c
    · rw [spanLen_cons_no h]; simp
    · rw [spanLen_cons_yes h, List.take_succ_cons]
      intro b hb
      rcases List.mem_cons.1 hb with rfl | hb
      · exact h
      · exact ih b hb
theorem spanLen_next (p : UInt8 → Bool) (r : List UInt8) : ∀ b, (r.drop (spanLen p r)).head? = some b → p b = false := by
  induction r with
  | nil => simp
  | cons c r ih =>
    cases h : p c
    · rw [spanLen_cons_no h]; intro b hb; simp at hb; subst hb; exact h
    · rw [spanLen_cons_yes h, List.drop_succ_cons]; exact ih

/-- What lies between two tokens so far. -/
def Gp (l : List UInt8) (a k : Nat) : Prop :=
  gapOk false ((l.drop a).take (k - a)) = true ∧ ((∀ b ∈ (l.drop a).take (k - a), blank b = true) ∨ (l.drop k).head? = none ∨ ∃ b, (l.drop k).head? = some b ∧ b.toNat = 10)

def Chain (l : List UInt8) : Nat → List Tok → Prop
  | a, [] => a = l.length
  | a, t :: ts => a ≤ t.pos ∧ t.pos + t.text.length ≤ l.length ∧ (t.kind = 4 ↔ ts = []) ∧ (t.kind ≠ 4 → t.text ≠ []) ∧ gapOk false ((l.drop a).take (t.pos - a)) = true ∧ (l.drop t.pos).take t.text.length = t.text ∧ (t.kind = 3 → t.text = [10]) ∧ Chain l (t.pos + t.text.length) ts

theorem take_more (l : List UInt8) (a k n : Nat) (h : a ≤ k) : (l.drop a).take (k + n - a) = (l.drop a).take (k - a) ++ (l.drop k).take n := by
  rw [show k + n - a = (k - a) + n by omega, List.take_add, List.drop_drop, show a + (k - a) = k by omega]

theorem step_kind3 (r : List UInt8) (n : Nat) (h : step r = .tok 3 n) : n = 1 ∧ r.take 1 = [10] := by
  cases r with
  | nil => simp [step] at h
  | cons b r' =>
    simp only [step] at h
    split at h
    · cases h
    split at h
    · cases h
    split at h
    · rename_i hb
      injection h with _ h
      refine ⟨h.symm, ?_⟩
      simp only [List.take_succ_cons, List.take_zero]
      rw [show b = 10 from UInt8.toNat_inj.1 hb]
    split at h
    · injection h with h; cases h
    split at h
    · cases hn : numLen (b :: r') <;> simp [hn, Step.of] at h
    · cases hn : signIn signs (b :: r') <;> simp [hn, Step.of] at h

theorem lex_ne_nil (k : Nat) (r : List UInt8) (ts : List Tok) (h : lex k r = .ok ts) : ts ≠ [] := by
  induction hn : r.length using Nat.strongRecOn generalizing k r ts with
  | ind n ih =>
    by_cases hr : r = []
    · subst hr; rw [lex_nil] at h; injection h with h; subst h; simp
    · have hs := step_le r
      have hp := List.length_pos_iff.2 hr
      cases hst : step r with
      | bad => rw [lex_bad hr hst] at h; cases h
      | skip m =>
        have := hs.1 m hst
        rw [lex_skip hr hst] at h
        exact ih (r.drop m).length (by simp; omega) _ _ _ h rfl
      | tok c m =>
        rw [lex_tok hr hst] at h
        cases hl : lex (k + m) (r.drop m) with
        | error e => rw [hl] at h; cases h
        | ok us => rw [hl] at h; injection h with h; subst h; simp

theorem lex_chain (l : List UInt8) (k : Nat) (ts : List Tok) (hk : k ≤ l.length) (h : lex k (l.drop k) = .ok ts) (a : Nat) (ha : a ≤ k) (hg : Gp l a k) : Chain l a ts := by
  induction hn : l.length - k using Nat.strongRecOn generalizing k ts a with
  | ind n ih =>
    by_cases hr : l.drop k = []
    · have hkl : k = l.length := by
        have := List.drop_eq_nil_iff.1 hr; omega
      rw [hr, lex_nil] at h
      injection h with h
      subst h
      exact ⟨ha, by simp; omega, by simp, by simp, hg.1, by simp, by simp, by simp [Chain, hkl]⟩
    · have hs := step_le (l.drop k)
      have hp := List.length_pos_iff.2 hr
      simp only [List.length_drop] at hs hp
      cases hst : step (l.drop k) with
      | bad => rw [lex_bad hr hst] at h; cases h
      | skip m =>
        have hm := hs.1 m hst
        rw [lex_skip hr hst, List.drop_drop] at h
        refine ih (l.length - (k + m)) (by omega) (k + m) ts (by omega) h a (by omega) ?_ rfl
        obtain ⟨b, r', hb⟩ : ∃ b r', l.drop k = b :: r' := by cases hd : l.drop k with
          | nil => exact absurd hd hr
          | cons b r' => exact ⟨b, r', rfl⟩
        have hst' := hst
        rw [hb] at hst'
        simp only [step] at hst'
        split at hst'
        · rename_i h35
          injection hst' with hm'
          have hall : ∀ b ∈ (l.drop a).take (k - a), blank b = true := by
            rcases hg.2 with h1 | h1 | ⟨c, h1, h2⟩
            · exact h1
            · rw [hb] at h1; simp at h1
            · rw [hb] at h1; simp at h1; subst h1; omega
          have htk := spanLen_take notLine (b :: r')
          have hnx := spanLen_next notLine (b :: r')
          rw [hm', ← hb] at htk hnx
          refine ⟨?_, ?_⟩
          · rw [take_more l a k m ha, gapOk_blanks _ _ hall]
            have hbm : (l.drop k).take m = b :: r'.take (m - 1) := by
              rw [hb]; obtain ⟨q, rfl⟩ : ∃ q, m = q + 1 := ⟨m - 1, by omega⟩; simp
            rw [hbm] at htk ⊢
            simp only [gapOk, h35, if_neg (show ¬ (35 : Nat) = 10 by omega), if_true]
            exact gapOk_notLine _ (fun c hc => htk c (List.mem_cons_of_mem _ hc))
          · right
            rw [List.drop_drop] at hnx
            cases hd : (l.drop (k + m)).head? with
            | none => exact .inl rfl
            | some c =>
              have := hnx c hd
              simp only [notLine, decide_eq_false_iff_not, Decidable.not_not] at this
              exact .inr ⟨c, rfl, this⟩
        split at hst'
        · rename_i h35 hbl
          injection hst' with hm'
          subst hm'
          have hall : ∀ b ∈ (l.drop a).take (k - a), blank b = true := by
            rcases hg.2 with h1 | h1 | ⟨c, h1, h2⟩
            · exact h1
            · rw [hb] at h1; simp at h1
            · rw [hb] at h1; simp at h1; subst h1; simp only [blank, decide_eq_true_eq] at hbl; omega
          have hall' : ∀ c ∈ (l.drop a).take (k + 1 - a), blank c = true := by
            rw [take_more l a k 1 ha, hb]
            intro c hc
            rcases List.mem_append.1 hc with hc | hc
            · exact hall c hc
            · simp at hc; subst hc; exact hbl
          refine ⟨?_, .inl hall'⟩
          have := gapOk_blanks _ [] hall'
          simpa [gapOk] using this
        split at hst'
        · cases hst'
        split at hst'
        · cases hst'
        split at hst'
        · cases hn : numLen (b :: r') <;> simp [hn, Step.of] at hst'
        · cases hn : signIn signs (b :: r') <;> simp [hn, Step.of] at hst'
      | tok c m =>
        have hm := hs.2 c m hst
        rw [lex_tok hr hst, List.drop_drop] at h
        cases hl : lex (k + m) (l.drop (k + m)) with
        | error e => rw [hl] at h; cases h
        | ok us =>
          rw [hl] at h
          injection h with h
          subst h
          have hlen : ((l.drop k).take m).length = m := by simp; omega
          refine ⟨ha, by simp only [hlen]; omega, ⟨fun h4 => by simp only at h4; omega, fun h0 => absurd h0 (lex_ne_nil _ _ _ hl)⟩, fun _ h0 => ?_, hg.1, by simp only [hlen], fun h3 => ?_, ?_⟩
          · simp only at h0; rw [h0] at hlen; simp at hlen; omega
          · simp only at h3; subst h3
            obtain ⟨rfl, h10⟩ := step_kind3 _ _ hst
            exact h10
          · simp only [hlen]
            exact ih (l.length - (k + m)) (by omega) (k + m) us (by omega) hl (k + m) (Nat.le_refl _) ⟨by simp [gapOk], .inl (by simp)⟩ rfl

theorem lex_chain0 (l : List UInt8) (ts : List Tok) (h : lex 0 l = .ok ts) : Chain l 0 ts :=
  lex_chain l 0 ts (Nat.zero_le _) (by simpa using h) 0 (Nat.le_refl _) ⟨by simp [gapOk], .inl (by simp)⟩

theorem lex_err (k : Nat) (r : List UInt8) (e : Nat) (h : lex k r = .error e) : k ≤ e ∧ e < k + r.length := by
  induction hn : r.length using Nat.strongRecOn generalizing k r with
  | ind n ih =>
    by_cases hr : r = []
    · subst hr; rw [lex_nil] at h; cases h
    · have hs := step_le r
      have hp := List.length_pos_iff.2 hr
      cases hst : step r with
      | bad => rw [lex_bad hr hst] at h; injection h with h; omega
      | skip m =>
        have := hs.1 m hst
        rw [lex_skip hr hst] at h
        have := ih (r.drop m).length (by simp; omega) _ _ h rfl
        simp at this
        omega
      | tok c m =>
        have := hs.2 c m hst
        rw [lex_tok hr hst] at h
        cases hl : lex (k + m) (r.drop m) with
        | ok us => rw [hl] at h; cases h
        | error e' =>
          rw [hl] at h; injection h with h; subst h
          have := ih (r.drop m).length (by simp; omega) _ _ hl rfl
          simp at this
          omega
end Go.Proofs.YtokmbobfilljeaaDoor.Lx
