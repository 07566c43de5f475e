/- The walk of the law LexBack: it answers true, whatever the text. -/
import Derived.Test.YtokmbobfilljeaaDoorCovers
import Derived.Test.YtokmbobfilljeaaDoorBackPlain
set_option linter.unusedVariables false
namespace Go.Proofs.YtokmbobfilljeaaDoor.Lx
open Go.RowKit Go.Proofs

/-! how joinTo and joinL agree, and how long the text is -/
theorem kindAt_map (ts : List Tok) (n : Nat) : kindAt ts n = ((ts.map kt)[n]?.map (·.1)).getD 9 := by
  simp only [kindAt, List.getElem?_map, Option.map_map]; rfl
theorem textAt_map (ts : List Tok) (n : Nat) : textAt ts n = ((ts.map kt)[n]?.map (·.2)).getD [] := by
  simp only [textAt, List.getElem?_map, Option.map_map]; rfl
def prevOf (ts : List Tok) : Nat → Option Nat
  | 0 => none
  | n + 1 => some (kindAt ts n)
theorem joinTo_rest (ts : List Tok) (n : Nat) (h : n ≤ ts.length) : joinTo ts n ++ joinL (prevOf ts n) ((ts.drop n).map kt) = joinL none (ts.map kt) := by
  induction n with
  | zero => rfl
  | succ n ih =>
    rw [← ih (by omega), drop_tok ts n (by omega), List.map_cons, joinL, joinTo]
    obtain ⟨e1, _, e3⟩ := at_get ts n (by omega)
    have hs : (if sepB ts n then [32] else []) = sepOf (prevOf ts n) (kt ts[n]).1 := by
      cases n with
      | zero => simp [sepB, prevOf, sepOf]
      | succ m =>
        simp only [sepB, prevOf, sepOf, kt, ← e1, Nat.add_sub_cancel]
        by_cases h1 : kindAt ts (m + 1) = 4 <;> by_cases h2 : kindAt ts (m + 1) = 3 <;> by_cases h3 : kindAt ts m = 3 <;> simp [h1, h2, h3]
    rw [hs, e3]
    simp only [prevOf, e1, kt, List.append_assoc]
theorem joinTo_joinL (ts : List Tok) : joinTo ts ts.length = joinL none (ts.map kt) := by
  have h := joinTo_rest ts ts.length (Nat.le_refl _)
  rw [← h, List.drop_length]
  simp [joinL]
def sumTo (ts : List Tok) : Nat → Nat
  | 0 => 0
  | n + 1 => sumTo ts n + (textAt ts n).length
theorem joinTo_sum (ts : List Tok) (n : Nat) : (joinTo ts n).length ≤ sumTo ts n + n := by
  induction n with
  | zero => simp [joinTo, sumTo]
  | succ n ih =>
    simp only [joinTo, sumTo, List.length_append]
    have : (if sepB ts n then ([32] : List UInt8) else []).length ≤ 1 := by split <;> simp
    omega
theorem chain_from (l : List UInt8) (ts : List Tok) (n : Nat) (h : Chain l 0 ts) (hn : n ≤ ts.length) : ∃ a, Chain l a (ts.drop n) ∧ sumTo ts n ≤ a ∧ a ≤ l.length ∧ (n ≤ a ∨ n = ts.length ∧ n ≤ a + 1) := by
  induction n with
  | zero => exact ⟨0, h, Nat.le_refl _, Nat.zero_le _, .inl (Nat.le_refl _)⟩
  | succ n ih =>
    obtain ⟨a, hc, hs, hal, hna⟩ := ih (by omega)
    rw [drop_tok ts n (by omega)] at hc
    obtain ⟨_, _, e3⟩ := at_get ts n (by omega)
    obtain ⟨e1, _, _⟩ := at_get ts n (by omega)
    obtain ⟨c1, c2, c3, c4, _, _, _, c8⟩ := hc
    refine ⟨_, c8, ?_, c2, ?_⟩
    · simp only [sumTo, e3]; omega
    · by_cases hl : ts.drop (n + 1) = []
      · have := List.drop_eq_nil_iff.1 hl
        right; refine ⟨by omega, ?_⟩; omega
      · have h4 : ts[n].kind ≠ 4 := fun h4 => hl (c3.1 h4)
        have := List.length_pos_iff.2 (c4 h4)
        left; omega
theorem chain_size (l : List UInt8) (ts : List Tok) (h : Chain l 0 ts) : (joinTo ts ts.length).length ≤ 2 * l.length + 1 ∧ ts.length ≤ l.length + 1 ∧ ∀ i, (textAt ts i).length ≤ l.length := by
  obtain ⟨a, _, h1, h2, h3⟩ := chain_from l ts ts.length h (Nat.le_refl _)
  refine ⟨Nat.le_trans (joinTo_sum ts _) (by omega), by omega, fun i => ?_⟩
  by_cases hi : i < ts.length
  · obtain ⟨b, _, g1, g2, _⟩ := chain_from l ts (i + 1) h (by omega)
    simp only [sumTo] at g1; omega
  · simp [textAt, List.getElem?_eq_none (by omega : ts.length ≤ i)]
/-- There and back: the joined text is cut into as many tokens, of the same kinds and texts. -/
theorem back_lex (l : List UInt8) (ts : List Tok) (h : lex 0 l = .ok ts) : ∃ us, lex 0 (joinTo ts ts.length) = .ok us ∧ us.length = ts.length ∧ (∀ i, kindAt us i = kindAt ts i) ∧ ∀ i, textAt us i = textAt ts i := by
  have hg := good_lexA l _ (lexA_ok h)
  have hb := lexA_joinL _ hg none
  rw [← joinTo_joinL] at hb
  cases hl : lex 0 (joinTo ts ts.length) with
  | error e => rw [lexA_err hl] at hb; cases hb
  | ok us =>
    rw [lexA_ok hl] at hb
    injection hb with hb
    refine ⟨us, rfl, by have := congrArg List.length hb; simpa using this, fun i => by rw [kindAt_map, kindAt_map, hb], fun i => by rw [textAt_map, textAt_map, hb]⟩

set_option maxHeartbeats 8000000 in
set_option maxRecDepth 100000 in
theorem back_any (s : ByteArray) (hs : s.size ≤ 9223372036854775807) (w : World) (htab : Lib.TabIs Tryd.prog w "strings.asciiSpace" .u8 Lib.asciiSpaceTab) :
    Calls Tryd.prog 4 #[.string s] w fun e w' => e = .returned (.bool true) ∧ Below w.heap.size w w' := by
  have Htab := Lib.hid (Lib.tabBelow_of_tabIs htab)
  have Hc := Lib.hid (cuts_any w htab)
  clear htab
  by_cases h2000 : 2000 < s.size
  · have h2 : (2000 : Int) < (s.size : Int) := by omega
    go_enter Tryd.func4, Tryd.ntmps4
    go_wp2_with fail
    refine Hc.out.mono ?_
    rintro e w1 ⟨rfl, hB1⟩
    go_wp2
    go_ret
    exact ⟨rfl, hB1⟩
  · have h2 : ¬ (2000 : Int) < (s.size : Int) := by omega
    cases hl : lex 0 s.data.toList with
    | error k =>
      have HL := Lib.hid hl
      clear hl
      go_enter Tryd.func4, Tryd.ntmps4
      go_wp2_with fail
      refine Hc.out.mono ?_
      rintro e w1 ⟨rfl, hB1⟩
      go_wp2_with fail
      refine (scan_any s (by omega) w1 (Htab.out _ hB1)).mono ?_
      rw [HL.out]
      rintro e w2 ⟨rfl, hB2⟩
      go_wp2
      go_ret
      exact ⟨rfl, (hB1.trans (hB2.mono hB1.size)).alloc (by have := hB1.size; have := hB2.size; omega) _⟩
    | ok ts =>
      have hch := lex_chain0 _ _ hl
      obtain ⟨hz1, hz2, hz3⟩ := chain_size _ _ hch
      rw [show s.data.toList.length = s.size from (Lib.size_eq s).symm] at hz1 hz2 hz3
      obtain ⟨us, hus, hul, huk, hut⟩ := back_lex _ _ hl
      have HL := Lib.hid hl
      have Hus := Lib.hid hus
      have Hul := Lib.hid hul
      have Huk := Lib.hid huk
      have Hut := Lib.hid hut
      have Hz3 := Lib.hid hz3
      clear hl hus hul huk hut hz3 hch
      obtain ⟨J, hJ⟩ : ∃ J : ByteArray, (⟨(joinTo ts ts.length).toArray⟩ : ByteArray) = J := ⟨_, rfl⟩
      have hJl : J.data.toList = joinTo ts ts.length := by rw [← hJ]
      have hJs : J.size ≤ 16000 := by rw [Lib.size_eq, hJl]; omega
      have HJ := Lib.hid hJ
      have HJl := Lib.hid hJl
      clear hJ hJl hz1
      go_enter Tryd.func4, Tryd.ntmps4
      go_wp2_with fail
      refine Hc.out.mono ?_
      rintro e w1 ⟨rfl, hB1⟩
      go_wp2_with fail
      refine (scan_any s (by omega) w1 (Htab.out _ hB1)).mono ?_
      rw [HL.out]
      rintro e w2 ⟨v, rfl, ho, hB2⟩
      obtain ⟨A, c, rfl⟩ := own_slice ho
      have hrow := (TokRow.of_own ho).1
      clear ho
      have hB3 := hB1.trans (hB2.mono hB1.size)
      have hB4 := (Below.refl w2.heap.size w2).alloc (Nat.le_refl _) (.cells #[.int .i64 0, .int .i64 0] 26)
      have hj := join_any A c 2000 ts _ (hrow.below hB4) (by have := Nat.mul_le_mul_right 2001 (show ts.length ≤ 2001 by omega); omega) (fun i => Nat.le_trans (Hz3.out i) (by omega))
      rw [HJ.out] at hj
      have Hj := Lib.hid hj
      have Hrow := Lib.hid hrow
      clear hj hrow
      go_wp2_with fail
      refine Hj.out.mono ?_
      rintro e w3 ⟨rfl, hB5⟩
      have hB6 : Below w2.heap.size w2 w3 := hB4.trans (hB5.mono (by simp))
      go_wp2_with fail
      refine (scan_any J hJs w3 (Htab.out _ (hB3.trans (hB6.mono hB3.size)))).mono ?_
      rw [HJl.out, Hus.out]
      rintro e w4 ⟨v, rfl, ho, hB7⟩
      obtain ⟨A', c', rfl⟩ := own_slice ho
      have Hrow' := Lib.hid (TokRow.of_own ho).1
      clear ho
      rw [Hul.out]
      have hB8 : Below w2.heap.size w2 w4 := hB6.trans (hB7.mono hB6.size)
      have hlen : (((ts.length : Nat) : Int) != ((ts.length : Nat) : Int)) = false := by simp
      go_wp2
      go_loopw [39] (fun ix wr => ∃ i : Nat, ix = .int .i64 i ∧ i ≤ ts.length ∧ Below w4.heap.size w4 wr) (fun ix _ => ts.length - (intOf ix).toNat)
      case atStart => exact ⟨0, rfl, Nat.zero_le _, (Below.refl _ _).alloc (Nat.le_refl _) _⟩
      case round =>
        obtain ⟨i, rfl, hi, hBr⟩ := hrel
        by_cases hlt : i < ts.length
        · obtain ⟨g, rfl, hcells⟩ := Hrow.out.at_ (hB8.trans (hBr.mono hB8.size)) (by omega)
          obtain ⟨k0, _, k2⟩ := hcells i hlt
          clear hcells
          obtain ⟨g', rfl, hcells⟩ := Hrow'.out.at_ hBr (by rw [Hul.out]; omega)
          obtain ⟨j0, _, j2⟩ := hcells i (by rw [Hul.out]; exact hlt)
          clear hcells
          rw [Huk.out] at j0
          rw [Hut.out] at j2
          obtain ⟨K, hK⟩ : ∃ K, kindAt ts i = K := ⟨_, rfl⟩
          obtain ⟨X, hX⟩ : ∃ X : ByteArray, (⟨(textAt ts i).toArray⟩ : ByteArray) = X := ⟨_, rfl⟩
          rw [hK] at k0 j0
          rw [hX] at k2 j2
          clear hK hX
          have q1 : ((K : Int) != (K : Int)) = false := by simp
          have q2 : (X.toList != X.toList) = false := by simp
          go_wp2
          go_quiet (fail)
          go_wp2
          go_roundw
          case rel => exact ⟨i + 1, by go_num, by omega, by first | exact below_drewN' hBr _ | exact hBr⟩
          case measure => simp [intOf]; omega
        · go_wp2
          go_ret
          exact ⟨rfl, (hB3.trans (hB8.mono hB3.size)).trans (hBr.mono (by have := hB3.size; have := hB8.size; omega))⟩
end Go.Proofs.YtokmbobfilljeaaDoor.Lx
