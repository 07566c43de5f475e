/- The walk of the law LexLines: it answers true, whatever the text. -/
import Derived.Test.YtokmbobfilljeaaDoorBack
set_option linter.unusedVariables false
namespace Go.Proofs.YtokmbobfilljeaaDoor.Lx
open Go.RowKit Go.Proofs

def lineTo (ts : List Tok) : Nat → Nat
  | 0 => 0
  | n + 1 => lineTo ts n + if kindAt ts n = 3 then 1 else 0
theorem lineTo_le (ts : List Tok) (n : Nat) : lineTo ts n ≤ n := by
  induction n with
  | zero => simp [lineTo]
  | succ n ih => simp only [lineTo]; split <;> omega
theorem lineTo_take (ts : List Tok) (n : Nat) (h : n ≤ ts.length) : lineTo ts n = lineCount ((ts.take n).map kt) := by
  induction n with
  | zero => simp [lineTo, lineCount]
  | succ n ih =>
    obtain ⟨e1, _, _⟩ := at_get ts n (by omega)
    rw [lineTo, ih (by omega), List.take_succ_eq_append_getElem (by omega : n < ts.length)]
    simp only [lineCount, List.map_append, List.countP_append, List.map_cons, List.map_nil, List.countP_singleton, kt, ← e1, beq_iff_eq]
theorem lines_facts (l : List UInt8) (ts : List Tok) (h : lex 0 l = .ok ts) : lineTo ts ts.length = l.count 10 ∧ lineTo ts ts.length = (joinTo ts ts.length).count 10 := by
  have h0 := lexA_ok h
  have hb := lexA_joinL _ (good_lexA l _ h0) none
  rw [← joinTo_joinL] at hb
  rw [lineTo_take ts _ (Nat.le_refl _), List.take_length]
  exact ⟨lexA_lines _ _ h0, lexA_lines _ _ hb⟩

set_option maxHeartbeats 8000000 in
set_option maxRecDepth 100000 in
theorem lines_any (s : ByteArray) (hs : s.size ≤ 9223372036854775807) (w : World) (htab : Lib.TabIs Tryd.prog w "strings.asciiSpace" .u8 Lib.asciiSpaceTab) :
    Calls Tryd.prog 6 #[.string s] w fun e w' => e = .returned (.bool true) ∧ Below w.heap.size w w' := by
  have Htab := Lib.hid (Lib.tabBelow_of_tabIs htab)
  have Hc := Lib.hid (cuts_any w htab)
  clear htab
  by_cases h2000 : 2000 < s.size
  · have h2 : (2000 : Int) < (s.size : Int) := by omega
    go_enter Tryd.func6, Tryd.ntmps6
    go_wp2_with fail
    refine Hc.out.mono ?_
    rintro e w1 ⟨rfl, hB1⟩
    go_wp2
    go_ret
    exact ⟨rfl, hB1⟩
  · have h2 : ¬ (2000 : Int) < (s.size : Int) := by omega
    cases hl : lex 0 s.data.toList with
    | error k =>
      have HL := Lib.hid hl
      clear hl
      go_enter Tryd.func6, Tryd.ntmps6
      go_wp2_with fail
      refine Hc.out.mono ?_
      rintro e w1 ⟨rfl, hB1⟩
      go_wp2_with fail
      refine (scan_any s (by omega) w1 (Htab.out _ hB1)).mono ?_
      rw [HL.out]
      rintro e w2 ⟨rfl, hB2⟩
      go_wp2
      go_ret
      exact ⟨rfl, (hB1.trans (hB2.mono hB1.size)).alloc (by have := hB1.size; have := hB2.size; omega) _⟩
    | ok ts =>
      have hch := lex_chain0 _ _ hl
      obtain ⟨hz1, hz2, hz3⟩ := chain_size _ _ hch
      rw [show s.data.toList.length = s.size from (Lib.size_eq s).symm] at hz1 hz2 hz3
      obtain ⟨hn1, hn2⟩ := lines_facts _ _ hl
      obtain ⟨M, hM⟩ : ∃ M, lineTo ts ts.length = M := ⟨_, rfl⟩
      rw [hM] at hn1 hn2
      have HL := Lib.hid hl
      have HM := Lib.hid hM
      have Hz3 := Lib.hid hz3
      have Hl := Lib.hid (lineTo_le ts)
      obtain ⟨J, hJ⟩ : ∃ J : ByteArray, (⟨(joinTo ts ts.length).toArray⟩ : ByteArray) = J := ⟨_, rfl⟩
      have hJl : J.data.toList = joinTo ts ts.length := by rw [← hJ]
      have hc1 : ∀ W, Calls Tryd.prog 13 #[.string s, .string ⟨#[10]⟩] W fun e w' => e = .returned (.int .i64 M) ∧ w' = W := fun W => by
        have h := Tryd.strings_Count_one s 10 W
        rw [show Lib.countByte s.data.toList 10 = M from hn1.symm] at h
        exact h
      have hc2 : ∀ W, Calls Tryd.prog 13 #[.string J, .string ⟨#[10]⟩] W fun e w' => e = .returned (.int .i64 M) ∧ w' = W := fun W => by
        have h := Tryd.strings_Count_one J 10 W
        rw [show Lib.countByte J.data.toList 10 = M from by rw [hJl]; exact hn2.symm] at h
        exact h
      have HJ := Lib.hid hJ
      have Hc1 := Lib.hid hc1
      have Hc2 := Lib.hid hc2
      clear hl hM hz3 hch hJ hJl hz1 hc1 hc2 hn1 hn2
      go_enter Tryd.func6, Tryd.ntmps6
      go_wp2_with fail
      refine Hc.out.mono ?_
      rintro e w1 ⟨rfl, hB1⟩
      go_wp2_with fail
      refine (scan_any s (by omega) w1 (Htab.out _ hB1)).mono ?_
      rw [HL.out]
      rintro e w2 ⟨v, rfl, ho, hB2⟩
      obtain ⟨A, c, rfl⟩ := own_slice ho
      have hrow := (TokRow.of_own ho).1
      clear ho
      have hB3 := hB1.trans (hB2.mono hB1.size)
      have Hrow := Lib.hid hrow
      clear hrow
      go_wp2
      go_loopw [5, 23] (fun n ix wr => ∃ i : Nat, n = .int .i64 (lineTo ts i) ∧ ix = .int .i64 i ∧ i ≤ ts.length ∧ Below w2.heap.size w2 wr) (fun _ ix _ => ts.length - (intOf ix).toNat)
      case atStart => exact ⟨0, rfl, rfl, Nat.zero_le _, (Below.refl _ _).alloc (Nat.le_refl _) _⟩
      case round =>
        obtain ⟨i, rfl, rfl, hi, hBr⟩ := hrel
        by_cases hlt : i < ts.length
        · obtain ⟨g, rfl, hcells⟩ := Hrow.out.at_ hBr (by omega)
          obtain ⟨k0, k1, k2⟩ := hcells i hlt
          clear hcells
          have hle := Hl.out i
          have Hst : Hid (lineTo ts (i + 1) = lineTo ts i + if kindAt ts i = 3 then 1 else 0) := Lib.hid rfl
          obtain ⟨K, hK⟩ : ∃ K, kindAt ts i = K := ⟨_, rfl⟩
          obtain ⟨n, hn⟩ : ∃ n, lineTo ts i = n := ⟨_, rfl⟩
          obtain ⟨X, hX⟩ : ∃ X : ByteArray, (⟨(textAt ts i).toArray⟩ : ByteArray) = X := ⟨_, rfl⟩
          obtain ⟨Q, hQ⟩ : ∃ Q, posAt ts i = Q := ⟨_, rfl⟩
          rw [hK, hn] at Hst
          rw [hK] at k0
          rw [hX] at k2
          rw [hQ] at k1
          rw [hn] at hle ⊢
          clear hK hX hQ hn
          by_cases h3 : K = 3
          · have q1 : ((K : Int) == 3) = true := by rw [h3]; rfl
            have Hs2 : Hid (lineTo ts (i + 1) = n + 1) := Lib.hid (by rw [Hst.out, if_pos h3])
            clear h3
            go_wp2
            go_roundw
            case rel => exact ⟨i + 1, by rw [Hs2.out]; go_num, by go_num, by omega, hBr.alloc hBr.size _⟩
            case measure => simp [intOf]; omega
          · have q1 : ((K : Int) == 3) = false := by rw [beq_eq_false_iff_ne]; omega
            have Hs2 : Hid (lineTo ts (i + 1) = n) := Lib.hid (by rw [Hst.out, if_neg h3]; rfl)
            clear h3
            go_wp2
            go_roundw
            case rel => exact ⟨i + 1, by rw [Hs2.out], by go_num, by omega, hBr.alloc hBr.size _⟩
            case measure => simp [intOf]; omega
        · obtain rfl : i = ts.length := by omega
          rw [HM.out]
          have q1 : ((M : Int) == (M : Int)) = true := by simp
          have hj := join_any A c 2000 ts _ (Hrow.out.below hBr) (by have := Nat.mul_le_mul_right 2001 (show ts.length ≤ 2001 by omega); omega) (fun i => Nat.le_trans (Hz3.out i) (by omega))
          rw [HJ.out] at hj
          have Hj := Lib.hid hj
          clear hj
          go_wp2_with fail
          refine (Hc1.out _).mono ?_
          rintro e w' ⟨rfl, rfl⟩
          go_wp2_with fail
          refine Hj.out.mono ?_
          rintro e w3 ⟨rfl, hB5⟩
          go_wp2_with fail
          refine (Hc2.out _).mono ?_
          rintro e w' ⟨rfl, rfl⟩
          go_wp2
          go_ret
          exact ⟨rfl, (hB3.trans (hBr.mono hB3.size)).trans (hB5.mono (by have := hB3.size; have := hBr.size; omega))⟩
end Go.Proofs.YtokmbobfilljeaaDoor.Lx
