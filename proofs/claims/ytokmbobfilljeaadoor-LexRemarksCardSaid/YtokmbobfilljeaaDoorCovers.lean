/- The walk of the law LexCovers: it answers true, whatever the text. -/
import Derived.Test.YtokmbobfilljeaaDoorCuts
import Derived.Test.YtokmbobfilljeaaDoorCoversPlain
import Derived.Deep.QuietTactic
import Derived.BigQuiet
set_option linter.unusedVariables false
namespace Go.Proofs.YtokmbobfilljeaaDoor.Lx
open Go.RowKit Go.Proofs

theorem drop_tok (ts : List Tok) (i : Nat) (h : i < ts.length) : ts.drop i = ts[i] :: ts.drop (i + 1) := List.drop_eq_getElem_cons h
theorem at_get (ts : List Tok) (i : Nat) (h : i < ts.length) : kindAt ts i = ts[i].kind ∧ posAt ts i = ts[i].pos ∧ textAt ts i = ts[i].text := by
  simp [kindAt, posAt, textAt, h]

theorem own_max {w : World} {base n c : Nat} {A : Option Addr} {m : Nat} {e : TypeId} {size : Nat} {xs : List Value} (h : w.ownsRow base e size (.slice A m c) n xs) : n ≤ maxLen := by
  rcases h.2 with ⟨hv, hl⟩ | ⟨g, cap, cur, hv, hb, hh, h1, h2, _⟩
  · rw [hl]; exact Nat.zero_le _
  · exact Nat.le_trans h1 h2
theorem below_drewN' {B : Nat} {w W : World} (h : Below B w W) (n : Nat) : Below B w (W.drewN n) := ⟨h.os, h.tape, h.output, h.size, h.block⟩
theorem byte_nne (b : UInt8) (n : Int) (h : (b.toNat : Int) = n) : ((b.toNat : Int) != n) = false := by rw [h]; simp
theorem byte_nee (b : UInt8) (n : Int) (h : (b.toNat : Int) ≠ n) : ((b.toNat : Int) != n) = true := by simpa using h
theorem prefix_true (s : ByteArray) (Q : Nat) (X : ByteArray) (h : (s.data.toList.drop Q).take X.size = X.data.toList) (W : World) :
    Calls Tryd.prog 10 #[.string (s.extract Q s.size), .string X] W fun e w' => e = .returned (.bool true) ∧ w' = W := by
  have h1 := Tryd.strings_HasPrefix (s.extract Q s.size) X W
  rw [Lib.extract_to_end, show Lib.hasPrefix (s.data.toList.drop Q) X.data.toList = true from by
    rw [← h]; exact List.isPrefixOf_iff_prefix.2 (List.take_prefix _ _)] at h1
  exact h1
set_option maxHeartbeats 8000000 in
set_option maxRecDepth 100000 in
theorem covers_any (s : ByteArray) (hs : s.size ≤ 9223372036854775807) (w : World) (htab : Lib.TabIs Tryd.prog w "strings.asciiSpace" .u8 Lib.asciiSpaceTab) :
    Calls Tryd.prog 3 #[.string s] w fun e w' => e = .returned (.bool true) ∧ Below w.heap.size w w' := by
  have Htab := Lib.hid (Lib.tabBelow_of_tabIs htab)
  have Hc := Lib.hid (cuts_any w htab)
  clear htab
  by_cases h2000 : 2000 < s.size
  · have h2 : (2000 : Int) < (s.size : Int) := by omega
    go_enter Tryd.func3, Tryd.ntmps3
    go_wp2_with fail
    refine Hc.out.mono ?_
    rintro e w1 ⟨rfl, hB1⟩
    go_wp2
    go_ret
    exact ⟨rfl, hB1⟩
  · have h2 : ¬ (2000 : Int) < (s.size : Int) := by omega
    cases hl : lex 0 s.data.toList with
    | error k =>
      have hk := lex_err _ _ _ hl
      have hks : k < s.size := by have := hk.2; simp at this; omega
      have HL := Lib.hid hl
      clear hl hk
      go_enter Tryd.func3, Tryd.ntmps3
      go_wp2_with fail
      refine Hc.out.mono ?_
      rintro e w1 ⟨rfl, hB1⟩
      go_wp2_with fail
      refine (scan_any s (by omega) w1 (Htab.out _ hB1)).mono ?_
      rw [HL.out]
      rintro e w2 ⟨rfl, hB2⟩
      go_wp2
      go_ret
      exact ⟨rfl, (hB1.trans (hB2.mono hB1.size)).alloc (by have := hB1.size; have := hB2.size; omega) _⟩
    | ok ts =>
      have Hch := Lib.hid (lex_chain0 _ _ hl)
      have HL := Lib.hid hl
      clear hl
      go_enter Tryd.func3, Tryd.ntmps3
      go_wp2_with fail
      refine Hc.out.mono ?_
      rintro e w1 ⟨rfl, hB1⟩
      go_wp2_with fail
      refine (scan_any s (by omega) w1 (Htab.out _ hB1)).mono ?_
      rw [HL.out]
      rintro e w2 ⟨v, rfl, ho, hB2⟩
      obtain ⟨A, c, rfl⟩ := own_slice ho
      have Hrow := Lib.hid (TokRow.of_own ho).1
      have htl : ts.length ≤ 9223372036854775807 := by have := own_max ho; unfold maxLen at this; omega
      clear ho
      have hB3 := hB1.trans (hB2.mono hB1.size)
      go_wp2
      go_loopw [5, 46] (fun at_ ix wr => ∃ a i : Nat, at_ = .int .i64 a ∧ ix = .int .i64 i ∧ i ≤ ts.length ∧ a ≤ s.size ∧ Chain s.data.toList a (ts.drop i) ∧ Below w2.heap.size w2 wr) (fun _ ix _ => ts.length - (intOf ix).toNat)
      case atStart => exact ⟨0, 0, rfl, rfl, Nat.zero_le _, Nat.zero_le _, Hch.out, (Below.refl _ _).alloc (Nat.le_refl _) _⟩
      case round =>
        obtain ⟨a, i, rfl, rfl, hi, ha, hch, hBr⟩ := hrel
        by_cases hlt : i < ts.length
        · obtain ⟨g, rfl, hcells⟩ := Hrow.out.at_ hBr (by omega)
          obtain ⟨k0, k1, k2⟩ := hcells i hlt
          clear hcells
          rw [drop_tok ts i hlt] at hch
          obtain ⟨e1, e2, e3⟩ := at_get ts i hlt
          obtain ⟨c1, c2, c3, c4, c5, c6, c7, c8⟩ := hch
          rw [← e1] at c3 c4 c7
          rw [← e2] at c1 c2 c5 c6 c8
          rw [← e3] at c2 c4 c6 c7 c8
          clear e1 e2 e3
          obtain ⟨K, hK⟩ : ∃ K, kindAt ts i = K := ⟨_, rfl⟩
          obtain ⟨Q, hQ⟩ : ∃ Q, posAt ts i = Q := ⟨_, rfl⟩
          obtain ⟨X, hX⟩ : ∃ X : ByteArray, (⟨(textAt ts i).toArray⟩ : ByteArray) = X := ⟨_, rfl⟩
          have hXt : X.data.toList = textAt ts i := by rw [← hX]
          rw [hK] at k0 c3 c4 c7
          rw [hQ] at k1 c1 c2 c5 c6 c8
          rw [hX] at k2
          rw [← hXt] at c2 c4 c6 c7 c8
          rw [← Lib.size_eq] at c2 c6 c8
          rw [show s.data.toList.length = s.size from (Lib.size_eq s).symm] at c2
          have hlast : ts.drop (i + 1) = [] ↔ i = ts.length - 1 := by rw [List.drop_eq_nil_iff]; omega
          rw [hlast] at c3
          clear hlast hK hQ hX hXt
          obtain ⟨G, hG⟩ : ∃ G : ByteArray, s.extract a Q = G := ⟨_, rfl⟩
          have hGl : G.data.toList = (s.data.toList.drop a).take (Q - a) := by rw [← hG, Lib.extract_data]
          rw [← hGl] at c5
          have hGs : G.size ≤ 2000 := by rw [Lib.size_eq, hGl]; simp; omega
          have C5 := Lib.hid c5
          have C6 := Lib.hid c6
          have C7 := Lib.hid c7
          have C8 := Lib.hid c8
          have HG := Lib.hid hG
          have hQs : Q ≤ s.size := by omega
          clear c5 c6 c7 c8 hG hGl
          have q1 : ¬ (Q : Int) < (a : Int) := by omega
          have q2 : ¬ (s.size : Int) < (Q : Int) := by omega
          have HGs : Hid (Q - a = G.size) := Lib.hid (by rw [← HG.out]; simp; omega)
          have HP := Lib.hid (fun W => prefix_true s Q X C6.out W)
          by_cases hl : i = ts.length - 1
          · have q3 : ((K : Int) == 4) = true := by rw [c3.2 hl]; rfl
            have q4 : ((i : Int) == (ts.length : Int) - 1) = true := by simp; omega
            have q5 : ((K : Int) != 4) = false := by rw [c3.2 hl]; rfl
            have q6 : ((K : Int) == 3) = false := by rw [c3.2 hl]; rfl
            clear c3 c4 hl
            go_wp2_with fail
            simp only [HG.out, HGs.out]
            go_loop [9, 90] (fun r ix => ∃ (m : Nat) (rem : Bool), ix = .int .i64 m ∧ r = .bool rem ∧ m ≤ G.size ∧ gapOk rem (G.data.toList.drop m) = true) (fun _ ix => G.size - (intOf ix).toNat)
            case atStart => exact ⟨0, false, rfl, rfl, Nat.zero_le _, C5.out⟩
            case round =>
              obtain ⟨m, rem, rfl, rfl, hm, hg⟩ := hrel
              by_cases hml : m < G.size
              · rw [drop_cons G m hml] at hg
                have h10 : G[m].toNat ≠ 10 := by intro h; simp [gapOk, h] at hg
                have b10 := byte_ne G[m] 10 (by omega)
                by_cases h35 : G[m].toNat = 35
                · have b35 := byte_eq G[m] 35 (by omega)
                  have Hg : Hid (gapOk true (G.data.toList.drop (m + 1)) = true) := Lib.hid (by simpa [gapOk, h35] using hg)
                  clear hg h10 h35
                  go_wp2
                  go_round
                  case rel => exact ⟨m + 1, true, by go_num, rfl, by omega, Hg.out⟩
                  case measure => simp [intOf]; omega
                · have b35 := byte_ne G[m] 35 (by omega)
                  simp only [gapOk, if_neg h10, if_neg h35] at hg
                  cases rem
                  · by_cases hbl : blank G[m] = true
                    · have Hg : Hid (gapOk false (G.data.toList.drop (m + 1)) = true) := Lib.hid (by simpa [hbl] using hg)
                      simp only [blank, decide_eq_true_eq] at hbl
                      clear hg
                      by_cases h32 : G[m].toNat = 32
                      · have b32 := byte_nne G[m] 32 (by omega)
                        clear h10 h35 hbl h32
                        go_wp2
                        go_round
                        case rel => exact ⟨m + 1, false, by go_num, rfl, by omega, Hg.out⟩
                        case measure => simp [intOf]; omega
                      · have b32 := byte_nee G[m] 32 (by omega)
                        by_cases h9 : G[m].toNat = 9
                        · have b9 := byte_nne G[m] 9 (by omega)
                          clear h10 h35 hbl h32 h9
                          go_wp2
                          go_round
                          case rel => exact ⟨m + 1, false, by go_num, rfl, by omega, Hg.out⟩
                          case measure => simp [intOf]; omega
                        · have b9 := byte_nee G[m] 9 (by omega)
                          have b13 := byte_nne G[m] 13 (by omega)
                          clear h10 h35 hbl h32 h9
                          go_wp2
                          go_round
                          case rel => exact ⟨m + 1, false, by go_num, rfl, by omega, Hg.out⟩
                          case measure => simp [intOf]; omega
                    · exfalso
                      simp [hbl] at hg
                  · have Hg : Hid (gapOk true (G.data.toList.drop (m + 1)) = true) := Lib.hid (by simpa using hg)
                    clear hg h10 h35
                    go_wp2
                    go_round
                    case rel => exact ⟨m + 1, true, by go_num, rfl, by omega, Hg.out⟩
                    case measure => simp [intOf]; omega
              · clear hg
                go_wp2
                go_quiet ((go_at_call 10; exact Calls.quiet_of_same (HP.out _)))
                go_wp2
                go_roundw
                case rel => exact ⟨Q + X.size, i + 1, by go_num, by go_num, by omega, by omega, C8.out, by have h := hBr.alloc hBr.size (.cells #[.int .i64 K, .int .i64 Q, .string X] 30); first | exact below_drewN' h _ | exact h⟩
                case measure => simp [intOf]; omega
          · have hK4 : K ≠ 4 := fun h => hl (c3.1 h)
            have q3 : ((K : Int) == 4) = false := by rw [beq_eq_false_iff_ne]; omega
            have q4 : ((i : Int) == (ts.length : Int) - 1) = false := by rw [beq_eq_false_iff_ne]; omega
            have q5 : ((K : Int) != 4) = true := by simp; omega
            have q7 : X.toList.isEmpty = false := by rw [Lib.toList_data]; simpa using c4 hK4
            by_cases h3 : K = 3
            · have q6 : ((K : Int) == 3) = true := by rw [h3]; rfl
              have q8 : (X.toList == [10]) = true := by rw [Lib.toList_data, C7.out h3]; rfl
              have q9 : (X.toList != [10]) = false := by rw [Lib.toList_data, C7.out h3]; rfl
              clear c3 c4 hl h3 hK4
              go_wp2_with fail
              simp only [HG.out, HGs.out]
              go_loop [9, 90] (fun r ix => ∃ (m : Nat) (rem : Bool), ix = .int .i64 m ∧ r = .bool rem ∧ m ≤ G.size ∧ gapOk rem (G.data.toList.drop m) = true) (fun _ ix => G.size - (intOf ix).toNat)
              case atStart => exact ⟨0, false, rfl, rfl, Nat.zero_le _, C5.out⟩
              case round =>
                obtain ⟨m, rem, rfl, rfl, hm, hg⟩ := hrel
                by_cases hml : m < G.size
                · rw [drop_cons G m hml] at hg
                  have h10 : G[m].toNat ≠ 10 := by intro h; simp [gapOk, h] at hg
                  have b10 := byte_ne G[m] 10 (by omega)
                  by_cases h35 : G[m].toNat = 35
                  · have b35 := byte_eq G[m] 35 (by omega)
                    have Hg : Hid (gapOk true (G.data.toList.drop (m + 1)) = true) := Lib.hid (by simpa [gapOk, h35] using hg)
                    clear hg h10 h35
                    go_wp2
                    go_round
                    case rel => exact ⟨m + 1, true, by go_num, rfl, by omega, Hg.out⟩
                    case measure => simp [intOf]; omega
                  · have b35 := byte_ne G[m] 35 (by omega)
                    simp only [gapOk, if_neg h10, if_neg h35] at hg
                    cases rem
                    · by_cases hbl : blank G[m] = true
                      · have Hg : Hid (gapOk false (G.data.toList.drop (m + 1)) = true) := Lib.hid (by simpa [hbl] using hg)
                        simp only [blank, decide_eq_true_eq] at hbl
                        clear hg
                        by_cases h32 : G[m].toNat = 32
                        · have b32 := byte_nne G[m] 32 (by omega)
                          clear h10 h35 hbl h32
                          go_wp2
                          go_round
                          case rel => exact ⟨m + 1, false, by go_num, rfl, by omega, Hg.out⟩
                          case measure => simp [intOf]; omega
                        · have b32 := byte_nee G[m] 32 (by omega)
                          by_cases h9 : G[m].toNat = 9
                          · have b9 := byte_nne G[m] 9 (by omega)
                            clear h10 h35 hbl h32 h9
                            go_wp2
                            go_round
                            case rel => exact ⟨m + 1, false, by go_num, rfl, by omega, Hg.out⟩
                            case measure => simp [intOf]; omega
                          · have b9 := byte_nee G[m] 9 (by omega)
                            have b13 := byte_nne G[m] 13 (by omega)
                            clear h10 h35 hbl h32 h9
                            go_wp2
                            go_round
                            case rel => exact ⟨m + 1, false, by go_num, rfl, by omega, Hg.out⟩
                            case measure => simp [intOf]; omega
                      · exfalso
                        simp [hbl] at hg
                    · have Hg : Hid (gapOk true (G.data.toList.drop (m + 1)) = true) := Lib.hid (by simpa using hg)
                      clear hg h10 h35
                      go_wp2
                      go_round
                      case rel => exact ⟨m + 1, true, by go_num, rfl, by omega, Hg.out⟩
                      case measure => simp [intOf]; omega
                · clear hg
                  go_wp2
                  go_quiet ((go_at_call 10; exact Calls.quiet_of_same (HP.out _)))
                  go_wp2
                  go_roundw
                  case rel => exact ⟨Q + X.size, i + 1, by go_num, by go_num, by omega, by omega, C8.out, by have h := hBr.alloc hBr.size (.cells #[.int .i64 K, .int .i64 Q, .string X] 30); first | exact below_drewN' h _ | exact h⟩
                  case measure => simp [intOf]; omega
            · have q6 : ((K : Int) == 3) = false := by rw [beq_eq_false_iff_ne]; omega
              clear c3 c4 hl h3 hK4
              go_wp2_with fail
              simp only [HG.out, HGs.out]
              go_loop [9, 90] (fun r ix => ∃ (m : Nat) (rem : Bool), ix = .int .i64 m ∧ r = .bool rem ∧ m ≤ G.size ∧ gapOk rem (G.data.toList.drop m) = true) (fun _ ix => G.size - (intOf ix).toNat)
              case atStart => exact ⟨0, false, rfl, rfl, Nat.zero_le _, C5.out⟩
              case round =>
                obtain ⟨m, rem, rfl, rfl, hm, hg⟩ := hrel
                by_cases hml : m < G.size
                · rw [drop_cons G m hml] at hg
                  have h10 : G[m].toNat ≠ 10 := by intro h; simp [gapOk, h] at hg
                  have b10 := byte_ne G[m] 10 (by omega)
                  by_cases h35 : G[m].toNat = 35
                  · have b35 := byte_eq G[m] 35 (by omega)
                    have Hg : Hid (gapOk true (G.data.toList.drop (m + 1)) = true) := Lib.hid (by simpa [gapOk, h35] using hg)
                    clear hg h10 h35
                    go_wp2
                    go_round
                    case rel => exact ⟨m + 1, true, by go_num, rfl, by omega, Hg.out⟩
                    case measure => simp [intOf]; omega
                  · have b35 := byte_ne G[m] 35 (by omega)
                    simp only [gapOk, if_neg h10, if_neg h35] at hg
                    cases rem
                    · by_cases hbl : blank G[m] = true
                      · have Hg : Hid (gapOk false (G.data.toList.drop (m + 1)) = true) := Lib.hid (by simpa [hbl] using hg)
                        simp only [blank, decide_eq_true_eq] at hbl
                        clear hg
                        by_cases h32 : G[m].toNat = 32
                        · have b32 := byte_nne G[m] 32 (by omega)
                          clear h10 h35 hbl h32
                          go_wp2
                          go_round
                          case rel => exact ⟨m + 1, false, by go_num, rfl, by omega, Hg.out⟩
                          case measure => simp [intOf]; omega
                        · have b32 := byte_nee G[m] 32 (by omega)
                          by_cases h9 : G[m].toNat = 9
                          · have b9 := byte_nne G[m] 9 (by omega)
                            clear h10 h35 hbl h32 h9
                            go_wp2
                            go_round
                            case rel => exact ⟨m + 1, false, by go_num, rfl, by omega, Hg.out⟩
                            case measure => simp [intOf]; omega
                          · have b9 := byte_nee G[m] 9 (by omega)
                            have b13 := byte_nne G[m] 13 (by omega)
                            clear h10 h35 hbl h32 h9
                            go_wp2
                            go_round
                            case rel => exact ⟨m + 1, false, by go_num, rfl, by omega, Hg.out⟩
                            case measure => simp [intOf]; omega
                      · exfalso
                        simp [hbl] at hg
                    · have Hg : Hid (gapOk true (G.data.toList.drop (m + 1)) = true) := Lib.hid (by simpa using hg)
                      clear hg h10 h35
                      go_wp2
                      go_round
                      case rel => exact ⟨m + 1, true, by go_num, rfl, by omega, Hg.out⟩
                      case measure => simp [intOf]; omega
                · clear hg
                  go_wp2
                  go_quiet ((go_at_call 10; exact Calls.quiet_of_same (HP.out _)))
                  go_wp2
                  go_roundw
                  case rel => exact ⟨Q + X.size, i + 1, by go_num, by go_num, by omega, by omega, C8.out, by have h := hBr.alloc hBr.size (.cells #[.int .i64 K, .int .i64 Q, .string X] 30); first | exact below_drewN' h _ | exact h⟩
                  case measure => simp [intOf]; omega
        · have ha' : a = s.size := by
            have h := hch
            rw [show ts.drop i = [] from List.drop_eq_nil_of_le (by omega)] at h
            simpa [Chain, ← Lib.size_eq] using h
          have q9 : ((a : Int) == (s.size : Int)) = true := by simp; omega
          clear hch ha'
          go_wp2
          go_ret
          exact ⟨rfl, (hB3.trans (hBr.mono hB3.size))⟩
        end Go.Proofs.YtokmbobfilljeaaDoor.Lx
