/- The walk of the law LexRemarks: it answers true, whatever the lines and the remark. -/
import Derived.Test.YtokmbobfilljeaaDoorBack
import Derived.Lib.IndexLaws
set_option linter.unusedVariables false
set_option linter.unusedSimpArgs false
namespace Go.Proofs.YtokmbobfilljeaaDoor.Lx
open Go.RowKit Go.Proofs

theorem joinS_join (sep : List UInt8) (xs : List (List UInt8)) : Lib.join xs sep = joinS sep xs := by
  induction xs with
  | nil => rfl
  | cons x xs ih =>
    cases xs with
    | nil => exact Lib.join_one x sep
    | cons y ys =>
      have h : Lib.join (x :: y :: ys) sep = x ++ sep ++ Lib.join (y :: ys) sep := by simp [Lib.join, List.intercalate]
      rw [h, ih]; rfl
theorem joinS_len (sep : List UInt8) (M : Nat) (xs : List (List UInt8)) (h : ∀ x ∈ xs, x.length ≤ M) : (joinS sep xs).length ≤ xs.length * (M + sep.length) := by
  induction xs with
  | nil => simp [joinS]
  | cons x xs ih =>
    have hx := h x List.mem_cons_self
    cases xs with
    | nil => simp [joinS]; omega
    | cons y ys =>
      have := ih (fun z hz => h z (List.mem_cons_of_mem _ hz))
      rw [joinS, List.length_append, List.length_append, List.length_cons, Nat.succ_mul]
      omega
theorem contains_false (l : List UInt8) (c : UInt8) (h : decide (0 ≤ Lib.indexByte l c) = false) : ∀ b ∈ l, b ≠ c := by
  intro b hb hc
  subst hc
  have h1 := Lib.indexByte_ge l b
  have h2 : Lib.indexByte l b = -1 := by simp at h; omega
  obtain ⟨k, hk⟩ := List.getElem?_of_mem hb
  exact Lib.indexByte_none h2 k hk

/-- A row of strings that can be read. -/
def StrRow (w : World) (A : Option Addr) (Ls : List ByteArray) : Prop :=
  0 < Ls.length → ∃ b off, A = some ⟨b, off, none⟩ ∧ b < w.heap.size ∧ ∀ j x, Ls[j]? = some x → w.cell? ⟨b, off + j, none⟩ = some (.string x)
theorem StrRow.below {w w' : World} {A : Option Addr} {Ls : List ByteArray} (h : StrRow w A Ls) (hB : Below w.heap.size w w') : StrRow w' A Ls := fun h0 => by
  obtain ⟨b, off, rfl, hb, hc⟩ := h h0
  exact ⟨b, off, rfl, Nat.lt_of_lt_of_le hb hB.size, fun j x hj => (hB.cell (p := ⟨b, off + j, none⟩) hb).trans (hc j x hj)⟩
theorem join_str (w : World) (A : Option Addr) (c : Nat) (Ls : List ByteArray) (sep : ByteArray) (h : StrRow w A Ls) (hN : Ls.length ≤ 50) (hc : Ls.length ≤ c) (hlen : (joinS sep.data.toList (Ls.map (·.data.toList))).length ≤ 16000) :
    Calls Tryd.prog 15 #[.slice A Ls.length c, .string sep] w fun e w' => e = .returned (.string ⟨(joinS sep.data.toList (Ls.map (·.data.toList))).toArray⟩) ∧ Below w.heap.size w w' := by
  cases Ls with
  | nil =>
    refine (Tryd.strings_Join_none A c sep w).mono ?_
    rintro e w' ⟨rfl, rfl⟩
    exact ⟨rfl, Below.refl _ _⟩
  | cons x xs =>
    obtain ⟨b, off, rfl, hb, hcells⟩ := h (by simp)
    have := Tryd.strings_Join b off c (x :: xs) sep w hcells hb (by omega) hc (by rw [joinS_join]; omega)
    rw [joinS_join] at this
    exact this

theorem remarks_lex (Ls : List ByteArray) (R : ByteArray) (hR : ∀ b ∈ R.data.toList, b ≠ 10) (hL : ∀ x ∈ Ls, ∀ b ∈ x.data.toList, b ≠ 35) :
    lexA (joinS [10] (Ls.map (·.data.toList))) = lexA (joinS ([32, 9, 35] ++ R.data.toList ++ [10]) (Ls.map (·.data.toList))) :=
  lexA_remarks _ (fun b hb h => hR b hb (UInt8.toNat_inj.1 h)) _ (fun x hx b hb h => by
    obtain ⟨X, hX, rfl⟩ := List.mem_map.1 hx
    exact hL X hX b hb (UInt8.toNat_inj.1 h))

/-- What the two cuts have in common. -/
theorem two_cuts (S T : ByteArray) (h : lexA S.data.toList = lexA T.data.toList) :
    (∃ k j, lex 0 S.data.toList = .error k ∧ lex 0 T.data.toList = .error j) ∨
    (∃ ts us, lex 0 S.data.toList = .ok ts ∧ lex 0 T.data.toList = .ok us ∧ us.length = ts.length ∧ (∀ i, kindAt us i = kindAt ts i) ∧ ∀ i, textAt us i = textAt ts i) := by
  cases h1 : lex 0 S.data.toList with
  | error k =>
    cases h2 : lex 0 T.data.toList with
    | error j => exact .inl ⟨k, j, rfl, rfl⟩
    | ok us => rw [lexA_err h1, lexA_ok h2] at h; cases h
  | ok ts =>
    cases h2 : lex 0 T.data.toList with
    | error j => rw [lexA_ok h1, lexA_err h2] at h; cases h
    | ok us =>
      rw [lexA_ok h1, lexA_ok h2] at h
      injection h with hb
      exact .inr ⟨ts, us, rfl, rfl, by have := congrArg List.length hb; simpa using this.symm, fun i => by rw [kindAt_map, kindAt_map, hb], fun i => by rw [textAt_map, textAt_map, hb]⟩

theorem contains_any (s : ByteArray) (c : UInt8) (v : Bool) (h : decide (0 ≤ Lib.indexByte s.data.toList c) = v) (W : World) : Calls Tryd.prog 14 #[.string s, .string ⟨#[c]⟩] W fun e w' => e = .returned (.bool v) ∧ w' = W := by
  have := Tryd.strings_Contains_one s c W
  rw [h] at this
  exact this

set_option maxHeartbeats 16000000 in
set_option maxRecDepth 100000 in
theorem remarks_any (A : Option Addr) (c : Nat) (Ls : List ByteArray) (R : ByteArray) (w : World) (hrow : StrRow w A Ls) (hc : Ls.length ≤ c) (hn : Ls.length ≤ 9223372036854775807) (hRs : R.size ≤ 9223372036854775807) (hLs : ∀ x ∈ Ls, x.size ≤ 9223372036854775807)
    (htab : Lib.TabIs Tryd.prog w "strings.asciiSpace" .u8 Lib.asciiSpaceTab) :
    Calls Tryd.prog 7 #[.slice A Ls.length c, .string R] w fun e w' => e = .returned (.bool true) ∧ Below w.heap.size w w' := by
  have Htab := Lib.hid (Lib.tabBelow_of_tabIs htab)
  have Hc := Lib.hid (cuts_any w htab)
  have Hrow := Lib.hid hrow
  have HLs := Lib.hid hLs
  clear htab hrow hLs
  by_cases hn50 : 50 < Ls.length
  · have q1 : (50 : Int) < (Ls.length : Int) := by omega
    go_enter Tryd.func7, Tryd.ntmps7
    go_wp2_with fail
    refine Hc.out.mono ?_
    rintro e w1 ⟨rfl, hB1⟩
    go_wp2
    go_ret
    exact ⟨rfl, hB1⟩
  have q1 : ¬ (50 : Int) < (Ls.length : Int) := by omega
  by_cases hr100 : 100 < R.size
  · have q2 : (100 : Int) < (R.size : Int) := by omega
    go_enter Tryd.func7, Tryd.ntmps7
    go_wp2_with fail
    refine Hc.out.mono ?_
    rintro e w1 ⟨rfl, hB1⟩
    go_wp2
    go_ret
    exact ⟨rfl, hB1⟩
  have q2 : ¬ (100 : Int) < (R.size : Int) := by omega
  cases hrc : decide (0 ≤ Lib.indexByte R.data.toList 10) with
  | true =>
    have HC1 := Lib.hid (contains_any R 10 true hrc)
    clear hrc
    go_enter Tryd.func7, Tryd.ntmps7
    go_wp2_with fail
    refine Hc.out.mono ?_
    rintro e w1 ⟨rfl, hB1⟩
    go_wp2_with fail
    refine (HC1.out _).mono ?_
    rintro e w' ⟨rfl, rfl⟩
    go_wp2
    go_ret
    exact ⟨rfl, hB1⟩
  | false =>
    have HC1 := Lib.hid (contains_any R 10 false hrc)
    have HR := Lib.hid (contains_false _ _ hrc)
    clear hrc
    go_enter Tryd.func7, Tryd.ntmps7
    go_wp2_with fail
    refine Hc.out.mono ?_
    rintro e w1 ⟨rfl, hB1⟩
    go_wp2_with fail
    refine (HC1.out _).mono ?_
    rintro e w' ⟨rfl, rfl⟩
    go_wp2
    go_loop [28] (fun ix => ∃ i : Nat, ix = .int .i64 i ∧ i ≤ Ls.length ∧ ∀ j x, j < i → Ls[j]? = some x → x.size ≤ 100 ∧ ∀ b ∈ x.data.toList, b ≠ 35) (fun ix => Ls.length - (intOf ix).toNat)
    case atStart => exact ⟨0, rfl, Nat.zero_le _, fun j x h => absurd h (by omega)⟩
    case round =>
      obtain ⟨i, rfl, hi, hall⟩ := hrel
      have Hall := Lib.hid hall
      clear hall
      by_cases hlt : i < Ls.length
      · obtain ⟨b, off, rfl, hb, hcells⟩ := (Hrow.out.below hB1) (by omega)
        obtain ⟨X, hX⟩ : ∃ X, Ls[i]? = some X := ⟨_, List.getElem?_eq_getElem hlt⟩
        have k0 := hcells i X hX
        have hXs := HLs.out X (List.mem_of_getElem? hX)
        have HX := Lib.hid hX
        clear hcells hX
        by_cases h100 : 100 < X.size
        · have q3 : (100 : Int) < (X.size : Int) := by omega
          go_wp2
          go_ret
          exact ⟨rfl, hB1⟩
        have q3 : ¬ (100 : Int) < (X.size : Int) := by omega
        cases hx1 : decide (0 ≤ Lib.indexByte X.data.toList 10) with
        | true =>
          have HC2 := Lib.hid (contains_any X 10 true hx1)
          clear hx1
          go_wp2_with fail
          refine (HC2.out _).mono ?_
          rintro e w' ⟨rfl, rfl⟩
          go_wp2
          go_ret
          exact ⟨rfl, hB1⟩
        | false =>
          have HC2 := Lib.hid (contains_any X 10 false hx1)
          clear hx1
          cases hx2 : decide (0 ≤ Lib.indexByte X.data.toList 35) with
          | true =>
            have HC3 := Lib.hid (contains_any X 35 true hx2)
            clear hx2
            go_wp2_with fail
            refine (HC2.out _).mono ?_
            rintro e w' ⟨rfl, rfl⟩
            go_wp2_with fail
            refine (HC3.out _).mono ?_
            rintro e w' ⟨rfl, rfl⟩
            go_wp2
            go_ret
            exact ⟨rfl, hB1⟩
          | false =>
            have HC3 := Lib.hid (contains_any X 35 false hx2)
            have H35 := Lib.hid (contains_false _ _ hx2)
            clear hx2
            go_wp2_with fail
            refine (HC2.out _).mono ?_
            rintro e w' ⟨rfl, rfl⟩
            go_wp2_with fail
            refine (HC3.out _).mono ?_
            rintro e w' ⟨rfl, rfl⟩
            go_wp2
            go_round
            case rel =>
              refine ⟨i + 1, by go_num, by omega, fun j x hj hjx => ?_⟩
              by_cases hji : j < i
              · exact Hall.out j x hji hjx
              · obtain rfl : j = i := by omega
                rw [HX.out] at hjx
                injection hjx with hjx
                subst hjx
                exact ⟨by omega, H35.out⟩
            case measure => simp [intOf]; omega
      · have hmem : ∀ x ∈ Ls, x.size ≤ 100 ∧ ∀ b ∈ x.data.toList, b ≠ 35 := fun x hx => by
          obtain ⟨j, hj⟩ := List.getElem?_of_mem hx
          exact Hall.out j x (by have := (List.getElem?_eq_some_iff.1 hj).1; omega) hj
        have hl1 : ∀ x ∈ Ls.map (·.data.toList), x.length ≤ 100 := fun x hx => by
          obtain ⟨X, hX, rfl⟩ := List.mem_map.1 hx
          have := (hmem X hX).1
          rw [Lib.size_eq] at this
          exact this
        have hRl : R.data.toList.length ≤ 100 := by rw [← Lib.size_eq]; omega
        have hs1 := joinS_len [10] 100 _ hl1
        have hs2 := joinS_len ([32, 9, 35] ++ R.data.toList ++ [10]) 100 _ hl1
        simp only [List.length_map] at hs1 hs2
        have hs2' : (joinS ([32, 9, 35] ++ R.data.toList ++ [10]) (Ls.map (·.data.toList))).length ≤ 16000 := by
          refine Nat.le_trans hs2 (Nat.le_trans (Nat.mul_le_mul (show Ls.length ≤ 50 by omega) (show 100 + ([32, 9, 35] ++ R.data.toList ++ [10]).length ≤ 204 by simp; omega)) (by omega))
        have hs1' : (joinS [10] (Ls.map (·.data.toList))).length ≤ 16000 := by
          refine Nat.le_trans hs1 (Nat.le_trans (Nat.mul_le_mul (show Ls.length ≤ 50 by omega) (show 100 + ([10] : List UInt8).length ≤ 204 by simp)) (by omega))
        have hrl := remarks_lex Ls R HR.out (fun x hx => (hmem x hx).2)
        obtain ⟨S, hS⟩ : ∃ S : ByteArray, (⟨(joinS [10] (Ls.map (·.data.toList))).toArray⟩ : ByteArray) = S := ⟨_, rfl⟩
        obtain ⟨T, hT⟩ : ∃ T : ByteArray, (⟨(joinS ([32, 9, 35] ++ R.data.toList ++ [10]) (Ls.map (·.data.toList))).toArray⟩ : ByteArray) = T := ⟨_, rfl⟩
        have hSd : S.data.toList = joinS [10] (Ls.map (·.data.toList)) := by rw [← hS]
        have hTd : T.data.toList = joinS ([32, 9, 35] ++ R.data.toList ++ [10]) (Ls.map (·.data.toList)) := by rw [← hT]
        have hSs : S.size ≤ 16000 := by rw [Lib.size_eq, hSd]; exact hs1'
        have hTs : T.size ≤ 16000 := by rw [Lib.size_eq, hTd]; exact hs2'
        have hcut := two_cuts S T (by rw [hSd, hTd]; exact hrl)
        have hj1 := fun (W : World) (hW : StrRow W A Ls) => join_str W A c Ls ⟨#[10]⟩ hW (by omega) hc hs1'
        have hsepd : ((⟨#[32, 9, 35]⟩ : ByteArray) ++ R ++ (⟨#[10]⟩ : ByteArray)).data.toList = [32, 9, 35] ++ R.data.toList ++ [10] := by simp
        have hj2 := fun (W : World) (hW : StrRow W A Ls) => join_str W A c Ls ((⟨#[32, 9, 35]⟩ : ByteArray) ++ R ++ (⟨#[10]⟩ : ByteArray)) hW (by omega) hc (by rw [hsepd]; exact hs2')
        rw [hsepd, hT] at hj2
        rw [show (⟨#[10]⟩ : ByteArray).data.toList = [10] from rfl, hS] at hj1
        have HJ1 := Lib.hid hj1
        have HJ2 := Lib.hid hj2
        clear hmem hl1 hRl hs1 hs2 hs1' hs2' hrl hS hT hSd hTd hj1 hj2 hsepd
        have hrow1 := Lib.hid (Hrow.out.below hB1)
        rcases hcut with ⟨k, j, hk, hj⟩ | ⟨ts, us, hts, hus, hul, huk, hut⟩
        · have Hk := Lib.hid hk
          have Hj := Lib.hid hj
          clear hk hj
          go_wp2_with fail
          refine (HJ1.out _ hrow1.out).mono ?_
          rintro e w2 ⟨rfl, hB2⟩
          have hB12 := hB1.trans (hB2.mono hB1.size)
          go_wp2_with fail
          refine (scan_any S hSs w2 (Htab.out _ hB12)).mono ?_
          rw [Hk.out]
          rintro e w3 ⟨rfl, hB3⟩
          have hB13 := hB12.trans (hB3.mono hB12.size)
          have hB14 := hB13.alloc hB13.size (.cells #[.int .i64 2, .int .i64 k] 26)
          have hB24 := (hB2.trans (hB3.mono hB2.size)).alloc (by have := hB2.size; have := hB3.size; omega) (.cells #[.int .i64 2, .int .i64 k] 26)
          have hrow4 := Lib.hid (hrow1.out.below hB24)
          have hlt3 : w3.heap.size < (w3.alloc (.cells #[.int .i64 2, .int .i64 k] 26)).heap.size := by simp
          have hk0 := alloc_cells2 w3 (.int .i64 2) (.int .i64 k) 26
          go_wp2_with fail
          refine (HJ2.out _ hrow4.out).mono ?_
          rintro e w4 ⟨rfl, hB4⟩
          have hB15 := hB14.trans (hB4.mono hB14.size)
          go_wp2_with fail
          refine (scan_any T hTs w4 (Htab.out _ hB15)).mono ?_
          rw [Hj.out]
          rintro e w5 ⟨rfl, hB5⟩
          have hB45 := hB4.trans (hB5.mono hB4.size)
          have e0 : w5.cell? ⟨w3.heap.size, 0, none⟩ = some (.int .i64 2) := (hB45.cell (p := ⟨w3.heap.size, 0, none⟩) hlt3).trans hk0.1
          have e1 : w5.cell? ⟨w3.heap.size, 1, none⟩ = some (.int .i64 k) := (hB45.cell (p := ⟨w3.heap.size, 1, none⟩) hlt3).trans hk0.2
          have hlt5 : w3.heap.size < w5.heap.size := Nat.lt_of_lt_of_le hlt3 hB45.size
          go_wp2
          go_ret
          exact ⟨rfl, (hB15.trans (hB5.mono hB15.size)).alloc (by have := hB15.size; have := hB5.size; omega) _⟩
        · have Hts := Lib.hid hts
          have Hus := Lib.hid hus
          have Hul := Lib.hid hul
          have Huk := Lib.hid huk
          have Hut := Lib.hid hut
          clear hts hus hul huk hut
          go_wp2_with fail
          refine (HJ1.out _ hrow1.out).mono ?_
          rintro e w2 ⟨rfl, hB2⟩
          have hB12 := hB1.trans (hB2.mono hB1.size)
          go_wp2_with fail
          refine (scan_any S hSs w2 (Htab.out _ hB12)).mono ?_
          rw [Hts.out]
          rintro e w3 ⟨v, rfl, ho, hB3⟩
          obtain ⟨A1, c1, rfl⟩ := own_slice ho
          have htl : ts.length ≤ 9223372036854775807 := by have := own_max ho; unfold maxLen at this; omega
          have Hrt := Lib.hid (TokRow.of_own ho).1
          clear ho
          have hB13 := hB12.trans (hB3.mono hB12.size)
          have hB14 := hB13.alloc hB13.size (.cells #[.int .i64 0, .int .i64 0] 26)
          have hB24 := (hB2.trans (hB3.mono hB2.size)).alloc (by have := hB2.size; have := hB3.size; omega) (.cells #[.int .i64 0, .int .i64 0] 26)
          have hrow4 := Lib.hid (hrow1.out.below hB24)
          have hlt3 : w3.heap.size < (w3.alloc (.cells #[.int .i64 0, .int .i64 0] 26)).heap.size := by simp
          have hk0 := alloc_cells2 w3 (.int .i64 0) (.int .i64 0) 26
          go_wp2_with fail
          refine (HJ2.out _ hrow4.out).mono ?_
          rintro e w4 ⟨rfl, hB4⟩
          have hB15 := hB14.trans (hB4.mono hB14.size)
          go_wp2_with fail
          refine (scan_any T hTs w4 (Htab.out _ hB15)).mono ?_
          rw [Hus.out]
          rintro e w5 ⟨v, rfl, ho, hB5⟩
          obtain ⟨A2, c2, rfl⟩ := own_slice ho
          have Hru := Lib.hid (TokRow.of_own ho).1
          clear ho
          rw [Hul.out]
          have hB45 := hB4.trans (hB5.mono hB4.size)
          have e0 : w5.cell? ⟨w3.heap.size, 0, none⟩ = some (.int .i64 0) := (hB45.cell (p := ⟨w3.heap.size, 0, none⟩) hlt3).trans hk0.1
          have e1 : w5.cell? ⟨w3.heap.size, 1, none⟩ = some (.int .i64 0) := (hB45.cell (p := ⟨w3.heap.size, 1, none⟩) hlt3).trans hk0.2
          have hlt5 : w3.heap.size < w5.heap.size := Nat.lt_of_lt_of_le hlt3 hB45.size
          have hB35 : Below w3.heap.size w3 w5 := ((Below.refl _ w3).alloc (Nat.le_refl _) _).trans (hB45.mono (by simp))
          have hB16 := hB15.trans (hB5.mono hB15.size)
          go_wp2
          go_loopw [81] (fun ix wr => ∃ i : Nat, ix = .int .i64 i ∧ i ≤ ts.length ∧ Below w5.heap.size w5 wr) (fun ix _ => ts.length - (intOf ix).toNat)
          case atStart => exact ⟨0, rfl, Nat.zero_le _, (Below.refl _ _).alloc (Nat.le_refl _) _⟩
          case round =>
            obtain ⟨i, rfl, hi, hBr⟩ := hrel
            by_cases hlt : i < ts.length
            · obtain ⟨g, rfl, hcells⟩ := Hrt.out.at_ (hB35.trans (hBr.mono hB35.size)) (by omega)
              obtain ⟨k0, _, k2⟩ := hcells i hlt
              clear hcells
              obtain ⟨g', rfl, hcells⟩ := Hru.out.at_ hBr (by rw [Hul.out]; omega)
              obtain ⟨j0, _, j2⟩ := hcells i (by rw [Hul.out]; exact hlt)
              clear hcells
              rw [Huk.out] at j0
              rw [Hut.out] at j2
              obtain ⟨K, hK⟩ : ∃ K, kindAt ts i = K := ⟨_, rfl⟩
              obtain ⟨X, hX⟩ : ∃ X : ByteArray, (⟨(textAt ts i).toArray⟩ : ByteArray) = X := ⟨_, rfl⟩
              rw [hK] at k0 j0
              rw [hX] at k2 j2
              clear hK hX
              have z1 : ((K : Int) != (K : Int)) = false := by simp
              have z2 : (X.toList != X.toList) = false := by simp
              go_wp2
              go_quiet (fail)
              go_wp2
              go_roundw
              case rel => exact ⟨i + 1, by go_num, by omega, by first | exact below_drewN' hBr _ | exact hBr⟩
              case measure => simp [intOf]; omega
            · go_wp2
              go_ret
              exact ⟨rfl, hB16.trans (hBr.mono hB16.size)⟩
end Go.Proofs.YtokmbobfilljeaaDoor.Lx
