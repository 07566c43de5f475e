/- The walk of the law LexNumbers: it answers true, whatever the numbers. -/
import Derived.Test.YtokmbobfilljeaaDoorCovers
import Derived.Test.YtokmbobfilljeaaDoorNumPlain
import Derived.Laws.IdiomStrings
set_option linter.unusedVariables false
set_option linter.unusedSimpArgs false
namespace Go.Proofs.YtokmbobfilljeaaDoor.Lx
open Go.RowKit Go.Proofs

theorem one_size (b : UInt8) : (⟨#[b]⟩ : ByteArray).size = 1 := rfl
theorem cat_size (b : UInt8) (D : ByteArray) : ((⟨#[b]⟩ : ByteArray) ++ D).size = D.size + 1 := by
  simp [Nat.add_comm, one_size]
set_option maxHeartbeats 4000000 in
set_option maxRecDepth 100000 in
theorem digits_any (n : Int) (h0 : 0 ≤ n) (h1 : n ≤ 18446744073709551615) (w : World) :
    Calls Tryd.prog 12 #[.int .u64 n] w fun e w' => ∃ D : ByteArray, e = .returned (.string D) ∧ Digs D.data.toList ∧ D.size ≤ 20 ∧ Below w.heap.size w w' := by
  go_enter Tryd.func12, Tryd.ntmps12
  go_wp2
  go_loopw [0, 3, 4] (fun n d k wr => ∃ (i : Int) (D : ByteArray) (j : Nat), n = .int .u64 i ∧ 0 ≤ i ∧ i ≤ 18446744073709551615 ∧ d = .string D ∧ k = .int .i64 j ∧ j ≤ 20 ∧ D.size = j ∧ (∀ b ∈ D.data.toList, isDigit b = true) ∧ Below w.heap.size w wr) (fun _ _ k _ => 20 - (intOf k).toNat)
  case atStart => exact ⟨n, ⟨#[]⟩, 0, rfl, h0, h1, rfl, rfl, by omega, rfl, by simp, Below.refl _ _⟩
  case round =>
    obtain ⟨i, D, j, rfl, hi0, hi1, rfl, rfl, hj, hD, hd, hB⟩ := hrel
    have hDs : D.size ≤ 20 := by omega
    have HD := Lib.hid hD
    have Hd := Lib.hid hd
    clear hD hd
    by_cases hlt : j < 20
    · have hm0 : 0 ≤ i % 10 := by omega
      have hm1 : i % 10 < 10 := by omega
      by_cases hz : i / 10 = 0
      · have q : (i / 10 == 0) = true := by rw [hz]; rfl
        clear hz
        obtain ⟨b, hb⟩ : ∃ b : UInt8, (48 + i % 10 : Int) = (b.toNat : Int) := ⟨UInt8.ofNat (48 + i % 10).toNat, by
          have hc0 : (UInt8.ofNat (48 + i % 10).toNat).toNat = (48 + i % 10).toNat := by simp; omega
          rw [hc0]; omega⟩
        have hbd : isDigit b = true := by simp only [isDigit, decide_eq_true_eq]; omega
        have hcv := run_convert_bytes_back (P := Tryd.prog) (wr.alloc (.cells #[.int .u8 (48 + i % 10)] 5)) 35 9 5 ⟨wr.heap.size, 0, none⟩ 1 [b] Tryd.underlying35 Tryd.underlying5 Tryd.underlying9 (by
          intro q hq
          obtain rfl : q = 0 := by simpa using hq
          have h := alloc_top wr (.cells #[.int .u8 (48 + i % 10)] 5)
          show World.cell? _ ⟨wr.heap.size, 0, none⟩ = _
          rw [Lib.cell_of_heap h, hb]; rfl)
        simp only [List.length_singleton] at hcv
        have Hbd := Lib.hid hbd
        have Hcv := Lib.hid hcv
        clear hb hcv hbd
        go_wp2_with fail
        rw [Hcv.out]
        simp only [Result.andThen]
        rw [Oper.upon_value]
        go_wp2
        go_ret
        refine ⟨_, rfl, ?_, ?_, hB.alloc hB.size _⟩
        · simpa using digs_cons b D.data.toList Hbd.out Hd.out
        · rw [cat_size]; have := HD.out; omega
      · have q : (i / 10 == 0) = false := by rw [beq_eq_false_iff_ne]; exact hz
        have hi2 : 0 ≤ i / 10 := by omega
        clear hz
        obtain ⟨b, hb⟩ : ∃ b : UInt8, (48 + i % 10 : Int) = (b.toNat : Int) := ⟨UInt8.ofNat (48 + i % 10).toNat, by
          have hc0 : (UInt8.ofNat (48 + i % 10).toNat).toNat = (48 + i % 10).toNat := by simp; omega
          rw [hc0]; omega⟩
        have hbd : isDigit b = true := by simp only [isDigit, decide_eq_true_eq]; omega
        have hcv := run_convert_bytes_back (P := Tryd.prog) (wr.alloc (.cells #[.int .u8 (48 + i % 10)] 5)) 35 9 5 ⟨wr.heap.size, 0, none⟩ 1 [b] Tryd.underlying35 Tryd.underlying5 Tryd.underlying9 (by
          intro q hq
          obtain rfl : q = 0 := by simpa using hq
          have h := alloc_top wr (.cells #[.int .u8 (48 + i % 10)] 5)
          show World.cell? _ ⟨wr.heap.size, 0, none⟩ = _
          rw [Lib.cell_of_heap h, hb]; rfl)
        simp only [List.length_singleton] at hcv
        have Hbd := Lib.hid hbd
        have Hcv := Lib.hid hcv
        clear hb hcv hbd
        go_wp2_with fail
        rw [Hcv.out]
        simp only [Result.andThen]
        rw [Oper.upon_value]
        go_wp2
        go_roundw
        case rel => exact ⟨_, _, j + 1, rfl, hi2, by omega, rfl, by go_num, by omega, by rw [cat_size]; have := HD.out; omega, by simpa using (digs_cons b D.data.toList Hbd.out Hd.out).2, hB.alloc hB.size _⟩
        case measure => simp [intOf]; omega
    · have hj20 : j = 20 := by omega
      have hne : Digs D.data.toList := ⟨by intro h; have h2 := HD.out; rw [Lib.size_eq, h] at h2; simp at h2; omega, Hd.out⟩
      have Hne := Lib.hid hne
      clear hne
      go_wp2
      go_ret
      exact ⟨D, rfl, Hne.out, by have := HD.out; omega, hB⟩
/-! the law -/
theorem cat_data (x y : ByteArray) : (x ++ y).data.toList = x.data.toList ++ y.data.toList := by simp
theorem ext01 : ((⟨#[46, 47]⟩ : ByteArray).extract 0 1).size = 1 := by decide
theorem ext12 : ((⟨#[46, 47]⟩ : ByteArray).extract 1 2).size = 1 := by decide
theorem cat_sz (x y : ByteArray) : (x ++ y).size = x.size + y.size := by simp
theorem wrapped (S : ByteArray) : ((⟨#[32]⟩ : ByteArray) ++ S ++ (⟨#[32]⟩ : ByteArray)).data.toList = [32] ++ S.data.toList ++ [32] := by simp
set_option maxHeartbeats 8000000 in
set_option maxRecDepth 100000 in
theorem numbers_1 (a b : Int) (form : Int) (ha0 : 0 ≤ a) (ha1 : a ≤ 18446744073709551615) (hb0 : 0 ≤ b) (hb1 : b ≤ 18446744073709551615) (hf : form = 1) (w : World) (htab : Lib.TabIs Tryd.prog w "strings.asciiSpace" .u8 Lib.asciiSpaceTab) :
    Calls Tryd.prog 5 #[.int .u64 a, .int .u64 b, .int .i64 form] w fun e w' => e = .returned (.bool true) ∧ Below w.heap.size w w' := by
  have Htab := Lib.hid (Lib.tabBelow_of_tabIs htab)
  have Hc := Lib.hid (cuts_any w htab)
  have Ha := Lib.hid (fun W => digits_any a ha0 ha1 W)
  have Hb := Lib.hid (fun W => digits_any b hb0 hb1 W)
  clear htab
  subst hf
  go_enter Tryd.func5, Tryd.ntmps5
  go_wp2_with fail
  refine Hc.out.mono ?_
  rintro e w1 ⟨rfl, hB1⟩
  go_wp2_with fail
  refine (Ha.out _).mono ?_
  rintro e w2 ⟨D, rfl, hD, hDs, hB2⟩
  have hB3 : Below w.heap.size w w2 := hB1.trans (hB2.mono hB1.size)
  have HD := Lib.hid hD
  clear hD
  obtain ⟨S, hS⟩ : ∃ S : ByteArray, (⟨#[45]⟩ : ByteArray) ++ D = S := ⟨_, rfl⟩
  have hSs : S.size ≤ 60 := by rw [← hS]; first | omega | (simp [one_size]; done) | (simp [one_size]; omega) | (rw [cat_sz, ext01]; omega) | (rw [cat_sz, ext12]; omega)
  have hlex := (by rw [← hS, cat_data]; exact num_minus D.data.toList HD.out : lex 0 ([32] ++ S.data.toList ++ [32]) = .ok [⟨1, 1, S.data.toList⟩, ⟨4, 2 + S.data.toList.length, []⟩])
  have hq : ((⟨#[32]⟩ : ByteArray) ++ S ++ (⟨#[32]⟩ : ByteArray)).size ≤ 16000 := by first | (simp [one_size]; done) | (simp [one_size]; omega)
  have hsc := scan_any _ hq w2 (Htab.out _ hB3)
  rw [wrapped, hlex] at hsc
  have Hsc := Lib.hid hsc
  have HS := Lib.hid hS
  clear hsc hS hlex hq
  go_wp2_with fail
  try simp only [HS.out]
  go_wp2_with fail
  refine Hsc.out.mono ?_
  rintro e w4 ⟨v, rfl, ho, hB6⟩
  obtain ⟨A, c, rfl⟩ := own_slice ho
  have hlen : ([⟨1, 1, S.data.toList⟩, ⟨4, 2 + S.data.toList.length, []⟩] : List Tok).length = 2 := rfl
  obtain ⟨g, hA, hg, hcl⟩ := (TokRow.of_own ho).1 (by simp)
  subst hA
  rw [hlen]
  have k0 := hcl 0 _ rfl
  have k1 := hcl 1 _ rfl
  have k2 := hcl 2 _ rfl
  have q2 : (S.toList == S.toList) = true := by simp
  clear hcl ho hlen
  go_wp2
  go_ret
  exact ⟨rfl, (hB3.trans (hB6.mono hB3.size)).alloc (by have := hB3.size; have := hB6.size; omega) _⟩
set_option maxHeartbeats 8000000 in
set_option maxRecDepth 100000 in
theorem numbers_2 (a b : Int) (form : Int) (ha0 : 0 ≤ a) (ha1 : a ≤ 18446744073709551615) (hb0 : 0 ≤ b) (hb1 : b ≤ 18446744073709551615) (hf : form = 2) (w : World) (htab : Lib.TabIs Tryd.prog w "strings.asciiSpace" .u8 Lib.asciiSpaceTab) :
    Calls Tryd.prog 5 #[.int .u64 a, .int .u64 b, .int .i64 form] w fun e w' => e = .returned (.bool true) ∧ Below w.heap.size w w' := by
  have Htab := Lib.hid (Lib.tabBelow_of_tabIs htab)
  have Hc := Lib.hid (cuts_any w htab)
  have Ha := Lib.hid (fun W => digits_any a ha0 ha1 W)
  have Hb := Lib.hid (fun W => digits_any b hb0 hb1 W)
  clear htab
  subst hf
  go_enter Tryd.func5, Tryd.ntmps5
  go_wp2_with fail
  refine Hc.out.mono ?_
  rintro e w1 ⟨rfl, hB1⟩
  go_wp2_with fail
  refine (Ha.out _).mono ?_
  rintro e w2 ⟨D, rfl, hD, hDs, hB2⟩
  have hB3 : Below w.heap.size w w2 := hB1.trans (hB2.mono hB1.size)
  have HD := Lib.hid hD
  clear hD
  go_wp2_with fail
  refine (Hb.out _).mono ?_
  rintro e w3 ⟨E, rfl, hE, hEs, hB4⟩
  have hB5 : Below w.heap.size w w3 := hB3.trans (hB4.mono hB3.size)
  have HE := Lib.hid hE
  clear hE
  obtain ⟨S, hS⟩ : ∃ S : ByteArray, D ++ ((⟨#[46]⟩ : ByteArray) ++ E) = S := ⟨_, rfl⟩
  have hSs : S.size ≤ 60 := by rw [← hS]; first | omega | (simp [one_size]; done) | (simp [one_size]; omega) | (rw [cat_sz, ext01]; omega) | (rw [cat_sz, ext12]; omega)
  have hlex := (by rw [← hS, cat_data, cat_data]; exact num_two 46 D.data.toList E.data.toList (by decide) HD.out HE.out : lex 0 ([32] ++ S.data.toList ++ [32]) = .ok [⟨1, 1, S.data.toList⟩, ⟨4, 2 + S.data.toList.length, []⟩])
  have hq : ((⟨#[32]⟩ : ByteArray) ++ S ++ (⟨#[32]⟩ : ByteArray)).size ≤ 16000 := by first | (simp [one_size]; done) | (simp [one_size]; omega)
  have hsc := scan_any _ hq w3 (Htab.out _ hB5)
  rw [wrapped, hlex] at hsc
  have Hsc := Lib.hid hsc
  have HS := Lib.hid hS
  clear hsc hS hlex hq
  go_wp2_with fail
  try simp only [HS.out]
  go_wp2_with fail
  refine Hsc.out.mono ?_
  rintro e w4 ⟨v, rfl, ho, hB6⟩
  obtain ⟨A, c, rfl⟩ := own_slice ho
  have hlen : ([⟨1, 1, S.data.toList⟩, ⟨4, 2 + S.data.toList.length, []⟩] : List Tok).length = 2 := rfl
  obtain ⟨g, hA, hg, hcl⟩ := (TokRow.of_own ho).1 (by simp)
  subst hA
  rw [hlen]
  have k0 := hcl 0 _ rfl
  have k1 := hcl 1 _ rfl
  have k2 := hcl 2 _ rfl
  have q2 : (S.toList == S.toList) = true := by simp
  clear hcl ho hlen
  go_wp2
  go_ret
  exact ⟨rfl, (hB5.trans (hB6.mono hB5.size)).alloc (by have := hB5.size; have := hB6.size; omega) _⟩
set_option maxHeartbeats 8000000 in
set_option maxRecDepth 100000 in
theorem numbers_3 (a b : Int) (form : Int) (ha0 : 0 ≤ a) (ha1 : a ≤ 18446744073709551615) (hb0 : 0 ≤ b) (hb1 : b ≤ 18446744073709551615) (hf : form = 3) (w : World) (htab : Lib.TabIs Tryd.prog w "strings.asciiSpace" .u8 Lib.asciiSpaceTab) :
    Calls Tryd.prog 5 #[.int .u64 a, .int .u64 b, .int .i64 form] w fun e w' => e = .returned (.bool true) ∧ Below w.heap.size w w' := by
  have Htab := Lib.hid (Lib.tabBelow_of_tabIs htab)
  have Hc := Lib.hid (cuts_any w htab)
  have Ha := Lib.hid (fun W => digits_any a ha0 ha1 W)
  have Hb := Lib.hid (fun W => digits_any b hb0 hb1 W)
  clear htab
  subst hf
  go_enter Tryd.func5, Tryd.ntmps5
  go_wp2_with fail
  refine Hc.out.mono ?_
  rintro e w1 ⟨rfl, hB1⟩
  go_wp2_with fail
  refine (Ha.out _).mono ?_
  rintro e w2 ⟨D, rfl, hD, hDs, hB2⟩
  have hB3 : Below w.heap.size w w2 := hB1.trans (hB2.mono hB1.size)
  have HD := Lib.hid hD
  clear hD
  go_wp2_with fail
  refine (Hb.out _).mono ?_
  rintro e w3 ⟨E, rfl, hE, hEs, hB4⟩
  have hB5 : Below w.heap.size w w3 := hB3.trans (hB4.mono hB3.size)
  have HE := Lib.hid hE
  clear hE
  obtain ⟨S, hS⟩ : ∃ S : ByteArray, D ++ ((⟨#[47]⟩ : ByteArray) ++ E) = S := ⟨_, rfl⟩
  have hSs : S.size ≤ 60 := by rw [← hS]; first | omega | (simp [one_size]; done) | (simp [one_size]; omega) | (rw [cat_sz, ext01]; omega) | (rw [cat_sz, ext12]; omega)
  have hlex := (by rw [← hS, cat_data, cat_data]; exact num_two 47 D.data.toList E.data.toList (by decide) HD.out HE.out : lex 0 ([32] ++ S.data.toList ++ [32]) = .ok [⟨1, 1, S.data.toList⟩, ⟨4, 2 + S.data.toList.length, []⟩])
  have hq : ((⟨#[32]⟩ : ByteArray) ++ S ++ (⟨#[32]⟩ : ByteArray)).size ≤ 16000 := by first | (simp [one_size]; done) | (simp [one_size]; omega)
  have hsc := scan_any _ hq w3 (Htab.out _ hB5)
  rw [wrapped, hlex] at hsc
  have Hsc := Lib.hid hsc
  have HS := Lib.hid hS
  clear hsc hS hlex hq
  go_wp2_with fail
  try simp only [HS.out]
  go_wp2_with fail
  refine Hsc.out.mono ?_
  rintro e w4 ⟨v, rfl, ho, hB6⟩
  obtain ⟨A, c, rfl⟩ := own_slice ho
  have hlen : ([⟨1, 1, S.data.toList⟩, ⟨4, 2 + S.data.toList.length, []⟩] : List Tok).length = 2 := rfl
  obtain ⟨g, hA, hg, hcl⟩ := (TokRow.of_own ho).1 (by simp)
  subst hA
  rw [hlen]
  have k0 := hcl 0 _ rfl
  have k1 := hcl 1 _ rfl
  have k2 := hcl 2 _ rfl
  have q2 : (S.toList == S.toList) = true := by simp
  clear hcl ho hlen
  go_wp2
  go_ret
  exact ⟨rfl, (hB5.trans (hB6.mono hB5.size)).alloc (by have := hB5.size; have := hB6.size; omega) _⟩
set_option maxHeartbeats 8000000 in
set_option maxRecDepth 100000 in
theorem numbers_4 (a b : Int) (form : Int) (ha0 : 0 ≤ a) (ha1 : a ≤ 18446744073709551615) (hb0 : 0 ≤ b) (hb1 : b ≤ 18446744073709551615) (hf : form = 4) (w : World) (htab : Lib.TabIs Tryd.prog w "strings.asciiSpace" .u8 Lib.asciiSpaceTab) :
    Calls Tryd.prog 5 #[.int .u64 a, .int .u64 b, .int .i64 form] w fun e w' => e = .returned (.bool true) ∧ Below w.heap.size w w' := by
  have Htab := Lib.hid (Lib.tabBelow_of_tabIs htab)
  have Hc := Lib.hid (cuts_any w htab)
  have Ha := Lib.hid (fun W => digits_any a ha0 ha1 W)
  have Hb := Lib.hid (fun W => digits_any b hb0 hb1 W)
  clear htab
  subst hf
  go_enter Tryd.func5, Tryd.ntmps5
  go_wp2_with fail
  refine Hc.out.mono ?_
  rintro e w1 ⟨rfl, hB1⟩
  go_wp2_with fail
  refine (Ha.out _).mono ?_
  rintro e w2 ⟨D, rfl, hD, hDs, hB2⟩
  have hB3 : Below w.heap.size w w2 := hB1.trans (hB2.mono hB1.size)
  have HD := Lib.hid hD
  clear hD
  obtain ⟨S, hS⟩ : ∃ S : ByteArray, D ++ (⟨#[46, 47]⟩ : ByteArray).extract 0 1 = S := ⟨_, rfl⟩
  have hSs : S.size ≤ 60 := by rw [← hS]; first | omega | (simp [one_size]; done) | (simp [one_size]; omega) | (rw [cat_sz, ext01]; omega) | (rw [cat_sz, ext12]; omega)
  have hlex := (by rw [← hS, cat_data, Lib.extract_data]; exact num_open 46 D.data.toList (by decide) HD.out : lex 0 ([32] ++ S.data.toList ++ [32]) = .error 1)
  have hq : ((⟨#[32]⟩ : ByteArray) ++ S ++ (⟨#[32]⟩ : ByteArray)).size ≤ 16000 := by first | (simp [one_size]; done) | (simp [one_size]; omega)
  have hsc := scan_any _ hq w2 (Htab.out _ hB3)
  rw [wrapped, hlex] at hsc
  have Hsc := Lib.hid hsc
  have HS := Lib.hid hS
  clear hsc hS hlex hq
  go_wp2_with fail
  try simp only [HS.out]
  go_wp2_with fail
  refine Hsc.out.mono ?_
  rintro e w4 ⟨rfl, hB6⟩
  go_wp2
  go_ret
  exact ⟨rfl, (hB3.trans (hB6.mono hB3.size)).alloc (by have := hB3.size; have := hB6.size; omega) _⟩
set_option maxHeartbeats 8000000 in
set_option maxRecDepth 100000 in
theorem numbers_5 (a b : Int) (form : Int) (ha0 : 0 ≤ a) (ha1 : a ≤ 18446744073709551615) (hb0 : 0 ≤ b) (hb1 : b ≤ 18446744073709551615) (hf : form = 5) (w : World) (htab : Lib.TabIs Tryd.prog w "strings.asciiSpace" .u8 Lib.asciiSpaceTab) :
    Calls Tryd.prog 5 #[.int .u64 a, .int .u64 b, .int .i64 form] w fun e w' => e = .returned (.bool true) ∧ Below w.heap.size w w' := by
  have Htab := Lib.hid (Lib.tabBelow_of_tabIs htab)
  have Hc := Lib.hid (cuts_any w htab)
  have Ha := Lib.hid (fun W => digits_any a ha0 ha1 W)
  have Hb := Lib.hid (fun W => digits_any b hb0 hb1 W)
  clear htab
  subst hf
  go_enter Tryd.func5, Tryd.ntmps5
  go_wp2_with fail
  refine Hc.out.mono ?_
  rintro e w1 ⟨rfl, hB1⟩
  go_wp2_with fail
  refine (Ha.out _).mono ?_
  rintro e w2 ⟨D, rfl, hD, hDs, hB2⟩
  have hB3 : Below w.heap.size w w2 := hB1.trans (hB2.mono hB1.size)
  have HD := Lib.hid hD
  clear hD
  obtain ⟨S, hS⟩ : ∃ S : ByteArray, D ++ (⟨#[46, 47]⟩ : ByteArray).extract 1 2 = S := ⟨_, rfl⟩
  have hSs : S.size ≤ 60 := by rw [← hS]; first | omega | (simp [one_size]; done) | (simp [one_size]; omega) | (rw [cat_sz, ext01]; omega) | (rw [cat_sz, ext12]; omega)
  have hlex := (by rw [← hS, cat_data, Lib.extract_data]; exact num_open 47 D.data.toList (by decide) HD.out : lex 0 ([32] ++ S.data.toList ++ [32]) = .error 1)
  have hq : ((⟨#[32]⟩ : ByteArray) ++ S ++ (⟨#[32]⟩ : ByteArray)).size ≤ 16000 := by first | (simp [one_size]; done) | (simp [one_size]; omega)
  have hsc := scan_any _ hq w2 (Htab.out _ hB3)
  rw [wrapped, hlex] at hsc
  have Hsc := Lib.hid hsc
  have HS := Lib.hid hS
  clear hsc hS hlex hq
  go_wp2_with fail
  try simp only [HS.out]
  go_wp2_with fail
  refine Hsc.out.mono ?_
  rintro e w4 ⟨rfl, hB6⟩
  go_wp2
  go_ret
  exact ⟨rfl, (hB3.trans (hB6.mono hB3.size)).alloc (by have := hB3.size; have := hB6.size; omega) _⟩
set_option maxHeartbeats 8000000 in
set_option maxRecDepth 100000 in
theorem numbers_6 (a b : Int) (form : Int) (ha0 : 0 ≤ a) (ha1 : a ≤ 18446744073709551615) (hb0 : 0 ≤ b) (hb1 : b ≤ 18446744073709551615) (hf : form = 6) (w : World) (htab : Lib.TabIs Tryd.prog w "strings.asciiSpace" .u8 Lib.asciiSpaceTab) :
    Calls Tryd.prog 5 #[.int .u64 a, .int .u64 b, .int .i64 form] w fun e w' => e = .returned (.bool true) ∧ Below w.heap.size w w' := by
  have Htab := Lib.hid (Lib.tabBelow_of_tabIs htab)
  have Hc := Lib.hid (cuts_any w htab)
  have Ha := Lib.hid (fun W => digits_any a ha0 ha1 W)
  have Hb := Lib.hid (fun W => digits_any b hb0 hb1 W)
  clear htab
  subst hf
  go_enter Tryd.func5, Tryd.ntmps5
  go_wp2_with fail
  refine Hc.out.mono ?_
  rintro e w1 ⟨rfl, hB1⟩
  go_wp2_with fail
  refine (Ha.out _).mono ?_
  rintro e w2 ⟨D, rfl, hD, hDs, hB2⟩
  have hB3 : Below w.heap.size w w2 := hB1.trans (hB2.mono hB1.size)
  have HD := Lib.hid hD
  clear hD
  obtain ⟨S, hS⟩ : ∃ S : ByteArray, (⟨#[45]⟩ : ByteArray) = S := ⟨_, rfl⟩
  have hSs : S.size ≤ 60 := by rw [← hS]; first | omega | (simp [one_size]; done) | (simp [one_size]; omega) | (rw [cat_sz, ext01]; omega) | (rw [cat_sz, ext12]; omega)
  have hlex := (by rw [← hS]; exact num_bare : lex 0 ([32] ++ S.data.toList ++ [32]) = .error 1)
  have hq : ((⟨#[32]⟩ : ByteArray) ++ S ++ (⟨#[32]⟩ : ByteArray)).size ≤ 16000 := by first | (simp [one_size]; done) | (simp [one_size]; omega)
  have hsc := scan_any _ hq w2 (Htab.out _ hB3)
  rw [wrapped, hlex] at hsc
  have Hsc := Lib.hid hsc
  have HS := Lib.hid hS
  clear hsc hS hlex hq
  go_wp2_with fail
  try simp only [HS.out]
  go_wp2_with fail
  refine Hsc.out.mono ?_
  rintro e w4 ⟨rfl, hB6⟩
  go_wp2
  go_ret
  exact ⟨rfl, (hB3.trans (hB6.mono hB3.size)).alloc (by have := hB3.size; have := hB6.size; omega) _⟩
set_option maxHeartbeats 8000000 in
set_option maxRecDepth 100000 in
theorem numbers_0 (a b : Int) (form : Int) (ha0 : 0 ≤ a) (ha1 : a ≤ 18446744073709551615) (hb0 : 0 ≤ b) (hb1 : b ≤ 18446744073709551615) (h1 : (form == 1) = false) (h2 : (form == 2) = false) (h3 : (form == 3) = false) (h4 : (form == 4) = false) (h5 : (form == 5) = false) (h6 : (form == 6) = false) (hr : form < 4 ∨ 6 < form) (w : World) (htab : Lib.TabIs Tryd.prog w "strings.asciiSpace" .u8 Lib.asciiSpaceTab) :
    Calls Tryd.prog 5 #[.int .u64 a, .int .u64 b, .int .i64 form] w fun e w' => e = .returned (.bool true) ∧ Below w.heap.size w w' := by
  have Htab := Lib.hid (Lib.tabBelow_of_tabIs htab)
  have Hc := Lib.hid (cuts_any w htab)
  have Ha := Lib.hid (fun W => digits_any a ha0 ha1 W)
  have Hb := Lib.hid (fun W => digits_any b hb0 hb1 W)
  clear htab
  have hx : decide (4 ≤ form) = false ∨ (decide (4 ≤ form) = true ∧ decide (form ≤ 6) = false) := by
    rcases hr with hr | hr
    · left; simp; omega
    · right; constructor <;> simp <;> omega
  clear hr
  rcases hx with hx | ⟨hx, hy⟩
  all_goals
    go_enter Tryd.func5, Tryd.ntmps5
    go_wp2_with fail
    refine Hc.out.mono ?_
    rintro e w1 ⟨rfl, hB1⟩
    go_wp2_with fail
    refine (Ha.out _).mono ?_
    rintro e w2 ⟨D, rfl, hD, hDs, hB2⟩
    have hB3 : Below w.heap.size w w2 := hB1.trans (hB2.mono hB1.size)
    have HD := Lib.hid hD
    clear hD
    obtain ⟨S, hS⟩ : ∃ S : ByteArray, D = S := ⟨_, rfl⟩
    have hSs : S.size ≤ 60 := by rw [← hS]; first | omega | (simp [one_size]; done) | (simp [one_size]; omega) | (rw [cat_sz, ext01]; omega) | (rw [cat_sz, ext12]; omega)
    have hlex := (by rw [← hS]; exact num_plain D.data.toList HD.out : lex 0 ([32] ++ S.data.toList ++ [32]) = .ok [⟨1, 1, S.data.toList⟩, ⟨4, 2 + S.data.toList.length, []⟩])
    have hq : ((⟨#[32]⟩ : ByteArray) ++ S ++ (⟨#[32]⟩ : ByteArray)).size ≤ 16000 := by first | (simp [one_size]; done) | (simp [one_size]; omega)
    have hsc := scan_any _ hq w2 (Htab.out _ hB3)
    rw [wrapped, hlex] at hsc
    have Hsc := Lib.hid hsc
    have HS := Lib.hid hS
    clear hsc hS hlex hq
    go_wp2_with fail
    try simp only [HS.out]
    go_wp2_with fail
    refine Hsc.out.mono ?_
    rintro e w4 ⟨v, rfl, ho, hB6⟩
    obtain ⟨A, c, rfl⟩ := own_slice ho
    have hlen : ([⟨1, 1, S.data.toList⟩, ⟨4, 2 + S.data.toList.length, []⟩] : List Tok).length = 2 := rfl
    obtain ⟨g, hA, hg, hcl⟩ := (TokRow.of_own ho).1 (by simp)
    subst hA
    rw [hlen]
    have k0 := hcl 0 _ rfl
    have k1 := hcl 1 _ rfl
    have k2 := hcl 2 _ rfl
    have q2 : (S.toList == S.toList) = true := by simp
    clear hcl ho hlen
    go_wp2
    go_ret
    exact ⟨rfl, (hB3.trans (hB6.mono hB3.size)).alloc (by have := hB3.size; have := hB6.size; omega) _⟩
theorem numbers_any (a b : Int) (form : Int) (ha0 : 0 ≤ a) (ha1 : a ≤ 18446744073709551615) (hb0 : 0 ≤ b) (hb1 : b ≤ 18446744073709551615) (w : World) (htab : Lib.TabIs Tryd.prog w "strings.asciiSpace" .u8 Lib.asciiSpaceTab) :
    Calls Tryd.prog 5 #[.int .u64 a, .int .u64 b, .int .i64 form] w fun e w' => e = .returned (.bool true) ∧ Below w.heap.size w w' := by
  by_cases h1 : form = 1
  · exact numbers_1 a b form ha0 ha1 hb0 hb1 h1 w htab
  by_cases h2 : form = 2
  · exact numbers_2 a b form ha0 ha1 hb0 hb1 h2 w htab
  by_cases h3 : form = 3
  · exact numbers_3 a b form ha0 ha1 hb0 hb1 h3 w htab
  by_cases h4 : form = 4
  · exact numbers_4 a b form ha0 ha1 hb0 hb1 h4 w htab
  by_cases h5 : form = 5
  · exact numbers_5 a b form ha0 ha1 hb0 hb1 h5 w htab
  by_cases h6 : form = 6
  · exact numbers_6 a b form ha0 ha1 hb0 hb1 h6 w htab
  exact numbers_0 a b form ha0 ha1 hb0 hb1 (beq_eq_false_iff_ne.2 h1) (beq_eq_false_iff_ne.2 h2) (beq_eq_false_iff_ne.2 h3) (beq_eq_false_iff_ne.2 h4) (beq_eq_false_iff_ne.2 h5) (beq_eq_false_iff_ne.2 h6) (by omega) w htab
end Go.Proofs.YtokmbobfilljeaaDoor.Lx
