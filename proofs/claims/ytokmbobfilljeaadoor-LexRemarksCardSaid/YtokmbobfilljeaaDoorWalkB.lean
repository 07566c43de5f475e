/- The walks of lex.digit, lex.letter, the remark's closure, lex.run and lex.number: each comes to what the plain law's function of that name says, and leaves the world as it was. -/
import Derived.Test.YtokmbobfilljeaaDoorProg
import Derived.Test.YtokmbobfilljeaaDoorWalkA
import Derived.Below
import Derived.OwnWalk
import Derived.WalkKit
import Derived.KernelRfl
import Derived.Outline
import Derived.LoopTactic
import Derived.Lib.Hide
set_option linter.unusedVariables false
namespace Go.Proofs.YtokmbobfilljeaaDoor.Lx
open Go.RowKit Go.Proofs


def numRes (k : Nat) : Option Nat → Int
  | none => -1
  | some n => k + n

theorem minus_cons (b : UInt8) (r : List UInt8) : minus (b :: r) = if b.toNat = 45 then 1 else 0 := rfl
theorem numLen_no (r : List UInt8) (m d : Nat) (hm : minus r = m) (hd : spanLen isDigit (r.drop m) = d) (h : d = 0) : numLen r = none := by
  unfold numLen; rw [hm, hd, if_pos h]
theorem numLen_tail (r : List UInt8) (m d : Nat) (hm : minus r = m) (hd : spanLen isDigit (r.drop m) = d) (h : d ≠ 0) : numLen r = tailLen (m + d) (r.drop (m + d)) := by
  unfold numLen; rw [hm, hd, if_neg h]
theorem tailLen_nil (e : Nat) : tailLen e [] = some e := rfl
theorem tailLen_other (e : Nat) (c : UInt8) (r : List UInt8) (h : ¬ (c.toNat = 46 ∨ c.toNat = 47)) : tailLen e (c :: r) = some e := by simp [tailLen, h]
theorem tailLen_none (e : Nat) (c : UInt8) (r : List UInt8) (h : c.toNat = 46 ∨ c.toNat = 47) (h0 : spanLen isDigit r = 0) : tailLen e (c :: r) = none := by simp [tailLen, h, h0]
theorem tailLen_some (e : Nat) (c : UInt8) (r : List UInt8) (h : c.toNat = 46 ∨ c.toNat = 47) (h0 : spanLen isDigit r ≠ 0) : tailLen e (c :: r) = some (e + 1 + spanLen isDigit r) := by simp [tailLen, h, h0]

theorem number_facts (s : ByteArray) (k : Nat) (hk : k < s.size) (r : Int) (hr : numRes k (numLen (s.data.toList.drop k)) = r) :
    ∃ a e : Nat, ((s[k].toNat = 45 ∧ a = k + 1) ∨ (s[k].toNat ≠ 45 ∧ a = k)) ∧ a + spanLen isDigit (s.data.toList.drop a) = e ∧ a ≤ e ∧ e ≤ s.size ∧
      (e = a → r = -1) ∧ (e ≠ a → s.size ≤ e → r = e) ∧ (e ≠ a → ∀ h : e < s.size, ¬ (s[e].toNat = 46 ∨ s[e].toNat = 47) → r = e) ∧
      ∃ g : Nat, e + 1 + spanLen isDigit (s.data.toList.drop (e + 1)) = g ∧ (e ≠ a → ∀ h : e < s.size, (s[e].toNat = 46 ∨ s[e].toNat = 47) → g = e + 1 → r = -1) ∧
        (e ≠ a → ∀ h : e < s.size, (s[e].toNat = 46 ∨ s[e].toNat = 47) → g ≠ e + 1 → r = g) ∧ (e < s.size → g ≤ s.size) := by
  have Hd := drop_cons s k hk
  obtain ⟨m, hm⟩ : ∃ m, minus (s.data.toList.drop k) = m := ⟨_, rfl⟩
  have hm' : m = if s[k].toNat = 45 then 1 else 0 := by rw [← hm, Hd]; rfl
  have hm1 : m ≤ 1 := by rw [hm']; split <;> omega
  obtain ⟨d, hd⟩ : ∃ d, spanLen isDigit (s.data.toList.drop (k + m)) = d := ⟨_, rfl⟩
  have hdl : d ≤ s.size - (k + m) := by
    have := spanLen_le isDigit (s.data.toList.drop (k + m))
    simp at this; omega
  have h0 : d = 0 → r = -1 := by
    intro h; rw [← hr, numLen_no _ m d hm (by rw [List.drop_drop]; exact hd) h]; rfl
  have h1 : d ≠ 0 → numRes k (tailLen (m + d) (s.data.toList.drop (k + m + d))) = r := by
    intro h; rw [← hr, numLen_tail _ m d hm (by rw [List.drop_drop]; exact hd) h, List.drop_drop, Nat.add_assoc]
  refine ⟨k + m, k + m + d, ?_, by rw [hd], by omega, by omega, fun h => h0 (by omega), fun h h' => ?_, fun h h' h'' => ?_, k + m + d + 1 + spanLen isDigit (s.data.toList.drop (k + m + d + 1)), rfl, fun h h' h'' hf => ?_, fun h h' h'' hf => ?_, fun h => ?_⟩
  · by_cases h45 : s[k].toNat = 45
    · left; rw [hm', if_pos h45]; exact ⟨h45, rfl⟩
    · right; rw [hm', if_neg h45]; exact ⟨h45, rfl⟩
  · rw [← h1 (by omega), drop_end s _ h', tailLen_nil]; simp only [numRes]; omega
  · rw [← h1 (by omega), drop_cons s _ h', tailLen_other _ _ _ h'']; simp only [numRes]; omega
  · rw [← h1 (by omega), drop_cons s _ h', tailLen_none _ _ _ h'' (by omega)]; rfl
  · rw [← h1 (by omega), drop_cons s _ h', tailLen_some _ _ _ h'' (by omega)]; simp only [numRes]; omega
  · have := spanLen_le isDigit (s.data.toList.drop (k + m + d + 1))
    simp at this; omega

set_option maxHeartbeats 4000000 in
theorem number_any (s : ByteArray) (k : Nat) (hk : k < s.size) (hs : s.size ≤ 1000000) (w : World) (r : Int) (hr : numRes k (numLen (s.data.toList.drop k)) = r) :
    Calls Tryd.prog 20 #[.string s, .int .i64 k] w fun e w' => e = .returned (.int .i64 r) ∧ w' = w := by
  obtain ⟨a, e, h45, he, hae, hes, h1, h2, h3, g, hg, h4, h5, hgs⟩ := number_facts s k hk r hr
  clear hr
  have hrun := fun w => run_digit s a (by omega) hs w e he
  have hrun2 : e < s.size → ∀ w, _ := fun h w => run_digit s (e + 1) (by omega) hs w g hg
  clear he hg
  have H1 := Lib.hid h1
  have H2 := Lib.hid h2
  have H3 := Lib.hid h3
  have H4 := Lib.hid h4
  have H5 := Lib.hid h5
  have HR := Lib.hid hrun
  have HR2 := Lib.hid hrun2
  clear h1 h2 h3 h4 h5 hrun hrun2
  rcases h45 with ⟨h45, hak⟩ | ⟨h45, hak⟩
  · have hb : ((s[k].toNat : Int) == 45) = true := by rw [h45]; rfl
    have Hk := Lib.hid hak
    clear h45 hak
    by_cases hea : e = a
    · have Hr := Lib.hid (H1.out hea)
      have hq : ((e : Int) == (a : Int)) = true := by rw [hea]; simp
      clear hea
      go_enter Tryd.func20, Tryd.ntmps20
      go_wp2_with fail
      rw [show ((k : Int) + 1) = (a : Int) from by have := Hk.out; omega]
      refine (HR.out _).mono ?_
      rintro e w' ⟨rfl, rfl⟩
      go_wp2
      go_ret
      exact ⟨ret_int (by rw [Hr.out]), rfl⟩
    · have hq : ((e : Int) == (a : Int)) = false := by rw [beq_eq_false_iff_ne]; omega
      by_cases hlt : e < s.size
      · have hg := hgs hlt
        by_cases h46 : s[e].toNat = 46
        · have hc : ((s[e].toNat : Int) == 46) = true := by rw [h46]; rfl
          by_cases hge : g = e + 1
          · have Hr := Lib.hid (H4.out hea hlt (.inl h46) hge)
            have hz : ((g : Int) == (e : Int) + 1) = true := by rw [hge]; simp
            clear hge h46 hea
            go_enter Tryd.func20, Tryd.ntmps20
            go_wp2_with fail
            rw [show ((k : Int) + 1) = (a : Int) from by have := Hk.out; omega]
            refine (HR.out _).mono ?_
            rintro e w' ⟨rfl, rfl⟩
            go_wp2_with fail
            rw [show ((e : Int) + 1) = ((e + 1 : Nat) : Int) from by omega]
            refine (HR2.out hlt _).mono ?_
            rintro e w' ⟨rfl, rfl⟩
            go_wp2
            go_ret
            exact ⟨ret_int (by rw [Hr.out]), rfl⟩
          · have Hr := Lib.hid (H5.out hea hlt (.inl h46) hge)
            have hz : ((g : Int) == (e : Int) + 1) = false := by rw [beq_eq_false_iff_ne]; omega
            clear hge h46 hea
            go_enter Tryd.func20, Tryd.ntmps20
            go_wp2_with fail
            rw [show ((k : Int) + 1) = (a : Int) from by have := Hk.out; omega]
            refine (HR.out _).mono ?_
            rintro e w' ⟨rfl, rfl⟩
            go_wp2_with fail
            rw [show ((e : Int) + 1) = ((e + 1 : Nat) : Int) from by omega]
            refine (HR2.out hlt _).mono ?_
            rintro e w' ⟨rfl, rfl⟩
            go_wp2
            go_ret
            exact ⟨ret_int (by rw [Hr.out]), rfl⟩
        · have hc : ((s[e].toNat : Int) == 46) = false := by rw [beq_eq_false_iff_ne]; omega
          by_cases h47 : s[e].toNat = 47
          · have hc2 : ((s[e].toNat : Int) == 47) = true := by rw [h47]; rfl
            by_cases hge : g = e + 1
            · have Hr := Lib.hid (H4.out hea hlt (.inr h47) hge)
              have hz : ((g : Int) == (e : Int) + 1) = true := by rw [hge]; simp
              clear hge h46 h47 hea
              go_enter Tryd.func20, Tryd.ntmps20
              go_wp2_with fail
              rw [show ((k : Int) + 1) = (a : Int) from by have := Hk.out; omega]
              refine (HR.out _).mono ?_
              rintro e w' ⟨rfl, rfl⟩
              go_wp2_with fail
              rw [show ((e : Int) + 1) = ((e + 1 : Nat) : Int) from by omega]
              refine (HR2.out hlt _).mono ?_
              rintro e w' ⟨rfl, rfl⟩
              go_wp2
              go_ret
              exact ⟨ret_int (by rw [Hr.out]), rfl⟩
            · have Hr := Lib.hid (H5.out hea hlt (.inr h47) hge)
              have hz : ((g : Int) == (e : Int) + 1) = false := by rw [beq_eq_false_iff_ne]; omega
              clear hge h46 h47 hea
              go_enter Tryd.func20, Tryd.ntmps20
              go_wp2_with fail
              rw [show ((k : Int) + 1) = (a : Int) from by have := Hk.out; omega]
              refine (HR.out _).mono ?_
              rintro e w' ⟨rfl, rfl⟩
              go_wp2_with fail
              rw [show ((e : Int) + 1) = ((e + 1 : Nat) : Int) from by omega]
              refine (HR2.out hlt _).mono ?_
              rintro e w' ⟨rfl, rfl⟩
              go_wp2
              go_ret
              exact ⟨ret_int (by rw [Hr.out]), rfl⟩
          · have Hr := Lib.hid (H3.out hea hlt (by omega))
            have hc2 : ((s[e].toNat : Int) == 47) = false := by rw [beq_eq_false_iff_ne]; omega
            clear h46 h47 hea
            go_enter Tryd.func20, Tryd.ntmps20
            go_wp2_with fail
            rw [show ((k : Int) + 1) = (a : Int) from by have := Hk.out; omega]
            refine (HR.out _).mono ?_
            rintro e w' ⟨rfl, rfl⟩
            go_wp2
            go_ret
            exact ⟨ret_int (by rw [Hr.out]), rfl⟩
      · have Hr := Lib.hid (H2.out hea (by omega))
        clear hea
        go_enter Tryd.func20, Tryd.ntmps20
        go_wp2_with fail
        rw [show ((k : Int) + 1) = (a : Int) from by have := Hk.out; omega]
        refine (HR.out _).mono ?_
        rintro e w' ⟨rfl, rfl⟩
        go_wp2
        go_ret
        exact ⟨ret_int (by rw [Hr.out]), rfl⟩
  · have hb : ((s[k].toNat : Int) == 45) = false := by rw [beq_eq_false_iff_ne]; omega
    subst hak
    clear h45
    by_cases hea : e = a
    · have Hr := Lib.hid (H1.out hea)
      have hq : ((e : Int) == (a : Int)) = true := by rw [hea]; simp
      clear hea
      go_enter Tryd.func20, Tryd.ntmps20
      go_wp2_with fail
      refine (HR.out _).mono ?_
      rintro e w' ⟨rfl, rfl⟩
      go_wp2
      go_ret
      exact ⟨ret_int (by rw [Hr.out]), rfl⟩
    · have hq : ((e : Int) == (a : Int)) = false := by rw [beq_eq_false_iff_ne]; omega
      by_cases hlt : e < s.size
      · have hg := hgs hlt
        by_cases h46 : s[e].toNat = 46
        · have hc : ((s[e].toNat : Int) == 46) = true := by rw [h46]; rfl
          by_cases hge : g = e + 1
          · have Hr := Lib.hid (H4.out hea hlt (.inl h46) hge)
            have hz : ((g : Int) == (e : Int) + 1) = true := by rw [hge]; simp
            clear hge h46 hea
            go_enter Tryd.func20, Tryd.ntmps20
            go_wp2_with fail
            refine (HR.out _).mono ?_
            rintro e w' ⟨rfl, rfl⟩
            go_wp2_with fail
            rw [show ((e : Int) + 1) = ((e + 1 : Nat) : Int) from by omega]
            refine (HR2.out hlt _).mono ?_
            rintro e w' ⟨rfl, rfl⟩
            go_wp2
            go_ret
            exact ⟨ret_int (by rw [Hr.out]), rfl⟩
          · have Hr := Lib.hid (H5.out hea hlt (.inl h46) hge)
            have hz : ((g : Int) == (e : Int) + 1) = false := by rw [beq_eq_false_iff_ne]; omega
            clear hge h46 hea
            go_enter Tryd.func20, Tryd.ntmps20
            go_wp2_with fail
            refine (HR.out _).mono ?_
            rintro e w' ⟨rfl, rfl⟩
            go_wp2_with fail
            rw [show ((e : Int) + 1) = ((e + 1 : Nat) : Int) from by omega]
            refine (HR2.out hlt _).mono ?_
            rintro e w' ⟨rfl, rfl⟩
            go_wp2
            go_ret
            exact ⟨ret_int (by rw [Hr.out]), rfl⟩
        · have hc : ((s[e].toNat : Int) == 46) = false := by rw [beq_eq_false_iff_ne]; omega
          by_cases h47 : s[e].toNat = 47
          · have hc2 : ((s[e].toNat : Int) == 47) = true := by rw [h47]; rfl
            by_cases hge : g = e + 1
            · have Hr := Lib.hid (H4.out hea hlt (.inr h47) hge)
              have hz : ((g : Int) == (e : Int) + 1) = true := by rw [hge]; simp
              clear hge h46 h47 hea
              go_enter Tryd.func20, Tryd.ntmps20
              go_wp2_with fail
              refine (HR.out _).mono ?_
              rintro e w' ⟨rfl, rfl⟩
              go_wp2_with fail
              rw [show ((e : Int) + 1) = ((e + 1 : Nat) : Int) from by omega]
              refine (HR2.out hlt _).mono ?_
              rintro e w' ⟨rfl, rfl⟩
              go_wp2
              go_ret
              exact ⟨ret_int (by rw [Hr.out]), rfl⟩
            · have Hr := Lib.hid (H5.out hea hlt (.inr h47) hge)
              have hz : ((g : Int) == (e : Int) + 1) = false := by rw [beq_eq_false_iff_ne]; omega
              clear hge h46 h47 hea
              go_enter Tryd.func20, Tryd.ntmps20
              go_wp2_with fail
              refine (HR.out _).mono ?_
              rintro e w' ⟨rfl, rfl⟩
              go_wp2_with fail
              rw [show ((e : Int) + 1) = ((e + 1 : Nat) : Int) from by omega]
              refine (HR2.out hlt _).mono ?_
              rintro e w' ⟨rfl, rfl⟩
              go_wp2
              go_ret
              exact ⟨ret_int (by rw [Hr.out]), rfl⟩
          · have Hr := Lib.hid (H3.out hea hlt (by omega))
            have hc2 : ((s[e].toNat : Int) == 47) = false := by rw [beq_eq_false_iff_ne]; omega
            clear h46 h47 hea
            go_enter Tryd.func20, Tryd.ntmps20
            go_wp2_with fail
            refine (HR.out _).mono ?_
            rintro e w' ⟨rfl, rfl⟩
            go_wp2
            go_ret
            exact ⟨ret_int (by rw [Hr.out]), rfl⟩
      · have Hr := Lib.hid (H2.out hea (by omega))
        clear hea
        go_enter Tryd.func20, Tryd.ntmps20
        go_wp2_with fail
        refine (HR.out _).mono ?_
        rintro e w' ⟨rfl, rfl⟩
        go_wp2
        go_ret
        exact ⟨ret_int (by rw [Hr.out]), rfl⟩
end Go.Proofs.YtokmbobfilljeaaDoor.Lx
