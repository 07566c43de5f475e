/- The walks of lex.digit, lex.letter, the remark's closure, lex.run and lex.number: each comes to what the plain law's function of that name says, and leaves the world as it was. -/
import Derived.Test.YtokmbobfilljeaaDoorProg
import Derived.Test.YtokmbobfilljeaaDoorPlain
import Derived.Below
import Derived.OwnWalk
import Derived.WalkKit
import Derived.KernelRfl
import Derived.Outline
import Derived.LoopTactic
import Derived.Lib.Hide
set_option linter.unusedVariables false
namespace Go.Proofs.YtokmbobfilljeaaDoor.Lx
open Go.RowKit Go.Proofs

theorem ret_bool {a b : Bool} (h : a = b) : Ending.returned (.bool a) = .returned (.bool b) := by rw [h]
theorem ret_int {k : IntKind} {a b : Int} (h : a = b) : Ending.returned (.int k a) = .returned (.int k b) := by rw [h]

set_option maxHeartbeats 1000000 in
theorem digit_any (b : UInt8) (w : World) : Calls Tryd.prog 19 #[.int .u8 b.toNat] w fun e w' => e = .returned (.bool (isDigit b)) ∧ w' = w := by
  have hb := b.toNat_lt
  go_enter Tryd.func19, Tryd.ntmps19
  go_wp2
  all_goals (go_ret; refine ⟨ret_bool ?_, rfl⟩; rw [Bool.eq_iff_iff]; simp [isDigit]; omega)
set_option maxHeartbeats 1000000 in
theorem letter_any (b : UInt8) (w : World) : Calls Tryd.prog 18 #[.int .u8 b.toNat] w fun e w' => e = .returned (.bool (isLetter b)) ∧ w' = w := by
  have hb := b.toNat_lt
  go_enter Tryd.func18, Tryd.ntmps18
  go_wp2
  all_goals (go_ret; refine ⟨ret_bool ?_, rfl⟩; rw [Bool.eq_iff_iff]; simp [isLetter]; omega)
theorem notLine_any (b : UInt8) (w : World) : Calls Tryd.prog 17 #[.int .u8 b.toNat] w fun e w' => e = .returned (.bool (notLine b)) ∧ w' = w := by
  have hb := b.toNat_lt
  go_enter Tryd.func17, Tryd.ntmps17
  go_wp2
  all_goals (go_ret; refine ⟨ret_bool ?_, rfl⟩; rw [Bool.eq_iff_iff]; simp [notLine]; omega)

theorem drop_cons (s : ByteArray) (k : Nat) (h : k < s.size) : s.data.toList.drop k = s[k] :: s.data.toList.drop (k + 1) := by
  rw [List.drop_eq_getElem_cons (by simpa using h)]; rfl
theorem drop_end (s : ByteArray) (k : Nat) (h : s.size ≤ k) : s.data.toList.drop k = [] := List.drop_eq_nil_of_le (by simpa using h)

def Pays (K : Nat) (p : UInt8 → Bool) : Prop := ∀ (b : UInt8) (w : World), Calls Tryd.prog K #[.int .u8 b.toNat] w fun e w' => e = .returned (.bool (p b)) ∧ w' = w

set_option maxHeartbeats 2000000 in
theorem run_any (K : Nat) (hK : K = 17 ∨ K = 18 ∨ K = 19) (p : UInt8 → Bool) (hp : Pays K p)
    (s : ByteArray) (k : Nat) (hk : k ≤ s.size) (hs : s.size ≤ 1000000) (w : World) (j : Nat) (hj : k + spanLen p (s.data.toList.drop k) = j) :
    Calls Tryd.prog 16 #[.string s, .int .i64 k, .func (.func K) #[] #[]] w fun e w' => e = .returned (.int .i64 j) ∧ w' = w := by
  have Hj := Lib.hid hj
  clear hj
  rcases hK with rfl | rfl | rfl
  all_goals
  go_enter Tryd.func16, Tryd.ntmps16
  go_wp2
  go_loop [1] (fun a => ∃ i : Nat, a = .int .i64 i ∧ i ≤ s.size ∧ i + spanLen p (s.data.toList.drop i) = j) (fun a => s.size - (intOf a).toNat)
  case atStart => exact ⟨k, rfl, hk, Hj.out⟩
  case round =>
    obtain ⟨i, rfl, hi, he⟩ := hrel
    have He := Lib.hid he
    clear he
    by_cases hlt : i < s.size
    · have Hd := Lib.hid (drop_cons s i hlt)
      cases hq : p s[i]
      · have Hq := Lib.hid hq
        clear hq
        go_wp2_with fail
        refine (hp _ _).mono ?_
        rintro e w' ⟨rfl, rfl⟩
        rw [Hq.out]
        go_wp2
        go_ret
        exact ⟨ret_int (by rw [← He.out, Hd.out, spanLen_cons_no Hq.out]; rfl), rfl⟩
      · have Hq := Lib.hid hq
        clear hq
        go_wp2_with fail
        refine (hp _ _).mono ?_
        rintro e w' ⟨rfl, rfl⟩
        rw [Hq.out]
        go_wp2
        go_round
        case rel => exact ⟨i + 1, by go_num, by omega, by rw [← He.out, Hd.out, spanLen_cons_yes Hq.out]; omega⟩
        case measure => simp [intOf]; omega
    · go_wp2
      go_ret
      exact ⟨ret_int (by rw [← He.out, drop_end s i (by omega), spanLen_nil]; rfl), rfl⟩

theorem run_digit (s : ByteArray) (k : Nat) (hk : k ≤ s.size) (hs : s.size ≤ 1000000) (w : World) (j : Nat) (hj : k + spanLen isDigit (s.data.toList.drop k) = j) :
    Calls Tryd.prog 16 #[.string s, .int .i64 k, .func (.func 19) #[] #[]] w fun e w' => e = .returned (.int .i64 j) ∧ w' = w :=
  run_any 19 (.inr (.inr rfl)) isDigit digit_any s k hk hs w j hj
theorem run_letter (s : ByteArray) (k : Nat) (hk : k ≤ s.size) (hs : s.size ≤ 1000000) (w : World) (j : Nat) (hj : k + spanLen isLetter (s.data.toList.drop k) = j) :
    Calls Tryd.prog 16 #[.string s, .int .i64 k, .func (.func 18) #[] #[]] w fun e w' => e = .returned (.int .i64 j) ∧ w' = w :=
  run_any 18 (.inr (.inl rfl)) isLetter letter_any s k hk hs w j hj
theorem run_notLine (s : ByteArray) (k : Nat) (hk : k ≤ s.size) (hs : s.size ≤ 1000000) (w : World) (j : Nat) (hj : k + spanLen notLine (s.data.toList.drop k) = j) :
    Calls Tryd.prog 16 #[.string s, .int .i64 k, .func (.func 17) #[] #[]] w fun e w' => e = .returned (.int .i64 j) ∧ w' = w :=
  run_any 17 (.inl rfl) notLine notLine_any s k hk hs w j hj
end Go.Proofs.YtokmbobfilljeaaDoor.Lx
