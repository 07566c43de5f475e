/- The walk of lex.Scan: its tokens are those of the plain law's lex. -/
import Derived.Test.YtokmbobfilljeaaDoorPlainB
import Derived.Test.YtokmbobfilljeaaDoorBuilder
import Derived.Test.YtokmbobfilljeaaDoorShelf
import Derived.Lib.AppendIntMem
import Derived.Maps.AppendAt
import Derived.OneCell
import Derived.Laws.Strings
import Derived.Laws.Strings2
import Derived.Laws.Strings3
import Derived.Laws.Slices
set_option linter.unusedVariables false
namespace Go.Proofs.YtokmbobfilljeaaDoor.Lx
open Go.RowKit Go.Proofs

theorem infoTok : (Tryd.prog.info? 30).map (fun i => (i.zero, i.size, i.bytes)) = some (some (.agg #[.int .i64 0, .int .i64 0, .string ByteArray.empty]), 3, 32) := by kernel_rfl

theorem fields_signs (w : World) (htab : Lib.TabIs Tryd.prog w "strings.asciiSpace" .u8 Lib.asciiSpaceTab) :
    Calls Tryd.prog 21 #[.string ⟨#[62, 61, 32, 60, 61, 32, 91, 32, 93, 32, 44, 32, 59, 32, 43, 32, 61]⟩] w fun e w' =>
      e = .returned (.slice (some ⟨w.heap.size, 0, none⟩) 8 8) ∧ w' = w.alloc (.cells (signs.map fun l => Value.string ⟨l.toArray⟩).toArray 9) := by
  have h := Tryd.strings_Fields ⟨#[62, 61, 32, 60, 61, 32, 91, 32, 93, 32, 44, 32, 59, 32, 43, 32, 61]⟩ w (by decide) (by
    intro j b hj
    have : b ∈ ([62, 61, 32, 60, 61, 32, 91, 32, 93, 32, 44, 32, 59, 32, 43, 32, 61] : List UInt8) := List.mem_of_getElem? hj
    have hall : ∀ b ∈ ([62, 61, 32, 60, 61, 32, 91, 32, 93, 32, 44, 32, 59, 32, 43, 32, 61] : List UInt8), b.toNat < 128 := by decide
    exact hall b this) htab
  have hf : Lib.fields ([62, 61, 32, 60, 61, 32, 91, 32, 93, 32, 44, 32, 59, 32, 43, 32, 61] : List UInt8) = signs := by decide +kernel
  rw [show (⟨#[62, 61, 32, 60, 61, 32, 91, 32, 93, 32, 44, 32, 59, 32, 43, 32, 61]⟩ : ByteArray).data.toList = [62, 61, 32, 60, 61, 32, 91, 32, 93, 32, 44, 32, 59, 32, 43, 32, 61] from rfl, hf] at h
  exact h

theorem hb_cells {W : World} {g : Nat} {x y : Value} {T : TypeId} (h : W.heap[g]? = some (.cells #[x, y] T (0, 0))) : W.cell? ⟨g, 0, none⟩ = some x ∧ W.cell? ⟨g, 1, none⟩ = some y ∧ W.frozen? ⟨g, 0, none⟩ = false ∧ W.frozen? ⟨g, 1, none⟩ = false ∧ g < W.heap.size := by
  refine ⟨by rw [Lib.cell_of_heap h]; rfl, by rw [Lib.cell_of_heap h]; rfl, Lib.frozen_of_heap h 0, Lib.frozen_of_heap h 1, ?_⟩
  exact (Array.getElem?_eq_some_iff.1 h).1

theorem own_slice {w : World} {base n : Nat} {e : TypeId} {size : Nat} {v : Value} {xs : List Value} (h : w.ownsRow base e size v n xs) : ∃ A c, v = .slice A n c := by
  rcases h.2 with ⟨rfl, rfl⟩ | ⟨g, cap, cur, rfl, _⟩
  · exact ⟨none, 0, rfl⟩
  · exact ⟨_, cap, rfl⟩
theorem own_weaken {w : World} {base base' n : Nat} {e : TypeId} {size : Nat} {v : Value} {xs : List Value} (h : w.ownsRow base e size v n xs) (hb : base' ≤ base) : w.ownsRow base' e size v n xs := by
  obtain ⟨h1, h2⟩ := h
  refine ⟨h1, ?_⟩
  rcases h2 with h2 | ⟨g, cap, cur, hv, hg, r⟩
  · exact .inl h2
  · exact .inr ⟨g, cap, cur, hv, Nat.le_trans hb hg, r⟩
theorem own_ne {w : World} {base n : Nat} {e : TypeId} {size : Nat} {v : Value} {xs : List Value} (h : w.ownsRow base e size v n xs) {g : Nat} (hg : g < base) : some g ≠ v.ownBlock := by
  rcases h.2 with ⟨rfl, _⟩ | ⟨g', cap, cur, rfl, hb, _⟩
  · simp [Value.ownBlock]
  · simp [Value.ownBlock]; omega
theorem cells_one3 (W : World) (x y z : Value) (T : TypeId) : ∀ j u, ([x, y, z] : List Value)[j]? = some u → (W.alloc (.cells #[x, y, z] T)).cell? ((⟨W.heap.size, 0, none⟩ : Addr).add j) = some u := by
  intro j u hj
  have hh : (W.alloc (.cells #[x, y, z] T)).heap[W.heap.size]? = some (.cells #[x, y, z] T (0, 0)) := by show (W.heap.push _)[W.heap.size]? = _; simp
  match j, hj with
  | 0, hj => simp at hj; subst hj; show World.cell? _ ⟨W.heap.size, 0, none⟩ = _; rw [Lib.cell_of_heap hh]; rfl
  | 1, hj => simp at hj; subst hj; show World.cell? _ ⟨W.heap.size, 1, none⟩ = _; rw [Lib.cell_of_heap hh]; rfl
  | 2, hj => simp at hj; subst hj; show World.cell? _ ⟨W.heap.size, 2, none⟩ = _; rw [Lib.cell_of_heap hh]; rfl

theorem str_eq (s : ByteArray) (k j : Nat) : s.extract k j = ⟨((s.data.toList.drop k).take (j - k)).toArray⟩ := by
  have h := Lib.extract_data s k j
  apply ByteArray.ext
  rw [← h]
theorem old2 {W : World} {i : Nat} (h : i < W.heap.size) (o o' : Obj) : ((W.alloc o).alloc o').heap[i]? = W.heap[i]? := by
  rw [Lib.alloc_old _ _ _ (by simp; omega), Lib.alloc_old _ _ _ h]
theorem old3 {W : World} {i : Nat} (h : i < W.heap.size) (o o' o'' : Obj) : (((W.alloc o).alloc o').alloc o'').heap[i]? = W.heap[i]? := by
  rw [Lib.alloc_old _ _ _ (by simp; omega), old2 h]
theorem signs_pos (n : Nat) (h : n < 8) : 0 < (signs[n]'h).length := by
  have : ∀ i : Fin 8, 0 < (signs[i.1]'i.2).length := by decide
  exact this ⟨n, h⟩
theorem signs_cell (W : World) (g : Nat) (hg : W.heap.size = g) (n : Nat) (h : n < 8) : (W.alloc (.cells (signs.map fun l => Value.string ⟨l.toArray⟩).toArray 9)).cell? ⟨g, n, none⟩ = some (.string ⟨(signs[n]'h).toArray⟩) := by
  subst hg
  have hh : (W.alloc (.cells (signs.map fun l => Value.string ⟨l.toArray⟩).toArray 9)).heap[W.heap.size]? = some (.cells (signs.map fun l => Value.string ⟨l.toArray⟩).toArray 9 (0, 0)) := by show (W.heap.push _)[W.heap.size]? = _; simp
  rw [Lib.cell_of_heap hh]
  have h' : n < signs.length := h
  simp [h']
  rfl
theorem empty_eq : ByteArray.empty = ⟨#[]⟩ := rfl
theorem byte_eq (b : UInt8) (n : Int) (h : (b.toNat : Int) = n) : ((b.toNat : Int) == n) = true := by rw [h]; simp
theorem byte_ne (b : UInt8) (n : Int) (h : (b.toNat : Int) ≠ n) : ((b.toNat : Int) == n) = false := by rw [beq_eq_false_iff_ne]; exact h
theorem signIn_drop (s : List UInt8) (ws : List (List UInt8)) (i : Nat) (h : i < ws.length) : signIn (ws.drop i) s = if ws[i].isPrefixOf s then some ws[i].length else signIn (ws.drop (i + 1)) s := by
  rw [List.drop_eq_getElem_cons h]; rfl

set_option maxHeartbeats 16000000 in
set_option maxRecDepth 100000 in
theorem scan_any (s : ByteArray) (hs : s.size ≤ 16000) (w : World) (htab : Lib.TabIs Tryd.prog w "strings.asciiSpace" .u8 Lib.asciiSpaceTab) :
    Calls Tryd.prog 9 #[.string s] w (ScanPost (lex 0 s.data.toList) w) := by
  obtain ⟨i0, hi, hz0, hz1, hz2⟩ := info_parts infoTok
  have Htab := Lib.hid (Lib.tabBelow_of_tabIs htab)
  clear htab
  have Hi := Lib.hid hi
  have Hz0 := Lib.hid hz0
  have Hz1 := Lib.hid hz1
  have Hz2 := Lib.hid hz2
  clear hi hz0 hz1 hz2
  go_enter Tryd.func9, Tryd.ntmps9
  go_wp2
  go_loopw [4, 5] (fun v a wr => ScanRel s w v a wr) (fun _ a _ => s.size - (intOf a).toNat)
  case atStart =>
    exact ⟨0, [], rfl, Nat.zero_le _, Nat.zero_le _, by rw [ahead_nil]; rfl, World.ownsRow_nil _ _ _ _, by show (w.heap.push _)[w.heap.size]? = _; simp, (Below.refl _ _).alloc (Nat.le_refl _) _⟩
  case round =>
    obtain ⟨k, pre, rfl, hk, hp, ha, ho, hb, hB⟩ := hrel
    have Ha := Lib.hid ha
    have Hb := Lib.hid hb
    obtain ⟨c0, c1, f0, f1, hlt⟩ := hb_cells hb
    obtain ⟨A, cp, rfl⟩ := own_slice ho
    clear ha hb
    have hlen : ((pre.length : Int) == 16384) = false := by rw [beq_eq_false_iff_ne]; omega
    by_cases hlk : k < s.size
    · have Hd := Lib.hid (drop_cons s k hlk)
      have hsl := step_le (s.data.toList.drop k)
      have Hsl := Lib.hid hsl
      clear hsl
      by_cases h35 : s[k].toNat = 35
      · have b35 := byte_eq s[k] 35 (by omega)
        have Hst : Hid (step (s.data.toList.drop k) = .skip (spanLen notLine (s.data.toList.drop k))) := Lib.hid (by rw [Hd.out]; exact step_hash h35)
        clear h35
        obtain ⟨n, Hn⟩ : ∃ n, Hid (spanLen notLine (s.data.toList.drop k) = n) := ⟨_, Lib.hid rfl⟩
        rw [Hn.out] at Hst
        have HR' := Lib.hid (fun w => run_notLine s k (by omega) (by omega) w (k + n) (by rw [Hn.out]))
        go_wp2_with fail
        refine (HR'.out _).mono ?_
        rintro e w' ⟨rfl, rfl⟩
        go_wp2
        go_roundw
        case rel => have h := rel_skip (wr := wr.alloc (.cells #[.int .i64 0, .int .i64 k, .string ⟨#[]⟩] 30)) hlk Hst.out hp Ha.out (ho.alloc _) (by rw [Lib.alloc_old _ _ _ hlt]; exact Hb.out) (hB.alloc hB.size _); simpa using h
        case measure =>
          have := (step_le (s.data.toList.drop k)).1 _ Hst.out
          simp [intOf] at this ⊢
          omega
      · have b35 := byte_ne s[k] 35 (by omega)
        by_cases h32 : s[k].toNat = 32
        · have b32 := byte_eq s[k] 32 (by omega)
          have Hst : Hid (step (s.data.toList.drop k) = .skip 1) := Lib.hid (by rw [Hd.out]; exact step_blank (by omega))
          clear h35 h32
          go_wp2
          go_roundw
          case rel => have h := rel_skip (wr := wr.alloc (.cells #[.int .i64 0, .int .i64 k, .string ⟨#[]⟩] 30)) hlk Hst.out hp Ha.out (ho.alloc _) (by rw [Lib.alloc_old _ _ _ hlt]; exact Hb.out) (hB.alloc hB.size _); simpa using h
          case measure =>
            have := (step_le (s.data.toList.drop k)).1 _ Hst.out
            simp [intOf] at this ⊢
            omega
        have b32 := byte_ne s[k] 32 (by omega)
        by_cases h9 : s[k].toNat = 9
        · have b9 := byte_eq s[k] 9 (by omega)
          have Hst : Hid (step (s.data.toList.drop k) = .skip 1) := Lib.hid (by rw [Hd.out]; exact step_blank (by omega))
          clear h35 h32 h9
          go_wp2
          go_roundw
          case rel => have h := rel_skip (wr := wr.alloc (.cells #[.int .i64 0, .int .i64 k, .string ⟨#[]⟩] 30)) hlk Hst.out hp Ha.out (ho.alloc _) (by rw [Lib.alloc_old _ _ _ hlt]; exact Hb.out) (hB.alloc hB.size _); simpa using h
          case measure =>
            have := (step_le (s.data.toList.drop k)).1 _ Hst.out
            simp [intOf] at this ⊢
            omega
        have b9 := byte_ne s[k] 9 (by omega)
        by_cases h13 : s[k].toNat = 13
        · have b13 := byte_eq s[k] 13 (by omega)
          have Hst : Hid (step (s.data.toList.drop k) = .skip 1) := Lib.hid (by rw [Hd.out]; exact step_blank (by omega))
          clear h35 h32 h9 h13
          go_wp2
          go_roundw
          case rel => have h := rel_skip (wr := wr.alloc (.cells #[.int .i64 0, .int .i64 k, .string ⟨#[]⟩] 30)) hlk Hst.out hp Ha.out (ho.alloc _) (by rw [Lib.alloc_old _ _ _ hlt]; exact Hb.out) (hB.alloc hB.size _); simpa using h
          case measure =>
            have := (step_le (s.data.toList.drop k)).1 _ Hst.out
            simp [intOf] at this ⊢
            omega
        have b13 := byte_ne s[k] 13 (by omega)
        by_cases h10 : s[k].toNat = 10
        · have b10 := byte_eq s[k] 10 (by omega)
          have Hst : Hid (step (s.data.toList.drop k) = .tok 3 1) := Lib.hid (by rw [Hd.out]; exact step_line h10)
          clear h35 h32 h9 h13 h10
          obtain ⟨j, Hj⟩ : ∃ j, Hid (k + 1 = j) := ⟨_, Lib.hid rfl⟩
          have hkj : k < j := by have := Hj.out; omega
          have hkj' : k ≤ j := by omega
          have hjs : j ≤ s.size := by have := Hj.out; omega
          have HO := ho.alloc (.cells #[.int .i64 3, .int .i64 k, .string (s.extract k j)] 30)
          have HBT := hB.alloc hB.size (.cells #[.int .i64 3, .int .i64 k, .string (s.extract k j)] 30)
          go_wp2_with fail
          rw [run_slice_string _ 9 s .i64 .i64 k ((k : Int) + 1) Tryd.underlying9 (by omega) (by omega) (by omega)]
          simp only [Result.andThen]
          rw [Oper.upon_value, show ((k : Int) + 1).toNat = j from by have := Hj.out; omega]
          go_wp2_with (at_builtin; refine wpList_append_own _ rfl _ _ 23 rfl (w.heap.size + 1) 30 i0 (.agg #[.int .i64 0, .int .i64 0, .string ByteArray.empty]) 3 32 Tryd.underlying23 Hi.out Hz0.out Hz1.out Hz2.out rfl (by decide) _ _ _ rfl (HO.alloc _) ⟨wr.heap.size + 1, 0, none⟩ 1 1 [.int .i64 3, .int .i64 k, .string (s.extract k j)] rfl rfl ?c1 ?c2 ?c3 ?c4 ?c5 ?_)
          case c1 => have h := cells_one3 (wr.alloc (.cells #[.int .i64 3, .int .i64 k, .string (s.extract k j)] 30)) (.int .i64 3) (.int .i64 k) (.string (s.extract k j)) 30; simpa using h
          case c2 => intro u hu; simp at hu; rcases hu with rfl | rfl | rfl <;> rfl
          case c3 => unfold maxLen; omega
          case c4 => omega
          case c5 => simp; omega
          intro v' w2 hown' hgrow _
          have hb2 : w2.heap[w.heap.size]? = some (.cells #[.int .i64 0, .int .i64 0] 26 (0, 0)) := by
            rw [hgrow.block _ (by simp; omega) (own_ne ho (by omega))]; rw [old2 hlt]; exact Hb.out
          have HB2 : Below w.heap.size w w2 := (HBT.alloc HBT.size _).grown hgrow (by simp; omega) (fun g hg => by rcases Nat.lt_or_ge g (w.heap.size + 1) with h | h; exact absurd hg.symm (own_ne ho h); omega)
          have Hb2 := Lib.hid hb2
          clear hb2
          obtain ⟨A', cp', rfl⟩ := own_slice hown'
          go_wp2
          go_roundw
          case rel => have h := rel_tok hlk Hst.out hp Ha.out (by simpa [tokCells, str_eq, ← Hj.out] using hown') Hb2.out HB2; simpa using h
          case measure => simp [intOf]; omega
        have b10 := byte_ne s[k] 10 (by omega)
        cases hL : isLetter s[k]
        · have HL := Lib.hid hL
          clear hL
          by_cases h45 : s[k].toNat = 45
          · have b45 := byte_eq s[k] 45 (by omega)
            have Hst0 : Hid (step (s.data.toList.drop k) = Step.of 1 (numLen (s.data.toList.drop k))) := Lib.hid (by rw [Hd.out]; exact step_num (.inl h45))
            clear h35 h32 h9 h13 h10 h45
            cases hN : numLen (s.data.toList.drop k) with
            | none =>
              have Hst : Hid (step (s.data.toList.drop k) = .bad) := Lib.hid (by rw [Hst0.out, hN]; rfl)
              have HR' := Lib.hid (fun w => number_any s k hlk (by omega) w (-1) (by rw [hN]; rfl))
              clear hN
              go_wp2_with fail
              refine (letter_any _ _).mono ?_
              rintro e w' ⟨rfl, rfl⟩
              rw [HL.out]
              go_wp2_with fail
              refine (HR'.out _).mono ?_
              rintro e w' ⟨rfl, rfl⟩
              have HE := Lib.hid (rel_bad hlk Hst.out Ha.out)
              go_wp2
              have hV : (((wr.setCell ⟨w.heap.size, 0, none⟩ (.int .i64 2)).setCell ⟨w.heap.size, 1, none⟩ (.int .i64 k)).alloc (.cells #[.int .i64 1, .int .i64 k, .string ⟨#[]⟩] 30)).heap[w.heap.size]? = some (.cells #[.int .i64 2, .int .i64 k] 26 (0, 0)) := by
                rw [Lib.alloc_old _ _ _ (by simpa using hlt), heap_setCell_same _ _ 1 #[.int .i64 2, .int .i64 0] 26 _ (by rw [heap_setCell_same _ _ 0 _ _ _ Hb.out]; simp)]; simp
              obtain ⟨z0, z1, _⟩ := hb_cells hV
              refine bodyPost_ret (v := .tuple #[.slice none 0 0, .agg #[.int .i64 2, .int .i64 k]]) (by simp [results, Tryd.results9, go_sem, z0, z1]) rfl ?_
              exact scanPost_bad HE.out rfl (((hB.setCell (p := ⟨w.heap.size, 0, none⟩) (Nat.le_refl _) _).setCell (p := ⟨w.heap.size, 1, none⟩) (Nat.le_refl _) _).alloc (by simpa using hB.size) _)
            | some n =>
              have Hst : Hid (step (s.data.toList.drop k) = .tok 1 n) := Lib.hid (by rw [Hst0.out, hN]; rfl)
              obtain ⟨j, Hj⟩ : ∃ j, Hid (k + n = j) := ⟨_, Lib.hid rfl⟩
              have hnn := Hsl.out.2 _ _ Hst.out
              have hkj : k < j := by have := Hj.out; omega
              have hkj' : k ≤ j := by omega
              have hjs : j ≤ s.size := by have := Hj.out; simp at hnn; omega
              clear hnn
              have HR' := Lib.hid (fun w => number_any s k hlk (by omega) w (j : Int) (by rw [hN, ← Hj.out]; simp [numRes]))
              clear hN
              have HO := ho.alloc (.cells #[.int .i64 1, .int .i64 k, .string (s.extract k j)] 30)
              have HBT := hB.alloc hB.size (.cells #[.int .i64 1, .int .i64 k, .string (s.extract k j)] 30)
              go_wp2_with fail
              refine (letter_any _ _).mono ?_
              rintro e w' ⟨rfl, rfl⟩
              rw [HL.out]
              go_wp2_with fail
              refine (HR'.out _).mono ?_
              rintro e w' ⟨rfl, rfl⟩
              go_wp2_with (at_builtin; refine wpList_append_own _ rfl _ _ 23 rfl (w.heap.size + 1) 30 i0 (.agg #[.int .i64 0, .int .i64 0, .string ByteArray.empty]) 3 32 Tryd.underlying23 Hi.out Hz0.out Hz1.out Hz2.out rfl (by decide) _ _ _ rfl (HO.alloc _) ⟨wr.heap.size + 1, 0, none⟩ 1 1 [.int .i64 1, .int .i64 k, .string (s.extract k j)] rfl rfl ?c1 ?c2 ?c3 ?c4 ?c5 ?_)
              case c1 => have h := cells_one3 (wr.alloc (.cells #[.int .i64 1, .int .i64 k, .string (s.extract k j)] 30)) (.int .i64 1) (.int .i64 k) (.string (s.extract k j)) 30; simpa using h
              case c2 => intro u hu; simp at hu; rcases hu with rfl | rfl | rfl <;> rfl
              case c3 => unfold maxLen; omega
              case c4 => omega
              case c5 => simp; omega
              intro v' w2 hown' hgrow _
              have hb2 : w2.heap[w.heap.size]? = some (.cells #[.int .i64 0, .int .i64 0] 26 (0, 0)) := by
                rw [hgrow.block _ (by simp; omega) (own_ne ho (by omega))]; rw [old2 hlt]; exact Hb.out
              have HB2 : Below w.heap.size w w2 := (HBT.alloc HBT.size _).grown hgrow (by simp; omega) (fun g hg => by rcases Nat.lt_or_ge g (w.heap.size + 1) with h | h; exact absurd hg.symm (own_ne ho h); omega)
              have Hb2 := Lib.hid hb2
              clear hb2
              obtain ⟨A', cp', rfl⟩ := own_slice hown'
              go_wp2
              go_roundw
              case rel => rw [← Hj.out]; exact rel_tok hlk Hst.out hp Ha.out (by simpa [tokCells, str_eq, ← Hj.out] using hown') Hb2.out HB2
              case measure => simp [intOf]; omega
          · have b45 := byte_ne s[k] 45 (by omega)
            cases hG : isDigit s[k]
            · have HG := Lib.hid hG
              clear hG
              have Hst0 : Hid (step (s.data.toList.drop k) = Step.of 2 (signIn signs (s.data.toList.drop k))) := Lib.hid (by rw [Hd.out]; exact step_sign h35 (by omega) h10 HL.out h45 HG.out)
              clear h35 h32 h9 h13 h10 h45
              obtain ⟨SG, HSG⟩ : ∃ SG, Hid (signIn signs (s.data.toList.drop k) = SG) := ⟨_, Lib.hid rfl⟩
              rw [HSG.out] at Hst0
              have HB1 : Below w.heap.size w (wr.alloc (.cells #[.int .i64 2, .int .i64 k, .string ⟨#[]⟩] 30)) := hB.alloc hB.size _
              go_wp2_with fail
              refine (letter_any _ _).mono ?_
              rintro e w' ⟨rfl, rfl⟩
              rw [HL.out]
              go_wp2_with fail
              refine (digit_any _ _).mono ?_
              rintro e w' ⟨rfl, rfl⟩
              rw [HG.out]
              go_wp2_with fail
              refine (fields_signs _ (Htab.out _ HB1)).mono ?_
              rintro e w' ⟨rfl, rfl⟩
              go_wp2
              go_loop [7, 70] (fun e i => e = .int .i64 k ∧ ∃ n : Nat, i = .int .i64 n ∧ n ≤ 8 ∧ signIn (signs.drop n) (s.data.toList.drop k) = SG) (fun _ i => 8 - (intOf i).toNat)
              case atStart => exact ⟨rfl, 0, rfl, by omega, HSG.out⟩
              case round =>
                obtain ⟨rfl, n, rfl, hn, hsg⟩ := hrel
                have Hsg := Lib.hid hsg
                clear hsg
                by_cases hn8 : n < 8
                · obtain ⟨p, Hp⟩ : ∃ p : ByteArray, Hid (p = ⟨(signs[n]'hn8).toArray⟩) := ⟨_, Lib.hid rfl⟩
                  have hpl : Hid (p.data.toList = signs[n]'hn8) := Lib.hid (by rw [Hp.out])
                  have hps : 0 < p.size := by rw [Lib.size_eq, hpl.out]; exact signs_pos n hn8
                  have hcell : ((wr.alloc (.cells #[.int .i64 2, .int .i64 k, .string ⟨#[]⟩] 30)).alloc (.cells (signs.map fun l => Value.string ⟨l.toArray⟩).toArray 9)).cell? ⟨wr.heap.size + 1, n, none⟩ = some (.string p) := by rw [Hp.out]; exact signs_cell (wr.alloc _) _ (by simp) n hn8
                  have hsd := signIn_drop (s.data.toList.drop k) signs n hn8
                  have Hsd := Lib.hid hsd
                  clear hsd
                  cases hpre : (signs[n]'hn8).isPrefixOf (s.data.toList.drop k)
                  · have HP := fun W => Tryd.strings_HasPrefix (s.extract k s.size) p W
                    rw [Lib.extract_to_end, hpl.out, show Lib.hasPrefix (s.data.toList.drop k) (signs[n]'hn8) = false from hpre] at HP
                    have HP' := Lib.hid HP
                    have Hno : Hid (signIn (signs.drop (n + 1)) (s.data.toList.drop k) = SG) := Lib.hid (by rw [← Hsg.out, Hsd.out, hpre]; rfl)
                    clear HP hpre
                    go_wp2_with fail
                    refine (HP'.out _).mono ?_
                    rintro e w' ⟨rfl, rfl⟩
                    go_wp2
                    go_round
                    case rel => exact ⟨rfl, n + 1, by go_num, by omega, Hno.out⟩
                    case measure => simp [intOf]; omega
                  · have HP := fun W => Tryd.strings_HasPrefix (s.extract k s.size) p W
                    rw [Lib.extract_to_end, hpl.out, show Lib.hasPrefix (s.data.toList.drop k) (signs[n]'hn8) = true from hpre] at HP
                    have HP' := Lib.hid HP
                    have hsg : SG = some p.size := by rw [← Hsg.out, Hsd.out, hpre, Lib.size_eq, hpl.out]; rfl
                    have Hst : Hid (step (s.data.toList.drop k) = .tok 2 p.size) := Lib.hid (by rw [Hst0.out, hsg]; rfl)
                    clear HP hpre hsg
                    obtain ⟨j, Hj⟩ : ∃ j, Hid (k + p.size = j) := ⟨_, Lib.hid rfl⟩
                    have hnn := Hsl.out.2 _ _ Hst.out
                    have hkj : k < j := by have := Hj.out; omega
                    have hjs : j ≤ s.size := by have := Hj.out; simp at hnn; omega
                    have hkp : k + p.size ≤ 16000 := by have := Hj.out; omega
                    clear hnn
                    have HO := (ho.alloc (.cells #[.int .i64 2, .int .i64 k, .string (s.extract k j)] 30)).alloc (.cells (signs.map fun l => Value.string ⟨l.toArray⟩).toArray 9)
                    have HBT := (hB.alloc hB.size (.cells #[.int .i64 2, .int .i64 k, .string (s.extract k j)] 30)).alloc (by simp; omega) (.cells (signs.map fun l => Value.string ⟨l.toArray⟩).toArray 9)
                    go_wp2_with fail
                    refine (HP'.out _).mono ?_
                    rintro e w' ⟨rfl, rfl⟩
                    go_wp2_with fail
                    rw [run_slice_string _ 9 s .i64 .i64 k ((k : Int) + (p.size : Int)) Tryd.underlying9 (by omega) (by omega) (by have := Hj.out; omega)]
                    simp only [Result.andThen]
                    rw [Oper.upon_value, show ((k : Int) + (p.size : Int)).toNat = j from by have := Hj.out; omega]
                    go_wp2_with (at_builtin; refine wpList_append_own _ rfl _ _ 23 rfl (w.heap.size + 1) 30 i0 (.agg #[.int .i64 0, .int .i64 0, .string ByteArray.empty]) 3 32 Tryd.underlying23 Hi.out Hz0.out Hz1.out Hz2.out rfl (by decide) _ _ _ rfl (HO.alloc _) ⟨wr.heap.size + 2, 0, none⟩ 1 1 [.int .i64 2, .int .i64 k, .string (s.extract k j)] rfl rfl ?c1 ?c2 ?c3 ?c4 ?c5 ?_)
                    case c1 => have h := cells_one3 ((wr.alloc (.cells #[.int .i64 2, .int .i64 k, .string (s.extract k j)] 30)).alloc (.cells (signs.map fun l => Value.string ⟨l.toArray⟩).toArray 9)) (.int .i64 2) (.int .i64 k) (.string (s.extract k j)) 30; simpa using h
                    case c2 => intro u hu; simp at hu; rcases hu with rfl | rfl | rfl <;> rfl
                    case c3 => unfold maxLen; omega
                    case c4 => omega
                    case c5 => simp; omega
                    intro v' w2 hown' hgrow _
                    have hb2 : w2.heap[w.heap.size]? = some (.cells #[.int .i64 0, .int .i64 0] 26 (0, 0)) := by
                      rw [hgrow.block _ (by simp; omega) (own_ne ho (by omega))]; rw [old3 hlt]; exact Hb.out
                    have HB2 : Below w.heap.size w w2 := (HBT.alloc HBT.size _).grown hgrow (by simp; omega) (fun g hg => by rcases Nat.lt_or_ge g (w.heap.size + 1) with h | h; exact absurd hg.symm (own_ne ho h); omega)
                    have Hb2 := Lib.hid hb2
                    clear hb2
                    obtain ⟨A', cp', rfl⟩ := own_slice hown'
                    go_wp2
                    go_roundw
                    case rel => have h := rel_tok hlk Hst.out hp Ha.out (by simpa [tokCells, str_eq, ← Hj.out] using hown') Hb2.out HB2; simpa using h
                    case measure => simp [intOf]; omega
                · have hsg : SG = none := by rw [← Hsg.out, show n = 8 from by omega]; rfl
                  have Hst : Hid (step (s.data.toList.drop k) = .bad) := Lib.hid (by rw [Hst0.out, hsg]; rfl)
                  clear hsg
                  have HE := Lib.hid (rel_bad hlk Hst.out Ha.out)
                  go_wp2
                  have hV : ((((wr.setCell ⟨w.heap.size, 0, none⟩ (.int .i64 2)).setCell ⟨w.heap.size, 1, none⟩ (.int .i64 k)).alloc (.cells #[.int .i64 2, .int .i64 k, .string ⟨#[]⟩] 30)).alloc (.cells (signs.map fun l => Value.string ⟨l.toArray⟩).toArray 9)).heap[w.heap.size]? = some (.cells #[.int .i64 2, .int .i64 k] 26 (0, 0)) := by
                    rw [old2 (by simpa using hlt), heap_setCell_same _ _ 1 #[.int .i64 2, .int .i64 0] 26 _ (by rw [heap_setCell_same _ _ 0 _ _ _ Hb.out]; simp)]; simp
                  obtain ⟨z0, z1, _⟩ := hb_cells hV
                  refine bodyPost_ret (v := .tuple #[.slice none 0 0, .agg #[.int .i64 2, .int .i64 k]]) (by simp [results, Tryd.results9, go_sem, z0, z1]) rfl ?_
                  exact scanPost_bad HE.out rfl ((((hB.setCell (p := ⟨w.heap.size, 0, none⟩) (Nat.le_refl _) _).setCell (p := ⟨w.heap.size, 1, none⟩) (Nat.le_refl _) _).alloc (by simpa using hB.size) _).alloc (by have := hB.size; simp; omega) _)
            · have HG := Lib.hid hG
              clear hG
              have Hst0 : Hid (step (s.data.toList.drop k) = Step.of 1 (numLen (s.data.toList.drop k))) := Lib.hid (by rw [Hd.out]; exact step_num (.inr HG.out))
              clear h35 h32 h9 h13 h10 h45
              cases hN : numLen (s.data.toList.drop k) with
              | none =>
                have Hst : Hid (step (s.data.toList.drop k) = .bad) := Lib.hid (by rw [Hst0.out, hN]; rfl)
                have HR' := Lib.hid (fun w => number_any s k hlk (by omega) w (-1) (by rw [hN]; rfl))
                clear hN
                go_wp2_with fail
                refine (letter_any _ _).mono ?_
                rintro e w' ⟨rfl, rfl⟩
                rw [HL.out]
                go_wp2_with fail
                refine (digit_any _ _).mono ?_
                rintro e w' ⟨rfl, rfl⟩
                rw [HG.out]
                go_wp2_with fail
                refine (HR'.out _).mono ?_
                rintro e w' ⟨rfl, rfl⟩
                have HE := Lib.hid (rel_bad hlk Hst.out Ha.out)
                go_wp2
                have hV : (((wr.setCell ⟨w.heap.size, 0, none⟩ (.int .i64 2)).setCell ⟨w.heap.size, 1, none⟩ (.int .i64 k)).alloc (.cells #[.int .i64 1, .int .i64 k, .string ⟨#[]⟩] 30)).heap[w.heap.size]? = some (.cells #[.int .i64 2, .int .i64 k] 26 (0, 0)) := by
                  rw [Lib.alloc_old _ _ _ (by simpa using hlt), heap_setCell_same _ _ 1 #[.int .i64 2, .int .i64 0] 26 _ (by rw [heap_setCell_same _ _ 0 _ _ _ Hb.out]; simp)]; simp
                obtain ⟨z0, z1, _⟩ := hb_cells hV
                refine bodyPost_ret (v := .tuple #[.slice none 0 0, .agg #[.int .i64 2, .int .i64 k]]) (by simp [results, Tryd.results9, go_sem, z0, z1]) rfl ?_
                exact scanPost_bad HE.out rfl (((hB.setCell (p := ⟨w.heap.size, 0, none⟩) (Nat.le_refl _) _).setCell (p := ⟨w.heap.size, 1, none⟩) (Nat.le_refl _) _).alloc (by simpa using hB.size) _)
              | some n =>
                have Hst : Hid (step (s.data.toList.drop k) = .tok 1 n) := Lib.hid (by rw [Hst0.out, hN]; rfl)
                obtain ⟨j, Hj⟩ : ∃ j, Hid (k + n = j) := ⟨_, Lib.hid rfl⟩
                have hnn := Hsl.out.2 _ _ Hst.out
                have hkj : k < j := by have := Hj.out; omega
                have hkj' : k ≤ j := by omega
                have hjs : j ≤ s.size := by have := Hj.out; simp at hnn; omega
                clear hnn
                have HR' := Lib.hid (fun w => number_any s k hlk (by omega) w (j : Int) (by rw [hN, ← Hj.out]; simp [numRes]))
                clear hN
                have HO := ho.alloc (.cells #[.int .i64 1, .int .i64 k, .string (s.extract k j)] 30)
                have HBT := hB.alloc hB.size (.cells #[.int .i64 1, .int .i64 k, .string (s.extract k j)] 30)
                go_wp2_with fail
                refine (letter_any _ _).mono ?_
                rintro e w' ⟨rfl, rfl⟩
                rw [HL.out]
                go_wp2_with fail
                refine (digit_any _ _).mono ?_
                rintro e w' ⟨rfl, rfl⟩
                rw [HG.out]
                go_wp2_with fail
                refine (HR'.out _).mono ?_
                rintro e w' ⟨rfl, rfl⟩
                go_wp2_with (at_builtin; refine wpList_append_own _ rfl _ _ 23 rfl (w.heap.size + 1) 30 i0 (.agg #[.int .i64 0, .int .i64 0, .string ByteArray.empty]) 3 32 Tryd.underlying23 Hi.out Hz0.out Hz1.out Hz2.out rfl (by decide) _ _ _ rfl (HO.alloc _) ⟨wr.heap.size + 1, 0, none⟩ 1 1 [.int .i64 1, .int .i64 k, .string (s.extract k j)] rfl rfl ?c1 ?c2 ?c3 ?c4 ?c5 ?_)
                case c1 => have h := cells_one3 (wr.alloc (.cells #[.int .i64 1, .int .i64 k, .string (s.extract k j)] 30)) (.int .i64 1) (.int .i64 k) (.string (s.extract k j)) 30; simpa using h
                case c2 => intro u hu; simp at hu; rcases hu with rfl | rfl | rfl <;> rfl
                case c3 => unfold maxLen; omega
                case c4 => omega
                case c5 => simp; omega
                intro v' w2 hown' hgrow _
                have hb2 : w2.heap[w.heap.size]? = some (.cells #[.int .i64 0, .int .i64 0] 26 (0, 0)) := by
                  rw [hgrow.block _ (by simp; omega) (own_ne ho (by omega))]; rw [old2 hlt]; exact Hb.out
                have HB2 : Below w.heap.size w w2 := (HBT.alloc HBT.size _).grown hgrow (by simp; omega) (fun g hg => by rcases Nat.lt_or_ge g (w.heap.size + 1) with h | h; exact absurd hg.symm (own_ne ho h); omega)
                have Hb2 := Lib.hid hb2
                clear hb2
                obtain ⟨A', cp', rfl⟩ := own_slice hown'
                go_wp2
                go_roundw
                case rel => rw [← Hj.out]; exact rel_tok hlk Hst.out hp Ha.out (by simpa [tokCells, str_eq, ← Hj.out] using hown') Hb2.out HB2
                case measure => simp [intOf]; omega
        · have HL := Lib.hid hL
          clear hL h35 h32 h9 h13 h10
          have Hst0 : Hid (step (s.data.toList.drop k) = .tok 0 (spanLen isLetter (s.data.toList.drop k))) := Lib.hid (by rw [Hd.out]; exact step_letter HL.out)
          obtain ⟨n, Hn⟩ : ∃ n, Hid (spanLen isLetter (s.data.toList.drop k) = n) := ⟨_, Lib.hid rfl⟩
          rw [Hn.out] at Hst0
          have Hst := Hst0
          obtain ⟨j, Hj⟩ : ∃ j, Hid (k + n = j) := ⟨_, Lib.hid rfl⟩
          have hnn := Hsl.out.2 _ _ Hst.out
          have hkj : k < j := by have := Hj.out; omega
          have hkj' : k ≤ j := by omega
          have hjs : j ≤ s.size := by have := Hj.out; simp at hnn; omega
          clear hnn
          have HR' := Lib.hid (fun w => run_letter s k (by omega) (by omega) w j (by rw [Hn.out]; exact Hj.out))
          have HO := ho.alloc (.cells #[.int .i64 0, .int .i64 k, .string (s.extract k j)] 30)
          have HBT := hB.alloc hB.size (.cells #[.int .i64 0, .int .i64 k, .string (s.extract k j)] 30)
          go_wp2_with fail
          refine (letter_any _ _).mono ?_
          rintro e w' ⟨rfl, rfl⟩
          rw [HL.out]
          go_wp2_with fail
          refine (HR'.out _).mono ?_
          rintro e w' ⟨rfl, rfl⟩
          go_wp2_with (at_builtin; refine wpList_append_own _ rfl _ _ 23 rfl (w.heap.size + 1) 30 i0 (.agg #[.int .i64 0, .int .i64 0, .string ByteArray.empty]) 3 32 Tryd.underlying23 Hi.out Hz0.out Hz1.out Hz2.out rfl (by decide) _ _ _ rfl (HO.alloc _) ⟨wr.heap.size + 1, 0, none⟩ 1 1 [.int .i64 0, .int .i64 k, .string (s.extract k j)] rfl rfl ?c1 ?c2 ?c3 ?c4 ?c5 ?_)
          case c1 => have h := cells_one3 (wr.alloc (.cells #[.int .i64 0, .int .i64 k, .string (s.extract k j)] 30)) (.int .i64 0) (.int .i64 k) (.string (s.extract k j)) 30; simpa using h
          case c2 => intro u hu; simp at hu; rcases hu with rfl | rfl | rfl <;> rfl
          case c3 => unfold maxLen; omega
          case c4 => omega
          case c5 => simp; omega
          intro v' w2 hown' hgrow _
          have hb2 : w2.heap[w.heap.size]? = some (.cells #[.int .i64 0, .int .i64 0] 26 (0, 0)) := by
            rw [hgrow.block _ (by simp; omega) (own_ne ho (by omega))]; rw [old2 hlt]; exact Hb.out
          have HB2 : Below w.heap.size w w2 := (HBT.alloc HBT.size _).grown hgrow (by simp; omega) (fun g hg => by rcases Nat.lt_or_ge g (w.heap.size + 1) with h | h; exact absurd hg.symm (own_ne ho h); omega)
          have Hb2 := Lib.hid hb2
          clear hb2
          obtain ⟨A', cp', rfl⟩ := own_slice hown'
          go_wp2
          go_roundw
          case rel => rw [← Hj.out]; exact rel_tok hlk Hst.out hp Ha.out (by simpa [tokCells, str_eq, ← Hj.out] using hown') Hb2.out HB2
          case measure => simp [intOf]; omega
    · go_wp2_with (at_builtin; refine wpList_append_own _ rfl _ _ 23 rfl (w.heap.size + 1) 30 i0 (.agg #[.int .i64 0, .int .i64 0, .string ByteArray.empty]) 3 32 Tryd.underlying23 Hi.out Hz0.out Hz1.out Hz2.out rfl (by decide) _ _ _ rfl (ho.alloc _) ⟨wr.heap.size, 0, none⟩ 1 1 [.int .i64 4, .int .i64 s.size, .string ByteArray.empty] rfl rfl ?c1 ?c2 ?c3 ?c4 ?c5 ?_)
      case c1 => exact cells_one3 _ _ _ _ _
      case c2 => intro u hu; simp at hu; rcases hu with rfl | rfl | rfl <;> rfl
      case c3 => unfold maxLen; omega
      case c4 => omega
      case c5 => simp; omega
      intro v' w2 hown' hgrow _
      have hb2 : w2.heap[w.heap.size]? = some (.cells #[.int .i64 0, .int .i64 0] 26 (0, 0)) := by
        rw [hgrow.block _ (by simp; omega) (own_ne ho (by omega)), Lib.alloc_old _ _ _ hlt]; exact Hb.out
      have HB2 : Below w.heap.size w w2 := (hB.alloc hB.size _).grown hgrow (by simp; omega) (fun g hg => by rcases Nat.lt_or_ge g (w.heap.size + 1) with h | h; exact absurd hg.symm (own_ne ho h); omega)
      have Hb2 := Lib.hid hb2
      obtain ⟨d0, d1, g0, g1, hlt2⟩ := hb_cells hb2
      clear hb2
      obtain ⟨A', cp', rfl⟩ := own_slice hown'
      have HR : lex 0 s.data.toList = .ok (pre ++ [⟨4, k, []⟩]) := rel_end (by omega) Ha.out
      have HR' := Lib.hid HR
      clear HR
      go_wp2
      have z0 : (w2.setCell ⟨w.heap.size, 0, none⟩ (.int .i64 0)).cell? ⟨w.heap.size, 0, none⟩ = some (.int .i64 0) := World.cell?_setCell_same' _ _ _ (by rw [d0]; rfl)
      have z1 : ((w2.setCell ⟨w.heap.size, 0, none⟩ (.int .i64 0)).setCell ⟨w.heap.size, 1, none⟩ (.int .i64 0)).cell? ⟨w.heap.size, 1, none⟩ = some (.int .i64 0) := World.cell?_setCell_same' _ _ _ (by go_simp)
      refine bodyPost_ret (v := .tuple #[.slice A' (pre.length + 1) cp', .agg #[.int .i64 0, .int .i64 0]]) (by simp [results, Tryd.results9, go_sem, z0, z1]) rfl ?_
      have hks : k = s.size := by omega
      subst hks
      refine scanPost_ok (v := .slice A' (pre.length + 1) cp') HR'.out (by simp) ?_ ?_
      · have h := ownsRow_setCell_other (ownsRow_setCell_other hown' (a := ⟨w.heap.size, 0, none⟩) (own_ne hown' (g := w.heap.size) (by omega)).symm (.int .i64 0)) (a := ⟨w.heap.size, 1, none⟩) (own_ne hown' (g := w.heap.size) (by omega)).symm (.int .i64 0)
        rw [tokCells_append]
        simpa [tokCells, empty_eq] using own_weaken h (Nat.le_succ _)
      · exact (HB2.setCell (p := ⟨w.heap.size, 0, none⟩) (Nat.le_refl _) _).setCell (p := ⟨w.heap.size, 1, none⟩) (Nat.le_refl _) _
end Go.Proofs.YtokmbobfilljeaaDoor.Lx
