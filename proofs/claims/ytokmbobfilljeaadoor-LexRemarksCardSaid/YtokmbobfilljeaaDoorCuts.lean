/- The walk of the law's head, cuts: it answers true. -/
import Derived.Test.YtokmbobfilljeaaDoorJoin
set_option linter.unusedVariables false
namespace Go.Proofs.YtokmbobfilljeaaDoor.Lx
open Go.RowKit Go.Proofs

def cutsText : List UInt8 := [97, 32, 91, 45, 49, 47, 50, 44, 32, 48, 46, 53, 93, 32, 62, 61, 32, 51, 32, 35, 32, 115, 111, 10]
def cutsToks : List Tok := [⟨0, 0, [97]⟩, ⟨2, 2, [91]⟩, ⟨1, 3, [45, 49, 47, 50]⟩, ⟨2, 7, [44]⟩, ⟨1, 9, [48, 46, 53]⟩, ⟨2, 12, [93]⟩, ⟨2, 14, [62, 61]⟩, ⟨1, 17, [51]⟩, ⟨3, 23, [10]⟩, ⟨4, 24, []⟩]
theorem cuts_lex : lex 0 cutsText = .ok cutsToks := by rfl
theorem cuts_lex2 : lex 0 [97, 32, 49, 47] = .error 2 := by rfl
theorem cuts_join : joinTo (cutsToks.take 3) 3 = [97, 32, 91, 32, 45, 49, 47, 50] := by decide

theorem own_cap {w : World} {base n c : Nat} {A : Option Addr} {m : Nat} {e : TypeId} {size : Nat} {xs : List Value} (h : w.ownsRow base e size (.slice A m c) n xs) : n ≤ c := by
  rcases h.2 with ⟨hv, hl⟩ | ⟨g, cap, cur, hv, hb, hh, h1, _⟩
  · omega
  · injection hv with _ _ hc
    omega
theorem alloc_cells2 (W : World) (x y : Value) (T : TypeId) : (W.alloc (.cells #[x, y] T)).cell? ⟨W.heap.size, 0, none⟩ = some x ∧ (W.alloc (.cells #[x, y] T)).cell? ⟨W.heap.size, 1, none⟩ = some y := by
  have h := alloc_top W (.cells #[x, y] T)
  exact ⟨by rw [Lib.cell_of_heap h]; rfl, by rw [Lib.cell_of_heap h]; rfl⟩
set_option maxHeartbeats 8000000 in
set_option maxRecDepth 100000 in
theorem cuts_any (w : World) (htab : Lib.TabIs Tryd.prog w "strings.asciiSpace" .u8 Lib.asciiSpaceTab) :
    Calls Tryd.prog 8 #[] w fun e w' => e = .returned (.bool true) ∧ Below w.heap.size w w' := by
  have Htab := Lib.hid (Lib.tabBelow_of_tabIs htab)
  have h1 := scan_any ⟨cutsText.toArray⟩ (by decide) w htab
  rw [show (⟨cutsText.toArray⟩ : ByteArray).data.toList = cutsText from rfl, cuts_lex] at h1
  have H1 := Lib.hid h1
  clear h1 htab
  go_enter Tryd.func8, Tryd.ntmps8
  go_wp2_with fail
  refine H1.out.mono ?_
  rintro e w1 ⟨v, rfl, ho, hB1⟩
  obtain ⟨A, c, rfl⟩ := own_slice ho
  obtain ⟨g, hA, hg, hcl⟩ := (TokRow.of_own ho).1 (by decide)
  subst hA
  have hcap := own_cap ho
  have hlen : cutsToks.length = 10 := rfl
  rw [hlen] at hcap
  have Hcl := Lib.hid hcl
  clear hcl ho hlen
  have hB2 := hB1.alloc hB1.size (.cells #[.int .i64 0, .int .i64 0] 26)
  have h2 := scan_any ⟨#[97, 32, 49, 47]⟩ (by decide) (w1.alloc (.cells #[.int .i64 0, .int .i64 0] 26)) (Htab.out _ hB2)
  rw [show (⟨#[97, 32, 49, 47]⟩ : ByteArray).data.toList = [97, 32, 49, 47] from rfl, cuts_lex2] at h2
  have H2 := Lib.hid h2
  clear h2
  go_wp2_with fail
  refine H2.out.mono ?_
  rintro e w2 ⟨rfl, hB3⟩
  have hB4 : Below w1.heap.size w1 w2 := ((Below.refl _ w1).alloc (Nat.le_refl _) _).trans (hB3.mono (by simp))
  have hc : ∀ j u, (tokCells cutsToks)[j]? = some u → w2.cell? ⟨g, j, none⟩ = some u := fun j u h => (hB4.cell (p := ⟨g, j, none⟩) hg).trans (Hcl.out j u h)
  have hz : w1.heap.size < w2.heap.size := by have := hB3.size; simp at this; omega
  have e0 : w2.cell? ⟨w1.heap.size, 0, none⟩ = some (.int .i64 0) := by rw [hB3.cell (p := ⟨w1.heap.size, 0, none⟩) (by simp)]; exact (alloc_cells2 w1 _ _ _).1
  have e1 : w2.cell? ⟨w1.heap.size, 1, none⟩ = some (.int .i64 0) := by rw [hB3.cell (p := ⟨w1.heap.size, 1, none⟩) (by simp)]; exact (alloc_cells2 w1 _ _ _).2
  have hg2 : g < w2.heap.size := by have := hB4.size; omega
  have h3c : 3 ≤ c := by omega
  have k0 := hc 0 _ rfl
  have k8 := hc 8 _ rfl
  have k6 := hc 6 _ rfl
  have k20 := hc 20 _ rfl
  have k18 := hc 18 _ rfl
  have k24 := hc 24 _ rfl
  have k27 := hc 27 _ rfl
  have k28 := hc 28 _ rfl
  have hrow3 : TokRow (w2.alloc (.cells #[.int .i64 2, .int .i64 2] 26)) (some ⟨g, 0, none⟩) (cutsToks.take 3) := fun _ => ⟨g, rfl, by simp; omega, fun j u hj => by
    have h' : (tokCells cutsToks)[j]? = some u := by
      have e : tokCells cutsToks = tokCells (cutsToks.take 3) ++ tokCells (cutsToks.drop 3) := by rw [← tokCells_append, List.take_append_drop]
      rw [e, List.getElem?_append_left (List.getElem?_eq_some_iff.1 hj).1]; exact hj
    exact (((Below.refl _ w2).alloc (Nat.le_refl _) _).cell (p := ⟨g, j, none⟩) hg2).trans (hc j u h')⟩
  have hj := join_any (some ⟨g, 0, none⟩) c 10 (cutsToks.take 3) _ hrow3 (by decide) (by
    intro i
    match i with
    | 0 => decide
    | 1 => decide
    | 2 => decide
    | n + 3 => simp [textAt, cutsToks])
  rw [show (cutsToks.take 3).length = 3 from rfl, cuts_join] at hj
  have Hj := Lib.hid hj
  clear hc hj hrow3
  go_wp2_with fail
  refine Hj.out.mono ?_
  rintro e w3 ⟨rfl, hB5⟩
  go_wp2
  go_ret
  exact ⟨rfl, (hB1.trans ((hB4.alloc hB4.size _).mono hB1.size)).trans (hB5.mono (by have := hB1.size; simp; omega))⟩
end Go.Proofs.YtokmbobfilljeaaDoor.Lx
