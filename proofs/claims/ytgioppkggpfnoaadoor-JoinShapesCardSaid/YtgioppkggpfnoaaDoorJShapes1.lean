/- Texts of the seat, laid together: Shapes. -/
import Derived.Test.YtgioppkggpfnoaaDoorJn7
import Derived.RegionTactic
import Derived.StillTailTactics
import Derived.Deep.RegionHeld3
import Derived.Deep.DeepCutAuto
import Derived.Deep.CutBlock
set_option linter.all false
set_option exponentiation.threshold 20000
section
/- JoinShapes: the walk of the law. -/
set_option linter.unusedVariables false
namespace Go.Proofs.YtgioppkggpfnoaaDoor.Nu
open Go.RowKit Go.Proofs

theorem hull_pt (w : World) (N : Nat) (hN : N ≤ 16) (g1 g2 g3 g4 : Nat) (hA : RZo w ⟨some ⟨g1, 0, none⟩, N, none, 0, some ⟨g2, 0, none⟩, N⟩ (ptZo N)) (hB : RZo w ⟨some ⟨g3, 0, none⟩, N, none, 0, some ⟨g4, 0, none⟩, N⟩ (ptZo N)) (ht : BTab w) :
    Calls Tryd.prog 26 #[.agg #[.slice (some ⟨g1, 0, none⟩) N N, .slice none 0 0, .slice (some ⟨g2, 0, none⟩) N N], .agg #[.slice (some ⟨g3, 0, none⟩) N N, .slice none 0 0, .slice (some ⟨g4, 0, none⟩) N N], .int .i64 30] w fun e w' => (∃ gc gg gr cg : Nat, e = .returned (.tuple #[.agg #[.slice (some ⟨gc, 0, none⟩) N N, .slice (some ⟨gg, 0, none⟩) 1 cg, .slice (some ⟨gr, 0, none⟩) N N], .int .i64 0]) ∧ RZo w' ⟨some ⟨gc, 0, none⟩, N, some ⟨gg, 0, none⟩, cg, some ⟨gr, 0, none⟩, N⟩ (hull (ptZo N) (ptZo N) 30)) ∧ Below w.heap.size w w' :=
  hull_any w (some ⟨g1, 0, none⟩) none (some ⟨g2, 0, none⟩) (some ⟨g3, 0, none⟩) none (some ⟨g4, 0, none⟩) N 0 N N 0 N (ptZo N) (ptZo N) 30 0 0 hA hB rfl (ptZo_ok hN) (ptZo_ok hN) (ptZo_lim N 0 0) (ptZo_lim N 0 0) (fun _ => rfl) (fun _ => rfl) (by show max 0 0 ≤ 2047; omega) (by show 0 + 0 + 4 * max 0 0 + 20 ≤ 16000; omega) (by omega) (by omega) ht
theorem hull_ptbad (w : World) (N M : Nat) (hN : N ≤ 16) (hnm : ¬ N = M) (g1 g2 g3 g4 : Nat) (hA : RZo w ⟨some ⟨g1, 0, none⟩, N, none, 0, some ⟨g2, 0, none⟩, N⟩ (ptZo N)) (hB : RZo w ⟨some ⟨g3, 0, none⟩, M, none, 0, some ⟨g4, 0, none⟩, M⟩ (ptZo M)) :
    Calls Tryd.prog 26 #[.agg #[.slice (some ⟨g1, 0, none⟩) N N, .slice none 0 0, .slice (some ⟨g2, 0, none⟩) N N], .agg #[.slice (some ⟨g3, 0, none⟩) M M, .slice none 0 0, .slice (some ⟨g4, 0, none⟩) M M], .int .i64 30] w fun e w' => e = .returned (.tuple #[.agg #[.slice none 0 0, .slice none 0 0, .slice none 0 0], .int .i64 20]) ∧ Below w.heap.size w w' :=
  hull_bad w (some ⟨g1, 0, none⟩) none (some ⟨g2, 0, none⟩) (some ⟨g3, 0, none⟩) none (some ⟨g4, 0, none⟩) N 0 N M 0 M (ptZo N) (ptZo M) 30 hA hB (fun e => hnm e.symm) (ptZo_ok hN) (fun _ => rfl) (fun _ => rfl)
theorem zcheck_pt (w : World) (N : Nat) (hN : N ≤ 16) (gc gg gr cg : Nat) (h : RZo w ⟨some ⟨gc, 0, none⟩, N, some ⟨gg, 0, none⟩, cg, some ⟨gr, 0, none⟩, N⟩ (hull (ptZo N) (ptZo N) 30)) :
    Calls Tryd.prog 27 #[.agg #[.slice (some ⟨gc, 0, none⟩) N N, .slice (some ⟨gg, 0, none⟩) 1 cg, .slice (some ⟨gr, 0, none⟩) N N], .int .i64 N] w fun e w' => e = .returned (.int .i64 0) ∧ Below w.heap.size w w' :=
  zcheck_good w (some ⟨gc, 0, none⟩) (some ⟨gg, 0, none⟩) (some ⟨gr, 0, none⟩) N cg N (hull (ptZo N) (ptZo N) 30) h (hull_ok (ptZo_lim N 0 0) (ptZo_lim N 0 0) rfl (ptZo_ok hN) 30 (by show max 0 0 ≤ 2047; omega) (by show 0 + 0 + 8 + 4 * max 0 0 ≤ 16384; omega)) (fun e => by cases e)

set_option maxRecDepth 100000 in
set_option maxHeartbeats 4000000 in
theorem shapes_any (w : World) (n m : Int) (ht : BTab w) :
    Calls Tryd.prog 7 #[.int .i64 n, .int .i64 m] w fun e w' => e = .returned (.bool true) ∧ Below w.heap.size w w' := by
  have HT := Lib.hid ht
  clear ht
  by_cases h0 : n < 1
  · go_enter Tryd.func7, Tryd.ntmps7
    have HB_0 := Lib.hid (show Below w.heap.size w w from Below.refl _ _)
    go_wp2_with fail
    refine (joins_any _ (HT.out.below HB_0.out)).mono ?_
    rintro e w1 ⟨rfl, hb⟩
    have K := Dk.below hb
    have HB_1 := Lib.hid (below_tr HB_0.out hb)
    clear hb
    clear K HB_0
    go_wp2
    go_ret
    exact ⟨rfl, HB_1.out⟩
  by_cases h1 : 16 < n
  · go_enter Tryd.func7, Tryd.ntmps7
    have HB_0 := Lib.hid (show Below w.heap.size w w from Below.refl _ _)
    go_wp2_with fail
    refine (joins_any _ (HT.out.below HB_0.out)).mono ?_
    rintro e w1 ⟨rfl, hb⟩
    have K := Dk.below hb
    have HB_1 := Lib.hid (below_tr HB_0.out hb)
    clear hb
    clear K HB_0
    go_wp2
    go_ret
    exact ⟨rfl, HB_1.out⟩
  by_cases h2 : m < 1
  · go_enter Tryd.func7, Tryd.ntmps7
    have HB_0 := Lib.hid (show Below w.heap.size w w from Below.refl _ _)
    go_wp2_with fail
    refine (joins_any _ (HT.out.below HB_0.out)).mono ?_
    rintro e w1 ⟨rfl, hb⟩
    have K := Dk.below hb
    have HB_1 := Lib.hid (below_tr HB_0.out hb)
    clear hb
    clear K HB_0
    go_wp2
    go_ret
    exact ⟨rfl, HB_1.out⟩
  by_cases h3 : 16 < m
  · go_enter Tryd.func7, Tryd.ntmps7
    have HB_0 := Lib.hid (show Below w.heap.size w w from Below.refl _ _)
    go_wp2_with fail
    refine (joins_any _ (HT.out.below HB_0.out)).mono ?_
    rintro e w1 ⟨rfl, hb⟩
    have K := Dk.below hb
    have HB_1 := Lib.hid (below_tr HB_0.out hb)
    clear hb
    clear K HB_0
    go_wp2
    go_ret
    exact ⟨rfl, HB_1.out⟩
  obtain ⟨N, rfl⟩ : ∃ N : Nat, n = N := ⟨n.toNat, by omega⟩
  obtain ⟨M, rfl⟩ : ∃ M : Nat, m = M := ⟨m.toNat, by omega⟩
  have kN : N ≤ 16 := by omega
  have kM : M ≤ 16 := by omega
  go_enter Tryd.func7, Tryd.ntmps7
  have HB_0 := Lib.hid (show Below w.heap.size w w from Below.refl _ _)
  go_wp2_with fail
  refine (joins_any _ (HT.out.below HB_0.out)).mono ?_
  rintro e w1 ⟨rfl, hb⟩
  have K := Dk.below hb
  have HB_1 := Lib.hid (below_tr HB_0.out hb)
  clear hb
  clear K HB_0
  go_wp2_with fail
  refine (point_any _ N kN).mono ?_
  rintro e w2 ⟨⟨g1, g2, rfl, p1, p2, p3, ho1, ho2⟩, hb⟩
  have K := Dk.below hb
  have HB_2 := Lib.hid (below_tr HB_1.out hb)
  clear hb
  clear K HB_1
  have O1 := Lib.hid ho1
  have O2 := Lib.hid ho2
  clear ho1 ho2
  go_wp2_with fail
  refine (point_any _ M kM).mono ?_
  rintro e w3 ⟨⟨g3, g4, rfl, p4, p5, p6, ho1, ho2⟩, hb⟩
  have K := Dk.below hb
  have Oa1_3 := Lib.hid (show OD _ (g1) N (fun _ => D.zero) from O1.out.below hb)
  have Oa2_4 := Lib.hid (show OD _ (g2) N (fun _ => D.zero) from O2.out.below hb)
  have HB_5 := Lib.hid (below_tr HB_2.out hb)
  clear hb
  clear K O1 O2 HB_2
  have ZB := Lib.hid (rzo_pt ho1 ho2 kM)
  clear ho1 ho2
  have ZA := Lib.hid (rzo_pt Oa1_3.out Oa2_4.out kN)
  clear Oa1_3 Oa2_4
  by_cases hnm : N = M
  · subst hnm
    have q8 : ((N : Int) == (N : Int)) = true := by rw [beq_iff_eq]
    have q9 : ((N : Int) != (N : Int)) = false := by rw [bne, q8]; rfl
    go_wp2_with fail
    refine (hull_pt _ N kN g1 g2 g3 g4 ZA.out ZB.out (HT.out.below HB_5.out)).mono ?_
    rintro e w4 ⟨⟨gc, gg, gr, cg, rfl, hz⟩, hb⟩
    have K := Dk.below hb
    have HB_6 := Lib.hid (below_tr HB_5.out hb)
    clear hb
    clear K HB_5
    have ZH := Lib.hid hz
    clear hz
    have wl := HB_6.out.size
    go_upto_region 6 with (fail)
    have ZK := Lib.hid (ZH.out.below (below_al (Below.refl _ _) (.cells #[.slice (some ⟨gc, 0, none⟩) N N, .slice (some ⟨gg, 0, none⟩) 1 cg, .slice (some ⟨gr, 0, none⟩) N N] 42)))
    have K : Dk w4 (w4.alloc (.cells #[.slice (some ⟨gc, 0, none⟩) N N, .slice (some ⟨gg, 0, none⟩) 1 cg, .slice (some ⟨gr, 0, none⟩) N N] 42)) := ((Dk.refl _).alloc _)
    have Bh_7 := Lib.hid (show Bk (w4.alloc (.cells #[.slice (some ⟨gc, 0, none⟩) N N, .slice (some ⟨gg, 0, none⟩) 1 cg, .slice (some ⟨gr, 0, none⟩) N N] 42)) (w4.heap.size) 42 #[.slice (some ⟨gc, 0, none⟩) N N, .slice (some ⟨gg, 0, none⟩) 1 cg, .slice (some ⟨gr, 0, none⟩) N N] from (Bk.new _ 42 #[.slice (some ⟨gc, 0, none⟩) N N, .slice (some ⟨gg, 0, none⟩) 1 cg, .slice (some ⟨gr, 0, none⟩) N N]))
    have HB_8 := Lib.hid (show Below w.heap.size w (w4.alloc (.cells #[.slice (some ⟨gc, 0, none⟩) N N, .slice (some ⟨gg, 0, none⟩) 1 cg, .slice (some ⟨gr, 0, none⟩) N N] 42)) from (below_al HB_6.out _))
    clear K HB_6
    generalize w4.alloc (.cells #[.slice (some ⟨gc, 0, none⟩) N N, .slice (some ⟨gg, 0, none⟩) 1 cg, .slice (some ⟨gr, 0, none⟩) N N] 42) = w5 at *
    have lh := Bh_7.out.lt
    obtain ⟨ch0, ch1, ch2⟩ := Bh_7.out.cells3
    go_wp2_with fail
    refine (zcheck_pt _ N kN gc gg gr cg ZK.out).mono ?_
    rintro e w6 ⟨rfl, hb⟩
    clear lh ch0 ch1 ch2
    have K := Dk.below hb
    have Bh_9 := Lib.hid (show Bk _ _ _ #[.slice (some ⟨gc, 0, none⟩) N N, .slice (some ⟨gg, 0, none⟩) 1 cg, .slice (some ⟨gr, 0, none⟩) N N] from Bh_7.out.below hb)
    have HB_10 := Lib.hid (below_tr HB_8.out hb)
    clear hb
    clear K Bh_7 HB_8
    go_wp2
    go_ret
    exact ⟨rfl, HB_10.out⟩
  · have q7 : ((N : Int) == (M : Int)) = false := by rw [beq_eq_false_iff_ne]; omega
    have q8 : ((N : Int) != (M : Int)) = true := by rw [bne, q7]; rfl
    go_wp2_with fail
    refine (hull_ptbad _ N M kN hnm g1 g2 g3 g4 ZA.out ZB.out).mono ?_
    rintro e w4 ⟨rfl, hb⟩
    have K := Dk.below hb
    have HB_6 := Lib.hid (below_tr HB_5.out hb)
    clear hb
    clear K HB_5
    clear hnm
    go_upto_region 6 with (fail)
    have K : Dk w4 (w4.alloc (.cells #[.slice none 0 0, .slice none 0 0, .slice none 0 0] 42)) := ((Dk.refl _).alloc _)
    have Bh_7 := Lib.hid (show Bk (w4.alloc (.cells #[.slice none 0 0, .slice none 0 0, .slice none 0 0] 42)) (w4.heap.size) 42 #[.slice none 0 0, .slice none 0 0, .slice none 0 0] from (Bk.new _ 42 #[.slice none 0 0, .slice none 0 0, .slice none 0 0]))
    have HB_8 := Lib.hid (show Below w.heap.size w (w4.alloc (.cells #[.slice none 0 0, .slice none 0 0, .slice none 0 0] 42)) from (below_al HB_6.out _))
    clear K HB_6
    generalize w4.alloc (.cells #[.slice none 0 0, .slice none 0 0, .slice none 0 0] 42) = w5 at *
    have lh := Bh_7.out.lt
    obtain ⟨ch0, ch1, ch2⟩ := Bh_7.out.cells3
    go_wp2
    go_ret
    exact ⟨rfl, HB_8.out⟩

end Go.Proofs.YtgioppkggpfnoaaDoor.Nu
end
