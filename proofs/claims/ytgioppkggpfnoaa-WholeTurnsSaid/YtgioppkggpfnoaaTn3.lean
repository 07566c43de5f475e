/- Texts of the seat, laid together: Vec, VecZ, OwnW, MatK, MatT, MatA, MatZ, RCmp, TurnsM, Turns, RowP, RowB, RowR, RowT. -/
import Derived.Test.YtgioppkggpfnoaaTn2
import Derived.RegionTactic
import Derived.StillTailTactics
import Derived.Deep.RegionHeld3
import Derived.Deep.DeepCutAuto
import Derived.Deep.CutBlock
import Derived.Maps.AppendAt
import Derived.Deep.RegionLaw
import Derived.Test.YtgioppkggpfnoaaChecked
import Derived.WalkKit
import Derived.ProofKit
import Derived.OpenShut
import Derived.Below
import Derived.ChangeSame
import Derived.Deep.DeepHandedRow
import Derived.Deep.DeepWitnessRowRef
import Derived.ChangeArms
import Derived.WideKeyArgs
import Derived.ChangeSlices
set_option linter.all false
set_option exponentiation.threshold 20000
section
/- The walks of vec.each (with ratio.Mul), vec.Dot. -/
set_option linter.unusedVariables false
namespace Go.Proofs.Ytgioppkggpfnoaa.Nu
open Go.RowKit Go.Proofs

/-- So many of a row are written. -/
def EachRel (F : Nat → Rat) (n : Nat) (W : World) (i : Nat) (w : World) : Prop := OR w W.heap.size n (upR F i) ∧ Below W.heap.size W w

set_option maxRecDepth 100000 in
set_option maxHeartbeats 4000000 in
theorem each_any (w : World) (A B : Option Addr) (n c d : Nat) (f g : Nat → Rat) (a b : Nat) (h : RRs w A n c f) (h2 : RRs w B n d g) (la : ∀ i, i < n → RLim a (f i)) (lb : ∀ i, i < n → RLim b (g i)) (hab : a + b ≤ 15900) :
    Calls Try.prog 20 #[.slice A n c, .slice B n d, (.func (.func 21) #[] #[])] w fun e w' => (∃ g1 : Nat, e = .returned (.tuple #[.slice (some ⟨g1, 0, none⟩) n n, .int .i64 0]) ∧ w.heap.size ≤ g1 ∧ RRs w' (some ⟨g1, 0, none⟩) n n (fun j => f j * g j)) ∧ Below w.heap.size w w' := by
  have HA := Lib.hid h
  have HB := Lib.hid h2
  have LA := Lib.hid la
  have LB := Lib.hid lb
  have n0 := h.2.1
  clear h h2 la lb
  have hmk := fun W => make_R n n0 W
  go_enter Try.func20, Try.ntmps20
  go_wp2_with fail
  have H0 := Lib.hid (show EachRel (fun j => f j * g j) n w 0 _ from ⟨OR.start (F := (fun j => f j * g j)) (OR.made w n), below_al (Below.refl _ w) _⟩)
  clear hmk
  generalize w.alloc (.cells (mkR n) 32) = w0 at *
  go_loopw [22] (fun k wr => ∃ i : Nat, k = .int .i64 i ∧ i ≤ n ∧ Hid (EachRel (fun j => f j * g j) n w i wr)) (fun k _ => n - (intOf k).toNat)
  case atStart => exact ⟨0, rfl, Nat.zero_le _, H0⟩
  case round =>
    clear H0
    obtain ⟨i, rfl, hi, Hr⟩ := hrel
    by_cases hi2 : i < n
    · have q3 : (i : Int) < (n : Int) := by omega
      obtain ⟨hx, hbel⟩ := Hr.out
      have OX := Lib.hid hx
      have HB_0 := Lib.hid hbel
      clear hx hbel Hr
      obtain ⟨A1, o1, rfl, hl1, hcc⟩ := HA.out.2.2 (by omega)
      obtain ⟨t, z0, z1, z2, ht⟩ := hcc i hi2
      obtain ⟨A2, o2, rfl, hl2, hc2⟩ := HB.out.2.2 (by omega)
      obtain ⟨u, y0, y1, y2, hu⟩ := hc2 i hi2
      have X0 := Lib.hid z0
      have Y0 := Lib.hid y0
      have X1 := Lib.hid z1
      have Y1 := Lib.hid y1
      have X2 := Lib.hid z2
      have Y2 := Lib.hid y2
      have RA := Lib.hid (ht.below HB_0.out)
      have RB := Lib.hid (hu.below HB_0.out)
      clear hcc z0 z1 z2 ht hc2 y0 y1 y2 hu
      have La := Lib.hid (LA.out i hi2)
      have Lb := Lib.hid (LB.out i hi2)
      go_upto_region 7 with (fail)
      have cr10 : wr.cell? ⟨A1, o1 + i * 3, none⟩ = some (.bool t.q.b) := (HB_0.out.cell (p := ⟨A1, o1 + i * 3, none⟩) hl1).trans X0.out
      have cr11 : wr.cell? ⟨A1, o1 + i * 3 + 1, none⟩ = some (.slice t.q.A t.q.n t.q.c) := (HB_0.out.cell (p := ⟨A1, o1 + i * 3 + 1, none⟩) hl1).trans X1.out
      have cr12 : wr.cell? ⟨A1, o1 + i * 3 + 2, none⟩ = some (.slice t.A t.n t.c) := (HB_0.out.cell (p := ⟨A1, o1 + i * 3 + 2, none⟩) hl1).trans X2.out
      have cr20 : wr.cell? ⟨A2, o2 + i * 3, none⟩ = some (.bool u.q.b) := (HB_0.out.cell (p := ⟨A2, o2 + i * 3, none⟩) hl2).trans Y0.out
      have cr21 : wr.cell? ⟨A2, o2 + i * 3 + 1, none⟩ = some (.slice u.q.A u.q.n u.q.c) := (HB_0.out.cell (p := ⟨A2, o2 + i * 3 + 1, none⟩) hl2).trans Y1.out
      have cr22 : wr.cell? ⟨A2, o2 + i * 3 + 2, none⟩ = some (.slice u.A u.n u.c) := (HB_0.out.cell (p := ⟨A2, o2 + i * 3 + 2, none⟩) hl2).trans Y2.out
      obtain ⟨⟨_, px0⟩, ⟨_, px1⟩, ⟨_, px2⟩, rx0, rx1, rx2⟩ := OX.out.there hi2
      have lx := OX.out.lt
      go_cut [10, 11] (fun s10 s11 wx => ∃ (g_101 : Nat) (p : TQ), s10 = .pointer (some ⟨g_101, 0, none⟩) ∧ s11 = .int .i64 0 ∧ w.heap.size < g_101 ∧ Bk wx g_101 32 #[.bool p.q.b, .slice p.q.A p.q.n p.q.c, .slice p.A p.n p.c] ∧ OR wx (w.heap.size) n (upR (fun j => f j * g j) i) ∧ Below w.heap.size w wx ∧ RR wx p (f i * g i))
      case first =>
        obtain ⟨SX1, hS1⟩ : ∃ S : World → Prop, ∀ w', S w' ↔ (w'.cell? ⟨A1, o1 + i * 3, none⟩ = some (.bool t.q.b) ∧ w'.cell? ⟨A1, o1 + i * 3 + 1, none⟩ = some (.slice t.q.A t.q.n t.q.c) ∧ w'.cell? ⟨A1, o1 + i * 3 + 2, none⟩ = some (.slice t.A t.n t.c) ∧ w'.cell? ⟨A2, o2 + i * 3, none⟩ = some (.bool u.q.b) ∧ w'.cell? ⟨A2, o2 + i * 3 + 1, none⟩ = some (.slice u.q.A u.q.n u.q.c) ∧ w'.cell? ⟨A2, o2 + i * 3 + 2, none⟩ = some (.slice u.A u.n u.c)) := ⟨_, fun _ => Iff.rfl⟩
        have k_102 : SX1 (wr) := (hS1 _).2 ⟨(Below.cell (p := ⟨A1, o1 + i * 3, none⟩) HB_0.out hl1).trans X0.out, (Below.cell (p := ⟨A1, o1 + i * 3 + 1, none⟩) HB_0.out hl1).trans X1.out, (Below.cell (p := ⟨A1, o1 + i * 3 + 2, none⟩) HB_0.out hl1).trans X2.out, (Below.cell (p := ⟨A2, o2 + i * 3, none⟩) HB_0.out hl2).trans Y0.out, (Below.cell (p := ⟨A2, o2 + i * 3 + 1, none⟩) HB_0.out hl2).trans Y1.out, (Below.cell (p := ⟨A2, o2 + i * 3 + 2, none⟩) HB_0.out hl2).trans Y2.out⟩
        have k_103 : SX1 (wr.drew) := (hS1 _).2 ⟨(Below.cell (p := ⟨A1, o1 + i * 3, none⟩) (below_dr HB_0.out) hl1).trans X0.out, (Below.cell (p := ⟨A1, o1 + i * 3 + 1, none⟩) (below_dr HB_0.out) hl1).trans X1.out, (Below.cell (p := ⟨A1, o1 + i * 3 + 2, none⟩) (below_dr HB_0.out) hl1).trans X2.out, (Below.cell (p := ⟨A2, o2 + i * 3, none⟩) (below_dr HB_0.out) hl2).trans Y0.out, (Below.cell (p := ⟨A2, o2 + i * 3 + 1, none⟩) (below_dr HB_0.out) hl2).trans Y1.out, (Below.cell (p := ⟨A2, o2 + i * 3 + 2, none⟩) (below_dr HB_0.out) hl2).trans Y2.out⟩
        have tok_104 : True := trivial
        have tok_105 : True := trivial
        have k_106 : SX1 ((wr.alloc (.cells #[.bool false, .slice none 0 0, .slice none 0 0] 32)).drew) := (hS1 _).2 ⟨(Below.cell (p := ⟨A1, o1 + i * 3, none⟩) (below_dr (below_al HB_0.out _)) hl1).trans X0.out, (Below.cell (p := ⟨A1, o1 + i * 3 + 1, none⟩) (below_dr (below_al HB_0.out _)) hl1).trans X1.out, (Below.cell (p := ⟨A1, o1 + i * 3 + 2, none⟩) (below_dr (below_al HB_0.out _)) hl1).trans X2.out, (Below.cell (p := ⟨A2, o2 + i * 3, none⟩) (below_dr (below_al HB_0.out _)) hl2).trans Y0.out, (Below.cell (p := ⟨A2, o2 + i * 3 + 1, none⟩) (below_dr (below_al HB_0.out _)) hl2).trans Y1.out, (Below.cell (p := ⟨A2, o2 + i * 3 + 2, none⟩) (below_dr (below_al HB_0.out _)) hl2).trans Y2.out⟩
        go_region_held3 (fun w' => w'.cell? ⟨A1, o1 + i * 3, none⟩ = some (.bool t.q.b) ∧ w'.cell? ⟨A1, o1 + i * 3 + 1, none⟩ = some (.slice t.q.A t.q.n t.q.c) ∧ w'.cell? ⟨A1, o1 + i * 3 + 2, none⟩ = some (.slice t.A t.n t.c) ∧ w'.cell? ⟨A2, o2 + i * 3, none⟩ = some (.bool u.q.b) ∧ w'.cell? ⟨A2, o2 + i * 3 + 1, none⟩ = some (.slice u.q.A u.q.n u.q.c) ∧ w'.cell? ⟨A2, o2 + i * 3 + 2, none⟩ = some (.slice u.A u.n u.c)) (first | with_reducible exact (hS1 _).1 k_102 | with_reducible exact (hS1 _).1 k_103 | with_reducible exact (hS1 _).1 k_106 | with_reducible exact (hS1 _).1 k_113 | with_reducible exact (hS1 _).1 k_115 | with_reducible exact (hS1 _).1 k_116 | with_reducible exact (hS1 _).1 k_126 | with_reducible exact (hS1 _).1 k_127)
          (first
           | (clear tok_104; go_at_call 21; (with_reducible refine (rmul_any (wr.drew) t u (f i) (g i) a b (RA.out.dk ((Dk.refl _).drew)) (RB.out.dk ((Dk.refl _).drew)) La.out Lb.out hab).mono ?_); rintro e w_107 ⟨⟨p, rfl, hp⟩, hb⟩; clear cr10 cr11 cr12 cr20 cr21 cr22 px0 px1 px2 rx0 rx1 rx2 lx k_102 k_103 k_106; have K := Dk.trans ((Dk.refl _).drew) (.below hb); have Ox_108 := Lib.hid (show OR _ (w.heap.size) n (upR (fun j => f j * g j) i) from (OX.out.dr).below hb); have HB_109 := Lib.hid (below_tr (below_dr HB_0.out) hb); clear hb; have RA_110 := Lib.hid (RA.out.dk K); have RB_111 := Lib.hid (RB.out.dk K); clear K OX HB_0 RA RB; have RP_112 := Lib.hid hp; clear hp; have cr10 : w_107.cell? ⟨A1, o1 + i * 3, none⟩ = some (.bool t.q.b) := (HB_109.out.cell (p := ⟨A1, o1 + i * 3, none⟩) hl1).trans X0.out; have cr11 : w_107.cell? ⟨A1, o1 + i * 3 + 1, none⟩ = some (.slice t.q.A t.q.n t.q.c) := (HB_109.out.cell (p := ⟨A1, o1 + i * 3 + 1, none⟩) hl1).trans X1.out; have cr12 : w_107.cell? ⟨A1, o1 + i * 3 + 2, none⟩ = some (.slice t.A t.n t.c) := (HB_109.out.cell (p := ⟨A1, o1 + i * 3 + 2, none⟩) hl1).trans X2.out; have cr20 : w_107.cell? ⟨A2, o2 + i * 3, none⟩ = some (.bool u.q.b) := (HB_109.out.cell (p := ⟨A2, o2 + i * 3, none⟩) hl2).trans Y0.out; have cr21 : w_107.cell? ⟨A2, o2 + i * 3 + 1, none⟩ = some (.slice u.q.A u.q.n u.q.c) := (HB_109.out.cell (p := ⟨A2, o2 + i * 3 + 1, none⟩) hl2).trans Y1.out; have cr22 : w_107.cell? ⟨A2, o2 + i * 3 + 2, none⟩ = some (.slice u.A u.n u.c) := (HB_109.out.cell (p := ⟨A2, o2 + i * 3 + 2, none⟩) hl2).trans Y2.out; obtain ⟨⟨_, px0⟩, ⟨_, px1⟩, ⟨_, px2⟩, rx0, rx1, rx2⟩ := Ox_108.out.there hi2; have lx := Ox_108.out.lt; have k_113 : SX1 (w_107) := (hS1 _).2 ⟨(Below.cell (p := ⟨A1, o1 + i * 3, none⟩) HB_109.out hl1).trans X0.out, (Below.cell (p := ⟨A1, o1 + i * 3 + 1, none⟩) HB_109.out hl1).trans X1.out, (Below.cell (p := ⟨A1, o1 + i * 3 + 2, none⟩) HB_109.out hl1).trans X2.out, (Below.cell (p := ⟨A2, o2 + i * 3, none⟩) HB_109.out hl2).trans Y0.out, (Below.cell (p := ⟨A2, o2 + i * 3 + 1, none⟩) HB_109.out hl2).trans Y1.out, (Below.cell (p := ⟨A2, o2 + i * 3 + 2, none⟩) HB_109.out hl2).trans Y2.out⟩; have n_114 := Ox_108.out.lt; have k_115 : SX1 (w_107.alloc (.cells #[.bool false, .slice none 0 0, .slice none 0 0] 32)) := (hS1 _).2 ⟨(Below.cell (p := ⟨A1, o1 + i * 3, none⟩) (below_al HB_109.out _) hl1).trans X0.out, (Below.cell (p := ⟨A1, o1 + i * 3 + 1, none⟩) (below_al HB_109.out _) hl1).trans X1.out, (Below.cell (p := ⟨A1, o1 + i * 3 + 2, none⟩) (below_al HB_109.out _) hl1).trans X2.out, (Below.cell (p := ⟨A2, o2 + i * 3, none⟩) (below_al HB_109.out _) hl2).trans Y0.out, (Below.cell (p := ⟨A2, o2 + i * 3 + 1, none⟩) (below_al HB_109.out _) hl2).trans Y1.out, (Below.cell (p := ⟨A2, o2 + i * 3 + 2, none⟩) (below_al HB_109.out _) hl2).trans Y2.out⟩; have k_116 : SX1 (w_107.alloc (.cells #[.bool p.q.b, .slice p.q.A p.q.n p.q.c, .slice p.A p.n p.c] 32)) := (hS1 _).2 ⟨(Below.cell (p := ⟨A1, o1 + i * 3, none⟩) (below_al HB_109.out _) hl1).trans X0.out, (Below.cell (p := ⟨A1, o1 + i * 3 + 1, none⟩) (below_al HB_109.out _) hl1).trans X1.out, (Below.cell (p := ⟨A1, o1 + i * 3 + 2, none⟩) (below_al HB_109.out _) hl1).trans X2.out, (Below.cell (p := ⟨A2, o2 + i * 3, none⟩) (below_al HB_109.out _) hl2).trans Y0.out, (Below.cell (p := ⟨A2, o2 + i * 3 + 1, none⟩) (below_al HB_109.out _) hl2).trans Y1.out, (Below.cell (p := ⟨A2, o2 + i * 3 + 2, none⟩) (below_al HB_109.out _) hl2).trans Y2.out⟩)
           | (clear tok_105; have n_118 := OX.out.lt; go_at_call 21; (with_reducible refine (rmul_any ((wr.alloc (.cells #[.bool false, .slice none 0 0, .slice none 0 0] 32)).drew) t u (f i) (g i) a b (RA.out.dk (((Dk.refl _).alloc _).drew)) (RB.out.dk (((Dk.refl _).alloc _).drew)) La.out Lb.out hab).mono ?_); rintro e w_119 ⟨⟨p, rfl, hp⟩, hb⟩; clear cr10 cr11 cr12 cr20 cr21 cr22 px0 px1 px2 rx0 rx1 rx2 lx k_102 k_103 k_106; have K := Dk.trans (((Dk.refl _).alloc _).drew) (.below hb); have Bp_120 := Lib.hid (show Bk _ _ _ #[.bool false, .slice none 0 0, .slice none 0 0] from ((Bk.new _ 32 #[.bool false, .slice none 0 0, .slice none 0 0]).drew).below hb); have Ox_121 := Lib.hid (show OR _ (w.heap.size) n (upR (fun j => f j * g j) i) from ((OX.out.al _).dr).below hb); have HB_122 := Lib.hid (below_tr (below_dr (below_al HB_0.out _)) hb); clear hb; have RA_123 := Lib.hid (RA.out.dk K); have RB_124 := Lib.hid (RB.out.dk K); clear K OX HB_0 RA RB; have RP_125 := Lib.hid hp; clear hp; have lp := Bp_120.out.lt; obtain ⟨cp0, cp1, cp2⟩ := Bp_120.out.cells3; have fp0 := Bp_120.out.free 0; have fp1 := Bp_120.out.free 1; have fp2 := Bp_120.out.free 2; have cr10 : w_119.cell? ⟨A1, o1 + i * 3, none⟩ = some (.bool t.q.b) := (HB_122.out.cell (p := ⟨A1, o1 + i * 3, none⟩) hl1).trans X0.out; have cr11 : w_119.cell? ⟨A1, o1 + i * 3 + 1, none⟩ = some (.slice t.q.A t.q.n t.q.c) := (HB_122.out.cell (p := ⟨A1, o1 + i * 3 + 1, none⟩) hl1).trans X1.out; have cr12 : w_119.cell? ⟨A1, o1 + i * 3 + 2, none⟩ = some (.slice t.A t.n t.c) := (HB_122.out.cell (p := ⟨A1, o1 + i * 3 + 2, none⟩) hl1).trans X2.out; have cr20 : w_119.cell? ⟨A2, o2 + i * 3, none⟩ = some (.bool u.q.b) := (HB_122.out.cell (p := ⟨A2, o2 + i * 3, none⟩) hl2).trans Y0.out; have cr21 : w_119.cell? ⟨A2, o2 + i * 3 + 1, none⟩ = some (.slice u.q.A u.q.n u.q.c) := (HB_122.out.cell (p := ⟨A2, o2 + i * 3 + 1, none⟩) hl2).trans Y1.out; have cr22 : w_119.cell? ⟨A2, o2 + i * 3 + 2, none⟩ = some (.slice u.A u.n u.c) := (HB_122.out.cell (p := ⟨A2, o2 + i * 3 + 2, none⟩) hl2).trans Y2.out; obtain ⟨⟨_, px0⟩, ⟨_, px1⟩, ⟨_, px2⟩, rx0, rx1, rx2⟩ := Ox_121.out.there hi2; have lx := Ox_121.out.lt; have k_126 : SX1 (w_119) := (hS1 _).2 ⟨(Below.cell (p := ⟨A1, o1 + i * 3, none⟩) HB_122.out hl1).trans X0.out, (Below.cell (p := ⟨A1, o1 + i * 3 + 1, none⟩) HB_122.out hl1).trans X1.out, (Below.cell (p := ⟨A1, o1 + i * 3 + 2, none⟩) HB_122.out hl1).trans X2.out, (Below.cell (p := ⟨A2, o2 + i * 3, none⟩) HB_122.out hl2).trans Y0.out, (Below.cell (p := ⟨A2, o2 + i * 3 + 1, none⟩) HB_122.out hl2).trans Y1.out, (Below.cell (p := ⟨A2, o2 + i * 3 + 2, none⟩) HB_122.out hl2).trans Y2.out⟩; have y0 := HB_122.out.size; have k_127 : SX1 (((w_119.setCell ⟨wr.heap.size, 0, none⟩ (.bool p.q.b)).setCell ⟨wr.heap.size, 1, none⟩ (.slice p.q.A p.q.n p.q.c)).setCell ⟨wr.heap.size, 2, none⟩ (.slice p.A p.n p.c)) := (hS1 _).2 ⟨(Below.cell (p := ⟨A1, o1 + i * 3, none⟩) (below_st (below_st (below_st HB_122.out 0 (by omega) (.bool p.q.b)) 1 (by omega) (.slice p.q.A p.q.n p.q.c)) 2 (by omega) (.slice p.A p.n p.c)) hl1).trans X0.out, (Below.cell (p := ⟨A1, o1 + i * 3 + 1, none⟩) (below_st (below_st (below_st HB_122.out 0 (by omega) (.bool p.q.b)) 1 (by omega) (.slice p.q.A p.q.n p.q.c)) 2 (by omega) (.slice p.A p.n p.c)) hl1).trans X1.out, (Below.cell (p := ⟨A1, o1 + i * 3 + 2, none⟩) (below_st (below_st (below_st HB_122.out 0 (by omega) (.bool p.q.b)) 1 (by omega) (.slice p.q.A p.q.n p.q.c)) 2 (by omega) (.slice p.A p.n p.c)) hl1).trans X2.out, (Below.cell (p := ⟨A2, o2 + i * 3, none⟩) (below_st (below_st (below_st HB_122.out 0 (by omega) (.bool p.q.b)) 1 (by omega) (.slice p.q.A p.q.n p.q.c)) 2 (by omega) (.slice p.A p.n p.c)) hl2).trans Y0.out, (Below.cell (p := ⟨A2, o2 + i * 3 + 1, none⟩) (below_st (below_st (below_st HB_122.out 0 (by omega) (.bool p.q.b)) 1 (by omega) (.slice p.q.A p.q.n p.q.c)) 2 (by omega) (.slice p.A p.n p.c)) hl2).trans Y1.out, (Below.cell (p := ⟨A2, o2 + i * 3 + 2, none⟩) (below_st (below_st (below_st HB_122.out 0 (by omega) (.bool p.q.b)) 1 (by omega) (.slice p.q.A p.q.n p.q.c)) 2 (by omega) (.slice p.A p.n p.c)) hl2).trans Y2.out⟩; clear y0)
           | fail)
        all_goals (go_wp2_with fail; go_meet; first | (exact ⟨w_107.heap.size, p, rfl, rfl, (by have := Ox_108.out.lt; have := HB_109.out.size; omega), (Bk.new _ 32 #[.bool p.q.b, .slice p.q.A p.q.n p.q.c, .slice p.A p.n p.c]), (Ox_108.out.al _), (below_al HB_109.out _), (RP_112.out.dk ((Dk.refl _).alloc _))⟩) | (have y0 := Bp_120.out.lt; have y1 := Ox_121.out.lt; have y2 := HB_122.out.size; exact ⟨wr.heap.size, p, rfl, rfl, (by omega), (((Bp_120.out.set 0 (.bool p.q.b)).set 1 (.slice p.q.A p.q.n p.q.c)).set 2 (.slice p.A p.n p.c)), (((Ox_121.out.st (cs := #[.bool false, .slice none 0 0, .slice none 0 0]) Bp_120.out (by omega) 0 (by intro _ hh; cases hh) (.bool p.q.b)).st (cs := #[.bool p.q.b, .slice none 0 0, .slice none 0 0]) (Bp_120.out.set 0 (.bool p.q.b)) (by omega) 1 (by intro _ hh; cases hh) (.slice p.q.A p.q.n p.q.c)).st (cs := #[.bool p.q.b, .slice p.q.A p.q.n p.q.c, .slice none 0 0]) ((Bp_120.out.set 0 (.bool p.q.b)).set 1 (.slice p.q.A p.q.n p.q.c)) (by omega) 2 (by intro _ hh; cases hh) (.slice p.A p.n p.c)), (below_st (below_st (below_st HB_122.out 0 (by omega) (.bool p.q.b)) 1 (by omega) (.slice p.q.A p.q.n p.q.c)) 2 (by omega) (.slice p.A p.n p.c)), (RP_125.out.dk ((((Dk.refl _).set (cs := #[.bool false, .slice none 0 0, .slice none 0 0]) Bp_120.out 0 (by intro _ hh; cases hh) (.bool p.q.b)).set (cs := #[.bool p.q.b, .slice none 0 0, .slice none 0 0]) (Bp_120.out.set 0 (.bool p.q.b)) 1 (by intro _ hh; cases hh) (.slice p.q.A p.q.n p.q.c)).set (cs := #[.bool p.q.b, .slice p.q.A p.q.n p.q.c, .slice none 0 0]) ((Bp_120.out.set 0 (.bool p.q.b)).set 1 (.slice p.q.A p.q.n p.q.c)) 2 (by intro _ hh; cases hh) (.slice p.A p.n p.c)))⟩))
      case rest =>
        clear cr10 cr11 cr12 cr20 cr21 cr22 px0 px1 px2 rx0 rx1 rx2 lx
        clear OX RA RB HB_0
        obtain ⟨w_130, rfl⟩ : ∃ x, x = wc := ⟨_, rfl⟩
        obtain ⟨g_101, p, rfl, rfl, nn0, bz, br0, hbel, hf0⟩ := hcut
        have Ox_131 := Lib.hid br0
        have n_132 := nn0
        have Bp_133 := Lib.hid bz
        have HB_133 := Lib.hid hbel
        have RP_135 := Lib.hid hf0
        clear nn0 bz br0 hbel hf0
        have lp := Bp_133.out.lt
        obtain ⟨cp0, cp1, cp2⟩ := Bp_133.out.cells3
        have cr10 : w_130.cell? ⟨A1, o1 + i * 3, none⟩ = some (.bool t.q.b) := (HB_133.out.cell (p := ⟨A1, o1 + i * 3, none⟩) hl1).trans X0.out
        have cr11 : w_130.cell? ⟨A1, o1 + i * 3 + 1, none⟩ = some (.slice t.q.A t.q.n t.q.c) := (HB_133.out.cell (p := ⟨A1, o1 + i * 3 + 1, none⟩) hl1).trans X1.out
        have cr12 : w_130.cell? ⟨A1, o1 + i * 3 + 2, none⟩ = some (.slice t.A t.n t.c) := (HB_133.out.cell (p := ⟨A1, o1 + i * 3 + 2, none⟩) hl1).trans X2.out
        have cr20 : w_130.cell? ⟨A2, o2 + i * 3, none⟩ = some (.bool u.q.b) := (HB_133.out.cell (p := ⟨A2, o2 + i * 3, none⟩) hl2).trans Y0.out
        have cr21 : w_130.cell? ⟨A2, o2 + i * 3 + 1, none⟩ = some (.slice u.q.A u.q.n u.q.c) := (HB_133.out.cell (p := ⟨A2, o2 + i * 3 + 1, none⟩) hl2).trans Y1.out
        have cr22 : w_130.cell? ⟨A2, o2 + i * 3 + 2, none⟩ = some (.slice u.A u.n u.c) := (HB_133.out.cell (p := ⟨A2, o2 + i * 3 + 2, none⟩) hl2).trans Y2.out
        obtain ⟨⟨_, px0⟩, ⟨_, px1⟩, ⟨_, px2⟩, rx0, rx1, rx2⟩ := Ox_131.out.there hi2
        have lx := Ox_131.out.lt
        go_wp2_with fail
        go_wp2
        go_roundw
        case rel => exact ⟨i + 1, by go_num, hi2, Lib.hid ⟨OR.next (F := (fun j => f j * g j)) (Ox_131.out.put hi2 p (f i * g i) RP_135.out).1, (below_put3 HB_133.out (by have := HB_133.out.size; omega) i (.bool p.q.b) (.slice p.q.A p.q.n p.q.c) (.slice p.A p.n p.c))⟩⟩
        case measure => simp only [intOf]; omega
    · obtain rfl : n = i := by omega
      obtain ⟨hx, hbel⟩ := Hr.out
      have OX := Lib.hid hx
      have HB_0 := Lib.hid hbel
      clear hx hbel Hr
      clear hi2
      go_wp2
      go_ret2
      exact ⟨⟨w.heap.size, rfl, Nat.le_refl _, OX.out.done (F := (fun j => f j * g j)) n0⟩, HB_0.out⟩

theorem sumN_dot (f g : Nat → Rat) (n : Nat) : sumN (fun j => f j * g j) n = dot f g n := by
  induction n with
  | zero => rfl
  | succ n ih => show sumN _ n + _ = dot f g n + _; rw [ih]

set_option maxRecDepth 100000 in
set_option maxHeartbeats 4000000 in
theorem dot_any (w : World) (A B : Option Addr) (n c d : Nat) (f g : Nat → Rat) (a b : Nat) (h : RRs w A n c f) (h2 : RRs w B n d g) (la : ∀ i, i < n → RLim a (f i)) (lb : ∀ i, i < n → RLim b (g i)) (hab : a + b ≤ 15900) (hs : 1 + n * (a + b + 1) + (a + b) ≤ 15900) :
    Calls Try.prog 9 #[.slice A n c, .slice B n d] w fun e w' => (∃ t : TQ, e = .returned (.tuple #[.agg #[.bool t.q.b, .slice t.q.A t.q.n t.q.c, .slice t.A t.n t.c], .int .i64 0]) ∧ RR w' t (dot f g n)) ∧ Below w.heap.size w w' := by
  have HA := Lib.hid h
  have HB := Lib.hid h2
  have LA := Lib.hid la
  have LB := Lib.hid lb
  clear h h2 la lb
  have LF := Lib.hid (fun i (hi : i < n) => rmul_lim (LA.out i hi) (LB.out i hi))
  have BX := Lib.hid (boxes1 w 32 #[.bool false, .slice none 0 0, .slice none 0 0])
  go_enter Try.func9, Try.ntmps9
  go_wp2_with fail
  generalize w.alloc (.cells #[.bool false, .slice none 0 0, .slice none 0 0] 32) = w0 at *
  obtain ⟨b0, hw⟩ := BX.out
  have Bo_0 := Lib.hid b0
  have HB_0 := Lib.hid hw
  have K := Dk.below (hw.mono (Nat.le_refl _))
  clear BX hw b0
  clear K
  have lo := Bo_0.out.lt
  obtain ⟨co0, co1, co2⟩ := Bo_0.out.cells3
  go_wp2_with fail
  refine (each_any _ A B n c d f g a b (HA.out.below HB_0.out) (HB.out.below HB_0.out) LA.out LB.out (by omega)).mono ?_
  rintro e w1 ⟨⟨g1, rfl, _, hr⟩, hb⟩
  have HP := Lib.hid hr
  clear hr
  clear lo co0 co1 co2
  have K := Dk.below hb
  have Bo_1 := Lib.hid (show Bk _ _ _ #[.bool false, .slice none 0 0, .slice none 0 0] from Bo_0.out.below hb)
  have HB_2 := Lib.hid (below_tr HB_0.out hb)
  clear hb
  clear K Bo_0 HB_0
  have lo := Bo_1.out.lt
  obtain ⟨co0, co1, co2⟩ := Bo_1.out.cells3
  go_wp2_with fail
  refine (rsum_any _ (some ⟨g1, 0, none⟩) n n (fun j => f j * g j) (a + b) HP.out LF.out hs).mono ?_
  rintro e w2 ⟨⟨t, rfl, ht⟩, hb⟩
  clear lo co0 co1 co2
  have K := Dk.below hb
  have Bo_3 := Lib.hid (show Bk _ _ _ #[.bool false, .slice none 0 0, .slice none 0 0] from Bo_1.out.below hb)
  have HB_4 := Lib.hid (below_tr HB_2.out hb)
  clear hb
  clear K Bo_1 HB_2
  rw [sumN_dot] at ht
  have RT_5 := Lib.hid ht
  clear ht
  have lo := Bo_3.out.lt
  obtain ⟨co0, co1, co2⟩ := Bo_3.out.cells3
  have fo0 := Bo_3.out.free 0
  have fo1 := Bo_3.out.free 1
  have fo2 := Bo_3.out.free 2
  go_wp2
  refine bodyPost_ret (v := .tuple #[.agg #[.bool t.q.b, .slice t.q.A t.q.n t.q.c, .slice t.A t.n t.c], .int .i64 0]) ?_ rfl ?_
  · simp [results, Try.f9, go_sem, co0, co1, co2]
  · have y0 := HB_4.out.size; exact ⟨⟨t, rfl, (RT_5.out.dk ((((Dk.refl _).set (cs := #[.bool false, .slice none 0 0, .slice none 0 0]) Bo_3.out 0 (by intro _ hh; cases hh) (.bool t.q.b)).set (cs := #[.bool t.q.b, .slice none 0 0, .slice none 0 0]) (Bo_3.out.set 0 (.bool t.q.b)) 1 (by intro _ hh; cases hh) (.slice t.q.A t.q.n t.q.c)).set (cs := #[.bool t.q.b, .slice t.q.A t.q.n t.q.c, .slice none 0 0]) ((Bo_3.out.set 0 (.bool t.q.b)).set 1 (.slice t.q.A t.q.n t.q.c)) 2 (by intro _ hh; cases hh) (.slice t.A t.n t.c)))⟩, (below_st (below_st (below_st HB_4.out 0 (by omega) (.bool t.q.b)) 1 (by omega) (.slice t.q.A t.q.n t.q.c)) 2 (by omega) (.slice t.A t.n t.c))⟩

end Go.Proofs.Ytgioppkggpfnoaa.Nu
end

section
/- The walks of vec.Zero, vec.Unit. -/
set_option linter.unusedVariables false
namespace Go.Proofs.Ytgioppkggpfnoaa.Nu
open Go.RowKit Go.Proofs

set_option maxRecDepth 100000 in
set_option maxHeartbeats 4000000 in
theorem vzero_any (w : World) (n : Nat) (hn : n ≤ 16) :
    Calls Try.prog 11 #[.int .i64 n] w fun e w' => (∃ g1 : Nat, e = .returned (.slice (some ⟨g1, 0, none⟩) n n) ∧ w.heap.size ≤ g1 ∧ OR w' g1 n (upR (fun _ => 0) n)) ∧ Below w.heap.size w w' := by
  have hmk := fun W => make_R n (by omega) W
  have q0 : min (max (n : Int) 0) 16 = (n : Int) := by omega
  have q1 : max (n : Int) 0 = (n : Int) := by omega
  have q2 : min (n : Int) 16 = (n : Int) := by omega
  go_enter Try.func11, Try.ntmps11
  go_wp2_with fail
  have H0 := Lib.hid (show EachRel (fun _ => 0) n w 0 _ from ⟨OR.start (F := (fun _ => 0)) (OR.made w n), below_al (Below.refl _ w) _⟩)
  clear hmk
  generalize w.alloc (.cells (mkR n) 32) = w0 at *
  go_loopw [11] (fun k wr => ∃ i : Nat, k = .int .i64 i ∧ i ≤ n ∧ Hid (EachRel (fun _ => 0) n w i wr)) (fun k _ => n - (intOf k).toNat)
  case atStart => exact ⟨0, rfl, Nat.zero_le _, H0⟩
  case round =>
    clear H0
    obtain ⟨i, rfl, hi, Hr⟩ := hrel
    by_cases hi2 : i < n
    · have q3 : (i : Int) < (n : Int) := by omega
      obtain ⟨hx, hbel⟩ := Hr.out
      have OX := Lib.hid hx
      have HB_0 := Lib.hid hbel
      clear hx hbel Hr
      obtain ⟨⟨_, px0⟩, ⟨_, px1⟩, ⟨_, px2⟩, rx0, rx1, rx2⟩ := OX.out.there hi2
      have lx := OX.out.lt
      go_wp2_with fail
      refine (rzero_any _).mono ?_
      rintro e w1 ⟨⟨p, rfl, hp⟩, hb⟩
      clear px0 px1 px2 rx0 rx1 rx2 lx
      have K := Dk.below hb
      have Ox_101 := Lib.hid (show OR _ (w.heap.size) n (upR (fun _ => 0) i) from OX.out.below hb)
      have HB_102 := Lib.hid (below_tr HB_0.out hb)
      clear hb
      clear K OX HB_0
      have RP_103 := Lib.hid hp
      clear hp
      obtain ⟨⟨_, px0⟩, ⟨_, px1⟩, ⟨_, px2⟩, rx0, rx1, rx2⟩ := Ox_101.out.there hi2
      have lx := Ox_101.out.lt
      go_wp2
      go_roundw
      case rel => exact ⟨i + 1, by go_num, hi2, Lib.hid ⟨OR.next (F := (fun _ => 0)) (Ox_101.out.put hi2 p 0 RP_103.out).1, (below_put3 HB_102.out (by have := HB_102.out.size; omega) i (.bool p.q.b) (.slice p.q.A p.q.n p.q.c) (.slice p.A p.n p.c))⟩⟩
      case measure => simp only [intOf]; omega
    · obtain rfl : n = i := by omega
      obtain ⟨hx, hbel⟩ := Hr.out
      have OX := Lib.hid hx
      have HB_0 := Lib.hid hbel
      clear hx hbel Hr
      clear hi2
      go_wp2
      go_ret
      exact ⟨⟨w.heap.size, rfl, Nat.le_refl _, OX.out⟩, HB_0.out⟩

set_option maxRecDepth 100000 in
set_option maxHeartbeats 4000000 in
theorem unit_any (w : World) (n i : Nat) (hn : n ≤ 16) (hi : i < n) :
    Calls Try.prog 4 #[.int .i64 n, .int .i64 i] w fun e w' => (∃ g1 : Nat, e = .returned (.slice (some ⟨g1, 0, none⟩) n n)) ∧ Below w.heap.size w w' := by
  have q0 : (i : Int) < (n : Int) := by omega
  have nb1 : nb (1 : Int).natAbs ≤ 16384 := Nat.le_trans (show nb (1 : Int).natAbs ≤ 1 by decide) (by omega)
  go_enter Try.func4, Try.ntmps4
  go_wp2_with fail
  have HB_0 := Lib.hid (show Below w.heap.size w w from Below.refl _ _)
  refine (vzero_any _ n hn).mono ?_
  rintro e w1 ⟨⟨g1, rfl, hg1, hr⟩, hb⟩
  have OX := Lib.hid hr
  clear hr
  have K := Dk.below hb
  have HB_1 := Lib.hid (below_tr HB_0.out hb)
  clear hb
  clear K HB_0
  obtain ⟨⟨_, px0⟩, ⟨_, px1⟩, ⟨_, px2⟩, rx0, rx1, rx2⟩ := OX.out.there hi
  have lx := OX.out.lt
  go_wp2_with fail
  refine (rof_any _ 1 1 (by omega) (by omega) (by omega) nb1 nb1).mono ?_
  rintro e w2 ⟨⟨p, rfl, hp⟩, hb⟩
  clear px0 px1 px2 rx0 rx1 rx2 lx
  have K := Dk.below hb
  have Ox_2 := Lib.hid (show OR _ (g1) n (upR (fun _ => 0) n) from OX.out.below hb)
  have HB_3 := Lib.hid (below_tr HB_1.out hb)
  clear hb
  clear K OX HB_1
  have RP_4 := Lib.hid hp
  clear hp
  obtain ⟨⟨_, px0⟩, ⟨_, px1⟩, ⟨_, px2⟩, rx0, rx1, rx2⟩ := Ox_2.out.there hi
  have lx := Ox_2.out.lt
  go_wp2
  go_ret
  exact ⟨⟨g1, rfl⟩, below_put3 HB_3.out hg1 i _ _ _⟩

end Go.Proofs.Ytgioppkggpfnoaa.Nu
end

section
/- Rows that the call owns and appends to, of whatever cells but digits. -/
set_option linter.unusedVariables false
namespace Go.Proofs.Ytgioppkggpfnoaa.Nu
open Go.RowKit Go.Proofs

/-- No digit among them. -/
def NoU (cur : Array Value) : Prop := ∀ u, u ∈ cur → ∀ v : Int, u ≠ .int .u32 v
/-- A row of the call's own, of m elements of k cells each: nil, or at the head of a block without digits. -/
def OW (w : World) (E : TypeId) (k : Nat) (v : Value) (m : Nat) (xs : List Value) : Prop :=
  xs.length = m * k ∧ ((v = .slice none 0 0 ∧ m = 0) ∨ ∃ g cap cur, v = .slice (some ⟨g, 0, none⟩) m cap ∧ m ≤ cap ∧ cap ≤ maxLen ∧ Bk w g E cur ∧ cur.size = cap * k ∧ cur.toList.take (m * k) = xs ∧ NoU cur)
theorem OW.nil (w : World) (E : TypeId) (k : Nat) : OW w E k (.slice none 0 0) 0 [] := ⟨by simp, .inl ⟨rfl, rfl⟩⟩
theorem OW.made (w : World) (E : TypeId) (k : Nat) : OW (w.alloc (.cells #[] E)) E k (.slice (some ⟨w.heap.size, 0, none⟩) 0 0) 0 [] :=
  ⟨by simp, .inr ⟨w.heap.size, 0, #[], rfl, Nat.le_refl _, Nat.zero_le _, alloc_top w _, by simp, by simp, fun u hu => by simp at hu⟩⟩
theorem OW.lt {w : World} {E : TypeId} {k : Nat} {v : Value} {m : Nat} {xs : List Value} (h : OW w E k v m xs) : ∀ g, v.ownBlock = some g → g < w.heap.size := by
  rcases h.2 with ⟨rfl, _⟩ | ⟨g, cap, cur, rfl, _, _, hb, _⟩
  · intro g hg; cases hg
  · intro g' hg
    obtain rfl : g = g' := by simpa [Value.ownBlock] using hg
    exact hb.lt
theorem OW.keep {w w' : World} {E : TypeId} {k : Nat} {v : Value} {m : Nat} {xs : List Value} (h : OW w E k v m xs) (hg : ∀ g, v.ownBlock = some g → w'.heap[g]? = w.heap[g]?) : OW w' E k v m xs := by
  refine ⟨h.1, ?_⟩
  rcases h.2 with ⟨rfl, e⟩ | ⟨g, cap, cur, rfl, h1, h2, hb, h3⟩
  · exact .inl ⟨rfl, e⟩
  · exact .inr ⟨g, cap, cur, rfl, h1, h2, (hg g rfl).trans hb, h3⟩
theorem OW.below {w w' : World} {E : TypeId} {k : Nat} {v : Value} {m : Nat} {xs : List Value} (h : OW w E k v m xs) (hb : Below w.heap.size w w') : OW w' E k v m xs := h.keep fun g hg => hb.block g (h.lt g hg)
theorem OW.al {w : World} {E : TypeId} {k : Nat} {v : Value} {m : Nat} {xs : List Value} (h : OW w E k v m xs) (o : Obj) : OW (w.alloc o) E k v m xs := h.keep fun g hg => sameA w (h.lt g hg) o
theorem OW.dr {w : World} {E : TypeId} {k : Nat} {v : Value} {m : Nat} {xs : List Value} (h : OW w E k v m xs) : OW w.drew E k v m xs := h.keep fun g hg => rfl
/-- What is read there. -/
theorem OW.cell {w : World} {E : TypeId} {k : Nat} {v : Value} {m : Nat} {xs : List Value} (h : OW w E k v m xs) (hm : 0 < m) : ∃ g cap, v = .slice (some ⟨g, 0, none⟩) m cap ∧ m ≤ cap ∧ g < w.heap.size ∧ (∀ (j : Nat) u, xs[j]? = some u → w.cell? ⟨g, j, none⟩ = some u) ∧ ∀ j, w.frozen? ⟨g, j, none⟩ = false := by
  rcases h.2 with ⟨_, e⟩ | ⟨g, cap, cur, rfl, h1, h2, hb, h3, h4, _⟩
  · omega
  · refine ⟨g, cap, rfl, h1, hb.lt, fun j u hj => ?_, fun j => hb.free j⟩
    refine hb.cell j ?_
    rw [← h4, List.getElem?_take] at hj
    split at hj
    · simpa using hj
    · cases hj
theorem dk_of_no {w w' : World} {row : Option Nat} (hg : w.grownBy w' row) (h : ∀ k, row = some k → k < w.heap.size → ∃ cur t, Bk w k t cur ∧ NoU cur) : Dk w w' := by
  refine ⟨hg.size, fun b o v e => ?_⟩
  by_cases hb : row = some b
  · obtain ⟨cur, t, hk, hj⟩ := h b hb (cell_lt e)
    rw [Lib.cell_of_heap hk] at e
    exact absurd rfl (hj _ (Array.mem_of_getElem? e) v)
  · exact hg.cell e (fun e2 => hb e2.symm)
theorem zero_no {z : Array Value} (h : NoU z) (hz : 0 < z.size) (n : Nat) : NoU (Builtin.zeroCells z n) := by
  intro u hu v
  simp only [Builtin.zeroCells, Array.mem_map] at hu
  obtain ⟨i, _, rfl⟩ := hu
  have hi : i % z.size < z.size := Nat.mod_lt _ hz
  rw [getElem!_pos z _ hi]
  exact h _ (Array.getElem_mem hi) v
/-- Elements more. -/
theorem run_append_ow (w : World) (T ty E : TypeId) (k bts : Nat) (z : Value) (i0 : TypeInfo) (ht : Try.prog.underlying T = some (.slice E)) (hi : Try.prog.info? E = some i0) (hz0 : i0.zero = some z) (hz1 : i0.size = k) (hz2 : i0.bytes = bts)
    (hzc : z.cells.size = k) (hzn : NoU z.cells) (hk : 0 < k) (hbt : bts ≤ 100) (v : Value) (m : Nat) (xs : List Value) (hown : OW w E k v m xs) (ad : Addr) (n c : Nat) (news : List Value) (hl : news.length = n * k) (hnews : ∀ j u, news[j]? = some u → w.cell? (ad.add j) = some u) (h1 : ∀ u ∈ news, u.oneCell' = true)
    (hnn : ∀ u ∈ news, ∀ x : Int, u ≠ .int .u32 x) (h0 : v = .slice none 0 0 → 0 < n) (hm : m + n ≤ 1000000) :
    ∃ v' w', (Builtin.append_ #[T, T] ty #[v, .slice (some ad) n c]).run Try.prog w = .ok v' w' ∧ OW w' E k v' (m + n) (xs ++ news) ∧ w.grownBy w' v.ownBlock ∧ Dk w w' ∧ (v'.ownBlock = v.ownBlock ∨ v'.ownBlock = some w.heap.size) := by
  have hml : (1000001 : Nat) ≤ maxLen := by unfold maxLen; omega
  have hb48 : (m + n) * bts ≤ 140737488355328 := Nat.le_trans (Nat.mul_le_mul hm hbt) (by omega)
  have hxs : ∀ u ∈ xs, ∀ x : Int, u ≠ .int .u32 x := by
    rcases hown.2 with ⟨_, e⟩ | ⟨g, cap, cur, _, _, _, _, _, e, hall⟩
    · subst e
      have := hown.1
      rw [Nat.zero_mul] at this
      rw [List.length_eq_zero_iff.1 this]
      intro u hu; cases hu
    · intro u hu
      rw [← e] at hu
      exact hall u (by simpa using List.mem_of_mem_take hu)
  have grown : ∀ (old : Nat) (row : Option Nat), (∀ k, row = some k → k < w.heap.size → ∃ cur t, Bk w k t cur ∧ NoU cur) →
      OW (w.drew.alloc (.cells (xs.toArray ++ news.toArray ++ Builtin.zeroCells z.cells (grownCap w (m + n) old E - (m + n))) E)) E k (.slice (some ⟨w.heap.size, 0, none⟩) (m + n) (grownCap w (m + n) old E)) (m + n) (xs ++ news) ∧
      w.grownBy (w.drew.alloc (.cells (xs.toArray ++ news.toArray ++ Builtin.zeroCells z.cells (grownCap w (m + n) old E - (m + n))) E)) row ∧
      Dk w (w.drew.alloc (.cells (xs.toArray ++ news.toArray ++ Builtin.zeroCells z.cells (grownCap w (m + n) old E - (m + n))) E)) := by
    intro old row hrow
    have hge := grownCap_ge w (m + n) old E
    have hcm : grownCap w (m + n) old E ≤ maxLen := grownCap_le_maxLen w (m + n) old E (by omega)
    have hlen : (xs ++ news).length = (m + n) * k := by rw [List.length_append, hown.1, hl, Nat.add_mul]
    refine ⟨⟨hlen, .inr ⟨w.heap.size, _, _, rfl, hge, hcm, alloc_top w.drew _, ?_, ?_, ?_⟩⟩, ⟨rfl, rfl, rfl, by simp, fun k hk _ => by first | exact heap_alloc_old w.drew _ k hk | exact heap_alloc_old w.drew _ hk⟩, ((Dk.refl w).drew).alloc _⟩
    · rw [Array.size_append, Array.size_append, List.size_toArray, List.size_toArray, size_zeroCells, hzc, ← List.length_append, hlen, ← Nat.add_mul, Nat.add_sub_cancel' hge]
    · rw [Array.toList_append, Array.toList_append, List.toList_toArray, List.toList_toArray, ← hlen]
      exact List.take_left
    · intro u hu
      simp only [Array.mem_append, List.mem_toArray] at hu
      rcases hu with (hx | hx) | hx
      · exact hxs u hx
      · exact hnn u hx
      · exact zero_no hzn (by omega) _ u hx
  rcases hown.2 with ⟨rfl, e⟩ | ⟨g, cap, cur, rfl, h2, h3, hg, h5, htake, hall⟩
  · subst e
    have hx0 : xs = [] := List.length_eq_zero_iff.1 (by have := hown.1; rw [Nat.zero_mul] at this; exact this)
    subst hx0
    have hn := h0 rfl
    have hbn : n * bts ≤ 140737488355328 := Nat.le_trans (Nat.mul_le_mul (show n ≤ 1000000 by omega) hbt) (by omega)
    have hr := run_append_nil (P := Try.prog) w T ty E i0 z ht hi hz0 ad n c news (by rw [hz1]; exact hl) hnews hn (by omega) (by rw [hz2]; omega)
    have hgr := grown 0 (Value.ownBlock (.slice none 0 0)) (by intro k hk; cases hk)
    simp only [Nat.zero_add, List.nil_append, Array.empty_append] at hgr ⊢
    exact ⟨_, _, hr, hgr.1, hgr.2.1, hgr.2.2, .inr rfl⟩
  · by_cases hroom : m + n ≤ cap
    · have hmul : (m + n) * k ≤ cap * k := Nat.mul_le_mul_right _ hroom
      rw [Nat.add_mul] at hmul
      have hfit : m * i0.size + news.length ≤ cur.size := by rw [hz1, h5, hl]; omega
      have hr := run_append_room (P := Try.prog) w T ty E i0 ht hi g m cap cur hg ad n c news (by rw [hz1]; exact hl) hnews h1 hroom hfit
      have hgb : w.grownBy (w.setRow g (cur.toList.take (m * i0.size) ++ news ++ cur.toList.drop (m * i0.size + news.length)).toArray) (Value.ownBlock (.slice (some ⟨g, 0, none⟩) m cap)) := ⟨rfl, rfl, rfl, by simp, fun k _ hk => setRow_other w g k _ (fun e => hk (by simp [Value.ownBlock, e]))⟩
      have hlen : (xs ++ news).length = (m + n) * k := by rw [List.length_append, hown.1, hl, Nat.add_mul]
      refine ⟨_, _, hr, ⟨hlen, .inr ⟨g, cap, _, rfl, hroom, h3, setRow_heap w g cur _ _ _ hg, ?_, ?_, ?_⟩⟩, hgb, dk_of_no hgb ?_, .inl rfl⟩
      · rw [hz1]
        simp only [List.size_toArray, List.length_append, List.length_take, List.length_drop, Array.length_toList]
        omega
      · rw [hz1, htake, List.toList_toArray, ← hlen]
        exact List.take_left
      · intro u hu
        rw [List.mem_toArray, List.mem_append, List.mem_append] at hu
        rcases hu with (hx | hx) | hx
        · exact hall u (by simpa using List.mem_of_mem_take hx)
        · exact hnn u hx
        · exact hall u (by simpa using List.mem_of_mem_drop hx)
      · intro k hk _
        obtain rfl : g = k := by simpa [Value.ownBlock] using hk
        exact ⟨cur, _, hg, hall⟩
    · have holds : ∀ j u, xs[j]? = some u → w.cell? ((⟨g, 0, none⟩ : Addr).add j) = some u := by
        intro j u hj
        rw [Addr.add_lit, Nat.zero_add, Lib.cell_of_heap hg]
        rw [← htake, List.getElem?_take] at hj
        split at hj
        · simpa using hj
        · cases hj
      have hr := run_append_grow (P := Try.prog) w T ty E i0 z ht hi hz0 ⟨g, 0, none⟩ m cap xs (by rw [hz1]; exact hown.1) holds ad n c news (by rw [hz1]; exact hl) hnews (by omega) (by omega) (growslice_fits (by omega) (by rw [hz2]; omega))
      have hgr := grown cap (Value.ownBlock (.slice (some ⟨g, 0, none⟩) m cap)) (by
        intro k hk _
        obtain rfl : g = k := by simpa [Value.ownBlock] using hk
        exact ⟨cur, _, hg, hall⟩)
      exact ⟨_, _, hr, hgr.1, hgr.2.1, hgr.2.2, .inr rfl⟩
theorem wpList_append_ow {ops : Array Oper} {rest : List Oper} {o : Oper} {a : Act} {Q : Exit → Act → World → Prop} {w : World} (hgd : o.guard = none) (s x : Operand) (T : TypeId)
    (ho : o.op = .call { callee := .builtin .append, args := #[s, x], argTypes := #[T, T] }) (E : TypeId) (k bts : Nat) (z : Value) (i0 : TypeInfo) (ht : Try.prog.underlying T = some (.slice E)) (hi : Try.prog.info? E = some i0) (hz0 : i0.zero = some z) (hz1 : i0.size = k) (hz2 : i0.bytes = bts)
    (hzc : z.cells.size = k) (hzn : NoU z.cells) (hk : 0 < k) (hbt : bts ≤ 100)
    (v : Value) (m : Nat) (xs : List Value) (hs : a.eval s = v) (hown : OW w E k v m xs) (ad : Addr) (n c : Nat) (news : List Value) (hx : a.eval x = .slice (some ad) n c) (hl : news.length = n * k) (hnews : ∀ j u, news[j]? = some u → w.cell? (ad.add j) = some u) (h1 : ∀ u ∈ news, u.oneCell' = true)
    (hnn : ∀ u ∈ news, ∀ x : Int, u ≠ .int .u32 x) (h0 : v = .slice none 0 0 → 0 < n) (hm : m + n ≤ 1000000)
    (h : ∀ v' w', OW w' E k v' (m + n) (xs ++ news) → w.grownBy w' v.ownBlock → Dk w w' → (v'.ownBlock = v.ownBlock ∨ v'.ownBlock = some w.heap.size) → wpList Try.prog ops Q rest (a.put o.dst v') w') :
    wpList Try.prog ops Q (o :: rest) a w := by
  refine wpList_plain hgd fun K hK => ?_
  obtain ⟨v', w', hr, h2, h3, h4, h5⟩ := run_append_ow w T o.type E k bts z i0 ht hi hz0 hz1 hz2 hzc hzn hk hbt v m xs hown ad n c news hl hnews h1 hnn h0 hm
  unfold Oper.wp execOp
  simp only [ho, resolve, invoke, builtin, Sem.run_bind, Sem.run_pure, Result.andThen_ok, List.map_toArray, List.map_cons, List.map_nil, hs, hx, hr]
  exact hK _ _ (h v' w' h2 h3 h4 h5)
end Go.Proofs.Ytgioppkggpfnoaa.Nu
end

section
/- Tables of ratios that the call makes: rows that are appended to, and the row of them. -/
set_option linter.unusedVariables false
namespace Go.Proofs.Ytgioppkggpfnoaa.Nu
open Go.RowKit Go.Proofs

/-- A slice, by where it lies, its length, its room. -/
def slv (x : Option Addr × Nat × Nat) : Value := .slice x.1 x.2.1 x.2.2
def nilS : Option Addr × Nat × Nat := (none, 0, 0)
/-- A row of slices in a block of its own. -/
def OL (w : World) (g n : Nat) (f : Nat → Option Addr × Nat × Nat) : Prop := Bk w g 22 (rowOf 1 n fun j _ => slv (f j))
theorem OL.lt {w : World} {g n : Nat} {f : Nat → Option Addr × Nat × Nat} (h : OL w g n f) : g < w.heap.size := Bk.lt h
theorem OL.below {w w' : World} {g n : Nat} {f : Nat → Option Addr × Nat × Nat} (h : OL w g n f) (hb : Below w.heap.size w w') : OL w' g n f := Bk.below h hb
theorem OL.keep {w w' : World} {g n : Nat} {f : Nat → Option Addr × Nat × Nat} (h : OL w g n f) (hg : w'.heap[g]? = w.heap[g]?) : OL w' g n f := hg.trans h
theorem OL.cell {w : World} {g n i : Nat} {f : Nat → Option Addr × Nat × Nat} (h : OL w g n f) (hi : i < n) : w.cell? ⟨g, i, none⟩ = some (slv (f i)) := by
  have h1 := Bk.cell h (i * 1 + 0) (rowOf_get (m := 1) _ hi (by omega))
  simpa using h1
theorem OL.free {w : World} {g n i : Nat} {f : Nat → Option Addr × Nat × Nat} (h : OL w g n f) : w.frozen? ⟨g, i, none⟩ = false := Bk.free h i
theorem OL.put {w : World} {g n i : Nat} {f : Nat → Option Addr × Nat × Nat} (h : OL w g n f) (x : Option Addr × Nat × Nat) : OL (w.setCell ⟨g, i, none⟩ (slv x)) g n (fun j => if j = i then x else f j) := by
  have h1 := Bk.set h (i * 1 + 0) (slv x)
  rw [rowOf_set (m := 1) _ (by omega)] at h1
  have e : i * 1 + 0 = i := by omega
  rw [e] at h1
  unfold OL
  have e2 : (rowOf 1 n fun j d => if j = i ∧ d = 0 then slv x else slv (f j)) = rowOf 1 n fun j _ => slv (if j = i then x else f j) := rowOf_congr fun j c _ hc => by
    have : c = 0 := by omega
    subst this
    by_cases hj : j = i
    · simp [hj]
    · simp [hj]
  rw [← e2]
  exact h1
theorem OL.noU {w : World} {g n i : Nat} {f : Nat → Option Addr × Nat × Nat} (h : OL w g n f) (hi : i < n) (x : Option Addr × Nat × Nat) : Dk w (w.setCell ⟨g, i, none⟩ (slv x)) := by
  refine (Dk.refl w).set h i ?_ (slv x)
  intro v hv
  have h1 := rowOf_get (m := 1) (n := n) (c := 0) (fun j _ => slv (f j)) hi (by omega)
  have e : i * 1 + 0 = i := by omega
  rw [e] at h1
  rw [h1] at hv
  cases hv
def mkL (n : Nat) : Array Value := rowOf 1 n fun _ _ => slv nilS
theorem OL.made (w : World) (n : Nat) : OL (w.alloc (.cells (mkL n) 22)) w.heap.size n (fun _ => nilS) := alloc_top w _
theorem infoL : (Try.prog.info? 22).map (fun i => (i.zero, i.size, i.bytes)) = some (some (.slice none 0 0), 1, 24) := by kernel_rfl
theorem make_L (n : Nat) (hn : n ≤ 1000000) (w : World) : (Instr.makeSlice 25 (.int .i64 n) (.int .i64 n)).run Try.prog w = .ok (.slice (some ⟨w.heap.size, 0, none⟩) n n) (w.alloc (.cells (mkL n) 22)) := by
  obtain ⟨i0, hi, hz0, hz1, hz2⟩ := info_parts infoL
  have h := run_make (P := Try.prog) w 25 22 i0 _ Try.underlying25 hi hz0 .i64 .i64 n n (by omega) (Int.le_refl _) (by rw [hz2]; omega) (by omega)
  have e : madeCells (Value.slice none 0 0).cells (n * 1) = mkL n := by
    rw [rowOf_made _ 1 n rfl]
    refine rowOf_congr fun i c _ hc => ?_
    have : c = 0 := by omega
    subst this
    rfl
  simp only [Int.toNat_natCast, hz1, e] at h
  exact h
/-- The cells of a ratio among a row's. -/
def RatAt (xs : List Value) (r : Nat) (t : TQ) : Prop := xs[r * 3]? = some (.bool t.q.b) ∧ xs[r * 3 + 1]? = some (.slice t.q.A t.q.n t.q.c) ∧ xs[r * 3 + 2]? = some (.slice t.A t.n t.c)
theorem RatAt.app {xs ys : List Value} {r i : Nat} {t : TQ} (h : RatAt xs r t) (hl : xs.length = i * 3) (hr : r < i) : RatAt (xs ++ ys) r t := by
  have hlt : ∀ c, c < 3 → (xs ++ ys)[r * 3 + c]? = xs[r * 3 + c]? := fun c hc => List.getElem?_append_left (by omega)
  exact ⟨(hlt 0 (by omega)).trans h.1, (hlt 1 (by omega)).trans h.2.1, (hlt 2 (by omega)).trans h.2.2⟩
theorem RatAt.last {xs : List Value} {i : Nat} (t : TQ) (hl : xs.length = i * 3) : RatAt (xs ++ [.bool t.q.b, .slice t.q.A t.q.n t.q.c, .slice t.A t.n t.c]) i t := by
  have hlt : ∀ c, (xs ++ [Value.bool t.q.b, .slice t.q.A t.q.n t.q.c, .slice t.A t.n t.c])[i * 3 + c]? = [Value.bool t.q.b, .slice t.q.A t.q.n t.q.c, .slice t.A t.n t.c][c]? := fun c => by
    rw [List.getElem?_append_right (by omega), show i * 3 + c - xs.length = c by omega]
  exact ⟨hlt 0, hlt 1, hlt 2⟩
/-- A row of ratios that is appended to. -/
def ORW (w : World) (v : Value) (m : Nat) (F : Nat → Rat) : Prop := ∃ xs, OW w 32 3 v m xs ∧ ∀ r, r < m → ∃ t, RatAt xs r t ∧ RR w t (F r)
theorem ORW.nil (w : World) (F : Nat → Rat) : ORW w (slv nilS) 0 F := ⟨[], OW.nil _ _ _, fun r hr => absurd hr (by omega)⟩
theorem ORW.keep {w w' : World} {v : Value} {m : Nat} {F : Nat → Rat} (h : ORW w v m F) (hg : ∀ g, v.ownBlock = some g → w'.heap[g]? = w.heap[g]?) (k : Dk w w') : ORW w' v m F := by
  obtain ⟨xs, h1, h2⟩ := h
  refine ⟨xs, h1.keep hg, fun r hr => ?_⟩
  obtain ⟨t, h3, h4⟩ := h2 r hr
  exact ⟨t, h3, h4.dk k⟩
theorem ORW.read {w : World} {v : Value} {m : Nat} {F : Nat → Rat} (h : ORW w v m F) (hm : 0 < m) (hm2 : m ≤ 1000000) : ∃ g cap, v = .slice (some ⟨g, 0, none⟩) m cap ∧ RRs w (some ⟨g, 0, none⟩) m cap F := by
  obtain ⟨xs, h1, h2⟩ := h
  obtain ⟨g, cap, rfl, hc, hl, hcell, _⟩ := h1.cell hm
  refine ⟨g, cap, rfl, hc, hm2, fun _ => ⟨g, 0, rfl, hl, fun j hj => ?_⟩⟩
  obtain ⟨t, ⟨a0, a1, a2⟩, hr⟩ := h2 j hj
  rw [Nat.zero_add]
  exact ⟨t, hcell _ _ a0, hcell _ _ a1, hcell _ _ a2, hr⟩
theorem RRs.keep {w w' : World} {A : Option Addr} {n c : Nat} {F : Nat → Rat} (h : RRs w A n c F) (hg : ∀ b o s, A = some ⟨b, o, s⟩ → w'.heap[b]? = w.heap[b]?) (k : Dk w w') : RRs w' A n c F := by
  obtain ⟨h1, h2, h3⟩ := h
  refine ⟨h1, h2, fun h0 => ?_⟩
  obtain ⟨b, off, hA, hlt, hc⟩ := h3 h0
  refine ⟨b, off, hA, Nat.lt_of_lt_of_le hlt k.1, fun j hj => ?_⟩
  obtain ⟨q, c0, c1, c2, hr⟩ := hc j hj
  have hb := hg _ _ _ hA
  exact ⟨q, (World.cell?_of_block hb).trans c0, (World.cell?_of_block hb).trans c1, (World.cell?_of_block hb).trans c2, hr.dk k⟩
/-- A table turned, up to element k of row i. -/
structure TurnF (a : Nat → Nat → Rat) (m n g : Nat) (w : World) (i k : Nat) (wr : World) (f : Nat → Option Addr × Nat × Nat) : Prop where
  ol : OL wr g n f
  old : ∀ j, j < i → RRs wr (f j).1 m (f j).2.2 (fun r => a r j) ∧ (f j).2.1 = m ∧ ∀ b o s, (f j).1 = some ⟨b, o, s⟩ → b ≠ g ∧ b < wr.heap.size ∧ (slv (f i)).ownBlock ≠ some b
  cur : ORW wr (slv (f i)) k (fun r => a r i)
  curg : (slv (f i)).ownBlock ≠ some g
  curn : ∀ b, (slv (f i)).ownBlock = some b → w.heap.size ≤ b ∧ b < wr.heap.size
  new : ∀ j, i < j → f j = nilS
  bel : Below w.heap.size w wr
  hg : w.heap.size ≤ g
def TurnRel (a : Nat → Nat → Rat) (m n g : Nat) (w : World) (i k : Nat) (wr : World) : Prop := ∃ f, TurnF a m n g w i k wr f
theorem own_nil : (slv nilS).ownBlock = none := rfl
theorem TurnRel.start (a : Nat → Nat → Rat) (m n : Nat) {w wr : World} (hb : Below w.heap.size w wr) : TurnRel a m n wr.heap.size w 0 0 (wr.alloc (.cells (mkL n) 22)) :=
  ⟨fun _ => nilS, OL.made wr n, fun j hj => absurd hj (by omega), ORW.nil _ _, by rw [own_nil]; simp, (fun b h => by rw [own_nil] at h; cases h), fun _ _ => rfl, below_al hb _, hb.size⟩
theorem TurnF.next {a : Nat → Nat → Rat} {m n g : Nat} {w : World} {i : Nat} {wr : World} {f : Nat → Option Addr × Nat × Nat} (h : TurnF a m n g w i m wr f) (hm : 0 < m) (hm2 : m ≤ 1000000) : TurnRel a m n g w (i + 1) 0 wr := by
  have e1 : f (i + 1) = nilS := h.new _ (by omega)
  refine ⟨f, h.ol, fun j hj => ?_, by rw [e1]; exact ORW.nil _ _, by rw [e1, own_nil]; simp, (fun b hb => by rw [e1, own_nil] at hb; cases hb), fun j hj => h.new j (by omega), h.bel, h.hg⟩
  rw [e1, own_nil]
  by_cases hji : j < i
  · obtain ⟨h1, h2, h3⟩ := h.old j hji
    exact ⟨h1, h2, fun b o s hb => ⟨(h3 b o s hb).1, (h3 b o s hb).2.1, by simp⟩⟩
  · obtain rfl : j = i := by omega
    obtain ⟨g', cap, e, hr⟩ := h.cur.read hm hm2
    have e2 : f j = (some ⟨g', 0, none⟩, m, cap) := by
      unfold slv at e
      injection e with e3 e4 e5
      rw [← e3, ← e4, ← e5]
    have ho : (slv (f j)).ownBlock = some g' := by rw [e2]; rfl
    refine ⟨by rw [e2]; exact hr, by rw [e2], fun b o s hb => ?_⟩
    rw [e2] at hb
    simp only at hb
    injection hb with hb
    injection hb with hb1 hb2
    subst hb1
    exact ⟨fun e => h.curg (by rw [ho, e]), (h.curn _ ho).2, by simp⟩
theorem TurnF.done {a : Nat → Nat → Rat} {m n g : Nat} {w wr : World} {f : Nat → Option Addr × Nat × Nat} (h : TurnF a m n g w n 0 wr f) (hn : n ≤ 1000000) : RRss wr (some ⟨g, 0, none⟩) n n m (fun j r => a r j) := by
  refine ⟨Nat.le_refl _, hn, fun _ => ⟨g, 0, rfl, h.ol.lt, fun j hj => ?_⟩⟩
  obtain ⟨h1, h2, _⟩ := h.old j hj
  refine ⟨(f j).1, (f j).2.2, ?_, h1⟩
  rw [Nat.zero_add, ← h2]
  exact h.ol.cell hj
theorem rat_one (t : TQ) : ∀ u ∈ [Value.bool t.q.b, .slice t.q.A t.q.n t.q.c, .slice t.A t.n t.c], u.oneCell' = true := by
  intro u hu
  simp only [List.mem_cons, List.not_mem_nil, or_false] at hu
  rcases hu with rfl | rfl | rfl <;> rfl
theorem rat_no (t : TQ) : ∀ u ∈ [Value.bool t.q.b, .slice t.q.A t.q.n t.q.c, .slice t.A t.n t.c], ∀ x : Int, u ≠ .int .u32 x := by
  intro u hu x
  simp only [List.mem_cons, List.not_mem_nil, or_false] at hu
  rcases hu with rfl | rfl | rfl <;> intro h <;> cases h
theorem rat_new (w : World) (ty : TypeId) (t : TQ) (j : Nat) (u : Value) (h : [Value.bool t.q.b, .slice t.q.A t.q.n t.q.c, .slice t.A t.n t.c][j]? = some u) : ((w.alloc (.cells #[.bool t.q.b, .slice t.q.A t.q.n t.q.c, .slice t.A t.n t.c] ty)).drew).cell? ((⟨w.heap.size, 0, none⟩ : Addr).add j) = some u := by
  rw [Addr.add_lit, Nat.zero_add]
  exact (Bk.new w ty _).cell j (by simpa using h)
/-- One element more, and the row's slice laid where it was. -/
theorem TurnF.step0 {a : Nat → Nat → Rat} {m n g : Nat} {w : World} {i k : Nat} {wr wb w7 : World} {f : Nat → Option Addr × Nat × Nat} {xs : List Value} {t : TQ} {v' : Value} (h : TurnF a m n g w i k wr f) (hi : i < n) (hb : Below wr.heap.size wr wb)
    (hx : ∀ r, r < k → ∃ t, RatAt xs r t ∧ RR wr t (a r i)) (hxl : xs.length = k * 3) (ht : RR wr t (a k i)) (h1 : OW w7 32 3 v' (k + 1) (xs ++ [.bool t.q.b, .slice t.q.A t.q.n t.q.c, .slice t.A t.n t.c]))
    (h2 : wb.grownBy w7 (slv (f i)).ownBlock) (h3 : Dk wb w7) (h4 : v'.ownBlock = (slv (f i)).ownBlock ∨ v'.ownBlock = some wb.heap.size) :
    ∃ x, v' = slv x ∧ w7.cell? ⟨g, i, none⟩ = some (slv (f i)) ∧ w7.frozen? ⟨g, i, none⟩ = false ∧ TurnRel a m n g w i (k + 1) (w7.setCell ⟨g, i, none⟩ (slv x)) := by
  obtain ⟨g', cap, rfl, hcap, hl7, _, _⟩ := h1.cell (by omega)
  have hbig : ∀ b, b < wr.heap.size → (slv (f i)).ownBlock ≠ some b → w7.heap[b]? = wr.heap[b]? := fun b hbl hne => by
    rw [← hb.block b hbl]
    obtain ⟨o, ho⟩ : ∃ o, wb.heap[b]? = some o := ⟨wb.heap[b]'(Nat.lt_of_lt_of_le hbl hb.size), Array.getElem?_eq_getElem _⟩
    rw [ho]
    rw [← ho]
    exact h2.block b (Nat.lt_of_lt_of_le hbl hb.size) (fun e => hne e.symm)
  have hd : Dk wr w7 := (Dk.below hb).trans h3
  have o7 : OL w7 g n f := h.ol.keep (hbig g h.ol.lt h.curg)
  have hd2 : Dk w7 (w7.setCell ⟨g, i, none⟩ (slv (some ⟨g', 0, none⟩, k + 1, cap))) := o7.noU hi _
  have hgg : g' ≠ g := by
    rintro rfl
    rcases h4 with e | e
    · exact h.curg e.symm
    · have e2 : g' = wb.heap.size := by simpa [Value.ownBlock] using e
      have := h.ol.lt
      have := hb.size
      omega
  have hsame : ∀ b, b ≠ g → (w7.setCell ⟨g, i, none⟩ (slv (some ⟨g', 0, none⟩, k + 1, cap))).heap[b]? = w7.heap[b]? := fun b hne => Below.heap_setCell _ _ _ _ hne
  have hbel7 : Below w.heap.size w w7 := (h.bel.trans (hb.mono h.bel.size)).grown h2 (Nat.le_trans h.bel.size hb.size) (fun b e => (h.curn b e).1)
  have hg'w : w.heap.size ≤ g' := by
    rcases h4 with e | e
    · exact (h.curn g' e.symm).1
    · have e2 : g' = wb.heap.size := by simpa [Value.ownBlock] using e
      have := h.bel.size
      have := hb.size
      omega
  refine ⟨(some ⟨g', 0, none⟩, k + 1, cap), rfl, o7.cell hi, o7.free, fun j => if j = i then (some ⟨g', 0, none⟩, k + 1, cap) else f j, o7.put _, fun j hj => ?_, ?_, ?_, ?_, fun j hj => ?_, hbel7.setCell (p := ⟨g, i, none⟩) h.hg _, h.hg⟩
  · have hji : j ≠ i := by omega
    simp only [if_neg hji, if_true]
    obtain ⟨r1, r2, r3⟩ := h.old j hj
    have hk : ∀ b o s, (f j).1 = some ⟨b, o, s⟩ → (w7.setCell ⟨g, i, none⟩ (slv (some ⟨g', 0, none⟩, k + 1, cap))).heap[b]? = wr.heap[b]? := fun b o s e => by
      obtain ⟨e1, e2, e3⟩ := r3 b o s e
      rw [hsame b e1, hbig b e2 e3]
    refine ⟨r1.keep hk (hd.trans hd2), r2, fun b o s e => ?_⟩
    obtain ⟨e1, e2, e3⟩ := r3 b o s e
    refine ⟨e1, Nat.lt_of_lt_of_le e2 (hd.trans hd2).1, ?_⟩
    intro e4
    have e5 : g' = b := by simpa [slv, Value.ownBlock] using e4
    subst e5
    rcases h4 with e6 | e6
    · exact e3 e6.symm
    · have e7 : g' = wb.heap.size := by simpa [Value.ownBlock] using e6
      have := hb.size
      omega
  · simp only [if_true]
    refine ⟨_, h1.keep (fun b hb2 => hsame b (by have : g' = b := by simpa [Value.ownBlock] using hb2
                                                 subst this; exact hgg)), fun r hr => ?_⟩
    by_cases hrk : r < k
    · obtain ⟨t', q1, q2⟩ := hx r hrk
      exact ⟨t', q1.app hxl hrk, q2.dk (hd.trans hd2)⟩
    · obtain rfl : r = k := by omega
      exact ⟨t, RatAt.last t hxl, ht.dk (hd.trans hd2)⟩
  · simp only [if_true]
    intro e
    exact hgg (by simpa [slv, Value.ownBlock] using e)
  · simp only [if_true]
    intro b e
    have : g' = b := by simpa [slv, Value.ownBlock] using e
    subst this
    exact ⟨hg'w, Nat.lt_of_lt_of_le hl7 hd2.1⟩
  · rw [if_neg (by omega)]
    exact h.new j hj
theorem TurnF.step {a : Nat → Nat → Rat} {m n g : Nat} {w : World} {i k : Nat} {wr wb w7 : World} {f : Nat → Option Addr × Nat × Nat} {xs : List Value} {t : TQ} {v' : Value} (h : TurnF a m n g w i k wr f) (hi : i < n) (hb : Below wr.heap.size wr wb)
    (hx : ∀ r, r < k → ∃ t, RatAt xs r t ∧ RR wr t (a r i)) (hxl : xs.length = k * 3) (ht : RR wr t (a k i)) (h1 : OW w7 32 3 v' (k + 1) (xs ++ [.bool t.q.b, .slice t.q.A t.q.n t.q.c, .slice t.A t.n t.c]))
    (h2 : wb.grownBy w7 (Value.slice (f i).1 (f i).2.1 (f i).2.2).ownBlock) (h3 : Dk wb w7) (h4 : v'.ownBlock = (Value.slice (f i).1 (f i).2.1 (f i).2.2).ownBlock ∨ v'.ownBlock = some wb.heap.size) :
    ∃ (A : Option Addr) (n' c : Nat), v' = .slice A n' c ∧ w7.cell? ⟨g, i, none⟩ = some (.slice (f i).1 (f i).2.1 (f i).2.2) ∧ w7.frozen? ⟨g, i, none⟩ = false ∧ TurnRel a m n g w i (k + 1) (w7.setCell ⟨g, i, none⟩ (.slice A n' c)) := by
  obtain ⟨⟨A, n', c⟩, e, h5, h6, h7⟩ := TurnF.step0 h hi hb hx hxl ht h1 h2 h3 h4
  exact ⟨A, n', c, e, h5, h6, h7⟩
/-- What an append of one ratio does. -/
theorem append_r (w : World) (v : Value) (m : Nat) (xs : List Value) (hown : OW w 32 3 v m xs) (ad : Addr) (n c : Nat) (news : List Value) (hl : news.length = n * 3)
    (hnews : ∀ j u, news[j]? = some u → w.cell? (ad.add j) = some u) (h1 : ∀ u ∈ news, u.oneCell' = true) (hnn : ∀ u ∈ news, ∀ x : Int, u ≠ .int .u32 x) (hn0 : 0 < n) (hm : m + n ≤ 1000000) :
    ∃ v' w', (Builtin.append_ #[22, 22] 22 #[v, .slice (some ad) n c]).run Try.prog w = .ok v' w' ∧ OW w' 32 3 v' (m + n) (xs ++ news) ∧ w.grownBy w' v.ownBlock ∧ Dk w w' ∧ (v'.ownBlock = v.ownBlock ∨ v'.ownBlock = some w.heap.size) := by
  obtain ⟨i0, hi, hz0, hz1, hz2⟩ := info_parts infoR
  exact run_append_ow w 22 22 32 3 56 (.agg #[.bool false, .slice none 0 0, .slice none 0 0]) i0 Try.underlying22 hi hz0 hz1 hz2 rfl (by intro u hu v; simp [Value.cells] at hu; rcases hu with rfl | rfl | rfl <;> intro h <;> cases h) (by decide) (by decide) v m xs hown ad n c news hl hnews h1 hnn (fun _ => hn0) hm
/-- An append of ratios: one step of a region that draws. -/
theorem step_append_r {ops : Array Oper} {o : Oper} {a : Act} {w : World} {K : Act → World → Prop} {Q : Exit → Act → World → Prop} {E' : Prop} (hgd : o.guard = none) (s x : Operand) (hty : o.type = 22)
    (ho : o.op = .call { callee := .builtin .append, args := #[s, x], argTypes := #[22, 22] })
    (v : Value) (ad : Addr) (n c : Nat) (v' : Value) (w' : World) (hs : a.eval s = v) (hx : a.eval x = .slice (some ad) n c)
    (hr : (Builtin.append_ #[22, 22] 22 #[v, .slice (some ad) n c]).run Try.prog w = .ok v' w') (h : K (a.put o.dst v') w') :
    if Region.wanted o (yielded ops a.tmps) = true then Oper.wp Try.prog o a w K Q else E' := by
  have hw : Region.wanted o (yielded ops a.tmps) = true := by simp [Region.wanted, hgd]
  rw [if_pos hw]
  rw [← hty] at hr
  unfold Oper.wp
  simp [execOp, ho, resolve, invoke, builtin, hs, hx, Result.andThen]
  rw [hty] at hr ⊢
  simp [hr]
  exact h
end Go.Proofs.Ytgioppkggpfnoaa.Nu
end

section
/- The walks of shape, turn, Turn. -/
set_option linter.unusedVariables false
namespace Go.Proofs.Ytgioppkggpfnoaa.Nu
open Go.RowKit Go.Proofs

set_option maxRecDepth 100000 in
set_option maxHeartbeats 4000000 in
theorem shape_any (w : World) (A : Option Addr) (m c n : Nat) (f : Nat → Nat → Rat) (h : RRss w A m c n f) (hm : 0 < m) :
    Calls Try.prog 34 #[.slice A m c] w fun e w' => e = .returned (.tuple #[.int .i64 m, .int .i64 n, .int .i64 0]) ∧ Below w.heap.size w w' := by
  obtain ⟨b1, o1, rfl, hl1, hcc⟩ := h.2.2 hm
  have n0 := h.2.1
  have HC := Lib.hid hcc
  obtain ⟨A0, c0, z0, _⟩ := hcc 0 hm
  have x0 : w.cell? ⟨b1, o1, none⟩ = some (.slice A0 n c0) := by simpa using z0
  have q0 : ((m : Int) == 0) = false := by rw [beq_eq_false_iff_ne]; omega
  have q1 : (0 : Int) < (m : Int) := by omega
  clear h hcc z0
  go_enter Try.func34, Try.ntmps34
  go_wp2_with fail
  go_loopw [12] (fun k wr => ∃ i : Nat, k = .int .i64 i ∧ i ≤ m ∧ wr = w) (fun k _ => m - (intOf k).toNat)
  case atStart => exact ⟨0, rfl, Nat.zero_le _, rfl⟩
  case round =>
    obtain ⟨i, rfl, hi, rfl⟩ := hrel
    by_cases hi2 : i < m
    · have q3 : (i : Int) < (m : Int) := by omega
      obtain ⟨A1, c1, x1, _⟩ := HC.out i hi2
      go_wp2
      go_roundw
      case rel => exact ⟨i + 1, by go_num, hi2, trivial⟩
      case measure => simp only [intOf]; omega
    · have q3 : ¬ (i : Int) < (m : Int) := by omega
      go_wp2_with fail
      go_quiet (fail)
      go_wp2
      refine bodyPost_ret (v := .tuple #[.int .i64 m, .int .i64 n, .int .i64 0]) ?_ rfl ?_
      · simp [results, Try.f34, go_sem]
      · exact ⟨rfl, below_drewN (Below.refl _ _) _⟩
set_option maxRecDepth 100000 in
set_option maxHeartbeats 4000000 in
theorem turn_any (w : World) (A : Option Addr) (m c n : Nat) (a : Nat → Nat → Rat) (h : RRss w A m c n a) (hm : 0 < m) (hn : n ≤ 1000000) :
    Calls Try.prog 19 #[.slice A m c] w fun e w' => (∃ g : Nat, e = .returned (.tuple #[.slice (some ⟨g, 0, none⟩) n n, .int .i64 0]) ∧ RRss w' (some ⟨g, 0, none⟩) n n m (fun j r => a r j)) ∧ Below w.heap.size w w' := by
  have H := Lib.hid h
  have m0 := h.2.1
  have hmk := fun W => make_L n hn W
  clear h
  go_enter Try.func19, Try.ntmps19
  go_wp2_with fail
  refine (shape_any _ A m c n a H.out hm).mono ?_
  rintro e w1 ⟨rfl, hb⟩
  go_wp2_with fail
  have H0 := Lib.hid (TurnRel.start a m n hb)
  have hg : w.heap.size ≤ w1.heap.size := hb.size
  clear hb hmk
  obtain ⟨g, hgg⟩ : ∃ g, g = w1.heap.size := ⟨_, rfl⟩
  generalize w1.alloc (.cells (mkL n) 22) = w0 at *
  generalize w1.heap.size = g0 at *
  subst hgg
  go_loopw [24] (fun k wr => ∃ i : Nat, k = .int .i64 i ∧ i ≤ n ∧ Hid (TurnRel a m n g w i 0 wr)) (fun k _ => n - (intOf k).toNat)
  case atStart => exact ⟨0, rfl, Nat.zero_le _, H0⟩
  case round =>
    clear H0
    obtain ⟨i, rfl, hi, Hr⟩ := hrel
    by_cases hi2 : i < n
    · have q3 : (i : Int) < (n : Int) := by omega
      go_wp2_with fail
      go_loopw [29] (fun k wr => ∃ j : Nat, k = .int .i64 j ∧ j ≤ m ∧ Hid (TurnRel a m n g w i j wr)) (fun k _ => m - (intOf k).toNat)
      case atStart => exact ⟨0, rfl, Nat.zero_le _, Hr⟩
      case round =>
        clear Hr
        obtain ⟨k, rfl, hk, Hr⟩ := hrel
        obtain ⟨f, hf⟩ := Hr.out
        have HF := Lib.hid hf
        clear hf Hr
        by_cases hk2 : k < m
        · have q4 : (k : Int) < (m : Int) := by omega
          obtain ⟨b1, o1, rfl, hl1, hcc⟩ := H.out.2.2 hm
          obtain ⟨A2, c2, z0, hrow⟩ := hcc k hk2
          obtain ⟨b2, o2, rfl, hl2, hc2⟩ := hrow.2.2 (by omega)
          obtain ⟨t, y0, y1, y2, ht⟩ := hc2 i hi2
          have x0 := (HF.out.bel.cell (p := ⟨b1, o1 + k, none⟩) hl1).trans z0
          have x1 := (HF.out.bel.cell (p := ⟨b2, o2 + i * 3, none⟩) hl2).trans y0
          have x2 := (HF.out.bel.cell (p := ⟨b2, o2 + i * 3 + 1, none⟩) hl2).trans y1
          have x3 := (HF.out.bel.cell (p := ⟨b2, o2 + i * 3 + 2, none⟩) hl2).trans y2
          have RT := Lib.hid (ht.below HF.out.bel)
          have c0 : wr.cell? ⟨g, i, none⟩ = some (.slice (f i).1 (f i).2.1 (f i).2.2) := HF.out.ol.cell hi2
          have lg := HF.out.ol.lt
          have lb : b2 < wr.heap.size := Nat.lt_of_lt_of_le hl2 HF.out.bel.size
          clear hcc hrow hc2 z0 y0 y1 y2 ht
          obtain ⟨xs, hown, hx⟩ := HF.out.cur
          have HX := Lib.hid hx
          have HL := Lib.hid hown.1
          have HO := Lib.hid (show OW (wr.alloc (.cells #[.bool t.q.b, .slice t.q.A t.q.n t.q.c, .slice t.A t.n t.c] 32)).drew 32 3 (.slice (f i).1 (f i).2.1 (f i).2.2) k xs from (hown.al _).dr)
          have HB := Lib.hid (show Below wr.heap.size wr (wr.alloc (.cells #[.bool t.q.b, .slice t.q.A t.q.n t.q.c, .slice t.A t.n t.c] 32)).drew from below_dr (below_al (Below.refl _ wr) _))
          clear hx hown
          go_wp2_with fail
          obtain ⟨v1, w7, hrun, h1, h2, h3, h4⟩ := append_r (wr.alloc (.cells #[.bool t.q.b, .slice t.q.A t.q.n t.q.c, .slice t.A t.n t.c] 32)).drew (.slice (f i).1 (f i).2.1 (f i).2.2) k xs HO.out ⟨wr.heap.size, 0, none⟩ 1 1 [.bool t.q.b, .slice t.q.A t.q.n t.q.c, .slice t.A t.n t.c] rfl (rat_new wr _ t) (rat_one t) (rat_no t) (by omega) (by omega)
          obtain ⟨xA, xn, xc, rfl, hc7, hf7, hn7⟩ := TurnF.step HF.out hi2 HB.out HX.out HL.out RT.out h1 h2 h3 h4
          have HN := Lib.hid hn7
          have HRUN := Lib.hid hrun
          clear h1 h2 h3 h4 hn7 hrun
          go_region_law (refine step_append_r rfl _ _ rfl rfl (.slice (f i).1 (f i).2.1 (f i).2.2) ⟨wr.heap.size, 0, none⟩ 1 1 _ _ (by simp [Act.eval, Act.put]) (by simp [Act.eval, Act.put]) HRUN.out ?_)
          all_goals (go_wp2; go_roundw)
          all_goals first | exact ⟨k + 1, by go_num, hk2, HN⟩ | (simp only [intOf]; omega)
        · obtain rfl : m = k := by omega
          have HN := Lib.hid (HF.out.next hm m0)
          go_wp2
          go_roundw
          case rel => exact ⟨i + 1, by go_num, hi2, HN⟩
          case measure => simp only [intOf]; omega
    · obtain rfl : n = i := by omega
      obtain ⟨f, hf⟩ := Hr.out
      have HF := Lib.hid hf
      clear hf Hr hi2
      go_wp2
      go_ret2
      exact ⟨⟨g, rfl, HF.out.done hn⟩, HF.out.bel⟩
set_option maxRecDepth 100000 in
set_option maxHeartbeats 4000000 in
theorem tturn_any (w : World) (A : Option Addr) (m c n : Nat) (a : Nat → Nat → Rat) (h : RRss w A m c n a) (hm : 0 < m) (hn : n ≤ 1000000) :
    Calls Try.prog 7 #[.slice A m c] w fun e w' => (∃ g : Nat, e = .returned (.tuple #[.slice (some ⟨g, 0, none⟩) n n, .int .i64 0]) ∧ RRss w' (some ⟨g, 0, none⟩) n n m (fun j r => a r j)) ∧ Below w.heap.size w w' := by
  have H := Lib.hid h
  clear h
  go_enter Try.func7, Try.ntmps7
  go_wp2_with fail
  refine (turn_any _ A m c n a H.out hm hn).mono ?_
  rintro e w1 ⟨⟨g, rfl, hr⟩, hb⟩
  have HR := Lib.hid hr
  have HB := Lib.hid hb
  clear hr hb
  go_wp2
  go_ret2
  exact ⟨⟨g, rfl, HR.out⟩, HB.out⟩
end Go.Proofs.Ytgioppkggpfnoaa.Nu
end

section
/- The walk of mat.Apply. -/
set_option linter.unusedVariables false
namespace Go.Proofs.Ytgioppkggpfnoaa.Nu
open Go.RowKit Go.Proofs

set_option maxRecDepth 100000 in
set_option maxHeartbeats 4000000 in
theorem apply_any (w : World) (A B : Option Addr) (m c n d : Nat) (a : Nat → Nat → Rat) (g : Nat → Rat) (p q : Nat) (h : RRss w A m c n a) (h2 : RRs w B n d g) (la : ∀ k, k < m → ∀ i, i < n → RLim p (a k i)) (lb : ∀ i, i < n → RLim q (g i)) (hab : p + q ≤ 15900) (hs : 1 + n * (p + q + 1) + (p + q) ≤ 15900) :
    Calls Try.prog 8 #[.slice A m c, .slice B n d] w fun e w' => (∃ g1 : Nat, e = .returned (.tuple #[.slice (some ⟨g1, 0, none⟩) m m, .int .i64 0]) ∧ w.heap.size ≤ g1 ∧ RRs w' (some ⟨g1, 0, none⟩) m m (fun i => dot (a i) g n)) ∧ Below w.heap.size w w' := by
  have HA := Lib.hid h
  have HB := Lib.hid h2
  have LA := Lib.hid la
  have LB := Lib.hid lb
  have m0 := h.2.1
  clear h h2 la lb
  have hmk := fun W => make_R m m0 W
  go_enter Try.func8, Try.ntmps8
  go_wp2_with fail
  have H0 := Lib.hid (show EachRel (fun i => dot (a i) g n) m w 0 _ from ⟨OR.start (F := (fun i => dot (a i) g n)) (OR.made w m), below_al (Below.refl _ w) _⟩)
  clear hmk
  generalize w.alloc (.cells (mkR m) 32) = w0 at *
  go_loopw [16] (fun k wr => ∃ i : Nat, k = .int .i64 i ∧ i ≤ m ∧ Hid (EachRel (fun i => dot (a i) g n) m w i wr)) (fun k _ => m - (intOf k).toNat)
  case atStart => exact ⟨0, rfl, Nat.zero_le _, H0⟩
  case round =>
    clear H0
    obtain ⟨i, rfl, hi, Hr⟩ := hrel
    by_cases hi2 : i < m
    · have q3 : (i : Int) < (m : Int) := by omega
      obtain ⟨hx, hbel⟩ := Hr.out
      have OX := Lib.hid hx
      have HB_0 := Lib.hid hbel
      clear hx hbel Hr
      obtain ⟨b1, o1, rfl, hl1, hcc⟩ := HA.out.2.2 (by omega)
      obtain ⟨A2, c2, z0, hrow⟩ := hcc i hi2
      have X0 := Lib.hid z0
      have RA := Lib.hid hrow
      clear hcc z0 hrow
      have cr0 : wr.cell? ⟨b1, o1 + i, none⟩ = some (.slice A2 n c2) := (HB_0.out.cell (p := ⟨b1, o1 + i, none⟩) hl1).trans X0.out
      obtain ⟨⟨_, px0⟩, ⟨_, px1⟩, ⟨_, px2⟩, rx0, rx1, rx2⟩ := OX.out.there hi2
      have lx := OX.out.lt
      go_wp2_with fail
      refine (dot_any _ A2 B n c2 d (a i) g p q (RA.out.below HB_0.out) (HB.out.below HB_0.out) (LA.out i hi2) LB.out hab hs).mono ?_
      rintro e w1 ⟨⟨t, rfl, ht⟩, hb⟩
      clear cr0 px0 px1 px2 rx0 rx1 rx2 lx
      have K := Dk.below hb
      have Ox_101 := Lib.hid (show OR _ (w.heap.size) m (upR (fun i => dot (a i) g n) i) from OX.out.below hb)
      have HB_102 := Lib.hid (below_tr HB_0.out hb)
      clear hb
      clear K OX HB_0
      have RT_103 := Lib.hid ht
      clear ht
      have cr0 : w1.cell? ⟨b1, o1 + i, none⟩ = some (.slice A2 n c2) := (HB_102.out.cell (p := ⟨b1, o1 + i, none⟩) hl1).trans X0.out
      obtain ⟨⟨_, px0⟩, ⟨_, px1⟩, ⟨_, px2⟩, rx0, rx1, rx2⟩ := Ox_101.out.there hi2
      have lx := Ox_101.out.lt
      have n_104 := Ox_101.out.lt
      go_wp2
      go_roundw
      case rel => exact ⟨i + 1, by go_num, hi2, Lib.hid ⟨OR.next (F := (fun i => dot (a i) g n)) ((Ox_101.out.put hi2 t (dot (a i) g n) RT_103.out).1.al _), (below_al (below_put3 HB_102.out (by have := HB_102.out.size; omega) i (.bool t.q.b) (.slice t.q.A t.q.n t.q.c) (.slice t.A t.n t.c)) _)⟩⟩
      case measure => simp only [intOf]; omega
    · obtain rfl : m = i := by omega
      obtain ⟨hx, hbel⟩ := Hr.out
      have OX := Lib.hid hx
      have HB_0 := Lib.hid hbel
      clear hx hbel Hr
      clear hi2
      go_wp2
      go_ret2
      exact ⟨⟨w.heap.size, rfl, Nat.le_refl _, OX.out.done (F := (fun i => dot (a i) g n)) m0⟩, HB_0.out⟩

end Go.Proofs.Ytgioppkggpfnoaa.Nu
end

section
/- The walks of mat.Zero, mat.One. -/
set_option linter.unusedVariables false
namespace Go.Proofs.Ytgioppkggpfnoaa.Nu
open Go.RowKit Go.Proofs

set_option maxRecDepth 100000 in
set_option maxHeartbeats 4000000 in
theorem mzero_any (w : World) (n : Nat) (hn : n ≤ 16) :
    Calls Try.prog 13 #[.int .i64 n, .int .i64 n] w fun e w' => (∃ g : Nat, e = .returned (.slice (some ⟨g, 0, none⟩) n n) ∧ w.heap.size ≤ g ∧ ∃ f, OL w' g n f) ∧ Below w.heap.size w w' := by
  have hmk := fun W => make_L n (by omega) W
  have q0 : min (max (n : Int) 0) 16 = (n : Int) := by omega
  have q1 : max (n : Int) 0 = (n : Int) := by omega
  have q2 : min (n : Int) 16 = (n : Int) := by omega
  go_enter Try.func13, Try.ntmps13
  go_wp2_with fail
  clear hmk
  have hg : w.heap.size ≤ w.heap.size := Nat.le_refl _
  have H0 := Lib.hid (show ∃ f, OL (w.alloc (.cells (mkL n) 22)) w.heap.size n f ∧ Below w.heap.size w (w.alloc (.cells (mkL n) 22)) from ⟨_, OL.made w n, below_al (Below.refl _ w) _⟩)
  generalize w.alloc (.cells (mkL n) 22) = w0 at *
  go_loopw [13] (fun k wr => ∃ i : Nat, k = .int .i64 i ∧ i ≤ n ∧ Hid (∃ f, OL wr w.heap.size n f ∧ Below w.heap.size w wr)) (fun k _ => n - (intOf k).toNat)
  case atStart => exact ⟨0, rfl, Nat.zero_le _, H0⟩
  case round =>
    clear H0
    obtain ⟨i, rfl, hi, Hr⟩ := hrel
    obtain ⟨f, ho, hbel⟩ := Hr.out
    have OX := Lib.hid ho
    have HB := Lib.hid hbel
    clear ho hbel Hr
    by_cases hi2 : i < n
    · have q3 : (i : Int) < (n : Int) := by omega
      have c0 : wr.cell? ⟨w.heap.size, i, none⟩ = some (.slice (f i).1 (f i).2.1 (f i).2.2) := OX.out.cell hi2
      have f0 : wr.frozen? ⟨w.heap.size, i, none⟩ = false := OX.out.free (i := i)
      go_wp2_with fail
      refine (vzero_any _ n hn).mono ?_
      rintro e w5 ⟨⟨g1, rfl, hg1, _⟩, hb⟩
      have O2 := Lib.hid (OX.out.below hb)
      have HB2 := Lib.hid (below_tr HB.out hb)
      clear hb c0 f0
      have c0 : w5.cell? ⟨w.heap.size, i, none⟩ = some (.slice (f i).1 (f i).2.1 (f i).2.2) := O2.out.cell hi2
      have f0 : w5.frozen? ⟨w.heap.size, i, none⟩ = false := O2.out.free (i := i)
      go_wp2
      go_roundw
      case rel => exact ⟨i + 1, by go_num, hi2, Lib.hid ⟨_, O2.out.put (some ⟨g1, 0, none⟩, n, n), below_st HB2.out _ hg _⟩⟩
      case measure => simp only [intOf]; omega
    · obtain rfl : n = i := by omega
      go_wp2
      go_ret
      exact ⟨⟨w.heap.size, rfl, hg, _, OX.out⟩, HB.out⟩

set_option maxRecDepth 100000 in
set_option maxHeartbeats 4000000 in
theorem one_any (w : World) (n : Nat) (hn : n ≤ 16) :
    Calls Try.prog 5 #[.int .i64 n] w fun e w' => (∃ g : Nat, e = .returned (.slice (some ⟨g, 0, none⟩) n n)) ∧ Below w.heap.size w w' := by
  go_enter Try.func5, Try.ntmps5
  go_wp2_with fail
  refine (mzero_any _ n hn).mono ?_
  rintro e w1 ⟨⟨g, rfl, hg, f, ho⟩, hb⟩
  have H0 := Lib.hid (show ∃ f, OL w1 g n f ∧ Below w.heap.size w w1 from ⟨f, ho, hb⟩)
  clear ho hb
  go_wp2_with fail
  go_loopw [10] (fun k wr => ∃ i : Nat, k = .int .i64 i ∧ i ≤ n ∧ Hid (∃ f, OL wr g n f ∧ Below w.heap.size w wr)) (fun k _ => n - (intOf k).toNat)
  case atStart => exact ⟨0, rfl, Nat.zero_le _, H0⟩
  case round =>
    clear H0
    obtain ⟨i, rfl, hi, Hr⟩ := hrel
    obtain ⟨f, ho, hbel⟩ := Hr.out
    have OX := Lib.hid ho
    have HB := Lib.hid hbel
    clear ho hbel Hr
    by_cases hi2 : i < n
    · have q3 : (i : Int) < (n : Int) := by omega
      have c0 : wr.cell? ⟨g, i, none⟩ = some (.slice (f i).1 (f i).2.1 (f i).2.2) := OX.out.cell hi2
      have f0 : wr.frozen? ⟨g, i, none⟩ = false := OX.out.free (i := i)
      go_wp2_with fail
      refine (unit_any _ n i hn hi2).mono ?_
      rintro e w5 ⟨⟨g1, rfl⟩, hb⟩
      have O2 := Lib.hid (OX.out.below hb)
      have HB2 := Lib.hid (below_tr HB.out hb)
      clear hb c0 f0
      have c0 : w5.cell? ⟨g, i, none⟩ = some (.slice (f i).1 (f i).2.1 (f i).2.2) := O2.out.cell hi2
      have f0 : w5.frozen? ⟨g, i, none⟩ = false := O2.out.free (i := i)
      go_wp2
      go_roundw
      case rel => exact ⟨i + 1, by go_num, hi2, Lib.hid ⟨_, O2.out.put (some ⟨g1, 0, none⟩, n, n), below_st HB2.out _ hg _⟩⟩
      case measure => simp only [intOf]; omega
    · obtain rfl : n = i := by omega
      go_wp2
      go_ret
      exact ⟨⟨g, rfl⟩, HB.out⟩

end Go.Proofs.Ytgioppkggpfnoaa.Nu
end

section
/- The walk of ratio.Compare. -/
set_option linter.unusedVariables false
namespace Go.Proofs.Ytgioppkggpfnoaa.Nu
open Go.RowKit Go.Proofs

/-- How two ratios stand, as the program tells it. -/
def rcmp (x y : Rat) : Int := icmp (x.num * (y.den : Int)) (y.num * (x.den : Int))
theorem rcmp_eq {x y : Rat} (h : x = y) : rcmp x y = 0 := icmp_eq ((rat_eq x y).1 h).symm
set_option maxRecDepth 100000 in
set_option maxHeartbeats 4000000 in
theorem rcmp_any (w : World) (t u : TQ) (x y : Rat) (a b : Nat) (h : RR w t x) (h2 : RR w u y) (la : RLim a x) (lb : RLim b y) (hab : a + b ≤ 15900) :
    Calls Try.prog 10 #[.agg #[.bool t.q.b, .slice t.q.A t.q.n t.q.c, .slice t.A t.n t.c], .agg #[.bool u.q.b, .slice u.q.A u.q.n u.q.c, .slice u.A u.n u.c]] w fun e w' => e = .returned (.tuple #[.int .i64 (rcmp x y), .int .i64 0]) ∧ Below w.heap.size w w' := by
  have LA := Lib.hid la
  have LB := Lib.hid lb
  have d1 := la.1
  have d2 := la.2
  have d3 := lb.1
  have d4 := lb.2
  have ii1 : nb ((x.den : Int)).natAbs ≤ a := d2
  have ii2 : nb ((y.den : Int)).natAbs ≤ b := d4
  have HA := Lib.hid h
  have HB := Lib.hid h2
  clear h h2 la lb
  have BX := Lib.hid (boxes2 w 32 #[.bool t.q.b, .slice t.q.A t.q.n t.q.c, .slice t.A t.n t.c] 32 #[.bool u.q.b, .slice u.q.A u.q.n u.q.c, .slice u.A u.n u.c])
  go_enter Try.func10, Try.ntmps10
  go_upto_region 1 with (fail)
  generalize (w.alloc (.cells #[.bool t.q.b, .slice t.q.A t.q.n t.q.c, .slice t.A t.n t.c] 32)).alloc (.cells #[.bool u.q.b, .slice u.q.A u.q.n u.q.c, .slice u.A u.n u.c] 32) = w0 at *
  obtain ⟨b0, b1, hw⟩ := BX.out
  have Ba_0 := Lib.hid b0
  have Bb_0 := Lib.hid b1
  have HB_0 := Lib.hid hw
  have K := Dk.below (hw.mono (Nat.le_refl _))
  clear BX hw b0 b1
  have RA_1 := Lib.hid (HA.out.dk K)
  have RB_2 := Lib.hid (HB.out.dk K)
  clear K HA HB
  go_upto_region 1 with (fail)
  have la := Ba_0.out.lt
  obtain ⟨ca0, ca1, ca2⟩ := Ba_0.out.cells3
  have lb := Bb_0.out.lt
  obtain ⟨cb0, cb1, cb2⟩ := Bb_0.out.cells3
  go_cut [6, 7] (fun s6 s7 wx => ∃ (g_3 : Nat) (vx : Q), s6 = .pointer (some ⟨g_3, 0, none⟩) ∧ s7 = .int .i64 0 ∧ w.heap.size < g_3 ∧ w.heap.size + 1 < g_3 ∧ Bk wx g_3 30 #[.bool vx.b, .slice vx.A vx.n vx.c] ∧ Bk wx (w.heap.size) 32 #[.bool t.q.b, .slice t.q.A t.q.n t.q.c, .slice t.A t.n t.c] ∧ Bk wx (w.heap.size + 1) 32 #[.bool u.q.b, .slice u.q.A u.q.n u.q.c, .slice u.A u.n u.c] ∧ Below w.heap.size w wx ∧ RR wx t x ∧ RR wx u y ∧ RW wx vx (x.num * (y.den : Int)))
  case first =>
    obtain ⟨SX1, hS1⟩ : ∃ S : World → Prop, ∀ w', S w' ↔ (w'.cell? ⟨w.heap.size, 0, none⟩ = some (.bool t.q.b) ∧ w'.cell? ⟨w.heap.size, 1, none⟩ = some (.slice t.q.A t.q.n t.q.c) ∧ w'.cell? ⟨w.heap.size, 2, none⟩ = some (.slice t.A t.n t.c) ∧ w'.cell? ⟨w.heap.size + 1, 0, none⟩ = some (.bool u.q.b) ∧ w'.cell? ⟨w.heap.size + 1, 1, none⟩ = some (.slice u.q.A u.q.n u.q.c) ∧ w'.cell? ⟨w.heap.size + 1, 2, none⟩ = some (.slice u.A u.n u.c)) := ⟨_, fun _ => Iff.rfl⟩
    have k_4 : SX1 (w0) := (hS1 _).2 ⟨Ba_0.out.cell 0 rfl, Ba_0.out.cell 1 rfl, Ba_0.out.cell 2 rfl, Bb_0.out.cell 0 rfl, Bb_0.out.cell 1 rfl, Bb_0.out.cell 2 rfl⟩
    have k_5 : SX1 (w0.drew) := (hS1 _).2 ⟨(Ba_0.out.drew).cell 0 rfl, (Ba_0.out.drew).cell 1 rfl, (Ba_0.out.drew).cell 2 rfl, (Bb_0.out.drew).cell 0 rfl, (Bb_0.out.drew).cell 1 rfl, (Bb_0.out.drew).cell 2 rfl⟩
    have tok_6 : True := trivial
    have tok_7 : True := trivial
    have tok_8 : True := trivial
    have tok_9 : True := trivial
    have tok_10 : True := trivial
    have k_11 : SX1 ((w0.alloc (.cells #[.bool false, .slice none 0 0] 30)).drew) := (hS1 _).2 ⟨((Ba_0.out.alloc _).drew).cell 0 rfl, ((Ba_0.out.alloc _).drew).cell 1 rfl, ((Ba_0.out.alloc _).drew).cell 2 rfl, ((Bb_0.out.alloc _).drew).cell 0 rfl, ((Bb_0.out.alloc _).drew).cell 1 rfl, ((Bb_0.out.alloc _).drew).cell 2 rfl⟩
    go_region_held3 (fun w' => w'.cell? ⟨w.heap.size, 0, none⟩ = some (.bool t.q.b) ∧ w'.cell? ⟨w.heap.size, 1, none⟩ = some (.slice t.q.A t.q.n t.q.c) ∧ w'.cell? ⟨w.heap.size, 2, none⟩ = some (.slice t.A t.n t.c) ∧ w'.cell? ⟨w.heap.size + 1, 0, none⟩ = some (.bool u.q.b) ∧ w'.cell? ⟨w.heap.size + 1, 1, none⟩ = some (.slice u.q.A u.q.n u.q.c) ∧ w'.cell? ⟨w.heap.size + 1, 2, none⟩ = some (.slice u.A u.n u.c)) (first | with_reducible exact (hS1 _).1 k_4 | with_reducible exact (hS1 _).1 k_5 | with_reducible exact (hS1 _).1 k_11 | with_reducible exact (hS1 _).1 k_19 | with_reducible exact (hS1 _).1 k_20 | with_reducible exact (hS1 _).1 k_32 | with_reducible exact (hS1 _).1 k_42 | with_reducible exact (hS1 _).1 k_45 | with_reducible exact (hS1 _).1 k_46 | with_reducible exact (hS1 _).1 k_59 | with_reducible exact (hS1 _).1 k_60 | with_reducible exact (hS1 _).1 k_71 | with_reducible exact (hS1 _).1 k_72)
      (first
       | (clear tok_6; go_at_call 25; (with_reducible refine (rden_any (w0.drew) u y (RB_2.out.dk ((Dk.refl _).drew)) (by omega)).mono ?_); rintro e w_12 ⟨⟨r1, rfl, hr⟩, hb⟩; clear la ca0 ca1 ca2 lb cb0 cb1 cb2 k_4 k_5 k_11; have K := Dk.trans ((Dk.refl _).drew) (.below hb); have Ba_13 := Lib.hid (show Bk _ _ _ #[.bool t.q.b, .slice t.q.A t.q.n t.q.c, .slice t.A t.n t.c] from (Ba_0.out.drew).below hb); have Bb_14 := Lib.hid (show Bk _ _ _ #[.bool u.q.b, .slice u.q.A u.q.n u.q.c, .slice u.A u.n u.c] from (Bb_0.out.drew).below hb); have HB_15 := Lib.hid (below_tr (below_dr HB_0.out) hb); clear hb; have RA_16 := Lib.hid (RA_1.out.dk K); have RB_17 := Lib.hid (RB_2.out.dk K); clear K Ba_0 Bb_0 HB_0 RA_1 RB_2; have D1_18 := Lib.hid hr; clear hr; have la := Ba_13.out.lt; obtain ⟨ca0, ca1, ca2⟩ := Ba_13.out.cells3; have lb := Bb_14.out.lt; obtain ⟨cb0, cb1, cb2⟩ := Bb_14.out.cells3; have k_19 : SX1 (w_12) := (hS1 _).2 ⟨Ba_13.out.cell 0 rfl, Ba_13.out.cell 1 rfl, Ba_13.out.cell 2 rfl, Bb_14.out.cell 0 rfl, Bb_14.out.cell 1 rfl, Bb_14.out.cell 2 rfl⟩; have k_20 : SX1 (w_12.alloc (.cells #[.bool false, .slice none 0 0] 30)) := (hS1 _).2 ⟨(Ba_13.out.alloc _).cell 0 rfl, (Ba_13.out.alloc _).cell 1 rfl, (Ba_13.out.alloc _).cell 2 rfl, (Bb_14.out.alloc _).cell 0 rfl, (Bb_14.out.alloc _).cell 1 rfl, (Bb_14.out.alloc _).cell 2 rfl⟩)
       | (clear tok_8; have n_22 := Ba_0.out.lt; have n_23 := Bb_0.out.lt; go_at_call 25; (with_reducible refine (rden_any ((w0.alloc (.cells #[.bool false, .slice none 0 0] 30)).drew) u y (RB_2.out.dk (((Dk.refl _).alloc _).drew)) (by omega)).mono ?_); rintro e w_24 ⟨⟨r1, rfl, hr⟩, hb⟩; clear la ca0 ca1 ca2 lb cb0 cb1 cb2 k_4 k_5 k_11; have K := Dk.trans (((Dk.refl _).alloc _).drew) (.below hb); have Ba_25 := Lib.hid (show Bk _ _ _ #[.bool t.q.b, .slice t.q.A t.q.n t.q.c, .slice t.A t.n t.c] from ((Ba_0.out.alloc _).drew).below hb); have Bb_26 := Lib.hid (show Bk _ _ _ #[.bool u.q.b, .slice u.q.A u.q.n u.q.c, .slice u.A u.n u.c] from ((Bb_0.out.alloc _).drew).below hb); have Bvx_27 := Lib.hid (show Bk _ _ _ #[.bool false, .slice none 0 0] from ((Bk.new _ 30 #[.bool false, .slice none 0 0]).drew).below hb); have HB_28 := Lib.hid (below_tr (below_dr (below_al HB_0.out _)) hb); clear hb; have RA_29 := Lib.hid (RA_1.out.dk K); have RB_30 := Lib.hid (RB_2.out.dk K); clear K Ba_0 Bb_0 HB_0 RA_1 RB_2; have D1_31 := Lib.hid hr; clear hr; have la := Ba_25.out.lt; obtain ⟨ca0, ca1, ca2⟩ := Ba_25.out.cells3; have lb := Bb_26.out.lt; obtain ⟨cb0, cb1, cb2⟩ := Bb_26.out.cells3; have lvx := Bvx_27.out.lt; obtain ⟨cvx0, cvx1⟩ := Bvx_27.out.cells2; have fvx0 := Bvx_27.out.free 0; have fvx1 := Bvx_27.out.free 1; have k_32 : SX1 (w_24) := (hS1 _).2 ⟨Ba_25.out.cell 0 rfl, Ba_25.out.cell 1 rfl, Ba_25.out.cell 2 rfl, Bb_26.out.cell 0 rfl, Bb_26.out.cell 1 rfl, Bb_26.out.cell 2 rfl⟩)
       | (clear tok_7; go_at_call 24; (with_reducible refine (wmul_q (w_12) t.q r1 x.num (y.den : Int) RA_16.out.rw D1_18.out (by omega)).mono ?_); rintro e w_34 ⟨⟨vx, rfl, hr⟩, hb⟩; clear la ca0 ca1 ca2 lb cb0 cb1 cb2 k_19 k_20; have K := Dk.below hb; have Ba_35 := Lib.hid (show Bk _ _ _ #[.bool t.q.b, .slice t.q.A t.q.n t.q.c, .slice t.A t.n t.c] from Ba_13.out.below hb); have Bb_36 := Lib.hid (show Bk _ _ _ #[.bool u.q.b, .slice u.q.A u.q.n u.q.c, .slice u.A u.n u.c] from Bb_14.out.below hb); have HB_37 := Lib.hid (below_tr HB_15.out hb); clear hb; have RA_38 := Lib.hid (RA_16.out.dk K); have RB_39 := Lib.hid (RB_17.out.dk K); have D1_40 := Lib.hid (D1_18.out.dk K); clear K Ba_13 Bb_14 HB_15 RA_16 RB_17 D1_18; have RX_41 := Lib.hid hr; clear hr; have la := Ba_35.out.lt; obtain ⟨ca0, ca1, ca2⟩ := Ba_35.out.cells3; have lb := Bb_36.out.lt; obtain ⟨cb0, cb1, cb2⟩ := Bb_36.out.cells3; have k_42 : SX1 (w_34) := (hS1 _).2 ⟨Ba_35.out.cell 0 rfl, Ba_35.out.cell 1 rfl, Ba_35.out.cell 2 rfl, Bb_36.out.cell 0 rfl, Bb_36.out.cell 1 rfl, Bb_36.out.cell 2 rfl⟩; have n_43 := Ba_35.out.lt; have n_44 := Bb_36.out.lt; have k_45 : SX1 (w_34.alloc (.cells #[.bool false, .slice none 0 0] 30)) := (hS1 _).2 ⟨(Ba_35.out.alloc _).cell 0 rfl, (Ba_35.out.alloc _).cell 1 rfl, (Ba_35.out.alloc _).cell 2 rfl, (Bb_36.out.alloc _).cell 0 rfl, (Bb_36.out.alloc _).cell 1 rfl, (Bb_36.out.alloc _).cell 2 rfl⟩; have k_46 : SX1 (w_34.alloc (.cells #[.bool vx.b, .slice vx.A vx.n vx.c] 30)) := (hS1 _).2 ⟨(Ba_35.out.alloc _).cell 0 rfl, (Ba_35.out.alloc _).cell 1 rfl, (Ba_35.out.alloc _).cell 2 rfl, (Bb_36.out.alloc _).cell 0 rfl, (Bb_36.out.alloc _).cell 1 rfl, (Bb_36.out.alloc _).cell 2 rfl⟩)
       | (clear tok_10; have n_48 := Ba_13.out.lt; have n_49 := Bb_14.out.lt; go_at_call 24; (with_reducible refine (wmul_q (w_12.alloc (.cells #[.bool false, .slice none 0 0] 30)) t.q r1 x.num (y.den : Int) (RA_16.out.dk ((Dk.refl _).alloc _)).rw (D1_18.out.dk ((Dk.refl _).alloc _)) (by omega)).mono ?_); rintro e w_50 ⟨⟨vx, rfl, hr⟩, hb⟩; clear la ca0 ca1 ca2 lb cb0 cb1 cb2 k_19 k_20; have K := Dk.trans ((Dk.refl _).alloc _) (.below hb); have Ba_51 := Lib.hid (show Bk _ _ _ #[.bool t.q.b, .slice t.q.A t.q.n t.q.c, .slice t.A t.n t.c] from (Ba_13.out.alloc _).below hb); have Bb_52 := Lib.hid (show Bk _ _ _ #[.bool u.q.b, .slice u.q.A u.q.n u.q.c, .slice u.A u.n u.c] from (Bb_14.out.alloc _).below hb); have Bvx_53 := Lib.hid (show Bk _ _ _ #[.bool false, .slice none 0 0] from (Bk.new _ 30 #[.bool false, .slice none 0 0]).below hb); have HB_54 := Lib.hid (below_tr (below_al HB_15.out _) hb); clear hb; have RA_55 := Lib.hid (RA_16.out.dk K); have RB_56 := Lib.hid (RB_17.out.dk K); have D1_57 := Lib.hid (D1_18.out.dk K); clear K Ba_13 Bb_14 HB_15 RA_16 RB_17 D1_18; have RX_58 := Lib.hid hr; clear hr; have la := Ba_51.out.lt; obtain ⟨ca0, ca1, ca2⟩ := Ba_51.out.cells3; have lb := Bb_52.out.lt; obtain ⟨cb0, cb1, cb2⟩ := Bb_52.out.cells3; have lvx := Bvx_53.out.lt; obtain ⟨cvx0, cvx1⟩ := Bvx_53.out.cells2; have fvx0 := Bvx_53.out.free 0; have fvx1 := Bvx_53.out.free 1; have k_59 : SX1 (w_50) := (hS1 _).2 ⟨Ba_51.out.cell 0 rfl, Ba_51.out.cell 1 rfl, Ba_51.out.cell 2 rfl, Bb_52.out.cell 0 rfl, Bb_52.out.cell 1 rfl, Bb_52.out.cell 2 rfl⟩; have y0 := Ba_51.out.lt; have y1 := Bb_52.out.lt; have y2 := Bvx_53.out.lt; have y3 := HB_54.out.size; have k_60 : SX1 ((w_50.setCell ⟨w_12.heap.size, 0, none⟩ (.bool vx.b)).setCell ⟨w_12.heap.size, 1, none⟩ (.slice vx.A vx.n vx.c)) := (hS1 _).2 ⟨((Ba_51.out.ne (by omega) 0 (.bool vx.b)).ne (by omega) 1 (.slice vx.A vx.n vx.c)).cell 0 rfl, ((Ba_51.out.ne (by omega) 0 (.bool vx.b)).ne (by omega) 1 (.slice vx.A vx.n vx.c)).cell 1 rfl, ((Ba_51.out.ne (by omega) 0 (.bool vx.b)).ne (by omega) 1 (.slice vx.A vx.n vx.c)).cell 2 rfl, ((Bb_52.out.ne (by omega) 0 (.bool vx.b)).ne (by omega) 1 (.slice vx.A vx.n vx.c)).cell 0 rfl, ((Bb_52.out.ne (by omega) 0 (.bool vx.b)).ne (by omega) 1 (.slice vx.A vx.n vx.c)).cell 1 rfl, ((Bb_52.out.ne (by omega) 0 (.bool vx.b)).ne (by omega) 1 (.slice vx.A vx.n vx.c)).cell 2 rfl⟩; clear y0 y1 y2 y3)
       | (clear tok_9; go_at_call 24; (with_reducible refine (wmul_q (w_24) t.q r1 x.num (y.den : Int) RA_29.out.rw D1_31.out (by omega)).mono ?_); rintro e w_62 ⟨⟨vx, rfl, hr⟩, hb⟩; clear la ca0 ca1 ca2 lb cb0 cb1 cb2 lvx cvx0 cvx1 fvx0 fvx1 k_32; have K := Dk.below hb; have Ba_63 := Lib.hid (show Bk _ _ _ #[.bool t.q.b, .slice t.q.A t.q.n t.q.c, .slice t.A t.n t.c] from Ba_25.out.below hb); have Bb_64 := Lib.hid (show Bk _ _ _ #[.bool u.q.b, .slice u.q.A u.q.n u.q.c, .slice u.A u.n u.c] from Bb_26.out.below hb); have Bvx_65 := Lib.hid (show Bk _ _ _ #[.bool false, .slice none 0 0] from Bvx_27.out.below hb); have HB_66 := Lib.hid (below_tr HB_28.out hb); clear hb; have RA_67 := Lib.hid (RA_29.out.dk K); have RB_68 := Lib.hid (RB_30.out.dk K); have D1_69 := Lib.hid (D1_31.out.dk K); clear K Ba_25 Bb_26 Bvx_27 HB_28 RA_29 RB_30 D1_31; have RX_70 := Lib.hid hr; clear hr; have la := Ba_63.out.lt; obtain ⟨ca0, ca1, ca2⟩ := Ba_63.out.cells3; have lb := Bb_64.out.lt; obtain ⟨cb0, cb1, cb2⟩ := Bb_64.out.cells3; have lvx := Bvx_65.out.lt; obtain ⟨cvx0, cvx1⟩ := Bvx_65.out.cells2; have fvx0 := Bvx_65.out.free 0; have fvx1 := Bvx_65.out.free 1; have k_71 : SX1 (w_62) := (hS1 _).2 ⟨Ba_63.out.cell 0 rfl, Ba_63.out.cell 1 rfl, Ba_63.out.cell 2 rfl, Bb_64.out.cell 0 rfl, Bb_64.out.cell 1 rfl, Bb_64.out.cell 2 rfl⟩; have y0 := Ba_63.out.lt; have y1 := Bb_64.out.lt; have y2 := Bvx_65.out.lt; have y3 := HB_66.out.size; have k_72 : SX1 ((w_62.setCell ⟨w0.heap.size, 0, none⟩ (.bool vx.b)).setCell ⟨w0.heap.size, 1, none⟩ (.slice vx.A vx.n vx.c)) := (hS1 _).2 ⟨((Ba_63.out.ne (by omega) 0 (.bool vx.b)).ne (by omega) 1 (.slice vx.A vx.n vx.c)).cell 0 rfl, ((Ba_63.out.ne (by omega) 0 (.bool vx.b)).ne (by omega) 1 (.slice vx.A vx.n vx.c)).cell 1 rfl, ((Ba_63.out.ne (by omega) 0 (.bool vx.b)).ne (by omega) 1 (.slice vx.A vx.n vx.c)).cell 2 rfl, ((Bb_64.out.ne (by omega) 0 (.bool vx.b)).ne (by omega) 1 (.slice vx.A vx.n vx.c)).cell 0 rfl, ((Bb_64.out.ne (by omega) 0 (.bool vx.b)).ne (by omega) 1 (.slice vx.A vx.n vx.c)).cell 1 rfl, ((Bb_64.out.ne (by omega) 0 (.bool vx.b)).ne (by omega) 1 (.slice vx.A vx.n vx.c)).cell 2 rfl⟩; clear y0 y1 y2 y3)
       | fail)
    all_goals (go_wp2_with fail; go_meet; first | (have y0 := Ba_35.out.lt; have y1 := Bb_36.out.lt; have y2 := HB_37.out.size; exact ⟨w_34.heap.size, vx, rfl, rfl, (by omega), (by omega), (Bk.new _ 30 #[.bool vx.b, .slice vx.A vx.n vx.c]), (Ba_35.out.alloc _), (Bb_36.out.alloc _), (below_al HB_37.out _), (RA_38.out.dk ((Dk.refl _).alloc _)), (RB_39.out.dk ((Dk.refl _).alloc _)), (RX_41.out.dk ((Dk.refl _).alloc _))⟩) | (have y0 := Ba_63.out.lt; have y1 := Bb_64.out.lt; have y2 := Bvx_65.out.lt; have y3 := HB_66.out.size; exact ⟨w0.heap.size, vx, rfl, rfl, (by omega), (by omega), ((Bvx_65.out.set 0 (.bool vx.b)).set 1 (.slice vx.A vx.n vx.c)), ((Ba_63.out.ne (by omega) 0 (.bool vx.b)).ne (by omega) 1 (.slice vx.A vx.n vx.c)), ((Bb_64.out.ne (by omega) 0 (.bool vx.b)).ne (by omega) 1 (.slice vx.A vx.n vx.c)), (below_st (below_st HB_66.out 0 (by omega) (.bool vx.b)) 1 (by omega) (.slice vx.A vx.n vx.c)), (RA_67.out.dk (((Dk.refl _).set (cs := #[.bool false, .slice none 0 0]) Bvx_65.out 0 (by intro _ hh; cases hh) (.bool vx.b)).set (cs := #[.bool vx.b, .slice none 0 0]) (Bvx_65.out.set 0 (.bool vx.b)) 1 (by intro _ hh; cases hh) (.slice vx.A vx.n vx.c))), (RB_68.out.dk (((Dk.refl _).set (cs := #[.bool false, .slice none 0 0]) Bvx_65.out 0 (by intro _ hh; cases hh) (.bool vx.b)).set (cs := #[.bool vx.b, .slice none 0 0]) (Bvx_65.out.set 0 (.bool vx.b)) 1 (by intro _ hh; cases hh) (.slice vx.A vx.n vx.c))), (RX_70.out.dk (((Dk.refl _).set (cs := #[.bool false, .slice none 0 0]) Bvx_65.out 0 (by intro _ hh; cases hh) (.bool vx.b)).set (cs := #[.bool vx.b, .slice none 0 0]) (Bvx_65.out.set 0 (.bool vx.b)) 1 (by intro _ hh; cases hh) (.slice vx.A vx.n vx.c)))⟩) | (have y0 := Ba_51.out.lt; have y1 := Bb_52.out.lt; have y2 := Bvx_53.out.lt; have y3 := HB_54.out.size; exact ⟨w_12.heap.size, vx, rfl, rfl, (by omega), (by omega), ((Bvx_53.out.set 0 (.bool vx.b)).set 1 (.slice vx.A vx.n vx.c)), ((Ba_51.out.ne (by omega) 0 (.bool vx.b)).ne (by omega) 1 (.slice vx.A vx.n vx.c)), ((Bb_52.out.ne (by omega) 0 (.bool vx.b)).ne (by omega) 1 (.slice vx.A vx.n vx.c)), (below_st (below_st HB_54.out 0 (by omega) (.bool vx.b)) 1 (by omega) (.slice vx.A vx.n vx.c)), (RA_55.out.dk (((Dk.refl _).set (cs := #[.bool false, .slice none 0 0]) Bvx_53.out 0 (by intro _ hh; cases hh) (.bool vx.b)).set (cs := #[.bool vx.b, .slice none 0 0]) (Bvx_53.out.set 0 (.bool vx.b)) 1 (by intro _ hh; cases hh) (.slice vx.A vx.n vx.c))), (RB_56.out.dk (((Dk.refl _).set (cs := #[.bool false, .slice none 0 0]) Bvx_53.out 0 (by intro _ hh; cases hh) (.bool vx.b)).set (cs := #[.bool vx.b, .slice none 0 0]) (Bvx_53.out.set 0 (.bool vx.b)) 1 (by intro _ hh; cases hh) (.slice vx.A vx.n vx.c))), (RX_58.out.dk (((Dk.refl _).set (cs := #[.bool false, .slice none 0 0]) Bvx_53.out 0 (by intro _ hh; cases hh) (.bool vx.b)).set (cs := #[.bool vx.b, .slice none 0 0]) (Bvx_53.out.set 0 (.bool vx.b)) 1 (by intro _ hh; cases hh) (.slice vx.A vx.n vx.c)))⟩))
  case rest =>
    clear la ca0 ca1 ca2 lb cb0 cb1 cb2
    clear Ba_0 Bb_0 RA_1 RB_2 HB_0
    obtain ⟨w_75, rfl⟩ : ∃ x, x = wc := ⟨_, rfl⟩
    obtain ⟨g_3, vx, rfl, rfl, nn0, nn1, bz, bo0, bo1, hbel, hf0, hf1, hf2⟩ := hcut
    have Ba_76 := Lib.hid bo0
    have n_77 := nn0
    have Bb_78 := Lib.hid bo1
    have n_79 := nn1
    have Bvx_80 := Lib.hid bz
    have HB_80 := Lib.hid hbel
    have RA_82 := Lib.hid hf0
    have RB_83 := Lib.hid hf1
    have RX_84 := Lib.hid hf2
    clear nn0 nn1 bz bo0 bo1 hbel hf0 hf1 hf2
    have la := Ba_76.out.lt
    obtain ⟨ca0, ca1, ca2⟩ := Ba_76.out.cells3
    have lb := Bb_78.out.lt
    obtain ⟨cb0, cb1, cb2⟩ := Bb_78.out.cells3
    have lvx := Bvx_80.out.lt
    obtain ⟨cvx0, cvx1⟩ := Bvx_80.out.cells2
    go_wp2_with fail
    go_upto_region 2 with (fail)
    clear la ca0 ca1 ca2 lb cb0 cb1 cb2 lvx cvx0 cvx1
    have la := Ba_76.out.lt
    obtain ⟨ca0, ca1, ca2⟩ := Ba_76.out.cells3
    have lb := Bb_78.out.lt
    obtain ⟨cb0, cb1, cb2⟩ := Bb_78.out.cells3
    have lvx := Bvx_80.out.lt
    obtain ⟨cvx0, cvx1⟩ := Bvx_80.out.cells2
    go_cut [8, 9] (fun s8 s9 wx => ∃ (g_85 : Nat) (vy : Q), s8 = .pointer (some ⟨g_85, 0, none⟩) ∧ s9 = .int .i64 0 ∧ w.heap.size < g_85 ∧ w.heap.size + 1 < g_85 ∧ g_3 < g_85 ∧ Bk wx g_85 30 #[.bool vy.b, .slice vy.A vy.n vy.c] ∧ Bk wx (w.heap.size) 32 #[.bool t.q.b, .slice t.q.A t.q.n t.q.c, .slice t.A t.n t.c] ∧ Bk wx (w.heap.size + 1) 32 #[.bool u.q.b, .slice u.q.A u.q.n u.q.c, .slice u.A u.n u.c] ∧ Bk wx (g_3) 30 #[.bool vx.b, .slice vx.A vx.n vx.c] ∧ Below w.heap.size w wx ∧ RW wx vx (x.num * (y.den : Int)) ∧ RW wx vy (y.num * (x.den : Int)))
    case first =>
      obtain ⟨SX2, hS2⟩ : ∃ S : World → Prop, ∀ w', S w' ↔ (w'.cell? ⟨w.heap.size, 0, none⟩ = some (.bool t.q.b) ∧ w'.cell? ⟨w.heap.size, 1, none⟩ = some (.slice t.q.A t.q.n t.q.c) ∧ w'.cell? ⟨w.heap.size, 2, none⟩ = some (.slice t.A t.n t.c) ∧ w'.cell? ⟨w.heap.size + 1, 0, none⟩ = some (.bool u.q.b) ∧ w'.cell? ⟨w.heap.size + 1, 1, none⟩ = some (.slice u.q.A u.q.n u.q.c) ∧ w'.cell? ⟨w.heap.size + 1, 2, none⟩ = some (.slice u.A u.n u.c)) := ⟨_, fun _ => Iff.rfl⟩
      have k_86 : SX2 (w_75) := (hS2 _).2 ⟨Ba_76.out.cell 0 rfl, Ba_76.out.cell 1 rfl, Ba_76.out.cell 2 rfl, Bb_78.out.cell 0 rfl, Bb_78.out.cell 1 rfl, Bb_78.out.cell 2 rfl⟩
      have k_87 : SX2 (w_75.drew) := (hS2 _).2 ⟨(Ba_76.out.drew).cell 0 rfl, (Ba_76.out.drew).cell 1 rfl, (Ba_76.out.drew).cell 2 rfl, (Bb_78.out.drew).cell 0 rfl, (Bb_78.out.drew).cell 1 rfl, (Bb_78.out.drew).cell 2 rfl⟩
      have tok_88 : True := trivial
      have tok_89 : True := trivial
      have tok_90 : True := trivial
      have tok_91 : True := trivial
      have tok_92 : True := trivial
      have k_93 : SX2 ((w_75.alloc (.cells #[.bool false, .slice none 0 0] 30)).drew) := (hS2 _).2 ⟨((Ba_76.out.alloc _).drew).cell 0 rfl, ((Ba_76.out.alloc _).drew).cell 1 rfl, ((Ba_76.out.alloc _).drew).cell 2 rfl, ((Bb_78.out.alloc _).drew).cell 0 rfl, ((Bb_78.out.alloc _).drew).cell 1 rfl, ((Bb_78.out.alloc _).drew).cell 2 rfl⟩
      go_region_held3 (fun w' => w'.cell? ⟨w.heap.size, 0, none⟩ = some (.bool t.q.b) ∧ w'.cell? ⟨w.heap.size, 1, none⟩ = some (.slice t.q.A t.q.n t.q.c) ∧ w'.cell? ⟨w.heap.size, 2, none⟩ = some (.slice t.A t.n t.c) ∧ w'.cell? ⟨w.heap.size + 1, 0, none⟩ = some (.bool u.q.b) ∧ w'.cell? ⟨w.heap.size + 1, 1, none⟩ = some (.slice u.q.A u.q.n u.q.c) ∧ w'.cell? ⟨w.heap.size + 1, 2, none⟩ = some (.slice u.A u.n u.c)) (first | with_reducible exact (hS2 _).1 k_86 | with_reducible exact (hS2 _).1 k_87 | with_reducible exact (hS2 _).1 k_93 | with_reducible exact (hS2 _).1 k_103 | with_reducible exact (hS2 _).1 k_104 | with_reducible exact (hS2 _).1 k_119 | with_reducible exact (hS2 _).1 k_131 | with_reducible exact (hS2 _).1 k_135 | with_reducible exact (hS2 _).1 k_136 | with_reducible exact (hS2 _).1 k_152 | with_reducible exact (hS2 _).1 k_153 | with_reducible exact (hS2 _).1 k_166 | with_reducible exact (hS2 _).1 k_167)
        (first
         | (clear tok_88; go_at_call 25; (with_reducible refine (rden_any (w_75.drew) t x (RA_82.out.dk ((Dk.refl _).drew)) (by omega)).mono ?_); rintro e w_94 ⟨⟨r1, rfl, hr⟩, hb⟩; clear la ca0 ca1 ca2 lb cb0 cb1 cb2 lvx cvx0 cvx1 k_86 k_87 k_93; have K := Dk.trans ((Dk.refl _).drew) (.below hb); have Ba_95 := Lib.hid (show Bk _ _ _ #[.bool t.q.b, .slice t.q.A t.q.n t.q.c, .slice t.A t.n t.c] from (Ba_76.out.drew).below hb); have Bb_96 := Lib.hid (show Bk _ _ _ #[.bool u.q.b, .slice u.q.A u.q.n u.q.c, .slice u.A u.n u.c] from (Bb_78.out.drew).below hb); have Bvx_97 := Lib.hid (show Bk _ _ _ #[.bool vx.b, .slice vx.A vx.n vx.c] from (Bvx_80.out.drew).below hb); have HB_98 := Lib.hid (below_tr (below_dr HB_80.out) hb); clear hb; have RA_99 := Lib.hid (RA_82.out.dk K); have RB_100 := Lib.hid (RB_83.out.dk K); have RX_101 := Lib.hid (RX_84.out.dk K); clear K Ba_76 Bb_78 Bvx_80 HB_80 RA_82 RB_83 RX_84; have D1_102 := Lib.hid hr; clear hr; have la := Ba_95.out.lt; obtain ⟨ca0, ca1, ca2⟩ := Ba_95.out.cells3; have lb := Bb_96.out.lt; obtain ⟨cb0, cb1, cb2⟩ := Bb_96.out.cells3; have lvx := Bvx_97.out.lt; obtain ⟨cvx0, cvx1⟩ := Bvx_97.out.cells2; have k_103 : SX2 (w_94) := (hS2 _).2 ⟨Ba_95.out.cell 0 rfl, Ba_95.out.cell 1 rfl, Ba_95.out.cell 2 rfl, Bb_96.out.cell 0 rfl, Bb_96.out.cell 1 rfl, Bb_96.out.cell 2 rfl⟩; have k_104 : SX2 (w_94.alloc (.cells #[.bool false, .slice none 0 0] 30)) := (hS2 _).2 ⟨(Ba_95.out.alloc _).cell 0 rfl, (Ba_95.out.alloc _).cell 1 rfl, (Ba_95.out.alloc _).cell 2 rfl, (Bb_96.out.alloc _).cell 0 rfl, (Bb_96.out.alloc _).cell 1 rfl, (Bb_96.out.alloc _).cell 2 rfl⟩)
         | (clear tok_90; have n_106 := Ba_76.out.lt; have n_107 := Bb_78.out.lt; have n_108 := Bvx_80.out.lt; go_at_call 25; (with_reducible refine (rden_any ((w_75.alloc (.cells #[.bool false, .slice none 0 0] 30)).drew) t x (RA_82.out.dk (((Dk.refl _).alloc _).drew)) (by omega)).mono ?_); rintro e w_109 ⟨⟨r1, rfl, hr⟩, hb⟩; clear la ca0 ca1 ca2 lb cb0 cb1 cb2 lvx cvx0 cvx1 k_86 k_87 k_93; have K := Dk.trans (((Dk.refl _).alloc _).drew) (.below hb); have Ba_110 := Lib.hid (show Bk _ _ _ #[.bool t.q.b, .slice t.q.A t.q.n t.q.c, .slice t.A t.n t.c] from ((Ba_76.out.alloc _).drew).below hb); have Bb_111 := Lib.hid (show Bk _ _ _ #[.bool u.q.b, .slice u.q.A u.q.n u.q.c, .slice u.A u.n u.c] from ((Bb_78.out.alloc _).drew).below hb); have Bvx_112 := Lib.hid (show Bk _ _ _ #[.bool vx.b, .slice vx.A vx.n vx.c] from ((Bvx_80.out.alloc _).drew).below hb); have Bvy_113 := Lib.hid (show Bk _ _ _ #[.bool false, .slice none 0 0] from ((Bk.new _ 30 #[.bool false, .slice none 0 0]).drew).below hb); have HB_114 := Lib.hid (below_tr (below_dr (below_al HB_80.out _)) hb); clear hb; have RA_115 := Lib.hid (RA_82.out.dk K); have RB_116 := Lib.hid (RB_83.out.dk K); have RX_117 := Lib.hid (RX_84.out.dk K); clear K Ba_76 Bb_78 Bvx_80 HB_80 RA_82 RB_83 RX_84; have D1_118 := Lib.hid hr; clear hr; have la := Ba_110.out.lt; obtain ⟨ca0, ca1, ca2⟩ := Ba_110.out.cells3; have lb := Bb_111.out.lt; obtain ⟨cb0, cb1, cb2⟩ := Bb_111.out.cells3; have lvx := Bvx_112.out.lt; obtain ⟨cvx0, cvx1⟩ := Bvx_112.out.cells2; have lvy := Bvy_113.out.lt; obtain ⟨cvy0, cvy1⟩ := Bvy_113.out.cells2; have fvy0 := Bvy_113.out.free 0; have fvy1 := Bvy_113.out.free 1; have k_119 : SX2 (w_109) := (hS2 _).2 ⟨Ba_110.out.cell 0 rfl, Ba_110.out.cell 1 rfl, Ba_110.out.cell 2 rfl, Bb_111.out.cell 0 rfl, Bb_111.out.cell 1 rfl, Bb_111.out.cell 2 rfl⟩)
         | (clear tok_89; go_at_call 24; (with_reducible refine (wmul_q (w_94) u.q r1 y.num (x.den : Int) RB_100.out.rw D1_102.out (by omega)).mono ?_); rintro e w_121 ⟨⟨vy, rfl, hr⟩, hb⟩; clear la ca0 ca1 ca2 lb cb0 cb1 cb2 lvx cvx0 cvx1 k_103 k_104; have K := Dk.below hb; have Ba_122 := Lib.hid (show Bk _ _ _ #[.bool t.q.b, .slice t.q.A t.q.n t.q.c, .slice t.A t.n t.c] from Ba_95.out.below hb); have Bb_123 := Lib.hid (show Bk _ _ _ #[.bool u.q.b, .slice u.q.A u.q.n u.q.c, .slice u.A u.n u.c] from Bb_96.out.below hb); have Bvx_124 := Lib.hid (show Bk _ _ _ #[.bool vx.b, .slice vx.A vx.n vx.c] from Bvx_97.out.below hb); have HB_125 := Lib.hid (below_tr HB_98.out hb); clear hb; have RA_126 := Lib.hid (RA_99.out.dk K); have RB_127 := Lib.hid (RB_100.out.dk K); have RX_128 := Lib.hid (RX_101.out.dk K); have D1_129 := Lib.hid (D1_102.out.dk K); clear K Ba_95 Bb_96 Bvx_97 HB_98 RA_99 RB_100 RX_101 D1_102; have RY_130 := Lib.hid hr; clear hr; have la := Ba_122.out.lt; obtain ⟨ca0, ca1, ca2⟩ := Ba_122.out.cells3; have lb := Bb_123.out.lt; obtain ⟨cb0, cb1, cb2⟩ := Bb_123.out.cells3; have lvx := Bvx_124.out.lt; obtain ⟨cvx0, cvx1⟩ := Bvx_124.out.cells2; have k_131 : SX2 (w_121) := (hS2 _).2 ⟨Ba_122.out.cell 0 rfl, Ba_122.out.cell 1 rfl, Ba_122.out.cell 2 rfl, Bb_123.out.cell 0 rfl, Bb_123.out.cell 1 rfl, Bb_123.out.cell 2 rfl⟩; have n_132 := Ba_122.out.lt; have n_133 := Bb_123.out.lt; have n_134 := Bvx_124.out.lt; have k_135 : SX2 (w_121.alloc (.cells #[.bool false, .slice none 0 0] 30)) := (hS2 _).2 ⟨(Ba_122.out.alloc _).cell 0 rfl, (Ba_122.out.alloc _).cell 1 rfl, (Ba_122.out.alloc _).cell 2 rfl, (Bb_123.out.alloc _).cell 0 rfl, (Bb_123.out.alloc _).cell 1 rfl, (Bb_123.out.alloc _).cell 2 rfl⟩; have k_136 : SX2 (w_121.alloc (.cells #[.bool vy.b, .slice vy.A vy.n vy.c] 30)) := (hS2 _).2 ⟨(Ba_122.out.alloc _).cell 0 rfl, (Ba_122.out.alloc _).cell 1 rfl, (Ba_122.out.alloc _).cell 2 rfl, (Bb_123.out.alloc _).cell 0 rfl, (Bb_123.out.alloc _).cell 1 rfl, (Bb_123.out.alloc _).cell 2 rfl⟩)
         | (clear tok_92; have n_138 := Ba_95.out.lt; have n_139 := Bb_96.out.lt; have n_140 := Bvx_97.out.lt; go_at_call 24; (with_reducible refine (wmul_q (w_94.alloc (.cells #[.bool false, .slice none 0 0] 30)) u.q r1 y.num (x.den : Int) (RB_100.out.dk ((Dk.refl _).alloc _)).rw (D1_102.out.dk ((Dk.refl _).alloc _)) (by omega)).mono ?_); rintro e w_141 ⟨⟨vy, rfl, hr⟩, hb⟩; clear la ca0 ca1 ca2 lb cb0 cb1 cb2 lvx cvx0 cvx1 k_103 k_104; have K := Dk.trans ((Dk.refl _).alloc _) (.below hb); have Ba_142 := Lib.hid (show Bk _ _ _ #[.bool t.q.b, .slice t.q.A t.q.n t.q.c, .slice t.A t.n t.c] from (Ba_95.out.alloc _).below hb); have Bb_143 := Lib.hid (show Bk _ _ _ #[.bool u.q.b, .slice u.q.A u.q.n u.q.c, .slice u.A u.n u.c] from (Bb_96.out.alloc _).below hb); have Bvx_144 := Lib.hid (show Bk _ _ _ #[.bool vx.b, .slice vx.A vx.n vx.c] from (Bvx_97.out.alloc _).below hb); have Bvy_145 := Lib.hid (show Bk _ _ _ #[.bool false, .slice none 0 0] from (Bk.new _ 30 #[.bool false, .slice none 0 0]).below hb); have HB_146 := Lib.hid (below_tr (below_al HB_98.out _) hb); clear hb; have RA_147 := Lib.hid (RA_99.out.dk K); have RB_148 := Lib.hid (RB_100.out.dk K); have RX_149 := Lib.hid (RX_101.out.dk K); have D1_150 := Lib.hid (D1_102.out.dk K); clear K Ba_95 Bb_96 Bvx_97 HB_98 RA_99 RB_100 RX_101 D1_102; have RY_151 := Lib.hid hr; clear hr; have la := Ba_142.out.lt; obtain ⟨ca0, ca1, ca2⟩ := Ba_142.out.cells3; have lb := Bb_143.out.lt; obtain ⟨cb0, cb1, cb2⟩ := Bb_143.out.cells3; have lvx := Bvx_144.out.lt; obtain ⟨cvx0, cvx1⟩ := Bvx_144.out.cells2; have lvy := Bvy_145.out.lt; obtain ⟨cvy0, cvy1⟩ := Bvy_145.out.cells2; have fvy0 := Bvy_145.out.free 0; have fvy1 := Bvy_145.out.free 1; have k_152 : SX2 (w_141) := (hS2 _).2 ⟨Ba_142.out.cell 0 rfl, Ba_142.out.cell 1 rfl, Ba_142.out.cell 2 rfl, Bb_143.out.cell 0 rfl, Bb_143.out.cell 1 rfl, Bb_143.out.cell 2 rfl⟩; have y0 := Ba_142.out.lt; have y1 := Bb_143.out.lt; have y2 := Bvx_144.out.lt; have y3 := Bvy_145.out.lt; have y4 := HB_146.out.size; have k_153 : SX2 ((w_141.setCell ⟨w_94.heap.size, 0, none⟩ (.bool vy.b)).setCell ⟨w_94.heap.size, 1, none⟩ (.slice vy.A vy.n vy.c)) := (hS2 _).2 ⟨((Ba_142.out.ne (by omega) 0 (.bool vy.b)).ne (by omega) 1 (.slice vy.A vy.n vy.c)).cell 0 rfl, ((Ba_142.out.ne (by omega) 0 (.bool vy.b)).ne (by omega) 1 (.slice vy.A vy.n vy.c)).cell 1 rfl, ((Ba_142.out.ne (by omega) 0 (.bool vy.b)).ne (by omega) 1 (.slice vy.A vy.n vy.c)).cell 2 rfl, ((Bb_143.out.ne (by omega) 0 (.bool vy.b)).ne (by omega) 1 (.slice vy.A vy.n vy.c)).cell 0 rfl, ((Bb_143.out.ne (by omega) 0 (.bool vy.b)).ne (by omega) 1 (.slice vy.A vy.n vy.c)).cell 1 rfl, ((Bb_143.out.ne (by omega) 0 (.bool vy.b)).ne (by omega) 1 (.slice vy.A vy.n vy.c)).cell 2 rfl⟩; clear y0 y1 y2 y3 y4)
         | (clear tok_91; go_at_call 24; (with_reducible refine (wmul_q (w_109) u.q r1 y.num (x.den : Int) RB_116.out.rw D1_118.out (by omega)).mono ?_); rintro e w_155 ⟨⟨vy, rfl, hr⟩, hb⟩; clear la ca0 ca1 ca2 lb cb0 cb1 cb2 lvx cvx0 cvx1 lvy cvy0 cvy1 fvy0 fvy1 k_119; have K := Dk.below hb; have Ba_156 := Lib.hid (show Bk _ _ _ #[.bool t.q.b, .slice t.q.A t.q.n t.q.c, .slice t.A t.n t.c] from Ba_110.out.below hb); have Bb_157 := Lib.hid (show Bk _ _ _ #[.bool u.q.b, .slice u.q.A u.q.n u.q.c, .slice u.A u.n u.c] from Bb_111.out.below hb); have Bvx_158 := Lib.hid (show Bk _ _ _ #[.bool vx.b, .slice vx.A vx.n vx.c] from Bvx_112.out.below hb); have Bvy_159 := Lib.hid (show Bk _ _ _ #[.bool false, .slice none 0 0] from Bvy_113.out.below hb); have HB_160 := Lib.hid (below_tr HB_114.out hb); clear hb; have RA_161 := Lib.hid (RA_115.out.dk K); have RB_162 := Lib.hid (RB_116.out.dk K); have RX_163 := Lib.hid (RX_117.out.dk K); have D1_164 := Lib.hid (D1_118.out.dk K); clear K Ba_110 Bb_111 Bvx_112 Bvy_113 HB_114 RA_115 RB_116 RX_117 D1_118; have RY_165 := Lib.hid hr; clear hr; have la := Ba_156.out.lt; obtain ⟨ca0, ca1, ca2⟩ := Ba_156.out.cells3; have lb := Bb_157.out.lt; obtain ⟨cb0, cb1, cb2⟩ := Bb_157.out.cells3; have lvx := Bvx_158.out.lt; obtain ⟨cvx0, cvx1⟩ := Bvx_158.out.cells2; have lvy := Bvy_159.out.lt; obtain ⟨cvy0, cvy1⟩ := Bvy_159.out.cells2; have fvy0 := Bvy_159.out.free 0; have fvy1 := Bvy_159.out.free 1; have k_166 : SX2 (w_155) := (hS2 _).2 ⟨Ba_156.out.cell 0 rfl, Ba_156.out.cell 1 rfl, Ba_156.out.cell 2 rfl, Bb_157.out.cell 0 rfl, Bb_157.out.cell 1 rfl, Bb_157.out.cell 2 rfl⟩; have y0 := Ba_156.out.lt; have y1 := Bb_157.out.lt; have y2 := Bvx_158.out.lt; have y3 := Bvy_159.out.lt; have y4 := HB_160.out.size; have k_167 : SX2 ((w_155.setCell ⟨w_75.heap.size, 0, none⟩ (.bool vy.b)).setCell ⟨w_75.heap.size, 1, none⟩ (.slice vy.A vy.n vy.c)) := (hS2 _).2 ⟨((Ba_156.out.ne (by omega) 0 (.bool vy.b)).ne (by omega) 1 (.slice vy.A vy.n vy.c)).cell 0 rfl, ((Ba_156.out.ne (by omega) 0 (.bool vy.b)).ne (by omega) 1 (.slice vy.A vy.n vy.c)).cell 1 rfl, ((Ba_156.out.ne (by omega) 0 (.bool vy.b)).ne (by omega) 1 (.slice vy.A vy.n vy.c)).cell 2 rfl, ((Bb_157.out.ne (by omega) 0 (.bool vy.b)).ne (by omega) 1 (.slice vy.A vy.n vy.c)).cell 0 rfl, ((Bb_157.out.ne (by omega) 0 (.bool vy.b)).ne (by omega) 1 (.slice vy.A vy.n vy.c)).cell 1 rfl, ((Bb_157.out.ne (by omega) 0 (.bool vy.b)).ne (by omega) 1 (.slice vy.A vy.n vy.c)).cell 2 rfl⟩; clear y0 y1 y2 y3 y4)
         | fail)
      all_goals (go_wp2_with fail; go_meet; first | (have y0 := Ba_122.out.lt; have y1 := Bb_123.out.lt; have y2 := Bvx_124.out.lt; have y3 := HB_125.out.size; exact ⟨w_121.heap.size, vy, rfl, rfl, (by omega), (by omega), (by omega), (Bk.new _ 30 #[.bool vy.b, .slice vy.A vy.n vy.c]), (Ba_122.out.alloc _), (Bb_123.out.alloc _), (Bvx_124.out.alloc _), (below_al HB_125.out _), (RX_128.out.dk ((Dk.refl _).alloc _)), (RY_130.out.dk ((Dk.refl _).alloc _))⟩) | (have y0 := Ba_156.out.lt; have y1 := Bb_157.out.lt; have y2 := Bvx_158.out.lt; have y3 := Bvy_159.out.lt; have y4 := HB_160.out.size; exact ⟨w_75.heap.size, vy, rfl, rfl, (by omega), (by omega), (by omega), ((Bvy_159.out.set 0 (.bool vy.b)).set 1 (.slice vy.A vy.n vy.c)), ((Ba_156.out.ne (by omega) 0 (.bool vy.b)).ne (by omega) 1 (.slice vy.A vy.n vy.c)), ((Bb_157.out.ne (by omega) 0 (.bool vy.b)).ne (by omega) 1 (.slice vy.A vy.n vy.c)), ((Bvx_158.out.ne (by omega) 0 (.bool vy.b)).ne (by omega) 1 (.slice vy.A vy.n vy.c)), (below_st (below_st HB_160.out 0 (by omega) (.bool vy.b)) 1 (by omega) (.slice vy.A vy.n vy.c)), (RX_163.out.dk (((Dk.refl _).set (cs := #[.bool false, .slice none 0 0]) Bvy_159.out 0 (by intro _ hh; cases hh) (.bool vy.b)).set (cs := #[.bool vy.b, .slice none 0 0]) (Bvy_159.out.set 0 (.bool vy.b)) 1 (by intro _ hh; cases hh) (.slice vy.A vy.n vy.c))), (RY_165.out.dk (((Dk.refl _).set (cs := #[.bool false, .slice none 0 0]) Bvy_159.out 0 (by intro _ hh; cases hh) (.bool vy.b)).set (cs := #[.bool vy.b, .slice none 0 0]) (Bvy_159.out.set 0 (.bool vy.b)) 1 (by intro _ hh; cases hh) (.slice vy.A vy.n vy.c)))⟩) | (have y0 := Ba_142.out.lt; have y1 := Bb_143.out.lt; have y2 := Bvx_144.out.lt; have y3 := Bvy_145.out.lt; have y4 := HB_146.out.size; exact ⟨w_94.heap.size, vy, rfl, rfl, (by omega), (by omega), (by omega), ((Bvy_145.out.set 0 (.bool vy.b)).set 1 (.slice vy.A vy.n vy.c)), ((Ba_142.out.ne (by omega) 0 (.bool vy.b)).ne (by omega) 1 (.slice vy.A vy.n vy.c)), ((Bb_143.out.ne (by omega) 0 (.bool vy.b)).ne (by omega) 1 (.slice vy.A vy.n vy.c)), ((Bvx_144.out.ne (by omega) 0 (.bool vy.b)).ne (by omega) 1 (.slice vy.A vy.n vy.c)), (below_st (below_st HB_146.out 0 (by omega) (.bool vy.b)) 1 (by omega) (.slice vy.A vy.n vy.c)), (RX_149.out.dk (((Dk.refl _).set (cs := #[.bool false, .slice none 0 0]) Bvy_145.out 0 (by intro _ hh; cases hh) (.bool vy.b)).set (cs := #[.bool vy.b, .slice none 0 0]) (Bvy_145.out.set 0 (.bool vy.b)) 1 (by intro _ hh; cases hh) (.slice vy.A vy.n vy.c))), (RY_151.out.dk (((Dk.refl _).set (cs := #[.bool false, .slice none 0 0]) Bvy_145.out 0 (by intro _ hh; cases hh) (.bool vy.b)).set (cs := #[.bool vy.b, .slice none 0 0]) (Bvy_145.out.set 0 (.bool vy.b)) 1 (by intro _ hh; cases hh) (.slice vy.A vy.n vy.c)))⟩))
    case rest =>
      clear la ca0 ca1 ca2 lb cb0 cb1 cb2 lvx cvx0 cvx1
      clear Ba_76 Bb_78 Bvx_80 RA_82 RB_83 RX_84 HB_80
      obtain ⟨w_170, rfl⟩ : ∃ x, x = wc := ⟨_, rfl⟩
      obtain ⟨g_85, vy, rfl, rfl, nn0, nn1, nn2, bz, bo0, bo1, bo2, hbel, hf0, hf1⟩ := hcut
      have Ba_171 := Lib.hid bo0
      have n_172 := nn0
      have Bb_173 := Lib.hid bo1
      have n_174 := nn1
      have Bvx_175 := Lib.hid bo2
      have n_176 := nn2
      have Bvy_177 := Lib.hid bz
      have HB_177 := Lib.hid hbel
      have RX_179 := Lib.hid hf0
      have RY_180 := Lib.hid hf1
      clear nn0 nn1 nn2 bz bo0 bo1 bo2 hbel hf0 hf1
      have la := Ba_171.out.lt
      obtain ⟨ca0, ca1, ca2⟩ := Ba_171.out.cells3
      have lb := Bb_173.out.lt
      obtain ⟨cb0, cb1, cb2⟩ := Bb_173.out.cells3
      have lvx := Bvx_175.out.lt
      obtain ⟨cvx0, cvx1⟩ := Bvx_175.out.cells2
      have lvy := Bvy_177.out.lt
      obtain ⟨cvy0, cvy1⟩ := Bvy_177.out.cells2
      go_wp2_with fail
      have n_181 := Ba_171.out.lt
      have n_182 := Bb_173.out.lt
      have n_183 := Bvx_175.out.lt
      have n_184 := Bvy_177.out.lt
      go_wp2_with fail
      clear la ca0 ca1 ca2 lb cb0 cb1 cb2 lvx cvx0 cvx1 lvy cvy0 cvy1
      have K : Dk w_170 (w_170.alloc (.cells #[.int .i64 0, .int .i64 0] 33)) := ((Dk.refl _).alloc _)
      have Ba_185 := Lib.hid (show Bk (w_170.alloc (.cells #[.int .i64 0, .int .i64 0] 33)) (w.heap.size) 32 #[.bool t.q.b, .slice t.q.A t.q.n t.q.c, .slice t.A t.n t.c] from (Ba_171.out.alloc _))
      have Bb_186 := Lib.hid (show Bk (w_170.alloc (.cells #[.int .i64 0, .int .i64 0] 33)) (w.heap.size + 1) 32 #[.bool u.q.b, .slice u.q.A u.q.n u.q.c, .slice u.A u.n u.c] from (Bb_173.out.alloc _))
      have Bvx_187 := Lib.hid (show Bk (w_170.alloc (.cells #[.int .i64 0, .int .i64 0] 33)) (g_3) 30 #[.bool vx.b, .slice vx.A vx.n vx.c] from (Bvx_175.out.alloc _))
      have Bvy_188 := Lib.hid (show Bk (w_170.alloc (.cells #[.int .i64 0, .int .i64 0] 33)) (g_85) 30 #[.bool vy.b, .slice vy.A vy.n vy.c] from (Bvy_177.out.alloc _))
      have Bl_189 := Lib.hid (show Bk (w_170.alloc (.cells #[.int .i64 0, .int .i64 0] 33)) (w_170.heap.size) 33 #[.int .i64 0, .int .i64 0] from (Bk.new _ 33 #[.int .i64 0, .int .i64 0]))
      have HB_190 := Lib.hid (show Below w.heap.size w (w_170.alloc (.cells #[.int .i64 0, .int .i64 0] 33)) from (below_al HB_177.out _))
      have RX_191 := Lib.hid (RX_179.out.dk K)
      have RY_192 := Lib.hid (RY_180.out.dk K)
      clear K Ba_171 Bb_173 Bvx_175 Bvy_177 HB_177 RX_179 RY_180
      generalize w_170.alloc (.cells #[.int .i64 0, .int .i64 0] 33) = w1 at *
      have hz : ∀ j, j < 2 → w1.cell? ⟨w_170.heap.size, j, none⟩ = some (.int .i64 0) := fun j hj => by have h0 := Bl_189.out.cell; match j, hj with | 0, _ => exact h0 0 rfl | 1, _ => exact h0 1 rfl
      refine (first_zero _ _ 2 hz (by omega)).mono ?_
      rintro e w2 ⟨rfl, hb⟩
      have K := Dk.below hb
      have Ba_193 := Lib.hid (show Bk _ _ _ #[.bool t.q.b, .slice t.q.A t.q.n t.q.c, .slice t.A t.n t.c] from Ba_185.out.below hb)
      have Bb_194 := Lib.hid (show Bk _ _ _ #[.bool u.q.b, .slice u.q.A u.q.n u.q.c, .slice u.A u.n u.c] from Bb_186.out.below hb)
      have Bvx_195 := Lib.hid (show Bk _ _ _ #[.bool vx.b, .slice vx.A vx.n vx.c] from Bvx_187.out.below hb)
      have Bvy_196 := Lib.hid (show Bk _ _ _ #[.bool vy.b, .slice vy.A vy.n vy.c] from Bvy_188.out.below hb)
      have Bl_197 := Lib.hid (show Bk _ _ _ #[.int .i64 0, .int .i64 0] from Bl_189.out.below hb)
      have HB_198 := Lib.hid (below_tr HB_190.out hb)
      clear hb
      have RX_199 := Lib.hid (RX_191.out.dk K)
      have RY_200 := Lib.hid (RY_192.out.dk K)
      clear K Ba_185 Bb_186 Bvx_187 Bvy_188 Bl_189 HB_190 RX_191 RY_192
      clear hz
      clear Bl_197
      have lvx := Bvx_195.out.lt
      obtain ⟨cvx0, cvx1⟩ := Bvx_195.out.cells2
      have lvy := Bvy_196.out.lt
      obtain ⟨cvy0, cvy1⟩ := Bvy_196.out.cells2
      go_wp2_with fail
      refine (wcompare_q _ vx vy (x.num * (y.den : Int)) (y.num * (x.den : Int)) RX_199.out RY_200.out).mono ?_
      rintro e w3 ⟨rfl, hb⟩
      clear lvx cvx0 cvx1 lvy cvy0 cvy1
      have K := Dk.below hb
      have Ba_201 := Lib.hid (show Bk _ _ _ #[.bool t.q.b, .slice t.q.A t.q.n t.q.c, .slice t.A t.n t.c] from Ba_193.out.below hb)
      have Bb_202 := Lib.hid (show Bk _ _ _ #[.bool u.q.b, .slice u.q.A u.q.n u.q.c, .slice u.A u.n u.c] from Bb_194.out.below hb)
      have Bvx_203 := Lib.hid (show Bk _ _ _ #[.bool vx.b, .slice vx.A vx.n vx.c] from Bvx_195.out.below hb)
      have Bvy_204 := Lib.hid (show Bk _ _ _ #[.bool vy.b, .slice vy.A vy.n vy.c] from Bvy_196.out.below hb)
      have HB_205 := Lib.hid (below_tr HB_198.out hb)
      clear hb
      have RX_206 := Lib.hid (RX_199.out.dk K)
      have RY_207 := Lib.hid (RY_200.out.dk K)
      clear K Ba_193 Bb_194 Bvx_195 Bvy_196 HB_198 RX_199 RY_200
      have lvx := Bvx_203.out.lt
      obtain ⟨cvx0, cvx1⟩ := Bvx_203.out.cells2
      have lvy := Bvy_204.out.lt
      obtain ⟨cvy0, cvy1⟩ := Bvy_204.out.cells2
      go_wp2
      go_ret2
      exact ⟨rfl, HB_205.out⟩

end Go.Proofs.Ytgioppkggpfnoaa.Nu
end

section
/- WholeTurns: what comes in, read raw; rows that are looked through. -/
set_option linter.unusedVariables false
namespace Go.Proofs.Ytgioppkggpfnoaa.Nu
open Go.RowKit Go.Proofs

/-- An element that may be, and is not too great. -/
def EltR (w : World) (b off j : Nat) (x : Rat) : Prop := (∃ t, AtR w b off j t ∧ RR w t x) ∧ RLim 96 x
theorem elt_r {w : World} {b off j : Nat} {t : TQ} {x : Rat} {xs ys : List Nat} (a : AtR w b off j t) (hx : RL2 w t.q.A t.q.n xs) (hy : RL2 w t.A t.n ys) (hr : RR w t x) (h1 : t.q.n ≤ 3) (h2 : t.n ≤ 3) : EltR w b off j x :=
  ⟨⟨t, a, hr⟩, rw_nb hr.1 (k := 3) h1, rn_nb hr.2.1 (k := 3) h2⟩
/-- A row whose every element is so. -/
def OkRow (w : World) (A : Option Addr) (n c : Nat) : Prop := ∃ f : Nat → Rat, RRs w A n c f ∧ ∀ j, j < n → RLim 96 (f j)
theorem OkRow.mk {w : World} {A : Option Addr} {n c : Nat} (hc : n ≤ c) (hn : n ≤ 1000000) (h : ∀ j, j < n → ∃ b off x, A = some ⟨b, off, none⟩ ∧ b < w.heap.size ∧ EltR w b off j x) : OkRow w A n c := by
  by_cases h0 : n = 0
  · subst h0
    exact ⟨fun _ => 0, ⟨Nat.zero_le _, Nat.zero_le _, fun e => absurd e (by omega)⟩, fun j hj => absurd hj (by omega)⟩
  · obtain ⟨b, off, _, rfl, hb, _⟩ := h 0 (by omega)
    have h2 : ∀ j, ∃ x, j < n → EltR w b off j x := fun j => by
      by_cases hj : j < n
      · obtain ⟨b', off', x, e, _, hx⟩ := h j hj
        injection e with e
        injection e with e1 e2
        subst e1 e2
        exact ⟨x, fun _ => hx⟩
      · exact ⟨0, fun e => absurd e hj⟩
    refine ⟨fun j => Classical.choose (h2 j), ⟨hc, hn, fun _ => ⟨b, off, rfl, hb, fun j hj => ?_⟩⟩, fun j hj => (Classical.choose_spec (h2 j) hj).2⟩
    obtain ⟨⟨t, ⟨a0, a1, a2⟩, hr⟩, _⟩ := Classical.choose_spec (h2 j) hj
    exact ⟨t, a0, a1, a2, hr⟩
/-- The rows that the table is cut into. -/
def rowsT (b off n c i : Nat) : List Value := (List.range i).map fun k => Value.slice (some ⟨b, off + k * n * 3, none⟩) n (c - k * n)
theorem rowsT_len (b off n c i : Nat) : (rowsT b off n c i).length = i := by simp [rowsT]
theorem rowsT_succ (b off n c i : Nat) : rowsT b off n c (i + 1) = rowsT b off n c i ++ [.slice (some ⟨b, off + i * n * 3, none⟩) n (c - i * n)] := by simp [rowsT, List.range_succ]
theorem rowsT_get {b off n c i k : Nat} (h : k < i) : (rowsT b off n c i)[k]? = some (.slice (some ⟨b, off + k * n * 3, none⟩) n (c - k * n)) := by simp [rowsT, h]
theorem rowsT_one (b off n c i : Nat) : ∀ u ∈ rowsT b off n c i, u.oneCell' = true := by
  intro u hu
  obtain ⟨k, _, rfl⟩ := List.mem_map.1 hu
  rfl
theorem rowsT_no (b off n c i : Nat) : ∀ u ∈ rowsT b off n c i, ∀ x : Int, u ≠ .int .u32 x := by
  intro u hu x
  obtain ⟨k, _, rfl⟩ := List.mem_map.1 hu
  intro h
  cases h
/-- The table, up to row i, as the loop builds it. -/
def BldRel (W0 : World) (b off n c : Nat) (i : Nat) (v : Value) (wr : World) : Prop :=
  OW wr 22 1 v i (rowsT b off n c i) ∧ (∀ g, v.ownBlock = some g → W0.heap.size ≤ g) ∧ Below W0.heap.size W0 wr
theorem BldRel.start (W0 : World) (b off n c : Nat) : BldRel W0 b off n c 0 (.slice none 0 0) W0 := ⟨OW.nil _ _ _, (fun g h => by cases h), Below.refl _ _⟩
theorem BldRel.next {W0 w w' : World} {b off n c i : Nat} {v v' : Value} {t : TypeId} (h : BldRel W0 b off n c i v w) (h1 : OW w' 22 1 v' (i + 1) (rowsT b off n c i ++ [.slice (some ⟨b, off + i * n * 3, none⟩) n (c - i * n)]))
    (h2 : (w.alloc (.cells #[.slice (some ⟨b, off + i * n * 3, none⟩) n (c - i * n)] t)).grownBy w' v.ownBlock) (h4 : v'.ownBlock = v.ownBlock ∨ v'.ownBlock = some (w.heap.size + 1)) : BldRel W0 b off n c (i + 1) v' w' := by
  refine ⟨by rw [rowsT_succ]; exact h1, fun g hg => ?_, (below_al h.2.2 _).grown h2 (Nat.le_trans h.2.2.size (by simp)) h.2.1⟩
  rcases h4 with e | e
  · exact h.2.1 g (e ▸ hg)
  · rw [e] at hg
    injection hg with hg
    subst hg
    have := h.2.2.size
    omega
/-- The state ahead of a row; ahead of a number of a row. -/
def TkRel (w w9 : World) (xs : List Value) (k : Nat) (wr : World) : Prop := Below w9.heap.size w9 wr ∧ ∀ k', k' < k → ∀ A' n' c', xs[k']? = some (.slice A' n' c') → OkRow w A' n' c'
def TkIn (w w9 : World) (A : Option Addr) (j : Nat) (wr : World) : Prop := Below w9.heap.size w9 wr ∧ ∀ j', j' < j → ∃ b off x, A = some ⟨b, off, none⟩ ∧ b < w.heap.size ∧ EltR w b off j' x
/-- Rows that may be, in memory, as a table. -/
theorem table_ok {w w' : World} {g n cap b off c : Nat} (hb : Below w.heap.size w w') (hg : g < w'.heap.size) (hcap : n ≤ cap) (hn : n ≤ 1000000) (hc : ∀ k, k < n → w'.cell? ⟨g, k, none⟩ = some (.slice (some ⟨b, off + k * n * 3, none⟩) n (c - k * n)))
    (h : ∀ k, k < n → OkRow w (some ⟨b, off + k * n * 3, none⟩) n (c - k * n)) : ∃ a : Nat → Nat → Rat, RRss w' (some ⟨g, 0, none⟩) n cap n a ∧ ∀ k, k < n → ∀ j, j < n → RLim 96 (a k j) := by
  have h2 : ∀ k, ∃ f : Nat → Rat, k < n → RRs w (some ⟨b, off + k * n * 3, none⟩) n (c - k * n) f ∧ ∀ j, j < n → RLim 96 (f j) := fun k => by
    by_cases hk : k < n
    · obtain ⟨f, hf⟩ := h k hk
      exact ⟨f, fun _ => hf⟩
    · exact ⟨fun _ => 0, fun e => absurd e hk⟩
  refine ⟨fun k => Classical.choose (h2 k), ⟨hcap, hn, fun _ => ⟨g, 0, rfl, hg, fun k hk => ?_⟩⟩, fun k hk => (Classical.choose_spec (h2 k) hk).2⟩
  rw [Nat.zero_add]
  exact ⟨_, _, hc k hk, (Classical.choose_spec (h2 k) hk).1.below hb⟩
theorem OW.two (w : World) (x y : Value) (h : ∀ u ∈ [x, y], ∀ v : Int, u ≠ .int .u32 v) : OW (w.alloc (.cells #[x, y] 22)) 22 1 (.slice (some ⟨w.heap.size, 0, none⟩) 2 2) 2 [x, y] := by
  refine ⟨rfl, .inr ⟨w.heap.size, 2, _, rfl, Nat.le_refl _, by unfold maxLen; omega, alloc_top w _, rfl, rfl, ?_⟩⟩
  intro u hu
  exact h u (by simpa using hu)
theorem turn_rows {w : World} {b0 o0 n0 c0 n c1 c2 nn : Nat} {A1 A2 : Option Addr} (h0 : RawT w (some ⟨b0, o0, none⟩) n0 c0) (h1 : RawT w A1 n c1) (h2 : RawT w A2 n c2) (hnn : nn = n * n) (hl : nn ≤ n0) :
    ∀ k, k < 2 + n → ∃ A' c', ([.slice A1 n c1, .slice A2 n c2] ++ rowsT b0 o0 n c0 n)[k]? = some (.slice A' n c') ∧ RawT w A' n c' := by
  intro k hk
  match k, hk with
  | 0, _ => exact ⟨A1, c1, rfl, h1⟩
  | 1, _ => exact ⟨A2, c2, rfl, h2⟩
  | k + 2, hk =>
    refine ⟨some ⟨b0, o0 + k * n * 3, none⟩, c0 - k * n, ?_, h0.sub ?_⟩
    · show (rowsT b0 o0 n c0 n)[k]? = _
      exact rowsT_get (by omega)
    · have h3 : (k + 1) * n ≤ n * n := Nat.mul_le_mul_right n (by omega)
      rw [Nat.succ_mul] at h3
      omega
/-- From both sides. -/
theorem turns_eq (a : Nat → Nat → Rat) (x y : Nat → Rat) (n : Nat) : dot (fun i => dot (a i) x n) y n = dot x (fun j => dot ((fun j r => a r j) j) y n) n := turn_law a x y n n
theorem rcmp_is (w : World) (t u : TQ) (x y : Rat) (a b : Nat) (h : RR w t x) (h2 : RR w u y) (la : RLim a x) (lb : RLim b y) (hab : a + b ≤ 15900) (e : x = y) :
    Calls Try.prog 10 #[.agg #[.bool t.q.b, .slice t.q.A t.q.n t.q.c, .slice t.A t.n t.c], .agg #[.bool u.q.b, .slice u.q.A u.q.n u.q.c, .slice u.A u.n u.c]] w fun e w' => e = .returned (.tuple #[.int .i64 0, .int .i64 0]) ∧ Below w.heap.size w w' := by
  have h := rcmp_any w t u x y a b h h2 la lb hab
  rw [rcmp_eq e] at h
  exact h
end Go.Proofs.Ytgioppkggpfnoaa.Nu
end

section
/- The walk of WholeTurns. -/
set_option linter.unusedVariables false
namespace Go.Proofs.Ytgioppkggpfnoaa.Nu
open Go.RowKit Go.Proofs

theorem noU_nil : NoU (Value.slice none 0 0).cells := by
  intro u hu v
  simp [Value.cells] at hu
  subst hu
  intro h
  cases h
theorem new_row1 (w : World) (u : Value) (t : TypeId) : ∀ (j : Nat) v, [u][j]? = some v → (w.alloc (.cells #[u] t)).cell? ((⟨w.heap.size, 0, none⟩ : Addr).add j) = some v := by
  intro j v h
  rw [Addr.add_lit, Nat.zero_add]
  exact (Bk.new w t #[u]).cell j (by simpa using h)
/-- An append of nothing. -/
theorem wpList_append_nil {ops : Array Oper} {rest : List Oper} {o : Oper} {a : Act} {Q : Exit → Act → World → Prop} {w : World} (hgd : o.guard = none) (s x : Operand) (T : TypeId)
    (ho : o.op = .call { callee := .builtin .append, args := #[s, x], argTypes := #[T, T] }) (hT : T = 25) (hE : 22 = 22) (ad : Addr) (m cap : Nat) (hm : m ≤ cap) (hs : a.eval s = .slice (some ad) m cap) (hx : a.eval x = .slice none 0 0)
    (h : wpList Try.prog ops Q rest (a.put o.dst (.slice (some ad) m cap)) w) : wpList Try.prog ops Q (o :: rest) a w := by
  subst hT
  refine wpList_plain hgd fun K hK => ?_
  obtain ⟨i0, hi, hz0, hz1, hz2⟩ := info_parts infoL
  have hr : (Builtin.append_ #[25, 25] o.type #[.slice (some ad) m cap, .slice none 0 0]).run Try.prog w = .ok (.slice (some ad) m cap) w := by
    have hf := run_firstCells_none (P := Try.prog)
    simp [Builtin.append_, run_underlying Try.underlying25, sizeOf, typeInfo, hi, hz1, Builtin.lenOf, hm, run_firstCells_none, storeCells]
  unfold Oper.wp execOp
  simp only [ho, resolve, invoke, builtin, Sem.run_bind, Sem.run_pure, Result.andThen_ok, List.map_toArray, List.map_cons, List.map_nil, hs, hx, hr]
  exact hK _ _ h
set_option maxRecDepth 100000 in
set_option maxHeartbeats 4000000 in
theorem tturn_zero (w : World) : Calls Try.prog 7 #[.slice none 0 0] w fun e w' => (∃ g : Nat, e = .returned (.tuple #[.slice (some ⟨g, 0, none⟩) 0 0, .int .i64 0])) ∧ Below w.heap.size w w' := by
  have hs : Calls Try.prog 34 #[.slice none 0 0] w fun e w' => e = .returned (.tuple #[.int .i64 0, .int .i64 0, .int .i64 0]) ∧ w' = w := by
    go_enter Try.func34, Try.ntmps34
    go_wp2
    refine bodyPost_ret (v := .tuple #[.int .i64 0, .int .i64 0, .int .i64 0]) ?_ rfl ?_
    · simp [results, Try.f34, go_sem]
    · exact ⟨rfl, rfl⟩
  have HS := Lib.hid hs
  clear hs
  have ht : Calls Try.prog 19 #[.slice none 0 0] w fun e w' => (∃ g : Nat, e = .returned (.tuple #[.slice (some ⟨g, 0, none⟩) 0 0, .int .i64 0])) ∧ Below w.heap.size w w' := by
    have hmk : ∀ W, (Instr.makeSlice 25 (.int .i64 0) (.int .i64 0)).run Try.prog W = .ok (.slice (some ⟨W.heap.size, 0, none⟩) 0 0) (W.alloc (.cells (mkL 0) 22)) := fun W => make_L 0 (by omega) W
    go_enter Try.func19, Try.ntmps19
    go_wp2_with fail
    refine HS.out.mono ?_
    rintro e w1 ⟨rfl, rfl⟩
    go_wp2_with fail
    go_loopw [24] (fun k wr => k = .int .i64 0 ∧ wr = w1.alloc (.cells (mkL 0) 22)) (fun _ _ => 0)
    case atStart => exact ⟨rfl, rfl⟩
    case round =>
      obtain ⟨rfl, rfl⟩ := hrel
      go_wp2
      go_ret2
      exact ⟨⟨_, rfl⟩, below_al (Below.refl _ _) _⟩
  have HT := Lib.hid ht
  clear ht
  go_enter Try.func7, Try.ntmps7
  go_wp2_with fail
  refine HT.out.mono ?_
  rintro e w1 ⟨⟨g, rfl⟩, hb⟩
  have HB := Lib.hid hb
  clear hb
  go_wp2
  go_ret2
  exact ⟨⟨g, rfl⟩, HB.out⟩
theorem apply_zero (w : World) (A : Option Addr) (c : Nat) (B : Option Addr) (d : Nat) : Calls Try.prog 8 #[.slice A 0 c, .slice B 0 d] w fun e w' => (∃ g : Nat, e = .returned (.tuple #[.slice (some ⟨g, 0, none⟩) 0 0, .int .i64 0])) ∧ Below w.heap.size w w' :=
  (apply_any w A B 0 c 0 d (fun _ _ => 0) (fun _ => 0) 1 1 ⟨Nat.zero_le _, Nat.zero_le _, fun h => absurd h (by omega)⟩ ⟨Nat.zero_le _, Nat.zero_le _, fun h => absurd h (by omega)⟩ (fun k hk => absurd hk (by omega)) (fun i hi => absurd hi (by omega)) (by omega) (by omega)).mono fun e w' ⟨⟨g, he, _, _⟩, hb⟩ => ⟨⟨g, he⟩, hb⟩
set_option maxRecDepth 100000 in
set_option maxHeartbeats 4000000 in
theorem turns_any (w : World) (A0 A1 A2 : Option Addr) (n0 n1 n2 c0 c1 c2 : Nat) (N : Int) (h0 : RawT w A0 n0 c0) (h1 : RawT w A1 n1 c1) (h2 : RawT w A2 n2 c2) (z0 : A0 = none → c0 = 0) (z1 : A1 = none → c1 = 0) (z2 : A2 = none → c2 = 0) :
    Calls Try.prog 3 #[.int .i64 N, .agg #[.slice A0 n0 c0, .slice A1 n1 c1, .slice A2 n2 c2]] w fun e w' => e = .returned (.bool true) ∧ Below w.heap.size w w' := by
  have H0 := Lib.hid h0
  have H1 := Lib.hid h1
  have H2 := Lib.hid h2
  have e0 := h0.1
  have e1 := h1.1
  have e2 := h2.1
  have f1 := h1.2.1
  have f2 := h2.2.1
  have f0 := h0.2.1
  clear h0 h1 h2
  have BX := Lib.hid (boxes1 w 23 #[.slice A0 n0 c0, .slice A1 n1 c1, .slice A2 n2 c2])
  go_enter Try.func3, Try.ntmps3
  go_wp2_with fail
  generalize w.alloc (.cells #[.slice A0 n0 c0, .slice A1 n1 c1, .slice A2 n2 c2] 23) = w0 at *
  obtain ⟨b0, hw⟩ := BX.out
  have BL_0 := Lib.hid b0
  have HB_0 := Lib.hid hw
  have K := Dk.below (hw.mono (Nat.le_refl _))
  clear BX hw b0
  clear K
  have lL := BL_0.out.lt
  obtain ⟨cL0, cL1, cL2⟩ := BL_0.out.cells3
  go_wp2_with fail
  refine (unit_any _ 2 1 (by omega) (by omega)).mono ?_
  rintro e w1 ⟨⟨g1, rfl⟩, hb⟩
  clear lL cL0 cL1 cL2
  have K := Dk.below hb
  have BL_1 := Lib.hid (show Bk _ _ _ #[.slice A0 n0 c0, .slice A1 n1 c1, .slice A2 n2 c2] from BL_0.out.below hb)
  have HB_2 := Lib.hid (below_tr HB_0.out hb)
  clear hb
  clear K BL_0 HB_0
  have lL := BL_1.out.lt
  obtain ⟨cL0, cL1, cL2⟩ := BL_1.out.cells3
  go_wp2_with fail
  refine (one_any _ 3 (by omega)).mono ?_
  rintro e w2 ⟨⟨g2, rfl⟩, hb⟩
  clear lL cL0 cL1 cL2
  have K := Dk.below hb
  have BL_3 := Lib.hid (show Bk _ _ _ #[.slice A0 n0 c0, .slice A1 n1 c1, .slice A2 n2 c2] from BL_1.out.below hb)
  have HB_4 := Lib.hid (below_tr HB_2.out hb)
  clear hb
  clear K BL_1 HB_2
  have lL := BL_3.out.lt
  obtain ⟨cL0, cL1, cL2⟩ := BL_3.out.cells3
  go_upto_region 3 with (fail)
  by_cases hN0 : N < 0
  · clear lL cL0 cL1 cL2
    have lL := BL_3.out.lt
    obtain ⟨cL0, cL1, cL2⟩ := BL_3.out.cells3
    go_wp2
    go_ret
    exact ⟨rfl, HB_4.out⟩
  by_cases hN4 : 4 < N
  · clear lL cL0 cL1 cL2
    have lL := BL_3.out.lt
    obtain ⟨cL0, cL1, cL2⟩ := BL_3.out.cells3
    go_wp2
    go_ret
    exact ⟨rfl, HB_4.out⟩
  obtain ⟨n, rfl⟩ : ∃ n : Nat, N = n := ⟨N.toNat, by omega⟩
  have n4 : n ≤ 4 := by omega
  obtain ⟨nn, hnn⟩ : ∃ nn : Nat, nn = n * n := ⟨_, rfl⟩
  have q0 : (n : Int) * (n : Int) = (nn : Int) := by rw [hnn]; simp
  have nn16 : nn ≤ 16 := by rw [hnn]; exact Nat.le_trans (Nat.mul_le_mul n4 n4) (by omega)
  have q1 : IntKind.i64.wrap (nn : Int) = (nn : Int) := by rw [IntKind.wrap_i64]; omega
  have HNN := Lib.hid hnn
  clear hnn
  have r1 : ¬ (n : Int) < 0 := by omega
  have r2 : ¬ (4 : Int) < (n : Int) := by omega
  clear hN0 hN4
  by_cases hl0 : (n0 : Int) < (nn : Int)
  · clear lL cL0 cL1 cL2
    have lL := BL_3.out.lt
    obtain ⟨cL0, cL1, cL2⟩ := BL_3.out.cells3
    go_wp2
    go_ret
    exact ⟨rfl, HB_4.out⟩
  by_cases hl1 : (n1 : Int) < (n : Int)
  · clear lL cL0 cL1 cL2
    have lL := BL_3.out.lt
    obtain ⟨cL0, cL1, cL2⟩ := BL_3.out.cells3
    go_wp2
    go_ret
    exact ⟨rfl, HB_4.out⟩
  by_cases hl2 : (n2 : Int) < (n : Int)
  · clear lL cL0 cL1 cL2
    have lL := BL_3.out.lt
    obtain ⟨cL0, cL1, cL2⟩ := BL_3.out.cells3
    go_wp2
    go_ret
    exact ⟨rfl, HB_4.out⟩
  clear lL cL0 cL1 cL2
  have lL := BL_3.out.lt
  obtain ⟨cL0, cL1, cL2⟩ := BL_3.out.cells3
  by_cases hn : n = 0
  rotate_left
  · have hnn1 : 1 ≤ nn := by rw [HNN.out]; exact Nat.mul_pos (by omega) (by omega)
    obtain ⟨b1, o1, rfl, hl1', _⟩ := H1.out.2.2 (by omega)
    obtain ⟨b2, o2, rfl, hl2', _⟩ := H2.out.2.2 (by omega)
    obtain ⟨b0, o0, rfl, hl0', _⟩ := H0.out.2.2 (by omega)
    have q9 : ((n : Int) == 0) = false := by rw [beq_eq_false_iff_ne]; omega
    clear z0 z1 z2
    clear lL cL0 cL1 cL2
    have lL := BL_3.out.lt
    obtain ⟨cL0, cL1, cL2⟩ := BL_3.out.cells3
    go_upto_region 5 with (fail)
    go_cut [5, 6] (fun s5 s6 wx => s5 = .slice (some ⟨b1, o1, none⟩) n c1 ∧ s6 = .slice (some ⟨b2, o2, none⟩) n c2 ∧ Bk wx w.heap.size 23 #[.slice (some ⟨b0, o0, none⟩) n0 c0, .slice (some ⟨b1, o1, none⟩) n1 c1, .slice (some ⟨b2, o2, none⟩) n2 c2] ∧ Below w.heap.size w wx)
    case first =>
      go_quiet (fail)
      go_wp2_with fail
      go_meet
      exact ⟨rfl, rfl, BL_3.out, below_drewN HB_4.out _⟩
    case rest =>
      clear lL cL0 cL1 cL2
      clear BL_3 HB_4
      obtain ⟨w3, rfl⟩ : ∃ x, x = wc := ⟨_, rfl⟩
      obtain ⟨rfl, rfl, hbl, hbel⟩ := hcut
      have BL := Lib.hid hbl
      have HB3 := Lib.hid hbel
      clear hbl hbel
      have HI0 := Lib.hid (BldRel.start w3 b0 o0 n c0)
      obtain ⟨i0, hi0, hz0, hz1, hz2⟩ := info_parts infoL
      go_wp2_with fail
      go_loopw [7, 71] (fun s7 k wr => ∃ (i : Nat) (v : Value), k = .int .i64 i ∧ v = s7 ∧ i ≤ n ∧ Hid (BldRel w3 b0 o0 n c0 i v wr)) (fun _ k _ => n - (intOf k).toNat)
      case atStart => exact ⟨0, _, rfl, rfl, Nat.zero_le _, HI0⟩
      case round =>
        clear HI0
        obtain ⟨i, v, rfl, rfl, hi, Hr⟩ := hrel
        by_cases hi2 : i < n
        · have q3 : (i : Int) < (n : Int) := by omega
          obtain ⟨p, hp⟩ : ∃ p, p = i * n := ⟨_, rfl⟩
          have hp2 : p + n ≤ nn := by rw [hp, HNN.out, ← Nat.succ_mul]; exact Nat.mul_le_mul_right n hi2
          have p1 : (i : Int) * (n : Int) = (p : Int) := by rw [hp]; simp
          have p2 : IntKind.i64.wrap (p : Int) = (p : Int) := by rw [IntKind.wrap_i64]; omega
          have p3 : IntKind.i64.wrap ((p : Int) + (n : Int)) = ((p + n : Nat) : Int) := by rw [IntKind.wrap_i64]; omega
          have HP := Lib.hid hp
          have cL0 : wr.cell? ⟨w.heap.size, 0, none⟩ = some (.slice (some ⟨b0, o0, none⟩) n0 c0) := (BL.out.below Hr.out.2.2).cell 0 rfl
          have HOW := Lib.hid Hr.out.1
          clear hp
          have HOA := Lib.hid (HOW.out.al (.cells #[.slice (some ⟨b0, o0 + p * 3, none⟩) n (c0 - p)] 22))
          go_wp2_with (at_builtin; refine wpList_append_ow rfl _ _ 25 rfl 22 1 24 (.slice none 0 0) i0 Try.underlying25 hi0 hz0 hz1 hz2 rfl noU_nil (by decide) (by decide) v i (rowsT b0 o0 n c0 i) rfl HOA.out ⟨wr.heap.size, 0, none⟩ 1 1 [.slice (some ⟨b0, o0 + p * 3, none⟩) n (c0 - p)] rfl rfl (new_row1 wr _ _) (by intro u hu; simp at hu; subst hu; rfl) (by intro u hu x; simp at hu; subst hu; intro h; cases h) (fun _ => by omega) (by omega) ?_)
          intro v' w6 h1 h2 h3 h4
          have HN := Lib.hid (show BldRel w3 b0 o0 n c0 (i + 1) v' w6 from Hr.out.next (by rw [HP.out] at h1; exact h1) (by rw [HP.out] at h2; exact h2) (by simpa using h4))
          clear h1 h2 h3 h4 HOA HOW cL0
          go_wp2
          go_roundw
          case rel => exact ⟨i + 1, v', by go_num, rfl, hi2, HN⟩
          case measure => simp only [intOf]; omega
        · obtain rfl : n = i := by omega
          clear hi2
          obtain ⟨ga, capa, rfl, hcapa, hga, hca, _⟩ := Hr.out.1.cell (by omega)
          have HCA := Lib.hid hca
          have HBR := Lib.hid Hr.out.2.2
          have H3W := Lib.hid (below_tr HB3.out Hr.out.2.2)
          clear hca Hr
          have O2 := Lib.hid (OW.two wr (.slice (some ⟨b1, o1, none⟩) n c1) (.slice (some ⟨b2, o2, none⟩) n c2) (by intro u hu x; simp at hu; rcases hu with rfl | rfl <;> intro h <;> cases h))
          have HNC := Lib.hid (fun j u (h : (rowsT b0 o0 n c0 n)[j]? = some u) => show (wr.alloc (.cells #[.slice (some ⟨b1, o1, none⟩) n c1, .slice (some ⟨b2, o2, none⟩) n c2] 22)).cell? ((⟨ga, 0, none⟩ : Addr).add j) = some u by rw [Addr.add_lit, Nat.zero_add]; exact ((below_al (Below.refl _ wr) _).cell (p := ⟨ga, j, none⟩) hga).trans (HCA.out j u h))
          go_wp2_with (at_builtin; refine wpList_append_ow rfl _ _ 25 rfl 22 1 24 (.slice none 0 0) i0 Try.underlying25 hi0 hz0 hz1 hz2 rfl noU_nil (by decide) (by decide) (.slice (some ⟨wr.heap.size, 0, none⟩) 2 2) 2 [.slice (some ⟨b1, o1, none⟩) n c1, .slice (some ⟨b2, o2, none⟩) n c2] rfl O2.out ⟨ga, 0, none⟩ n capa (rowsT b0 o0 n c0 n) rfl (by rw [rowsT_len, Nat.mul_one]) HNC.out (rowsT_one _ _ _ _ _) (rowsT_no _ _ _ _ _) (fun e => by cases e) (by omega) ?_)
          intro v2 w9 h1 h2 h3 h4
          obtain ⟨gx, capx, rfl, _, hgx, hcx, _⟩ := h1.cell (by omega)
          obtain ⟨M, hM⟩ : ∃ M : Nat, M = 2 + n := ⟨_, rfl⟩
          rw [← hM]
          have HM := Lib.hid hM
          have HXC := Lib.hid hcx
          have HB9 := Lib.hid (show Below wr.heap.size wr w9 from (below_al (Below.refl _ wr) _).grown h2 (by simp) (fun k hk => by simp [Value.ownBlock] at hk; omega))
          have HW9 := Lib.hid (below_tr H3W.out HB9.out)
          clear h1 h2 h3 h4 hcx hM O2 HNC
          have M3 : 3 ≤ M := by have := HM.out; omega
          have M6 : M ≤ 6 := by have := HM.out; omega
          have RWS := Lib.hid (turn_rows (H0.out) (H1.out.take (m := n) (by omega)) (H2.out.take (m := n) (by omega)) HNN.out (by omega))
          have I0 := Lib.hid (show TkRel w w9 ([.slice (some ⟨b1, o1, none⟩) n c1, .slice (some ⟨b2, o2, none⟩) n c2] ++ rowsT b0 o0 n c0 n) 0 w9 from ⟨Below.refl _ _, fun k hk => absurd hk (Nat.not_lt_zero _)⟩)
          go_wp2_with fail
          go_loopw [95] (fun k wr => ∃ i : Nat, k = .int .i64 i ∧ i ≤ M ∧ Hid (TkRel w w9 ([.slice (some ⟨b1, o1, none⟩) n c1, .slice (some ⟨b2, o2, none⟩) n c2] ++ rowsT b0 o0 n c0 n) i wr)) (fun k _ => M - (intOf k).toNat)
          case atStart => exact ⟨0, rfl, Nat.zero_le _, I0⟩
          case round =>
            clear I0
            obtain ⟨k, rfl, hk, Hr⟩ := hrel
            have HBX := Lib.hid Hr.out.1
            have HSM := Lib.hid Hr.out.2
            clear Hr
            by_cases hk2 : k < M
            · obtain ⟨A', c', e1, hraw⟩ := RWS.out k (by rw [← HM.out]; exact hk2)
              have x0 : wr.cell? ⟨gx, k, none⟩ = some (.slice A' n c') := (HBX.out.cell (p := ⟨gx, k, none⟩) hgx).trans (HXC.out k _ e1)
              have HRAW := Lib.hid hraw
              have E1 := Lib.hid e1
              clear hraw e1
              have q7 : (k : Int) < (M : Int) := by omega
              go_wp2_with fail
              have I1 := Lib.hid (show TkIn w w9 A' 0 wr from ⟨HBX.out, fun j hj => absurd hj (Nat.not_lt_zero _)⟩)
              clear x0
              go_loopw [101] (fun j wr => ∃ i : Nat, j = .int .i64 i ∧ i ≤ n ∧ Hid (TkIn w w9 A' i wr)) (fun j _ => n - (intOf j).toNat)
              case atStart => exact ⟨0, rfl, Nat.zero_le _, I1⟩
              case round =>
                clear I1 HBX
                obtain ⟨j, rfl, hj, Hi⟩ := hrel
                have HBX := Lib.hid Hi.out.1
                have HEL := Lib.hid Hi.out.2
                have HBB := Lib.hid (below_tr HW9.out HBX.out)
                clear Hi
                by_cases hj2 : j < n
                · obtain ⟨bb, oo, rfl, hlb, hcc⟩ := HRAW.out.2.2 (by omega)
                  obtain ⟨t, xs, ys, hat, hrx, hry, hqc, htc⟩ := hcc j hj2
                  have x1 := (HBB.out.cell (p := ⟨bb, _, none⟩) hlb).trans hat.1
                  have x2 := (HBB.out.cell (p := ⟨bb, _, none⟩) hlb).trans hat.2.1
                  have x3 := (HBB.out.cell (p := ⟨bb, _, none⟩) hlb).trans hat.2.2
                  have HAT := Lib.hid hat
                  have HRX := Lib.hid hrx
                  have HRY := Lib.hid hry
                  clear hat hrx hry hcc
                  have q8 : (j : Int) < (n : Int) := by omega
                  have F := Lib.hid (below_al HBB.out (.cells #[.bool t.q.b, .slice t.q.A t.q.n t.q.c, .slice t.A t.n t.c] 32))
                  have G := Lib.hid (below_al HBX.out (.cells #[.bool t.q.b, .slice t.q.A t.q.n t.q.c, .slice t.A t.n t.c] 32))
                  have BXB := Lib.hid (Bk.new wr 32 #[.bool t.q.b, .slice t.q.A t.q.n t.q.c, .slice t.A t.n t.c])
                  go_wp2_with fail
                  refine (rcheck_raw _ t xs ys (HRX.out.below F.out) (HRY.out.below F.out) hqc htc).mono ?_
                  rintro e w11 ⟨⟨r, rfl, hr⟩, hb⟩
                  have HR5 := Lib.hid hr
                  have FB := Lib.hid (below_tr F.out hb)
                  have GB := Lib.hid (below_tr G.out hb)
                  have BY := Lib.hid (BXB.out.below hb)
                  clear hb x1 x2 x3 hr BXB
                  have lb := BY.out.lt
                  have cy0 := BY.out.cell 0 rfl
                  have cy1 := BY.out.cell 1 rfl
                  have cy2 := BY.out.cell 2 rfl
                  by_cases hr0 : r = 0
                  · subst hr0
                    by_cases g1 : t.q.n ≤ 3
                    · have q9 : ¬ (3 : Int) < (t.q.n : Int) := by omega
                      by_cases g2 : t.n ≤ 3
                      · have q10 : ¬ (3 : Int) < (t.n : Int) := by omega
                        obtain ⟨x, hx, _, _⟩ := HR5.out rfl
                        have HE := Lib.hid (elt_r HAT.out HRX.out HRY.out (rr_back hx (HRX.out.2 (by omega)) (HRY.out.2 (by omega)) F.out) g1 g2)
                        clear hx
                        go_wp2
                        go_roundw
                        case rel =>
                          refine ⟨j + 1, by go_num, hj2, Lib.hid ⟨GB.out, fun j' hj' => ?_⟩⟩
                          by_cases e : j' = j
                          · subst e
                            exact ⟨bb, oo, x, rfl, hlb, HE.out⟩
                          · exact HEL.out j' (by omega)
                        case measure => simp only [intOf]; omega
                      · have q10 : (3 : Int) < (t.n : Int) := by omega
                        go_wp2
                        go_ret
                        exact ⟨rfl, FB.out⟩
                    · have q9 : (3 : Int) < (t.q.n : Int) := by omega
                      go_wp2
                      go_ret
                      exact ⟨rfl, FB.out⟩
                  · have q12 : ((r : Int) == 0) = false := by rw [beq_eq_false_iff_ne]; exact hr0
                    have q13 : ((r : Int) != 0) = true := by rw [bne, q12]; rfl
                    clear hr0
                    go_wp2
                    go_ret
                    exact ⟨rfl, FB.out⟩
                · obtain rfl : n = j := by omega
                  have HRO := Lib.hid (OkRow.mk (w := w) HRAW.out.1 (by omega) HEL.out)
                  clear hj2
                  go_wp2
                  go_roundw
                  case rel =>
                    refine ⟨k + 1, by go_num, hk2, Lib.hid ⟨HBX.out, fun k' hk' A'' n'' c'' h'' => ?_⟩⟩
                    by_cases e : k' = k
                    · subst e
                      have e2 := E1.out.symm.trans h''
                      injection e2 with e2
                      injection e2 with e3 e4 e5
                      subst e3 e4 e5
                      exact HRO.out
                    · exact HSM.out k' (by omega) _ _ _ h''
                  case measure => simp only [intOf]; omega
            · obtain rfl : M = k := by omega
              clear hk2
              have BW := Lib.hid (below_tr HW9.out HBX.out)
              have BA := Lib.hid (below_tr HB9.out HBX.out)
              obtain ⟨fx, hx, lx⟩ := HSM.out 0 (by omega) _ _ _ rfl
              obtain ⟨fy, hy, ly⟩ := HSM.out 1 (by omega) _ _ _ rfl
              obtain ⟨a, ha, la⟩ := table_ok BW.out (Nat.lt_of_lt_of_le hga BA.out.size) hcapa (by omega) (fun k hk => (BA.out.cell (p := ⟨ga, k, none⟩) hga).trans (HCA.out k _ (rowsT_get hk))) (fun k hk => HSM.out (2 + k) (by have := HM.out; omega) _ _ _ (by rw [List.getElem?_append_right (by simp)]; simpa using rowsT_get (b := b0) (off := o0) (n := n) (c := c0) hk))
              have HX := Lib.hid (hx.below BW.out)
              have HY := Lib.hid (hy.below BW.out)
              have LX := Lib.hid lx
              have LY := Lib.hid ly
              have HA := Lib.hid ha
              have LA := Lib.hid la
              have n1' : 0 < n := by omega
              have LT := Lib.hid (fun k (hk : k < n) i (hi : i < n) => show RLim 96 ((fun j r => a r j) k i) from la i hi k hk)
              have LP := Lib.hid (fun i (hi : i < n) => show RLim 773 (dot (a i) fx n) from (dot_lim n (la i hi) lx).mono (by omega))
              have LQ := Lib.hid (fun i (hi : i < n) => show RLim 773 (dot ((fun j r => a r j) i) fy n) from (dot_lim n (fun j hj => la j hj i hi) ly).mono (by omega))
              have LU := Lib.hid (show RLim 3481 (dot (fun i => dot (a i) fx n) fy n) from (dot_lim n LP.out ly).mono (by omega))
              have LV := Lib.hid (show RLim 3481 (dot fx (fun i => dot ((fun j r => a r j) i) fy n) n) from (dot_lim n lx LQ.out).mono (by omega))
              have EQ := Lib.hid (turns_eq a fx fy n)
              have HB_800 := Lib.hid (show Below wr.heap.size wr wr from Below.refl _ _)
              clear hx hy lx ly ha la HSM HBX RWS HXC HCA HW9 HB9 BA H3W HBR HM hgx hga BL HB3 H0 H1 H2
              go_wp2_with fail
              refine (tturn_any _ (some ⟨ga, 0, none⟩) n capa n a (HA.out.below HB_800.out) n1' (by omega)).mono ?_
              rintro e w3 ⟨⟨gt, rfl, hr⟩, hb⟩
              have K := Dk.below hb
              have HB_802 := Lib.hid (below_tr HB_800.out hb)
              clear hb
              clear K HB_800
              have HT := Lib.hid hr
              clear hr
              have BASE_803 := Lib.hid (below_tr BW.out HB_802.out)
              replace HA := Lib.hid (HA.out.below HB_802.out)
              replace HX := Lib.hid (HX.out.below HB_802.out)
              replace HY := Lib.hid (HY.out.below HB_802.out)
              clear HB_802 BW
              have HB_804 := Lib.hid (show Below w3.heap.size w3 w3 from Below.refl _ _)
              go_wp2_with fail
              refine (apply_any _ (some ⟨ga, 0, none⟩) (some ⟨b1, o1, none⟩) n capa n c1 a fx 96 96 (HA.out.below HB_804.out) (HX.out.below HB_804.out) LA.out LX.out (by omega) (by omega)).mono ?_
              rintro e w4 ⟨⟨gp, rfl, _, hr⟩, hb⟩
              have K := Dk.below hb
              have HB_805 := Lib.hid (below_tr HB_804.out hb)
              clear hb
              clear K HB_804
              have HP9 := Lib.hid hr
              clear hr
              have BASE_806 := Lib.hid (below_tr BASE_803.out HB_805.out)
              replace HT := Lib.hid (HT.out.below HB_805.out)
              replace HX := Lib.hid (HX.out.below HB_805.out)
              replace HY := Lib.hid (HY.out.below HB_805.out)
              clear HB_805 BASE_803
              have HB_807 := Lib.hid (show Below w4.heap.size w4 w4 from Below.refl _ _)
              go_wp2_with fail
              refine (apply_any _ (some ⟨gt, 0, none⟩) (some ⟨b2, o2, none⟩) n n n c2 (fun j r => a r j) fy 96 96 (HT.out.below HB_807.out) (HY.out.below HB_807.out) LT.out LY.out (by omega) (by omega)).mono ?_
              rintro e w5 ⟨⟨gq, rfl, _, hr⟩, hb⟩
              have K := Dk.below hb
              have HB_808 := Lib.hid (below_tr HB_807.out hb)
              clear hb
              clear K HB_807
              have HQ9 := Lib.hid hr
              clear hr
              have BASE_809 := Lib.hid (below_tr BASE_806.out HB_808.out)
              replace HP9 := Lib.hid (HP9.out.below HB_808.out)
              replace HX := Lib.hid (HX.out.below HB_808.out)
              replace HY := Lib.hid (HY.out.below HB_808.out)
              clear HB_808 BASE_806
              have HB_810 := Lib.hid (show Below w5.heap.size w5 w5 from Below.refl _ _)
              go_wp2_with fail
              refine (dot_any _ (some ⟨gp, 0, none⟩) (some ⟨b2, o2, none⟩) n n c2 (fun i => dot (a i) fx n) fy 773 96 (HP9.out.below HB_810.out) (HY.out.below HB_810.out) LP.out LY.out (by omega) (by omega)).mono ?_
              rintro e w6 ⟨⟨u, rfl, hu⟩, hb⟩
              have K := Dk.below hb
              have HB_811 := Lib.hid (below_tr HB_810.out hb)
              clear hb
              clear K HB_810
              have RU_812 := Lib.hid hu
              clear hu
              go_wp2_with fail
              refine (dot_any _ (some ⟨b1, o1, none⟩) (some ⟨gq, 0, none⟩) n c1 n fx (fun i => dot ((fun j r => a r j) i) fy n) 96 773 (HX.out.below (below_al HB_811.out _)) (HQ9.out.below (below_al HB_811.out _)) LX.out LQ.out (by omega) (by omega)).mono ?_
              rintro e w7 ⟨⟨v, rfl, hv⟩, hb⟩
              have K := Dk.trans ((Dk.refl _).alloc _) (.below hb)
              have Bu_813 := Lib.hid (show Bk _ _ _ #[.bool u.q.b, .slice u.q.A u.q.n u.q.c, .slice u.A u.n u.c] from (Bk.new _ 32 #[.bool u.q.b, .slice u.q.A u.q.n u.q.c, .slice u.A u.n u.c]).below hb)
              have HB_814 := Lib.hid (below_tr (below_al HB_811.out _) hb)
              clear hb
              have RU_815 := Lib.hid (RU_812.out.dk K)
              clear K HB_811 RU_812
              have RV_816 := Lib.hid hv
              clear hv
              have lu := Bu_813.out.lt
              obtain ⟨cu0, cu1, cu2⟩ := Bu_813.out.cells3
              have n_817 := Bu_813.out.lt
              go_upto_region 29 with (fail)
              clear lu cu0 cu1 cu2
              have K : Dk w7 (w7.alloc (.cells #[.bool v.q.b, .slice v.q.A v.q.n v.q.c, .slice v.A v.n v.c] 32)) := ((Dk.refl _).alloc _)
              have Bu_818 := Lib.hid (show Bk (w7.alloc (.cells #[.bool v.q.b, .slice v.q.A v.q.n v.q.c, .slice v.A v.n v.c] 32)) (w6.heap.size) 32 #[.bool u.q.b, .slice u.q.A u.q.n u.q.c, .slice u.A u.n u.c] from (Bu_813.out.alloc _))
              have Bv_819 := Lib.hid (show Bk (w7.alloc (.cells #[.bool v.q.b, .slice v.q.A v.q.n v.q.c, .slice v.A v.n v.c] 32)) (w7.heap.size) 32 #[.bool v.q.b, .slice v.q.A v.q.n v.q.c, .slice v.A v.n v.c] from (Bk.new _ 32 #[.bool v.q.b, .slice v.q.A v.q.n v.q.c, .slice v.A v.n v.c]))
              have HB_820 := Lib.hid (show Below w5.heap.size w5 (w7.alloc (.cells #[.bool v.q.b, .slice v.q.A v.q.n v.q.c, .slice v.A v.n v.c] 32)) from (below_al HB_814.out _))
              have RU_821 := Lib.hid (RU_815.out.dk K)
              have RV_822 := Lib.hid (RV_816.out.dk K)
              clear K Bu_813 HB_814 RU_815 RV_816
              generalize w7.alloc (.cells #[.bool v.q.b, .slice v.q.A v.q.n v.q.c, .slice v.A v.n v.c] 32) = w8 at *
              have lu := Bu_818.out.lt
              obtain ⟨cu0, cu1, cu2⟩ := Bu_818.out.cells3
              have lv := Bv_819.out.lt
              obtain ⟨cv0, cv1, cv2⟩ := Bv_819.out.cells3
              go_wp2_with fail
              refine (rcmp_is _ u v (dot (fun i => dot (a i) fx n) fy n) (dot fx (fun i => dot ((fun j r => a r j) i) fy n) n) 3481 3481 RU_821.out RV_822.out LU.out LV.out (by omega) EQ.out).mono ?_
              rintro e w9 ⟨rfl, hb⟩
              clear lu cu0 cu1 cu2 lv cv0 cv1 cv2
              have K := Dk.below hb
              have Bu_823 := Lib.hid (show Bk _ _ _ #[.bool u.q.b, .slice u.q.A u.q.n u.q.c, .slice u.A u.n u.c] from Bu_818.out.below hb)
              have Bv_824 := Lib.hid (show Bk _ _ _ #[.bool v.q.b, .slice v.q.A v.q.n v.q.c, .slice v.A v.n v.c] from Bv_819.out.below hb)
              have HB_825 := Lib.hid (below_tr HB_820.out hb)
              clear hb
              have RU_826 := Lib.hid (RU_821.out.dk K)
              have RV_827 := Lib.hid (RV_822.out.dk K)
              clear K Bu_818 Bv_819 HB_820 RU_821 RV_822
              go_wp2
              go_ret
              exact ⟨rfl, below_tr BASE_809.out HB_825.out⟩
  subst hn
  go_upto_region 5 with (fail)
  clear lL cL0 cL1 cL2
  go_cut [5, 6] (fun s5 s6 wx => ∃ (A B : Option Addr) (c d : Nat), s5 = .slice A 0 c ∧ s6 = .slice B 0 d ∧ Below w.heap.size w wx)
  case first =>
    rcases A1 with _ | ⟨a1b, a1o, a1s⟩
    · obtain rfl : c1 = 0 := z1 rfl
      obtain rfl : n1 = 0 := by omega
      rcases A2 with _ | ⟨a2b, a2o, a2s⟩
      · obtain rfl : c2 = 0 := z2 rfl
        obtain rfl : n2 = 0 := by omega
        have lL := BL_3.out.lt
        obtain ⟨cL0, cL1, cL2⟩ := BL_3.out.cells3
        go_quiet (fail)
        go_wp2_with fail
        go_meet
        exact ⟨_, _, _, _, rfl, rfl, below_drewN HB_4.out _⟩
      · have lL := BL_3.out.lt
        obtain ⟨cL0, cL1, cL2⟩ := BL_3.out.cells3
        go_quiet (fail)
        go_wp2_with fail
        go_meet
        exact ⟨_, _, _, _, rfl, rfl, below_drewN HB_4.out _⟩
    · rcases A2 with _ | ⟨a2b, a2o, a2s⟩
      · obtain rfl : c2 = 0 := z2 rfl
        obtain rfl : n2 = 0 := by omega
        have lL := BL_3.out.lt
        obtain ⟨cL0, cL1, cL2⟩ := BL_3.out.cells3
        go_quiet (fail)
        go_wp2_with fail
        go_meet
        exact ⟨_, _, _, _, rfl, rfl, below_drewN HB_4.out _⟩
      · have lL := BL_3.out.lt
        obtain ⟨cL0, cL1, cL2⟩ := BL_3.out.cells3
        go_quiet (fail)
        go_wp2_with fail
        go_meet
        exact ⟨_, _, _, _, rfl, rfl, below_drewN HB_4.out _⟩
  case rest =>
    obtain ⟨w3, rfl⟩ : ∃ x, x = wc := ⟨_, rfl⟩
    obtain ⟨A, B, c, d, rfl, rfl, hbel⟩ := hcut
    have HB9 := Lib.hid hbel
    clear hbel
    have hf := @run_firstCells_none Try.prog
    go_wp2_with fail
    go_loopw [7, 71] (fun s7 k wr => s7 = .slice none 0 0 ∧ k = .int .i64 0 ∧ wr = w3) (fun _ _ _ => 0)
    case atStart => exact ⟨rfl, rfl, rfl⟩
    case round =>
      obtain ⟨rfl, rfl, rfl⟩ := hrel
      go_wp2_with (at_builtin; refine wpList_append_nil rfl _ _ 25 rfl rfl rfl ⟨wr.heap.size, 0, none⟩ 2 2 (by omega) rfl rfl ?_)
      have HB10 := Lib.hid (below_al HB9.out (.cells #[.slice A 0 c, .slice B 0 d] 22))
      have x0 : (wr.alloc (.cells #[.slice A 0 c, .slice B 0 d] 22)).cell? ⟨wr.heap.size, 0, none⟩ = some (.slice A 0 c) := (Bk.new wr _ _).cell 0 rfl
      have x1 : (wr.alloc (.cells #[.slice A 0 c, .slice B 0 d] 22)).cell? ⟨wr.heap.size, 1, none⟩ = some (.slice B 0 d) := (Bk.new wr _ _).cell 1 rfl
      generalize wr.heap.size = gg at *
      generalize wr.alloc (.cells #[.slice A 0 c, .slice B 0 d] 22) = w10 at *
      go_wp2_with fail
      go_loopw [95] (fun k wr => ∃ i : Nat, k = .int .i64 i ∧ i ≤ 2 ∧ wr = w10) (fun k _ => 2 - (intOf k).toNat)
      case atStart => exact ⟨0, rfl, by omega, rfl⟩
      case round =>
        obtain ⟨i, rfl, hi, rfl⟩ := hrel
        by_cases hi2 : i < 2
        · have q3 : (i : Int) < 2 := by omega
          obtain ⟨E, ce, x2⟩ : ∃ (E : Option Addr) (ce : Nat), wr.cell? ⟨gg, i, none⟩ = some (.slice E 0 ce) := by
            by_cases h : i = 0
            · subst h; exact ⟨_, _, x0⟩
            · obtain rfl : i = 1 := by omega
              exact ⟨_, _, x1⟩
          go_wp2_with fail
          go_loopw [101] (fun k w2 => k = .int .i64 0 ∧ w2 = wr) (fun _ _ => 0)
          case atStart => exact ⟨rfl, rfl⟩
          case round =>
            obtain ⟨rfl, rfl⟩ := hrel
            go_wp2
            go_roundw
            case rel => exact ⟨i + 1, by go_num, hi2, trivial⟩
            case measure => simp only [intOf]; omega
        · have q3 : ¬ (i : Int) < 2 := by omega
          go_wp2_with fail
          refine (tturn_zero _).mono ?_
          rintro e w11 ⟨⟨g3, rfl⟩, hb⟩
          have HB11 := Lib.hid (below_tr HB10.out hb)
          clear hb
          go_wp2_with fail
          refine (apply_zero _ none 0 A c).mono ?_
          rintro e w12 ⟨⟨g4, rfl⟩, hb⟩
          have HB12 := Lib.hid (below_tr HB11.out hb)
          clear hb
          go_wp2_with fail
          refine (apply_zero _ (some ⟨g3, 0, none⟩) 0 B d).mono ?_
          rintro e w13 ⟨⟨g5, rfl⟩, hb⟩
          have HB13 := Lib.hid (below_tr HB12.out hb)
          clear hb
          go_wp2
          go_ret
          exact ⟨rfl, HB13.out⟩

end Go.Proofs.Ytgioppkggpfnoaa.Nu
end

section
/- What all rows share: the call's end. -/
set_option linter.unusedVariables false
namespace Go.Proofs.Ytgioppkggpfnoaa.Nu
open Go.ChangeShapes Go.WideShapes Go.ChangeAt Go.RowKit Go.Proofs

section
variable {H : Type} {enc : TypeId × Value → H} {P : Program}
theorem post_of_below {f : Func} {s : ChangeSpec} {apart fresh handsOn again : Bool} {W W' : World} {args : Array Value} {v : Value} {ds gs : List (DataW H)} {before pa pv : List MemPlace}
    (hW : DataW.Whole enc P f.params.toList s.vars apart W args.toList ds gs before)
    (hres : ∀ (b : Nat) (sp : Nat → Bool) (hd : Bool), DataW.TrodAll enc P W' b sp hd f.resultTypes.toList (v.resultList f.resultTypes.size) (s.fn H (ds ++ gs)).results [])
    (hargs : ∀ sp : Nat → Bool, (∀ p ∈ before, sp p.block = true) → DataW.TrodAll enc P W' 0 sp true f.params.toList args.toList (s.fn H (ds ++ gs)).args pa)
    (hvars : ∀ sp : Nat → Bool, (∀ p ∈ before, sp p.block = true) → DataW.TrodVars enc P W' sp s.vars (s.fn H (ds ++ gs)).vars pv)
    (hps : before = pa ++ pv) (hb : Below W.heap.size W W')
    (hok : ∀ (j : Nat) (t : TypeId) (r : Value), f.resultTypes[j]? = some t → (v.resultList f.resultTypes.size)[j]? = some r → Value.okWide P W' .any 0 t r) :
    s.post enc P f apart fresh handsOn again W args v W' := by
  have hlt : ∀ p ∈ before, p.block < W.heap.size := fun p hp => hW.lt p hp
  have hold : ∀ p ∈ before, (fun b => decide (b < W.heap.size)) p.block = true := fun p hp => by simpa using hlt p hp
  refine ⟨ds, gs, before, [], pa, pv, hW, hres _ _ _, hargs _ hold, hvars _ hold, World.keptBut_mono (fun p hp => ⟨hp, ?_⟩) (hb.frame (· ∈ before)), fun _ => ?_⟩
  · rw [hps, List.mem_append] at hp
    exact Or.inr hp
  · obtain ⟨_, _, _, _, _, hz, hn⟩ := hW
    refine ⟨hok, _, _, ([] ++ pa) ++ pv, ⟨[] ++ pa, pv, trodAll_append (hargs _ (fun _ _ => rfl)) (hres _ _ _), hvars _ (fun _ _ => rfl), rfl, ?_, ?_⟩, ?_⟩
    · intro b off hp
      have hin : MemPlace.cell b off ∈ before := by rw [hps]; simpa using hp
      rw [hb.frozen (hlt _ hin)]
      exact hz b off hin
    · intro ha
      have := hn ha
      rw [hps] at this
      simpa using this
    · intro p hp _
      rw [hps]
      simpa using hp
end

theorem own : ownKnob Try.prog.godebug = none := by kernel_rfl
end Go.Proofs.Ytgioppkggpfnoaa.Nu
end

section
/- What a row's arguments are, read raw: rows of digits, numbers. -/
set_option linter.unusedVariables false
namespace Go.Proofs.Ytgioppkggpfnoaa.Nu
open Go.ChangeShapes Go.WideShapes Go.ChangeAt Go.RowKit Go.Proofs

theorem len_two {α : Type} : ∀ {l : List α}, l.length = 2 → ∃ a b, l = [a, b]
  | [a, b], _ => ⟨a, b, rfl⟩
theorem len_three {α : Type} : ∀ {l : List α}, l.length = 3 → ∃ a b c, l = [a, b, c]
  | [a, b, c], _ => ⟨a, b, c, rfl⟩
theorem laidOut : laidOutB Try.prog = true := by kernel_rfl
theorem cellsU32 : Try.prog.cellsOf 64 = 1 := by kernel_rfl
theorem cellsB : Try.prog.cellsOf 4 = 1 := by kernel_rfl
theorem cellsN : Try.prog.cellsOf 28 = 1 := by kernel_rfl
theorem cellsInt : Try.prog.cellsOf 30 = 2 := by kernel_rfl
section
variable {H : Type} {enc : TypeId × Value → H} {w : World} {sp : Nat → Bool} {held : Bool} {fuel : Nat} {cs : List Value} {x : DataW H × List MemPlace}
theorem spot_of {w : World} {a : Addr} {v : Value} (h : w.cell? a = some v) : a = ⟨a.block, a.off, none⟩ := by
  obtain ⟨b, o, s⟩ := a
  cases s with
  | none => rfl
  | some k =>
    unfold World.cell? at h
    split at h
    · simp at h
    · cases h
/-- A list's elements: where they lie, each as it reads. -/
theorem list_raw {t e : TypeId} {k : Nat} (ht : Try.prog.underlying t = some (.slice e)) (hk : Try.prog.cellsOf e = k) (hk0 : 0 < k) (h : DataW.trod enc Try.prog w 0 sp held fuel t cs = some x) :
    ∃ (A : Option Addr) (n c : Nat), cs = [.slice A n c] ∧ n ≤ c ∧ n ≤ 9223372036854775807 ∧ (A = none → c = 0) ∧ (0 < n → ∃ b off, A = some ⟨b, off, none⟩ ∧ b < w.heap.size ∧
      ∀ j, j < n → ∃ cs' m y, cs'.length = k ∧ (∀ i, i < k → w.cell? ⟨b, off + j * k + i, none⟩ = cs'[i]?) ∧ DataW.trod enc Try.prog w 0 sp held m e cs' = some y) := by
  rcases DataW.trod_slice ht h with ⟨rfl, _⟩ | ⟨a, len, cap, elems, rest, m, _, rfl, _, _, hl, hm, hlen, hel, _, _⟩
  · exact ⟨none, 0, 0, rfl, Nat.le_refl _, by omega, fun _ => rfl, fun h => absurd h (Nat.lt_irrefl _)⟩
  · refine ⟨some a, len, cap, rfl, hl, by have : cap ≤ 2 ^ 63 - 1 := hm; omega, (fun e => by cases e), fun h0 => ?_⟩
    have each : ∀ j, j < len → ∃ cs' y, cs'.length = k ∧ (∀ i, i < k → w.cell? ((a.add (j * k)).add i) = cs'[i]?) ∧ DataW.trod enc Try.prog w 0 sp held m e cs' = some y := fun j hj => by
      have hb := hel j hj
      rw [hk] at hb
      obtain ⟨y, hy⟩ : ∃ y, elems[j]? = some y := ⟨elems[j]'(by omega), List.getElem?_eq_getElem (by omega)⟩
      rw [hy] at hb
      obtain ⟨cs', hc, ht'⟩ := Option.bind_eq_some_iff.1 hb
      obtain ⟨_, h1, h2⟩ := World.cells?_some hc
      exact ⟨cs', y, h1, h2, ht'⟩
    have hsp : a = ⟨a.block, a.off, none⟩ := by
      obtain ⟨cs', y, h1, h2, _⟩ := each 0 h0
      have h3 := h2 0 hk0
      obtain ⟨v, hv⟩ : ∃ v, cs'[0]? = some v := ⟨cs'[0]'(by omega), List.getElem?_eq_getElem (by omega)⟩
      rw [hv, Nat.zero_mul] at h3
      have e0 : ∀ a : Addr, a.add 0 = a := fun a => by simp [Addr.add]
      rw [e0, e0] at h3
      exact spot_of h3
    have hadd : ∀ j i, (a.add j).add i = ⟨a.block, a.off + j + i, none⟩ := fun j i => by
      rw [hsp, Addr.add_lit, Addr.add_lit]
    have hlt : a.block < w.heap.size := by
      obtain ⟨cs', y, h1, h2, _⟩ := each 0 h0
      have h3 := h2 0 hk0
      obtain ⟨v, hv⟩ : ∃ v, cs'[0]? = some v := ⟨cs'[0]'(by omega), List.getElem?_eq_getElem (by omega)⟩
      rw [hv, hadd] at h3
      exact cell_lt h3
    refine ⟨a.block, a.off, by rw [← hsp], hlt, fun j hj => ?_⟩
    obtain ⟨cs', y, h1, h2, h3⟩ := each j hj
    exact ⟨cs', m, y, h1, fun i hi => by rw [← hadd]; exact h2 i hi, h3⟩
theorem nat_raw (h : DataW.trod enc Try.prog w 0 sp held fuel 28 cs = some x) : ∃ (A : Option Addr) (n c : Nat) (xs : List Nat), cs = [.slice A n c] ∧ RL2 w A n xs ∧ n ≤ c := by
  obtain ⟨A, n, c, rfl, hc, hn, _, hel⟩ := list_raw Try.underlying28 cellsU32 (by omega) h
  have each : ∀ j, ∃ z : Nat, j < n → z < 4294967296 ∧ ∃ b off, A = some ⟨b, off, none⟩ ∧ b < w.heap.size ∧ w.cell? ⟨b, off + j, none⟩ = some (.int .u32 z) := fun j => by
    by_cases hj : j < n
    · obtain ⟨b, off, hA, hlt, hh⟩ := hel (by omega)
      obtain ⟨cs', m, y, h1, h2, h3⟩ := hh j hj
      obtain ⟨z, rfl, _, hw⟩ := DataW.trod_int Try.underlying64 h3
      have hb := bounds_u32 hw
      refine ⟨z.toNat, fun _ => ⟨by omega, b, off, hA, hlt, ?_⟩⟩
      have h4 := h2 0 (by omega)
      rw [Nat.mul_one, Nat.add_zero] at h4
      rw [h4, show ((z.toNat : Nat) : Int) = z by omega]
      rfl
    · exact ⟨0, fun e => absurd e hj⟩
  refine ⟨A, n, c, (List.range n).map fun j => Classical.choose (each j), rfl, ⟨hn, fun h5 => ⟨by simp, by omega, fun z hz => ?_, fun h0 => ?_⟩⟩, hc⟩
  · obtain ⟨j, hj, rfl⟩ := List.mem_map.1 hz
    exact (Classical.choose_spec (each j) (List.mem_range.1 hj)).1
  · obtain ⟨_, b, off, hA, hlt, _⟩ := Classical.choose_spec (each 0) h0
    refine ⟨b, off, hA, hlt, fun j hj => ?_⟩
    obtain ⟨_, b', off', hA', _, hc'⟩ := Classical.choose_spec (each j) hj
    rw [hA] at hA'
    injection hA' with hA'
    injection hA' with e1 e2
    subst e1 e2
    rw [hc', dg_of (by simpa using hj)]
    simp
theorem int_raw (h : DataW.trod enc Try.prog w 0 sp held fuel 30 cs = some x) : ∃ (q : Q) (xs : List Nat), cs = [.bool q.b, .slice q.A q.n q.c] ∧ RL2 w q.A q.n xs ∧ q.n ≤ q.c := by
  obtain ⟨ys, m, _, _, hl, hy, hf⟩ := DataW.trod_struct Try.underlying30 h
  rw [cellsInt] at hl
  have h0 : DataW.trod enc Try.prog w 0 sp held m 4 ((cs.drop 0).take (Try.prog.cellsOf 4)) = ys[0]? := hf 0 _ rfl
  have h1 : DataW.trod enc Try.prog w 0 sp held m 28 ((cs.drop 1).take (Try.prog.cellsOf 28)) = ys[1]? := hf 1 _ rfl
  simp only [cellsB, cellsN, List.drop_zero] at h0 h1
  obtain ⟨v0, v1, rfl⟩ := len_two hl
  have hy2 : ys.length = 2 := hy
  obtain ⟨y0, e0⟩ : ∃ y, ys[0]? = some y := ⟨ys[0]'(by omega), List.getElem?_eq_getElem (by omega)⟩
  obtain ⟨y1, e1⟩ : ∃ y, ys[1]? = some y := ⟨ys[1]'(by omega), List.getElem?_eq_getElem (by omega)⟩
  rw [e0] at h0
  rw [e1] at h1
  obtain ⟨b, hb, _⟩ := DataW.trod_bool Try.underlying4 h0
  obtain ⟨A, n, c, xs, hc, hr, hn⟩ := nat_raw h1
  simp at hb hc
  subst hb hc
  exact ⟨⟨b, A, n, c⟩, xs, rfl, hr, hn⟩
end
end Go.Proofs.Ytgioppkggpfnoaa.Nu
end

section
/- What a row's arguments are, read raw: ratios, rows of them. -/
set_option linter.unusedVariables false
namespace Go.Proofs.Ytgioppkggpfnoaa.Nu
open Go.ChangeShapes Go.WideShapes Go.ChangeAt Go.RowKit Go.Proofs

theorem cellsRat : Try.prog.cellsOf 32 = 3 := by kernel_rfl
section
variable {H : Type} {enc : TypeId × Value → H} {w : World} {sp : Nat → Bool} {held : Bool} {fuel : Nat} {cs : List Value} {x : DataW H × List MemPlace}
theorem rat_raw (h : DataW.trod enc Try.prog w 0 sp held fuel 32 cs = some x) : ∃ (t : TQ) (xs ys : List Nat), cs = [.bool t.q.b, .slice t.q.A t.q.n t.q.c, .slice t.A t.n t.c] ∧ RL2 w t.q.A t.q.n xs ∧ RL2 w t.A t.n ys ∧ t.q.n ≤ t.q.c ∧ t.n ≤ t.c := by
  obtain ⟨ys, m, _, _, hl, hy, hf⟩ := DataW.trod_struct Try.underlying32 h
  rw [cellsRat] at hl
  have h0 : DataW.trod enc Try.prog w 0 sp held m 30 ((cs.drop 0).take (Try.prog.cellsOf 30)) = ys[0]? := hf 0 _ rfl
  have h1 : DataW.trod enc Try.prog w 0 sp held m 28 ((cs.drop 2).take (Try.prog.cellsOf 28)) = ys[1]? := hf 1 _ rfl
  simp only [cellsInt, cellsN, List.drop_zero] at h0 h1
  obtain ⟨v0, v1, v2, rfl⟩ := len_three hl
  have hy2 : ys.length = 2 := hy
  obtain ⟨y0, e0⟩ : ∃ y, ys[0]? = some y := ⟨ys[0]'(by omega), List.getElem?_eq_getElem (by omega)⟩
  obtain ⟨y1, e1⟩ : ∃ y, ys[1]? = some y := ⟨ys[1]'(by omega), List.getElem?_eq_getElem (by omega)⟩
  rw [e0] at h0
  rw [e1] at h1
  obtain ⟨q, xs, hb, hr, hn⟩ := int_raw h0
  obtain ⟨A, n, c, zs, hc, hr2, hn2⟩ := nat_raw h1
  simp at hb hc
  obtain ⟨rfl, rfl⟩ := hb
  subst hc
  exact ⟨⟨q, A, n, c⟩, xs, zs, rfl, hr, hr2, hn, hn2⟩
theorem rats_raw (h : DataW.trod enc Try.prog w 0 sp held fuel 22 cs = some x) : ∃ (A : Option Addr) (n c : Nat), cs = [.slice A n c] ∧ RawT w A n c ∧ (A = none → c = 0) := by
  obtain ⟨A, n, c, rfl, hc, hn, hnil, hel⟩ := list_raw Try.underlying22 cellsRat (by omega) h
  refine ⟨A, n, c, rfl, ⟨hc, hn, fun h0 => ?_⟩, hnil⟩
  obtain ⟨b, off, hA, hlt, hh⟩ := hel h0
  refine ⟨b, off, hA, hlt, fun j hj => ?_⟩
  obtain ⟨cs', m, y, h1, h2, h3⟩ := hh j hj
  obtain ⟨t, xs, ys, rfl, hx, hy, hq, ht⟩ := rat_raw h3
  exact ⟨t, xs, ys, ⟨h2 0 (by omega), h2 1 (by omega), h2 2 (by omega)⟩, hx, hy, hq, ht⟩
end
end Go.Proofs.Ytgioppkggpfnoaa.Nu
end

section
/- WholeTurns' arguments. -/
set_option linter.unusedVariables false
namespace Go.Proofs.Ytgioppkggpfnoaa.Nu
open Go.ChangeShapes Go.WideShapes Go.ChangeAt Go.RowKit Go.Proofs

theorem cellsRs : Try.prog.cellsOf 22 = 1 := by kernel_rfl
theorem cellsR3 : Try.prog.cellsOf 23 = 3 := by kernel_rfl
set_option maxRecDepth 100000 in
theorem open_rats3 {H : Type} {enc : TypeId × Value → H} {W : World} {sp : Nat → Bool} {held : Bool} {base : Nat} {v : Value} {d : DataW H} {ps : List MemPlace} (hv : Value.okWide Try.prog W .any base 23 v) (h : DataW.Trod enc Try.prog W 0 sp held 23 v d ps) :
    ∃ (A0 A1 A2 : Option Addr) (n0 n1 n2 c0 c1 c2 : Nat), v = .agg #[.slice A0 n0 c0, .slice A1 n1 c1, .slice A2 n2 c2] ∧ RawT W A0 n0 c0 ∧ RawT W A1 n1 c1 ∧ RawT W A2 n2 c2 ∧ (A0 = none → c0 = 0) ∧ (A1 = none → c1 = 0) ∧ (A2 = none → c2 = 0) := by
  have hv2 : ∃ cs, v = .agg cs := by
    simp only [Value.okWide, Try.underlying23] at hv
    obtain ⟨cs, h1, _⟩ := hv
    exact ⟨cs, h1⟩
  obtain ⟨cs, rfl⟩ := hv2
  obtain ⟨n, hn⟩ := h
  obtain ⟨ys, k, _, _, hl, hy, hf⟩ := DataW.trod_array Try.underlying23 hn
  rw [cellsR3] at hl
  obtain ⟨v0, v1, v2, e⟩ := len_three hl
  have hc : cs = #[v0, v1, v2] := by
    cases cs
    simp only [Value.cells] at e
    rw [e]
  subst hc
  have h0 := hf 0 (by omega)
  have h1 := hf 1 (by omega)
  have h2 := hf 2 (by omega)
  simp only [cellsRs, Value.cells] at h0 h1 h2
  obtain ⟨y0, e0⟩ : ∃ y, ys[0]? = some y := ⟨ys[0]'(by omega), List.getElem?_eq_getElem (by omega)⟩
  obtain ⟨y1, e1⟩ : ∃ y, ys[1]? = some y := ⟨ys[1]'(by omega), List.getElem?_eq_getElem (by omega)⟩
  obtain ⟨y2, e2⟩ : ∃ y, ys[2]? = some y := ⟨ys[2]'(by omega), List.getElem?_eq_getElem (by omega)⟩
  rw [e0] at h0
  rw [e1] at h1
  rw [e2] at h2
  obtain ⟨A0, n0, c0, ea, r0, k0⟩ := rats_raw h0
  obtain ⟨A1, n1, c1, eb, r1, k1⟩ := rats_raw h1
  obtain ⟨A2, n2, c2, ec, r2, k2⟩ := rats_raw h2
  simp at ea eb ec
  subst ea eb ec
  exact ⟨A0, A1, A2, n0, n1, n2, c0, c1, c2, rfl, r0, r1, r2, k0, k1, k2⟩
set_option maxRecDepth 100000 in
theorem open_int {H : Type} {enc : TypeId × Value → H} {W : World} {sp : Nat → Bool} {held : Bool} {base : Nat} {v : Value} {d : DataW H} {ps : List MemPlace} (hv : Value.okWide Try.prog W .any base 3 v) (h : DataW.Trod enc Try.prog W 0 sp held 3 v d ps) :
    ∃ a : Int, v = .int .i64 a := by
  obtain ⟨a, rfl, _⟩ := okWide_int Try.underlying3 hv
  exact ⟨a, rfl⟩
theorem laid_nil (w : World) : laidMetH Try.prog [] w := by
  show laidMet Try.prog [] w
  exact ⟨[], by simp [DataW.LaidVars], List.nodup_nil, fun b off h => by cases h⟩
end Go.Proofs.Ytgioppkggpfnoaa.Nu
end
