/- Texts of the seat, laid together: Halves, More, Gens, WayA, Way, DCheck, Big, Raw, ZCheck, ZOk, HullA, HullS. -/
import Derived.Test.YtgioppkggpfnoaaDoorJn4
import Derived.RegionTactic
import Derived.StillTailTactics
import Derived.Deep.RegionHeld3
import Derived.Deep.DeepCutAuto
import Derived.Deep.CutBlock
import Derived.Maps.AppendAt
set_option linter.all false
set_option exponentiation.threshold 20000
section
/- The walk of join.halves. -/
set_option linter.unusedVariables false
namespace Go.Proofs.YtgioppkggpfnoaaDoor.Nu
open Go.RowKit Go.Proofs

def HalvesRel (F1 F2 : Nat → D) (n g1 g2 : Nat) (W : World) (i : Nat) (w : World) : Prop :=
  OD w g1 n (fun j => if j < i then F1 j else D.zero) ∧ OD w g2 n (fun j => if j < i then F2 j else D.zero) ∧ Below W.heap.size W w

set_option maxRecDepth 100000 in
set_option maxHeartbeats 4000000 in
theorem halves_plain (w : World) (A B : Option Addr) (n c d : Nat) (a b : Nat → D) (bits : Nat) (E T : Nat) (h : RDs w A n c a) (h2 : RDs w B n d b) (la : ∀ i, i < n → (a i).Lim E T) (lb : ∀ i, i < n → (b i).Lim E T) (hET : E + T + 4 ≤ 16000) (hb2 : 2 ≤ bits) (hb3 : bits ≤ 4096) (ht : BTab w) :
    Calls Tryd.prog 86 #[.slice A n c, .slice B n d, .bool false, .int .i64 bits] w fun e w' => (∃ g1 g2 : Nat, e = .returned (.tuple #[.slice (some ⟨g1, 0, none⟩) n n, .slice (some ⟨g2, 0, none⟩) n n, .int .i64 0]) ∧ w.heap.size ≤ g1 ∧ w.heap.size ≤ g2 ∧ OD w' g1 n (fun j => halfM (a j) (b j) bits) ∧ OD w' g2 n (fun j => halfO (a j) (b j) bits)) ∧ Below w.heap.size w w' := by
  have HA := Lib.hid h
  have HB := Lib.hid h2
  have LA := Lib.hid la
  have LB := Lib.hid lb
  have HT := Lib.hid ht
  have n0 := h.2.1
  clear h h2 la lb ht
  have hmk := fun W => make_D n n0 W
  go_enter Tryd.func86, Tryd.ntmps86
  go_upto_region 1 with (fail)
  go_cut [11, 12] (fun s11 s12 wx => ∃ g1 g2 : Nat, s11 = .slice (some ⟨g1, 0, none⟩) n n ∧ s12 = .slice (some ⟨g2, 0, none⟩) n n ∧ g1 ≠ g2 ∧ w.heap.size ≤ g1 ∧ w.heap.size ≤ g2 ∧ OD wx g1 n (fun _ => D.zero) ∧ OD wx g2 n (fun _ => D.zero) ∧ Below w.heap.size w wx)
  case first =>
    go_region
    all_goals (go_wp2_with fail; go_meet; first | exact ⟨w.heap.size, w.heap.size + 1, rfl, rfl, by omega, by omega, by omega, ((OD.made w n).al _).dr, (OD.made1 w _ n).dr, below_dr (below_al (below_al (Below.refl _ w) _) _)⟩ | exact ⟨w.heap.size + 1, w.heap.size, rfl, rfl, by omega, by omega, by omega, (OD.made1 w _ n).dr, ((OD.made w n).al _).dr, below_dr (below_al (below_al (Below.refl _ w) _) _)⟩)
  case rest =>
    obtain ⟨w0, rfl⟩ : ∃ x, x = wc := ⟨_, rfl⟩
    obtain ⟨g1, g2, rfl, rfl, hne, hg1, hg2, ho1, ho2, hbel⟩ := hcut
    have H0 := Lib.hid (show HalvesRel (fun j => halfM (a j) (b j) bits) (fun j => halfO (a j) (b j) bits) n g1 g2 w 0 w0 from ⟨OD.start ho1, OD.start ho2, hbel⟩)
    clear hmk ho1 ho2 hbel
    go_wp2_with fail
    go_loopw [24] (fun k wr => ∃ i : Nat, k = .int .i64 i ∧ i ≤ n ∧ Hid (HalvesRel (fun j => halfM (a j) (b j) bits) (fun j => halfO (a j) (b j) bits) n g1 g2 w i wr)) (fun k _ => n - (intOf k).toNat)
    case atStart => exact ⟨0, rfl, Nat.zero_le _, H0⟩
    case round =>
      clear H0
      obtain ⟨i, rfl, hi, Hr⟩ := hrel
      by_cases hi2 : i < n
      · have q3 : (i : Int) < (n : Int) := by omega
        obtain ⟨hx, hv, hbel⟩ := Hr.out
        have OX := Lib.hid hx
        have OV := Lib.hid hv
        have HB_0 := Lib.hid hbel
        clear hx hv hbel Hr
        obtain ⟨A1, o1, rfl, hl1, hcc⟩ := HA.out.2.2 (by omega)
        obtain ⟨q, z0, z1, z2, hq⟩ := hcc i hi2
        obtain ⟨A2, o2, rfl, hl2, hc2⟩ := HB.out.2.2 (by omega)
        obtain ⟨t, y0, y1, y2, ht⟩ := hc2 i hi2
        have X0 := Lib.hid z0
        have Y0 := Lib.hid y0
        have X1 := Lib.hid z1
        have Y1 := Lib.hid y1
        have X2 := Lib.hid z2
        have Y2 := Lib.hid y2
        have RQ := Lib.hid (hq.below HB_0.out)
        have RT := Lib.hid (ht.below HB_0.out)
        clear hcc z0 z1 z2 hq hc2 y0 y1 y2 ht
        have La := Lib.hid (LA.out i hi2)
        have Lb := Lib.hid (LB.out i hi2)
        have cr10 : wr.cell? ⟨A1, o1 + i * 3, none⟩ = some (.bool q.b) := (HB_0.out.cell (p := ⟨A1, o1 + i * 3, none⟩) hl1).trans X0.out
        have cr11 : wr.cell? ⟨A1, o1 + i * 3 + 1, none⟩ = some (.slice q.A q.n q.c) := (HB_0.out.cell (p := ⟨A1, o1 + i * 3 + 1, none⟩) hl1).trans X1.out
        have cr12 : wr.cell? ⟨A1, o1 + i * 3 + 2, none⟩ = some (.int .i64 (a i).x) := (HB_0.out.cell (p := ⟨A1, o1 + i * 3 + 2, none⟩) hl1).trans X2.out
        have cr20 : wr.cell? ⟨A2, o2 + i * 3, none⟩ = some (.bool t.b) := (HB_0.out.cell (p := ⟨A2, o2 + i * 3, none⟩) hl2).trans Y0.out
        have cr21 : wr.cell? ⟨A2, o2 + i * 3 + 1, none⟩ = some (.slice t.A t.n t.c) := (HB_0.out.cell (p := ⟨A2, o2 + i * 3 + 1, none⟩) hl2).trans Y1.out
        have cr22 : wr.cell? ⟨A2, o2 + i * 3 + 2, none⟩ = some (.int .i64 (b i).x) := (HB_0.out.cell (p := ⟨A2, o2 + i * 3 + 2, none⟩) hl2).trans Y2.out
        have n_101 := OX.out.lt
        have n_102 := OV.out.lt
        go_upto_region 9 with (fail)
        clear cr10 cr11 cr12 cr20 cr21 cr22
        have K : Dk wr (wr.alloc (.cells #[.bool t.b, .slice t.A t.n t.c, .int .i64 (b i).x] 53)) := ((Dk.refl _).alloc _)
        have By_103 := Lib.hid (show Bk (wr.alloc (.cells #[.bool t.b, .slice t.A t.n t.c, .int .i64 (b i).x] 53)) (wr.heap.size) 53 #[.bool t.b, .slice t.A t.n t.c, .int .i64 (b i).x] from (Bk.new _ 53 #[.bool t.b, .slice t.A t.n t.c, .int .i64 (b i).x]))
        have Ox_104 := Lib.hid (show OD (wr.alloc (.cells #[.bool t.b, .slice t.A t.n t.c, .int .i64 (b i).x] 53)) (g1) n (fun j => if j < i then (fun j => halfM (a j) (b j) bits) j else D.zero) from (OX.out.al _))
        have Ov_105 := Lib.hid (show OD (wr.alloc (.cells #[.bool t.b, .slice t.A t.n t.c, .int .i64 (b i).x] 53)) (g2) n (fun j => if j < i then (fun j => halfO (a j) (b j) bits) j else D.zero) from (OV.out.al _))
        have HB_106 := Lib.hid (show Below w.heap.size w (wr.alloc (.cells #[.bool t.b, .slice t.A t.n t.c, .int .i64 (b i).x] 53)) from (below_al HB_0.out _))
        have RQ_107 := Lib.hid (RQ.out.dk K)
        have RT_108 := Lib.hid (RT.out.dk K)
        clear K OX OV HB_0 RQ RT
        generalize wr.alloc (.cells #[.bool t.b, .slice t.A t.n t.c, .int .i64 (b i).x] 53) = w1 at *
        have ly := By_103.out.lt
        obtain ⟨cy0, cy1, cy2⟩ := By_103.out.cells3
        have cr10 : w1.cell? ⟨A1, o1 + i * 3, none⟩ = some (.bool q.b) := (HB_106.out.cell (p := ⟨A1, o1 + i * 3, none⟩) hl1).trans X0.out
        have cr11 : w1.cell? ⟨A1, o1 + i * 3 + 1, none⟩ = some (.slice q.A q.n q.c) := (HB_106.out.cell (p := ⟨A1, o1 + i * 3 + 1, none⟩) hl1).trans X1.out
        have cr12 : w1.cell? ⟨A1, o1 + i * 3 + 2, none⟩ = some (.int .i64 (a i).x) := (HB_106.out.cell (p := ⟨A1, o1 + i * 3 + 2, none⟩) hl1).trans X2.out
        have cr20 : w1.cell? ⟨A2, o2 + i * 3, none⟩ = some (.bool t.b) := (HB_106.out.cell (p := ⟨A2, o2 + i * 3, none⟩) hl2).trans Y0.out
        have cr21 : w1.cell? ⟨A2, o2 + i * 3 + 1, none⟩ = some (.slice t.A t.n t.c) := (HB_106.out.cell (p := ⟨A2, o2 + i * 3 + 1, none⟩) hl2).trans Y1.out
        have cr22 : w1.cell? ⟨A2, o2 + i * 3 + 2, none⟩ = some (.int .i64 (b i).x) := (HB_106.out.cell (p := ⟨A2, o2 + i * 3 + 2, none⟩) hl2).trans Y2.out
        obtain ⟨⟨_, px0⟩, ⟨_, px1⟩, ⟨_, px2⟩, rx0, rx1, rx2⟩ := Ox_104.out.there hi2
        have lx := Ox_104.out.lt
        obtain ⟨⟨_, pv0⟩, ⟨_, pv1⟩, ⟨_, pv2⟩, rv0, rv1, rv2⟩ := Ov_105.out.there hi2
        have lv := Ov_105.out.lt
        go_wp2_with fail
        obtain ⟨SX1, hS1⟩ : ∃ S : World → Prop, ∀ w', S w' ↔ (w'.cell? ⟨A1, o1 + i * 3, none⟩ = some (.bool q.b) ∧ w'.cell? ⟨A1, o1 + i * 3 + 1, none⟩ = some (.slice q.A q.n q.c) ∧ w'.cell? ⟨A1, o1 + i * 3 + 2, none⟩ = some (.int .i64 (a i).x) ∧ w'.cell? ⟨wr.heap.size, 0, none⟩ = some (.bool t.b) ∧ w'.cell? ⟨wr.heap.size, 1, none⟩ = some (.slice t.A t.n t.c) ∧ w'.cell? ⟨wr.heap.size, 2, none⟩ = some (.int .i64 (b i).x)) := ⟨_, fun _ => Iff.rfl⟩
        have k_109 : SX1 (w1) := (hS1 _).2 ⟨(Below.cell (p := ⟨A1, o1 + i * 3, none⟩) HB_106.out hl1).trans X0.out, (Below.cell (p := ⟨A1, o1 + i * 3 + 1, none⟩) HB_106.out hl1).trans X1.out, (Below.cell (p := ⟨A1, o1 + i * 3 + 2, none⟩) HB_106.out hl1).trans X2.out, By_103.out.cell 0 rfl, By_103.out.cell 1 rfl, By_103.out.cell 2 rfl⟩
        have k_110 : SX1 (w1.drew) := (hS1 _).2 ⟨(Below.cell (p := ⟨A1, o1 + i * 3, none⟩) (below_dr HB_106.out) hl1).trans X0.out, (Below.cell (p := ⟨A1, o1 + i * 3 + 1, none⟩) (below_dr HB_106.out) hl1).trans X1.out, (Below.cell (p := ⟨A1, o1 + i * 3 + 2, none⟩) (below_dr HB_106.out) hl1).trans X2.out, (By_103.out.drew).cell 0 rfl, (By_103.out.drew).cell 1 rfl, (By_103.out.drew).cell 2 rfl⟩
        have tok_111 : True := trivial
        go_region_held3 (fun w' => w'.cell? ⟨A1, o1 + i * 3, none⟩ = some (.bool q.b) ∧ w'.cell? ⟨A1, o1 + i * 3 + 1, none⟩ = some (.slice q.A q.n q.c) ∧ w'.cell? ⟨A1, o1 + i * 3 + 2, none⟩ = some (.int .i64 (a i).x) ∧ w'.cell? ⟨wr.heap.size, 0, none⟩ = some (.bool t.b) ∧ w'.cell? ⟨wr.heap.size, 1, none⟩ = some (.slice t.A t.n t.c) ∧ w'.cell? ⟨wr.heap.size, 2, none⟩ = some (.int .i64 (b i).x)) (first | with_reducible exact (hS1 _).1 k_109 | with_reducible exact (hS1 _).1 k_110 | with_reducible exact (hS1 _).1 k_120 | with_reducible exact (hS1 _).1 k_121 | with_reducible exact (hS1 _).1 k_122)
          (first
           | (have _ := tok_111; go_at_call 144; clear tok_111; refine (half_any _ q t (a i) (b i) bits E T (RQ_107.out.dk ((Dk.refl _).drew)) (RT_108.out.dk ((Dk.refl _).drew)) La.out Lb.out hET hb2 hb3 (HT.out.below (below_dr HB_106.out))).mono ?_; rintro e w2 ⟨⟨m, x, rfl, hm, hx⟩, hb⟩; clear ly cy0 cy1 cy2 cr10 cr11 cr12 cr20 cr21 cr22 px0 px1 px2 rx0 rx1 rx2 lx pv0 pv1 pv2 rv0 rv1 rv2 lv k_109 k_110; have K := Dk.trans ((Dk.refl _).drew) (.below hb); have By_112 := Lib.hid (show Bk _ _ _ #[.bool t.b, .slice t.A t.n t.c, .int .i64 (b i).x] from (By_103.out.drew).below hb); have Ox_113 := Lib.hid (show OD _ (g1) n (fun j => if j < i then (fun j => halfM (a j) (b j) bits) j else D.zero) from (Ox_104.out.dr).below hb); have Ov_114 := Lib.hid (show OD _ (g2) n (fun j => if j < i then (fun j => halfO (a j) (b j) bits) j else D.zero) from (Ov_105.out.dr).below hb); have HB_115 := Lib.hid (below_tr (below_dr HB_106.out) hb); clear hb; have RQ_116 := Lib.hid (RQ_107.out.dk K); have RT_117 := Lib.hid (RT_108.out.dk K); clear K By_103 Ox_104 Ov_105 HB_106 RQ_107 RT_108; have RM_118 := Lib.hid hm; clear hm; have RO_119 := Lib.hid hx; clear hx; have ly := By_112.out.lt; obtain ⟨cy0, cy1, cy2⟩ := By_112.out.cells3; have cr10 : w2.cell? ⟨A1, o1 + i * 3, none⟩ = some (.bool q.b) := (HB_115.out.cell (p := ⟨A1, o1 + i * 3, none⟩) hl1).trans X0.out; have cr11 : w2.cell? ⟨A1, o1 + i * 3 + 1, none⟩ = some (.slice q.A q.n q.c) := (HB_115.out.cell (p := ⟨A1, o1 + i * 3 + 1, none⟩) hl1).trans X1.out; have cr12 : w2.cell? ⟨A1, o1 + i * 3 + 2, none⟩ = some (.int .i64 (a i).x) := (HB_115.out.cell (p := ⟨A1, o1 + i * 3 + 2, none⟩) hl1).trans X2.out; have cr20 : w2.cell? ⟨A2, o2 + i * 3, none⟩ = some (.bool t.b) := (HB_115.out.cell (p := ⟨A2, o2 + i * 3, none⟩) hl2).trans Y0.out; have cr21 : w2.cell? ⟨A2, o2 + i * 3 + 1, none⟩ = some (.slice t.A t.n t.c) := (HB_115.out.cell (p := ⟨A2, o2 + i * 3 + 1, none⟩) hl2).trans Y1.out; have cr22 : w2.cell? ⟨A2, o2 + i * 3 + 2, none⟩ = some (.int .i64 (b i).x) := (HB_115.out.cell (p := ⟨A2, o2 + i * 3 + 2, none⟩) hl2).trans Y2.out; obtain ⟨⟨_, px0⟩, ⟨_, px1⟩, ⟨_, px2⟩, rx0, rx1, rx2⟩ := Ox_113.out.there hi2; have lx := Ox_113.out.lt; obtain ⟨⟨_, pv0⟩, ⟨_, pv1⟩, ⟨_, pv2⟩, rv0, rv1, rv2⟩ := Ov_114.out.there hi2; have lv := Ov_114.out.lt; have k_120 : SX1 (w2) := (hS1 _).2 ⟨(Below.cell (p := ⟨A1, o1 + i * 3, none⟩) HB_115.out hl1).trans X0.out, (Below.cell (p := ⟨A1, o1 + i * 3 + 1, none⟩) HB_115.out hl1).trans X1.out, (Below.cell (p := ⟨A1, o1 + i * 3 + 2, none⟩) HB_115.out hl1).trans X2.out, By_112.out.cell 0 rfl, By_112.out.cell 1 rfl, By_112.out.cell 2 rfl⟩; have y0 := HB_115.out.size; have y1 := By_112.out.lt; have y2 := Ox_113.out.lt; have y3 := Ov_114.out.lt; have k_121 : SX1 (((w2.setCell ⟨g1, i * 3, none⟩ (.bool m.b)).setCell ⟨g1, i * 3 + 1, none⟩ (.slice m.A m.n m.c)).setCell ⟨g1, i * 3 + 2, none⟩ (.int .i64 (halfM (a i) (b i) bits).x)) := (hS1 _).2 ⟨(Below.cell (p := ⟨A1, o1 + i * 3, none⟩) (below_put3 HB_115.out (by omega) i (.bool m.b) (.slice m.A m.n m.c) (.int .i64 (halfM (a i) (b i) bits).x)) hl1).trans X0.out, (Below.cell (p := ⟨A1, o1 + i * 3 + 1, none⟩) (below_put3 HB_115.out (by omega) i (.bool m.b) (.slice m.A m.n m.c) (.int .i64 (halfM (a i) (b i) bits).x)) hl1).trans X1.out, (Below.cell (p := ⟨A1, o1 + i * 3 + 2, none⟩) (below_put3 HB_115.out (by omega) i (.bool m.b) (.slice m.A m.n m.c) (.int .i64 (halfM (a i) (b i) bits).x)) hl1).trans X2.out, (By_112.out.ne3 (by omega) i (.bool m.b) (.slice m.A m.n m.c) (.int .i64 (halfM (a i) (b i) bits).x)).cell 0 rfl, (By_112.out.ne3 (by omega) i (.bool m.b) (.slice m.A m.n m.c) (.int .i64 (halfM (a i) (b i) bits).x)).cell 1 rfl, (By_112.out.ne3 (by omega) i (.bool m.b) (.slice m.A m.n m.c) (.int .i64 (halfM (a i) (b i) bits).x)).cell 2 rfl⟩; clear y0 y1 y2 y3; have y0 := HB_115.out.size; have y1 := By_112.out.lt; have y2 := Ox_113.out.lt; have y3 := Ov_114.out.lt; have k_122 : SX1 ((((((w2.setCell ⟨g1, i * 3, none⟩ (.bool m.b)).setCell ⟨g1, i * 3 + 1, none⟩ (.slice m.A m.n m.c)).setCell ⟨g1, i * 3 + 2, none⟩ (.int .i64 (halfM (a i) (b i) bits).x)).setCell ⟨g2, i * 3, none⟩ (.bool x.b)).setCell ⟨g2, i * 3 + 1, none⟩ (.slice x.A x.n x.c)).setCell ⟨g2, i * 3 + 2, none⟩ (.int .i64 (halfO (a i) (b i) bits).x)) := (hS1 _).2 ⟨(Below.cell (p := ⟨A1, o1 + i * 3, none⟩) (below_put3 (below_put3 HB_115.out (by omega) i (.bool m.b) (.slice m.A m.n m.c) (.int .i64 (halfM (a i) (b i) bits).x)) (by omega) i (.bool x.b) (.slice x.A x.n x.c) (.int .i64 (halfO (a i) (b i) bits).x)) hl1).trans X0.out, (Below.cell (p := ⟨A1, o1 + i * 3 + 1, none⟩) (below_put3 (below_put3 HB_115.out (by omega) i (.bool m.b) (.slice m.A m.n m.c) (.int .i64 (halfM (a i) (b i) bits).x)) (by omega) i (.bool x.b) (.slice x.A x.n x.c) (.int .i64 (halfO (a i) (b i) bits).x)) hl1).trans X1.out, (Below.cell (p := ⟨A1, o1 + i * 3 + 2, none⟩) (below_put3 (below_put3 HB_115.out (by omega) i (.bool m.b) (.slice m.A m.n m.c) (.int .i64 (halfM (a i) (b i) bits).x)) (by omega) i (.bool x.b) (.slice x.A x.n x.c) (.int .i64 (halfO (a i) (b i) bits).x)) hl1).trans X2.out, ((By_112.out.ne3 (by omega) i (.bool m.b) (.slice m.A m.n m.c) (.int .i64 (halfM (a i) (b i) bits).x)).ne3 (by omega) i (.bool x.b) (.slice x.A x.n x.c) (.int .i64 (halfO (a i) (b i) bits).x)).cell 0 rfl, ((By_112.out.ne3 (by omega) i (.bool m.b) (.slice m.A m.n m.c) (.int .i64 (halfM (a i) (b i) bits).x)).ne3 (by omega) i (.bool x.b) (.slice x.A x.n x.c) (.int .i64 (halfO (a i) (b i) bits).x)).cell 1 rfl, ((By_112.out.ne3 (by omega) i (.bool m.b) (.slice m.A m.n m.c) (.int .i64 (halfM (a i) (b i) bits).x)).ne3 (by omega) i (.bool x.b) (.slice x.A x.n x.c) (.int .i64 (halfO (a i) (b i) bits).x)).cell 2 rfl⟩; clear y0 y1 y2 y3))
        go_wp2
        go_roundw
        case rel => exact ⟨i + 1, by go_num, hi2, Lib.hid ⟨OD.next (F := (fun j => halfM (a j) (b j) bits)) ((Ox_113.out.put hi2 m (halfM (a i) (b i) bits) RM_118.out).1.rp3 (by have := By_112.out.lt; have := Ox_113.out.lt; have := Ov_114.out.lt; have := HB_115.out.size; omega) i (.bool x.b) (.slice x.A x.n x.c) (.int .i64 (halfO (a i) (b i) bits).x) ((Ov_114.out.rp3 (by have := By_112.out.lt; have := Ox_113.out.lt; have := Ov_114.out.lt; have := HB_115.out.size; omega) i (.bool m.b) (.slice m.A m.n m.c) (.int .i64 (halfM (a i) (b i) bits).x) (Ox_113.out.put hi2 m (halfM (a i) (b i) bits) RM_118.out).2).put hi2 x (halfO (a i) (b i) bits) (RO_119.out.dk (Dk.trans (Dk.refl _) (Ox_113.out.put hi2 m (halfM (a i) (b i) bits) RM_118.out).2))).2), OD.next (F := (fun j => halfO (a j) (b j) bits)) ((Ov_114.out.rp3 (by have := By_112.out.lt; have := Ox_113.out.lt; have := Ov_114.out.lt; have := HB_115.out.size; omega) i (.bool m.b) (.slice m.A m.n m.c) (.int .i64 (halfM (a i) (b i) bits).x) (Ox_113.out.put hi2 m (halfM (a i) (b i) bits) RM_118.out).2).put hi2 x (halfO (a i) (b i) bits) (RO_119.out.dk (Dk.trans (Dk.refl _) (Ox_113.out.put hi2 m (halfM (a i) (b i) bits) RM_118.out).2))).1, (below_put3 (below_put3 HB_115.out (by have := HB_115.out.size; omega) i (.bool m.b) (.slice m.A m.n m.c) (.int .i64 (halfM (a i) (b i) bits).x)) (by have := HB_115.out.size; omega) i (.bool x.b) (.slice x.A x.n x.c) (.int .i64 (halfO (a i) (b i) bits).x))⟩⟩
        case measure => simp only [intOf]; omega
      · obtain rfl : i = n := by omega
        obtain ⟨hx, hv, hbel⟩ := Hr.out
        have OX := Lib.hid hx
        have OV := Lib.hid hv
        have HB_0 := Lib.hid hbel
        clear hx hv hbel Hr
        clear hi2
        go_wp2
        go_ret3
        exact ⟨⟨g1, g2, rfl, hg1, hg2, OX.out.done (F := (fun j => halfM (a j) (b j) bits)), OV.out.done (F := (fun j => halfO (a j) (b j) bits))⟩, HB_0.out⟩

set_option maxRecDepth 100000 in
set_option maxHeartbeats 4000000 in
theorem halves_turn (w : World) (A B : Option Addr) (n c d : Nat) (a b : Nat → D) (bits : Nat) (E T : Nat) (h : RDs w A n c a) (h2 : RDs w B n d b) (la : ∀ i, i < n → (a i).Lim E T) (lb : ∀ i, i < n → (b i).Lim E T) (hET : E + T + 4 ≤ 16000) (hb2 : 2 ≤ bits) (hb3 : bits ≤ 4096) (ht : BTab w) :
    Calls Tryd.prog 86 #[.slice A n c, .slice B n d, .bool true, .int .i64 bits] w fun e w' => (∃ g1 g2 : Nat, e = .returned (.tuple #[.slice (some ⟨g1, 0, none⟩) n n, .slice (some ⟨g2, 0, none⟩) n n, .int .i64 0]) ∧ w.heap.size ≤ g1 ∧ w.heap.size ≤ g2 ∧ OD w' g1 n (fun j => halfM (a j) (b j).neg bits) ∧ OD w' g2 n (fun j => halfO (a j) (b j).neg bits)) ∧ Below w.heap.size w w' := by
  have HA := Lib.hid h
  have HB := Lib.hid h2
  have LA := Lib.hid la
  have LB := Lib.hid lb
  have HT := Lib.hid ht
  have n0 := h.2.1
  clear h h2 la lb ht
  have hmk := fun W => make_D n n0 W
  go_enter Tryd.func86, Tryd.ntmps86
  go_upto_region 1 with (fail)
  go_cut [11, 12] (fun s11 s12 wx => ∃ g1 g2 : Nat, s11 = .slice (some ⟨g1, 0, none⟩) n n ∧ s12 = .slice (some ⟨g2, 0, none⟩) n n ∧ g1 ≠ g2 ∧ w.heap.size ≤ g1 ∧ w.heap.size ≤ g2 ∧ OD wx g1 n (fun _ => D.zero) ∧ OD wx g2 n (fun _ => D.zero) ∧ Below w.heap.size w wx)
  case first =>
    go_region
    all_goals (go_wp2_with fail; go_meet; first | exact ⟨w.heap.size, w.heap.size + 1, rfl, rfl, by omega, by omega, by omega, ((OD.made w n).al _).dr, (OD.made1 w _ n).dr, below_dr (below_al (below_al (Below.refl _ w) _) _)⟩ | exact ⟨w.heap.size + 1, w.heap.size, rfl, rfl, by omega, by omega, by omega, (OD.made1 w _ n).dr, ((OD.made w n).al _).dr, below_dr (below_al (below_al (Below.refl _ w) _) _)⟩)
  case rest =>
    obtain ⟨w0, rfl⟩ : ∃ x, x = wc := ⟨_, rfl⟩
    obtain ⟨g1, g2, rfl, rfl, hne, hg1, hg2, ho1, ho2, hbel⟩ := hcut
    have H0 := Lib.hid (show HalvesRel (fun j => halfM (a j) (b j).neg bits) (fun j => halfO (a j) (b j).neg bits) n g1 g2 w 0 w0 from ⟨OD.start ho1, OD.start ho2, hbel⟩)
    clear hmk ho1 ho2 hbel
    go_wp2_with fail
    go_loopw [24] (fun k wr => ∃ i : Nat, k = .int .i64 i ∧ i ≤ n ∧ Hid (HalvesRel (fun j => halfM (a j) (b j).neg bits) (fun j => halfO (a j) (b j).neg bits) n g1 g2 w i wr)) (fun k _ => n - (intOf k).toNat)
    case atStart => exact ⟨0, rfl, Nat.zero_le _, H0⟩
    case round =>
      clear H0
      obtain ⟨i, rfl, hi, Hr⟩ := hrel
      by_cases hi2 : i < n
      · have q3 : (i : Int) < (n : Int) := by omega
        obtain ⟨hx, hv, hbel⟩ := Hr.out
        have OX := Lib.hid hx
        have OV := Lib.hid hv
        have HB_0 := Lib.hid hbel
        clear hx hv hbel Hr
        obtain ⟨A1, o1, rfl, hl1, hcc⟩ := HA.out.2.2 (by omega)
        obtain ⟨q, z0, z1, z2, hq⟩ := hcc i hi2
        obtain ⟨A2, o2, rfl, hl2, hc2⟩ := HB.out.2.2 (by omega)
        obtain ⟨t, y0, y1, y2, ht⟩ := hc2 i hi2
        have X0 := Lib.hid z0
        have Y0 := Lib.hid y0
        have X1 := Lib.hid z1
        have Y1 := Lib.hid y1
        have X2 := Lib.hid z2
        have Y2 := Lib.hid y2
        have RQ := Lib.hid (hq.below HB_0.out)
        have RT := Lib.hid (ht.below HB_0.out)
        clear hcc z0 z1 z2 hq hc2 y0 y1 y2 ht
        have La := Lib.hid (LA.out i hi2)
        have Lb := Lib.hid (LB.out i hi2)
        have cr10 : wr.cell? ⟨A1, o1 + i * 3, none⟩ = some (.bool q.b) := (HB_0.out.cell (p := ⟨A1, o1 + i * 3, none⟩) hl1).trans X0.out
        have cr11 : wr.cell? ⟨A1, o1 + i * 3 + 1, none⟩ = some (.slice q.A q.n q.c) := (HB_0.out.cell (p := ⟨A1, o1 + i * 3 + 1, none⟩) hl1).trans X1.out
        have cr12 : wr.cell? ⟨A1, o1 + i * 3 + 2, none⟩ = some (.int .i64 (a i).x) := (HB_0.out.cell (p := ⟨A1, o1 + i * 3 + 2, none⟩) hl1).trans X2.out
        have cr20 : wr.cell? ⟨A2, o2 + i * 3, none⟩ = some (.bool t.b) := (HB_0.out.cell (p := ⟨A2, o2 + i * 3, none⟩) hl2).trans Y0.out
        have cr21 : wr.cell? ⟨A2, o2 + i * 3 + 1, none⟩ = some (.slice t.A t.n t.c) := (HB_0.out.cell (p := ⟨A2, o2 + i * 3 + 1, none⟩) hl2).trans Y1.out
        have cr22 : wr.cell? ⟨A2, o2 + i * 3 + 2, none⟩ = some (.int .i64 (b i).x) := (HB_0.out.cell (p := ⟨A2, o2 + i * 3 + 2, none⟩) hl2).trans Y2.out
        have n_101 := OX.out.lt
        have n_102 := OV.out.lt
        have nb0 : nb (b i).z.natAbs ≤ 16384 := by have := Lb.out.nb; omega
        go_wp2_with fail
        refine (dneg_q _ t (b i) (RT.out.dk ((Dk.refl _).alloc _)) nb0).mono ?_
        rintro e w1 ⟨⟨s, rfl, hs⟩, hb⟩
        clear cr10 cr11 cr12 cr20 cr21 cr22
        have K := Dk.trans ((Dk.refl _).alloc _) (.below hb)
        have By_103 := Lib.hid (show Bk _ _ _ #[.bool t.b, .slice t.A t.n t.c, .int .i64 (b i).x] from (Bk.new _ 53 #[.bool t.b, .slice t.A t.n t.c, .int .i64 (b i).x]).below hb)
        have Ox_104 := Lib.hid (show OD _ (g1) n (fun j => if j < i then (fun j => halfM (a j) (b j).neg bits) j else D.zero) from (OX.out.al _).below hb)
        have Ov_105 := Lib.hid (show OD _ (g2) n (fun j => if j < i then (fun j => halfO (a j) (b j).neg bits) j else D.zero) from (OV.out.al _).below hb)
        have HB_106 := Lib.hid (below_tr (below_al HB_0.out _) hb)
        clear hb
        have RQ_107 := Lib.hid (RQ.out.dk K)
        have RT_108 := Lib.hid (RT.out.dk K)
        clear K OX OV HB_0 RQ RT
        have RY_109 := Lib.hid hs
        clear hs
        have ly := By_103.out.lt
        obtain ⟨cy0, cy1, cy2⟩ := By_103.out.cells3
        have fy0 := By_103.out.free 0
        have fy1 := By_103.out.free 1
        have fy2 := By_103.out.free 2
        have cr10 : w1.cell? ⟨A1, o1 + i * 3, none⟩ = some (.bool q.b) := (HB_106.out.cell (p := ⟨A1, o1 + i * 3, none⟩) hl1).trans X0.out
        have cr11 : w1.cell? ⟨A1, o1 + i * 3 + 1, none⟩ = some (.slice q.A q.n q.c) := (HB_106.out.cell (p := ⟨A1, o1 + i * 3 + 1, none⟩) hl1).trans X1.out
        have cr12 : w1.cell? ⟨A1, o1 + i * 3 + 2, none⟩ = some (.int .i64 (a i).x) := (HB_106.out.cell (p := ⟨A1, o1 + i * 3 + 2, none⟩) hl1).trans X2.out
        have cr20 : w1.cell? ⟨A2, o2 + i * 3, none⟩ = some (.bool t.b) := (HB_106.out.cell (p := ⟨A2, o2 + i * 3, none⟩) hl2).trans Y0.out
        have cr21 : w1.cell? ⟨A2, o2 + i * 3 + 1, none⟩ = some (.slice t.A t.n t.c) := (HB_106.out.cell (p := ⟨A2, o2 + i * 3 + 1, none⟩) hl2).trans Y1.out
        have cr22 : w1.cell? ⟨A2, o2 + i * 3 + 2, none⟩ = some (.int .i64 (b i).x) := (HB_106.out.cell (p := ⟨A2, o2 + i * 3 + 2, none⟩) hl2).trans Y2.out
        go_upto_region 9 with (fail)
        clear ly cy0 cy1 cy2 fy0 fy1 fy2 cr10 cr11 cr12 cr20 cr21 cr22
        have K : Dk w1 (((w1.setCell ⟨wr.heap.size, 0, none⟩ (.bool s.b)).setCell ⟨wr.heap.size, 1, none⟩ (.slice s.A s.n s.c)).setCell ⟨wr.heap.size, 2, none⟩ (.int .i64 (b i).x)) := ((((Dk.refl _).set (cs := #[.bool t.b, .slice t.A t.n t.c, .int .i64 (b i).x]) By_103.out 0 (by intro _ hh; cases hh) (.bool s.b)).set (cs := #[.bool s.b, .slice t.A t.n t.c, .int .i64 (b i).x]) (By_103.out.set 0 (.bool s.b)) 1 (by intro _ hh; cases hh) (.slice s.A s.n s.c)).set (cs := #[.bool s.b, .slice s.A s.n s.c, .int .i64 (b i).x]) ((By_103.out.set 0 (.bool s.b)).set 1 (.slice s.A s.n s.c)) 2 (by intro _ hh; cases hh) (.int .i64 (b i).x))
        have By_110 := Lib.hid (show Bk (((w1.setCell ⟨wr.heap.size, 0, none⟩ (.bool s.b)).setCell ⟨wr.heap.size, 1, none⟩ (.slice s.A s.n s.c)).setCell ⟨wr.heap.size, 2, none⟩ (.int .i64 (b i).x)) (wr.heap.size) 53 #[.bool s.b, .slice s.A s.n s.c, .int .i64 (b i).x] from (((By_103.out.set 0 (.bool s.b)).set 1 (.slice s.A s.n s.c)).set 2 (.int .i64 (b i).x)))
        have y0 := By_103.out.lt; have y1 := Ox_104.out.lt; have y2 := Ov_105.out.lt; have y3 := HB_106.out.size; have Ox_111 := Lib.hid (show OD (((w1.setCell ⟨wr.heap.size, 0, none⟩ (.bool s.b)).setCell ⟨wr.heap.size, 1, none⟩ (.slice s.A s.n s.c)).setCell ⟨wr.heap.size, 2, none⟩ (.int .i64 (b i).x)) (g1) n (fun j => if j < i then (fun j => halfM (a j) (b j).neg bits) j else D.zero) from (((Ox_104.out.st (cs := #[.bool t.b, .slice t.A t.n t.c, .int .i64 (b i).x]) By_103.out (by omega) 0 (by intro _ hh; cases hh) (.bool s.b)).st (cs := #[.bool s.b, .slice t.A t.n t.c, .int .i64 (b i).x]) (By_103.out.set 0 (.bool s.b)) (by omega) 1 (by intro _ hh; cases hh) (.slice s.A s.n s.c)).st (cs := #[.bool s.b, .slice s.A s.n s.c, .int .i64 (b i).x]) ((By_103.out.set 0 (.bool s.b)).set 1 (.slice s.A s.n s.c)) (by omega) 2 (by intro _ hh; cases hh) (.int .i64 (b i).x))); clear y0 y1 y2 y3
        have y0 := By_103.out.lt; have y1 := Ox_104.out.lt; have y2 := Ov_105.out.lt; have y3 := HB_106.out.size; have Ov_112 := Lib.hid (show OD (((w1.setCell ⟨wr.heap.size, 0, none⟩ (.bool s.b)).setCell ⟨wr.heap.size, 1, none⟩ (.slice s.A s.n s.c)).setCell ⟨wr.heap.size, 2, none⟩ (.int .i64 (b i).x)) (g2) n (fun j => if j < i then (fun j => halfO (a j) (b j).neg bits) j else D.zero) from (((Ov_105.out.st (cs := #[.bool t.b, .slice t.A t.n t.c, .int .i64 (b i).x]) By_103.out (by omega) 0 (by intro _ hh; cases hh) (.bool s.b)).st (cs := #[.bool s.b, .slice t.A t.n t.c, .int .i64 (b i).x]) (By_103.out.set 0 (.bool s.b)) (by omega) 1 (by intro _ hh; cases hh) (.slice s.A s.n s.c)).st (cs := #[.bool s.b, .slice s.A s.n s.c, .int .i64 (b i).x]) ((By_103.out.set 0 (.bool s.b)).set 1 (.slice s.A s.n s.c)) (by omega) 2 (by intro _ hh; cases hh) (.int .i64 (b i).x))); clear y0 y1 y2 y3
        have y0 := HB_106.out.size; have HB_113 := Lib.hid (show Below w.heap.size w (((w1.setCell ⟨wr.heap.size, 0, none⟩ (.bool s.b)).setCell ⟨wr.heap.size, 1, none⟩ (.slice s.A s.n s.c)).setCell ⟨wr.heap.size, 2, none⟩ (.int .i64 (b i).x)) from (below_st (below_st (below_st HB_106.out 0 (by omega) (.bool s.b)) 1 (by omega) (.slice s.A s.n s.c)) 2 (by omega) (.int .i64 (b i).x))); clear y0
        have RQ_114 := Lib.hid (RQ_107.out.dk K)
        have RT_115 := Lib.hid (RT_108.out.dk K)
        have RY_116 := Lib.hid (RY_109.out.dk K)
        clear K By_103 Ox_104 Ov_105 HB_106 RQ_107 RT_108 RY_109
        generalize ((w1.setCell ⟨wr.heap.size, 0, none⟩ (.bool s.b)).setCell ⟨wr.heap.size, 1, none⟩ (.slice s.A s.n s.c)).setCell ⟨wr.heap.size, 2, none⟩ (.int .i64 (b i).x) = w2 at *
        have ly := By_110.out.lt
        obtain ⟨cy0, cy1, cy2⟩ := By_110.out.cells3
        have cr10 : w2.cell? ⟨A1, o1 + i * 3, none⟩ = some (.bool q.b) := (HB_113.out.cell (p := ⟨A1, o1 + i * 3, none⟩) hl1).trans X0.out
        have cr11 : w2.cell? ⟨A1, o1 + i * 3 + 1, none⟩ = some (.slice q.A q.n q.c) := (HB_113.out.cell (p := ⟨A1, o1 + i * 3 + 1, none⟩) hl1).trans X1.out
        have cr12 : w2.cell? ⟨A1, o1 + i * 3 + 2, none⟩ = some (.int .i64 (a i).x) := (HB_113.out.cell (p := ⟨A1, o1 + i * 3 + 2, none⟩) hl1).trans X2.out
        have cr20 : w2.cell? ⟨A2, o2 + i * 3, none⟩ = some (.bool t.b) := (HB_113.out.cell (p := ⟨A2, o2 + i * 3, none⟩) hl2).trans Y0.out
        have cr21 : w2.cell? ⟨A2, o2 + i * 3 + 1, none⟩ = some (.slice t.A t.n t.c) := (HB_113.out.cell (p := ⟨A2, o2 + i * 3 + 1, none⟩) hl2).trans Y1.out
        have cr22 : w2.cell? ⟨A2, o2 + i * 3 + 2, none⟩ = some (.int .i64 (b i).x) := (HB_113.out.cell (p := ⟨A2, o2 + i * 3 + 2, none⟩) hl2).trans Y2.out
        obtain ⟨⟨_, px0⟩, ⟨_, px1⟩, ⟨_, px2⟩, rx0, rx1, rx2⟩ := Ox_111.out.there hi2
        have lx := Ox_111.out.lt
        obtain ⟨⟨_, pv0⟩, ⟨_, pv1⟩, ⟨_, pv2⟩, rv0, rv1, rv2⟩ := Ov_112.out.there hi2
        have lv := Ov_112.out.lt
        go_wp2_with fail
        obtain ⟨SX1, hS1⟩ : ∃ S : World → Prop, ∀ w', S w' ↔ (w'.cell? ⟨A1, o1 + i * 3, none⟩ = some (.bool q.b) ∧ w'.cell? ⟨A1, o1 + i * 3 + 1, none⟩ = some (.slice q.A q.n q.c) ∧ w'.cell? ⟨A1, o1 + i * 3 + 2, none⟩ = some (.int .i64 (a i).x) ∧ w'.cell? ⟨wr.heap.size, 0, none⟩ = some (.bool s.b) ∧ w'.cell? ⟨wr.heap.size, 1, none⟩ = some (.slice s.A s.n s.c) ∧ w'.cell? ⟨wr.heap.size, 2, none⟩ = some (.int .i64 (b i).x)) := ⟨_, fun _ => Iff.rfl⟩
        have k_117 : SX1 (w2) := (hS1 _).2 ⟨(Below.cell (p := ⟨A1, o1 + i * 3, none⟩) HB_113.out hl1).trans X0.out, (Below.cell (p := ⟨A1, o1 + i * 3 + 1, none⟩) HB_113.out hl1).trans X1.out, (Below.cell (p := ⟨A1, o1 + i * 3 + 2, none⟩) HB_113.out hl1).trans X2.out, By_110.out.cell 0 rfl, By_110.out.cell 1 rfl, By_110.out.cell 2 rfl⟩
        have k_118 : SX1 (w2.drew) := (hS1 _).2 ⟨(Below.cell (p := ⟨A1, o1 + i * 3, none⟩) (below_dr HB_113.out) hl1).trans X0.out, (Below.cell (p := ⟨A1, o1 + i * 3 + 1, none⟩) (below_dr HB_113.out) hl1).trans X1.out, (Below.cell (p := ⟨A1, o1 + i * 3 + 2, none⟩) (below_dr HB_113.out) hl1).trans X2.out, (By_110.out.drew).cell 0 rfl, (By_110.out.drew).cell 1 rfl, (By_110.out.drew).cell 2 rfl⟩
        have tok_119 : True := trivial
        go_region_held3 (fun w' => w'.cell? ⟨A1, o1 + i * 3, none⟩ = some (.bool q.b) ∧ w'.cell? ⟨A1, o1 + i * 3 + 1, none⟩ = some (.slice q.A q.n q.c) ∧ w'.cell? ⟨A1, o1 + i * 3 + 2, none⟩ = some (.int .i64 (a i).x) ∧ w'.cell? ⟨wr.heap.size, 0, none⟩ = some (.bool s.b) ∧ w'.cell? ⟨wr.heap.size, 1, none⟩ = some (.slice s.A s.n s.c) ∧ w'.cell? ⟨wr.heap.size, 2, none⟩ = some (.int .i64 (b i).x)) (first | with_reducible exact (hS1 _).1 k_117 | with_reducible exact (hS1 _).1 k_118 | with_reducible exact (hS1 _).1 k_129 | with_reducible exact (hS1 _).1 k_130 | with_reducible exact (hS1 _).1 k_131)
          (first
           | (have _ := tok_119; go_at_call 144; clear tok_119; refine (half_any _ q s (a i) (b i).neg bits E T (RQ_114.out.dk ((Dk.refl _).drew)) (RY_116.out.dk ((Dk.refl _).drew)) La.out (neg_lim Lb.out) hET hb2 hb3 (HT.out.below (below_dr HB_113.out))).mono ?_; rintro e w3 ⟨⟨m, x, rfl, hm, hx⟩, hb⟩; clear ly cy0 cy1 cy2 cr10 cr11 cr12 cr20 cr21 cr22 px0 px1 px2 rx0 rx1 rx2 lx pv0 pv1 pv2 rv0 rv1 rv2 lv k_117 k_118; have K := Dk.trans ((Dk.refl _).drew) (.below hb); have By_120 := Lib.hid (show Bk _ _ _ #[.bool s.b, .slice s.A s.n s.c, .int .i64 (b i).x] from (By_110.out.drew).below hb); have Ox_121 := Lib.hid (show OD _ (g1) n (fun j => if j < i then (fun j => halfM (a j) (b j).neg bits) j else D.zero) from (Ox_111.out.dr).below hb); have Ov_122 := Lib.hid (show OD _ (g2) n (fun j => if j < i then (fun j => halfO (a j) (b j).neg bits) j else D.zero) from (Ov_112.out.dr).below hb); have HB_123 := Lib.hid (below_tr (below_dr HB_113.out) hb); clear hb; have RQ_124 := Lib.hid (RQ_114.out.dk K); have RT_125 := Lib.hid (RT_115.out.dk K); have RY_126 := Lib.hid (RY_116.out.dk K); clear K By_110 Ox_111 Ov_112 HB_113 RQ_114 RT_115 RY_116; have RM_127 := Lib.hid hm; clear hm; have RO_128 := Lib.hid hx; clear hx; have ly := By_120.out.lt; obtain ⟨cy0, cy1, cy2⟩ := By_120.out.cells3; have cr10 : w3.cell? ⟨A1, o1 + i * 3, none⟩ = some (.bool q.b) := (HB_123.out.cell (p := ⟨A1, o1 + i * 3, none⟩) hl1).trans X0.out; have cr11 : w3.cell? ⟨A1, o1 + i * 3 + 1, none⟩ = some (.slice q.A q.n q.c) := (HB_123.out.cell (p := ⟨A1, o1 + i * 3 + 1, none⟩) hl1).trans X1.out; have cr12 : w3.cell? ⟨A1, o1 + i * 3 + 2, none⟩ = some (.int .i64 (a i).x) := (HB_123.out.cell (p := ⟨A1, o1 + i * 3 + 2, none⟩) hl1).trans X2.out; have cr20 : w3.cell? ⟨A2, o2 + i * 3, none⟩ = some (.bool t.b) := (HB_123.out.cell (p := ⟨A2, o2 + i * 3, none⟩) hl2).trans Y0.out; have cr21 : w3.cell? ⟨A2, o2 + i * 3 + 1, none⟩ = some (.slice t.A t.n t.c) := (HB_123.out.cell (p := ⟨A2, o2 + i * 3 + 1, none⟩) hl2).trans Y1.out; have cr22 : w3.cell? ⟨A2, o2 + i * 3 + 2, none⟩ = some (.int .i64 (b i).x) := (HB_123.out.cell (p := ⟨A2, o2 + i * 3 + 2, none⟩) hl2).trans Y2.out; obtain ⟨⟨_, px0⟩, ⟨_, px1⟩, ⟨_, px2⟩, rx0, rx1, rx2⟩ := Ox_121.out.there hi2; have lx := Ox_121.out.lt; obtain ⟨⟨_, pv0⟩, ⟨_, pv1⟩, ⟨_, pv2⟩, rv0, rv1, rv2⟩ := Ov_122.out.there hi2; have lv := Ov_122.out.lt; have k_129 : SX1 (w3) := (hS1 _).2 ⟨(Below.cell (p := ⟨A1, o1 + i * 3, none⟩) HB_123.out hl1).trans X0.out, (Below.cell (p := ⟨A1, o1 + i * 3 + 1, none⟩) HB_123.out hl1).trans X1.out, (Below.cell (p := ⟨A1, o1 + i * 3 + 2, none⟩) HB_123.out hl1).trans X2.out, By_120.out.cell 0 rfl, By_120.out.cell 1 rfl, By_120.out.cell 2 rfl⟩; have y0 := HB_123.out.size; have y1 := By_120.out.lt; have y2 := Ox_121.out.lt; have y3 := Ov_122.out.lt; have k_130 : SX1 (((w3.setCell ⟨g1, i * 3, none⟩ (.bool m.b)).setCell ⟨g1, i * 3 + 1, none⟩ (.slice m.A m.n m.c)).setCell ⟨g1, i * 3 + 2, none⟩ (.int .i64 (halfM (a i) (b i).neg bits).x)) := (hS1 _).2 ⟨(Below.cell (p := ⟨A1, o1 + i * 3, none⟩) (below_put3 HB_123.out (by omega) i (.bool m.b) (.slice m.A m.n m.c) (.int .i64 (halfM (a i) (b i).neg bits).x)) hl1).trans X0.out, (Below.cell (p := ⟨A1, o1 + i * 3 + 1, none⟩) (below_put3 HB_123.out (by omega) i (.bool m.b) (.slice m.A m.n m.c) (.int .i64 (halfM (a i) (b i).neg bits).x)) hl1).trans X1.out, (Below.cell (p := ⟨A1, o1 + i * 3 + 2, none⟩) (below_put3 HB_123.out (by omega) i (.bool m.b) (.slice m.A m.n m.c) (.int .i64 (halfM (a i) (b i).neg bits).x)) hl1).trans X2.out, (By_120.out.ne3 (by omega) i (.bool m.b) (.slice m.A m.n m.c) (.int .i64 (halfM (a i) (b i).neg bits).x)).cell 0 rfl, (By_120.out.ne3 (by omega) i (.bool m.b) (.slice m.A m.n m.c) (.int .i64 (halfM (a i) (b i).neg bits).x)).cell 1 rfl, (By_120.out.ne3 (by omega) i (.bool m.b) (.slice m.A m.n m.c) (.int .i64 (halfM (a i) (b i).neg bits).x)).cell 2 rfl⟩; clear y0 y1 y2 y3; have y0 := HB_123.out.size; have y1 := By_120.out.lt; have y2 := Ox_121.out.lt; have y3 := Ov_122.out.lt; have k_131 : SX1 ((((((w3.setCell ⟨g1, i * 3, none⟩ (.bool m.b)).setCell ⟨g1, i * 3 + 1, none⟩ (.slice m.A m.n m.c)).setCell ⟨g1, i * 3 + 2, none⟩ (.int .i64 (halfM (a i) (b i).neg bits).x)).setCell ⟨g2, i * 3, none⟩ (.bool x.b)).setCell ⟨g2, i * 3 + 1, none⟩ (.slice x.A x.n x.c)).setCell ⟨g2, i * 3 + 2, none⟩ (.int .i64 (halfO (a i) (b i).neg bits).x)) := (hS1 _).2 ⟨(Below.cell (p := ⟨A1, o1 + i * 3, none⟩) (below_put3 (below_put3 HB_123.out (by omega) i (.bool m.b) (.slice m.A m.n m.c) (.int .i64 (halfM (a i) (b i).neg bits).x)) (by omega) i (.bool x.b) (.slice x.A x.n x.c) (.int .i64 (halfO (a i) (b i).neg bits).x)) hl1).trans X0.out, (Below.cell (p := ⟨A1, o1 + i * 3 + 1, none⟩) (below_put3 (below_put3 HB_123.out (by omega) i (.bool m.b) (.slice m.A m.n m.c) (.int .i64 (halfM (a i) (b i).neg bits).x)) (by omega) i (.bool x.b) (.slice x.A x.n x.c) (.int .i64 (halfO (a i) (b i).neg bits).x)) hl1).trans X1.out, (Below.cell (p := ⟨A1, o1 + i * 3 + 2, none⟩) (below_put3 (below_put3 HB_123.out (by omega) i (.bool m.b) (.slice m.A m.n m.c) (.int .i64 (halfM (a i) (b i).neg bits).x)) (by omega) i (.bool x.b) (.slice x.A x.n x.c) (.int .i64 (halfO (a i) (b i).neg bits).x)) hl1).trans X2.out, ((By_120.out.ne3 (by omega) i (.bool m.b) (.slice m.A m.n m.c) (.int .i64 (halfM (a i) (b i).neg bits).x)).ne3 (by omega) i (.bool x.b) (.slice x.A x.n x.c) (.int .i64 (halfO (a i) (b i).neg bits).x)).cell 0 rfl, ((By_120.out.ne3 (by omega) i (.bool m.b) (.slice m.A m.n m.c) (.int .i64 (halfM (a i) (b i).neg bits).x)).ne3 (by omega) i (.bool x.b) (.slice x.A x.n x.c) (.int .i64 (halfO (a i) (b i).neg bits).x)).cell 1 rfl, ((By_120.out.ne3 (by omega) i (.bool m.b) (.slice m.A m.n m.c) (.int .i64 (halfM (a i) (b i).neg bits).x)).ne3 (by omega) i (.bool x.b) (.slice x.A x.n x.c) (.int .i64 (halfO (a i) (b i).neg bits).x)).cell 2 rfl⟩; clear y0 y1 y2 y3))
        go_wp2
        go_roundw
        case rel => exact ⟨i + 1, by go_num, hi2, Lib.hid ⟨OD.next (F := (fun j => halfM (a j) (b j).neg bits)) ((Ox_121.out.put hi2 m (halfM (a i) (b i).neg bits) RM_127.out).1.rp3 (by have := By_120.out.lt; have := Ox_121.out.lt; have := Ov_122.out.lt; have := HB_123.out.size; omega) i (.bool x.b) (.slice x.A x.n x.c) (.int .i64 (halfO (a i) (b i).neg bits).x) ((Ov_122.out.rp3 (by have := By_120.out.lt; have := Ox_121.out.lt; have := Ov_122.out.lt; have := HB_123.out.size; omega) i (.bool m.b) (.slice m.A m.n m.c) (.int .i64 (halfM (a i) (b i).neg bits).x) (Ox_121.out.put hi2 m (halfM (a i) (b i).neg bits) RM_127.out).2).put hi2 x (halfO (a i) (b i).neg bits) (RO_128.out.dk (Dk.trans (Dk.refl _) (Ox_121.out.put hi2 m (halfM (a i) (b i).neg bits) RM_127.out).2))).2), OD.next (F := (fun j => halfO (a j) (b j).neg bits)) ((Ov_122.out.rp3 (by have := By_120.out.lt; have := Ox_121.out.lt; have := Ov_122.out.lt; have := HB_123.out.size; omega) i (.bool m.b) (.slice m.A m.n m.c) (.int .i64 (halfM (a i) (b i).neg bits).x) (Ox_121.out.put hi2 m (halfM (a i) (b i).neg bits) RM_127.out).2).put hi2 x (halfO (a i) (b i).neg bits) (RO_128.out.dk (Dk.trans (Dk.refl _) (Ox_121.out.put hi2 m (halfM (a i) (b i).neg bits) RM_127.out).2))).1, (below_put3 (below_put3 HB_123.out (by have := HB_123.out.size; omega) i (.bool m.b) (.slice m.A m.n m.c) (.int .i64 (halfM (a i) (b i).neg bits).x)) (by have := HB_123.out.size; omega) i (.bool x.b) (.slice x.A x.n x.c) (.int .i64 (halfO (a i) (b i).neg bits).x))⟩⟩
        case measure => simp only [intOf]; omega
      · obtain rfl : i = n := by omega
        obtain ⟨hx, hv, hbel⟩ := Hr.out
        have OX := Lib.hid hx
        have OV := Lib.hid hv
        have HB_0 := Lib.hid hbel
        clear hx hv hbel Hr
        clear hi2
        go_wp2
        go_ret3
        exact ⟨⟨g1, g2, rfl, hg1, hg2, OX.out.done (F := (fun j => halfM (a j) (b j).neg bits)), OV.out.done (F := (fun j => halfO (a j) (b j).neg bits))⟩, HB_0.out⟩

end Go.Proofs.YtgioppkggpfnoaaDoor.Nu
end

section
/- The walk of join.more. -/
set_option linter.unusedVariables false
namespace Go.Proofs.YtgioppkggpfnoaaDoor.Nu
open Go.RowKit Go.Proofs

def MoreRel (a b : Nat → D) (bits n : Nat) (W : World) (i : Nat) (w : World) : Prop :=
  OD w W.heap.size n (fun j => if j < i then (fun j => mor (a j) (b j) bits) j else D.zero) ∧ Below W.heap.size W w

set_option maxRecDepth 100000 in
set_option maxHeartbeats 4000000 in
theorem more_any (w : World) (A B : Option Addr) (n c d : Nat) (a b : Nat → D) (bits : Nat) (E T : Nat) (h : RDs w A n c a) (h2 : RDs w B n d b) (la : ∀ i, i < n → (a i).Lim E T) (lb : ∀ i, i < n → (b i).Lim E T) (hET : E + T + 1 ≤ 16000) (hb2 : 2 ≤ bits) (hb3 : bits ≤ 4096) (ht : BTab w) :
    Calls Tryd.prog 88 #[.slice A n c, .slice B n d, .int .i64 bits] w fun e w' => (∃ g1 : Nat, e = .returned (.tuple #[.slice (some ⟨g1, 0, none⟩) n n, .int .i64 0]) ∧ w.heap.size ≤ g1 ∧ OD w' g1 n (fun j => mor (a j) (b j) bits)) ∧ Below w.heap.size w w' := by
  have HA := Lib.hid h
  have HB := Lib.hid h2
  have LA := Lib.hid la
  have LB := Lib.hid lb
  have HT := Lib.hid ht
  have n0 := h.2.1
  clear h h2 la lb ht
  have hmk := fun W => make_D n n0 W
  go_enter Tryd.func88, Tryd.ntmps88
  go_wp2_with fail
  have H0 := Lib.hid (show MoreRel a b bits n w 0 _ from ⟨OD.start (F := (fun j => mor (a j) (b j) bits)) (OD.made w n), below_al (Below.refl _ w) _⟩)
  clear hmk
  generalize w.alloc (.cells (mkD n) 53) = w0 at *
  go_loopw [17] (fun k wr => ∃ i : Nat, k = .int .i64 i ∧ i ≤ n ∧ Hid (MoreRel a b bits n w i wr)) (fun k _ => n - (intOf k).toNat)
  case atStart => exact ⟨0, rfl, Nat.zero_le _, H0⟩
  case round =>
    clear H0
    obtain ⟨i, rfl, hi, Hr⟩ := hrel
    by_cases hi2 : i < n
    · have q3 : (i : Int) < (n : Int) := by omega
      obtain ⟨hx, hbel⟩ := Hr.out
      have OX := Lib.hid hx
      have HB_0 := Lib.hid hbel
      clear hx hbel Hr
      obtain ⟨A1, o1, rfl, hl1, hcc⟩ := HA.out.2.2 (by omega)
      obtain ⟨q, z0, z1, z2, hq⟩ := hcc i hi2
      obtain ⟨A2, o2, rfl, hl2, hc2⟩ := HB.out.2.2 (by omega)
      obtain ⟨t, y0, y1, y2, ht⟩ := hc2 i hi2
      have X0 := Lib.hid z0
      have Y0 := Lib.hid y0
      have X1 := Lib.hid z1
      have Y1 := Lib.hid y1
      have X2 := Lib.hid z2
      have Y2 := Lib.hid y2
      have RQ := Lib.hid (hq.below HB_0.out)
      have RT := Lib.hid (ht.below HB_0.out)
      clear hcc z0 z1 z2 hq hc2 y0 y1 y2 ht
      have La := Lib.hid (pt_lim (LA.out i hi2))
      have Lb := Lib.hid (pt_lim (abs_lim (LB.out i hi2)))
      have nb0 : nb (b i).z.natAbs ≤ 16384 := by have := (LB.out i hi2).nb; omega
      go_upto_region 5 with (fail)
      have cr10 : wr.cell? ⟨A1, o1 + i * 3, none⟩ = some (.bool q.b) := (HB_0.out.cell (p := ⟨A1, o1 + i * 3, none⟩) hl1).trans X0.out
      have cr11 : wr.cell? ⟨A1, o1 + i * 3 + 1, none⟩ = some (.slice q.A q.n q.c) := (HB_0.out.cell (p := ⟨A1, o1 + i * 3 + 1, none⟩) hl1).trans X1.out
      have cr12 : wr.cell? ⟨A1, o1 + i * 3 + 2, none⟩ = some (.int .i64 (a i).x) := (HB_0.out.cell (p := ⟨A1, o1 + i * 3 + 2, none⟩) hl1).trans X2.out
      have cr20 : wr.cell? ⟨A2, o2 + i * 3, none⟩ = some (.bool t.b) := (HB_0.out.cell (p := ⟨A2, o2 + i * 3, none⟩) hl2).trans Y0.out
      have cr21 : wr.cell? ⟨A2, o2 + i * 3 + 1, none⟩ = some (.slice t.A t.n t.c) := (HB_0.out.cell (p := ⟨A2, o2 + i * 3 + 1, none⟩) hl2).trans Y1.out
      have cr22 : wr.cell? ⟨A2, o2 + i * 3 + 2, none⟩ = some (.int .i64 (b i).x) := (HB_0.out.cell (p := ⟨A2, o2 + i * 3 + 2, none⟩) hl2).trans Y2.out
      obtain ⟨⟨_, px0⟩, ⟨_, px1⟩, ⟨_, px2⟩, rx0, rx1, rx2⟩ := OX.out.there hi2
      have lx := OX.out.lt
      go_cut [10, 11] (fun s10 s11 wx => ∃ (g_101 : Nat) (p : SQ), s10 = .pointer (some ⟨g_101, 0, none⟩) ∧ s11 = .int .i64 0 ∧ w.heap.size < g_101 ∧ Bk wx g_101 62 #[.bool p.lo.b, .slice p.lo.A p.lo.n p.lo.c, .int .i64 (Sp.add (Sp.pt (a i)) (Sp.pt (b i).abs) bits).lo.x, .bool p.hi.b, .slice p.hi.A p.hi.n p.hi.c, .int .i64 (Sp.add (Sp.pt (a i)) (Sp.pt (b i).abs) bits).hi.x] ∧ OD wx (w.heap.size) n (fun j => if j < i then (fun j => mor (a j) (b j) bits) j else D.zero) ∧ Below w.heap.size w wx ∧ RS wx p (Sp.add (Sp.pt (a i)) (Sp.pt (b i).abs) bits))
      case first =>
        obtain ⟨SX1, hS1⟩ : ∃ S : World → Prop, ∀ w', S w' ↔ (w'.cell? ⟨A1, o1 + i * 3, none⟩ = some (.bool q.b) ∧ w'.cell? ⟨A1, o1 + i * 3 + 1, none⟩ = some (.slice q.A q.n q.c) ∧ w'.cell? ⟨A1, o1 + i * 3 + 2, none⟩ = some (.int .i64 (a i).x) ∧ w'.cell? ⟨A2, o2 + i * 3, none⟩ = some (.bool t.b) ∧ w'.cell? ⟨A2, o2 + i * 3 + 1, none⟩ = some (.slice t.A t.n t.c) ∧ w'.cell? ⟨A2, o2 + i * 3 + 2, none⟩ = some (.int .i64 (b i).x)) := ⟨_, fun _ => Iff.rfl⟩
        have k_102 : SX1 (wr) := (hS1 _).2 ⟨(Below.cell (p := ⟨A1, o1 + i * 3, none⟩) HB_0.out hl1).trans X0.out, (Below.cell (p := ⟨A1, o1 + i * 3 + 1, none⟩) HB_0.out hl1).trans X1.out, (Below.cell (p := ⟨A1, o1 + i * 3 + 2, none⟩) HB_0.out hl1).trans X2.out, (Below.cell (p := ⟨A2, o2 + i * 3, none⟩) HB_0.out hl2).trans Y0.out, (Below.cell (p := ⟨A2, o2 + i * 3 + 1, none⟩) HB_0.out hl2).trans Y1.out, (Below.cell (p := ⟨A2, o2 + i * 3 + 2, none⟩) HB_0.out hl2).trans Y2.out⟩
        have k_103 : SX1 (wr.drew) := (hS1 _).2 ⟨(Below.cell (p := ⟨A1, o1 + i * 3, none⟩) (below_dr HB_0.out) hl1).trans X0.out, (Below.cell (p := ⟨A1, o1 + i * 3 + 1, none⟩) (below_dr HB_0.out) hl1).trans X1.out, (Below.cell (p := ⟨A1, o1 + i * 3 + 2, none⟩) (below_dr HB_0.out) hl1).trans X2.out, (Below.cell (p := ⟨A2, o2 + i * 3, none⟩) (below_dr HB_0.out) hl2).trans Y0.out, (Below.cell (p := ⟨A2, o2 + i * 3 + 1, none⟩) (below_dr HB_0.out) hl2).trans Y1.out, (Below.cell (p := ⟨A2, o2 + i * 3 + 2, none⟩) (below_dr HB_0.out) hl2).trans Y2.out⟩
        have tok_104 : True := trivial
        have tok_105 : True := trivial
        have tok_106 : True := trivial
        have tok_107 : True := trivial
        have tok_108 : True := trivial
        have tok_109 : True := trivial
        have tok_110 : True := trivial
        have tok_111 : True := trivial
        have tok_112 : True := trivial
        have tok_113 : True := trivial
        have tok_114 : True := trivial
        have tok_115 : True := trivial
        have tok_116 : True := trivial
        have tok_117 : True := trivial
        have k_118 : SX1 ((wr.alloc (.cells #[.bool false, .slice none 0 0, .int .i64 0, .bool false, .slice none 0 0, .int .i64 0] 62)).drew) := (hS1 _).2 ⟨(Below.cell (p := ⟨A1, o1 + i * 3, none⟩) (below_dr (below_al HB_0.out _)) hl1).trans X0.out, (Below.cell (p := ⟨A1, o1 + i * 3 + 1, none⟩) (below_dr (below_al HB_0.out _)) hl1).trans X1.out, (Below.cell (p := ⟨A1, o1 + i * 3 + 2, none⟩) (below_dr (below_al HB_0.out _)) hl1).trans X2.out, (Below.cell (p := ⟨A2, o2 + i * 3, none⟩) (below_dr (below_al HB_0.out _)) hl2).trans Y0.out, (Below.cell (p := ⟨A2, o2 + i * 3 + 1, none⟩) (below_dr (below_al HB_0.out _)) hl2).trans Y1.out, (Below.cell (p := ⟨A2, o2 + i * 3 + 2, none⟩) (below_dr (below_al HB_0.out _)) hl2).trans Y2.out⟩
        go_region_held3 (fun w' => w'.cell? ⟨A1, o1 + i * 3, none⟩ = some (.bool q.b) ∧ w'.cell? ⟨A1, o1 + i * 3 + 1, none⟩ = some (.slice q.A q.n q.c) ∧ w'.cell? ⟨A1, o1 + i * 3 + 2, none⟩ = some (.int .i64 (a i).x) ∧ w'.cell? ⟨A2, o2 + i * 3, none⟩ = some (.bool t.b) ∧ w'.cell? ⟨A2, o2 + i * 3 + 1, none⟩ = some (.slice t.A t.n t.c) ∧ w'.cell? ⟨A2, o2 + i * 3 + 2, none⟩ = some (.int .i64 (b i).x)) (first | with_reducible exact (hS1 _).1 k_102 | with_reducible exact (hS1 _).1 k_103 | with_reducible exact (hS1 _).1 k_118 | with_reducible exact (hS1 _).1 k_125 | with_reducible exact (hS1 _).1 k_126 | with_reducible exact (hS1 _).1 k_136 | with_reducible exact (hS1 _).1 k_145 | with_reducible exact (hS1 _).1 k_146 | with_reducible exact (hS1 _).1 k_157 | with_reducible exact (hS1 _).1 k_167 | with_reducible exact (hS1 _).1 k_177 | with_reducible exact (hS1 _).1 k_178 | with_reducible exact (hS1 _).1 k_190 | with_reducible exact (hS1 _).1 k_201 | with_reducible exact (hS1 _).1 k_212 | with_reducible exact (hS1 _).1 k_223 | with_reducible exact (hS1 _).1 k_225 | with_reducible exact (hS1 _).1 k_226 | with_reducible exact (hS1 _).1 k_239 | with_reducible exact (hS1 _).1 k_240 | with_reducible exact (hS1 _).1 k_252 | with_reducible exact (hS1 _).1 k_253 | with_reducible exact (hS1 _).1 k_265 | with_reducible exact (hS1 _).1 k_266 | with_reducible exact (hS1 _).1 k_278 | with_reducible exact (hS1 _).1 k_279)
          (first
           | (have _ := tok_104; skip; go_at_call 59; clear tok_104; (with_reducible refine (spoint_any (wr.drew) q (a i) (RQ.out.dk ((Dk.refl _).drew))).mono ?_); rintro e w_119 ⟨⟨s, rfl, hs⟩, hb⟩; clear cr10 cr11 cr12 cr20 cr21 cr22 px0 px1 px2 rx0 rx1 rx2 lx k_102 k_103 k_118; have K := Dk.trans ((Dk.refl _).drew) (.below hb); have Ox_120 := Lib.hid (show OD _ (w.heap.size) n (fun j => if j < i then (fun j => mor (a j) (b j) bits) j else D.zero) from (OX.out.dr).below hb); have HB_121 := Lib.hid (below_tr (below_dr HB_0.out) hb); clear hb; have RQ_122 := Lib.hid (RQ.out.dk K); have RT_123 := Lib.hid (RT.out.dk K); clear K OX HB_0 RQ RT; have SS_124 := Lib.hid hs; clear hs; have cr10 : w_119.cell? ⟨A1, o1 + i * 3, none⟩ = some (.bool q.b) := (HB_121.out.cell (p := ⟨A1, o1 + i * 3, none⟩) hl1).trans X0.out; have cr11 : w_119.cell? ⟨A1, o1 + i * 3 + 1, none⟩ = some (.slice q.A q.n q.c) := (HB_121.out.cell (p := ⟨A1, o1 + i * 3 + 1, none⟩) hl1).trans X1.out; have cr12 : w_119.cell? ⟨A1, o1 + i * 3 + 2, none⟩ = some (.int .i64 (a i).x) := (HB_121.out.cell (p := ⟨A1, o1 + i * 3 + 2, none⟩) hl1).trans X2.out; have cr20 : w_119.cell? ⟨A2, o2 + i * 3, none⟩ = some (.bool t.b) := (HB_121.out.cell (p := ⟨A2, o2 + i * 3, none⟩) hl2).trans Y0.out; have cr21 : w_119.cell? ⟨A2, o2 + i * 3 + 1, none⟩ = some (.slice t.A t.n t.c) := (HB_121.out.cell (p := ⟨A2, o2 + i * 3 + 1, none⟩) hl2).trans Y1.out; have cr22 : w_119.cell? ⟨A2, o2 + i * 3 + 2, none⟩ = some (.int .i64 (b i).x) := (HB_121.out.cell (p := ⟨A2, o2 + i * 3 + 2, none⟩) hl2).trans Y2.out; obtain ⟨⟨_, px0⟩, ⟨_, px1⟩, ⟨_, px2⟩, rx0, rx1, rx2⟩ := Ox_120.out.there hi2; have lx := Ox_120.out.lt; have k_125 : SX1 (w_119) := (hS1 _).2 ⟨(Below.cell (p := ⟨A1, o1 + i * 3, none⟩) HB_121.out hl1).trans X0.out, (Below.cell (p := ⟨A1, o1 + i * 3 + 1, none⟩) HB_121.out hl1).trans X1.out, (Below.cell (p := ⟨A1, o1 + i * 3 + 2, none⟩) HB_121.out hl1).trans X2.out, (Below.cell (p := ⟨A2, o2 + i * 3, none⟩) HB_121.out hl2).trans Y0.out, (Below.cell (p := ⟨A2, o2 + i * 3 + 1, none⟩) HB_121.out hl2).trans Y1.out, (Below.cell (p := ⟨A2, o2 + i * 3 + 2, none⟩) HB_121.out hl2).trans Y2.out⟩; have k_126 : SX1 (w_119.alloc (.cells #[.bool false, .slice none 0 0, .int .i64 0, .bool false, .slice none 0 0, .int .i64 0] 62)) := (hS1 _).2 ⟨(Below.cell (p := ⟨A1, o1 + i * 3, none⟩) (below_al HB_121.out _) hl1).trans X0.out, (Below.cell (p := ⟨A1, o1 + i * 3 + 1, none⟩) (below_al HB_121.out _) hl1).trans X1.out, (Below.cell (p := ⟨A1, o1 + i * 3 + 2, none⟩) (below_al HB_121.out _) hl1).trans X2.out, (Below.cell (p := ⟨A2, o2 + i * 3, none⟩) (below_al HB_121.out _) hl2).trans Y0.out, (Below.cell (p := ⟨A2, o2 + i * 3 + 1, none⟩) (below_al HB_121.out _) hl2).trans Y1.out, (Below.cell (p := ⟨A2, o2 + i * 3 + 2, none⟩) (below_al HB_121.out _) hl2).trans Y2.out⟩)
           | (have _ := tok_108; have n_128 := OX.out.lt; skip; go_at_call 59; clear tok_108; (with_reducible refine (spoint_any ((wr.alloc (.cells #[.bool false, .slice none 0 0, .int .i64 0, .bool false, .slice none 0 0, .int .i64 0] 62)).drew) q (a i) (RQ.out.dk (((Dk.refl _).alloc _).drew))).mono ?_); rintro e w_129 ⟨⟨s, rfl, hs⟩, hb⟩; clear cr10 cr11 cr12 cr20 cr21 cr22 px0 px1 px2 rx0 rx1 rx2 lx k_102 k_103 k_118; have K := Dk.trans (((Dk.refl _).alloc _).drew) (.below hb); have Bs_130 := Lib.hid (show Bk _ _ _ #[.bool false, .slice none 0 0, .int .i64 0, .bool false, .slice none 0 0, .int .i64 0] from ((Bk.new _ 62 #[.bool false, .slice none 0 0, .int .i64 0, .bool false, .slice none 0 0, .int .i64 0]).drew).below hb); have Ox_131 := Lib.hid (show OD _ (w.heap.size) n (fun j => if j < i then (fun j => mor (a j) (b j) bits) j else D.zero) from ((OX.out.al _).dr).below hb); have HB_132 := Lib.hid (below_tr (below_dr (below_al HB_0.out _)) hb); clear hb; have RQ_133 := Lib.hid (RQ.out.dk K); have RT_134 := Lib.hid (RT.out.dk K); clear K OX HB_0 RQ RT; have SS_135 := Lib.hid hs; clear hs; have ls := Bs_130.out.lt; obtain ⟨cs0, cs1, cs2, cs3, cs4, cs5⟩ := Bs_130.out.cells6; have fs0 := Bs_130.out.free 0; have fs1 := Bs_130.out.free 1; have fs2 := Bs_130.out.free 2; have fs3 := Bs_130.out.free 3; have fs4 := Bs_130.out.free 4; have fs5 := Bs_130.out.free 5; have cr10 : w_129.cell? ⟨A1, o1 + i * 3, none⟩ = some (.bool q.b) := (HB_132.out.cell (p := ⟨A1, o1 + i * 3, none⟩) hl1).trans X0.out; have cr11 : w_129.cell? ⟨A1, o1 + i * 3 + 1, none⟩ = some (.slice q.A q.n q.c) := (HB_132.out.cell (p := ⟨A1, o1 + i * 3 + 1, none⟩) hl1).trans X1.out; have cr12 : w_129.cell? ⟨A1, o1 + i * 3 + 2, none⟩ = some (.int .i64 (a i).x) := (HB_132.out.cell (p := ⟨A1, o1 + i * 3 + 2, none⟩) hl1).trans X2.out; have cr20 : w_129.cell? ⟨A2, o2 + i * 3, none⟩ = some (.bool t.b) := (HB_132.out.cell (p := ⟨A2, o2 + i * 3, none⟩) hl2).trans Y0.out; have cr21 : w_129.cell? ⟨A2, o2 + i * 3 + 1, none⟩ = some (.slice t.A t.n t.c) := (HB_132.out.cell (p := ⟨A2, o2 + i * 3 + 1, none⟩) hl2).trans Y1.out; have cr22 : w_129.cell? ⟨A2, o2 + i * 3 + 2, none⟩ = some (.int .i64 (b i).x) := (HB_132.out.cell (p := ⟨A2, o2 + i * 3 + 2, none⟩) hl2).trans Y2.out; obtain ⟨⟨_, px0⟩, ⟨_, px1⟩, ⟨_, px2⟩, rx0, rx1, rx2⟩ := Ox_131.out.there hi2; have lx := Ox_131.out.lt; have k_136 : SX1 (w_129) := (hS1 _).2 ⟨(Below.cell (p := ⟨A1, o1 + i * 3, none⟩) HB_132.out hl1).trans X0.out, (Below.cell (p := ⟨A1, o1 + i * 3 + 1, none⟩) HB_132.out hl1).trans X1.out, (Below.cell (p := ⟨A1, o1 + i * 3 + 2, none⟩) HB_132.out hl1).trans X2.out, (Below.cell (p := ⟨A2, o2 + i * 3, none⟩) HB_132.out hl2).trans Y0.out, (Below.cell (p := ⟨A2, o2 + i * 3 + 1, none⟩) HB_132.out hl2).trans Y1.out, (Below.cell (p := ⟨A2, o2 + i * 3 + 2, none⟩) HB_132.out hl2).trans Y2.out⟩)
           | (have _ := tok_105; skip; go_at_call 146; clear tok_105; (with_reducible refine (dabs_any (w_119) t (b i) RT_123.out nb0).mono ?_); rintro e w_138 ⟨⟨m, rfl, hm⟩, hb⟩; clear cr10 cr11 cr12 cr20 cr21 cr22 px0 px1 px2 rx0 rx1 rx2 lx k_125 k_126; have K := Dk.below hb; have Ox_139 := Lib.hid (show OD _ (w.heap.size) n (fun j => if j < i then (fun j => mor (a j) (b j) bits) j else D.zero) from Ox_120.out.below hb); have HB_140 := Lib.hid (below_tr HB_121.out hb); clear hb; have RQ_141 := Lib.hid (RQ_122.out.dk K); have RT_142 := Lib.hid (RT_123.out.dk K); have SS_143 := Lib.hid (SS_124.out.dk K); clear K Ox_120 HB_121 RQ_122 RT_123 SS_124; have RM_144 := Lib.hid hm; clear hm; have cr10 : w_138.cell? ⟨A1, o1 + i * 3, none⟩ = some (.bool q.b) := (HB_140.out.cell (p := ⟨A1, o1 + i * 3, none⟩) hl1).trans X0.out; have cr11 : w_138.cell? ⟨A1, o1 + i * 3 + 1, none⟩ = some (.slice q.A q.n q.c) := (HB_140.out.cell (p := ⟨A1, o1 + i * 3 + 1, none⟩) hl1).trans X1.out; have cr12 : w_138.cell? ⟨A1, o1 + i * 3 + 2, none⟩ = some (.int .i64 (a i).x) := (HB_140.out.cell (p := ⟨A1, o1 + i * 3 + 2, none⟩) hl1).trans X2.out; have cr20 : w_138.cell? ⟨A2, o2 + i * 3, none⟩ = some (.bool t.b) := (HB_140.out.cell (p := ⟨A2, o2 + i * 3, none⟩) hl2).trans Y0.out; have cr21 : w_138.cell? ⟨A2, o2 + i * 3 + 1, none⟩ = some (.slice t.A t.n t.c) := (HB_140.out.cell (p := ⟨A2, o2 + i * 3 + 1, none⟩) hl2).trans Y1.out; have cr22 : w_138.cell? ⟨A2, o2 + i * 3 + 2, none⟩ = some (.int .i64 (b i).x) := (HB_140.out.cell (p := ⟨A2, o2 + i * 3 + 2, none⟩) hl2).trans Y2.out; obtain ⟨⟨_, px0⟩, ⟨_, px1⟩, ⟨_, px2⟩, rx0, rx1, rx2⟩ := Ox_139.out.there hi2; have lx := Ox_139.out.lt; have k_145 : SX1 (w_138) := (hS1 _).2 ⟨(Below.cell (p := ⟨A1, o1 + i * 3, none⟩) HB_140.out hl1).trans X0.out, (Below.cell (p := ⟨A1, o1 + i * 3 + 1, none⟩) HB_140.out hl1).trans X1.out, (Below.cell (p := ⟨A1, o1 + i * 3 + 2, none⟩) HB_140.out hl1).trans X2.out, (Below.cell (p := ⟨A2, o2 + i * 3, none⟩) HB_140.out hl2).trans Y0.out, (Below.cell (p := ⟨A2, o2 + i * 3 + 1, none⟩) HB_140.out hl2).trans Y1.out, (Below.cell (p := ⟨A2, o2 + i * 3 + 2, none⟩) HB_140.out hl2).trans Y2.out⟩; have k_146 : SX1 (w_138.alloc (.cells #[.bool false, .slice none 0 0, .int .i64 0, .bool false, .slice none 0 0, .int .i64 0] 62)) := (hS1 _).2 ⟨(Below.cell (p := ⟨A1, o1 + i * 3, none⟩) (below_al HB_140.out _) hl1).trans X0.out, (Below.cell (p := ⟨A1, o1 + i * 3 + 1, none⟩) (below_al HB_140.out _) hl1).trans X1.out, (Below.cell (p := ⟨A1, o1 + i * 3 + 2, none⟩) (below_al HB_140.out _) hl1).trans X2.out, (Below.cell (p := ⟨A2, o2 + i * 3, none⟩) (below_al HB_140.out _) hl2).trans Y0.out, (Below.cell (p := ⟨A2, o2 + i * 3 + 1, none⟩) (below_al HB_140.out _) hl2).trans Y1.out, (Below.cell (p := ⟨A2, o2 + i * 3 + 2, none⟩) (below_al HB_140.out _) hl2).trans Y2.out⟩)
           | (have _ := tok_112; have n_148 := Ox_120.out.lt; skip; go_at_call 146; clear tok_112; (with_reducible refine (dabs_any (w_119.alloc (.cells #[.bool false, .slice none 0 0, .int .i64 0, .bool false, .slice none 0 0, .int .i64 0] 62)) t (b i) (RT_123.out.dk ((Dk.refl _).alloc _)) nb0).mono ?_); rintro e w_149 ⟨⟨m, rfl, hm⟩, hb⟩; clear cr10 cr11 cr12 cr20 cr21 cr22 px0 px1 px2 rx0 rx1 rx2 lx k_125 k_126; have K := Dk.trans ((Dk.refl _).alloc _) (.below hb); have Bs_150 := Lib.hid (show Bk _ _ _ #[.bool false, .slice none 0 0, .int .i64 0, .bool false, .slice none 0 0, .int .i64 0] from (Bk.new _ 62 #[.bool false, .slice none 0 0, .int .i64 0, .bool false, .slice none 0 0, .int .i64 0]).below hb); have Ox_151 := Lib.hid (show OD _ (w.heap.size) n (fun j => if j < i then (fun j => mor (a j) (b j) bits) j else D.zero) from (Ox_120.out.al _).below hb); have HB_152 := Lib.hid (below_tr (below_al HB_121.out _) hb); clear hb; have RQ_153 := Lib.hid (RQ_122.out.dk K); have RT_154 := Lib.hid (RT_123.out.dk K); have SS_155 := Lib.hid (SS_124.out.dk K); clear K Ox_120 HB_121 RQ_122 RT_123 SS_124; have RM_156 := Lib.hid hm; clear hm; have ls := Bs_150.out.lt; obtain ⟨cs0, cs1, cs2, cs3, cs4, cs5⟩ := Bs_150.out.cells6; have fs0 := Bs_150.out.free 0; have fs1 := Bs_150.out.free 1; have fs2 := Bs_150.out.free 2; have fs3 := Bs_150.out.free 3; have fs4 := Bs_150.out.free 4; have fs5 := Bs_150.out.free 5; have cr10 : w_149.cell? ⟨A1, o1 + i * 3, none⟩ = some (.bool q.b) := (HB_152.out.cell (p := ⟨A1, o1 + i * 3, none⟩) hl1).trans X0.out; have cr11 : w_149.cell? ⟨A1, o1 + i * 3 + 1, none⟩ = some (.slice q.A q.n q.c) := (HB_152.out.cell (p := ⟨A1, o1 + i * 3 + 1, none⟩) hl1).trans X1.out; have cr12 : w_149.cell? ⟨A1, o1 + i * 3 + 2, none⟩ = some (.int .i64 (a i).x) := (HB_152.out.cell (p := ⟨A1, o1 + i * 3 + 2, none⟩) hl1).trans X2.out; have cr20 : w_149.cell? ⟨A2, o2 + i * 3, none⟩ = some (.bool t.b) := (HB_152.out.cell (p := ⟨A2, o2 + i * 3, none⟩) hl2).trans Y0.out; have cr21 : w_149.cell? ⟨A2, o2 + i * 3 + 1, none⟩ = some (.slice t.A t.n t.c) := (HB_152.out.cell (p := ⟨A2, o2 + i * 3 + 1, none⟩) hl2).trans Y1.out; have cr22 : w_149.cell? ⟨A2, o2 + i * 3 + 2, none⟩ = some (.int .i64 (b i).x) := (HB_152.out.cell (p := ⟨A2, o2 + i * 3 + 2, none⟩) hl2).trans Y2.out; obtain ⟨⟨_, px0⟩, ⟨_, px1⟩, ⟨_, px2⟩, rx0, rx1, rx2⟩ := Ox_151.out.there hi2; have lx := Ox_151.out.lt; have k_157 : SX1 (w_149) := (hS1 _).2 ⟨(Below.cell (p := ⟨A1, o1 + i * 3, none⟩) HB_152.out hl1).trans X0.out, (Below.cell (p := ⟨A1, o1 + i * 3 + 1, none⟩) HB_152.out hl1).trans X1.out, (Below.cell (p := ⟨A1, o1 + i * 3 + 2, none⟩) HB_152.out hl1).trans X2.out, (Below.cell (p := ⟨A2, o2 + i * 3, none⟩) HB_152.out hl2).trans Y0.out, (Below.cell (p := ⟨A2, o2 + i * 3 + 1, none⟩) HB_152.out hl2).trans Y1.out, (Below.cell (p := ⟨A2, o2 + i * 3 + 2, none⟩) HB_152.out hl2).trans Y2.out⟩)
           | (have _ := tok_109; skip; go_at_call 146; clear tok_109; (with_reducible refine (dabs_any (w_129) t (b i) RT_134.out nb0).mono ?_); rintro e w_159 ⟨⟨m, rfl, hm⟩, hb⟩; clear ls cs0 cs1 cs2 cs3 cs4 cs5 fs0 fs1 fs2 fs3 fs4 fs5 cr10 cr11 cr12 cr20 cr21 cr22 px0 px1 px2 rx0 rx1 rx2 lx k_136; have K := Dk.below hb; have Bs_160 := Lib.hid (show Bk _ _ _ #[.bool false, .slice none 0 0, .int .i64 0, .bool false, .slice none 0 0, .int .i64 0] from Bs_130.out.below hb); have Ox_161 := Lib.hid (show OD _ (w.heap.size) n (fun j => if j < i then (fun j => mor (a j) (b j) bits) j else D.zero) from Ox_131.out.below hb); have HB_162 := Lib.hid (below_tr HB_132.out hb); clear hb; have RQ_163 := Lib.hid (RQ_133.out.dk K); have RT_164 := Lib.hid (RT_134.out.dk K); have SS_165 := Lib.hid (SS_135.out.dk K); clear K Bs_130 Ox_131 HB_132 RQ_133 RT_134 SS_135; have RM_166 := Lib.hid hm; clear hm; have ls := Bs_160.out.lt; obtain ⟨cs0, cs1, cs2, cs3, cs4, cs5⟩ := Bs_160.out.cells6; have fs0 := Bs_160.out.free 0; have fs1 := Bs_160.out.free 1; have fs2 := Bs_160.out.free 2; have fs3 := Bs_160.out.free 3; have fs4 := Bs_160.out.free 4; have fs5 := Bs_160.out.free 5; have cr10 : w_159.cell? ⟨A1, o1 + i * 3, none⟩ = some (.bool q.b) := (HB_162.out.cell (p := ⟨A1, o1 + i * 3, none⟩) hl1).trans X0.out; have cr11 : w_159.cell? ⟨A1, o1 + i * 3 + 1, none⟩ = some (.slice q.A q.n q.c) := (HB_162.out.cell (p := ⟨A1, o1 + i * 3 + 1, none⟩) hl1).trans X1.out; have cr12 : w_159.cell? ⟨A1, o1 + i * 3 + 2, none⟩ = some (.int .i64 (a i).x) := (HB_162.out.cell (p := ⟨A1, o1 + i * 3 + 2, none⟩) hl1).trans X2.out; have cr20 : w_159.cell? ⟨A2, o2 + i * 3, none⟩ = some (.bool t.b) := (HB_162.out.cell (p := ⟨A2, o2 + i * 3, none⟩) hl2).trans Y0.out; have cr21 : w_159.cell? ⟨A2, o2 + i * 3 + 1, none⟩ = some (.slice t.A t.n t.c) := (HB_162.out.cell (p := ⟨A2, o2 + i * 3 + 1, none⟩) hl2).trans Y1.out; have cr22 : w_159.cell? ⟨A2, o2 + i * 3 + 2, none⟩ = some (.int .i64 (b i).x) := (HB_162.out.cell (p := ⟨A2, o2 + i * 3 + 2, none⟩) hl2).trans Y2.out; obtain ⟨⟨_, px0⟩, ⟨_, px1⟩, ⟨_, px2⟩, rx0, rx1, rx2⟩ := Ox_161.out.there hi2; have lx := Ox_161.out.lt; have k_167 : SX1 (w_159) := (hS1 _).2 ⟨(Below.cell (p := ⟨A1, o1 + i * 3, none⟩) HB_162.out hl1).trans X0.out, (Below.cell (p := ⟨A1, o1 + i * 3 + 1, none⟩) HB_162.out hl1).trans X1.out, (Below.cell (p := ⟨A1, o1 + i * 3 + 2, none⟩) HB_162.out hl1).trans X2.out, (Below.cell (p := ⟨A2, o2 + i * 3, none⟩) HB_162.out hl2).trans Y0.out, (Below.cell (p := ⟨A2, o2 + i * 3 + 1, none⟩) HB_162.out hl2).trans Y1.out, (Below.cell (p := ⟨A2, o2 + i * 3 + 2, none⟩) HB_162.out hl2).trans Y2.out⟩)
           | (have _ := tok_106; skip; go_at_call 59; clear tok_106; (with_reducible refine (spoint_any (w_138) m (b i).abs RM_144.out).mono ?_); rintro e w_169 ⟨⟨x, rfl, hx⟩, hb⟩; clear cr10 cr11 cr12 cr20 cr21 cr22 px0 px1 px2 rx0 rx1 rx2 lx k_145 k_146; have K := Dk.below hb; have Ox_170 := Lib.hid (show OD _ (w.heap.size) n (fun j => if j < i then (fun j => mor (a j) (b j) bits) j else D.zero) from Ox_139.out.below hb); have HB_171 := Lib.hid (below_tr HB_140.out hb); clear hb; have RQ_172 := Lib.hid (RQ_141.out.dk K); have RT_173 := Lib.hid (RT_142.out.dk K); have SS_174 := Lib.hid (SS_143.out.dk K); have RM_175 := Lib.hid (RM_144.out.dk K); clear K Ox_139 HB_140 RQ_141 RT_142 SS_143 RM_144; have SX_176 := Lib.hid hx; clear hx; have cr10 : w_169.cell? ⟨A1, o1 + i * 3, none⟩ = some (.bool q.b) := (HB_171.out.cell (p := ⟨A1, o1 + i * 3, none⟩) hl1).trans X0.out; have cr11 : w_169.cell? ⟨A1, o1 + i * 3 + 1, none⟩ = some (.slice q.A q.n q.c) := (HB_171.out.cell (p := ⟨A1, o1 + i * 3 + 1, none⟩) hl1).trans X1.out; have cr12 : w_169.cell? ⟨A1, o1 + i * 3 + 2, none⟩ = some (.int .i64 (a i).x) := (HB_171.out.cell (p := ⟨A1, o1 + i * 3 + 2, none⟩) hl1).trans X2.out; have cr20 : w_169.cell? ⟨A2, o2 + i * 3, none⟩ = some (.bool t.b) := (HB_171.out.cell (p := ⟨A2, o2 + i * 3, none⟩) hl2).trans Y0.out; have cr21 : w_169.cell? ⟨A2, o2 + i * 3 + 1, none⟩ = some (.slice t.A t.n t.c) := (HB_171.out.cell (p := ⟨A2, o2 + i * 3 + 1, none⟩) hl2).trans Y1.out; have cr22 : w_169.cell? ⟨A2, o2 + i * 3 + 2, none⟩ = some (.int .i64 (b i).x) := (HB_171.out.cell (p := ⟨A2, o2 + i * 3 + 2, none⟩) hl2).trans Y2.out; obtain ⟨⟨_, px0⟩, ⟨_, px1⟩, ⟨_, px2⟩, rx0, rx1, rx2⟩ := Ox_170.out.there hi2; have lx := Ox_170.out.lt; have k_177 : SX1 (w_169) := (hS1 _).2 ⟨(Below.cell (p := ⟨A1, o1 + i * 3, none⟩) HB_171.out hl1).trans X0.out, (Below.cell (p := ⟨A1, o1 + i * 3 + 1, none⟩) HB_171.out hl1).trans X1.out, (Below.cell (p := ⟨A1, o1 + i * 3 + 2, none⟩) HB_171.out hl1).trans X2.out, (Below.cell (p := ⟨A2, o2 + i * 3, none⟩) HB_171.out hl2).trans Y0.out, (Below.cell (p := ⟨A2, o2 + i * 3 + 1, none⟩) HB_171.out hl2).trans Y1.out, (Below.cell (p := ⟨A2, o2 + i * 3 + 2, none⟩) HB_171.out hl2).trans Y2.out⟩; have k_178 : SX1 (w_169.alloc (.cells #[.bool false, .slice none 0 0, .int .i64 0, .bool false, .slice none 0 0, .int .i64 0] 62)) := (hS1 _).2 ⟨(Below.cell (p := ⟨A1, o1 + i * 3, none⟩) (below_al HB_171.out _) hl1).trans X0.out, (Below.cell (p := ⟨A1, o1 + i * 3 + 1, none⟩) (below_al HB_171.out _) hl1).trans X1.out, (Below.cell (p := ⟨A1, o1 + i * 3 + 2, none⟩) (below_al HB_171.out _) hl1).trans X2.out, (Below.cell (p := ⟨A2, o2 + i * 3, none⟩) (below_al HB_171.out _) hl2).trans Y0.out, (Below.cell (p := ⟨A2, o2 + i * 3 + 1, none⟩) (below_al HB_171.out _) hl2).trans Y1.out, (Below.cell (p := ⟨A2, o2 + i * 3 + 2, none⟩) (below_al HB_171.out _) hl2).trans Y2.out⟩)
           | (have _ := tok_115; have n_180 := Ox_139.out.lt; skip; go_at_call 59; clear tok_115; (with_reducible refine (spoint_any (w_138.alloc (.cells #[.bool false, .slice none 0 0, .int .i64 0, .bool false, .slice none 0 0, .int .i64 0] 62)) m (b i).abs (RM_144.out.dk ((Dk.refl _).alloc _))).mono ?_); rintro e w_181 ⟨⟨x, rfl, hx⟩, hb⟩; clear cr10 cr11 cr12 cr20 cr21 cr22 px0 px1 px2 rx0 rx1 rx2 lx k_145 k_146; have K := Dk.trans ((Dk.refl _).alloc _) (.below hb); have Bs_182 := Lib.hid (show Bk _ _ _ #[.bool false, .slice none 0 0, .int .i64 0, .bool false, .slice none 0 0, .int .i64 0] from (Bk.new _ 62 #[.bool false, .slice none 0 0, .int .i64 0, .bool false, .slice none 0 0, .int .i64 0]).below hb); have Ox_183 := Lib.hid (show OD _ (w.heap.size) n (fun j => if j < i then (fun j => mor (a j) (b j) bits) j else D.zero) from (Ox_139.out.al _).below hb); have HB_184 := Lib.hid (below_tr (below_al HB_140.out _) hb); clear hb; have RQ_185 := Lib.hid (RQ_141.out.dk K); have RT_186 := Lib.hid (RT_142.out.dk K); have SS_187 := Lib.hid (SS_143.out.dk K); have RM_188 := Lib.hid (RM_144.out.dk K); clear K Ox_139 HB_140 RQ_141 RT_142 SS_143 RM_144; have SX_189 := Lib.hid hx; clear hx; have ls := Bs_182.out.lt; obtain ⟨cs0, cs1, cs2, cs3, cs4, cs5⟩ := Bs_182.out.cells6; have fs0 := Bs_182.out.free 0; have fs1 := Bs_182.out.free 1; have fs2 := Bs_182.out.free 2; have fs3 := Bs_182.out.free 3; have fs4 := Bs_182.out.free 4; have fs5 := Bs_182.out.free 5; have cr10 : w_181.cell? ⟨A1, o1 + i * 3, none⟩ = some (.bool q.b) := (HB_184.out.cell (p := ⟨A1, o1 + i * 3, none⟩) hl1).trans X0.out; have cr11 : w_181.cell? ⟨A1, o1 + i * 3 + 1, none⟩ = some (.slice q.A q.n q.c) := (HB_184.out.cell (p := ⟨A1, o1 + i * 3 + 1, none⟩) hl1).trans X1.out; have cr12 : w_181.cell? ⟨A1, o1 + i * 3 + 2, none⟩ = some (.int .i64 (a i).x) := (HB_184.out.cell (p := ⟨A1, o1 + i * 3 + 2, none⟩) hl1).trans X2.out; have cr20 : w_181.cell? ⟨A2, o2 + i * 3, none⟩ = some (.bool t.b) := (HB_184.out.cell (p := ⟨A2, o2 + i * 3, none⟩) hl2).trans Y0.out; have cr21 : w_181.cell? ⟨A2, o2 + i * 3 + 1, none⟩ = some (.slice t.A t.n t.c) := (HB_184.out.cell (p := ⟨A2, o2 + i * 3 + 1, none⟩) hl2).trans Y1.out; have cr22 : w_181.cell? ⟨A2, o2 + i * 3 + 2, none⟩ = some (.int .i64 (b i).x) := (HB_184.out.cell (p := ⟨A2, o2 + i * 3 + 2, none⟩) hl2).trans Y2.out; obtain ⟨⟨_, px0⟩, ⟨_, px1⟩, ⟨_, px2⟩, rx0, rx1, rx2⟩ := Ox_183.out.there hi2; have lx := Ox_183.out.lt; have k_190 : SX1 (w_181) := (hS1 _).2 ⟨(Below.cell (p := ⟨A1, o1 + i * 3, none⟩) HB_184.out hl1).trans X0.out, (Below.cell (p := ⟨A1, o1 + i * 3 + 1, none⟩) HB_184.out hl1).trans X1.out, (Below.cell (p := ⟨A1, o1 + i * 3 + 2, none⟩) HB_184.out hl1).trans X2.out, (Below.cell (p := ⟨A2, o2 + i * 3, none⟩) HB_184.out hl2).trans Y0.out, (Below.cell (p := ⟨A2, o2 + i * 3 + 1, none⟩) HB_184.out hl2).trans Y1.out, (Below.cell (p := ⟨A2, o2 + i * 3 + 2, none⟩) HB_184.out hl2).trans Y2.out⟩)
           | (have _ := tok_110; skip; go_at_call 59; clear tok_110; (with_reducible refine (spoint_any (w_159) m (b i).abs RM_166.out).mono ?_); rintro e w_192 ⟨⟨x, rfl, hx⟩, hb⟩; clear ls cs0 cs1 cs2 cs3 cs4 cs5 fs0 fs1 fs2 fs3 fs4 fs5 cr10 cr11 cr12 cr20 cr21 cr22 px0 px1 px2 rx0 rx1 rx2 lx k_167; have K := Dk.below hb; have Bs_193 := Lib.hid (show Bk _ _ _ #[.bool false, .slice none 0 0, .int .i64 0, .bool false, .slice none 0 0, .int .i64 0] from Bs_160.out.below hb); have Ox_194 := Lib.hid (show OD _ (w.heap.size) n (fun j => if j < i then (fun j => mor (a j) (b j) bits) j else D.zero) from Ox_161.out.below hb); have HB_195 := Lib.hid (below_tr HB_162.out hb); clear hb; have RQ_196 := Lib.hid (RQ_163.out.dk K); have RT_197 := Lib.hid (RT_164.out.dk K); have SS_198 := Lib.hid (SS_165.out.dk K); have RM_199 := Lib.hid (RM_166.out.dk K); clear K Bs_160 Ox_161 HB_162 RQ_163 RT_164 SS_165 RM_166; have SX_200 := Lib.hid hx; clear hx; have ls := Bs_193.out.lt; obtain ⟨cs0, cs1, cs2, cs3, cs4, cs5⟩ := Bs_193.out.cells6; have fs0 := Bs_193.out.free 0; have fs1 := Bs_193.out.free 1; have fs2 := Bs_193.out.free 2; have fs3 := Bs_193.out.free 3; have fs4 := Bs_193.out.free 4; have fs5 := Bs_193.out.free 5; have cr10 : w_192.cell? ⟨A1, o1 + i * 3, none⟩ = some (.bool q.b) := (HB_195.out.cell (p := ⟨A1, o1 + i * 3, none⟩) hl1).trans X0.out; have cr11 : w_192.cell? ⟨A1, o1 + i * 3 + 1, none⟩ = some (.slice q.A q.n q.c) := (HB_195.out.cell (p := ⟨A1, o1 + i * 3 + 1, none⟩) hl1).trans X1.out; have cr12 : w_192.cell? ⟨A1, o1 + i * 3 + 2, none⟩ = some (.int .i64 (a i).x) := (HB_195.out.cell (p := ⟨A1, o1 + i * 3 + 2, none⟩) hl1).trans X2.out; have cr20 : w_192.cell? ⟨A2, o2 + i * 3, none⟩ = some (.bool t.b) := (HB_195.out.cell (p := ⟨A2, o2 + i * 3, none⟩) hl2).trans Y0.out; have cr21 : w_192.cell? ⟨A2, o2 + i * 3 + 1, none⟩ = some (.slice t.A t.n t.c) := (HB_195.out.cell (p := ⟨A2, o2 + i * 3 + 1, none⟩) hl2).trans Y1.out; have cr22 : w_192.cell? ⟨A2, o2 + i * 3 + 2, none⟩ = some (.int .i64 (b i).x) := (HB_195.out.cell (p := ⟨A2, o2 + i * 3 + 2, none⟩) hl2).trans Y2.out; obtain ⟨⟨_, px0⟩, ⟨_, px1⟩, ⟨_, px2⟩, rx0, rx1, rx2⟩ := Ox_194.out.there hi2; have lx := Ox_194.out.lt; have k_201 : SX1 (w_192) := (hS1 _).2 ⟨(Below.cell (p := ⟨A1, o1 + i * 3, none⟩) HB_195.out hl1).trans X0.out, (Below.cell (p := ⟨A1, o1 + i * 3 + 1, none⟩) HB_195.out hl1).trans X1.out, (Below.cell (p := ⟨A1, o1 + i * 3 + 2, none⟩) HB_195.out hl1).trans X2.out, (Below.cell (p := ⟨A2, o2 + i * 3, none⟩) HB_195.out hl2).trans Y0.out, (Below.cell (p := ⟨A2, o2 + i * 3 + 1, none⟩) HB_195.out hl2).trans Y1.out, (Below.cell (p := ⟨A2, o2 + i * 3 + 2, none⟩) HB_195.out hl2).trans Y2.out⟩)
           | (have _ := tok_113; skip; go_at_call 59; clear tok_113; (with_reducible refine (spoint_any (w_149) m (b i).abs RM_156.out).mono ?_); rintro e w_203 ⟨⟨x, rfl, hx⟩, hb⟩; clear ls cs0 cs1 cs2 cs3 cs4 cs5 fs0 fs1 fs2 fs3 fs4 fs5 cr10 cr11 cr12 cr20 cr21 cr22 px0 px1 px2 rx0 rx1 rx2 lx k_157; have K := Dk.below hb; have Bs_204 := Lib.hid (show Bk _ _ _ #[.bool false, .slice none 0 0, .int .i64 0, .bool false, .slice none 0 0, .int .i64 0] from Bs_150.out.below hb); have Ox_205 := Lib.hid (show OD _ (w.heap.size) n (fun j => if j < i then (fun j => mor (a j) (b j) bits) j else D.zero) from Ox_151.out.below hb); have HB_206 := Lib.hid (below_tr HB_152.out hb); clear hb; have RQ_207 := Lib.hid (RQ_153.out.dk K); have RT_208 := Lib.hid (RT_154.out.dk K); have SS_209 := Lib.hid (SS_155.out.dk K); have RM_210 := Lib.hid (RM_156.out.dk K); clear K Bs_150 Ox_151 HB_152 RQ_153 RT_154 SS_155 RM_156; have SX_211 := Lib.hid hx; clear hx; have ls := Bs_204.out.lt; obtain ⟨cs0, cs1, cs2, cs3, cs4, cs5⟩ := Bs_204.out.cells6; have fs0 := Bs_204.out.free 0; have fs1 := Bs_204.out.free 1; have fs2 := Bs_204.out.free 2; have fs3 := Bs_204.out.free 3; have fs4 := Bs_204.out.free 4; have fs5 := Bs_204.out.free 5; have cr10 : w_203.cell? ⟨A1, o1 + i * 3, none⟩ = some (.bool q.b) := (HB_206.out.cell (p := ⟨A1, o1 + i * 3, none⟩) hl1).trans X0.out; have cr11 : w_203.cell? ⟨A1, o1 + i * 3 + 1, none⟩ = some (.slice q.A q.n q.c) := (HB_206.out.cell (p := ⟨A1, o1 + i * 3 + 1, none⟩) hl1).trans X1.out; have cr12 : w_203.cell? ⟨A1, o1 + i * 3 + 2, none⟩ = some (.int .i64 (a i).x) := (HB_206.out.cell (p := ⟨A1, o1 + i * 3 + 2, none⟩) hl1).trans X2.out; have cr20 : w_203.cell? ⟨A2, o2 + i * 3, none⟩ = some (.bool t.b) := (HB_206.out.cell (p := ⟨A2, o2 + i * 3, none⟩) hl2).trans Y0.out; have cr21 : w_203.cell? ⟨A2, o2 + i * 3 + 1, none⟩ = some (.slice t.A t.n t.c) := (HB_206.out.cell (p := ⟨A2, o2 + i * 3 + 1, none⟩) hl2).trans Y1.out; have cr22 : w_203.cell? ⟨A2, o2 + i * 3 + 2, none⟩ = some (.int .i64 (b i).x) := (HB_206.out.cell (p := ⟨A2, o2 + i * 3 + 2, none⟩) hl2).trans Y2.out; obtain ⟨⟨_, px0⟩, ⟨_, px1⟩, ⟨_, px2⟩, rx0, rx1, rx2⟩ := Ox_205.out.there hi2; have lx := Ox_205.out.lt; have k_212 : SX1 (w_203) := (hS1 _).2 ⟨(Below.cell (p := ⟨A1, o1 + i * 3, none⟩) HB_206.out hl1).trans X0.out, (Below.cell (p := ⟨A1, o1 + i * 3 + 1, none⟩) HB_206.out hl1).trans X1.out, (Below.cell (p := ⟨A1, o1 + i * 3 + 2, none⟩) HB_206.out hl1).trans X2.out, (Below.cell (p := ⟨A2, o2 + i * 3, none⟩) HB_206.out hl2).trans Y0.out, (Below.cell (p := ⟨A2, o2 + i * 3 + 1, none⟩) HB_206.out hl2).trans Y1.out, (Below.cell (p := ⟨A2, o2 + i * 3 + 2, none⟩) HB_206.out hl2).trans Y2.out⟩)
           | (have _ := tok_107; skip; go_at_call 38; clear tok_107; (with_reducible refine (sadd_any (w_169) s x (Sp.pt (a i)) (Sp.pt (b i).abs) bits E T SS_174.out SX_176.out La.out Lb.out hET hb2 hb3 (HT.out.below HB_171.out)).mono ?_); rintro e w_214 ⟨⟨p, rfl, hp⟩, hb⟩; clear cr10 cr11 cr12 cr20 cr21 cr22 px0 px1 px2 rx0 rx1 rx2 lx k_177 k_178; have K := Dk.below hb; have Ox_215 := Lib.hid (show OD _ (w.heap.size) n (fun j => if j < i then (fun j => mor (a j) (b j) bits) j else D.zero) from Ox_170.out.below hb); have HB_216 := Lib.hid (below_tr HB_171.out hb); clear hb; have RQ_217 := Lib.hid (RQ_172.out.dk K); have RT_218 := Lib.hid (RT_173.out.dk K); have SS_219 := Lib.hid (SS_174.out.dk K); have RM_220 := Lib.hid (RM_175.out.dk K); have SX_221 := Lib.hid (SX_176.out.dk K); clear K Ox_170 HB_171 RQ_172 RT_173 SS_174 RM_175 SX_176; have SP_222 := Lib.hid hp; clear hp; have cr10 : w_214.cell? ⟨A1, o1 + i * 3, none⟩ = some (.bool q.b) := (HB_216.out.cell (p := ⟨A1, o1 + i * 3, none⟩) hl1).trans X0.out; have cr11 : w_214.cell? ⟨A1, o1 + i * 3 + 1, none⟩ = some (.slice q.A q.n q.c) := (HB_216.out.cell (p := ⟨A1, o1 + i * 3 + 1, none⟩) hl1).trans X1.out; have cr12 : w_214.cell? ⟨A1, o1 + i * 3 + 2, none⟩ = some (.int .i64 (a i).x) := (HB_216.out.cell (p := ⟨A1, o1 + i * 3 + 2, none⟩) hl1).trans X2.out; have cr20 : w_214.cell? ⟨A2, o2 + i * 3, none⟩ = some (.bool t.b) := (HB_216.out.cell (p := ⟨A2, o2 + i * 3, none⟩) hl2).trans Y0.out; have cr21 : w_214.cell? ⟨A2, o2 + i * 3 + 1, none⟩ = some (.slice t.A t.n t.c) := (HB_216.out.cell (p := ⟨A2, o2 + i * 3 + 1, none⟩) hl2).trans Y1.out; have cr22 : w_214.cell? ⟨A2, o2 + i * 3 + 2, none⟩ = some (.int .i64 (b i).x) := (HB_216.out.cell (p := ⟨A2, o2 + i * 3 + 2, none⟩) hl2).trans Y2.out; obtain ⟨⟨_, px0⟩, ⟨_, px1⟩, ⟨_, px2⟩, rx0, rx1, rx2⟩ := Ox_215.out.there hi2; have lx := Ox_215.out.lt; have k_223 : SX1 (w_214) := (hS1 _).2 ⟨(Below.cell (p := ⟨A1, o1 + i * 3, none⟩) HB_216.out hl1).trans X0.out, (Below.cell (p := ⟨A1, o1 + i * 3 + 1, none⟩) HB_216.out hl1).trans X1.out, (Below.cell (p := ⟨A1, o1 + i * 3 + 2, none⟩) HB_216.out hl1).trans X2.out, (Below.cell (p := ⟨A2, o2 + i * 3, none⟩) HB_216.out hl2).trans Y0.out, (Below.cell (p := ⟨A2, o2 + i * 3 + 1, none⟩) HB_216.out hl2).trans Y1.out, (Below.cell (p := ⟨A2, o2 + i * 3 + 2, none⟩) HB_216.out hl2).trans Y2.out⟩; have n_224 := Ox_215.out.lt; have k_225 : SX1 (w_214.alloc (.cells #[.bool false, .slice none 0 0, .int .i64 0, .bool false, .slice none 0 0, .int .i64 0] 62)) := (hS1 _).2 ⟨(Below.cell (p := ⟨A1, o1 + i * 3, none⟩) (below_al HB_216.out _) hl1).trans X0.out, (Below.cell (p := ⟨A1, o1 + i * 3 + 1, none⟩) (below_al HB_216.out _) hl1).trans X1.out, (Below.cell (p := ⟨A1, o1 + i * 3 + 2, none⟩) (below_al HB_216.out _) hl1).trans X2.out, (Below.cell (p := ⟨A2, o2 + i * 3, none⟩) (below_al HB_216.out _) hl2).trans Y0.out, (Below.cell (p := ⟨A2, o2 + i * 3 + 1, none⟩) (below_al HB_216.out _) hl2).trans Y1.out, (Below.cell (p := ⟨A2, o2 + i * 3 + 2, none⟩) (below_al HB_216.out _) hl2).trans Y2.out⟩; have k_226 : SX1 (w_214.alloc (.cells #[.bool p.lo.b, .slice p.lo.A p.lo.n p.lo.c, .int .i64 (Sp.add (Sp.pt (a i)) (Sp.pt (b i).abs) bits).lo.x, .bool p.hi.b, .slice p.hi.A p.hi.n p.hi.c, .int .i64 (Sp.add (Sp.pt (a i)) (Sp.pt (b i).abs) bits).hi.x] 62)) := (hS1 _).2 ⟨(Below.cell (p := ⟨A1, o1 + i * 3, none⟩) (below_al HB_216.out _) hl1).trans X0.out, (Below.cell (p := ⟨A1, o1 + i * 3 + 1, none⟩) (below_al HB_216.out _) hl1).trans X1.out, (Below.cell (p := ⟨A1, o1 + i * 3 + 2, none⟩) (below_al HB_216.out _) hl1).trans X2.out, (Below.cell (p := ⟨A2, o2 + i * 3, none⟩) (below_al HB_216.out _) hl2).trans Y0.out, (Below.cell (p := ⟨A2, o2 + i * 3 + 1, none⟩) (below_al HB_216.out _) hl2).trans Y1.out, (Below.cell (p := ⟨A2, o2 + i * 3 + 2, none⟩) (below_al HB_216.out _) hl2).trans Y2.out⟩)
           | (have _ := tok_117; have n_228 := Ox_170.out.lt; skip; go_at_call 38; clear tok_117; (with_reducible refine (sadd_any (w_169.alloc (.cells #[.bool false, .slice none 0 0, .int .i64 0, .bool false, .slice none 0 0, .int .i64 0] 62)) s x (Sp.pt (a i)) (Sp.pt (b i).abs) bits E T (SS_174.out.dk ((Dk.refl _).alloc _)) (SX_176.out.dk ((Dk.refl _).alloc _)) La.out Lb.out hET hb2 hb3 (HT.out.below (below_al HB_171.out _))).mono ?_); rintro e w_229 ⟨⟨p, rfl, hp⟩, hb⟩; clear cr10 cr11 cr12 cr20 cr21 cr22 px0 px1 px2 rx0 rx1 rx2 lx k_177 k_178; have K := Dk.trans ((Dk.refl _).alloc _) (.below hb); have Bs_230 := Lib.hid (show Bk _ _ _ #[.bool false, .slice none 0 0, .int .i64 0, .bool false, .slice none 0 0, .int .i64 0] from (Bk.new _ 62 #[.bool false, .slice none 0 0, .int .i64 0, .bool false, .slice none 0 0, .int .i64 0]).below hb); have Ox_231 := Lib.hid (show OD _ (w.heap.size) n (fun j => if j < i then (fun j => mor (a j) (b j) bits) j else D.zero) from (Ox_170.out.al _).below hb); have HB_232 := Lib.hid (below_tr (below_al HB_171.out _) hb); clear hb; have RQ_233 := Lib.hid (RQ_172.out.dk K); have RT_234 := Lib.hid (RT_173.out.dk K); have SS_235 := Lib.hid (SS_174.out.dk K); have RM_236 := Lib.hid (RM_175.out.dk K); have SX_237 := Lib.hid (SX_176.out.dk K); clear K Ox_170 HB_171 RQ_172 RT_173 SS_174 RM_175 SX_176; have SP_238 := Lib.hid hp; clear hp; have ls := Bs_230.out.lt; obtain ⟨cs0, cs1, cs2, cs3, cs4, cs5⟩ := Bs_230.out.cells6; have fs0 := Bs_230.out.free 0; have fs1 := Bs_230.out.free 1; have fs2 := Bs_230.out.free 2; have fs3 := Bs_230.out.free 3; have fs4 := Bs_230.out.free 4; have fs5 := Bs_230.out.free 5; have cr10 : w_229.cell? ⟨A1, o1 + i * 3, none⟩ = some (.bool q.b) := (HB_232.out.cell (p := ⟨A1, o1 + i * 3, none⟩) hl1).trans X0.out; have cr11 : w_229.cell? ⟨A1, o1 + i * 3 + 1, none⟩ = some (.slice q.A q.n q.c) := (HB_232.out.cell (p := ⟨A1, o1 + i * 3 + 1, none⟩) hl1).trans X1.out; have cr12 : w_229.cell? ⟨A1, o1 + i * 3 + 2, none⟩ = some (.int .i64 (a i).x) := (HB_232.out.cell (p := ⟨A1, o1 + i * 3 + 2, none⟩) hl1).trans X2.out; have cr20 : w_229.cell? ⟨A2, o2 + i * 3, none⟩ = some (.bool t.b) := (HB_232.out.cell (p := ⟨A2, o2 + i * 3, none⟩) hl2).trans Y0.out; have cr21 : w_229.cell? ⟨A2, o2 + i * 3 + 1, none⟩ = some (.slice t.A t.n t.c) := (HB_232.out.cell (p := ⟨A2, o2 + i * 3 + 1, none⟩) hl2).trans Y1.out; have cr22 : w_229.cell? ⟨A2, o2 + i * 3 + 2, none⟩ = some (.int .i64 (b i).x) := (HB_232.out.cell (p := ⟨A2, o2 + i * 3 + 2, none⟩) hl2).trans Y2.out; obtain ⟨⟨_, px0⟩, ⟨_, px1⟩, ⟨_, px2⟩, rx0, rx1, rx2⟩ := Ox_231.out.there hi2; have lx := Ox_231.out.lt; have k_239 : SX1 (w_229) := (hS1 _).2 ⟨(Below.cell (p := ⟨A1, o1 + i * 3, none⟩) HB_232.out hl1).trans X0.out, (Below.cell (p := ⟨A1, o1 + i * 3 + 1, none⟩) HB_232.out hl1).trans X1.out, (Below.cell (p := ⟨A1, o1 + i * 3 + 2, none⟩) HB_232.out hl1).trans X2.out, (Below.cell (p := ⟨A2, o2 + i * 3, none⟩) HB_232.out hl2).trans Y0.out, (Below.cell (p := ⟨A2, o2 + i * 3 + 1, none⟩) HB_232.out hl2).trans Y1.out, (Below.cell (p := ⟨A2, o2 + i * 3 + 2, none⟩) HB_232.out hl2).trans Y2.out⟩; have y0 := HB_232.out.size; have k_240 : SX1 ((((((w_229.setCell ⟨w_169.heap.size, 0, none⟩ (.bool p.lo.b)).setCell ⟨w_169.heap.size, 1, none⟩ (.slice p.lo.A p.lo.n p.lo.c)).setCell ⟨w_169.heap.size, 2, none⟩ (.int .i64 (Sp.add (Sp.pt (a i)) (Sp.pt (b i).abs) bits).lo.x)).setCell ⟨w_169.heap.size, 3, none⟩ (.bool p.hi.b)).setCell ⟨w_169.heap.size, 4, none⟩ (.slice p.hi.A p.hi.n p.hi.c)).setCell ⟨w_169.heap.size, 5, none⟩ (.int .i64 (Sp.add (Sp.pt (a i)) (Sp.pt (b i).abs) bits).hi.x)) := (hS1 _).2 ⟨(Below.cell (p := ⟨A1, o1 + i * 3, none⟩) (below_st (below_st (below_st (below_st (below_st (below_st HB_232.out 0 (by omega) (.bool p.lo.b)) 1 (by omega) (.slice p.lo.A p.lo.n p.lo.c)) 2 (by omega) (.int .i64 (Sp.add (Sp.pt (a i)) (Sp.pt (b i).abs) bits).lo.x)) 3 (by omega) (.bool p.hi.b)) 4 (by omega) (.slice p.hi.A p.hi.n p.hi.c)) 5 (by omega) (.int .i64 (Sp.add (Sp.pt (a i)) (Sp.pt (b i).abs) bits).hi.x)) hl1).trans X0.out, (Below.cell (p := ⟨A1, o1 + i * 3 + 1, none⟩) (below_st (below_st (below_st (below_st (below_st (below_st HB_232.out 0 (by omega) (.bool p.lo.b)) 1 (by omega) (.slice p.lo.A p.lo.n p.lo.c)) 2 (by omega) (.int .i64 (Sp.add (Sp.pt (a i)) (Sp.pt (b i).abs) bits).lo.x)) 3 (by omega) (.bool p.hi.b)) 4 (by omega) (.slice p.hi.A p.hi.n p.hi.c)) 5 (by omega) (.int .i64 (Sp.add (Sp.pt (a i)) (Sp.pt (b i).abs) bits).hi.x)) hl1).trans X1.out, (Below.cell (p := ⟨A1, o1 + i * 3 + 2, none⟩) (below_st (below_st (below_st (below_st (below_st (below_st HB_232.out 0 (by omega) (.bool p.lo.b)) 1 (by omega) (.slice p.lo.A p.lo.n p.lo.c)) 2 (by omega) (.int .i64 (Sp.add (Sp.pt (a i)) (Sp.pt (b i).abs) bits).lo.x)) 3 (by omega) (.bool p.hi.b)) 4 (by omega) (.slice p.hi.A p.hi.n p.hi.c)) 5 (by omega) (.int .i64 (Sp.add (Sp.pt (a i)) (Sp.pt (b i).abs) bits).hi.x)) hl1).trans X2.out, (Below.cell (p := ⟨A2, o2 + i * 3, none⟩) (below_st (below_st (below_st (below_st (below_st (below_st HB_232.out 0 (by omega) (.bool p.lo.b)) 1 (by omega) (.slice p.lo.A p.lo.n p.lo.c)) 2 (by omega) (.int .i64 (Sp.add (Sp.pt (a i)) (Sp.pt (b i).abs) bits).lo.x)) 3 (by omega) (.bool p.hi.b)) 4 (by omega) (.slice p.hi.A p.hi.n p.hi.c)) 5 (by omega) (.int .i64 (Sp.add (Sp.pt (a i)) (Sp.pt (b i).abs) bits).hi.x)) hl2).trans Y0.out, (Below.cell (p := ⟨A2, o2 + i * 3 + 1, none⟩) (below_st (below_st (below_st (below_st (below_st (below_st HB_232.out 0 (by omega) (.bool p.lo.b)) 1 (by omega) (.slice p.lo.A p.lo.n p.lo.c)) 2 (by omega) (.int .i64 (Sp.add (Sp.pt (a i)) (Sp.pt (b i).abs) bits).lo.x)) 3 (by omega) (.bool p.hi.b)) 4 (by omega) (.slice p.hi.A p.hi.n p.hi.c)) 5 (by omega) (.int .i64 (Sp.add (Sp.pt (a i)) (Sp.pt (b i).abs) bits).hi.x)) hl2).trans Y1.out, (Below.cell (p := ⟨A2, o2 + i * 3 + 2, none⟩) (below_st (below_st (below_st (below_st (below_st (below_st HB_232.out 0 (by omega) (.bool p.lo.b)) 1 (by omega) (.slice p.lo.A p.lo.n p.lo.c)) 2 (by omega) (.int .i64 (Sp.add (Sp.pt (a i)) (Sp.pt (b i).abs) bits).lo.x)) 3 (by omega) (.bool p.hi.b)) 4 (by omega) (.slice p.hi.A p.hi.n p.hi.c)) 5 (by omega) (.int .i64 (Sp.add (Sp.pt (a i)) (Sp.pt (b i).abs) bits).hi.x)) hl2).trans Y2.out⟩; clear y0)
           | (have _ := tok_111; skip; go_at_call 38; clear tok_111; (with_reducible refine (sadd_any (w_192) s x (Sp.pt (a i)) (Sp.pt (b i).abs) bits E T SS_198.out SX_200.out La.out Lb.out hET hb2 hb3 (HT.out.below HB_195.out)).mono ?_); rintro e w_242 ⟨⟨p, rfl, hp⟩, hb⟩; clear ls cs0 cs1 cs2 cs3 cs4 cs5 fs0 fs1 fs2 fs3 fs4 fs5 cr10 cr11 cr12 cr20 cr21 cr22 px0 px1 px2 rx0 rx1 rx2 lx k_201; have K := Dk.below hb; have Bs_243 := Lib.hid (show Bk _ _ _ #[.bool false, .slice none 0 0, .int .i64 0, .bool false, .slice none 0 0, .int .i64 0] from Bs_193.out.below hb); have Ox_244 := Lib.hid (show OD _ (w.heap.size) n (fun j => if j < i then (fun j => mor (a j) (b j) bits) j else D.zero) from Ox_194.out.below hb); have HB_245 := Lib.hid (below_tr HB_195.out hb); clear hb; have RQ_246 := Lib.hid (RQ_196.out.dk K); have RT_247 := Lib.hid (RT_197.out.dk K); have SS_248 := Lib.hid (SS_198.out.dk K); have RM_249 := Lib.hid (RM_199.out.dk K); have SX_250 := Lib.hid (SX_200.out.dk K); clear K Bs_193 Ox_194 HB_195 RQ_196 RT_197 SS_198 RM_199 SX_200; have SP_251 := Lib.hid hp; clear hp; have ls := Bs_243.out.lt; obtain ⟨cs0, cs1, cs2, cs3, cs4, cs5⟩ := Bs_243.out.cells6; have fs0 := Bs_243.out.free 0; have fs1 := Bs_243.out.free 1; have fs2 := Bs_243.out.free 2; have fs3 := Bs_243.out.free 3; have fs4 := Bs_243.out.free 4; have fs5 := Bs_243.out.free 5; have cr10 : w_242.cell? ⟨A1, o1 + i * 3, none⟩ = some (.bool q.b) := (HB_245.out.cell (p := ⟨A1, o1 + i * 3, none⟩) hl1).trans X0.out; have cr11 : w_242.cell? ⟨A1, o1 + i * 3 + 1, none⟩ = some (.slice q.A q.n q.c) := (HB_245.out.cell (p := ⟨A1, o1 + i * 3 + 1, none⟩) hl1).trans X1.out; have cr12 : w_242.cell? ⟨A1, o1 + i * 3 + 2, none⟩ = some (.int .i64 (a i).x) := (HB_245.out.cell (p := ⟨A1, o1 + i * 3 + 2, none⟩) hl1).trans X2.out; have cr20 : w_242.cell? ⟨A2, o2 + i * 3, none⟩ = some (.bool t.b) := (HB_245.out.cell (p := ⟨A2, o2 + i * 3, none⟩) hl2).trans Y0.out; have cr21 : w_242.cell? ⟨A2, o2 + i * 3 + 1, none⟩ = some (.slice t.A t.n t.c) := (HB_245.out.cell (p := ⟨A2, o2 + i * 3 + 1, none⟩) hl2).trans Y1.out; have cr22 : w_242.cell? ⟨A2, o2 + i * 3 + 2, none⟩ = some (.int .i64 (b i).x) := (HB_245.out.cell (p := ⟨A2, o2 + i * 3 + 2, none⟩) hl2).trans Y2.out; obtain ⟨⟨_, px0⟩, ⟨_, px1⟩, ⟨_, px2⟩, rx0, rx1, rx2⟩ := Ox_244.out.there hi2; have lx := Ox_244.out.lt; have k_252 : SX1 (w_242) := (hS1 _).2 ⟨(Below.cell (p := ⟨A1, o1 + i * 3, none⟩) HB_245.out hl1).trans X0.out, (Below.cell (p := ⟨A1, o1 + i * 3 + 1, none⟩) HB_245.out hl1).trans X1.out, (Below.cell (p := ⟨A1, o1 + i * 3 + 2, none⟩) HB_245.out hl1).trans X2.out, (Below.cell (p := ⟨A2, o2 + i * 3, none⟩) HB_245.out hl2).trans Y0.out, (Below.cell (p := ⟨A2, o2 + i * 3 + 1, none⟩) HB_245.out hl2).trans Y1.out, (Below.cell (p := ⟨A2, o2 + i * 3 + 2, none⟩) HB_245.out hl2).trans Y2.out⟩; have y0 := HB_245.out.size; have k_253 : SX1 ((((((w_242.setCell ⟨wr.heap.size, 0, none⟩ (.bool p.lo.b)).setCell ⟨wr.heap.size, 1, none⟩ (.slice p.lo.A p.lo.n p.lo.c)).setCell ⟨wr.heap.size, 2, none⟩ (.int .i64 (Sp.add (Sp.pt (a i)) (Sp.pt (b i).abs) bits).lo.x)).setCell ⟨wr.heap.size, 3, none⟩ (.bool p.hi.b)).setCell ⟨wr.heap.size, 4, none⟩ (.slice p.hi.A p.hi.n p.hi.c)).setCell ⟨wr.heap.size, 5, none⟩ (.int .i64 (Sp.add (Sp.pt (a i)) (Sp.pt (b i).abs) bits).hi.x)) := (hS1 _).2 ⟨(Below.cell (p := ⟨A1, o1 + i * 3, none⟩) (below_st (below_st (below_st (below_st (below_st (below_st HB_245.out 0 (by omega) (.bool p.lo.b)) 1 (by omega) (.slice p.lo.A p.lo.n p.lo.c)) 2 (by omega) (.int .i64 (Sp.add (Sp.pt (a i)) (Sp.pt (b i).abs) bits).lo.x)) 3 (by omega) (.bool p.hi.b)) 4 (by omega) (.slice p.hi.A p.hi.n p.hi.c)) 5 (by omega) (.int .i64 (Sp.add (Sp.pt (a i)) (Sp.pt (b i).abs) bits).hi.x)) hl1).trans X0.out, (Below.cell (p := ⟨A1, o1 + i * 3 + 1, none⟩) (below_st (below_st (below_st (below_st (below_st (below_st HB_245.out 0 (by omega) (.bool p.lo.b)) 1 (by omega) (.slice p.lo.A p.lo.n p.lo.c)) 2 (by omega) (.int .i64 (Sp.add (Sp.pt (a i)) (Sp.pt (b i).abs) bits).lo.x)) 3 (by omega) (.bool p.hi.b)) 4 (by omega) (.slice p.hi.A p.hi.n p.hi.c)) 5 (by omega) (.int .i64 (Sp.add (Sp.pt (a i)) (Sp.pt (b i).abs) bits).hi.x)) hl1).trans X1.out, (Below.cell (p := ⟨A1, o1 + i * 3 + 2, none⟩) (below_st (below_st (below_st (below_st (below_st (below_st HB_245.out 0 (by omega) (.bool p.lo.b)) 1 (by omega) (.slice p.lo.A p.lo.n p.lo.c)) 2 (by omega) (.int .i64 (Sp.add (Sp.pt (a i)) (Sp.pt (b i).abs) bits).lo.x)) 3 (by omega) (.bool p.hi.b)) 4 (by omega) (.slice p.hi.A p.hi.n p.hi.c)) 5 (by omega) (.int .i64 (Sp.add (Sp.pt (a i)) (Sp.pt (b i).abs) bits).hi.x)) hl1).trans X2.out, (Below.cell (p := ⟨A2, o2 + i * 3, none⟩) (below_st (below_st (below_st (below_st (below_st (below_st HB_245.out 0 (by omega) (.bool p.lo.b)) 1 (by omega) (.slice p.lo.A p.lo.n p.lo.c)) 2 (by omega) (.int .i64 (Sp.add (Sp.pt (a i)) (Sp.pt (b i).abs) bits).lo.x)) 3 (by omega) (.bool p.hi.b)) 4 (by omega) (.slice p.hi.A p.hi.n p.hi.c)) 5 (by omega) (.int .i64 (Sp.add (Sp.pt (a i)) (Sp.pt (b i).abs) bits).hi.x)) hl2).trans Y0.out, (Below.cell (p := ⟨A2, o2 + i * 3 + 1, none⟩) (below_st (below_st (below_st (below_st (below_st (below_st HB_245.out 0 (by omega) (.bool p.lo.b)) 1 (by omega) (.slice p.lo.A p.lo.n p.lo.c)) 2 (by omega) (.int .i64 (Sp.add (Sp.pt (a i)) (Sp.pt (b i).abs) bits).lo.x)) 3 (by omega) (.bool p.hi.b)) 4 (by omega) (.slice p.hi.A p.hi.n p.hi.c)) 5 (by omega) (.int .i64 (Sp.add (Sp.pt (a i)) (Sp.pt (b i).abs) bits).hi.x)) hl2).trans Y1.out, (Below.cell (p := ⟨A2, o2 + i * 3 + 2, none⟩) (below_st (below_st (below_st (below_st (below_st (below_st HB_245.out 0 (by omega) (.bool p.lo.b)) 1 (by omega) (.slice p.lo.A p.lo.n p.lo.c)) 2 (by omega) (.int .i64 (Sp.add (Sp.pt (a i)) (Sp.pt (b i).abs) bits).lo.x)) 3 (by omega) (.bool p.hi.b)) 4 (by omega) (.slice p.hi.A p.hi.n p.hi.c)) 5 (by omega) (.int .i64 (Sp.add (Sp.pt (a i)) (Sp.pt (b i).abs) bits).hi.x)) hl2).trans Y2.out⟩; clear y0)
           | (have _ := tok_114; skip; go_at_call 38; clear tok_114; (with_reducible refine (sadd_any (w_203) s x (Sp.pt (a i)) (Sp.pt (b i).abs) bits E T SS_209.out SX_211.out La.out Lb.out hET hb2 hb3 (HT.out.below HB_206.out)).mono ?_); rintro e w_255 ⟨⟨p, rfl, hp⟩, hb⟩; clear ls cs0 cs1 cs2 cs3 cs4 cs5 fs0 fs1 fs2 fs3 fs4 fs5 cr10 cr11 cr12 cr20 cr21 cr22 px0 px1 px2 rx0 rx1 rx2 lx k_212; have K := Dk.below hb; have Bs_256 := Lib.hid (show Bk _ _ _ #[.bool false, .slice none 0 0, .int .i64 0, .bool false, .slice none 0 0, .int .i64 0] from Bs_204.out.below hb); have Ox_257 := Lib.hid (show OD _ (w.heap.size) n (fun j => if j < i then (fun j => mor (a j) (b j) bits) j else D.zero) from Ox_205.out.below hb); have HB_258 := Lib.hid (below_tr HB_206.out hb); clear hb; have RQ_259 := Lib.hid (RQ_207.out.dk K); have RT_260 := Lib.hid (RT_208.out.dk K); have SS_261 := Lib.hid (SS_209.out.dk K); have RM_262 := Lib.hid (RM_210.out.dk K); have SX_263 := Lib.hid (SX_211.out.dk K); clear K Bs_204 Ox_205 HB_206 RQ_207 RT_208 SS_209 RM_210 SX_211; have SP_264 := Lib.hid hp; clear hp; have ls := Bs_256.out.lt; obtain ⟨cs0, cs1, cs2, cs3, cs4, cs5⟩ := Bs_256.out.cells6; have fs0 := Bs_256.out.free 0; have fs1 := Bs_256.out.free 1; have fs2 := Bs_256.out.free 2; have fs3 := Bs_256.out.free 3; have fs4 := Bs_256.out.free 4; have fs5 := Bs_256.out.free 5; have cr10 : w_255.cell? ⟨A1, o1 + i * 3, none⟩ = some (.bool q.b) := (HB_258.out.cell (p := ⟨A1, o1 + i * 3, none⟩) hl1).trans X0.out; have cr11 : w_255.cell? ⟨A1, o1 + i * 3 + 1, none⟩ = some (.slice q.A q.n q.c) := (HB_258.out.cell (p := ⟨A1, o1 + i * 3 + 1, none⟩) hl1).trans X1.out; have cr12 : w_255.cell? ⟨A1, o1 + i * 3 + 2, none⟩ = some (.int .i64 (a i).x) := (HB_258.out.cell (p := ⟨A1, o1 + i * 3 + 2, none⟩) hl1).trans X2.out; have cr20 : w_255.cell? ⟨A2, o2 + i * 3, none⟩ = some (.bool t.b) := (HB_258.out.cell (p := ⟨A2, o2 + i * 3, none⟩) hl2).trans Y0.out; have cr21 : w_255.cell? ⟨A2, o2 + i * 3 + 1, none⟩ = some (.slice t.A t.n t.c) := (HB_258.out.cell (p := ⟨A2, o2 + i * 3 + 1, none⟩) hl2).trans Y1.out; have cr22 : w_255.cell? ⟨A2, o2 + i * 3 + 2, none⟩ = some (.int .i64 (b i).x) := (HB_258.out.cell (p := ⟨A2, o2 + i * 3 + 2, none⟩) hl2).trans Y2.out; obtain ⟨⟨_, px0⟩, ⟨_, px1⟩, ⟨_, px2⟩, rx0, rx1, rx2⟩ := Ox_257.out.there hi2; have lx := Ox_257.out.lt; have k_265 : SX1 (w_255) := (hS1 _).2 ⟨(Below.cell (p := ⟨A1, o1 + i * 3, none⟩) HB_258.out hl1).trans X0.out, (Below.cell (p := ⟨A1, o1 + i * 3 + 1, none⟩) HB_258.out hl1).trans X1.out, (Below.cell (p := ⟨A1, o1 + i * 3 + 2, none⟩) HB_258.out hl1).trans X2.out, (Below.cell (p := ⟨A2, o2 + i * 3, none⟩) HB_258.out hl2).trans Y0.out, (Below.cell (p := ⟨A2, o2 + i * 3 + 1, none⟩) HB_258.out hl2).trans Y1.out, (Below.cell (p := ⟨A2, o2 + i * 3 + 2, none⟩) HB_258.out hl2).trans Y2.out⟩; have y0 := HB_258.out.size; have k_266 : SX1 ((((((w_255.setCell ⟨w_119.heap.size, 0, none⟩ (.bool p.lo.b)).setCell ⟨w_119.heap.size, 1, none⟩ (.slice p.lo.A p.lo.n p.lo.c)).setCell ⟨w_119.heap.size, 2, none⟩ (.int .i64 (Sp.add (Sp.pt (a i)) (Sp.pt (b i).abs) bits).lo.x)).setCell ⟨w_119.heap.size, 3, none⟩ (.bool p.hi.b)).setCell ⟨w_119.heap.size, 4, none⟩ (.slice p.hi.A p.hi.n p.hi.c)).setCell ⟨w_119.heap.size, 5, none⟩ (.int .i64 (Sp.add (Sp.pt (a i)) (Sp.pt (b i).abs) bits).hi.x)) := (hS1 _).2 ⟨(Below.cell (p := ⟨A1, o1 + i * 3, none⟩) (below_st (below_st (below_st (below_st (below_st (below_st HB_258.out 0 (by omega) (.bool p.lo.b)) 1 (by omega) (.slice p.lo.A p.lo.n p.lo.c)) 2 (by omega) (.int .i64 (Sp.add (Sp.pt (a i)) (Sp.pt (b i).abs) bits).lo.x)) 3 (by omega) (.bool p.hi.b)) 4 (by omega) (.slice p.hi.A p.hi.n p.hi.c)) 5 (by omega) (.int .i64 (Sp.add (Sp.pt (a i)) (Sp.pt (b i).abs) bits).hi.x)) hl1).trans X0.out, (Below.cell (p := ⟨A1, o1 + i * 3 + 1, none⟩) (below_st (below_st (below_st (below_st (below_st (below_st HB_258.out 0 (by omega) (.bool p.lo.b)) 1 (by omega) (.slice p.lo.A p.lo.n p.lo.c)) 2 (by omega) (.int .i64 (Sp.add (Sp.pt (a i)) (Sp.pt (b i).abs) bits).lo.x)) 3 (by omega) (.bool p.hi.b)) 4 (by omega) (.slice p.hi.A p.hi.n p.hi.c)) 5 (by omega) (.int .i64 (Sp.add (Sp.pt (a i)) (Sp.pt (b i).abs) bits).hi.x)) hl1).trans X1.out, (Below.cell (p := ⟨A1, o1 + i * 3 + 2, none⟩) (below_st (below_st (below_st (below_st (below_st (below_st HB_258.out 0 (by omega) (.bool p.lo.b)) 1 (by omega) (.slice p.lo.A p.lo.n p.lo.c)) 2 (by omega) (.int .i64 (Sp.add (Sp.pt (a i)) (Sp.pt (b i).abs) bits).lo.x)) 3 (by omega) (.bool p.hi.b)) 4 (by omega) (.slice p.hi.A p.hi.n p.hi.c)) 5 (by omega) (.int .i64 (Sp.add (Sp.pt (a i)) (Sp.pt (b i).abs) bits).hi.x)) hl1).trans X2.out, (Below.cell (p := ⟨A2, o2 + i * 3, none⟩) (below_st (below_st (below_st (below_st (below_st (below_st HB_258.out 0 (by omega) (.bool p.lo.b)) 1 (by omega) (.slice p.lo.A p.lo.n p.lo.c)) 2 (by omega) (.int .i64 (Sp.add (Sp.pt (a i)) (Sp.pt (b i).abs) bits).lo.x)) 3 (by omega) (.bool p.hi.b)) 4 (by omega) (.slice p.hi.A p.hi.n p.hi.c)) 5 (by omega) (.int .i64 (Sp.add (Sp.pt (a i)) (Sp.pt (b i).abs) bits).hi.x)) hl2).trans Y0.out, (Below.cell (p := ⟨A2, o2 + i * 3 + 1, none⟩) (below_st (below_st (below_st (below_st (below_st (below_st HB_258.out 0 (by omega) (.bool p.lo.b)) 1 (by omega) (.slice p.lo.A p.lo.n p.lo.c)) 2 (by omega) (.int .i64 (Sp.add (Sp.pt (a i)) (Sp.pt (b i).abs) bits).lo.x)) 3 (by omega) (.bool p.hi.b)) 4 (by omega) (.slice p.hi.A p.hi.n p.hi.c)) 5 (by omega) (.int .i64 (Sp.add (Sp.pt (a i)) (Sp.pt (b i).abs) bits).hi.x)) hl2).trans Y1.out, (Below.cell (p := ⟨A2, o2 + i * 3 + 2, none⟩) (below_st (below_st (below_st (below_st (below_st (below_st HB_258.out 0 (by omega) (.bool p.lo.b)) 1 (by omega) (.slice p.lo.A p.lo.n p.lo.c)) 2 (by omega) (.int .i64 (Sp.add (Sp.pt (a i)) (Sp.pt (b i).abs) bits).lo.x)) 3 (by omega) (.bool p.hi.b)) 4 (by omega) (.slice p.hi.A p.hi.n p.hi.c)) 5 (by omega) (.int .i64 (Sp.add (Sp.pt (a i)) (Sp.pt (b i).abs) bits).hi.x)) hl2).trans Y2.out⟩; clear y0)
           | (have _ := tok_116; skip; go_at_call 38; clear tok_116; (with_reducible refine (sadd_any (w_181) s x (Sp.pt (a i)) (Sp.pt (b i).abs) bits E T SS_187.out SX_189.out La.out Lb.out hET hb2 hb3 (HT.out.below HB_184.out)).mono ?_); rintro e w_268 ⟨⟨p, rfl, hp⟩, hb⟩; clear ls cs0 cs1 cs2 cs3 cs4 cs5 fs0 fs1 fs2 fs3 fs4 fs5 cr10 cr11 cr12 cr20 cr21 cr22 px0 px1 px2 rx0 rx1 rx2 lx k_190; have K := Dk.below hb; have Bs_269 := Lib.hid (show Bk _ _ _ #[.bool false, .slice none 0 0, .int .i64 0, .bool false, .slice none 0 0, .int .i64 0] from Bs_182.out.below hb); have Ox_270 := Lib.hid (show OD _ (w.heap.size) n (fun j => if j < i then (fun j => mor (a j) (b j) bits) j else D.zero) from Ox_183.out.below hb); have HB_271 := Lib.hid (below_tr HB_184.out hb); clear hb; have RQ_272 := Lib.hid (RQ_185.out.dk K); have RT_273 := Lib.hid (RT_186.out.dk K); have SS_274 := Lib.hid (SS_187.out.dk K); have RM_275 := Lib.hid (RM_188.out.dk K); have SX_276 := Lib.hid (SX_189.out.dk K); clear K Bs_182 Ox_183 HB_184 RQ_185 RT_186 SS_187 RM_188 SX_189; have SP_277 := Lib.hid hp; clear hp; have ls := Bs_269.out.lt; obtain ⟨cs0, cs1, cs2, cs3, cs4, cs5⟩ := Bs_269.out.cells6; have fs0 := Bs_269.out.free 0; have fs1 := Bs_269.out.free 1; have fs2 := Bs_269.out.free 2; have fs3 := Bs_269.out.free 3; have fs4 := Bs_269.out.free 4; have fs5 := Bs_269.out.free 5; have cr10 : w_268.cell? ⟨A1, o1 + i * 3, none⟩ = some (.bool q.b) := (HB_271.out.cell (p := ⟨A1, o1 + i * 3, none⟩) hl1).trans X0.out; have cr11 : w_268.cell? ⟨A1, o1 + i * 3 + 1, none⟩ = some (.slice q.A q.n q.c) := (HB_271.out.cell (p := ⟨A1, o1 + i * 3 + 1, none⟩) hl1).trans X1.out; have cr12 : w_268.cell? ⟨A1, o1 + i * 3 + 2, none⟩ = some (.int .i64 (a i).x) := (HB_271.out.cell (p := ⟨A1, o1 + i * 3 + 2, none⟩) hl1).trans X2.out; have cr20 : w_268.cell? ⟨A2, o2 + i * 3, none⟩ = some (.bool t.b) := (HB_271.out.cell (p := ⟨A2, o2 + i * 3, none⟩) hl2).trans Y0.out; have cr21 : w_268.cell? ⟨A2, o2 + i * 3 + 1, none⟩ = some (.slice t.A t.n t.c) := (HB_271.out.cell (p := ⟨A2, o2 + i * 3 + 1, none⟩) hl2).trans Y1.out; have cr22 : w_268.cell? ⟨A2, o2 + i * 3 + 2, none⟩ = some (.int .i64 (b i).x) := (HB_271.out.cell (p := ⟨A2, o2 + i * 3 + 2, none⟩) hl2).trans Y2.out; obtain ⟨⟨_, px0⟩, ⟨_, px1⟩, ⟨_, px2⟩, rx0, rx1, rx2⟩ := Ox_270.out.there hi2; have lx := Ox_270.out.lt; have k_278 : SX1 (w_268) := (hS1 _).2 ⟨(Below.cell (p := ⟨A1, o1 + i * 3, none⟩) HB_271.out hl1).trans X0.out, (Below.cell (p := ⟨A1, o1 + i * 3 + 1, none⟩) HB_271.out hl1).trans X1.out, (Below.cell (p := ⟨A1, o1 + i * 3 + 2, none⟩) HB_271.out hl1).trans X2.out, (Below.cell (p := ⟨A2, o2 + i * 3, none⟩) HB_271.out hl2).trans Y0.out, (Below.cell (p := ⟨A2, o2 + i * 3 + 1, none⟩) HB_271.out hl2).trans Y1.out, (Below.cell (p := ⟨A2, o2 + i * 3 + 2, none⟩) HB_271.out hl2).trans Y2.out⟩; have y0 := HB_271.out.size; have k_279 : SX1 ((((((w_268.setCell ⟨w_138.heap.size, 0, none⟩ (.bool p.lo.b)).setCell ⟨w_138.heap.size, 1, none⟩ (.slice p.lo.A p.lo.n p.lo.c)).setCell ⟨w_138.heap.size, 2, none⟩ (.int .i64 (Sp.add (Sp.pt (a i)) (Sp.pt (b i).abs) bits).lo.x)).setCell ⟨w_138.heap.size, 3, none⟩ (.bool p.hi.b)).setCell ⟨w_138.heap.size, 4, none⟩ (.slice p.hi.A p.hi.n p.hi.c)).setCell ⟨w_138.heap.size, 5, none⟩ (.int .i64 (Sp.add (Sp.pt (a i)) (Sp.pt (b i).abs) bits).hi.x)) := (hS1 _).2 ⟨(Below.cell (p := ⟨A1, o1 + i * 3, none⟩) (below_st (below_st (below_st (below_st (below_st (below_st HB_271.out 0 (by omega) (.bool p.lo.b)) 1 (by omega) (.slice p.lo.A p.lo.n p.lo.c)) 2 (by omega) (.int .i64 (Sp.add (Sp.pt (a i)) (Sp.pt (b i).abs) bits).lo.x)) 3 (by omega) (.bool p.hi.b)) 4 (by omega) (.slice p.hi.A p.hi.n p.hi.c)) 5 (by omega) (.int .i64 (Sp.add (Sp.pt (a i)) (Sp.pt (b i).abs) bits).hi.x)) hl1).trans X0.out, (Below.cell (p := ⟨A1, o1 + i * 3 + 1, none⟩) (below_st (below_st (below_st (below_st (below_st (below_st HB_271.out 0 (by omega) (.bool p.lo.b)) 1 (by omega) (.slice p.lo.A p.lo.n p.lo.c)) 2 (by omega) (.int .i64 (Sp.add (Sp.pt (a i)) (Sp.pt (b i).abs) bits).lo.x)) 3 (by omega) (.bool p.hi.b)) 4 (by omega) (.slice p.hi.A p.hi.n p.hi.c)) 5 (by omega) (.int .i64 (Sp.add (Sp.pt (a i)) (Sp.pt (b i).abs) bits).hi.x)) hl1).trans X1.out, (Below.cell (p := ⟨A1, o1 + i * 3 + 2, none⟩) (below_st (below_st (below_st (below_st (below_st (below_st HB_271.out 0 (by omega) (.bool p.lo.b)) 1 (by omega) (.slice p.lo.A p.lo.n p.lo.c)) 2 (by omega) (.int .i64 (Sp.add (Sp.pt (a i)) (Sp.pt (b i).abs) bits).lo.x)) 3 (by omega) (.bool p.hi.b)) 4 (by omega) (.slice p.hi.A p.hi.n p.hi.c)) 5 (by omega) (.int .i64 (Sp.add (Sp.pt (a i)) (Sp.pt (b i).abs) bits).hi.x)) hl1).trans X2.out, (Below.cell (p := ⟨A2, o2 + i * 3, none⟩) (below_st (below_st (below_st (below_st (below_st (below_st HB_271.out 0 (by omega) (.bool p.lo.b)) 1 (by omega) (.slice p.lo.A p.lo.n p.lo.c)) 2 (by omega) (.int .i64 (Sp.add (Sp.pt (a i)) (Sp.pt (b i).abs) bits).lo.x)) 3 (by omega) (.bool p.hi.b)) 4 (by omega) (.slice p.hi.A p.hi.n p.hi.c)) 5 (by omega) (.int .i64 (Sp.add (Sp.pt (a i)) (Sp.pt (b i).abs) bits).hi.x)) hl2).trans Y0.out, (Below.cell (p := ⟨A2, o2 + i * 3 + 1, none⟩) (below_st (below_st (below_st (below_st (below_st (below_st HB_271.out 0 (by omega) (.bool p.lo.b)) 1 (by omega) (.slice p.lo.A p.lo.n p.lo.c)) 2 (by omega) (.int .i64 (Sp.add (Sp.pt (a i)) (Sp.pt (b i).abs) bits).lo.x)) 3 (by omega) (.bool p.hi.b)) 4 (by omega) (.slice p.hi.A p.hi.n p.hi.c)) 5 (by omega) (.int .i64 (Sp.add (Sp.pt (a i)) (Sp.pt (b i).abs) bits).hi.x)) hl2).trans Y1.out, (Below.cell (p := ⟨A2, o2 + i * 3 + 2, none⟩) (below_st (below_st (below_st (below_st (below_st (below_st HB_271.out 0 (by omega) (.bool p.lo.b)) 1 (by omega) (.slice p.lo.A p.lo.n p.lo.c)) 2 (by omega) (.int .i64 (Sp.add (Sp.pt (a i)) (Sp.pt (b i).abs) bits).lo.x)) 3 (by omega) (.bool p.hi.b)) 4 (by omega) (.slice p.hi.A p.hi.n p.hi.c)) 5 (by omega) (.int .i64 (Sp.add (Sp.pt (a i)) (Sp.pt (b i).abs) bits).hi.x)) hl2).trans Y2.out⟩; clear y0))
        all_goals (go_wp2_with fail; go_meet; first | (exact ⟨w_214.heap.size, p, rfl, rfl, (by have := Ox_215.out.lt; have := HB_216.out.size; omega), (Bk.new _ 62 #[.bool p.lo.b, .slice p.lo.A p.lo.n p.lo.c, .int .i64 (Sp.add (Sp.pt (a i)) (Sp.pt (b i).abs) bits).lo.x, .bool p.hi.b, .slice p.hi.A p.hi.n p.hi.c, .int .i64 (Sp.add (Sp.pt (a i)) (Sp.pt (b i).abs) bits).hi.x]), (Ox_215.out.al _), (below_al HB_216.out _), (SP_222.out.dk ((Dk.refl _).alloc _))⟩) | (have y0 := Bs_243.out.lt; have y1 := Ox_244.out.lt; have y2 := HB_245.out.size; exact ⟨wr.heap.size, p, rfl, rfl, (by omega), ((((((Bs_243.out.set 0 (.bool p.lo.b)).set 1 (.slice p.lo.A p.lo.n p.lo.c)).set 2 (.int .i64 (Sp.add (Sp.pt (a i)) (Sp.pt (b i).abs) bits).lo.x)).set 3 (.bool p.hi.b)).set 4 (.slice p.hi.A p.hi.n p.hi.c)).set 5 (.int .i64 (Sp.add (Sp.pt (a i)) (Sp.pt (b i).abs) bits).hi.x)), ((((((Ox_244.out.st (cs := #[.bool false, .slice none 0 0, .int .i64 0, .bool false, .slice none 0 0, .int .i64 0]) Bs_243.out (by omega) 0 (by intro _ hh; cases hh) (.bool p.lo.b)).st (cs := #[.bool p.lo.b, .slice none 0 0, .int .i64 0, .bool false, .slice none 0 0, .int .i64 0]) (Bs_243.out.set 0 (.bool p.lo.b)) (by omega) 1 (by intro _ hh; cases hh) (.slice p.lo.A p.lo.n p.lo.c)).st (cs := #[.bool p.lo.b, .slice p.lo.A p.lo.n p.lo.c, .int .i64 0, .bool false, .slice none 0 0, .int .i64 0]) ((Bs_243.out.set 0 (.bool p.lo.b)).set 1 (.slice p.lo.A p.lo.n p.lo.c)) (by omega) 2 (by intro _ hh; cases hh) (.int .i64 (Sp.add (Sp.pt (a i)) (Sp.pt (b i).abs) bits).lo.x)).st (cs := #[.bool p.lo.b, .slice p.lo.A p.lo.n p.lo.c, .int .i64 (Sp.add (Sp.pt (a i)) (Sp.pt (b i).abs) bits).lo.x, .bool false, .slice none 0 0, .int .i64 0]) (((Bs_243.out.set 0 (.bool p.lo.b)).set 1 (.slice p.lo.A p.lo.n p.lo.c)).set 2 (.int .i64 (Sp.add (Sp.pt (a i)) (Sp.pt (b i).abs) bits).lo.x)) (by omega) 3 (by intro _ hh; cases hh) (.bool p.hi.b)).st (cs := #[.bool p.lo.b, .slice p.lo.A p.lo.n p.lo.c, .int .i64 (Sp.add (Sp.pt (a i)) (Sp.pt (b i).abs) bits).lo.x, .bool p.hi.b, .slice none 0 0, .int .i64 0]) ((((Bs_243.out.set 0 (.bool p.lo.b)).set 1 (.slice p.lo.A p.lo.n p.lo.c)).set 2 (.int .i64 (Sp.add (Sp.pt (a i)) (Sp.pt (b i).abs) bits).lo.x)).set 3 (.bool p.hi.b)) (by omega) 4 (by intro _ hh; cases hh) (.slice p.hi.A p.hi.n p.hi.c)).st (cs := #[.bool p.lo.b, .slice p.lo.A p.lo.n p.lo.c, .int .i64 (Sp.add (Sp.pt (a i)) (Sp.pt (b i).abs) bits).lo.x, .bool p.hi.b, .slice p.hi.A p.hi.n p.hi.c, .int .i64 0]) (((((Bs_243.out.set 0 (.bool p.lo.b)).set 1 (.slice p.lo.A p.lo.n p.lo.c)).set 2 (.int .i64 (Sp.add (Sp.pt (a i)) (Sp.pt (b i).abs) bits).lo.x)).set 3 (.bool p.hi.b)).set 4 (.slice p.hi.A p.hi.n p.hi.c)) (by omega) 5 (by intro _ hh; cases hh) (.int .i64 (Sp.add (Sp.pt (a i)) (Sp.pt (b i).abs) bits).hi.x)), (below_st (below_st (below_st (below_st (below_st (below_st HB_245.out 0 (by omega) (.bool p.lo.b)) 1 (by omega) (.slice p.lo.A p.lo.n p.lo.c)) 2 (by omega) (.int .i64 (Sp.add (Sp.pt (a i)) (Sp.pt (b i).abs) bits).lo.x)) 3 (by omega) (.bool p.hi.b)) 4 (by omega) (.slice p.hi.A p.hi.n p.hi.c)) 5 (by omega) (.int .i64 (Sp.add (Sp.pt (a i)) (Sp.pt (b i).abs) bits).hi.x)), (SP_251.out.dk (((((((Dk.refl _).set (cs := #[.bool false, .slice none 0 0, .int .i64 0, .bool false, .slice none 0 0, .int .i64 0]) Bs_243.out 0 (by intro _ hh; cases hh) (.bool p.lo.b)).set (cs := #[.bool p.lo.b, .slice none 0 0, .int .i64 0, .bool false, .slice none 0 0, .int .i64 0]) (Bs_243.out.set 0 (.bool p.lo.b)) 1 (by intro _ hh; cases hh) (.slice p.lo.A p.lo.n p.lo.c)).set (cs := #[.bool p.lo.b, .slice p.lo.A p.lo.n p.lo.c, .int .i64 0, .bool false, .slice none 0 0, .int .i64 0]) ((Bs_243.out.set 0 (.bool p.lo.b)).set 1 (.slice p.lo.A p.lo.n p.lo.c)) 2 (by intro _ hh; cases hh) (.int .i64 (Sp.add (Sp.pt (a i)) (Sp.pt (b i).abs) bits).lo.x)).set (cs := #[.bool p.lo.b, .slice p.lo.A p.lo.n p.lo.c, .int .i64 (Sp.add (Sp.pt (a i)) (Sp.pt (b i).abs) bits).lo.x, .bool false, .slice none 0 0, .int .i64 0]) (((Bs_243.out.set 0 (.bool p.lo.b)).set 1 (.slice p.lo.A p.lo.n p.lo.c)).set 2 (.int .i64 (Sp.add (Sp.pt (a i)) (Sp.pt (b i).abs) bits).lo.x)) 3 (by intro _ hh; cases hh) (.bool p.hi.b)).set (cs := #[.bool p.lo.b, .slice p.lo.A p.lo.n p.lo.c, .int .i64 (Sp.add (Sp.pt (a i)) (Sp.pt (b i).abs) bits).lo.x, .bool p.hi.b, .slice none 0 0, .int .i64 0]) ((((Bs_243.out.set 0 (.bool p.lo.b)).set 1 (.slice p.lo.A p.lo.n p.lo.c)).set 2 (.int .i64 (Sp.add (Sp.pt (a i)) (Sp.pt (b i).abs) bits).lo.x)).set 3 (.bool p.hi.b)) 4 (by intro _ hh; cases hh) (.slice p.hi.A p.hi.n p.hi.c)).set (cs := #[.bool p.lo.b, .slice p.lo.A p.lo.n p.lo.c, .int .i64 (Sp.add (Sp.pt (a i)) (Sp.pt (b i).abs) bits).lo.x, .bool p.hi.b, .slice p.hi.A p.hi.n p.hi.c, .int .i64 0]) (((((Bs_243.out.set 0 (.bool p.lo.b)).set 1 (.slice p.lo.A p.lo.n p.lo.c)).set 2 (.int .i64 (Sp.add (Sp.pt (a i)) (Sp.pt (b i).abs) bits).lo.x)).set 3 (.bool p.hi.b)).set 4 (.slice p.hi.A p.hi.n p.hi.c)) 5 (by intro _ hh; cases hh) (.int .i64 (Sp.add (Sp.pt (a i)) (Sp.pt (b i).abs) bits).hi.x)))⟩) | (have y0 := Bs_256.out.lt; have y1 := Ox_257.out.lt; have y2 := HB_258.out.size; exact ⟨w_119.heap.size, p, rfl, rfl, (by omega), ((((((Bs_256.out.set 0 (.bool p.lo.b)).set 1 (.slice p.lo.A p.lo.n p.lo.c)).set 2 (.int .i64 (Sp.add (Sp.pt (a i)) (Sp.pt (b i).abs) bits).lo.x)).set 3 (.bool p.hi.b)).set 4 (.slice p.hi.A p.hi.n p.hi.c)).set 5 (.int .i64 (Sp.add (Sp.pt (a i)) (Sp.pt (b i).abs) bits).hi.x)), ((((((Ox_257.out.st (cs := #[.bool false, .slice none 0 0, .int .i64 0, .bool false, .slice none 0 0, .int .i64 0]) Bs_256.out (by omega) 0 (by intro _ hh; cases hh) (.bool p.lo.b)).st (cs := #[.bool p.lo.b, .slice none 0 0, .int .i64 0, .bool false, .slice none 0 0, .int .i64 0]) (Bs_256.out.set 0 (.bool p.lo.b)) (by omega) 1 (by intro _ hh; cases hh) (.slice p.lo.A p.lo.n p.lo.c)).st (cs := #[.bool p.lo.b, .slice p.lo.A p.lo.n p.lo.c, .int .i64 0, .bool false, .slice none 0 0, .int .i64 0]) ((Bs_256.out.set 0 (.bool p.lo.b)).set 1 (.slice p.lo.A p.lo.n p.lo.c)) (by omega) 2 (by intro _ hh; cases hh) (.int .i64 (Sp.add (Sp.pt (a i)) (Sp.pt (b i).abs) bits).lo.x)).st (cs := #[.bool p.lo.b, .slice p.lo.A p.lo.n p.lo.c, .int .i64 (Sp.add (Sp.pt (a i)) (Sp.pt (b i).abs) bits).lo.x, .bool false, .slice none 0 0, .int .i64 0]) (((Bs_256.out.set 0 (.bool p.lo.b)).set 1 (.slice p.lo.A p.lo.n p.lo.c)).set 2 (.int .i64 (Sp.add (Sp.pt (a i)) (Sp.pt (b i).abs) bits).lo.x)) (by omega) 3 (by intro _ hh; cases hh) (.bool p.hi.b)).st (cs := #[.bool p.lo.b, .slice p.lo.A p.lo.n p.lo.c, .int .i64 (Sp.add (Sp.pt (a i)) (Sp.pt (b i).abs) bits).lo.x, .bool p.hi.b, .slice none 0 0, .int .i64 0]) ((((Bs_256.out.set 0 (.bool p.lo.b)).set 1 (.slice p.lo.A p.lo.n p.lo.c)).set 2 (.int .i64 (Sp.add (Sp.pt (a i)) (Sp.pt (b i).abs) bits).lo.x)).set 3 (.bool p.hi.b)) (by omega) 4 (by intro _ hh; cases hh) (.slice p.hi.A p.hi.n p.hi.c)).st (cs := #[.bool p.lo.b, .slice p.lo.A p.lo.n p.lo.c, .int .i64 (Sp.add (Sp.pt (a i)) (Sp.pt (b i).abs) bits).lo.x, .bool p.hi.b, .slice p.hi.A p.hi.n p.hi.c, .int .i64 0]) (((((Bs_256.out.set 0 (.bool p.lo.b)).set 1 (.slice p.lo.A p.lo.n p.lo.c)).set 2 (.int .i64 (Sp.add (Sp.pt (a i)) (Sp.pt (b i).abs) bits).lo.x)).set 3 (.bool p.hi.b)).set 4 (.slice p.hi.A p.hi.n p.hi.c)) (by omega) 5 (by intro _ hh; cases hh) (.int .i64 (Sp.add (Sp.pt (a i)) (Sp.pt (b i).abs) bits).hi.x)), (below_st (below_st (below_st (below_st (below_st (below_st HB_258.out 0 (by omega) (.bool p.lo.b)) 1 (by omega) (.slice p.lo.A p.lo.n p.lo.c)) 2 (by omega) (.int .i64 (Sp.add (Sp.pt (a i)) (Sp.pt (b i).abs) bits).lo.x)) 3 (by omega) (.bool p.hi.b)) 4 (by omega) (.slice p.hi.A p.hi.n p.hi.c)) 5 (by omega) (.int .i64 (Sp.add (Sp.pt (a i)) (Sp.pt (b i).abs) bits).hi.x)), (SP_264.out.dk (((((((Dk.refl _).set (cs := #[.bool false, .slice none 0 0, .int .i64 0, .bool false, .slice none 0 0, .int .i64 0]) Bs_256.out 0 (by intro _ hh; cases hh) (.bool p.lo.b)).set (cs := #[.bool p.lo.b, .slice none 0 0, .int .i64 0, .bool false, .slice none 0 0, .int .i64 0]) (Bs_256.out.set 0 (.bool p.lo.b)) 1 (by intro _ hh; cases hh) (.slice p.lo.A p.lo.n p.lo.c)).set (cs := #[.bool p.lo.b, .slice p.lo.A p.lo.n p.lo.c, .int .i64 0, .bool false, .slice none 0 0, .int .i64 0]) ((Bs_256.out.set 0 (.bool p.lo.b)).set 1 (.slice p.lo.A p.lo.n p.lo.c)) 2 (by intro _ hh; cases hh) (.int .i64 (Sp.add (Sp.pt (a i)) (Sp.pt (b i).abs) bits).lo.x)).set (cs := #[.bool p.lo.b, .slice p.lo.A p.lo.n p.lo.c, .int .i64 (Sp.add (Sp.pt (a i)) (Sp.pt (b i).abs) bits).lo.x, .bool false, .slice none 0 0, .int .i64 0]) (((Bs_256.out.set 0 (.bool p.lo.b)).set 1 (.slice p.lo.A p.lo.n p.lo.c)).set 2 (.int .i64 (Sp.add (Sp.pt (a i)) (Sp.pt (b i).abs) bits).lo.x)) 3 (by intro _ hh; cases hh) (.bool p.hi.b)).set (cs := #[.bool p.lo.b, .slice p.lo.A p.lo.n p.lo.c, .int .i64 (Sp.add (Sp.pt (a i)) (Sp.pt (b i).abs) bits).lo.x, .bool p.hi.b, .slice none 0 0, .int .i64 0]) ((((Bs_256.out.set 0 (.bool p.lo.b)).set 1 (.slice p.lo.A p.lo.n p.lo.c)).set 2 (.int .i64 (Sp.add (Sp.pt (a i)) (Sp.pt (b i).abs) bits).lo.x)).set 3 (.bool p.hi.b)) 4 (by intro _ hh; cases hh) (.slice p.hi.A p.hi.n p.hi.c)).set (cs := #[.bool p.lo.b, .slice p.lo.A p.lo.n p.lo.c, .int .i64 (Sp.add (Sp.pt (a i)) (Sp.pt (b i).abs) bits).lo.x, .bool p.hi.b, .slice p.hi.A p.hi.n p.hi.c, .int .i64 0]) (((((Bs_256.out.set 0 (.bool p.lo.b)).set 1 (.slice p.lo.A p.lo.n p.lo.c)).set 2 (.int .i64 (Sp.add (Sp.pt (a i)) (Sp.pt (b i).abs) bits).lo.x)).set 3 (.bool p.hi.b)).set 4 (.slice p.hi.A p.hi.n p.hi.c)) 5 (by intro _ hh; cases hh) (.int .i64 (Sp.add (Sp.pt (a i)) (Sp.pt (b i).abs) bits).hi.x)))⟩) | (have y0 := Bs_269.out.lt; have y1 := Ox_270.out.lt; have y2 := HB_271.out.size; exact ⟨w_138.heap.size, p, rfl, rfl, (by omega), ((((((Bs_269.out.set 0 (.bool p.lo.b)).set 1 (.slice p.lo.A p.lo.n p.lo.c)).set 2 (.int .i64 (Sp.add (Sp.pt (a i)) (Sp.pt (b i).abs) bits).lo.x)).set 3 (.bool p.hi.b)).set 4 (.slice p.hi.A p.hi.n p.hi.c)).set 5 (.int .i64 (Sp.add (Sp.pt (a i)) (Sp.pt (b i).abs) bits).hi.x)), ((((((Ox_270.out.st (cs := #[.bool false, .slice none 0 0, .int .i64 0, .bool false, .slice none 0 0, .int .i64 0]) Bs_269.out (by omega) 0 (by intro _ hh; cases hh) (.bool p.lo.b)).st (cs := #[.bool p.lo.b, .slice none 0 0, .int .i64 0, .bool false, .slice none 0 0, .int .i64 0]) (Bs_269.out.set 0 (.bool p.lo.b)) (by omega) 1 (by intro _ hh; cases hh) (.slice p.lo.A p.lo.n p.lo.c)).st (cs := #[.bool p.lo.b, .slice p.lo.A p.lo.n p.lo.c, .int .i64 0, .bool false, .slice none 0 0, .int .i64 0]) ((Bs_269.out.set 0 (.bool p.lo.b)).set 1 (.slice p.lo.A p.lo.n p.lo.c)) (by omega) 2 (by intro _ hh; cases hh) (.int .i64 (Sp.add (Sp.pt (a i)) (Sp.pt (b i).abs) bits).lo.x)).st (cs := #[.bool p.lo.b, .slice p.lo.A p.lo.n p.lo.c, .int .i64 (Sp.add (Sp.pt (a i)) (Sp.pt (b i).abs) bits).lo.x, .bool false, .slice none 0 0, .int .i64 0]) (((Bs_269.out.set 0 (.bool p.lo.b)).set 1 (.slice p.lo.A p.lo.n p.lo.c)).set 2 (.int .i64 (Sp.add (Sp.pt (a i)) (Sp.pt (b i).abs) bits).lo.x)) (by omega) 3 (by intro _ hh; cases hh) (.bool p.hi.b)).st (cs := #[.bool p.lo.b, .slice p.lo.A p.lo.n p.lo.c, .int .i64 (Sp.add (Sp.pt (a i)) (Sp.pt (b i).abs) bits).lo.x, .bool p.hi.b, .slice none 0 0, .int .i64 0]) ((((Bs_269.out.set 0 (.bool p.lo.b)).set 1 (.slice p.lo.A p.lo.n p.lo.c)).set 2 (.int .i64 (Sp.add (Sp.pt (a i)) (Sp.pt (b i).abs) bits).lo.x)).set 3 (.bool p.hi.b)) (by omega) 4 (by intro _ hh; cases hh) (.slice p.hi.A p.hi.n p.hi.c)).st (cs := #[.bool p.lo.b, .slice p.lo.A p.lo.n p.lo.c, .int .i64 (Sp.add (Sp.pt (a i)) (Sp.pt (b i).abs) bits).lo.x, .bool p.hi.b, .slice p.hi.A p.hi.n p.hi.c, .int .i64 0]) (((((Bs_269.out.set 0 (.bool p.lo.b)).set 1 (.slice p.lo.A p.lo.n p.lo.c)).set 2 (.int .i64 (Sp.add (Sp.pt (a i)) (Sp.pt (b i).abs) bits).lo.x)).set 3 (.bool p.hi.b)).set 4 (.slice p.hi.A p.hi.n p.hi.c)) (by omega) 5 (by intro _ hh; cases hh) (.int .i64 (Sp.add (Sp.pt (a i)) (Sp.pt (b i).abs) bits).hi.x)), (below_st (below_st (below_st (below_st (below_st (below_st HB_271.out 0 (by omega) (.bool p.lo.b)) 1 (by omega) (.slice p.lo.A p.lo.n p.lo.c)) 2 (by omega) (.int .i64 (Sp.add (Sp.pt (a i)) (Sp.pt (b i).abs) bits).lo.x)) 3 (by omega) (.bool p.hi.b)) 4 (by omega) (.slice p.hi.A p.hi.n p.hi.c)) 5 (by omega) (.int .i64 (Sp.add (Sp.pt (a i)) (Sp.pt (b i).abs) bits).hi.x)), (SP_277.out.dk (((((((Dk.refl _).set (cs := #[.bool false, .slice none 0 0, .int .i64 0, .bool false, .slice none 0 0, .int .i64 0]) Bs_269.out 0 (by intro _ hh; cases hh) (.bool p.lo.b)).set (cs := #[.bool p.lo.b, .slice none 0 0, .int .i64 0, .bool false, .slice none 0 0, .int .i64 0]) (Bs_269.out.set 0 (.bool p.lo.b)) 1 (by intro _ hh; cases hh) (.slice p.lo.A p.lo.n p.lo.c)).set (cs := #[.bool p.lo.b, .slice p.lo.A p.lo.n p.lo.c, .int .i64 0, .bool false, .slice none 0 0, .int .i64 0]) ((Bs_269.out.set 0 (.bool p.lo.b)).set 1 (.slice p.lo.A p.lo.n p.lo.c)) 2 (by intro _ hh; cases hh) (.int .i64 (Sp.add (Sp.pt (a i)) (Sp.pt (b i).abs) bits).lo.x)).set (cs := #[.bool p.lo.b, .slice p.lo.A p.lo.n p.lo.c, .int .i64 (Sp.add (Sp.pt (a i)) (Sp.pt (b i).abs) bits).lo.x, .bool false, .slice none 0 0, .int .i64 0]) (((Bs_269.out.set 0 (.bool p.lo.b)).set 1 (.slice p.lo.A p.lo.n p.lo.c)).set 2 (.int .i64 (Sp.add (Sp.pt (a i)) (Sp.pt (b i).abs) bits).lo.x)) 3 (by intro _ hh; cases hh) (.bool p.hi.b)).set (cs := #[.bool p.lo.b, .slice p.lo.A p.lo.n p.lo.c, .int .i64 (Sp.add (Sp.pt (a i)) (Sp.pt (b i).abs) bits).lo.x, .bool p.hi.b, .slice none 0 0, .int .i64 0]) ((((Bs_269.out.set 0 (.bool p.lo.b)).set 1 (.slice p.lo.A p.lo.n p.lo.c)).set 2 (.int .i64 (Sp.add (Sp.pt (a i)) (Sp.pt (b i).abs) bits).lo.x)).set 3 (.bool p.hi.b)) 4 (by intro _ hh; cases hh) (.slice p.hi.A p.hi.n p.hi.c)).set (cs := #[.bool p.lo.b, .slice p.lo.A p.lo.n p.lo.c, .int .i64 (Sp.add (Sp.pt (a i)) (Sp.pt (b i).abs) bits).lo.x, .bool p.hi.b, .slice p.hi.A p.hi.n p.hi.c, .int .i64 0]) (((((Bs_269.out.set 0 (.bool p.lo.b)).set 1 (.slice p.lo.A p.lo.n p.lo.c)).set 2 (.int .i64 (Sp.add (Sp.pt (a i)) (Sp.pt (b i).abs) bits).lo.x)).set 3 (.bool p.hi.b)).set 4 (.slice p.hi.A p.hi.n p.hi.c)) 5 (by intro _ hh; cases hh) (.int .i64 (Sp.add (Sp.pt (a i)) (Sp.pt (b i).abs) bits).hi.x)))⟩) | (have y0 := Bs_230.out.lt; have y1 := Ox_231.out.lt; have y2 := HB_232.out.size; exact ⟨w_169.heap.size, p, rfl, rfl, (by omega), ((((((Bs_230.out.set 0 (.bool p.lo.b)).set 1 (.slice p.lo.A p.lo.n p.lo.c)).set 2 (.int .i64 (Sp.add (Sp.pt (a i)) (Sp.pt (b i).abs) bits).lo.x)).set 3 (.bool p.hi.b)).set 4 (.slice p.hi.A p.hi.n p.hi.c)).set 5 (.int .i64 (Sp.add (Sp.pt (a i)) (Sp.pt (b i).abs) bits).hi.x)), ((((((Ox_231.out.st (cs := #[.bool false, .slice none 0 0, .int .i64 0, .bool false, .slice none 0 0, .int .i64 0]) Bs_230.out (by omega) 0 (by intro _ hh; cases hh) (.bool p.lo.b)).st (cs := #[.bool p.lo.b, .slice none 0 0, .int .i64 0, .bool false, .slice none 0 0, .int .i64 0]) (Bs_230.out.set 0 (.bool p.lo.b)) (by omega) 1 (by intro _ hh; cases hh) (.slice p.lo.A p.lo.n p.lo.c)).st (cs := #[.bool p.lo.b, .slice p.lo.A p.lo.n p.lo.c, .int .i64 0, .bool false, .slice none 0 0, .int .i64 0]) ((Bs_230.out.set 0 (.bool p.lo.b)).set 1 (.slice p.lo.A p.lo.n p.lo.c)) (by omega) 2 (by intro _ hh; cases hh) (.int .i64 (Sp.add (Sp.pt (a i)) (Sp.pt (b i).abs) bits).lo.x)).st (cs := #[.bool p.lo.b, .slice p.lo.A p.lo.n p.lo.c, .int .i64 (Sp.add (Sp.pt (a i)) (Sp.pt (b i).abs) bits).lo.x, .bool false, .slice none 0 0, .int .i64 0]) (((Bs_230.out.set 0 (.bool p.lo.b)).set 1 (.slice p.lo.A p.lo.n p.lo.c)).set 2 (.int .i64 (Sp.add (Sp.pt (a i)) (Sp.pt (b i).abs) bits).lo.x)) (by omega) 3 (by intro _ hh; cases hh) (.bool p.hi.b)).st (cs := #[.bool p.lo.b, .slice p.lo.A p.lo.n p.lo.c, .int .i64 (Sp.add (Sp.pt (a i)) (Sp.pt (b i).abs) bits).lo.x, .bool p.hi.b, .slice none 0 0, .int .i64 0]) ((((Bs_230.out.set 0 (.bool p.lo.b)).set 1 (.slice p.lo.A p.lo.n p.lo.c)).set 2 (.int .i64 (Sp.add (Sp.pt (a i)) (Sp.pt (b i).abs) bits).lo.x)).set 3 (.bool p.hi.b)) (by omega) 4 (by intro _ hh; cases hh) (.slice p.hi.A p.hi.n p.hi.c)).st (cs := #[.bool p.lo.b, .slice p.lo.A p.lo.n p.lo.c, .int .i64 (Sp.add (Sp.pt (a i)) (Sp.pt (b i).abs) bits).lo.x, .bool p.hi.b, .slice p.hi.A p.hi.n p.hi.c, .int .i64 0]) (((((Bs_230.out.set 0 (.bool p.lo.b)).set 1 (.slice p.lo.A p.lo.n p.lo.c)).set 2 (.int .i64 (Sp.add (Sp.pt (a i)) (Sp.pt (b i).abs) bits).lo.x)).set 3 (.bool p.hi.b)).set 4 (.slice p.hi.A p.hi.n p.hi.c)) (by omega) 5 (by intro _ hh; cases hh) (.int .i64 (Sp.add (Sp.pt (a i)) (Sp.pt (b i).abs) bits).hi.x)), (below_st (below_st (below_st (below_st (below_st (below_st HB_232.out 0 (by omega) (.bool p.lo.b)) 1 (by omega) (.slice p.lo.A p.lo.n p.lo.c)) 2 (by omega) (.int .i64 (Sp.add (Sp.pt (a i)) (Sp.pt (b i).abs) bits).lo.x)) 3 (by omega) (.bool p.hi.b)) 4 (by omega) (.slice p.hi.A p.hi.n p.hi.c)) 5 (by omega) (.int .i64 (Sp.add (Sp.pt (a i)) (Sp.pt (b i).abs) bits).hi.x)), (SP_238.out.dk (((((((Dk.refl _).set (cs := #[.bool false, .slice none 0 0, .int .i64 0, .bool false, .slice none 0 0, .int .i64 0]) Bs_230.out 0 (by intro _ hh; cases hh) (.bool p.lo.b)).set (cs := #[.bool p.lo.b, .slice none 0 0, .int .i64 0, .bool false, .slice none 0 0, .int .i64 0]) (Bs_230.out.set 0 (.bool p.lo.b)) 1 (by intro _ hh; cases hh) (.slice p.lo.A p.lo.n p.lo.c)).set (cs := #[.bool p.lo.b, .slice p.lo.A p.lo.n p.lo.c, .int .i64 0, .bool false, .slice none 0 0, .int .i64 0]) ((Bs_230.out.set 0 (.bool p.lo.b)).set 1 (.slice p.lo.A p.lo.n p.lo.c)) 2 (by intro _ hh; cases hh) (.int .i64 (Sp.add (Sp.pt (a i)) (Sp.pt (b i).abs) bits).lo.x)).set (cs := #[.bool p.lo.b, .slice p.lo.A p.lo.n p.lo.c, .int .i64 (Sp.add (Sp.pt (a i)) (Sp.pt (b i).abs) bits).lo.x, .bool false, .slice none 0 0, .int .i64 0]) (((Bs_230.out.set 0 (.bool p.lo.b)).set 1 (.slice p.lo.A p.lo.n p.lo.c)).set 2 (.int .i64 (Sp.add (Sp.pt (a i)) (Sp.pt (b i).abs) bits).lo.x)) 3 (by intro _ hh; cases hh) (.bool p.hi.b)).set (cs := #[.bool p.lo.b, .slice p.lo.A p.lo.n p.lo.c, .int .i64 (Sp.add (Sp.pt (a i)) (Sp.pt (b i).abs) bits).lo.x, .bool p.hi.b, .slice none 0 0, .int .i64 0]) ((((Bs_230.out.set 0 (.bool p.lo.b)).set 1 (.slice p.lo.A p.lo.n p.lo.c)).set 2 (.int .i64 (Sp.add (Sp.pt (a i)) (Sp.pt (b i).abs) bits).lo.x)).set 3 (.bool p.hi.b)) 4 (by intro _ hh; cases hh) (.slice p.hi.A p.hi.n p.hi.c)).set (cs := #[.bool p.lo.b, .slice p.lo.A p.lo.n p.lo.c, .int .i64 (Sp.add (Sp.pt (a i)) (Sp.pt (b i).abs) bits).lo.x, .bool p.hi.b, .slice p.hi.A p.hi.n p.hi.c, .int .i64 0]) (((((Bs_230.out.set 0 (.bool p.lo.b)).set 1 (.slice p.lo.A p.lo.n p.lo.c)).set 2 (.int .i64 (Sp.add (Sp.pt (a i)) (Sp.pt (b i).abs) bits).lo.x)).set 3 (.bool p.hi.b)).set 4 (.slice p.hi.A p.hi.n p.hi.c)) 5 (by intro _ hh; cases hh) (.int .i64 (Sp.add (Sp.pt (a i)) (Sp.pt (b i).abs) bits).hi.x)))⟩))
      case rest =>
        clear cr10 cr11 cr12 cr20 cr21 cr22 px0 px1 px2 rx0 rx1 rx2 lx
        clear OX RQ RT HB_0
        obtain ⟨w_282, rfl⟩ : ∃ x, x = wc := ⟨_, rfl⟩
        obtain ⟨g_101, p, rfl, rfl, nn0, bz, br0, hbel, hf0⟩ := hcut
        have Ox_283 := Lib.hid br0
        have n_284 := nn0
        have Bs_285 := Lib.hid bz
        have HB_285 := Lib.hid hbel
        have SP_287 := Lib.hid hf0
        clear nn0 bz br0 hbel hf0
        have ls := Bs_285.out.lt
        obtain ⟨cs0, cs1, cs2, cs3, cs4, cs5⟩ := Bs_285.out.cells6
        have cr10 : w_282.cell? ⟨A1, o1 + i * 3, none⟩ = some (.bool q.b) := (HB_285.out.cell (p := ⟨A1, o1 + i * 3, none⟩) hl1).trans X0.out
        have cr11 : w_282.cell? ⟨A1, o1 + i * 3 + 1, none⟩ = some (.slice q.A q.n q.c) := (HB_285.out.cell (p := ⟨A1, o1 + i * 3 + 1, none⟩) hl1).trans X1.out
        have cr12 : w_282.cell? ⟨A1, o1 + i * 3 + 2, none⟩ = some (.int .i64 (a i).x) := (HB_285.out.cell (p := ⟨A1, o1 + i * 3 + 2, none⟩) hl1).trans X2.out
        have cr20 : w_282.cell? ⟨A2, o2 + i * 3, none⟩ = some (.bool t.b) := (HB_285.out.cell (p := ⟨A2, o2 + i * 3, none⟩) hl2).trans Y0.out
        have cr21 : w_282.cell? ⟨A2, o2 + i * 3 + 1, none⟩ = some (.slice t.A t.n t.c) := (HB_285.out.cell (p := ⟨A2, o2 + i * 3 + 1, none⟩) hl2).trans Y1.out
        have cr22 : w_282.cell? ⟨A2, o2 + i * 3 + 2, none⟩ = some (.int .i64 (b i).x) := (HB_285.out.cell (p := ⟨A2, o2 + i * 3 + 2, none⟩) hl2).trans Y2.out
        obtain ⟨⟨_, px0⟩, ⟨_, px1⟩, ⟨_, px2⟩, rx0, rx1, rx2⟩ := Ox_283.out.there hi2
        have lx := Ox_283.out.lt
        go_wp2_with fail
        have RH := Lib.hid (show RD _ p.hi (mor (a i) (b i) bits) from SP_287.out.2)
        go_wp2
        go_roundw
        case rel => exact ⟨i + 1, by go_num, hi2, Lib.hid ⟨OD.next (F := (fun j => mor (a j) (b j) bits)) (Ox_283.out.put hi2 p.hi (mor (a i) (b i) bits) RH.out).1, (below_put3 HB_285.out (by have := HB_285.out.size; omega) i (.bool p.hi.b) (.slice p.hi.A p.hi.n p.hi.c) (.int .i64 (mor (a i) (b i) bits).x))⟩⟩
        case measure => simp only [intOf]; omega
    · obtain rfl : i = n := by omega
      obtain ⟨hx, hbel⟩ := Hr.out
      have OX := Lib.hid hx
      have HB_0 := Lib.hid hbel
      clear hx hbel Hr
      clear hi2
      go_wp2
      go_ret2
      exact ⟨⟨w.heap.size, rfl, Nat.le_refl _, OX.out.done (F := (fun j => mor (a j) (b j) bits))⟩, HB_0.out⟩

end Go.Proofs.YtgioppkggpfnoaaDoor.Nu
end

section
/- Rows of rows that the call makes and appends to; what a call keeps that writes two blocks alone. -/
set_option linter.unusedVariables false
namespace Go.Proofs.YtgioppkggpfnoaaDoor.Nu
open Go.RowKit Go.Proofs

/-- A row of slices of the call's own: nil, or at the head of a block of slices alone. -/
def OR (w : World) (v : Value) (m : Nat) (xs : List Value) : Prop :=
  xs.length = m ∧ ((v = .slice none 0 0 ∧ xs = []) ∨ ∃ g cap cur, v = .slice (some ⟨g, 0, none⟩) m cap ∧ m ≤ cap ∧ cap ≤ maxLen ∧ Bk w g 39 cur ∧ cur.size = cap ∧ cur.toList.take m = xs ∧ ∀ (j : Nat) u, cur[j]? = some u → ∃ A n c, u = .slice A n c)
theorem OR.nil (w : World) : OR w (.slice none 0 0) 0 [] := ⟨rfl, .inl ⟨rfl, rfl⟩⟩
theorem OR.lt {w : World} {v : Value} {m : Nat} {xs : List Value} (h : OR w v m xs) : ∀ k, v.ownBlock = some k → k < w.heap.size := by
  rcases h.2 with ⟨rfl, _⟩ | ⟨g, cap, cur, rfl, _, _, hb, _⟩
  · intro k hk; cases hk
  · intro k hk
    obtain rfl : g = k := by simpa [Value.ownBlock] using hk
    exact hb.lt
theorem OR.keep {w w' : World} {v : Value} {m : Nat} {xs : List Value} (h : OR w v m xs) (hg : ∀ k, v.ownBlock = some k → w'.heap[k]? = w.heap[k]?) : OR w' v m xs := by
  refine ⟨h.1, ?_⟩
  rcases h.2 with ⟨rfl, e⟩ | ⟨g, cap, cur, rfl, h1, h2, hb, h3⟩
  · exact .inl ⟨rfl, e⟩
  · exact .inr ⟨g, cap, cur, rfl, h1, h2, (hg g rfl).trans hb, h3⟩
theorem infoL : (Tryd.prog.info? 39).map (fun i => (i.zero, i.size, i.bytes)) = some (some (.slice none 0 0), 1, 24) := by kernel_rfl
theorem dk_of_slices {w w' : World} {row : Option Nat} (hg : w.grownBy w' row) (h : ∀ k, row = some k → k < w.heap.size → ∃ cur t, Bk w k t cur ∧ ∀ (j : Nat) u, cur[j]? = some u → ∃ A n c, u = .slice A n c) : Dk w w' := by
  refine ⟨hg.size, fun b o v e => ?_⟩
  by_cases hb : row = some b
  · obtain ⟨cur, t, hk, hj⟩ := h b hb (cell_lt e)
    rw [Lib.cell_of_heap hk] at e
    obtain ⟨A, n, c, e2⟩ := hj o _ e
    cases e2
  · exact hg.cell e (fun e2 => hb e2.symm)
/-- One element more. -/
theorem run_append_sl (w : World) (ty : TypeId) (v : Value) (m : Nat) (xs : List Value) (hown : OR w v m xs) (ad : Addr) (c : Nat) (A : Option Addr) (n d : Nat) (hu : w.cell? ad = some (.slice A n d)) (hm : m ≤ 1000000) :
    ∃ v' w', (Builtin.append_ #[40, 40] ty #[v, .slice (some ad) 1 c]).run Tryd.prog w = .ok v' w' ∧ OR w' v' (m + 1) (xs ++ [.slice A n d]) ∧ w.grownBy w' v.ownBlock ∧ Dk w w' ∧ (v'.ownBlock = v.ownBlock ∨ v'.ownBlock = some w.heap.size) := by
  obtain ⟨i0, hi, hz0, hz1, hz2⟩ := info_parts infoL
  have ht := Tryd.underlying40
  have hnews : ∀ j u, [Value.slice A n d][j]? = some u → w.cell? (ad.add j) = some u := by
    intro j u h
    match j, h with
    | 0, h =>
      simp at h
      rw [← h, ← hu]
      congr 1
  have h1 : ∀ u ∈ [Value.slice A n d], u.oneCell' = true := by intro u hu; simp at hu; subst hu; rfl
  have hl : [Value.slice A n d].length = 1 * i0.size := by rw [hz1]; rfl
  have hml : (1000001 : Nat) ≤ maxLen := by unfold maxLen; omega
  have grown : ∀ (old : Nat) (row : Option Nat), (∀ k, row = some k → k < w.heap.size → ∃ cur t, Bk w k t cur ∧ ∀ (j : Nat) u, cur[j]? = some u → ∃ A n c, u = .slice A n c) →
      OR (w.drew.alloc (.cells (xs.toArray ++ [Value.slice A n d].toArray ++ Builtin.zeroCells (Value.slice none 0 0).cells (grownCap w (m + 1) old 39 - (m + 1))) 39)) (.slice (some ⟨w.heap.size, 0, none⟩) (m + 1) (grownCap w (m + 1) old 39)) (m + 1) (xs ++ [.slice A n d]) ∧
      w.grownBy (w.drew.alloc (.cells (xs.toArray ++ [Value.slice A n d].toArray ++ Builtin.zeroCells (Value.slice none 0 0).cells (grownCap w (m + 1) old 39 - (m + 1))) 39)) row ∧
      Dk w (w.drew.alloc (.cells (xs.toArray ++ [Value.slice A n d].toArray ++ Builtin.zeroCells (Value.slice none 0 0).cells (grownCap w (m + 1) old 39 - (m + 1))) 39)) := by
    intro old row hrow
    have hge := grownCap_ge w (m + 1) old 39
    have hcm : grownCap w (m + 1) old 39 ≤ maxLen := grownCap_le_maxLen w (m + 1) old 39 (by omega)
    refine ⟨⟨by simp [hown.1], .inr ⟨w.heap.size, _, _, rfl, hge, hcm, alloc_top w.drew _, ?_, ?_, ?_⟩⟩, ⟨rfl, rfl, rfl, by simp, fun k hk _ => by first | exact heap_alloc_old w.drew _ k hk | exact heap_alloc_old w.drew _ hk⟩, ((Dk.refl w).drew).alloc _⟩
    · simp only [Array.size_append, List.size_toArray, size_zeroCells, Value.cells, hown.1, List.length_cons, List.length_nil]
      simp
      omega
    · simp only [Array.toList_append, List.append_assoc]
      rw [← List.append_assoc]
      have : (xs ++ [Value.slice A n d]).length = m + 1 := by simp [hown.1]
      rw [← this]
      exact List.take_left
    · intro j u hj
      have hmem := Array.mem_of_getElem? hj
      simp only [Array.mem_append, List.mem_toArray] at hmem
      rcases hmem with (hx | hx) | hx
      · have hxs : ∀ u ∈ xs, ∃ A n c, u = Value.slice A n c := by
          intro u hu
          rcases hown.2 with ⟨_, e⟩ | ⟨g, cap, cur, _, _, _, _, _, e, hall⟩
          · subst e; cases hu
          · rw [← e] at hu
            have h3 := List.mem_of_mem_take hu
            obtain ⟨k, hk⟩ := List.mem_iff_getElem?.1 h3
            exact hall k u (by simpa using hk)
        exact hxs u hx
      · simp at hx
        exact ⟨A, n, d, hx⟩
      · simp [Builtin.zeroCells, Value.cells] at hx
        obtain ⟨k, _, e⟩ := hx
        simp [Nat.mod_one] at e
        exact ⟨none, 0, 0, e.symm⟩
  rcases hown.2 with ⟨rfl, e⟩ | ⟨g, cap, cur, rfl, h2, h3, hg, h5, htake, hall⟩
  · subst e
    have hm0 : m = 0 := by have := hown.1; simpa using this.symm
    subst hm0
    have hr := run_append_nil (P := Tryd.prog) w 40 ty 39 i0 (.slice none 0 0) ht hi hz0 ad 1 c [.slice A n d] hl hnews (by omega) (by omega) (by rw [hz2]; omega)
    have hgr := grown 0 (Value.ownBlock (.slice none 0 0)) (by intro k hk; cases hk)
    simp only [Nat.zero_add, List.nil_append, Array.empty_append] at hgr ⊢
    exact ⟨_, _, hr, hgr.1, hgr.2.1, hgr.2.2, .inr rfl⟩
  · by_cases hroom : m + 1 ≤ cap
    · have hfit : m * i0.size + [Value.slice A n d].length ≤ cur.size := by rw [hz1, h5]; simp; omega
      have hr := run_append_room (P := Tryd.prog) w 40 ty 39 i0 ht hi g m cap cur hg ad 1 c [.slice A n d] hl hnews h1 hroom hfit
      have hgb : w.grownBy (w.setRow g (cur.toList.take (m * i0.size) ++ [Value.slice A n d] ++ cur.toList.drop (m * i0.size + [Value.slice A n d].length)).toArray) (Value.ownBlock (.slice (some ⟨g, 0, none⟩) m cap)) := ⟨rfl, rfl, rfl, by simp, fun k _ hk => setRow_other w g k _ (fun e => hk (by simp [Value.ownBlock, e]))⟩
      refine ⟨_, _, hr, ⟨by simp [hown.1], .inr ⟨g, cap, _, rfl, hroom, h3, setRow_heap w g cur _ _ _ hg, ?_, ?_, ?_⟩⟩, hgb, dk_of_slices hgb ?_, .inl rfl⟩
      · rw [hz1]
        simp only [List.size_toArray, List.length_append, List.length_take, List.length_drop, Array.length_toList, Nat.mul_one, List.length_cons, List.length_nil]
        omega
      · rw [hz1, Nat.mul_one, htake]
        have : (xs ++ [Value.slice A n d]).length = m + 1 := by simp [hown.1]
        rw [← this]
        exact List.take_left
      · intro j u hj
        have hmem := List.mem_of_getElem? (by simpa using hj : (cur.toList.take (m * i0.size) ++ [Value.slice A n d] ++ cur.toList.drop (m * i0.size + [Value.slice A n d].length))[j]? = some u)
        simp only [List.mem_append] at hmem
        have hin : ∀ u ∈ cur.toList, ∃ A n c, u = Value.slice A n c := by
          intro u hu
          obtain ⟨k, hk⟩ := List.mem_iff_getElem?.1 hu
          exact hall k u (by simpa using hk)
        rcases hmem with (hx | hx) | hx
        · exact hin u (List.mem_of_mem_take hx)
        · simp at hx
          exact ⟨A, n, d, hx⟩
        · exact hin u (List.mem_of_mem_drop hx)
      · intro k hk _
        obtain rfl : g = k := by simpa [Value.ownBlock] using hk
        exact ⟨cur, _, hg, hall⟩
    · have holds : ∀ j u, xs[j]? = some u → w.cell? ((⟨g, 0, none⟩ : Addr).add j) = some u := by
        intro j u hj
        rw [Addr.add_lit, Nat.zero_add, Lib.cell_of_heap hg]
        rw [← htake, List.getElem?_take] at hj
        split at hj
        · simpa using hj
        · cases hj
      have hr := run_append_grow (P := Tryd.prog) w 40 ty 39 i0 (.slice none 0 0) ht hi hz0 ⟨g, 0, none⟩ m cap xs (by rw [hz1, Nat.mul_one]; exact hown.1) holds ad 1 c [.slice A n d] hl hnews (by omega) (by omega) (growslice_fits (by omega) (by rw [hz2]; omega))
      have hgr := grown cap (Value.ownBlock (.slice (some ⟨g, 0, none⟩) m cap)) (by
        intro k hk _
        obtain rfl : g = k := by simpa [Value.ownBlock] using hk
        exact ⟨cur, _, hg, hall⟩)
      exact ⟨_, _, hr, hgr.1, hgr.2.1, hgr.2.2, .inr rfl⟩
theorem wpList_append_sl {ops : Array Oper} {rest : List Oper} {o : Oper} {a : Act} {Q : Exit → Act → World → Prop} {w : World} (hgd : o.guard = none) (s x : Operand)
    (ho : o.op = .call { callee := .builtin .append, args := #[s, x], argTypes := #[40, 40] })
    (v : Value) (m : Nat) (xs : List Value) (hs : a.eval s = v) (hown : OR w v m xs) (ad : Addr) (c : Nat) (A : Option Addr) (n d : Nat) (hx : a.eval x = .slice (some ad) 1 c) (hu : w.cell? ad = some (.slice A n d)) (hm : m ≤ 1000000)
    (h : ∀ v' w', OR w' v' (m + 1) (xs ++ [.slice A n d]) → w.grownBy w' v.ownBlock → Dk w w' → (v'.ownBlock = v.ownBlock ∨ v'.ownBlock = some w.heap.size) → wpList Tryd.prog ops Q rest (a.put o.dst v') w') :
    wpList Tryd.prog ops Q (o :: rest) a w := by
  refine wpList_plain hgd fun K hK => ?_
  obtain ⟨v', w', hr, h2, h3, h4, h5⟩ := run_append_sl w o.type v m xs hown ad c A n d hu hm
  unfold Oper.wp execOp
  simp only [ho, resolve, invoke, builtin, Sem.run_bind, Sem.run_pure, Result.andThen_ok, List.map_toArray, List.map_cons, List.map_nil, hs, hx, hr]
  exact hK _ _ (h v' w' h2 h3 h4 h5)
end Go.Proofs.YtgioppkggpfnoaaDoor.Nu
end

section
/- What (*joiner).way keeps and makes: memory alone. -/
set_option linter.unusedVariables false
namespace Go.Proofs.YtgioppkggpfnoaaDoor.Nu
open Go.RowKit Go.Proofs

/-- A list of m ways, each a row of its own. -/
def OG (w : World) (v : Value) (m n : Nat) (g : Nat → Nat → D) : Prop := ∃ xs, OR w v m xs ∧ ∀ k, k < m → ∃ b, xs[k]? = some (.slice (some ⟨b, 0, none⟩) n n) ∧ OD w b n (g k)
theorem Bk.uniq {w : World} {g : Nat} {t t' : TypeId} {cs cs' : Array Value} (h : Bk w g t cs) (h' : Bk w g t' cs') : t = t' ∧ cs = cs' := by
  unfold Bk at *
  rw [h] at h'
  injection h' with h'
  injection h' with h1 h2
  exact ⟨h2, h1⟩
theorem OD.bk {w : World} {g n : Nat} {f : Nat → D} (h : OD w g n f) : ∃ cs, Bk w g 53 cs := by obtain ⟨e, hb, _⟩ := h; exact ⟨_, hb⟩
theorem OR.bk {w : World} {v : Value} {m : Nat} {xs : List Value} (h : OR w v m xs) : ∀ k, v.ownBlock = some k → ∃ cs, Bk w k 39 cs := by
  rcases h.2 with ⟨rfl, _⟩ | ⟨g, cap, cur, rfl, _, _, hb, _⟩
  · intro k hk; cases hk
  · intro k hk
    obtain rfl : g = k := by simpa [Value.ownBlock] using hk
    exact ⟨_, hb⟩
theorem OG.nil (w : World) (n : Nat) (g : Nat → Nat → D) : OG w (.slice none 0 0) 0 n g := ⟨[], OR.nil w, fun k hk => absurd hk (by omega)⟩
theorem OG.lt {w : World} {v : Value} {m n : Nat} {g : Nat → Nat → D} (h : OG w v m n g) : ∀ k, v.ownBlock = some k → k < w.heap.size := by obtain ⟨xs, h, _⟩ := h; exact h.lt
theorem OG.bk {w : World} {v : Value} {m n : Nat} {g : Nat → Nat → D} (h : OG w v m n g) : ∀ k, v.ownBlock = some k → ∃ cs, Bk w k 39 cs := by obtain ⟨xs, h, _⟩ := h; exact h.bk
theorem OG.keep {w w' : World} {v : Value} {m n : Nat} {g : Nat → Nat → D} (h : OG w v m n g) (k : Dk w w') (h1 : ∀ b cs, Bk w b 39 cs → w'.heap[b]? = w.heap[b]?) (h2 : ∀ b cs, Bk w b 53 cs → w'.heap[b]? = w.heap[b]?) : OG w' v m n g := by
  obtain ⟨xs, ho, hg⟩ := h
  refine ⟨xs, ho.keep fun b hb => ?_, fun j hj => ?_⟩
  · obtain ⟨cs, hcs⟩ := ho.bk b hb
    exact h1 b cs hcs
  · obtain ⟨b, e, hd⟩ := hg j hj
    obtain ⟨cs, hcs⟩ := hd.bk
    exact ⟨b, e, hd.keep (h2 b cs hcs) k⟩
theorem OG.below {w w' : World} {v : Value} {m n : Nat} {g : Nat → Nat → D} (h : OG w v m n g) (hb : Below w.heap.size w w') : OG w' v m n g :=
  h.keep (.below hb) (fun b cs hbk => hb.block b hbk.lt) (fun b cs hbk => hb.block b hbk.lt)
theorem OG.set {w : World} {v : Value} {m n : Nat} {g : Nat → Nat → D} (h : OG w v m n g) {b : Nat} {t : TypeId} {cs : Array Value} (B : Bk w b t cs) (ht : t ≠ 39) (ht2 : t ≠ 53) (j : Nat) (hj : ∀ v, cs[j]? ≠ some (.int .u32 v)) (u : Value) : OG (w.setCell ⟨b, j, none⟩ u) v m n g :=
  h.keep ((Dk.refl w).set B j hj u) (fun b' cs' hb' => same1 w (fun e => by subst e; exact ht (B.uniq hb').1) j u) (fun b' cs' hb' => same1 w (fun e => by subst e; exact ht2 (B.uniq hb').1) j u)
theorem OD.set {w : World} {g n : Nat} {f : Nat → D} (h : OD w g n f) {b : Nat} {t : TypeId} {cs : Array Value} (B : Bk w b t cs) (ht2 : t ≠ 53) (j : Nat) (hj : ∀ v, cs[j]? ≠ some (.int .u32 v)) (u : Value) : OD (w.setCell ⟨b, j, none⟩ u) g n f := by
  obtain ⟨cs', hb'⟩ := h.bk
  exact h.keep (same1 w (fun e => by subst e; exact ht2 (B.uniq hb').1) j u) ((Dk.refl w).set B j hj u)
/-- All stands but block g and a row's own block. -/
structure Kb (g : Nat) (v : Value) (w w' : World) : Prop where
  os : w'.os = w.os
  tape : w'.tape = w.tape
  output : w'.output = w.output
  size : w.heap.size ≤ w'.heap.size
  block : ∀ k, k < w.heap.size → k ≠ g → v.ownBlock ≠ some k → w'.heap[k]? = w.heap[k]?
theorem Kb.of_below {g : Nat} {v : Value} {w w' : World} (h : Below w.heap.size w w') : Kb g v w w' := ⟨h.os, h.tape, h.output, h.size, fun k hk _ _ => h.block k hk⟩
theorem Kb.trans {g : Nat} {v : Value} {a b c : World} (h : Kb g v a b) (h2 : Kb g v b c) : Kb g v a c :=
  ⟨h2.os.trans h.os, h2.tape.trans h.tape, h2.output.trans h.output, Nat.le_trans h.size h2.size, fun k hk e1 e2 => (h2.block k (Nat.lt_of_lt_of_le hk h.size) e1 e2).trans (h.block k hk e1 e2)⟩
theorem Kb.set {g : Nat} {v : Value} (w : World) (j : Nat) (u : Value) : Kb g v w (w.setCell ⟨g, j, none⟩ u) := ⟨rfl, rfl, rfl, by simp [World.setCell], fun k _ e _ => same1 w e j u⟩
theorem Kb.below {g : Nat} {v : Value} {B : Nat} {a w w' : World} (h : Kb g v w w') (hb : Below B a w) (hg : B ≤ g) (hv : ∀ k, v.ownBlock = some k → B ≤ k) (hB : B ≤ w.heap.size) : Below B a w' :=
  hb.trans ⟨h.os, h.tape, h.output, h.size, fun k hk => h.block k (by omega) (by omega) (fun e => by have := hv k e; omega)⟩
theorem Bk.kb {g : Nat} {v : Value} {w w' : World} {b : Nat} {t : TypeId} {cs : Array Value} (B : Bk w b t cs) (h : Kb g v w w') (e1 : b ≠ g) (e2 : v.ownBlock ≠ some b) : Bk w' b t cs := (h.block b B.lt e1 e2).trans B
theorem OD.kb {g : Nat} {v : Value} {w w' : World} {b n : Nat} {f : Nat → D} (h : OD w b n f) (k : Kb g v w w') (d : Dk w w') (e1 : b ≠ g) (e2 : v.ownBlock ≠ some b) : OD w' b n f := h.keep (k.block b h.lt e1 e2) d
/-- Append and store, as 'way' does them. -/
theorem way_mid {w w2 : World} {gj : Nat} {v v' c0 c2 c3 : Value} {m n g1 : Nat} {g : Nat → Nat → D} {F : Nat → D} {xs : List Value} {o : Obj}
    (hJ : Bk w gj 146 #[c0, v, c2, c3]) (hv : ∀ z, v ≠ .int .u32 z) (ho : OR w v m xs) (hg : ∀ k, k < m → ∃ b, xs[k]? = some (.slice (some ⟨b, 0, none⟩) n n) ∧ OD w b n (g k)) (h1 : OD w g1 n F)
    (hor : OR w2 v' (m + 1) (xs ++ [.slice (some ⟨g1, 0, none⟩) n n])) (hgr : (w.alloc o).grownBy w2 v.ownBlock) (hdk : Dk (w.alloc o) w2) (hob : v'.ownBlock = v.ownBlock ∨ v'.ownBlock = some (w.heap.size + 1)) :
    Bk w2 gj 146 #[c0, v, c2, c3] ∧ Bk (w2.setCell ⟨gj, 1, none⟩ v') gj 146 #[c0, v', c2, c3] ∧ OG (w2.setCell ⟨gj, 1, none⟩ v') v' (m + 1) n (fun k => if k = m then F else g k) ∧ Kb gj v w (w2.setCell ⟨gj, 1, none⟩ v') ∧ Dk w (w2.setCell ⟨gj, 1, none⟩ v') ∧ (v'.ownBlock = v.ownBlock ∨ ∃ k, w.heap.size ≤ k ∧ v'.ownBlock = some k) ∧
      (∀ b n' f, OD w b n' f → OD (w2.setCell ⟨gj, 1, none⟩ v') b n' f) := by
  have hne : v.ownBlock ≠ some gj := fun e => by
    obtain ⟨cs, hcs⟩ := ho.bk gj e
    have := (hJ.uniq hcs).1
    revert this
    decide
  have hlt := hJ.lt
  have hK0 : ∀ k, k < w.heap.size → v.ownBlock ≠ some k → w2.heap[k]? = w.heap[k]? := fun k hk e =>
    (hgr.block k (by rw [World.size_alloc]; omega) (fun e2 => e e2.symm)).trans (sameA w hk o)
  have hJ2 : Bk w2 gj 146 #[c0, v, c2, c3] := (hK0 gj hlt hne).trans hJ
  have hD2 : Dk w w2 := ((Dk.refl w).alloc o).trans hdk
  have hrow : ∀ b n' f, OD w b n' f → OD w2 b n' f := fun b n' f h => by
    refine h.keep (hK0 b h.lt fun e => ?_) hD2
    obtain ⟨cs, hcs⟩ := ho.bk b e
    obtain ⟨cs', hcs'⟩ := h.bk
    have := (hcs.uniq hcs').1
    revert this
    decide
  have hj : ∀ z, (#[c0, v, c2, c3] : Array Value)[1]? ≠ some (.int .u32 z) := fun z h => by
    simp at h
    exact hv z h
  have hG2 : OG w2 v' (m + 1) n (fun k => if k = m then F else g k) := by
    refine ⟨_, hor, fun k hk => ?_⟩
    by_cases e : k = m
    · subst e
      refine ⟨g1, ?_, by simpa using hrow _ _ _ h1⟩
      rw [List.getElem?_append_right (by rw [ho.1]; exact Nat.le_refl _), ho.1, Nat.sub_self]
      rfl
    · obtain ⟨b, e1, hd⟩ := hg k (by omega)
      refine ⟨b, ?_, by simpa [e] using hrow _ _ _ hd⟩
      rw [List.getElem?_append_left (by rw [ho.1]; omega)]
      exact e1
  refine ⟨hJ2, ?_, hG2.set hJ2 (by decide) (by decide) 1 hj v', ?_, hD2.set hJ2 1 hj v', ?_, fun b n' f h => (hrow b n' f h).set hJ2 (by decide) 1 hj v'⟩
  · have := hJ2.set 1 v'
    exact this
  · have k1 : Kb gj v w w2 := ⟨hgr.os, hgr.tape, hgr.output, Nat.le_trans (by simp) hgr.size, fun k hk _ e => hK0 k hk e⟩
    exact k1.trans (.set w2 1 v')
  · rcases hob with h | h
    · exact .inl h
    · exact .inr ⟨_, by omega, h⟩
theorem BTab.ne_joiner {w : World} {gj : Nat} {t : TypeId} {A : Option Addr} {n c : Nat} {c1 c2 c3 : Value} (h : BTab w) (B : Bk w gj t #[.slice A n c, c1, c2, c3]) : gj ≠ 1 := fun e => by
  subst e
  have h1 := h.2 0 0 rfl
  rw [B.cell 0 rfl] at h1
  cases h1
theorem BTab.ne_row {w : World} {v : Value} {m : Nat} {xs : List Value} (h : BTab w) (ho : OR w v m xs) : v.ownBlock ≠ some 1 := fun e => by
  rcases ho.2 with ⟨rfl, _⟩ | ⟨g, cap, cur, rfl, _, _, hb, _, _, hall⟩
  · cases e
  · obtain rfl : g = 1 := by simpa [Value.ownBlock] using e
    have h1 := h.2 0 0 rfl
    rw [Lib.cell_of_heap hb] at h1
    obtain ⟨A, n, c, e2⟩ := hall 0 _ h1
    cases e2
theorem BTab.kb {w w' : World} {gj : Nat} {v : Value} (h : BTab w) (k : Kb gj v w w') (e1 : gj ≠ 1) (e2 : v.ownBlock ≠ some 1) : BTab w' :=
  ⟨Nat.lt_of_lt_of_le h.1 k.size, fun j x hj => (World.cell?_of_block (a := ⟨_, j, none⟩) (k.block _ h.1 (Ne.symm e1) e2)).trans (h.2 j x hj)⟩
theorem OR.form {w : World} {v : Value} {m : Nat} {xs : List Value} (h : OR w v (m + 1) xs) : ∃ g c, v = .slice (some ⟨g, 0, none⟩) (m + 1) c := by
  rcases h.2 with ⟨_, e⟩ | ⟨g, cap, cur, e, _⟩
  · subst e
    have := h.1
    simp at this
  · exact ⟨g, cap, e⟩
end Go.Proofs.YtgioppkggpfnoaaDoor.Nu
end

section
/- The walk of (*joiner).way. -/
set_option linter.unusedVariables false
namespace Go.Proofs.YtgioppkggpfnoaaDoor.Nu
open Go.RowKit Go.Proofs

/-- What 'way' leaves: a way more, and the sizes more by what is off. -/
def WayPost (F r' : Nat → D) (gj gc : Nat) (v : Value) (m n : Nat) (g : Nat → Nat → D) (bits : Nat) (w : World) (e : Ending) (w' : World) : Prop :=
  e = .returned (.int .i64 0) ∧ ∃ (v' : Value) (gr' : Nat), Bk w' gj 146 #[.slice (some ⟨gc, 0, none⟩) n n, v', .slice (some ⟨gr', 0, none⟩) n n, .int .i64 bits] ∧ (∀ z, v' ≠ .int .u32 z) ∧ OG w' v' (m + 1) n (fun k => if k = m then F else g k) ∧ w.heap.size ≤ gr' ∧ OD w' gr' n r' ∧ (v'.ownBlock = v.ownBlock ∨ ∃ k, w.heap.size ≤ k ∧ v'.ownBlock = some k) ∧ Dk w w' ∧ Kb gj v w w'

set_option maxRecDepth 100000 in
set_option maxHeartbeats 4000000 in
theorem way_plain (w : World) (gj gc gr : Nat) (v : Value) (A B : Option Addr) (m n cA cB : Nat) (a b : Nat → D) (g : Nat → Nat → D) (r : Nat → D) (bits : Nat) (E T R : Nat) (hv : ∀ z, v ≠ .int .u32 z) (hm0 : m ≤ 1000000) (hJ : Bk w gj 146 #[.slice (some ⟨gc, 0, none⟩) n n, v, .slice (some ⟨gr, 0, none⟩) n n, .int .i64 bits]) (hG : OG w v m n g) (hR : OD w gr n r) (h : RDs w A n cA a) (h2 : RDs w B n cB b) (la : ∀ i, i < n → (a i).Lim E T) (lb : ∀ i, i < n → (b i).Lim E T) (lr : ∀ i, i < n → (r i).Lim (E + 1) R) (hTR : T + 3 ≤ R) (hET : E + R + 4 ≤ 16000) (hb2 : 2 ≤ bits) (hb3 : bits ≤ 4096) (ht : BTab w) :
    Calls Tryd.prog 89 #[.pointer (some ⟨gj, 0, none⟩), .slice A n cA, .slice B n cB, .bool false] w fun e w' => WayPost (fun i => halfM (a i) (b i) bits) (fun i => mor (r i) (halfO (a i) (b i) bits) bits) gj gc v m n g bits w e w' := by
  have HJ := Lib.hid hJ
  have HG := Lib.hid hG
  have HR := Lib.hid hR
  have HA := Lib.hid h
  have HB := Lib.hid h2
  have LA := Lib.hid la
  have LB := Lib.hid lb
  have LR := Lib.hid lr
  have HT := Lib.hid ht
  have n0 := h.2.1
  clear hJ hG hR h h2 la lb lr ht
  have LO := Lib.hid (fun (i : Nat) (hi : i < n) => (halfO_lim (LA.out i hi) (LB.out i hi) bits).mono (Nat.le_refl _) (show T + 3 ≤ R by omega))
  obtain ⟨xs, hor0, hgs⟩ := HG.out
  have HOR := Lib.hid hor0
  have HGS := Lib.hid hgs
  clear hor0 hgs HG
  have NJ := Lib.hid (HT.out.ne_joiner HJ.out)
  have NV := Lib.hid (HT.out.ne_row HOR.out)
  have eH : E + T + 4 ≤ 16000 := by omega
  have eM : E + 1 + R + 1 ≤ 16000 := by omega
  have cj0 := HJ.out.cell 0 rfl
  have cj1 := HJ.out.cell 1 rfl
  have cj2 := HJ.out.cell 2 rfl
  have cj3 := HJ.out.cell 3 rfl
  go_enter Tryd.func89, Tryd.ntmps89
  go_wp2_with fail
  refine (halves_plain _ A B n cA cB a b bits E T HA.out HB.out LA.out LB.out eH hb2 hb3 HT.out).mono ?_
  rintro e w1 ⟨⟨g1, g2, rfl, hg1, hg2, ho1, ho2⟩, hb⟩
  have J1 := Lib.hid (HJ.out.below hb)
  have O1 := Lib.hid ho1
  have O2 := Lib.hid ho2
  have R1 := Lib.hid (HR.out.below hb)
  have HB1 := Lib.hid hb
  have OR1 := Lib.hid (HOR.out.keep (w' := w1) (fun k hk => hb.block k (HOR.out.lt k hk)))
  have GS1 := Lib.hid (show ∀ k, k < m → ∃ b, xs[k]? = some (.slice (some ⟨b, 0, none⟩) n n) ∧ OD w1 b n (g k) from fun k hk => by obtain ⟨b, e1, e2⟩ := HGS.out k hk; exact ⟨b, e1, e2.below hb⟩)
  clear hb ho1 ho2 cj0 cj1 cj2 cj3
  have cj0 := J1.out.cell 0 rfl
  have fj0 := J1.out.free 0
  have cj1 := J1.out.cell 1 rfl
  have fj1 := J1.out.free 1
  have cj2 := J1.out.cell 2 rfl
  have fj2 := J1.out.free 2
  have cj3 := J1.out.cell 3 rfl
  have fj3 := J1.out.free 3
  have lj := J1.out.lt
  go_wp2_with (at_builtin; refine wpList_append_sl rfl _ _ rfl v m xs rfl (OR1.out.keep (fun k hk => sameA w1 (OR1.out.lt k hk) _)) ⟨w1.heap.size, 0, none⟩ 1 (some ⟨g1, 0, none⟩) n n rfl ?qc1 hm0 ?_)
  case qc1 => exact Bk.cell (Bk.new w1 _ _) 0 rfl
  intro v' w2 hor hgr hdk hob
  obtain ⟨gv, cv, rfl⟩ := hor.form
  have HM := Lib.hid (way_mid J1.out hv OR1.out GS1.out O1.out hor hgr hdk hob)
  clear hob hdk hgr hor
  obtain ⟨j2, j3, hg3, hk3, hd3, hw3, hrow⟩ := HM.out
  have J2 := Lib.hid j2
  have J3 := Lib.hid j3
  have G3 := Lib.hid hg3
  have K3 := Lib.hid hk3
  have D3 := Lib.hid hd3
  have W3 := Lib.hid hw3
  have O3 := Lib.hid (hrow _ _ _ O2.out)
  have R3 := Lib.hid (hrow _ _ _ R1.out)
  clear j2 j3 hg3 hk3 hd3 hw3 hrow HM cj0 cj1 cj2 cj3 fj0 fj1 fj2 fj3 lj OR1 GS1 O1 O2 R1 J1
  have cj0 := J2.out.cell 0 rfl
  have fj0 := J2.out.free 0
  have cj1 := J2.out.cell 1 rfl
  have fj1 := J2.out.free 1
  have cj2 := J2.out.cell 2 rfl
  have fj2 := J2.out.free 2
  have cj3 := J2.out.cell 3 rfl
  have fj3 := J2.out.free 3
  go_wp2_with fail
  generalize w2.setCell ⟨gj, 1, none⟩ (.slice (some ⟨gv, 0, none⟩) (m + 1) cv) = w3 at *
  clear cj0 cj1 cj2 cj3 fj0 fj1 fj2 fj3 J2
  have cj0 := J3.out.cell 0 rfl
  have fj0 := J3.out.free 0
  have cj1 := J3.out.cell 1 rfl
  have fj1 := J3.out.free 1
  have cj2 := J3.out.cell 2 rfl
  have fj2 := J3.out.free 2
  have cj3 := J3.out.cell 3 rfl
  have fj3 := J3.out.free 3
  have lj := J3.out.lt
  have HT3 := Lib.hid (show BTab w3.drew from ((BTab.below HT.out HB1.out).kb K3.out NJ.out NV.out).below ((Below.refl _ w3).drew))
  have k_0 : w3.cell? ⟨gj, 3, none⟩ = some (.int .i64 bits) := cj3
  have k_1 : w3.drew.cell? ⟨gj, 3, none⟩ = some (.int .i64 bits) := cj3
  go_region_with
    (first
     | (go_at_call 88; (with_reducible refine (more_any w3.drew (some ⟨gr, 0, none⟩) (some ⟨g2, 0, none⟩) n n n r (fun j => halfO (a j) (b j) bits) bits (E + 1) R (R3.out.dr.read n0) (O3.out.dr.read n0) LR.out LO.out eM hb2 hb3 HT3.out).mono ?_); rintro e w4 ⟨⟨g3, rfl, hg3, ho3⟩, hb⟩; have J4 := Lib.hid (J3.out.drew.below hb); have O4 := Lib.hid ho3; have HB4 := Lib.hid hb; clear hb ho3 cj0 cj1 cj2 cj3 fj0 fj1 fj2 fj3 lj k_0 k_1; have k_2 : w4.cell? ⟨gj, 3, none⟩ = some (.int .i64 bits) := J4.out.cell 3 rfl; have k_3 : (w4.setCell ⟨gj, 2, none⟩ (.slice (some ⟨g3, 0, none⟩) n n)).cell? ⟨gj, 3, none⟩ = some (.int .i64 bits) := (J4.out.set 2 _).cell 3 rfl; have cj0 := J4.out.cell 0 rfl; have cj1 := J4.out.cell 1 rfl; have cj2 := J4.out.cell 2 rfl; have cj3 := J4.out.cell 3 rfl; have fj0 := J4.out.free 0; have fj1 := J4.out.free 1; have fj2 := J4.out.free 2; have fj3 := J4.out.free 3; have lj := J4.out.lt))
  all_goals
    go_wp2
    have hj2 : ∀ z, (#[.slice (some ⟨gc, 0, none⟩) n n, .slice (some ⟨gv, 0, none⟩) (m + 1) cv, .slice (some ⟨gr, 0, none⟩) n n, .int .i64 bits] : Array Value)[2]? ≠ some (.int .u32 z) := fun z h => by cases h
    have HB5 := Lib.hid (((Below.refl _ w3).drew).trans HB4.out)
    go_ret
    refine ⟨rfl, .slice (some ⟨gv, 0, none⟩) (m + 1) cv, g3, ?_, (fun z h => by cases h), ?_, ?_, O4.out.set J4.out (by decide) 2 hj2 _, ?_, ?_, ?_⟩
    · have h := J4.out.set 2 (.slice (some ⟨g3, 0, none⟩) n n)
      exact h
    · exact (G3.out.below HB5.out).set J4.out (by decide) (by decide) 2 hj2 _
    · have := HB1.out.size
      have := K3.out.size
      exact Nat.le_trans (by omega) (show w3.heap.size ≤ g3 from hg3)
    · rcases W3.out with h | ⟨k, hk, h⟩
      · exact .inl h
      · exact .inr ⟨k, Nat.le_trans HB1.out.size hk, h⟩
    · exact (Dk.below HB1.out).trans (D3.out.trans ((Dk.below HB5.out).trans ((Dk.refl _).set J4.out 2 hj2 _)))
    · exact (Kb.of_below HB1.out).trans (K3.out.trans ((Kb.of_below HB5.out).trans (.set w4 2 _)))

set_option maxRecDepth 100000 in
set_option maxHeartbeats 4000000 in
theorem way_turn (w : World) (gj gc gr : Nat) (v : Value) (A B : Option Addr) (m n cA cB : Nat) (a b : Nat → D) (g : Nat → Nat → D) (r : Nat → D) (bits : Nat) (E T R : Nat) (hv : ∀ z, v ≠ .int .u32 z) (hm0 : m ≤ 1000000) (hJ : Bk w gj 146 #[.slice (some ⟨gc, 0, none⟩) n n, v, .slice (some ⟨gr, 0, none⟩) n n, .int .i64 bits]) (hG : OG w v m n g) (hR : OD w gr n r) (h : RDs w A n cA a) (h2 : RDs w B n cB b) (la : ∀ i, i < n → (a i).Lim E T) (lb : ∀ i, i < n → (b i).Lim E T) (lr : ∀ i, i < n → (r i).Lim (E + 1) R) (hTR : T + 3 ≤ R) (hET : E + R + 4 ≤ 16000) (hb2 : 2 ≤ bits) (hb3 : bits ≤ 4096) (ht : BTab w) :
    Calls Tryd.prog 89 #[.pointer (some ⟨gj, 0, none⟩), .slice A n cA, .slice B n cB, .bool true] w fun e w' => WayPost (fun i => halfM (a i) (b i).neg bits) (fun i => mor (r i) (halfO (a i) (b i).neg bits) bits) gj gc v m n g bits w e w' := by
  have HJ := Lib.hid hJ
  have HG := Lib.hid hG
  have HR := Lib.hid hR
  have HA := Lib.hid h
  have HB := Lib.hid h2
  have LA := Lib.hid la
  have LB := Lib.hid lb
  have LR := Lib.hid lr
  have HT := Lib.hid ht
  have n0 := h.2.1
  clear hJ hG hR h h2 la lb lr ht
  have LO := Lib.hid (fun (i : Nat) (hi : i < n) => (halfO_lim (LA.out i hi) (neg_lim (LB.out i hi)) bits).mono (Nat.le_refl _) (show T + 3 ≤ R by omega))
  obtain ⟨xs, hor0, hgs⟩ := HG.out
  have HOR := Lib.hid hor0
  have HGS := Lib.hid hgs
  clear hor0 hgs HG
  have NJ := Lib.hid (HT.out.ne_joiner HJ.out)
  have NV := Lib.hid (HT.out.ne_row HOR.out)
  have eH : E + T + 4 ≤ 16000 := by omega
  have eM : E + 1 + R + 1 ≤ 16000 := by omega
  have cj0 := HJ.out.cell 0 rfl
  have cj1 := HJ.out.cell 1 rfl
  have cj2 := HJ.out.cell 2 rfl
  have cj3 := HJ.out.cell 3 rfl
  go_enter Tryd.func89, Tryd.ntmps89
  go_wp2_with fail
  refine (halves_turn _ A B n cA cB a b bits E T HA.out HB.out LA.out LB.out eH hb2 hb3 HT.out).mono ?_
  rintro e w1 ⟨⟨g1, g2, rfl, hg1, hg2, ho1, ho2⟩, hb⟩
  have J1 := Lib.hid (HJ.out.below hb)
  have O1 := Lib.hid ho1
  have O2 := Lib.hid ho2
  have R1 := Lib.hid (HR.out.below hb)
  have HB1 := Lib.hid hb
  have OR1 := Lib.hid (HOR.out.keep (w' := w1) (fun k hk => hb.block k (HOR.out.lt k hk)))
  have GS1 := Lib.hid (show ∀ k, k < m → ∃ b, xs[k]? = some (.slice (some ⟨b, 0, none⟩) n n) ∧ OD w1 b n (g k) from fun k hk => by obtain ⟨b, e1, e2⟩ := HGS.out k hk; exact ⟨b, e1, e2.below hb⟩)
  clear hb ho1 ho2 cj0 cj1 cj2 cj3
  have cj0 := J1.out.cell 0 rfl
  have fj0 := J1.out.free 0
  have cj1 := J1.out.cell 1 rfl
  have fj1 := J1.out.free 1
  have cj2 := J1.out.cell 2 rfl
  have fj2 := J1.out.free 2
  have cj3 := J1.out.cell 3 rfl
  have fj3 := J1.out.free 3
  have lj := J1.out.lt
  go_wp2_with (at_builtin; refine wpList_append_sl rfl _ _ rfl v m xs rfl (OR1.out.keep (fun k hk => sameA w1 (OR1.out.lt k hk) _)) ⟨w1.heap.size, 0, none⟩ 1 (some ⟨g1, 0, none⟩) n n rfl ?qc1 hm0 ?_)
  case qc1 => exact Bk.cell (Bk.new w1 _ _) 0 rfl
  intro v' w2 hor hgr hdk hob
  obtain ⟨gv, cv, rfl⟩ := hor.form
  have HM := Lib.hid (way_mid J1.out hv OR1.out GS1.out O1.out hor hgr hdk hob)
  clear hob hdk hgr hor
  obtain ⟨j2, j3, hg3, hk3, hd3, hw3, hrow⟩ := HM.out
  have J2 := Lib.hid j2
  have J3 := Lib.hid j3
  have G3 := Lib.hid hg3
  have K3 := Lib.hid hk3
  have D3 := Lib.hid hd3
  have W3 := Lib.hid hw3
  have O3 := Lib.hid (hrow _ _ _ O2.out)
  have R3 := Lib.hid (hrow _ _ _ R1.out)
  clear j2 j3 hg3 hk3 hd3 hw3 hrow HM cj0 cj1 cj2 cj3 fj0 fj1 fj2 fj3 lj OR1 GS1 O1 O2 R1 J1
  have cj0 := J2.out.cell 0 rfl
  have fj0 := J2.out.free 0
  have cj1 := J2.out.cell 1 rfl
  have fj1 := J2.out.free 1
  have cj2 := J2.out.cell 2 rfl
  have fj2 := J2.out.free 2
  have cj3 := J2.out.cell 3 rfl
  have fj3 := J2.out.free 3
  go_wp2_with fail
  generalize w2.setCell ⟨gj, 1, none⟩ (.slice (some ⟨gv, 0, none⟩) (m + 1) cv) = w3 at *
  clear cj0 cj1 cj2 cj3 fj0 fj1 fj2 fj3 J2
  have cj0 := J3.out.cell 0 rfl
  have fj0 := J3.out.free 0
  have cj1 := J3.out.cell 1 rfl
  have fj1 := J3.out.free 1
  have cj2 := J3.out.cell 2 rfl
  have fj2 := J3.out.free 2
  have cj3 := J3.out.cell 3 rfl
  have fj3 := J3.out.free 3
  have lj := J3.out.lt
  have HT3 := Lib.hid (show BTab w3.drew from ((BTab.below HT.out HB1.out).kb K3.out NJ.out NV.out).below ((Below.refl _ w3).drew))
  have k_0 : w3.cell? ⟨gj, 3, none⟩ = some (.int .i64 bits) := cj3
  have k_1 : w3.drew.cell? ⟨gj, 3, none⟩ = some (.int .i64 bits) := cj3
  go_region_with
    (first
     | (go_at_call 88; (with_reducible refine (more_any w3.drew (some ⟨gr, 0, none⟩) (some ⟨g2, 0, none⟩) n n n r (fun j => halfO (a j) (b j).neg bits) bits (E + 1) R (R3.out.dr.read n0) (O3.out.dr.read n0) LR.out LO.out eM hb2 hb3 HT3.out).mono ?_); rintro e w4 ⟨⟨g3, rfl, hg3, ho3⟩, hb⟩; have J4 := Lib.hid (J3.out.drew.below hb); have O4 := Lib.hid ho3; have HB4 := Lib.hid hb; clear hb ho3 cj0 cj1 cj2 cj3 fj0 fj1 fj2 fj3 lj k_0 k_1; have k_2 : w4.cell? ⟨gj, 3, none⟩ = some (.int .i64 bits) := J4.out.cell 3 rfl; have k_3 : (w4.setCell ⟨gj, 2, none⟩ (.slice (some ⟨g3, 0, none⟩) n n)).cell? ⟨gj, 3, none⟩ = some (.int .i64 bits) := (J4.out.set 2 _).cell 3 rfl; have cj0 := J4.out.cell 0 rfl; have cj1 := J4.out.cell 1 rfl; have cj2 := J4.out.cell 2 rfl; have cj3 := J4.out.cell 3 rfl; have fj0 := J4.out.free 0; have fj1 := J4.out.free 1; have fj2 := J4.out.free 2; have fj3 := J4.out.free 3; have lj := J4.out.lt))
  all_goals
    go_wp2
    have hj2 : ∀ z, (#[.slice (some ⟨gc, 0, none⟩) n n, .slice (some ⟨gv, 0, none⟩) (m + 1) cv, .slice (some ⟨gr, 0, none⟩) n n, .int .i64 bits] : Array Value)[2]? ≠ some (.int .u32 z) := fun z h => by cases h
    have HB5 := Lib.hid (((Below.refl _ w3).drew).trans HB4.out)
    go_ret
    refine ⟨rfl, .slice (some ⟨gv, 0, none⟩) (m + 1) cv, g3, ?_, (fun z h => by cases h), ?_, ?_, O4.out.set J4.out (by decide) 2 hj2 _, ?_, ?_, ?_⟩
    · have h := J4.out.set 2 (.slice (some ⟨g3, 0, none⟩) n n)
      exact h
    · exact (G3.out.below HB5.out).set J4.out (by decide) (by decide) 2 hj2 _
    · have := HB1.out.size
      have := K3.out.size
      exact Nat.le_trans (by omega) (show w3.heap.size ≤ g3 from hg3)
    · rcases W3.out with h | ⟨k, hk, h⟩
      · exact .inl h
      · exact .inr ⟨k, Nat.le_trans HB1.out.size hk, h⟩
    · exact (Dk.below HB1.out).trans (D3.out.trans ((Dk.below HB5.out).trans ((Dk.refl _).set J4.out 2 hj2 _)))
    · exact (Kb.of_below HB1.out).trans (K3.out.trans ((Kb.of_below HB5.out).trans (.set w4 2 _)))

end Go.Proofs.YtgioppkggpfnoaaDoor.Nu
end

section
/- The walk of dyad.Check, over whatever row of digits. -/
set_option linter.unusedVariables false
namespace Go.Proofs.YtgioppkggpfnoaaDoor.Nu
open Go.RowKit Go.Proofs

theorem RI.back {w w0 : World} {b : Bool} {A : Option Addr} {n c : Nat} {xs : List Nat} (h : RI w0 b A n c (zv b xs)) (hl : RL w A n xs) : RI w b A n c (zv b xs) := by
  refine ⟨h.1, h.2.1, ?_⟩
  have e0 : (zv b xs).natAbs = val xs := by unfold zv; cases b <;> simp
  have h1 := h.2.2.1
  rw [e0] at h1
  have e4 : digs (val xs) = xs := by
    obtain ⟨k, hk⟩ := digs_trim hl.2.2.1
    have : k = 0 := by
      have := congrArg List.length hk
      rw [List.length_append, List.length_replicate, h1, hl.1] at this
      omega
    subst this
    rw [List.replicate_zero, List.append_nil] at hk
    exact hk.symm
  rw [e0]
  unfold RN
  rw [e4]
  exact hl
theorem val_odd {xs : List Nat} (h : 0 < xs.length) : val xs % 2 = dg xs 0 % 2 := by
  cases xs with
  | nil => simp at h
  | cons x xs => simp only [val, dg, List.getD_cons_zero]; omega
theorem zv_odd {w : World} {A : Option Addr} {n : Nat} {xs : List Nat} {b : Bool} (h : RL w A n xs) (hn : 0 < n) : (zv b xs % 2 = 1 ↔ dg xs 0 % 2 = 1) := by
  have h1 := val_odd (xs := xs) (by rw [h.1]; exact hn)
  unfold zv
  cases b
  · simp only [Bool.false_eq_true, if_false]; omega
  · simp only [if_true]; omega

set_option maxRecDepth 100000 in
set_option maxHeartbeats 4000000 in
theorem dcheck_any (w : World) (b : Bool) (A : Option Addr) (n c : Nat) (xs : List Nat) (x : Int) (h : RL w A n xs) (hc : n ≤ c) :
    Calls Tryd.prog 58 #[.agg #[.bool b, .slice A n c, .int .i64 x]] w fun e w' => (∃ r : Int, e = .returned (.int .i64 r) ∧ (r = 0 ↔ n ≤ 512 ∧ RI w b A n c (zv b xs) ∧ D.Can ⟨zv b xs, x⟩ ∧ -65536 ≤ x ∧ x ≤ 65536)) ∧ Below w.heap.size w w' := by
  have H := Lib.hid h
  clear h
  have BX := Lib.hid (boxes1 w 53 #[.bool b, .slice A n c, .int .i64 x])
  have HC := Lib.hid hc
  clear hc
  have BX := Lib.hid (boxes1 w 53 #[.bool b, .slice A n c, .int .i64 x])
  go_enter Tryd.func58, Tryd.ntmps58
  go_wp2_with fail
  generalize w.alloc (.cells #[.bool b, .slice A n c, .int .i64 x] 53) = w0 at *
  obtain ⟨b0, hw⟩ := BX.out
  have Ba_0 := Lib.hid b0
  have HB_0 := Lib.hid hw
  have K := Dk.below (hw.mono (Nat.le_refl _))
  clear BX hw b0
  clear K
  have la := Ba_0.out.lt
  obtain ⟨ca0, ca1, ca2⟩ := Ba_0.out.cells3
  have BW := Lib.hid HB_0.out
  go_wp2_with fail
  refine (wcheck_any _ b A n c xs (H.out.below HB_0.out) HC.out).mono ?_
  rintro e w1 ⟨⟨r, rfl, hr⟩, hb⟩
  clear la ca0 ca1 ca2
  have K := Dk.below hb
  have Ba_1 := Lib.hid (show Bk _ _ _ #[.bool b, .slice A n c, .int .i64 x] from Ba_0.out.below hb)
  have HB_2 := Lib.hid (below_tr HB_0.out hb)
  clear hb
  clear K Ba_0 HB_0
  have HR := Lib.hid hr
  clear hr
  have la := Ba_1.out.lt
  obtain ⟨ca0, ca1, ca2⟩ := Ba_1.out.cells3
  by_cases hr0 : r = 0
  · subst hr0
    have hri := HR.out.1 rfl
    have HI := Lib.hid hri.2
    have hn5 := hri.1
    clear hri HR
    by_cases hn : n = 0
    · have q0 : (n : Int) ≤ 0 := by omega
      have hz : zv b xs = 0 := by have := HI.out.pos; omega
      have HZ := Lib.hid hz
      clear hz
      have HN := Lib.hid hn
      clear hn
      by_cases hx1 : 65536 < x
      · skip
        go_wp2
        go_ret
        exact ⟨⟨1, rfl, by omega, fun h => absurd h.2.2.2.2 (by omega)⟩, HB_2.out⟩
      · by_cases hx2 : x < -65536
        · skip
          go_wp2
          go_ret
          exact ⟨⟨1, rfl, by omega, fun h => absurd h.2.2.2.1 (by omega)⟩, HB_2.out⟩
        · skip
          by_cases hx0 : x = 0
          · have HX0 := Lib.hid hx0
            have q1 : (x == 0) = true := by rw [beq_iff_eq]; exact hx0
            have q2 : (x != 0) = false := by rw [bne, q1]; rfl
            clear hx0
            go_wp2
            go_ret
            exact ⟨⟨0, rfl, fun _ => ⟨hn5, HI.out.back H.out, .inr ⟨HZ.out, HX0.out⟩, by omega, by omega⟩, fun _ => rfl⟩, HB_2.out⟩
          · have q1 : (x == 0) = false := by rw [beq_eq_false_iff_ne]; exact hx0
            have q2 : (x != 0) = true := by rw [bne, q1]; rfl
            have HX0 := Lib.hid hx0
            clear hx0
            go_wp2
            go_ret
            exact ⟨⟨2, rfl, by omega, fun h => by have h1 := h.2.2.1; have h2 := HZ.out; have h3 := HX0.out; unfold D.Can at h1; simp only at h1; omega⟩, HB_2.out⟩
    · have q0 : (0 : Int) < (n : Int) := by omega
      obtain ⟨b1, o1, rfl, hl1, hcc⟩ := H.out.2.2.2 (by omega)
      have x0 : w1.cell? ⟨b1, o1, none⟩ = some (.int .u32 (dg xs 0)) := (HB_2.out.cell (p := ⟨b1, o1, none⟩) hl1).trans (hcc 0 (by omega))
      have HP := Lib.hid (zv_odd (b := b) H.out (by omega))
      have hd := dg_lt H.out.2.2.1 0
      clear hcc hn
      have ha := bits_and_u32_nat (dg xs 0) 1 hd (by omega)
      rw [Nat.and_one_is_mod] at ha
      have HA2 := Lib.hid ha
      clear ha
      generalize dg xs 0 = d at *
      by_cases ho : d % 2 = 1
      · have q5 : (bits .and .u32 (d : Int) 1 == 1) = true := by
          have e := HA2.out
          rw [show (1 : Int) = ((1 : Nat) : Int) from rfl, e]
          rw [ho]; rfl
        have HO := Lib.hid ho
        clear ho
        by_cases hx1 : 65536 < x
        · skip
          go_wp2
          go_ret
          exact ⟨⟨1, rfl, by omega, fun h => absurd h.2.2.2.2 (by omega)⟩, HB_2.out⟩
        · by_cases hx2 : x < -65536
          · skip
            go_wp2
            go_ret
            exact ⟨⟨1, rfl, by omega, fun h => absurd h.2.2.2.1 (by omega)⟩, HB_2.out⟩
          · skip
            go_wp2
            go_ret
            exact ⟨⟨0, rfl, fun _ => ⟨hn5, HI.out.back H.out, .inl (HP.out.2 HO.out), by omega, by omega⟩, fun _ => rfl⟩, HB_2.out⟩
      · have q5 : (bits .and .u32 (d : Int) 1 == 1) = false := by
          have e := HA2.out
          rw [show (1 : Int) = ((1 : Nat) : Int) from rfl, e]
          rw [beq_eq_false_iff_ne]; omega
        have HO := Lib.hid ho
        clear ho
        by_cases hx1 : 65536 < x
        · skip
          go_wp2
          go_ret
          exact ⟨⟨1, rfl, by omega, fun h => absurd h.2.2.2.2 (by omega)⟩, HB_2.out⟩
        · by_cases hx2 : x < -65536
          · skip
            go_wp2
            go_ret
            exact ⟨⟨1, rfl, by omega, fun h => absurd h.2.2.2.1 (by omega)⟩, HB_2.out⟩
          · skip
            go_wp2
            go_ret
            exact ⟨⟨2, rfl, by omega, fun h => by have h1 := h.2.2.1; have h2 := HP.out; have h3 := HO.out; have h4 := HI.out.pos; unfold D.Can at h1; simp only at h1; omega⟩, HB_2.out⟩
  · have q0 : ((r : Int) == 0) = false := by rw [beq_eq_false_iff_ne]; exact hr0
    have q1 : ((r : Int) != 0) = true := by rw [bne, q0]; rfl
    have H0 := Lib.hid hr0
    clear hr0
    go_wp2
    go_ret
    exact ⟨⟨r, rfl, fun h => absurd h H0.out, fun h => HR.out.2 ⟨h.1, h.2.1.below (BW.out)⟩⟩, HB_2.out⟩

end Go.Proofs.YtgioppkggpfnoaaDoor.Nu
end

section
/- Rows of more digits than may be: told at once, no digit is read. -/
set_option linter.unusedVariables false
namespace Go.Proofs.YtgioppkggpfnoaaDoor.Nu
open Go.RowKit Go.Proofs

theorem check_big (w : World) (A : Option Addr) (n c : Nat) (hn : 512 < n) (hm : n ≤ 9223372036854775807) :
    Calls Tryd.prog 15 #[.slice A n c] w fun e w' => e = .returned (.int .i64 11) ∧ w' = w := by
  have q0 : (512 : Int) < (n : Int) := by omega
  go_enter Tryd.func15, Tryd.ntmps15
  go_wp2
  go_ret
  exact ⟨rfl, rfl⟩
set_option maxHeartbeats 2000000 in
theorem wcheck_big (w : World) (b : Bool) (A : Option Addr) (n c : Nat) (hn : 512 < n) (hm : n ≤ 9223372036854775807) :
    Calls Tryd.prog 95 #[.agg #[.bool b, .slice A n c]] w fun e w' => e = .returned (.int .i64 11) ∧ Below w.heap.size w w' := by
  have B0 := Lib.hid (Blk2.new w 51 (.bool b) (.slice A n c))
  have HW := Lib.hid (show Below w.heap.size w (w.alloc (.cells #[.bool b, .slice A n c] 51)) from (Below.refl _ w).alloc (Nat.le_refl _) _)
  go_enter Tryd.func95, Tryd.ntmps95
  go_wp2_with fail
  generalize w.alloc (.cells #[.bool b, .slice A n c] 51) = w0 at *
  refine (check_big w0 A n c hn hm).mono ?_
  rintro e w1 ⟨rfl, rfl⟩
  go_wp2
  go_ret
  exact ⟨rfl, HW.out⟩
set_option maxRecDepth 100000 in
set_option maxHeartbeats 4000000 in
theorem dcheck_big (w : World) (b : Bool) (A : Option Addr) (n c : Nat) (x : Int) (hn : 512 < n) (hm : n ≤ 9223372036854775807) :
    Calls Tryd.prog 58 #[.agg #[.bool b, .slice A n c, .int .i64 x]] w fun e w' => e = .returned (.int .i64 11) ∧ Below w.heap.size w w' := by
  have BX := Lib.hid (boxes1 w 53 #[.bool b, .slice A n c, .int .i64 x])
  go_enter Tryd.func58, Tryd.ntmps58
  go_wp2_with fail
  generalize w.alloc (.cells #[.bool b, .slice A n c, .int .i64 x] 53) = w0 at *
  obtain ⟨b0, hw⟩ := BX.out
  have HB := Lib.hid hw
  have ca0 := b0.cell 0 rfl
  have ca1 := b0.cell 1 rfl
  have ca2 := b0.cell 2 rfl
  clear BX hw b0
  go_wp2_with fail
  refine (wcheck_big _ b A n c hn hm).mono ?_
  rintro e w1 ⟨rfl, hb⟩
  have HB2 := Lib.hid (below_tr HB.out hb)
  clear hb ca0 ca1 ca2
  go_wp2
  go_ret
  exact ⟨rfl, HB2.out⟩
/-- A row of digits, where it isn't too long to be one. -/
def RL2 (w : World) (A : Option Addr) (n : Nat) (xs : List Nat) : Prop := n ≤ 9223372036854775807 ∧ (n ≤ 512 → RL w A n xs)
theorem RL2.below {w w' : World} {A : Option Addr} {n : Nat} {xs : List Nat} (h : RL2 w A n xs) (hb : Below w.heap.size w w') : RL2 w' A n xs := ⟨h.1, fun e => (h.2 e).below hb⟩
theorem RL2.of {w : World} {A : Option Addr} {n : Nat} {xs : List Nat} (h : RL w A n xs) : RL2 w A n xs := ⟨by have := h.2.1; omega, fun _ => h⟩
theorem dcheck_raw (w : World) (b : Bool) (A : Option Addr) (n c : Nat) (xs : List Nat) (x : Int) (h : RL2 w A n xs) (hc : n ≤ c) :
    Calls Tryd.prog 58 #[.agg #[.bool b, .slice A n c, .int .i64 x]] w fun e w' => (∃ r : Int, e = .returned (.int .i64 r) ∧ (r = 0 ↔ n ≤ 512 ∧ RI w b A n c (zv b xs) ∧ D.Can ⟨zv b xs, x⟩ ∧ -65536 ≤ x ∧ x ≤ 65536)) ∧ Below w.heap.size w w' := by
  by_cases hn : n ≤ 512
  · exact dcheck_any w b A n c xs x (h.2 hn) hc
  · refine (dcheck_big w b A n c x (by omega) h.1).mono ?_
    rintro e w' ⟨rfl, hb⟩
    exact ⟨⟨11, rfl, by omega⟩, hb⟩
end Go.Proofs.YtgioppkggpfnoaaDoor.Nu
end

section
/- Rows of dyads that came in, of whatever form; and those that may be. -/
set_option linter.unusedVariables false
namespace Go.Proofs.YtgioppkggpfnoaaDoor.Nu
open Go.RowKit Go.Proofs

/-- The three cells of element j of a row of dyads. -/
def At3 (w : World) (b off j : Nat) (q : Q) (x : Int) : Prop :=
  w.cell? ⟨b, off + j * 3, none⟩ = some (.bool q.b) ∧ w.cell? ⟨b, off + j * 3 + 1, none⟩ = some (.slice q.A q.n q.c) ∧ w.cell? ⟨b, off + j * 3 + 2, none⟩ = some (.int .i64 x)
theorem At3.uniq {w : World} {b off j : Nat} {q q' : Q} {x x' : Int} (h : At3 w b off j q x) (h' : At3 w b off j q' x') : q = q' ∧ x = x' := by
  obtain ⟨a, c, d⟩ := h
  obtain ⟨a', c', d'⟩ := h'
  rw [a] at a'
  rw [c] at c'
  rw [d] at d'
  cases q
  cases q'
  simp only at *
  injection a' with a'
  injection a' with a'
  injection c' with c'
  injection c' with c1 c2 c3
  injection d' with d'
  injection d' with d1 d2
  subst a' c1 c2 c3 d2
  exact ⟨rfl, rfl⟩
/-- A row of dyads of whatever form. -/
def RawD (w : World) (A : Option Addr) (n c : Nat) : Prop :=
  n ≤ c ∧ n ≤ 9223372036854775807 ∧ (0 < n → ∃ b off, A = some ⟨b, off, none⟩ ∧ b < w.heap.size ∧ ∀ j, j < n → ∃ (q : Q) (xs : List Nat) (x : Int), At3 w b off j q x ∧ RL2 w q.A q.n xs ∧ q.n ≤ q.c)
/-- What may be, of its size. -/
def OkD (d : D) : Prop := -65536 ≤ d.x ∧ d.x ≤ 65536 ∧ nb d.z.natAbs ≤ 16384
def Elt (w : World) (b off j : Nat) (d : D) : Prop := ∃ q, At3 w b off j q d.x ∧ RD w q d
theorem Elt.uniq {w : World} {b off j : Nat} {d d' : D} (h : Elt w b off j d) (h' : Elt w b off j d') : d = d' := by
  obtain ⟨q, a, r⟩ := h
  obtain ⟨q', a', r'⟩ := h'
  obtain ⟨rfl, ex⟩ := a.uniq a'
  refine D.ext' ?_ ex
  have h1 := r.1.2.2.1
  have h2 := r'.1.2.2.1
  have e1 := r.1.neg
  have e2 := r'.1.neg
  have e3 : d.z.natAbs = d'.z.natAbs := by
    obtain ⟨l1, _, _, c1⟩ := r.1.2.2
    obtain ⟨l2, _, _, c2⟩ := r'.1.2.2
    apply digs_inj
    apply List.ext_getElem (by rw [l1, l2])
    intro i hi1 hi2
    obtain ⟨b1, o1, e1, _, k1⟩ := c1 (by omega)
    obtain ⟨b2, o2, e2, _, k2⟩ := c2 (by omega)
    rw [e1] at e2
    injection e2 with e2
    injection e2 with e4 e5
    subst e4 e5
    have k3 := (k1 i (by omega)).symm.trans (k2 i (by omega))
    injection k3 with k3
    injection k3 with _ k3
    rw [dg_of hi1, dg_of hi2] at k3
    omega
  rw [e1, e2, e3]
def RowOK (w : World) (A : Option Addr) (n c : Nat) : Prop := ∃ f : Nat → D, RDs w A n c f ∧ ∀ j, j < n → OkD (f j)
theorem RDs.elt {w : World} {n c b off : Nat} {f : Nat → D} (h : RDs w (some ⟨b, off, none⟩) n c f) {j : Nat} (hj : j < n) : Elt w b off j (f j) := by
  obtain ⟨b', off', e, _, hc⟩ := h.2.2 (by omega)
  injection e with e
  injection e with e1 e2
  subst e1 e2
  obtain ⟨q, c0, c1, c2, hr⟩ := hc j hj
  exact ⟨q, ⟨c0, c1, c2⟩, hr⟩
theorem RowOK.mk {w : World} {n c b off : Nat} (hc : n ≤ c) (hn : n ≤ 1000000) (hb : b < w.heap.size) (h : ∀ j, j < n → ∃ d, Elt w b off j d ∧ OkD d) : RowOK w (some ⟨b, off, none⟩) n c := by
  have h2 : ∀ j, ∃ d, j < n → Elt w b off j d ∧ OkD d := fun j => by
    by_cases hj : j < n
    · obtain ⟨d, hd⟩ := h j hj; exact ⟨d, fun _ => hd⟩
    · exact ⟨D.zero, fun e => absurd e hj⟩
  refine ⟨fun j => Classical.choose (h2 j), ⟨hc, hn, fun _ => ⟨b, off, rfl, hb, fun j hj => ?_⟩⟩, fun j hj => (Classical.choose_spec (h2 j) hj).2⟩
  obtain ⟨⟨q, ⟨c0, c1, c2⟩, hr⟩, _⟩ := Classical.choose_spec (h2 j) hj
  exact ⟨q, c0, c1, c2, hr⟩
theorem RowOK.nil (w : World) (A : Option Addr) (c : Nat) : RowOK w A 0 c := ⟨fun _ => D.zero, ⟨Nat.zero_le _, Nat.zero_le _, fun h => absurd h (by omega)⟩, fun j hj => absurd hj (by omega)⟩
/-- What dyad.Check tells of an element: it may be. -/
theorem elt_of_check {w w0 : World} {b off j : Nat} {q : Q} {xs : List Nat} {x : Int} (a : At3 w b off j q x) (hl2 : RL2 w q.A q.n xs) (hn : q.n ≤ 512) (hr : RI w0 q.b q.A q.n q.c (zv q.b xs)) (hcan : D.Can ⟨zv q.b xs, x⟩) (h0 : -65536 ≤ x) (h1 : x ≤ 65536) : ∃ d, Elt w b off j d ∧ OkD d := by
  have hl := hl2.2 hn
  have hri := hr.back hl
  refine ⟨⟨zv q.b xs, x⟩, ⟨q, a, hri, hcan⟩, h0, h1, ?_⟩
  have h2 := (digs_len_le (n := (zv q.b xs).natAbs) (k := q.n)).1 (Nat.le_of_eq hri.2.2.1)
  refine nb_le.2 (Nat.lt_of_lt_of_le h2 ?_)
  rw [show (4294967296 : Nat) = 2 ^ 32 from rfl, ← Nat.pow_mul]
  exact Nat.pow_le_pow_right (by omega) (by omega)
/-- And back. -/
theorem check_of_elt {w w0 : World} {b off j : Nat} {q : Q} {xs : List Nat} {x : Int} {d : D} (a : At3 w b off j q x) (hl2 : RL2 w q.A q.n xs) (he : Elt w b off j d) (ho : OkD d) (hb : Below w.heap.size w w0) :
    q.n ≤ 512 ∧ RI w0 q.b q.A q.n q.c (zv q.b xs) ∧ D.Can ⟨zv q.b xs, x⟩ ∧ -65536 ≤ x ∧ x ≤ 65536 := by
  obtain ⟨q', a', r⟩ := he
  obtain ⟨rfl, rfl⟩ := a.uniq a'
  have hlen := r.1.len (k := 512) ho.2.2
  have hl := hl2.2 hlen
  have e : zv q.b xs = d.z := by
    obtain ⟨l1, _, _, c1⟩ := r.1.2.2
    have e1 : xs = digs d.z.natAbs := by
      apply List.ext_getElem (by rw [l1, hl.1])
      intro i hi1 hi2
      obtain ⟨b1, o1, e1, _, k1⟩ := c1 (by omega)
      obtain ⟨b2, o2, e2, _, k2⟩ := hl.2.2.2 (by have := hl.1; omega)
      rw [e1] at e2
      injection e2 with e2
      injection e2 with e4 e5
      subst e4 e5
      have k3 := (k1 i (by omega)).symm.trans (k2 i (by have := hl.1; omega))
      injection k3 with k3
      injection k3 with _ k3
      rw [dg_of hi1, dg_of hi2] at k3
      omega
    have e2 := r.1.neg
    unfold zv
    rw [e1, val_digs, ← e2]
  rw [e]
  exact ⟨hlen, RI.below r.1 hb, r.2, ho.1, ho.2.1⟩
/-- Rows of rows of whatever form. -/
def RawR (w : World) (A : Option Addr) (m c : Nat) : Prop :=
  m ≤ c ∧ m ≤ 9223372036854775807 ∧ (0 < m → ∃ b off, A = some ⟨b, off, none⟩ ∧ b < w.heap.size ∧ ∀ k, k < m → ∃ A' n' c', w.cell? ⟨b, off + k, none⟩ = some (.slice A' n' c') ∧ RawD w A' n' c')
end Go.Proofs.YtgioppkggpfnoaaDoor.Nu
end

section
/- The walk of zono.Check, over whatever set. -/
set_option linter.unusedVariables false
namespace Go.Proofs.YtgioppkggpfnoaaDoor.Nu
open Go.RowKit Go.Proofs

/-- The k-th of a set's rows: the middle, the sizes, then the ways. -/
def Rk (w : World) (Ac Ag Ar : Option Addr) (nc cc m cg nr cr : Nat) (k : Nat) (A' : Option Addr) (n' c' : Nat) : Prop :=
  (k = 0 ∧ A' = Ac ∧ n' = nc ∧ c' = cc) ∨ (k = 1 ∧ A' = Ar ∧ n' = nr ∧ c' = cr) ∨ (2 ≤ k ∧ ∃ b off, Ag = some ⟨b, off, none⟩ ∧ w.cell? ⟨b, off + (k - 2), none⟩ = some (.slice A' n' c'))
/-- The rows, one behind the other, in a block of the call's own. -/
def CRows (Ac Ag Ar : Option Addr) (nc cc m cg nr cr : Nat) (w : World) (g : Nat) (wx : World) : Prop :=
  g < wx.heap.size ∧ ∀ k, k < 2 + m → ∃ A' n' c', wx.cell? ⟨g, k, none⟩ = some (.slice A' n' c') ∧ Rk w Ac Ag Ar nc cc m cg nr cr k A' n' c' ∧ RawD w A' n' c'
theorem own_two (w : World) (a b : Value) : (w.alloc (.cells #[a, b] 39)).ownsRow 0 39 1 (.slice (some ⟨w.heap.size, 0, none⟩) 2 2) 2 [a, b] :=
  ⟨rfl, .inr ⟨w.heap.size, 2, #[a, b], rfl, Nat.zero_le _, alloc_top w _, Nat.le_refl _, by unfold maxLen; omega, rfl, rfl⟩⟩
theorem own_form {w : World} {v : Value} {n : Nat} {xs : List Value} {E : TypeId} (h : w.ownsRow 0 E 1 v n xs) (hx : n ≠ 0) : ∃ g c, v = .slice (some ⟨g, 0, none⟩) n c := by
  rcases h.2 with ⟨_, e⟩ | ⟨g, cap, cur, e, _⟩
  · exact absurd e hx
  · exact ⟨g, cap, e⟩
theorem raw_news {w : World} {ad : Addr} {m cg : Nat} (h : RawR w (some ad) m cg) : ∃ news : List Value, news.length = m ∧
    (∀ k, k < m → ∃ A' n' c', news[k]? = some (.slice A' n' c') ∧ (∃ b off, (some ad : Option Addr) = some ⟨b, off, none⟩ ∧ w.cell? ⟨b, off + k, none⟩ = some (.slice A' n' c')) ∧ RawD w A' n' c') ∧
    ((∀ u ∈ news, u.oneCell' = true) ∧ ∀ (j : Nat) u, news[j]? = some u → (ad.add j).block < w.heap.size ∧ w.cell? (ad.add j) = some u) := by
  by_cases h0 : m = 0
  · subst h0
    exact ⟨[], rfl, fun k hk => absurd hk (by omega), ⟨(fun u hu => by cases hu), (fun j u hj => by simp at hj)⟩⟩
  · obtain ⟨b, off, e, hb, hc⟩ := h.2.2 (by omega)
    injection e with e
    subst e
    refine ⟨(List.range m).map fun k => (w.cell? ⟨b, off + k, none⟩).getD (.slice none 0 0), by simp, fun k hk => ?_, fun u hu => ?_, fun j u hj => ?_⟩
    · obtain ⟨A', n', c', e1, hr⟩ := hc k hk
      exact ⟨A', n', c', by simp [hk, e1], ⟨b, off, rfl, e1⟩, hr⟩
    · obtain ⟨k, hk, rfl⟩ := List.mem_map.1 hu
      obtain ⟨A', n', c', e1, hr⟩ := hc k (List.mem_range.1 hk)
      rw [e1]; rfl
    · have hjm : j < m := by have := (List.getElem?_eq_some_iff.1 hj).1; simpa using this
      obtain ⟨A', n', c', e1, hr⟩ := hc j hjm
      simp [hjm, e1] at hj
      rw [Addr.add_lit]
      exact ⟨hb, by rw [e1, ← hj]⟩
theorem crows_end {w w0 w2 : World} {Ac Ag Ar : Option Addr} {nr cc m cg cr g cap : Nat} {news : List Value} {zc : Array Value} (HB : Below w.heap.size w w0)
    (hown : w2.ownsRow 0 39 1 (.slice (some ⟨g, 0, none⟩) (2 + m) cap) (2 + m) ([.slice Ac nr cc, .slice Ar nr cr] ++ news))
    (hgr : (w0.alloc (.cells #[.slice Ac nr cc, .slice Ar nr cr] 39)).grownBy w2 (Value.ownBlock (.slice (some ⟨w0.heap.size, 0, none⟩) 2 2)))
    (HC : RawD w Ac nr cc) (HR : RawD w Ar nr cr) (hl : news.length = m)
    (hn : ∀ k, k < m → ∃ A' n' c', news[k]? = some (.slice A' n' c') ∧ (∃ b off, Ag = some ⟨b, off, none⟩ ∧ w.cell? ⟨b, off + k, none⟩ = some (.slice A' n' c')) ∧ RawD w A' n' c') (BZ : Bk w0 w.heap.size 42 zc) :
    CRows Ac Ag Ar nr cc m cg nr cr w g w2 ∧ Bk w2 w.heap.size 42 zc ∧ Below w.heap.size w w2 := by
  have hlt := (hown.lt g rfl).2
  have hrow : (Value.ownBlock (.slice (some ⟨w0.heap.size, 0, none⟩) 2 2)) = some w0.heap.size := rfl
  refine ⟨⟨hlt, fun k hk => ?_⟩, ?_, ?_⟩
  · have hcell := fun u (h : ([Value.slice Ac nr cc, .slice Ar nr cr] ++ news)[k]? = some u) => hown.cells (g := g) rfl k u h
    have hcell2 : ∀ u, ([Value.slice Ac nr cc, .slice Ar nr cr] ++ news)[k]? = some u → w2.cell? ⟨g, k, none⟩ = some u := fun u h => by
      have := hcell u h
      rw [Addr.add_lit, Nat.zero_add] at this
      exact this
    match k, hk with
    | 0, _ => exact ⟨Ac, nr, cc, hcell2 _ rfl, .inl ⟨rfl, rfl, rfl, rfl⟩, HC⟩
    | 1, _ => exact ⟨Ar, nr, cr, hcell2 _ rfl, .inr (.inl ⟨rfl, rfl, rfl, rfl⟩), HR⟩
    | k + 2, hk =>
      obtain ⟨A', n', c', e1, e2, hr⟩ := hn k (by omega)
      exact ⟨A', n', c', hcell2 _ (by simpa using e1), .inr (.inr ⟨by omega, e2⟩), hr⟩
  · have h1 := hgr.block w.heap.size (by rw [World.size_alloc]; have := BZ.lt; omega) (by rw [hrow]; intro e; injection e with e; have := BZ.lt; omega)
    exact h1.trans ((sameA w0 BZ.lt _).trans BZ)
  · exact (below_al HB _).grown hgr (by rw [World.size_alloc]; have := HB.size; omega) (by intro k hk; rw [hrow] at hk; injection hk with hk; have := HB.size; omega)
/-- What zono.Check asks. -/
def ZOK (Ac Ag Ar : Option Addr) (nc cc m cg nr cr : Nat) (w : World) (n : Nat) : Prop :=
  nc = n ∧ nr = n ∧ n ≤ 16 ∧ m ≤ 4096 ∧ (∀ k A' n' c', k < 2 + m → Rk w Ac Ag Ar nc cc m cg nr cr k A' n' c' → n' = n ∧ RowOK w A' n' c') ∧ (∀ j, j < nr → ∀ b off d, Ar = some ⟨b, off, none⟩ → Elt w b off j d → 0 ≤ d.z)

theorem Rk.uniq {w : World} {Ac Ag Ar : Option Addr} {nc cc m cg nr cr k : Nat} {A A' : Option Addr} {n n' c c' : Nat} (h : Rk w Ac Ag Ar nc cc m cg nr cr k A n c) (h' : Rk w Ac Ag Ar nc cc m cg nr cr k A' n' c') : A = A' ∧ n = n' ∧ c = c' := by
  rcases h with ⟨e, rfl, rfl, rfl⟩ | ⟨e, rfl, rfl, rfl⟩ | ⟨e, b, off, hA, hc⟩ <;> rcases h' with ⟨e', rfl, rfl, rfl⟩ | ⟨e', rfl, rfl, rfl⟩ | ⟨e', b', off', hA', hc'⟩
  · exact ⟨rfl, rfl, rfl⟩
  · omega
  · omega
  · omega
  · exact ⟨rfl, rfl, rfl⟩
  · omega
  · omega
  · omega
  · rw [hA] at hA'
    injection hA' with hA'
    injection hA' with h1 h2
    subst h1 h2
    rw [hc] at hc'
    injection hc' with hc'
    injection hc' with h1 h2 h3
    exact ⟨h1, h2, h3⟩
/-- The state ahead of element j of a row. -/
def InRel (w : World) (A : Option Addr) (w2 : World) (j : Nat) (wi : World) : Prop :=
  Below w2.heap.size w2 wi ∧ ∀ j', j' < j → ∃ d, (∃ b off, A = some ⟨b, off, none⟩ ∧ b < w.heap.size ∧ Elt w b off j' d) ∧ OkD d
theorem InRel.row {w w2 wi : World} {A : Option Addr} {n c : Nat} (hraw : RawD w A n c) (hn : n ≤ 1000000) (h : InRel w A w2 n wi) : RowOK w A n c := by
  by_cases h0 : n = 0
  · subst h0; exact RowOK.nil w A c
  · obtain ⟨b, off, rfl, hlt, _⟩ := hraw.2.2 (by omega)
    refine RowOK.mk hraw.1 hn hlt fun j hj => ?_
    obtain ⟨d, ⟨b', off', e, _, he⟩, hok⟩ := h.2 j hj
    injection e with e
    injection e with e1 e2
    subst e1 e2
    exact ⟨d, he, hok⟩
/-- The state ahead of row k. -/
def CkRel (Ac Ag Ar : Option Addr) (nc cc m cg nr cr : Nat) (w : World) (n : Nat) (w2 : World) (k : Nat) (wr : World) : Prop :=
  Below w2.heap.size w2 wr ∧ ∀ k', k' < k → ∀ A' n' c', Rk w Ac Ag Ar nc cc m cg nr cr k' A' n' c' → n' = n ∧ RowOK w A' n' c'

set_option maxRecDepth 100000 in
set_option maxHeartbeats 4000000 in
theorem zcheck_any (w : World) (Ac Ag Ar : Option Addr) (nc cc m cg nr cr n : Nat) (hC : RawD w Ac nc cc) (hG : RawR w Ag m cg) (hR : RawD w Ar nr cr) (hnil : Ag = none → cg = 0) (hn : n ≤ 9223372036854775807) :
    Calls Tryd.prog 27 #[.agg #[.slice Ac nc cc, .slice Ag m cg, .slice Ar nr cr], .int .i64 n] w fun e w' => (∃ r : Int, e = .returned (.int .i64 r) ∧ (r = 0 ↔ ZOK Ac Ag Ar nc cc m cg nr cr w n)) ∧ Below w.heap.size w w' := by
  have HC := Lib.hid hC
  have HG := Lib.hid hG
  have HR := Lib.hid hR
  have HNL := Lib.hid hnil
  have hm2 := hG.2.1
  clear hC hG hR hnil
  have hnc := HC.out.2.1
  have hnr := HR.out.2.1
  have BX := Lib.hid (boxes1 w 42 #[.slice Ac nc cc, .slice Ag m cg, .slice Ar nr cr])
  by_cases h16 : 16 < n
  · have q0 : ¬ (n : Int) < 0 := by omega
    have q1 : (16 : Int) < (n : Int) := by omega
    go_enter Tryd.func27, Tryd.ntmps27
    go_wp2
    go_ret
    exact ⟨⟨20, rfl, by omega, fun h => absurd h (by rintro ⟨_, _, h, _⟩; omega)⟩, BX.out.2⟩
  have q0 : ¬ (n : Int) < 0 := by omega
  have q1 : ¬ (16 : Int) < (n : Int) := by omega
  by_cases hcn : nc = n
  rotate_left
  · have q2 : ((nc : Int) == (n : Int)) = false := by rw [beq_eq_false_iff_ne]; omega
    have q3 : ((nc : Int) != (n : Int)) = true := by rw [bne, q2]; rfl
    have HN := Lib.hid hcn
    clear hcn
    go_enter Tryd.func27, Tryd.ntmps27
    go_wp2
    go_ret
    exact ⟨⟨20, rfl, by omega, fun h => absurd h (by rintro ⟨h, _⟩; exact HN.out h)⟩, BX.out.2⟩
  by_cases hrn : nr = n
  rotate_left
  · have q2 : ((nc : Int) == (n : Int)) = true := by rw [beq_iff_eq]; omega
    have q3 : ((nc : Int) != (n : Int)) = false := by rw [bne, q2]; rfl
    have q4 : ((nr : Int) == (n : Int)) = false := by rw [beq_eq_false_iff_ne]; omega
    have q5 : ((nr : Int) != (n : Int)) = true := by rw [bne, q4]; rfl
    have HN := Lib.hid hrn
    clear hrn hcn
    go_enter Tryd.func27, Tryd.ntmps27
    go_wp2
    go_ret
    exact ⟨⟨20, rfl, by omega, fun h => absurd h (by rintro ⟨_, h, _⟩; exact HN.out h)⟩, BX.out.2⟩
  obtain rfl : nc = n := hcn
  obtain rfl : nr = nc := hrn
  have q2 : ((nr : Int) != (nr : Int)) = false := by simp
  by_cases hm4 : 4096 < m
  · have q6 : (4096 : Int) < (m : Int) := by omega
    go_enter Tryd.func27, Tryd.ntmps27
    go_wp2
    go_ret
    exact ⟨⟨32, rfl, by omega, fun h => absurd h (by rintro ⟨_, _, _, h, _⟩; omega)⟩, BX.out.2⟩
  have q6 : ¬ (4096 : Int) < (m : Int) := by omega
  clear h16
  go_enter Tryd.func27, Tryd.ntmps27
  go_upto_region 5 with (fail)
  generalize w.alloc (.cells #[.slice Ac nr cc, .slice Ag m cg, .slice Ar nr cr] 42) = w0 at *
  obtain ⟨b0, hw⟩ := BX.out
  have BZ := Lib.hid b0
  have HB := Lib.hid hw
  clear b0 hw BX
  have cz0 := BZ.out.cell 0 rfl
  have cz1 := BZ.out.cell 1 rfl
  have cz2 := BZ.out.cell 2 rfl
  have lz := BZ.out.lt
  go_cut [43, 44, 45] (fun s43 s44 s45 wx => ∃ (g cap : Nat), s43 = .slice (some ⟨g, 0, none⟩) (2 + m) cap ∧ s44 = .int .i64 ((2 + m : Nat) : Int) ∧ s45 = .int .i64 0 ∧ CRows Ac Ag Ar nr cc m cg nr cr w g wx ∧ Bk wx w.heap.size 42 #[.slice Ac nr cc, .slice Ag m cg, .slice Ar nr cr] ∧ Below w.heap.size w wx)
  case first =>
    obtain ⟨i0, hi, hz0, hz1, hz2⟩ := info_parts infoL
    have HOW := Lib.hid (own_two w0 (.slice Ac nr cc) (.slice Ar nr cr))
    cases Ag with
    | none =>
      obtain rfl : cg = 0 := HNL.out rfl
      obtain rfl : m = 0 := by have := HG.out.1; omega
      have HX := Lib.hid (crows_end (Ag := none) (cg := 0) (m := 0) (g := w0.heap.size) (cap := 2) (news := []) HB.out HOW.out (World.grownBy.refl _ _) HC.out HR.out rfl (fun k hk => absurd hk (by omega)) BZ.out)
      go_wp2_with fail
      go_meet
      exact ⟨w0.heap.size, 2, rfl, rfl, rfl, HX.out.1, HX.out.2.1, HX.out.2.2⟩
    | some ad =>
      obtain ⟨news, hnl, hnw, hnc1⟩ := raw_news HG.out
      have HNW := Lib.hid hnw
      have HNC := Lib.hid hnc1
      have HLN := Lib.hid hnl
      clear hnl hnw hnc1
      go_wp2_with (at_builtin; refine wpList_append_own_at _ rfl _ _ 40 rfl 0 39 i0 (.slice none 0 0) 1 24 Tryd.underlying40 hi hz0 hz1 hz2 rfl (by decide) (.slice (some ⟨w0.heap.size, 0, none⟩) 2 2) 2 [.slice Ac nr cc, .slice Ar nr cr] rfl HOW.out ad m cg news rfl ?n1 ?n2 ?n3 ?n4 ?n5 ?n6 ?_)
      case n1 => rw [HLN.out]
      case n2 => intro j u hj; exact Lib.cell?_alloc_some _ ((HB.out.cell (HNC.out.2 j u hj).1).trans (HNC.out.2 j u hj).2)
      case n3 => exact HNC.out.1
      case n4 => unfold maxLen; omega
      case n5 => omega
      intro v' w2 hown hgr hnn hob
      obtain ⟨g, cap, rfl⟩ := own_form hown (by omega)
      have HX := Lib.hid (crows_end (cg := cg) (g := g) (cap := cap) HB.out hown hgr HC.out HR.out HLN.out HNW.out BZ.out)
      clear hown hgr cz0 cz1 cz2 hnn hob
      go_wp2_with fail
      go_meet
      exact ⟨g, cap, rfl, rfl, rfl, HX.out.1, HX.out.2.1, HX.out.2.2⟩
  case rest =>
    obtain ⟨w2, rfl⟩ : ∃ x, x = wc := ⟨_, rfl⟩
    obtain ⟨g, cap, rfl, rfl, rfl, hcr, hbz, hbel⟩ := hcut
    have CR := Lib.hid hcr
    have B2 := Lib.hid hbz
    have HB2 := Lib.hid hbel
    clear hcr hbz hbel cz0 cz1 cz2 lz BZ HB
    have H0 := Lib.hid (show CkRel Ac Ag Ar nr cc m cg nr cr w nr w2 0 w2 from ⟨Below.refl _ _, fun k hk => absurd hk (by omega)⟩)
    go_wp2_with fail
    go_loopw [45] (fun k wr => ∃ i : Nat, k = .int .i64 i ∧ i ≤ 2 + m ∧ Hid (CkRel Ac Ag Ar nr cc m cg nr cr w nr w2 i wr)) (fun k _ => 2 + m - (intOf k).toNat)
    case atStart => exact ⟨0, rfl, Nat.zero_le _, H0⟩
    case round =>
      clear H0
      obtain ⟨k, rfl, hk, Hr⟩ := hrel
      by_cases hk2 : k < 2 + m
      · obtain ⟨A', n', c', e1, hrk, hraw⟩ := CR.out.2 k hk2
        obtain ⟨hbel, hgood⟩ := Hr.out
        have x0 : wr.cell? ⟨g, k, none⟩ = some (.slice A' n' c') := (hbel.cell (p := ⟨g, k, none⟩) CR.out.1).trans e1
        have HRK := Lib.hid hrk
        have HRAW := Lib.hid hraw
        have HGOOD := Lib.hid hgood
        have HBR := Lib.hid hbel
        have hn62 := hraw.2.1
        clear hrk hraw hgood hbel e1 Hr
        have q7 : (k : Int) < 2 + (m : Int) := by omega
        have q7' : (k : Int) < ((2 + m : Nat) : Int) := by omega
        have q7'' : k < 2 + m := hk2
        by_cases hnn : n' = nr
        · obtain rfl : nr = n' := hnn.symm
          clear hnn
          go_wp2_with fail
          have I0 := Lib.hid (show InRel w A' w2 0 wr from ⟨HBR.out, fun j hj => absurd hj (by omega)⟩)
          clear x0
          go_loopw [55] (fun j wi => ∃ i : Nat, j = .int .i64 i ∧ i ≤ nr ∧ Hid (InRel w A' w2 i wi)) (fun j _ => nr - (intOf j).toNat)
          case atStart => exact ⟨0, rfl, Nat.zero_le _, I0⟩
          case round =>
            clear I0
            obtain ⟨j, rfl, hj, Hi⟩ := hrel
            by_cases hj2 : j < nr
            · obtain ⟨b1, o1, rfl, hl1, hcc⟩ := HRAW.out.2.2 (by omega)
              obtain ⟨q, xs, x, hat, hrl, hqc⟩ := hcc j hj2
              obtain ⟨hbi, hels⟩ := Hi.out
              have HBI := Lib.hid (HB2.out.trans (hbi.mono HB2.out.size))
              have x1 := (HBI.out.cell (p := ⟨b1, _, none⟩) hl1).trans hat.1
              have x2 := (HBI.out.cell (p := ⟨b1, _, none⟩) hl1).trans hat.2.1
              have x3 := (HBI.out.cell (p := ⟨b1, _, none⟩) hl1).trans hat.2.2
              have HAT := Lib.hid hat
              have HRL := Lib.hid hrl
              have HQC := Lib.hid hqc
              have HBI2 := Lib.hid hbi
              have HELS := Lib.hid hels
              clear hat hrl hqc hbi hels hcc Hi
              have q8 : (j : Int) < (nr : Int) := by omega
              go_wp2_with fail
              have HW1 := Lib.hid (below_al HBI.out (.cells #[.bool q.b, .slice q.A q.n q.c, .int .i64 x] 53))
              have HW2 := Lib.hid ((Below.refl _ wr).alloc (Nat.le_refl _) (.cells #[.bool q.b, .slice q.A q.n q.c, .int .i64 x] 53))
              refine (dcheck_raw _ q.b q.A q.n q.c xs x (HRL.out.below HW1.out) HQC.out).mono ?_
              rintro e w5 ⟨⟨r, rfl, hr⟩, hb⟩
              have HR5 := Lib.hid hr
              have HB5 := Lib.hid (below_tr HW1.out hb)
              have HB6 := Lib.hid (HBI2.out.trans ((below_tr HW2.out hb).mono HBI2.out.size))
              clear hb x1 x2 x3 hr
              by_cases hr0 : r = 0
              · subst hr0
                have hq := HR5.out.1 rfl
                have HE := Lib.hid (elt_of_check HAT.out HRL.out hq.1 hq.2.1 hq.2.2.1 hq.2.2.2.1 hq.2.2.2.2)
                clear hq
                go_wp2
                go_roundw
                case rel =>
                  refine ⟨j + 1, by go_num, hj2, Lib.hid ⟨HB6.out, fun j' hj' => ?_⟩⟩
                  by_cases e : j' = j
                  · subst e
                    obtain ⟨d, h1, h2⟩ := HE.out
                    exact ⟨d, ⟨b1, o1, rfl, hl1, h1⟩, h2⟩
                  · exact HELS.out j' (by omega)
                case measure => simp only [intOf]; omega
              · have q9 : ((r : Int) == 0) = false := by rw [beq_eq_false_iff_ne]; exact hr0
                have q10 : ((r : Int) != 0) = true := by rw [bne, q9]; rfl
                have H0 := Lib.hid hr0
                clear hr0
                go_wp2
                go_ret
                refine ⟨⟨r, rfl, fun h => absurd h H0.out, fun hz => ?_⟩, HB5.out⟩
                obtain ⟨_, hro⟩ := hz.2.2.2.2.1 k _ _ _ hk2 HRK.out
                obtain ⟨f, hf, hok⟩ := hro
                exact HR5.out.2 (check_of_elt HAT.out HRL.out (hf.elt hj2) (hok j hj2) HW1.out)
            · obtain rfl : j = nr := by omega
              obtain ⟨hbi, hels⟩ := Hi.out
              have HBI2 := Lib.hid hbi
              have HRO := Lib.hid (show RowOK w A' j c' from InRel.row HRAW.out (by omega) Hi.out)
              clear hbi hels Hi hj2
              go_wp2
              go_roundw
              case rel =>
                refine ⟨k + 1, by go_num, hk2, Lib.hid ⟨HBI2.out, fun k' hk' A'' n'' c'' h'' => ?_⟩⟩
                by_cases e : k' = k
                · subst e
                  obtain ⟨rfl, rfl, rfl⟩ := h''.uniq HRK.out
                  exact ⟨rfl, HRO.out⟩
                · exact HGOOD.out k' (by omega) _ _ _ h''
              case measure => simp only [intOf]; omega
        · have q8 : ((n' : Int) == (nr : Int)) = false := by rw [beq_eq_false_iff_ne]; omega
          have q9 : ((n' : Int) != (nr : Int)) = true := by rw [bne, q8]; rfl
          have HN := Lib.hid hnn
          clear hnn
          go_wp2
          go_ret
          exact ⟨⟨20, rfl, by omega, fun hz => absurd (hz.2.2.2.2.1 k _ _ _ hk2 HRK.out).1 HN.out⟩, HB2.out.trans (HBR.out.mono HB2.out.size)⟩
      · obtain rfl : k = 2 + m := by omega
        obtain ⟨hbel, hgood⟩ := Hr.out
        have HGOOD := Lib.hid hgood
        have HBR := Lib.hid hbel
        clear hgood hbel Hr hk2
        obtain ⟨f, hf, hok⟩ := (HGOOD.out 1 (by omega) Ar nr cr (.inr (.inl ⟨rfl, rfl, rfl, rfl⟩))).2
        have HF := Lib.hid hf
        have BZ := Lib.hid (B2.out.below HBR.out)
        clear hf hok
        have cz0 := BZ.out.cell 0 rfl
        have cz1 := BZ.out.cell 1 rfl
        have cz2 := BZ.out.cell 2 rfl
        go_wp2_with fail
        have L0 := Lib.hid (show Below w2.heap.size w2 wr ∧ ∀ j, j < 0 → 0 ≤ (f j).z from ⟨HBR.out, fun j hj => absurd hj (by omega)⟩)
        clear cz0 cz1 cz2 BZ HBR
        go_loopw [69] (fun j wi => ∃ i : Nat, j = .int .i64 i ∧ i ≤ nr ∧ Hid (Below w2.heap.size w2 wi ∧ ∀ j, j < i → 0 ≤ (f j).z)) (fun j _ => nr - (intOf j).toNat)
        case atStart => exact ⟨0, rfl, Nat.zero_le _, L0⟩
        case round =>
          clear L0
          obtain ⟨j, rfl, hj, Hi⟩ := hrel
          by_cases hj2 : j < nr
          · obtain ⟨b1, o1, rfl, hl1, hcc⟩ := HF.out.2.2 (by omega)
            obtain ⟨q, c0, c1, c2, hq⟩ := hcc j hj2
            obtain ⟨hbi, hels⟩ := Hi.out
            have HBI := Lib.hid (HB2.out.trans (hbi.mono HB2.out.size))
            have x1 := (HBI.out.cell (p := ⟨b1, _, none⟩) hl1).trans c0
            have x2 := (HBI.out.cell (p := ⟨b1, _, none⟩) hl1).trans c1
            have x3 := (HBI.out.cell (p := ⟨b1, _, none⟩) hl1).trans c2
            have HQ := Lib.hid hq
            have HEL := Lib.hid (show Elt w b1 o1 j (f j) from ⟨q, ⟨c0, c1, c2⟩, hq⟩)
            have HBI2 := Lib.hid hbi
            have HELS := Lib.hid hels
            clear hbi hels hcc Hi c0 c1 c2 hq
            have q8 : (j : Int) < (nr : Int) := by omega
            go_wp2_with fail
            have HW1 := Lib.hid (below_al HBI.out (.cells #[.bool q.b, .slice q.A q.n q.c, .int .i64 (f j).x] 53))
            have HW2 := Lib.hid ((Below.refl _ wr).alloc (Nat.le_refl _) (.cells #[.bool q.b, .slice q.A q.n q.c, .int .i64 (f j).x] 53))
            refine (dsign_q _ q (f j) (HQ.out.below HW1.out)).mono ?_
            rintro e w5 ⟨rfl, hb⟩
            have HB5 := Lib.hid (below_tr HW1.out hb)
            have HB6 := Lib.hid (HBI2.out.trans ((below_tr HW2.out hb).mono HBI2.out.size))
            clear hb x1 x2 x3
            by_cases hz0 : (f j).z < 0
            · have q9 : sgn (f j).z < 0 := by have := sgn_cases (f j).z; omega
              have HZ0 := Lib.hid hz0
              clear hz0
              generalize sgn (f j).z = t at *
              go_wp2
              go_ret
              exact ⟨⟨1, rfl, by omega, fun hz => absurd (hz.2.2.2.2.2 j hj2 b1 o1 (f j) rfl HEL.out) (by have := HZ0.out; omega)⟩, HB5.out⟩
            · have q9 : ¬ sgn (f j).z < 0 := by have := sgn_cases (f j).z; omega
              have HZ0 := Lib.hid hz0
              clear hz0
              generalize sgn (f j).z = t at *
              go_wp2
              go_roundw
              case rel =>
                refine ⟨_, _, _, _, _, _, _, _, _, _, ⟨j + 1, ?_, hj2, Lib.hid ⟨HB6.out, fun j' hj' => ?_⟩⟩, rfl⟩
                · go_num
                · by_cases e : j' = j
                  · subst e; have := HZ0.out; omega
                  · exact HELS.out j' (by omega)
              case measure => simp [intOf]; omega
          · obtain rfl : j = nr := by omega
            obtain ⟨hbi, hels⟩ := Hi.out
            have HBI := Lib.hid (HB2.out.trans (hbi.mono HB2.out.size))
            have HELS := Lib.hid hels
            clear hbi hels Hi hj2
            go_wp2
            go_ret
            refine ⟨⟨0, rfl, fun _ => ⟨rfl, rfl, by omega, by omega, fun k A' n' c' hk h => HGOOD.out k hk A' n' c' h, fun i hi b off d hA hE => ?_⟩, fun _ => rfl⟩, HBI.out⟩
            subst hA
            rw [hE.uniq (HF.out.elt hi)]
            exact HELS.out i hi

end Go.Proofs.YtgioppkggpfnoaaDoor.Nu
end

section
/- zono.Check of a set that may be; and the set that is told by its answer. -/
set_option linter.unusedVariables false
namespace Go.Proofs.YtgioppkggpfnoaaDoor.Nu
open Go.RowKit Go.Proofs

theorem RD.rl {w : World} {q : Q} {d : D} (h : RD w q d) : RL w q.A q.n (digs d.z.natAbs) ∧ q.n ≤ q.c := ⟨h.1.2.2, h.1.2.1⟩
theorem RDs.raw {w : World} {A : Option Addr} {n c : Nat} {f : Nat → D} (h : RDs w A n c f) : RawD w A n c := by
  refine ⟨h.1, Nat.le_trans h.2.1 (by omega), fun h0 => ?_⟩
  obtain ⟨b, off, e, hb, hc⟩ := h.2.2 h0
  refine ⟨b, off, e, hb, fun j hj => ?_⟩
  obtain ⟨q, c0, c1, c2, hr⟩ := hc j hj
  exact ⟨q, _, _, ⟨c0, c1, c2⟩, .of hr.rl.1, hr.rl.2⟩
theorem RDss.raw {w : World} {A : Option Addr} {m c n : Nat} {g : Nat → Nat → D} (h : RDss w A m c n g) : RawR w A m c := by
  refine ⟨h.1, Nat.le_trans h.2.1 (by omega), fun h0 => ?_⟩
  obtain ⟨b, off, e, hb, hc⟩ := h.2.2 h0
  refine ⟨b, off, e, hb, fun k hk => ?_⟩
  obtain ⟨A', c', e1, hr⟩ := hc k hk
  exact ⟨A', n, c', e1, hr.raw⟩
/-- What a set's numbers must be for zono.Check. -/
structure Zo.Ok (z : Zo) : Prop where
  n : z.n ≤ 16
  m : z.m ≤ 4096
  c : ∀ i, i < z.n → OkD (z.c i)
  g : ∀ k i, k < z.m → i < z.n → OkD (z.g k i)
  r : ∀ i, i < z.n → OkD (z.r i)
  p : ∀ i, i < z.n → 0 ≤ (z.r i).z
theorem zok_of {w : World} {Ac Ag Ar : Option Addr} {cc cg cr : Nat} {z : Zo} (h : RZo w ⟨Ac, cc, Ag, cg, Ar, cr⟩ z) (ho : z.Ok) : ZOK Ac Ag Ar z.n cc z.m cg z.n cr w z.n := by
  refine ⟨rfl, rfl, ho.n, ho.m, fun k A' n' c' hk hR => ?_, fun j hj b off d hA hE => ?_⟩
  · rcases hR with ⟨_, rfl, rfl, rfl⟩ | ⟨_, rfl, rfl, rfl⟩ | ⟨h2, b, off, hA, hc⟩
    · exact ⟨rfl, z.c, h.c, ho.c⟩
    · exact ⟨rfl, z.r, h.r, ho.r⟩
    · have hg : RDss w Ag z.m cg z.n z.g := h.g
      obtain ⟨b', off', e, _, hcc⟩ := hg.2.2 (by omega)
      rw [hA] at e
      injection e with e
      injection e with e1 e2
      subst e1 e2
      obtain ⟨A2, c2, e3, hr⟩ := hcc (k - 2) (by omega)
      rw [hc] at e3
      injection e3 with e3
      injection e3 with e4 e5 e6
      subst e4 e5 e6
      exact ⟨rfl, z.g (k - 2), hr, ho.g (k - 2) |> fun f i hi => f i (by omega) hi⟩
  · have hr : RDs w Ar z.n cr z.r := h.r
    subst hA
    rw [hE.uniq (hr.elt hj)]
    exact ho.p j hj
theorem zcheck_good (w : World) (Ac Ag Ar : Option Addr) (cc cg cr : Nat) (z : Zo) (h : RZo w ⟨Ac, cc, Ag, cg, Ar, cr⟩ z) (ho : z.Ok) (hnil : Ag = none → cg = 0) :
    Calls Tryd.prog 27 #[.agg #[.slice Ac z.n cc, .slice Ag z.m cg, .slice Ar z.n cr], .int .i64 z.n] w fun e w' => e = .returned (.int .i64 0) ∧ Below w.heap.size w w' := by
  refine (zcheck_any w Ac Ag Ar z.n cc z.m cg z.n cr z.n (RDs.raw h.c) (RDss.raw h.g) (RDs.raw h.r) hnil (by have := ho.n; omega)).mono ?_
  rintro e w' ⟨⟨r, rfl, hr⟩, hb⟩
  rw [hr.2 (zok_of h ho)]
  exact ⟨rfl, hb⟩
/-- The set that passes. -/
theorem set_of_zok {w : World} {Ac Ag Ar : Option Addr} {nc cc m cg nr cr n : Nat} (h : ZOK Ac Ag Ar nc cc m cg nr cr w n) (hG : RawR w Ag m cg) :
    ∃ z : Zo, nc = z.n ∧ nr = z.n ∧ n = z.n ∧ m = z.m ∧ RZo w ⟨Ac, cc, Ag, cg, Ar, cr⟩ z ∧ z.Ok := by
  obtain ⟨rfl, rfl, h16, hm, hrows, hnn⟩ := h
  obtain ⟨_, fc, hfc, hoc⟩ := hrows 0 Ac nr cc (by omega) (.inl ⟨rfl, rfl, rfl, rfl⟩)
  obtain ⟨_, fr, hfr, hor⟩ := hrows 1 Ar nr cr (by omega) (.inr (.inl ⟨rfl, rfl, rfl, rfl⟩))
  have hg : ∀ k, ∃ g : Nat → D, k < m → ∃ b off A' c', Ag = some ⟨b, off, none⟩ ∧ b < w.heap.size ∧ w.cell? ⟨b, off + k, none⟩ = some (.slice A' nr c') ∧ RDs w A' nr c' g ∧ ∀ i, i < nr → OkD (g i) := fun k => by
    by_cases hk : k < m
    · obtain ⟨b, off, rfl, hb, hc⟩ := hG.2.2 (by omega)
      obtain ⟨A', n', c', e1, hraw⟩ := hc k hk
      obtain ⟨rfl, g, hg, hog⟩ := hrows (k + 2) A' n' c' (by omega) (.inr (.inr ⟨by omega, b, off, rfl, by rw [Nat.add_sub_cancel]; exact e1⟩))
      exact ⟨g, fun _ => ⟨b, off, A', c', rfl, hb, e1, hg, hog⟩⟩
    · exact ⟨fun _ => D.zero, fun e => absurd e hk⟩
  have hG2 : RDss w Ag m cg nr (fun k => Classical.choose (hg k)) := by
    refine ⟨hG.1, by omega, fun h0 => ?_⟩
    obtain ⟨b, off, e, hb, _⟩ := hG.2.2 h0
    refine ⟨b, off, e, hb, fun k hk => ?_⟩
    obtain ⟨b', off', A', c', e', _, e1, h1, _⟩ := Classical.choose_spec (hg k) hk
    rw [e] at e'
    injection e' with e'
    injection e' with e2 e3
    subst e2 e3
    exact ⟨A', c', e1, h1⟩
  refine ⟨⟨nr, fc, m, fun k => Classical.choose (hg k), fr⟩, rfl, rfl, rfl, rfl, ⟨hfc, hG2, hfr⟩, ⟨h16, hm, hoc, fun k i hk hi => ?_, hor, fun i hi => ?_⟩⟩
  · obtain ⟨_, _, _, _, _, _, _, _, ho⟩ := Classical.choose_spec (hg k) hk
    exact ho i hi
  · obtain ⟨b, off, e, _, _⟩ := hfr.2.2 (by show 0 < nr; have : i < nr := hi; omega)
    subst e
    exact hnn i hi b off (fr i) rfl (hfr.elt hi)
end Go.Proofs.YtgioppkggpfnoaaDoor.Nu
end

section
/- The walk of Hull's function of a way. -/
set_option linter.unusedVariables false
namespace Go.Proofs.YtgioppkggpfnoaaDoor.Nu
open Go.RowKit Go.Proofs

set_option maxRecDepth 100000 in
set_option maxHeartbeats 4000000 in
theorem at_any (w : World) (Ac Ag Ar : Option Addr) (cc cg cr : Nat) (z : Zo) (i gt gN : Nat) (h : RDss w Ag z.m cg z.n z.g) (hn : OD w gN z.n (fun _ => D.zero)) (hb : Bk w gt 39 #[.slice (some ⟨gN, 0, none⟩) z.n z.n]) (hi0 : i ≤ 1000000) (n0 : z.n ≤ 1000000) :
    Calls Tryd.prog 90 #[.agg #[.slice Ac z.n cc, .slice Ag z.m cg, .slice Ar z.n cr], .int .i64 i, .pointer (some ⟨gt, 0, none⟩)] w fun e w' => (∃ A' c', e = .returned (.slice A' z.n c') ∧ RDs w' A' z.n c' (z.at i)) ∧ Below w.heap.size w w' := by
  have HG := Lib.hid h
  have HN := Lib.hid hn
  have HB := Lib.hid hb
  have m0 := h.2.1
  clear h hn hb
  have BX := Lib.hid (boxes1 w 42 #[.slice Ac z.n cc, .slice Ag z.m cg, .slice Ar z.n cr])
  by_cases hi : i < z.m
  · have q0 : (i : Int) < (z.m : Int) := by omega
    obtain ⟨G1, o1, rfl, hl1, hcc⟩ := HG.out.2.2 (by omega)
    obtain ⟨A', c', z0, hrow⟩ := hcc i hi
    have RO := Lib.hid hrow
    have Z0 := Lib.hid z0
    clear hcc z0 hrow
    have x0 := (BX.out.2.cell (p := ⟨G1, o1 + i, none⟩) hl1).trans Z0.out
    have e0 : z.at i = z.g i := if_pos hi
    rw [e0]
    clear e0
    go_enter Tryd.func90, Tryd.ntmps90
    go_wp2
    go_ret
    exact ⟨⟨A', c', rfl, RO.out.below BX.out.2⟩, BX.out.2⟩
  · have q0 : ¬ (i : Int) < (z.m : Int) := by omega
    have e0 : z.at i = fun _ => D.zero := if_neg hi
    rw [e0]
    clear e0 hi
    have x0 : w.cell? ⟨gt, 0, none⟩ = some (.slice (some ⟨gN, 0, none⟩) z.n z.n) := HB.out.cell 0 rfl
    have lx := HB.out.lt
    go_enter Tryd.func90, Tryd.ntmps90
    go_wp2
    go_ret
    exact ⟨⟨_, _, rfl, (HN.out.below BX.out.2).read n0⟩, BX.out.2⟩

end Go.Proofs.YtgioppkggpfnoaaDoor.Nu
end

section
/- What join.Hull keeps while it goes: memory alone. -/
set_option linter.unusedVariables false
namespace Go.Proofs.YtgioppkggpfnoaaDoor.Nu
open Go.RowKit Go.Proofs

theorem OG.congr {w : World} {v : Value} {m n : Nat} {g g' : Nat → Nat → D} (h : OG w v m n g) (e : ∀ k, k < m → g k = g' k) : OG w v m n g' := by
  obtain ⟨xs, h1, h2⟩ := h
  exact ⟨xs, h1, fun k hk => by rw [← e k hk]; exact h2 k hk⟩
theorem OG.read {w : World} {v : Value} {m n : Nat} {g : Nat → Nat → D} (h : OG w v (m + 1) n g) (n0 : n ≤ 1000000) (m0 : m + 1 ≤ 1000000) : ∃ gg c, v = .slice (some ⟨gg, 0, none⟩) (m + 1) c ∧ RDss w (some ⟨gg, 0, none⟩) (m + 1) c n g := by
  obtain ⟨xs, h1, h2⟩ := h
  rcases h1.2 with ⟨_, e⟩ | ⟨g0, cap, cur, e, hc, _, hb, hs, ht, _⟩
  · subst e
    have := h1.1
    simp at this
  · refine ⟨g0, cap, e, hc, m0, fun _ => ⟨g0, 0, rfl, hb.lt, fun k hk => ?_⟩⟩
    obtain ⟨b, e1, hd⟩ := h2 k hk
    refine ⟨some ⟨b, 0, none⟩, n, ?_, hd.read n0⟩
    have e2 : cur[k]? = some (.slice (some ⟨b, 0, none⟩) n n) := by
      rw [← e1, ← ht, List.getElem?_take_of_lt hk]
      simp
    rw [Nat.zero_add]
    exact (Lib.cell_of_heap hb k).trans e2
theorem OG.rd {w : World} {gg m c n : Nat} {g : Nat → Nat → D} (h : OG w (.slice (some ⟨gg, 0, none⟩) (m + 1) c) (m + 1) n g) (n0 : n ≤ 1000000) (m0 : m + 1 ≤ 1000000) : RDss w (some ⟨gg, 0, none⟩) (m + 1) c n g := by
  obtain ⟨gg', c', e, h2⟩ := h.read n0 m0
  injection e with e1 e2 e3
  subst e3
  rw [e1]
  exact h2
theorem OD.neb {w : World} {g n b : Nat} {f : Nat → D} {t : TypeId} {cs : Array Value} (h : OD w g n f) (B : Bk w b t cs) (ht : t ≠ 53) : g ≠ b := fun e => by
  subst e
  obtain ⟨cs', h'⟩ := h.bk
  exact ht (B.uniq h').1
/-- The boxes, the joiner, its rows. -/
structure HS (w0 w : World) (gj g1 : Nat) (ca cb co : Array Value) (n bits : Nat) (C : Nat → D) (g R : Nat → Nat → D) (m : Nat) (v : Value) (gr : Nat) : Prop where
  ba : Bk w w0.heap.size 42 ca
  bb : Bk w (w0.heap.size + 1) 42 cb
  bo : Bk w (w0.heap.size + 2) 42 co
  bj : Bk w gj 146 #[.slice (some ⟨g1, 0, none⟩) n n, v, .slice (some ⟨gr, 0, none⟩) n n, .int .i64 bits]
  oc : OD w g1 n C
  or : OD w gr n (R m)
  og : OG w v m n g
  vv : ∀ z, v ≠ .int .u32 z
  vo : ∀ k, v.ownBlock = some k → w0.heap.size ≤ k
  gj0 : w0.heap.size ≤ gj
  be : Below w0.heap.size w0 w
theorem HS.below {w0 w w' : World} {gj g1 : Nat} {ca cb co : Array Value} {n bits : Nat} {C : Nat → D} {g R : Nat → Nat → D} {m : Nat} {v : Value} {gr : Nat} (S : HS w0 w gj g1 ca cb co n bits C g R m v gr) (h : Below w.heap.size w w') : HS w0 w' gj g1 ca cb co n bits C g R m v gr :=
  ⟨S.ba.below h, S.bb.below h, S.bo.below h, S.bj.below h, S.oc.below h, S.or.below h, S.og.below h, S.vv, S.vo, S.gj0, below_tr S.be h⟩
theorem HS.nv {w0 w : World} {gj g1 : Nat} {ca cb co : Array Value} {n bits : Nat} {C : Nat → D} {g R : Nat → Nat → D} {m : Nat} {v : Value} {gr : Nat} (S : HS w0 w gj g1 ca cb co n bits C g R m v gr) {b : Nat} {t : TypeId} {cs : Array Value} (B : Bk w b t cs) (ht : t ≠ 39) : v.ownBlock ≠ some b := fun e => by
  obtain ⟨cs', h⟩ := S.og.bk b e
  exact ht (B.uniq h).1
theorem HS.nj {w0 w : World} {gj g1 : Nat} {ca cb co : Array Value} {n bits : Nat} {C : Nat → D} {g R : Nat → Nat → D} {m : Nat} {v : Value} {gr : Nat} (S : HS w0 w gj g1 ca cb co n bits C g R m v gr) {b : Nat} {t : TypeId} {cs : Array Value} (B : Bk w b t cs) (ht : t ≠ 146) : b ≠ gj := fun e => by
  subst e
  exact ht (B.uniq S.bj).1
theorem HS.step {w0 w w' : World} {gj g1 : Nat} {ca cb co : Array Value} {n bits : Nat} {C : Nat → D} {g R : Nat → Nat → D} {m : Nat} {v : Value} {gr : Nat} {F r' : Nat → D} {e : Ending} (S : HS w0 w gj g1 ca cb co n bits C g R m v gr) (P : WayPost F r' gj g1 v m n g bits w e w') (hF : F = g m) (hR : r' = R (m + 1)) :
    e = .returned (.int .i64 0) ∧ ∃ v' gr', HS w0 w' gj g1 ca cb co n bits C g R (m + 1) v' gr' ∧ (∀ t, t < w.heap.size → v.ownBlock ≠ some t → v'.ownBlock ≠ some t) ∧ Kb gj v w w' ∧ Dk w w' := by
  obtain ⟨rfl, v', gr', h1, h2, h3, h4, h5, h6, h7, h8⟩ := P
  have zj : (42 : TypeId) ≠ 146 := by decide
  have zr : (42 : TypeId) ≠ 39 := by decide
  have dj : (53 : TypeId) ≠ 146 := by decide
  have dr : (53 : TypeId) ≠ 39 := by decide
  obtain ⟨_, c1⟩ := S.oc.bk
  refine ⟨rfl, v', gr', ⟨S.ba.kb h8 (S.nj S.ba zj) (S.nv S.ba zr), S.bb.kb h8 (S.nj S.bb zj) (S.nv S.bb zr), S.bo.kb h8 (S.nj S.bo zj) (S.nv S.bo zr), h1, S.oc.kb h8 h7 (S.nj c1 dj) (S.nv c1 dr), hR ▸ h5, h3.congr fun k hk => ?_, h2, fun k hk => ?_, S.gj0, h8.below S.be S.gj0 S.vo S.be.size⟩, fun t ht hn he => ?_, h8, h7⟩
  · by_cases e : k = m
    · rw [if_pos e, hF, e]
    · rw [if_neg e]
  · rcases h6 with e | ⟨k', hk', e⟩
    · exact S.vo k (by rw [← e]; exact hk)
    · rw [e] at hk
      injection hk with hk
      have := S.be.size
      omega
  · rcases h6 with e | ⟨k', hk', e⟩
    · exact hn (by rw [← e]; exact he)
    · rw [e] at he
      injection he with he
      omega
/-- With the box that the function of a way holds. -/
structure HC (w0 w : World) (gj g1 gt gN : Nat) (ca cb co : Array Value) (n bits : Nat) (C : Nat → D) (g R : Nat → Nat → D) (m : Nat) (v : Value) (gr : Nat) : Prop where
  s : HS w0 w gj g1 ca cb co n bits C g R m v gr
  bt : Bk w gt 39 #[.slice (some ⟨gN, 0, none⟩) n n]
  on : OD w gN n (fun _ => D.zero)
  vt : v.ownBlock ≠ some gt
theorem HC.below {w0 w w' : World} {gj g1 gt gN : Nat} {ca cb co : Array Value} {n bits : Nat} {C : Nat → D} {g R : Nat → Nat → D} {m : Nat} {v : Value} {gr : Nat} (S : HC w0 w gj g1 gt gN ca cb co n bits C g R m v gr) (h : Below w.heap.size w w') : HC w0 w' gj g1 gt gN ca cb co n bits C g R m v gr :=
  ⟨S.s.below h, S.bt.below h, S.on.below h, S.vt⟩
theorem HC.step {w0 w w' : World} {gj g1 gt gN : Nat} {ca cb co : Array Value} {n bits : Nat} {C : Nat → D} {g R : Nat → Nat → D} {m : Nat} {v : Value} {gr : Nat} {F r' : Nat → D} {e : Ending} (S : HC w0 w gj g1 gt gN ca cb co n bits C g R m v gr) (P : WayPost F r' gj g1 v m n g bits w e w') (hF : F = g m) (hR : r' = R (m + 1)) :
    e = .returned (.int .i64 0) ∧ ∃ v' gr', HC w0 w' gj g1 gt gN ca cb co n bits C g R (m + 1) v' gr' := by
  obtain ⟨e, v', gr', h1, h2, h3, h4⟩ := S.s.step P hF hR
  obtain ⟨_, c1⟩ := S.on.bk
  exact ⟨e, v', gr', h1, S.bt.kb h3 (S.s.nj S.bt (by decide)) S.vt, S.on.kb h3 h4 (S.s.nj c1 (by decide)) (S.s.nv c1 (by decide)), h2 gt S.bt.lt S.vt⟩
theorem HS.made {w0 w w' : World} {gj g1 gt gN : Nat} {ca cb co : Array Value} {n bits : Nat} {C : Nat → D} {g R : Nat → Nat → D} {m : Nat} {v : Value} {gr : Nat} (S : HS w0 w gj g1 ca cb co n bits C g R m v gr) (h : Below w.heap.size w w') (ht : w.heap.size ≤ gt) (bt : Bk w' gt 39 #[.slice (some ⟨gN, 0, none⟩) n n]) (on : OD w' gN n (fun _ => D.zero)) : HC w0 w' gj g1 gt gN ca cb co n bits C g R m v gr :=
  ⟨S.below h, bt, on, fun e => by have := S.og.lt gt e; omega⟩
theorem hull_g0 (a b : Zo) (bits : Nat) : (fun i => halfM (a.c i) (b.c i).neg bits) = (hull a b bits).g 0 := by
  funext i
  simp [hull, wayA, wayB]
theorem hull_r0 (a b : Zo) (bits : Nat) : (fun i => mor (hullR a b bits 0 i) (halfO (a.c i) (b.c i).neg bits) bits) = hullR a b bits 1 := by
  funext i
  simp [hullR, wayA, wayB]
theorem way1 (a : Zo) (i : Nat) : wayA a (1 + 2 * i) = a.at i := by unfold wayA; rw [if_neg (by omega), show (1 + 2 * i - 1) / 2 = i by omega]
theorem way2 (a : Zo) (i : Nat) : wayA a (1 + 2 * i + 1) = a.at i := by unfold wayA; rw [if_neg (by omega), show (1 + 2 * i + 1 - 1) / 2 = i by omega]
theorem wayb1 (a : Zo) (i : Nat) : wayB a (1 + 2 * i) = a.at i := by unfold wayB; rw [if_neg (by omega), if_pos (by omega), show (1 + 2 * i - 1) / 2 = i by omega]
theorem wayb2 (a : Zo) (i : Nat) : wayB a (1 + 2 * i + 1) = fun j => (a.at i j).neg := by unfold wayB; rw [if_neg (by omega), if_neg (by omega), show (1 + 2 * i + 1 - 1) / 2 = i by omega]
theorem hull_g1 (a b : Zo) (bits i : Nat) : (fun j => halfM (a.at i j) (b.at i j) bits) = (hull a b bits).g (1 + 2 * i) := by
  show _ = fun j => halfM (wayA a (1 + 2 * i) j) (wayB b (1 + 2 * i) j) bits
  rw [way1, wayb1]
theorem hull_r1 (a b : Zo) (bits i : Nat) : (fun j => mor (hullR a b bits (1 + 2 * i) j) (halfO (a.at i j) (b.at i j) bits) bits) = hullR a b bits (1 + 2 * i + 1) := by
  show _ = fun j => mor (hullR a b bits (1 + 2 * i) j) (halfO (wayA a (1 + 2 * i) j) (wayB b (1 + 2 * i) j) bits) bits
  rw [way1, wayb1]
theorem hull_g2 (a b : Zo) (bits i : Nat) : (fun j => halfM (a.at i j) (b.at i j).neg bits) = (hull a b bits).g (1 + 2 * i + 1) := by
  show _ = fun j => halfM (wayA a (1 + 2 * i + 1) j) (wayB b (1 + 2 * i + 1) j) bits
  rw [way2, wayb2]
theorem hull_r2 (a b : Zo) (bits i : Nat) : (fun j => mor (hullR a b bits (1 + 2 * i + 1) j) (halfO (a.at i j) (b.at i j).neg bits) bits) = hullR a b bits (1 + 2 * i + 1 + 1) := by
  show _ = fun j => mor (hullR a b bits (1 + 2 * i + 1) j) (halfO (wayA a (1 + 2 * i + 1) j) (wayB b (1 + 2 * i + 1) j) bits) bits
  rw [way2, wayb2]
end Go.Proofs.YtgioppkggpfnoaaDoor.Nu
end
