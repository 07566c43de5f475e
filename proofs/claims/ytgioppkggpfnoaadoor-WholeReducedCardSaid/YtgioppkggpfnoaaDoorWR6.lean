/- Texts of the seat, laid together: Halves, More, WayA, Way, HullS, Hull, Point, Far, JnP. -/
import Derived.Test.YtgioppkggpfnoaaDoorWR5
import Derived.RegionTactic
import Derived.StillTailTactics
import Derived.Deep.RegionHeld3
import Derived.Deep.DeepCutAuto
import Derived.Deep.CutBlock
import Derived.Maps.AppendAt
import Derived.Laws.OwnMore
set_option linter.all false
set_option exponentiation.threshold 20000
section
/- The walk of join.halves. -/
set_option linter.unusedVariables false
namespace Go.Proofs.YtgioppkggpfnoaaDoor.Nu
open Go.RowKit Go.Proofs

def HalvesRel (F1 F2 : Nat → D) (n g1 g2 : Nat) (W : World) (i : Nat) (w : World) : Prop :=
  OD w g1 n (fun j => if j < i then F1 j else D.zero) ∧ OD w g2 n (fun j => if j < i then F2 j else D.zero) ∧ Below W.heap.size W w

set_option maxRecDepth 100000 in
set_option maxHeartbeats 4000000 in
theorem halves_plain (w : World) (A B : Option Addr) (n c d : Nat) (a b : Nat → D) (bits : Nat) (E T : Nat) (h : RDs w A n c a) (h2 : RDs w B n d b) (la : ∀ i, i < n → (a i).Lim E T) (lb : ∀ i, i < n → (b i).Lim E T) (hET : E + T + 4 ≤ 16000) (hb2 : 2 ≤ bits) (hb3 : bits ≤ 4096) (ht : BTab w) :
    Calls Tryd.prog 86 #[.slice A n c, .slice B n d, .bool false, .int .i64 bits] w fun e w' => (∃ g1 g2 : Nat, e = .returned (.tuple #[.slice (some ⟨g1, 0, none⟩) n n, .slice (some ⟨g2, 0, none⟩) n n, .int .i64 0]) ∧ w.heap.size ≤ g1 ∧ w.heap.size ≤ g2 ∧ OD w' g1 n (fun j => halfM (a j) (b j) bits) ∧ OD w' g2 n (fun j => halfO (a j) (b j) bits)) ∧ Below w.heap.size w w' := by
  have HA := Lib.hid h
  have HB := Lib.hid h2
  have LA := Lib.hid la
  have LB := Lib.hid lb
  have HT := Lib.hid ht
  have n0 := h.2.1
  clear h h2 la lb ht
  have hmk := fun W => make_D n n0 W
  go_enter Tryd.func86, Tryd.ntmps86
  go_upto_region 1 with (fail)
  go_cut [11, 12] (fun s11 s12 wx => ∃ g1 g2 : Nat, s11 = .slice (some ⟨g1, 0, none⟩) n n ∧ s12 = .slice (some ⟨g2, 0, none⟩) n n ∧ g1 ≠ g2 ∧ w.heap.size ≤ g1 ∧ w.heap.size ≤ g2 ∧ OD wx g1 n (fun _ => D.zero) ∧ OD wx g2 n (fun _ => D.zero) ∧ Below w.heap.size w wx)
  case first =>
    go_region
    all_goals (go_wp2_with fail; go_meet; first | exact ⟨w.heap.size, w.heap.size + 1, rfl, rfl, by omega, by omega, by omega, ((OD.made w n).al _).dr, (OD.made1 w _ n).dr, below_dr (below_al (below_al (Below.refl _ w) _) _)⟩ | exact ⟨w.heap.size + 1, w.heap.size, rfl, rfl, by omega, by omega, by omega, (OD.made1 w _ n).dr, ((OD.made w n).al _).dr, below_dr (below_al (below_al (Below.refl _ w) _) _)⟩)
  case rest =>
    obtain ⟨w0, rfl⟩ : ∃ x, x = wc := ⟨_, rfl⟩
    obtain ⟨g1, g2, rfl, rfl, hne, hg1, hg2, ho1, ho2, hbel⟩ := hcut
    have H0 := Lib.hid (show HalvesRel (fun j => halfM (a j) (b j) bits) (fun j => halfO (a j) (b j) bits) n g1 g2 w 0 w0 from ⟨OD.start ho1, OD.start ho2, hbel⟩)
    clear hmk ho1 ho2 hbel
    go_wp2_with fail
    go_loopw [24] (fun k wr => ∃ i : Nat, k = .int .i64 i ∧ i ≤ n ∧ Hid (HalvesRel (fun j => halfM (a j) (b j) bits) (fun j => halfO (a j) (b j) bits) n g1 g2 w i wr)) (fun k _ => n - (intOf k).toNat)
    case atStart => exact ⟨0, rfl, Nat.zero_le _, H0⟩
    case round =>
      clear H0
      obtain ⟨i, rfl, hi, Hr⟩ := hrel
      by_cases hi2 : i < n
      · have q3 : (i : Int) < (n : Int) := by omega
        obtain ⟨hx, hv, hbel⟩ := Hr.out
        have OX := Lib.hid hx
        have OV := Lib.hid hv
        have HB_0 := Lib.hid hbel
        clear hx hv hbel Hr
        obtain ⟨A1, o1, rfl, hl1, hcc⟩ := HA.out.2.2 (by omega)
        obtain ⟨q, z0, z1, z2, hq⟩ := hcc i hi2
        obtain ⟨A2, o2, rfl, hl2, hc2⟩ := HB.out.2.2 (by omega)
        obtain ⟨t, y0, y1, y2, ht⟩ := hc2 i hi2
        have X0 := Lib.hid z0
        have Y0 := Lib.hid y0
        have X1 := Lib.hid z1
        have Y1 := Lib.hid y1
        have X2 := Lib.hid z2
        have Y2 := Lib.hid y2
        have RQ := Lib.hid (hq.below HB_0.out)
        have RT := Lib.hid (ht.below HB_0.out)
        clear hcc z0 z1 z2 hq hc2 y0 y1 y2 ht
        have La := Lib.hid (LA.out i hi2)
        have Lb := Lib.hid (LB.out i hi2)
        have cr10 : wr.cell? ⟨A1, o1 + i * 3, none⟩ = some (.bool q.b) := (HB_0.out.cell (p := ⟨A1, o1 + i * 3, none⟩) hl1).trans X0.out
        have cr11 : wr.cell? ⟨A1, o1 + i * 3 + 1, none⟩ = some (.slice q.A q.n q.c) := (HB_0.out.cell (p := ⟨A1, o1 + i * 3 + 1, none⟩) hl1).trans X1.out
        have cr12 : wr.cell? ⟨A1, o1 + i * 3 + 2, none⟩ = some (.int .i64 (a i).x) := (HB_0.out.cell (p := ⟨A1, o1 + i * 3 + 2, none⟩) hl1).trans X2.out
        have cr20 : wr.cell? ⟨A2, o2 + i * 3, none⟩ = some (.bool t.b) := (HB_0.out.cell (p := ⟨A2, o2 + i * 3, none⟩) hl2).trans Y0.out
        have cr21 : wr.cell? ⟨A2, o2 + i * 3 + 1, none⟩ = some (.slice t.A t.n t.c) := (HB_0.out.cell (p := ⟨A2, o2 + i * 3 + 1, none⟩) hl2).trans Y1.out
        have cr22 : wr.cell? ⟨A2, o2 + i * 3 + 2, none⟩ = some (.int .i64 (b i).x) := (HB_0.out.cell (p := ⟨A2, o2 + i * 3 + 2, none⟩) hl2).trans Y2.out
        have n_101 := OX.out.lt
        have n_102 := OV.out.lt
        go_upto_region 9 with (fail)
        clear cr10 cr11 cr12 cr20 cr21 cr22
        have K : Dk wr (wr.alloc (.cells #[.bool t.b, .slice t.A t.n t.c, .int .i64 (b i).x] 53)) := ((Dk.refl _).alloc _)
        have By_103 := Lib.hid (show Bk (wr.alloc (.cells #[.bool t.b, .slice t.A t.n t.c, .int .i64 (b i).x] 53)) (wr.heap.size) 53 #[.bool t.b, .slice t.A t.n t.c, .int .i64 (b i).x] from (Bk.new _ 53 #[.bool t.b, .slice t.A t.n t.c, .int .i64 (b i).x]))
        have Ox_104 := Lib.hid (show OD (wr.alloc (.cells #[.bool t.b, .slice t.A t.n t.c, .int .i64 (b i).x] 53)) (g1) n (fun j => if j < i then (fun j => halfM (a j) (b j) bits) j else D.zero) from (OX.out.al _))
        have Ov_105 := Lib.hid (show OD (wr.alloc (.cells #[.bool t.b, .slice t.A t.n t.c, .int .i64 (b i).x] 53)) (g2) n (fun j => if j < i then (fun j => halfO (a j) (b j) bits) j else D.zero) from (OV.out.al _))
        have HB_106 := Lib.hid (show Below w.heap.size w (wr.alloc (.cells #[.bool t.b, .slice t.A t.n t.c, .int .i64 (b i).x] 53)) from (below_al HB_0.out _))
        have RQ_107 := Lib.hid (RQ.out.dk K)
        have RT_108 := Lib.hid (RT.out.dk K)
        clear K OX OV HB_0 RQ RT
        generalize wr.alloc (.cells #[.bool t.b, .slice t.A t.n t.c, .int .i64 (b i).x] 53) = w1 at *
        have ly := By_103.out.lt
        obtain ⟨cy0, cy1, cy2⟩ := By_103.out.cells3
        have cr10 : w1.cell? ⟨A1, o1 + i * 3, none⟩ = some (.bool q.b) := (HB_106.out.cell (p := ⟨A1, o1 + i * 3, none⟩) hl1).trans X0.out
        have cr11 : w1.cell? ⟨A1, o1 + i * 3 + 1, none⟩ = some (.slice q.A q.n q.c) := (HB_106.out.cell (p := ⟨A1, o1 + i * 3 + 1, none⟩) hl1).trans X1.out
        have cr12 : w1.cell? ⟨A1, o1 + i * 3 + 2, none⟩ = some (.int .i64 (a i).x) := (HB_106.out.cell (p := ⟨A1, o1 + i * 3 + 2, none⟩) hl1).trans X2.out
        have cr20 : w1.cell? ⟨A2, o2 + i * 3, none⟩ = some (.bool t.b) := (HB_106.out.cell (p := ⟨A2, o2 + i * 3, none⟩) hl2).trans Y0.out
        have cr21 : w1.cell? ⟨A2, o2 + i * 3 + 1, none⟩ = some (.slice t.A t.n t.c) := (HB_106.out.cell (p := ⟨A2, o2 + i * 3 + 1, none⟩) hl2).trans Y1.out
        have cr22 : w1.cell? ⟨A2, o2 + i * 3 + 2, none⟩ = some (.int .i64 (b i).x) := (HB_106.out.cell (p := ⟨A2, o2 + i * 3 + 2, none⟩) hl2).trans Y2.out
        obtain ⟨⟨_, px0⟩, ⟨_, px1⟩, ⟨_, px2⟩, rx0, rx1, rx2⟩ := Ox_104.out.there hi2
        have lx := Ox_104.out.lt
        obtain ⟨⟨_, pv0⟩, ⟨_, pv1⟩, ⟨_, pv2⟩, rv0, rv1, rv2⟩ := Ov_105.out.there hi2
        have lv := Ov_105.out.lt
        go_wp2_with fail
        obtain ⟨SX1, hS1⟩ : ∃ S : World → Prop, ∀ w', S w' ↔ (w'.cell? ⟨A1, o1 + i * 3, none⟩ = some (.bool q.b) ∧ w'.cell? ⟨A1, o1 + i * 3 + 1, none⟩ = some (.slice q.A q.n q.c) ∧ w'.cell? ⟨A1, o1 + i * 3 + 2, none⟩ = some (.int .i64 (a i).x) ∧ w'.cell? ⟨wr.heap.size, 0, none⟩ = some (.bool t.b) ∧ w'.cell? ⟨wr.heap.size, 1, none⟩ = some (.slice t.A t.n t.c) ∧ w'.cell? ⟨wr.heap.size, 2, none⟩ = some (.int .i64 (b i).x)) := ⟨_, fun _ => Iff.rfl⟩
        have k_109 : SX1 (w1) := (hS1 _).2 ⟨(Below.cell (p := ⟨A1, o1 + i * 3, none⟩) HB_106.out hl1).trans X0.out, (Below.cell (p := ⟨A1, o1 + i * 3 + 1, none⟩) HB_106.out hl1).trans X1.out, (Below.cell (p := ⟨A1, o1 + i * 3 + 2, none⟩) HB_106.out hl1).trans X2.out, By_103.out.cell 0 rfl, By_103.out.cell 1 rfl, By_103.out.cell 2 rfl⟩
        have k_110 : SX1 (w1.drew) := (hS1 _).2 ⟨(Below.cell (p := ⟨A1, o1 + i * 3, none⟩) (below_dr HB_106.out) hl1).trans X0.out, (Below.cell (p := ⟨A1, o1 + i * 3 + 1, none⟩) (below_dr HB_106.out) hl1).trans X1.out, (Below.cell (p := ⟨A1, o1 + i * 3 + 2, none⟩) (below_dr HB_106.out) hl1).trans X2.out, (By_103.out.drew).cell 0 rfl, (By_103.out.drew).cell 1 rfl, (By_103.out.drew).cell 2 rfl⟩
        have tok_111 : True := trivial
        go_region_held3 (fun w' => w'.cell? ⟨A1, o1 + i * 3, none⟩ = some (.bool q.b) ∧ w'.cell? ⟨A1, o1 + i * 3 + 1, none⟩ = some (.slice q.A q.n q.c) ∧ w'.cell? ⟨A1, o1 + i * 3 + 2, none⟩ = some (.int .i64 (a i).x) ∧ w'.cell? ⟨wr.heap.size, 0, none⟩ = some (.bool t.b) ∧ w'.cell? ⟨wr.heap.size, 1, none⟩ = some (.slice t.A t.n t.c) ∧ w'.cell? ⟨wr.heap.size, 2, none⟩ = some (.int .i64 (b i).x)) (first | with_reducible exact (hS1 _).1 k_109 | with_reducible exact (hS1 _).1 k_110 | with_reducible exact (hS1 _).1 k_120 | with_reducible exact (hS1 _).1 k_121 | with_reducible exact (hS1 _).1 k_122)
          (first
           | (have _ := tok_111; go_at_call 144; clear tok_111; refine (half_any _ q t (a i) (b i) bits E T (RQ_107.out.dk ((Dk.refl _).drew)) (RT_108.out.dk ((Dk.refl _).drew)) La.out Lb.out hET hb2 hb3 (HT.out.below (below_dr HB_106.out))).mono ?_; rintro e w2 ⟨⟨m, x, rfl, hm, hx⟩, hb⟩; clear ly cy0 cy1 cy2 cr10 cr11 cr12 cr20 cr21 cr22 px0 px1 px2 rx0 rx1 rx2 lx pv0 pv1 pv2 rv0 rv1 rv2 lv k_109 k_110; have K := Dk.trans ((Dk.refl _).drew) (.below hb); have By_112 := Lib.hid (show Bk _ _ _ #[.bool t.b, .slice t.A t.n t.c, .int .i64 (b i).x] from (By_103.out.drew).below hb); have Ox_113 := Lib.hid (show OD _ (g1) n (fun j => if j < i then (fun j => halfM (a j) (b j) bits) j else D.zero) from (Ox_104.out.dr).below hb); have Ov_114 := Lib.hid (show OD _ (g2) n (fun j => if j < i then (fun j => halfO (a j) (b j) bits) j else D.zero) from (Ov_105.out.dr).below hb); have HB_115 := Lib.hid (below_tr (below_dr HB_106.out) hb); clear hb; have RQ_116 := Lib.hid (RQ_107.out.dk K); have RT_117 := Lib.hid (RT_108.out.dk K); clear K By_103 Ox_104 Ov_105 HB_106 RQ_107 RT_108; have RM_118 := Lib.hid hm; clear hm; have RO_119 := Lib.hid hx; clear hx; have ly := By_112.out.lt; obtain ⟨cy0, cy1, cy2⟩ := By_112.out.cells3; have cr10 : w2.cell? ⟨A1, o1 + i * 3, none⟩ = some (.bool q.b) := (HB_115.out.cell (p := ⟨A1, o1 + i * 3, none⟩) hl1).trans X0.out; have cr11 : w2.cell? ⟨A1, o1 + i * 3 + 1, none⟩ = some (.slice q.A q.n q.c) := (HB_115.out.cell (p := ⟨A1, o1 + i * 3 + 1, none⟩) hl1).trans X1.out; have cr12 : w2.cell? ⟨A1, o1 + i * 3 + 2, none⟩ = some (.int .i64 (a i).x) := (HB_115.out.cell (p := ⟨A1, o1 + i * 3 + 2, none⟩) hl1).trans X2.out; have cr20 : w2.cell? ⟨A2, o2 + i * 3, none⟩ = some (.bool t.b) := (HB_115.out.cell (p := ⟨A2, o2 + i * 3, none⟩) hl2).trans Y0.out; have cr21 : w2.cell? ⟨A2, o2 + i * 3 + 1, none⟩ = some (.slice t.A t.n t.c) := (HB_115.out.cell (p := ⟨A2, o2 + i * 3 + 1, none⟩) hl2).trans Y1.out; have cr22 : w2.cell? ⟨A2, o2 + i * 3 + 2, none⟩ = some (.int .i64 (b i).x) := (HB_115.out.cell (p := ⟨A2, o2 + i * 3 + 2, none⟩) hl2).trans Y2.out; obtain ⟨⟨_, px0⟩, ⟨_, px1⟩, ⟨_, px2⟩, rx0, rx1, rx2⟩ := Ox_113.out.there hi2; have lx := Ox_113.out.lt; obtain ⟨⟨_, pv0⟩, ⟨_, pv1⟩, ⟨_, pv2⟩, rv0, rv1, rv2⟩ := Ov_114.out.there hi2; have lv := Ov_114.out.lt; have k_120 : SX1 (w2) := (hS1 _).2 ⟨(Below.cell (p := ⟨A1, o1 + i * 3, none⟩) HB_115.out hl1).trans X0.out, (Below.cell (p := ⟨A1, o1 + i * 3 + 1, none⟩) HB_115.out hl1).trans X1.out, (Below.cell (p := ⟨A1, o1 + i * 3 + 2, none⟩) HB_115.out hl1).trans X2.out, By_112.out.cell 0 rfl, By_112.out.cell 1 rfl, By_112.out.cell 2 rfl⟩; have y0 := HB_115.out.size; have y1 := By_112.out.lt; have y2 := Ox_113.out.lt; have y3 := Ov_114.out.lt; have k_121 : SX1 (((w2.setCell ⟨g1, i * 3, none⟩ (.bool m.b)).setCell ⟨g1, i * 3 + 1, none⟩ (.slice m.A m.n m.c)).setCell ⟨g1, i * 3 + 2, none⟩ (.int .i64 (halfM (a i) (b i) bits).x)) := (hS1 _).2 ⟨(Below.cell (p := ⟨A1, o1 + i * 3, none⟩) (below_put3 HB_115.out (by omega) i (.bool m.b) (.slice m.A m.n m.c) (.int .i64 (halfM (a i) (b i) bits).x)) hl1).trans X0.out, (Below.cell (p := ⟨A1, o1 + i * 3 + 1, none⟩) (below_put3 HB_115.out (by omega) i (.bool m.b) (.slice m.A m.n m.c) (.int .i64 (halfM (a i) (b i) bits).x)) hl1).trans X1.out, (Below.cell (p := ⟨A1, o1 + i * 3 + 2, none⟩) (below_put3 HB_115.out (by omega) i (.bool m.b) (.slice m.A m.n m.c) (.int .i64 (halfM (a i) (b i) bits).x)) hl1).trans X2.out, (By_112.out.ne3 (by omega) i (.bool m.b) (.slice m.A m.n m.c) (.int .i64 (halfM (a i) (b i) bits).x)).cell 0 rfl, (By_112.out.ne3 (by omega) i (.bool m.b) (.slice m.A m.n m.c) (.int .i64 (halfM (a i) (b i) bits).x)).cell 1 rfl, (By_112.out.ne3 (by omega) i (.bool m.b) (.slice m.A m.n m.c) (.int .i64 (halfM (a i) (b i) bits).x)).cell 2 rfl⟩; clear y0 y1 y2 y3; have y0 := HB_115.out.size; have y1 := By_112.out.lt; have y2 := Ox_113.out.lt; have y3 := Ov_114.out.lt; have k_122 : SX1 ((((((w2.setCell ⟨g1, i * 3, none⟩ (.bool m.b)).setCell ⟨g1, i * 3 + 1, none⟩ (.slice m.A m.n m.c)).setCell ⟨g1, i * 3 + 2, none⟩ (.int .i64 (halfM (a i) (b i) bits).x)).setCell ⟨g2, i * 3, none⟩ (.bool x.b)).setCell ⟨g2, i * 3 + 1, none⟩ (.slice x.A x.n x.c)).setCell ⟨g2, i * 3 + 2, none⟩ (.int .i64 (halfO (a i) (b i) bits).x)) := (hS1 _).2 ⟨(Below.cell (p := ⟨A1, o1 + i * 3, none⟩) (below_put3 (below_put3 HB_115.out (by omega) i (.bool m.b) (.slice m.A m.n m.c) (.int .i64 (halfM (a i) (b i) bits).x)) (by omega) i (.bool x.b) (.slice x.A x.n x.c) (.int .i64 (halfO (a i) (b i) bits).x)) hl1).trans X0.out, (Below.cell (p := ⟨A1, o1 + i * 3 + 1, none⟩) (below_put3 (below_put3 HB_115.out (by omega) i (.bool m.b) (.slice m.A m.n m.c) (.int .i64 (halfM (a i) (b i) bits).x)) (by omega) i (.bool x.b) (.slice x.A x.n x.c) (.int .i64 (halfO (a i) (b i) bits).x)) hl1).trans X1.out, (Below.cell (p := ⟨A1, o1 + i * 3 + 2, none⟩) (below_put3 (below_put3 HB_115.out (by omega) i (.bool m.b) (.slice m.A m.n m.c) (.int .i64 (halfM (a i) (b i) bits).x)) (by omega) i (.bool x.b) (.slice x.A x.n x.c) (.int .i64 (halfO (a i) (b i) bits).x)) hl1).trans X2.out, ((By_112.out.ne3 (by omega) i (.bool m.b) (.slice m.A m.n m.c) (.int .i64 (halfM (a i) (b i) bits).x)).ne3 (by omega) i (.bool x.b) (.slice x.A x.n x.c) (.int .i64 (halfO (a i) (b i) bits).x)).cell 0 rfl, ((By_112.out.ne3 (by omega) i (.bool m.b) (.slice m.A m.n m.c) (.int .i64 (halfM (a i) (b i) bits).x)).ne3 (by omega) i (.bool x.b) (.slice x.A x.n x.c) (.int .i64 (halfO (a i) (b i) bits).x)).cell 1 rfl, ((By_112.out.ne3 (by omega) i (.bool m.b) (.slice m.A m.n m.c) (.int .i64 (halfM (a i) (b i) bits).x)).ne3 (by omega) i (.bool x.b) (.slice x.A x.n x.c) (.int .i64 (halfO (a i) (b i) bits).x)).cell 2 rfl⟩; clear y0 y1 y2 y3))
        go_wp2
        go_roundw
        case rel => exact ⟨i + 1, by go_num, hi2, Lib.hid ⟨OD.next (F := (fun j => halfM (a j) (b j) bits)) ((Ox_113.out.put hi2 m (halfM (a i) (b i) bits) RM_118.out).1.rp3 (by have := By_112.out.lt; have := Ox_113.out.lt; have := Ov_114.out.lt; have := HB_115.out.size; omega) i (.bool x.b) (.slice x.A x.n x.c) (.int .i64 (halfO (a i) (b i) bits).x) ((Ov_114.out.rp3 (by have := By_112.out.lt; have := Ox_113.out.lt; have := Ov_114.out.lt; have := HB_115.out.size; omega) i (.bool m.b) (.slice m.A m.n m.c) (.int .i64 (halfM (a i) (b i) bits).x) (Ox_113.out.put hi2 m (halfM (a i) (b i) bits) RM_118.out).2).put hi2 x (halfO (a i) (b i) bits) (RO_119.out.dk (Dk.trans (Dk.refl _) (Ox_113.out.put hi2 m (halfM (a i) (b i) bits) RM_118.out).2))).2), OD.next (F := (fun j => halfO (a j) (b j) bits)) ((Ov_114.out.rp3 (by have := By_112.out.lt; have := Ox_113.out.lt; have := Ov_114.out.lt; have := HB_115.out.size; omega) i (.bool m.b) (.slice m.A m.n m.c) (.int .i64 (halfM (a i) (b i) bits).x) (Ox_113.out.put hi2 m (halfM (a i) (b i) bits) RM_118.out).2).put hi2 x (halfO (a i) (b i) bits) (RO_119.out.dk (Dk.trans (Dk.refl _) (Ox_113.out.put hi2 m (halfM (a i) (b i) bits) RM_118.out).2))).1, (below_put3 (below_put3 HB_115.out (by have := HB_115.out.size; omega) i (.bool m.b) (.slice m.A m.n m.c) (.int .i64 (halfM (a i) (b i) bits).x)) (by have := HB_115.out.size; omega) i (.bool x.b) (.slice x.A x.n x.c) (.int .i64 (halfO (a i) (b i) bits).x))⟩⟩
        case measure => simp only [intOf]; omega
      · obtain rfl : i = n := by omega
        obtain ⟨hx, hv, hbel⟩ := Hr.out
        have OX := Lib.hid hx
        have OV := Lib.hid hv
        have HB_0 := Lib.hid hbel
        clear hx hv hbel Hr
        clear hi2
        go_wp2
        go_ret3
        exact ⟨⟨g1, g2, rfl, hg1, hg2, OX.out.done (F := (fun j => halfM (a j) (b j) bits)), OV.out.done (F := (fun j => halfO (a j) (b j) bits))⟩, HB_0.out⟩

set_option maxRecDepth 100000 in
set_option maxHeartbeats 4000000 in
theorem halves_turn (w : World) (A B : Option Addr) (n c d : Nat) (a b : Nat → D) (bits : Nat) (E T : Nat) (h : RDs w A n c a) (h2 : RDs w B n d b) (la : ∀ i, i < n → (a i).Lim E T) (lb : ∀ i, i < n → (b i).Lim E T) (hET : E + T + 4 ≤ 16000) (hb2 : 2 ≤ bits) (hb3 : bits ≤ 4096) (ht : BTab w) :
    Calls Tryd.prog 86 #[.slice A n c, .slice B n d, .bool true, .int .i64 bits] w fun e w' => (∃ g1 g2 : Nat, e = .returned (.tuple #[.slice (some ⟨g1, 0, none⟩) n n, .slice (some ⟨g2, 0, none⟩) n n, .int .i64 0]) ∧ w.heap.size ≤ g1 ∧ w.heap.size ≤ g2 ∧ OD w' g1 n (fun j => halfM (a j) (b j).neg bits) ∧ OD w' g2 n (fun j => halfO (a j) (b j).neg bits)) ∧ Below w.heap.size w w' := by
  have HA := Lib.hid h
  have HB := Lib.hid h2
  have LA := Lib.hid la
  have LB := Lib.hid lb
  have HT := Lib.hid ht
  have n0 := h.2.1
  clear h h2 la lb ht
  have hmk := fun W => make_D n n0 W
  go_enter Tryd.func86, Tryd.ntmps86
  go_upto_region 1 with (fail)
  go_cut [11, 12] (fun s11 s12 wx => ∃ g1 g2 : Nat, s11 = .slice (some ⟨g1, 0, none⟩) n n ∧ s12 = .slice (some ⟨g2, 0, none⟩) n n ∧ g1 ≠ g2 ∧ w.heap.size ≤ g1 ∧ w.heap.size ≤ g2 ∧ OD wx g1 n (fun _ => D.zero) ∧ OD wx g2 n (fun _ => D.zero) ∧ Below w.heap.size w wx)
  case first =>
    go_region
    all_goals (go_wp2_with fail; go_meet; first | exact ⟨w.heap.size, w.heap.size + 1, rfl, rfl, by omega, by omega, by omega, ((OD.made w n).al _).dr, (OD.made1 w _ n).dr, below_dr (below_al (below_al (Below.refl _ w) _) _)⟩ | exact ⟨w.heap.size + 1, w.heap.size, rfl, rfl, by omega, by omega, by omega, (OD.made1 w _ n).dr, ((OD.made w n).al _).dr, below_dr (below_al (below_al (Below.refl _ w) _) _)⟩)
  case rest =>
    obtain ⟨w0, rfl⟩ : ∃ x, x = wc := ⟨_, rfl⟩
    obtain ⟨g1, g2, rfl, rfl, hne, hg1, hg2, ho1, ho2, hbel⟩ := hcut
    have H0 := Lib.hid (show HalvesRel (fun j => halfM (a j) (b j).neg bits) (fun j => halfO (a j) (b j).neg bits) n g1 g2 w 0 w0 from ⟨OD.start ho1, OD.start ho2, hbel⟩)
    clear hmk ho1 ho2 hbel
    go_wp2_with fail
    go_loopw [24] (fun k wr => ∃ i : Nat, k = .int .i64 i ∧ i ≤ n ∧ Hid (HalvesRel (fun j => halfM (a j) (b j).neg bits) (fun j => halfO (a j) (b j).neg bits) n g1 g2 w i wr)) (fun k _ => n - (intOf k).toNat)
    case atStart => exact ⟨0, rfl, Nat.zero_le _, H0⟩
    case round =>
      clear H0
      obtain ⟨i, rfl, hi, Hr⟩ := hrel
      by_cases hi2 : i < n
      · have q3 : (i : Int) < (n : Int) := by omega
        obtain ⟨hx, hv, hbel⟩ := Hr.out
        have OX := Lib.hid hx
        have OV := Lib.hid hv
        have HB_0 := Lib.hid hbel
        clear hx hv hbel Hr
        obtain ⟨A1, o1, rfl, hl1, hcc⟩ := HA.out.2.2 (by omega)
        obtain ⟨q, z0, z1, z2, hq⟩ := hcc i hi2
        obtain ⟨A2, o2, rfl, hl2, hc2⟩ := HB.out.2.2 (by omega)
        obtain ⟨t, y0, y1, y2, ht⟩ := hc2 i hi2
        have X0 := Lib.hid z0
        have Y0 := Lib.hid y0
        have X1 := Lib.hid z1
        have Y1 := Lib.hid y1
        have X2 := Lib.hid z2
        have Y2 := Lib.hid y2
        have RQ := Lib.hid (hq.below HB_0.out)
        have RT := Lib.hid (ht.below HB_0.out)
        clear hcc z0 z1 z2 hq hc2 y0 y1 y2 ht
        have La := Lib.hid (LA.out i hi2)
        have Lb := Lib.hid (LB.out i hi2)
        have cr10 : wr.cell? ⟨A1, o1 + i * 3, none⟩ = some (.bool q.b) := (HB_0.out.cell (p := ⟨A1, o1 + i * 3, none⟩) hl1).trans X0.out
        have cr11 : wr.cell? ⟨A1, o1 + i * 3 + 1, none⟩ = some (.slice q.A q.n q.c) := (HB_0.out.cell (p := ⟨A1, o1 + i * 3 + 1, none⟩) hl1).trans X1.out
        have cr12 : wr.cell? ⟨A1, o1 + i * 3 + 2, none⟩ = some (.int .i64 (a i).x) := (HB_0.out.cell (p := ⟨A1, o1 + i * 3 + 2, none⟩) hl1).trans X2.out
        have cr20 : wr.cell? ⟨A2, o2 + i * 3, none⟩ = some (.bool t.b) := (HB_0.out.cell (p := ⟨A2, o2 + i * 3, none⟩) hl2).trans Y0.out
        have cr21 : wr.cell? ⟨A2, o2 + i * 3 + 1, none⟩ = some (.slice t.A t.n t.c) := (HB_0.out.cell (p := ⟨A2, o2 + i * 3 + 1, none⟩) hl2).trans Y1.out
        have cr22 : wr.cell? ⟨A2, o2 + i * 3 + 2, none⟩ = some (.int .i64 (b i).x) := (HB_0.out.cell (p := ⟨A2, o2 + i * 3 + 2, none⟩) hl2).trans Y2.out
        have n_101 := OX.out.lt
        have n_102 := OV.out.lt
        have nb0 : nb (b i).z.natAbs ≤ 16384 := by have := Lb.out.nb; omega
        go_wp2_with fail
        refine (dneg_q _ t (b i) (RT.out.dk ((Dk.refl _).alloc _)) nb0).mono ?_
        rintro e w1 ⟨⟨s, rfl, hs⟩, hb⟩
        clear cr10 cr11 cr12 cr20 cr21 cr22
        have K := Dk.trans ((Dk.refl _).alloc _) (.below hb)
        have By_103 := Lib.hid (show Bk _ _ _ #[.bool t.b, .slice t.A t.n t.c, .int .i64 (b i).x] from (Bk.new _ 53 #[.bool t.b, .slice t.A t.n t.c, .int .i64 (b i).x]).below hb)
        have Ox_104 := Lib.hid (show OD _ (g1) n (fun j => if j < i then (fun j => halfM (a j) (b j).neg bits) j else D.zero) from (OX.out.al _).below hb)
        have Ov_105 := Lib.hid (show OD _ (g2) n (fun j => if j < i then (fun j => halfO (a j) (b j).neg bits) j else D.zero) from (OV.out.al _).below hb)
        have HB_106 := Lib.hid (below_tr (below_al HB_0.out _) hb)
        clear hb
        have RQ_107 := Lib.hid (RQ.out.dk K)
        have RT_108 := Lib.hid (RT.out.dk K)
        clear K OX OV HB_0 RQ RT
        have RY_109 := Lib.hid hs
        clear hs
        have ly := By_103.out.lt
        obtain ⟨cy0, cy1, cy2⟩ := By_103.out.cells3
        have fy0 := By_103.out.free 0
        have fy1 := By_103.out.free 1
        have fy2 := By_103.out.free 2
        have cr10 : w1.cell? ⟨A1, o1 + i * 3, none⟩ = some (.bool q.b) := (HB_106.out.cell (p := ⟨A1, o1 + i * 3, none⟩) hl1).trans X0.out
        have cr11 : w1.cell? ⟨A1, o1 + i * 3 + 1, none⟩ = some (.slice q.A q.n q.c) := (HB_106.out.cell (p := ⟨A1, o1 + i * 3 + 1, none⟩) hl1).trans X1.out
        have cr12 : w1.cell? ⟨A1, o1 + i * 3 + 2, none⟩ = some (.int .i64 (a i).x) := (HB_106.out.cell (p := ⟨A1, o1 + i * 3 + 2, none⟩) hl1).trans X2.out
        have cr20 : w1.cell? ⟨A2, o2 + i * 3, none⟩ = some (.bool t.b) := (HB_106.out.cell (p := ⟨A2, o2 + i * 3, none⟩) hl2).trans Y0.out
        have cr21 : w1.cell? ⟨A2, o2 + i * 3 + 1, none⟩ = some (.slice t.A t.n t.c) := (HB_106.out.cell (p := ⟨A2, o2 + i * 3 + 1, none⟩) hl2).trans Y1.out
        have cr22 : w1.cell? ⟨A2, o2 + i * 3 + 2, none⟩ = some (.int .i64 (b i).x) := (HB_106.out.cell (p := ⟨A2, o2 + i * 3 + 2, none⟩) hl2).trans Y2.out
        go_upto_region 9 with (fail)
        clear ly cy0 cy1 cy2 fy0 fy1 fy2 cr10 cr11 cr12 cr20 cr21 cr22
        have K : Dk w1 (((w1.setCell ⟨wr.heap.size, 0, none⟩ (.bool s.b)).setCell ⟨wr.heap.size, 1, none⟩ (.slice s.A s.n s.c)).setCell ⟨wr.heap.size, 2, none⟩ (.int .i64 (b i).x)) := ((((Dk.refl _).set (cs := #[.bool t.b, .slice t.A t.n t.c, .int .i64 (b i).x]) By_103.out 0 (by intro _ hh; cases hh) (.bool s.b)).set (cs := #[.bool s.b, .slice t.A t.n t.c, .int .i64 (b i).x]) (By_103.out.set 0 (.bool s.b)) 1 (by intro _ hh; cases hh) (.slice s.A s.n s.c)).set (cs := #[.bool s.b, .slice s.A s.n s.c, .int .i64 (b i).x]) ((By_103.out.set 0 (.bool s.b)).set 1 (.slice s.A s.n s.c)) 2 (by intro _ hh; cases hh) (.int .i64 (b i).x))
        have By_110 := Lib.hid (show Bk (((w1.setCell ⟨wr.heap.size, 0, none⟩ (.bool s.b)).setCell ⟨wr.heap.size, 1, none⟩ (.slice s.A s.n s.c)).setCell ⟨wr.heap.size, 2, none⟩ (.int .i64 (b i).x)) (wr.heap.size) 53 #[.bool s.b, .slice s.A s.n s.c, .int .i64 (b i).x] from (((By_103.out.set 0 (.bool s.b)).set 1 (.slice s.A s.n s.c)).set 2 (.int .i64 (b i).x)))
        have y0 := By_103.out.lt; have y1 := Ox_104.out.lt; have y2 := Ov_105.out.lt; have y3 := HB_106.out.size; have Ox_111 := Lib.hid (show OD (((w1.setCell ⟨wr.heap.size, 0, none⟩ (.bool s.b)).setCell ⟨wr.heap.size, 1, none⟩ (.slice s.A s.n s.c)).setCell ⟨wr.heap.size, 2, none⟩ (.int .i64 (b i).x)) (g1) n (fun j => if j < i then (fun j => halfM (a j) (b j).neg bits) j else D.zero) from (((Ox_104.out.st (cs := #[.bool t.b, .slice t.A t.n t.c, .int .i64 (b i).x]) By_103.out (by omega) 0 (by intro _ hh; cases hh) (.bool s.b)).st (cs := #[.bool s.b, .slice t.A t.n t.c, .int .i64 (b i).x]) (By_103.out.set 0 (.bool s.b)) (by omega) 1 (by intro _ hh; cases hh) (.slice s.A s.n s.c)).st (cs := #[.bool s.b, .slice s.A s.n s.c, .int .i64 (b i).x]) ((By_103.out.set 0 (.bool s.b)).set 1 (.slice s.A s.n s.c)) (by omega) 2 (by intro _ hh; cases hh) (.int .i64 (b i).x))); clear y0 y1 y2 y3
        have y0 := By_103.out.lt; have y1 := Ox_104.out.lt; have y2 := Ov_105.out.lt; have y3 := HB_106.out.size; have Ov_112 := Lib.hid (show OD (((w1.setCell ⟨wr.heap.size, 0, none⟩ (.bool s.b)).setCell ⟨wr.heap.size, 1, none⟩ (.slice s.A s.n s.c)).setCell ⟨wr.heap.size, 2, none⟩ (.int .i64 (b i).x)) (g2) n (fun j => if j < i then (fun j => halfO (a j) (b j).neg bits) j else D.zero) from (((Ov_105.out.st (cs := #[.bool t.b, .slice t.A t.n t.c, .int .i64 (b i).x]) By_103.out (by omega) 0 (by intro _ hh; cases hh) (.bool s.b)).st (cs := #[.bool s.b, .slice t.A t.n t.c, .int .i64 (b i).x]) (By_103.out.set 0 (.bool s.b)) (by omega) 1 (by intro _ hh; cases hh) (.slice s.A s.n s.c)).st (cs := #[.bool s.b, .slice s.A s.n s.c, .int .i64 (b i).x]) ((By_103.out.set 0 (.bool s.b)).set 1 (.slice s.A s.n s.c)) (by omega) 2 (by intro _ hh; cases hh) (.int .i64 (b i).x))); clear y0 y1 y2 y3
        have y0 := HB_106.out.size; have HB_113 := Lib.hid (show Below w.heap.size w (((w1.setCell ⟨wr.heap.size, 0, none⟩ (.bool s.b)).setCell ⟨wr.heap.size, 1, none⟩ (.slice s.A s.n s.c)).setCell ⟨wr.heap.size, 2, none⟩ (.int .i64 (b i).x)) from (below_st (below_st (below_st HB_106.out 0 (by omega) (.bool s.b)) 1 (by omega) (.slice s.A s.n s.c)) 2 (by omega) (.int .i64 (b i).x))); clear y0
        have RQ_114 := Lib.hid (RQ_107.out.dk K)
        have RT_115 := Lib.hid (RT_108.out.dk K)
        have RY_116 := Lib.hid (RY_109.out.dk K)
        clear K By_103 Ox_104 Ov_105 HB_106 RQ_107 RT_108 RY_109
        generalize ((w1.setCell ⟨wr.heap.size, 0, none⟩ (.bool s.b)).setCell ⟨wr.heap.size, 1, none⟩ (.slice s.A s.n s.c)).setCell ⟨wr.heap.size, 2, none⟩ (.int .i64 (b i).x) = w2 at *
        have ly := By_110.out.lt
        obtain ⟨cy0, cy1, cy2⟩ := By_110.out.cells3
        have cr10 : w2.cell? ⟨A1, o1 + i * 3, none⟩ = some (.bool q.b) := (HB_113.out.cell (p := ⟨A1, o1 + i * 3, none⟩) hl1).trans X0.out
        have cr11 : w2.cell? ⟨A1, o1 + i * 3 + 1, none⟩ = some (.slice q.A q.n q.c) := (HB_113.out.cell (p := ⟨A1, o1 + i * 3 + 1, none⟩) hl1).trans X1.out
        have cr12 : w2.cell? ⟨A1, o1 + i * 3 + 2, none⟩ = some (.int .i64 (a i).x) := (HB_113.out.cell (p := ⟨A1, o1 + i * 3 + 2, none⟩) hl1).trans X2.out
        have cr20 : w2.cell? ⟨A2, o2 + i * 3, none⟩ = some (.bool t.b) := (HB_113.out.cell (p := ⟨A2, o2 + i * 3, none⟩) hl2).trans Y0.out
        have cr21 : w2.cell? ⟨A2, o2 + i * 3 + 1, none⟩ = some (.slice t.A t.n t.c) := (HB_113.out.cell (p := ⟨A2, o2 + i * 3 + 1, none⟩) hl2).trans Y1.out
        have cr22 : w2.cell? ⟨A2, o2 + i * 3 + 2, none⟩ = some (.int .i64 (b i).x) := (HB_113.out.cell (p := ⟨A2, o2 + i * 3 + 2, none⟩) hl2).trans Y2.out
        obtain ⟨⟨_, px0⟩, ⟨_, px1⟩, ⟨_, px2⟩, rx0, rx1, rx2⟩ := Ox_111.out.there hi2
        have lx := Ox_111.out.lt
        obtain ⟨⟨_, pv0⟩, ⟨_, pv1⟩, ⟨_, pv2⟩, rv0, rv1, rv2⟩ := Ov_112.out.there hi2
        have lv := Ov_112.out.lt
        go_wp2_with fail
        obtain ⟨SX1, hS1⟩ : ∃ S : World → Prop, ∀ w', S w' ↔ (w'.cell? ⟨A1, o1 + i * 3, none⟩ = some (.bool q.b) ∧ w'.cell? ⟨A1, o1 + i * 3 + 1, none⟩ = some (.slice q.A q.n q.c) ∧ w'.cell? ⟨A1, o1 + i * 3 + 2, none⟩ = some (.int .i64 (a i).x) ∧ w'.cell? ⟨wr.heap.size, 0, none⟩ = some (.bool s.b) ∧ w'.cell? ⟨wr.heap.size, 1, none⟩ = some (.slice s.A s.n s.c) ∧ w'.cell? ⟨wr.heap.size, 2, none⟩ = some (.int .i64 (b i).x)) := ⟨_, fun _ => Iff.rfl⟩
        have k_117 : SX1 (w2) := (hS1 _).2 ⟨(Below.cell (p := ⟨A1, o1 + i * 3, none⟩) HB_113.out hl1).trans X0.out, (Below.cell (p := ⟨A1, o1 + i * 3 + 1, none⟩) HB_113.out hl1).trans X1.out, (Below.cell (p := ⟨A1, o1 + i * 3 + 2, none⟩) HB_113.out hl1).trans X2.out, By_110.out.cell 0 rfl, By_110.out.cell 1 rfl, By_110.out.cell 2 rfl⟩
        have k_118 : SX1 (w2.drew) := (hS1 _).2 ⟨(Below.cell (p := ⟨A1, o1 + i * 3, none⟩) (below_dr HB_113.out) hl1).trans X0.out, (Below.cell (p := ⟨A1, o1 + i * 3 + 1, none⟩) (below_dr HB_113.out) hl1).trans X1.out, (Below.cell (p := ⟨A1, o1 + i * 3 + 2, none⟩) (below_dr HB_113.out) hl1).trans X2.out, (By_110.out.drew).cell 0 rfl, (By_110.out.drew).cell 1 rfl, (By_110.out.drew).cell 2 rfl⟩
        have tok_119 : True := trivial
        go_region_held3 (fun w' => w'.cell? ⟨A1, o1 + i * 3, none⟩ = some (.bool q.b) ∧ w'.cell? ⟨A1, o1 + i * 3 + 1, none⟩ = some (.slice q.A q.n q.c) ∧ w'.cell? ⟨A1, o1 + i * 3 + 2, none⟩ = some (.int .i64 (a i).x) ∧ w'.cell? ⟨wr.heap.size, 0, none⟩ = some (.bool s.b) ∧ w'.cell? ⟨wr.heap.size, 1, none⟩ = some (.slice s.A s.n s.c) ∧ w'.cell? ⟨wr.heap.size, 2, none⟩ = some (.int .i64 (b i).x)) (first | with_reducible exact (hS1 _).1 k_117 | with_reducible exact (hS1 _).1 k_118 | with_reducible exact (hS1 _).1 k_129 | with_reducible exact (hS1 _).1 k_130 | with_reducible exact (hS1 _).1 k_131)
          (first
           | (have _ := tok_119; go_at_call 144; clear tok_119; refine (half_any _ q s (a i) (b i).neg bits E T (RQ_114.out.dk ((Dk.refl _).drew)) (RY_116.out.dk ((Dk.refl _).drew)) La.out (neg_lim Lb.out) hET hb2 hb3 (HT.out.below (below_dr HB_113.out))).mono ?_; rintro e w3 ⟨⟨m, x, rfl, hm, hx⟩, hb⟩; clear ly cy0 cy1 cy2 cr10 cr11 cr12 cr20 cr21 cr22 px0 px1 px2 rx0 rx1 rx2 lx pv0 pv1 pv2 rv0 rv1 rv2 lv k_117 k_118; have K := Dk.trans ((Dk.refl _).drew) (.below hb); have By_120 := Lib.hid (show Bk _ _ _ #[.bool s.b, .slice s.A s.n s.c, .int .i64 (b i).x] from (By_110.out.drew).below hb); have Ox_121 := Lib.hid (show OD _ (g1) n (fun j => if j < i then (fun j => halfM (a j) (b j).neg bits) j else D.zero) from (Ox_111.out.dr).below hb); have Ov_122 := Lib.hid (show OD _ (g2) n (fun j => if j < i then (fun j => halfO (a j) (b j).neg bits) j else D.zero) from (Ov_112.out.dr).below hb); have HB_123 := Lib.hid (below_tr (below_dr HB_113.out) hb); clear hb; have RQ_124 := Lib.hid (RQ_114.out.dk K); have RT_125 := Lib.hid (RT_115.out.dk K); have RY_126 := Lib.hid (RY_116.out.dk K); clear K By_110 Ox_111 Ov_112 HB_113 RQ_114 RT_115 RY_116; have RM_127 := Lib.hid hm; clear hm; have RO_128 := Lib.hid hx; clear hx; have ly := By_120.out.lt; obtain ⟨cy0, cy1, cy2⟩ := By_120.out.cells3; have cr10 : w3.cell? ⟨A1, o1 + i * 3, none⟩ = some (.bool q.b) := (HB_123.out.cell (p := ⟨A1, o1 + i * 3, none⟩) hl1).trans X0.out; have cr11 : w3.cell? ⟨A1, o1 + i * 3 + 1, none⟩ = some (.slice q.A q.n q.c) := (HB_123.out.cell (p := ⟨A1, o1 + i * 3 + 1, none⟩) hl1).trans X1.out; have cr12 : w3.cell? ⟨A1, o1 + i * 3 + 2, none⟩ = some (.int .i64 (a i).x) := (HB_123.out.cell (p := ⟨A1, o1 + i * 3 + 2, none⟩) hl1).trans X2.out; have cr20 : w3.cell? ⟨A2, o2 + i * 3, none⟩ = some (.bool t.b) := (HB_123.out.cell (p := ⟨A2, o2 + i * 3, none⟩) hl2).trans Y0.out; have cr21 : w3.cell? ⟨A2, o2 + i * 3 + 1, none⟩ = some (.slice t.A t.n t.c) := (HB_123.out.cell (p := ⟨A2, o2 + i * 3 + 1, none⟩) hl2).trans Y1.out; have cr22 : w3.cell? ⟨A2, o2 + i * 3 + 2, none⟩ = some (.int .i64 (b i).x) := (HB_123.out.cell (p := ⟨A2, o2 + i * 3 + 2, none⟩) hl2).trans Y2.out; obtain ⟨⟨_, px0⟩, ⟨_, px1⟩, ⟨_, px2⟩, rx0, rx1, rx2⟩ := Ox_121.out.there hi2; have lx := Ox_121.out.lt; obtain ⟨⟨_, pv0⟩, ⟨_, pv1⟩, ⟨_, pv2⟩, rv0, rv1, rv2⟩ := Ov_122.out.there hi2; have lv := Ov_122.out.lt; have k_129 : SX1 (w3) := (hS1 _).2 ⟨(Below.cell (p := ⟨A1, o1 + i * 3, none⟩) HB_123.out hl1).trans X0.out, (Below.cell (p := ⟨A1, o1 + i * 3 + 1, none⟩) HB_123.out hl1).trans X1.out, (Below.cell (p := ⟨A1, o1 + i * 3 + 2, none⟩) HB_123.out hl1).trans X2.out, By_120.out.cell 0 rfl, By_120.out.cell 1 rfl, By_120.out.cell 2 rfl⟩; have y0 := HB_123.out.size; have y1 := By_120.out.lt; have y2 := Ox_121.out.lt; have y3 := Ov_122.out.lt; have k_130 : SX1 (((w3.setCell ⟨g1, i * 3, none⟩ (.bool m.b)).setCell ⟨g1, i * 3 + 1, none⟩ (.slice m.A m.n m.c)).setCell ⟨g1, i * 3 + 2, none⟩ (.int .i64 (halfM (a i) (b i).neg bits).x)) := (hS1 _).2 ⟨(Below.cell (p := ⟨A1, o1 + i * 3, none⟩) (below_put3 HB_123.out (by omega) i (.bool m.b) (.slice m.A m.n m.c) (.int .i64 (halfM (a i) (b i).neg bits).x)) hl1).trans X0.out, (Below.cell (p := ⟨A1, o1 + i * 3 + 1, none⟩) (below_put3 HB_123.out (by omega) i (.bool m.b) (.slice m.A m.n m.c) (.int .i64 (halfM (a i) (b i).neg bits).x)) hl1).trans X1.out, (Below.cell (p := ⟨A1, o1 + i * 3 + 2, none⟩) (below_put3 HB_123.out (by omega) i (.bool m.b) (.slice m.A m.n m.c) (.int .i64 (halfM (a i) (b i).neg bits).x)) hl1).trans X2.out, (By_120.out.ne3 (by omega) i (.bool m.b) (.slice m.A m.n m.c) (.int .i64 (halfM (a i) (b i).neg bits).x)).cell 0 rfl, (By_120.out.ne3 (by omega) i (.bool m.b) (.slice m.A m.n m.c) (.int .i64 (halfM (a i) (b i).neg bits).x)).cell 1 rfl, (By_120.out.ne3 (by omega) i (.bool m.b) (.slice m.A m.n m.c) (.int .i64 (halfM (a i) (b i).neg bits).x)).cell 2 rfl⟩; clear y0 y1 y2 y3; have y0 := HB_123.out.size; have y1 := By_120.out.lt; have y2 := Ox_121.out.lt; have y3 := Ov_122.out.lt; have k_131 : SX1 ((((((w3.setCell ⟨g1, i * 3, none⟩ (.bool m.b)).setCell ⟨g1, i * 3 + 1, none⟩ (.slice m.A m.n m.c)).setCell ⟨g1, i * 3 + 2, none⟩ (.int .i64 (halfM (a i) (b i).neg bits).x)).setCell ⟨g2, i * 3, none⟩ (.bool x.b)).setCell ⟨g2, i * 3 + 1, none⟩ (.slice x.A x.n x.c)).setCell ⟨g2, i * 3 + 2, none⟩ (.int .i64 (halfO (a i) (b i).neg bits).x)) := (hS1 _).2 ⟨(Below.cell (p := ⟨A1, o1 + i * 3, none⟩) (below_put3 (below_put3 HB_123.out (by omega) i (.bool m.b) (.slice m.A m.n m.c) (.int .i64 (halfM (a i) (b i).neg bits).x)) (by omega) i (.bool x.b) (.slice x.A x.n x.c) (.int .i64 (halfO (a i) (b i).neg bits).x)) hl1).trans X0.out, (Below.cell (p := ⟨A1, o1 + i * 3 + 1, none⟩) (below_put3 (below_put3 HB_123.out (by omega) i (.bool m.b) (.slice m.A m.n m.c) (.int .i64 (halfM (a i) (b i).neg bits).x)) (by omega) i (.bool x.b) (.slice x.A x.n x.c) (.int .i64 (halfO (a i) (b i).neg bits).x)) hl1).trans X1.out, (Below.cell (p := ⟨A1, o1 + i * 3 + 2, none⟩) (below_put3 (below_put3 HB_123.out (by omega) i (.bool m.b) (.slice m.A m.n m.c) (.int .i64 (halfM (a i) (b i).neg bits).x)) (by omega) i (.bool x.b) (.slice x.A x.n x.c) (.int .i64 (halfO (a i) (b i).neg bits).x)) hl1).trans X2.out, ((By_120.out.ne3 (by omega) i (.bool m.b) (.slice m.A m.n m.c) (.int .i64 (halfM (a i) (b i).neg bits).x)).ne3 (by omega) i (.bool x.b) (.slice x.A x.n x.c) (.int .i64 (halfO (a i) (b i).neg bits).x)).cell 0 rfl, ((By_120.out.ne3 (by omega) i (.bool m.b) (.slice m.A m.n m.c) (.int .i64 (halfM (a i) (b i).neg bits).x)).ne3 (by omega) i (.bool x.b) (.slice x.A x.n x.c) (.int .i64 (halfO (a i) (b i).neg bits).x)).cell 1 rfl, ((By_120.out.ne3 (by omega) i (.bool m.b) (.slice m.A m.n m.c) (.int .i64 (halfM (a i) (b i).neg bits).x)).ne3 (by omega) i (.bool x.b) (.slice x.A x.n x.c) (.int .i64 (halfO (a i) (b i).neg bits).x)).cell 2 rfl⟩; clear y0 y1 y2 y3))
        go_wp2
        go_roundw
        case rel => exact ⟨i + 1, by go_num, hi2, Lib.hid ⟨OD.next (F := (fun j => halfM (a j) (b j).neg bits)) ((Ox_121.out.put hi2 m (halfM (a i) (b i).neg bits) RM_127.out).1.rp3 (by have := By_120.out.lt; have := Ox_121.out.lt; have := Ov_122.out.lt; have := HB_123.out.size; omega) i (.bool x.b) (.slice x.A x.n x.c) (.int .i64 (halfO (a i) (b i).neg bits).x) ((Ov_122.out.rp3 (by have := By_120.out.lt; have := Ox_121.out.lt; have := Ov_122.out.lt; have := HB_123.out.size; omega) i (.bool m.b) (.slice m.A m.n m.c) (.int .i64 (halfM (a i) (b i).neg bits).x) (Ox_121.out.put hi2 m (halfM (a i) (b i).neg bits) RM_127.out).2).put hi2 x (halfO (a i) (b i).neg bits) (RO_128.out.dk (Dk.trans (Dk.refl _) (Ox_121.out.put hi2 m (halfM (a i) (b i).neg bits) RM_127.out).2))).2), OD.next (F := (fun j => halfO (a j) (b j).neg bits)) ((Ov_122.out.rp3 (by have := By_120.out.lt; have := Ox_121.out.lt; have := Ov_122.out.lt; have := HB_123.out.size; omega) i (.bool m.b) (.slice m.A m.n m.c) (.int .i64 (halfM (a i) (b i).neg bits).x) (Ox_121.out.put hi2 m (halfM (a i) (b i).neg bits) RM_127.out).2).put hi2 x (halfO (a i) (b i).neg bits) (RO_128.out.dk (Dk.trans (Dk.refl _) (Ox_121.out.put hi2 m (halfM (a i) (b i).neg bits) RM_127.out).2))).1, (below_put3 (below_put3 HB_123.out (by have := HB_123.out.size; omega) i (.bool m.b) (.slice m.A m.n m.c) (.int .i64 (halfM (a i) (b i).neg bits).x)) (by have := HB_123.out.size; omega) i (.bool x.b) (.slice x.A x.n x.c) (.int .i64 (halfO (a i) (b i).neg bits).x))⟩⟩
        case measure => simp only [intOf]; omega
      · obtain rfl : i = n := by omega
        obtain ⟨hx, hv, hbel⟩ := Hr.out
        have OX := Lib.hid hx
        have OV := Lib.hid hv
        have HB_0 := Lib.hid hbel
        clear hx hv hbel Hr
        clear hi2
        go_wp2
        go_ret3
        exact ⟨⟨g1, g2, rfl, hg1, hg2, OX.out.done (F := (fun j => halfM (a j) (b j).neg bits)), OV.out.done (F := (fun j => halfO (a j) (b j).neg bits))⟩, HB_0.out⟩

end Go.Proofs.YtgioppkggpfnoaaDoor.Nu
end

section
/- The walk of join.more. -/
set_option linter.unusedVariables false
namespace Go.Proofs.YtgioppkggpfnoaaDoor.Nu
open Go.RowKit Go.Proofs

def MoreRel (a b : Nat → D) (bits n : Nat) (W : World) (i : Nat) (w : World) : Prop :=
  OD w W.heap.size n (fun j => if j < i then (fun j => mor (a j) (b j) bits) j else D.zero) ∧ Below W.heap.size W w

set_option maxRecDepth 100000 in
set_option maxHeartbeats 4000000 in
theorem more_any (w : World) (A B : Option Addr) (n c d : Nat) (a b : Nat → D) (bits : Nat) (E T : Nat) (h : RDs w A n c a) (h2 : RDs w B n d b) (la : ∀ i, i < n → (a i).Lim E T) (lb : ∀ i, i < n → (b i).Lim E T) (hET : E + T + 1 ≤ 16000) (hb2 : 2 ≤ bits) (hb3 : bits ≤ 4096) (ht : BTab w) :
    Calls Tryd.prog 88 #[.slice A n c, .slice B n d, .int .i64 bits] w fun e w' => (∃ g1 : Nat, e = .returned (.tuple #[.slice (some ⟨g1, 0, none⟩) n n, .int .i64 0]) ∧ w.heap.size ≤ g1 ∧ OD w' g1 n (fun j => mor (a j) (b j) bits)) ∧ Below w.heap.size w w' := by
  have HA := Lib.hid h
  have HB := Lib.hid h2
  have LA := Lib.hid la
  have LB := Lib.hid lb
  have HT := Lib.hid ht
  have n0 := h.2.1
  clear h h2 la lb ht
  have hmk := fun W => make_D n n0 W
  go_enter Tryd.func88, Tryd.ntmps88
  go_wp2_with fail
  have H0 := Lib.hid (show MoreRel a b bits n w 0 _ from ⟨OD.start (F := (fun j => mor (a j) (b j) bits)) (OD.made w n), below_al (Below.refl _ w) _⟩)
  clear hmk
  generalize w.alloc (.cells (mkD n) 53) = w0 at *
  go_loopw [17] (fun k wr => ∃ i : Nat, k = .int .i64 i ∧ i ≤ n ∧ Hid (MoreRel a b bits n w i wr)) (fun k _ => n - (intOf k).toNat)
  case atStart => exact ⟨0, rfl, Nat.zero_le _, H0⟩
  case round =>
    clear H0
    obtain ⟨i, rfl, hi, Hr⟩ := hrel
    by_cases hi2 : i < n
    · have q3 : (i : Int) < (n : Int) := by omega
      obtain ⟨hx, hbel⟩ := Hr.out
      have OX := Lib.hid hx
      have HB_0 := Lib.hid hbel
      clear hx hbel Hr
      obtain ⟨A1, o1, rfl, hl1, hcc⟩ := HA.out.2.2 (by omega)
      obtain ⟨q, z0, z1, z2, hq⟩ := hcc i hi2
      obtain ⟨A2, o2, rfl, hl2, hc2⟩ := HB.out.2.2 (by omega)
      obtain ⟨t, y0, y1, y2, ht⟩ := hc2 i hi2
      have X0 := Lib.hid z0
      have Y0 := Lib.hid y0
      have X1 := Lib.hid z1
      have Y1 := Lib.hid y1
      have X2 := Lib.hid z2
      have Y2 := Lib.hid y2
      have RQ := Lib.hid (hq.below HB_0.out)
      have RT := Lib.hid (ht.below HB_0.out)
      clear hcc z0 z1 z2 hq hc2 y0 y1 y2 ht
      have La := Lib.hid (pt_lim (LA.out i hi2))
      have Lb := Lib.hid (pt_lim (abs_lim (LB.out i hi2)))
      have nb0 : nb (b i).z.natAbs ≤ 16384 := by have := (LB.out i hi2).nb; omega
      go_upto_region 5 with (fail)
      have cr10 : wr.cell? ⟨A1, o1 + i * 3, none⟩ = some (.bool q.b) := (HB_0.out.cell (p := ⟨A1, o1 + i * 3, none⟩) hl1).trans X0.out
      have cr11 : wr.cell? ⟨A1, o1 + i * 3 + 1, none⟩ = some (.slice q.A q.n q.c) := (HB_0.out.cell (p := ⟨A1, o1 + i * 3 + 1, none⟩) hl1).trans X1.out
      have cr12 : wr.cell? ⟨A1, o1 + i * 3 + 2, none⟩ = some (.int .i64 (a i).x) := (HB_0.out.cell (p := ⟨A1, o1 + i * 3 + 2, none⟩) hl1).trans X2.out
      have cr20 : wr.cell? ⟨A2, o2 + i * 3, none⟩ = some (.bool t.b) := (HB_0.out.cell (p := ⟨A2, o2 + i * 3, none⟩) hl2).trans Y0.out
      have cr21 : wr.cell? ⟨A2, o2 + i * 3 + 1, none⟩ = some (.slice t.A t.n t.c) := (HB_0.out.cell (p := ⟨A2, o2 + i * 3 + 1, none⟩) hl2).trans Y1.out
      have cr22 : wr.cell? ⟨A2, o2 + i * 3 + 2, none⟩ = some (.int .i64 (b i).x) := (HB_0.out.cell (p := ⟨A2, o2 + i * 3 + 2, none⟩) hl2).trans Y2.out
      obtain ⟨⟨_, px0⟩, ⟨_, px1⟩, ⟨_, px2⟩, rx0, rx1, rx2⟩ := OX.out.there hi2
      have lx := OX.out.lt
      go_cut [10, 11] (fun s10 s11 wx => ∃ (g_101 : Nat) (p : SQ), s10 = .pointer (some ⟨g_101, 0, none⟩) ∧ s11 = .int .i64 0 ∧ w.heap.size < g_101 ∧ Bk wx g_101 62 #[.bool p.lo.b, .slice p.lo.A p.lo.n p.lo.c, .int .i64 (Sp.add (Sp.pt (a i)) (Sp.pt (b i).abs) bits).lo.x, .bool p.hi.b, .slice p.hi.A p.hi.n p.hi.c, .int .i64 (Sp.add (Sp.pt (a i)) (Sp.pt (b i).abs) bits).hi.x] ∧ OD wx (w.heap.size) n (fun j => if j < i then (fun j => mor (a j) (b j) bits) j else D.zero) ∧ Below w.heap.size w wx ∧ RS wx p (Sp.add (Sp.pt (a i)) (Sp.pt (b i).abs) bits))
      case first =>
        obtain ⟨SX1, hS1⟩ : ∃ S : World → Prop, ∀ w', S w' ↔ (w'.cell? ⟨A1, o1 + i * 3, none⟩ = some (.bool q.b) ∧ w'.cell? ⟨A1, o1 + i * 3 + 1, none⟩ = some (.slice q.A q.n q.c) ∧ w'.cell? ⟨A1, o1 + i * 3 + 2, none⟩ = some (.int .i64 (a i).x) ∧ w'.cell? ⟨A2, o2 + i * 3, none⟩ = some (.bool t.b) ∧ w'.cell? ⟨A2, o2 + i * 3 + 1, none⟩ = some (.slice t.A t.n t.c) ∧ w'.cell? ⟨A2, o2 + i * 3 + 2, none⟩ = some (.int .i64 (b i).x)) := ⟨_, fun _ => Iff.rfl⟩
        have k_102 : SX1 (wr) := (hS1 _).2 ⟨(Below.cell (p := ⟨A1, o1 + i * 3, none⟩) HB_0.out hl1).trans X0.out, (Below.cell (p := ⟨A1, o1 + i * 3 + 1, none⟩) HB_0.out hl1).trans X1.out, (Below.cell (p := ⟨A1, o1 + i * 3 + 2, none⟩) HB_0.out hl1).trans X2.out, (Below.cell (p := ⟨A2, o2 + i * 3, none⟩) HB_0.out hl2).trans Y0.out, (Below.cell (p := ⟨A2, o2 + i * 3 + 1, none⟩) HB_0.out hl2).trans Y1.out, (Below.cell (p := ⟨A2, o2 + i * 3 + 2, none⟩) HB_0.out hl2).trans Y2.out⟩
        have k_103 : SX1 (wr.drew) := (hS1 _).2 ⟨(Below.cell (p := ⟨A1, o1 + i * 3, none⟩) (below_dr HB_0.out) hl1).trans X0.out, (Below.cell (p := ⟨A1, o1 + i * 3 + 1, none⟩) (below_dr HB_0.out) hl1).trans X1.out, (Below.cell (p := ⟨A1, o1 + i * 3 + 2, none⟩) (below_dr HB_0.out) hl1).trans X2.out, (Below.cell (p := ⟨A2, o2 + i * 3, none⟩) (below_dr HB_0.out) hl2).trans Y0.out, (Below.cell (p := ⟨A2, o2 + i * 3 + 1, none⟩) (below_dr HB_0.out) hl2).trans Y1.out, (Below.cell (p := ⟨A2, o2 + i * 3 + 2, none⟩) (below_dr HB_0.out) hl2).trans Y2.out⟩
        have tok_104 : True := trivial
        have tok_105 : True := trivial
        have tok_106 : True := trivial
        have tok_107 : True := trivial
        have tok_108 : True := trivial
        have tok_109 : True := trivial
        have tok_110 : True := trivial
        have tok_111 : True := trivial
        have tok_112 : True := trivial
        have tok_113 : True := trivial
        have tok_114 : True := trivial
        have tok_115 : True := trivial
        have tok_116 : True := trivial
        have tok_117 : True := trivial
        have k_118 : SX1 ((wr.alloc (.cells #[.bool false, .slice none 0 0, .int .i64 0, .bool false, .slice none 0 0, .int .i64 0] 62)).drew) := (hS1 _).2 ⟨(Below.cell (p := ⟨A1, o1 + i * 3, none⟩) (below_dr (below_al HB_0.out _)) hl1).trans X0.out, (Below.cell (p := ⟨A1, o1 + i * 3 + 1, none⟩) (below_dr (below_al HB_0.out _)) hl1).trans X1.out, (Below.cell (p := ⟨A1, o1 + i * 3 + 2, none⟩) (below_dr (below_al HB_0.out _)) hl1).trans X2.out, (Below.cell (p := ⟨A2, o2 + i * 3, none⟩) (below_dr (below_al HB_0.out _)) hl2).trans Y0.out, (Below.cell (p := ⟨A2, o2 + i * 3 + 1, none⟩) (below_dr (below_al HB_0.out _)) hl2).trans Y1.out, (Below.cell (p := ⟨A2, o2 + i * 3 + 2, none⟩) (below_dr (below_al HB_0.out _)) hl2).trans Y2.out⟩
        go_region_held3 (fun w' => w'.cell? ⟨A1, o1 + i * 3, none⟩ = some (.bool q.b) ∧ w'.cell? ⟨A1, o1 + i * 3 + 1, none⟩ = some (.slice q.A q.n q.c) ∧ w'.cell? ⟨A1, o1 + i * 3 + 2, none⟩ = some (.int .i64 (a i).x) ∧ w'.cell? ⟨A2, o2 + i * 3, none⟩ = some (.bool t.b) ∧ w'.cell? ⟨A2, o2 + i * 3 + 1, none⟩ = some (.slice t.A t.n t.c) ∧ w'.cell? ⟨A2, o2 + i * 3 + 2, none⟩ = some (.int .i64 (b i).x)) (first | with_reducible exact (hS1 _).1 k_102 | with_reducible exact (hS1 _).1 k_103 | with_reducible exact (hS1 _).1 k_118 | with_reducible exact (hS1 _).1 k_125 | with_reducible exact (hS1 _).1 k_126 | with_reducible exact (hS1 _).1 k_136 | with_reducible exact (hS1 _).1 k_145 | with_reducible exact (hS1 _).1 k_146 | with_reducible exact (hS1 _).1 k_157 | with_reducible exact (hS1 _).1 k_167 | with_reducible exact (hS1 _).1 k_177 | with_reducible exact (hS1 _).1 k_178 | with_reducible exact (hS1 _).1 k_190 | with_reducible exact (hS1 _).1 k_201 | with_reducible exact (hS1 _).1 k_212 | with_reducible exact (hS1 _).1 k_223 | with_reducible exact (hS1 _).1 k_225 | with_reducible exact (hS1 _).1 k_226 | with_reducible exact (hS1 _).1 k_239 | with_reducible exact (hS1 _).1 k_240 | with_reducible exact (hS1 _).1 k_252 | with_reducible exact (hS1 _).1 k_253 | with_reducible exact (hS1 _).1 k_265 | with_reducible exact (hS1 _).1 k_266 | with_reducible exact (hS1 _).1 k_278 | with_reducible exact (hS1 _).1 k_279)
          (first
           | (have _ := tok_104; skip; go_at_call 59; clear tok_104; (with_reducible refine (spoint_any (wr.drew) q (a i) (RQ.out.dk ((Dk.refl _).drew))).mono ?_); rintro e w_119 ⟨⟨s, rfl, hs⟩, hb⟩; clear cr10 cr11 cr12 cr20 cr21 cr22 px0 px1 px2 rx0 rx1 rx2 lx k_102 k_103 k_118; have K := Dk.trans ((Dk.refl _).drew) (.below hb); have Ox_120 := Lib.hid (show OD _ (w.heap.size) n (fun j => if j < i then (fun j => mor (a j) (b j) bits) j else D.zero) from (OX.out.dr).below hb); have HB_121 := Lib.hid (below_tr (below_dr HB_0.out) hb); clear hb; have RQ_122 := Lib.hid (RQ.out.dk K); have RT_123 := Lib.hid (RT.out.dk K); clear K OX HB_0 RQ RT; have SS_124 := Lib.hid hs; clear hs; have cr10 : w_119.cell? ⟨A1, o1 + i * 3, none⟩ = some (.bool q.b) := (HB_121.out.cell (p := ⟨A1, o1 + i * 3, none⟩) hl1).trans X0.out; have cr11 : w_119.cell? ⟨A1, o1 + i * 3 + 1, none⟩ = some (.slice q.A q.n q.c) := (HB_121.out.cell (p := ⟨A1, o1 + i * 3 + 1, none⟩) hl1).trans X1.out; have cr12 : w_119.cell? ⟨A1, o1 + i * 3 + 2, none⟩ = some (.int .i64 (a i).x) := (HB_121.out.cell (p := ⟨A1, o1 + i * 3 + 2, none⟩) hl1).trans X2.out; have cr20 : w_119.cell? ⟨A2, o2 + i * 3, none⟩ = some (.bool t.b) := (HB_121.out.cell (p := ⟨A2, o2 + i * 3, none⟩) hl2).trans Y0.out; have cr21 : w_119.cell? ⟨A2, o2 + i * 3 + 1, none⟩ = some (.slice t.A t.n t.c) := (HB_121.out.cell (p := ⟨A2, o2 + i * 3 + 1, none⟩) hl2).trans Y1.out; have cr22 : w_119.cell? ⟨A2, o2 + i * 3 + 2, none⟩ = some (.int .i64 (b i).x) := (HB_121.out.cell (p := ⟨A2, o2 + i * 3 + 2, none⟩) hl2).trans Y2.out; obtain ⟨⟨_, px0⟩, ⟨_, px1⟩, ⟨_, px2⟩, rx0, rx1, rx2⟩ := Ox_120.out.there hi2; have lx := Ox_120.out.lt; have k_125 : SX1 (w_119) := (hS1 _).2 ⟨(Below.cell (p := ⟨A1, o1 + i * 3, none⟩) HB_121.out hl1).trans X0.out, (Below.cell (p := ⟨A1, o1 + i * 3 + 1, none⟩) HB_121.out hl1).trans X1.out, (Below.cell (p := ⟨A1, o1 + i * 3 + 2, none⟩) HB_121.out hl1).trans X2.out, (Below.cell (p := ⟨A2, o2 + i * 3, none⟩) HB_121.out hl2).trans Y0.out, (Below.cell (p := ⟨A2, o2 + i * 3 + 1, none⟩) HB_121.out hl2).trans Y1.out, (Below.cell (p := ⟨A2, o2 + i * 3 + 2, none⟩) HB_121.out hl2).trans Y2.out⟩; have k_126 : SX1 (w_119.alloc (.cells #[.bool false, .slice none 0 0, .int .i64 0, .bool false, .slice none 0 0, .int .i64 0] 62)) := (hS1 _).2 ⟨(Below.cell (p := ⟨A1, o1 + i * 3, none⟩) (below_al HB_121.out _) hl1).trans X0.out, (Below.cell (p := ⟨A1, o1 + i * 3 + 1, none⟩) (below_al HB_121.out _) hl1).trans X1.out, (Below.cell (p := ⟨A1, o1 + i * 3 + 2, none⟩) (below_al HB_121.out _) hl1).trans X2.out, (Below.cell (p := ⟨A2, o2 + i * 3, none⟩) (below_al HB_121.out _) hl2).trans Y0.out, (Below.cell (p := ⟨A2, o2 + i * 3 + 1, none⟩) (below_al HB_121.out _) hl2).trans Y1.out, (Below.cell (p := ⟨A2, o2 + i * 3 + 2, none⟩) (below_al HB_121.out _) hl2).trans Y2.out⟩)
           | (have _ := tok_108; have n_128 := OX.out.lt; skip; go_at_call 59; clear tok_108; (with_reducible refine (spoint_any ((wr.alloc (.cells #[.bool false, .slice none 0 0, .int .i64 0, .bool false, .slice none 0 0, .int .i64 0] 62)).drew) q (a i) (RQ.out.dk (((Dk.refl _).alloc _).drew))).mono ?_); rintro e w_129 ⟨⟨s, rfl, hs⟩, hb⟩; clear cr10 cr11 cr12 cr20 cr21 cr22 px0 px1 px2 rx0 rx1 rx2 lx k_102 k_103 k_118; have K := Dk.trans (((Dk.refl _).alloc _).drew) (.below hb); have Bs_130 := Lib.hid (show Bk _ _ _ #[.bool false, .slice none 0 0, .int .i64 0, .bool false, .slice none 0 0, .int .i64 0] from ((Bk.new _ 62 #[.bool false, .slice none 0 0, .int .i64 0, .bool false, .slice none 0 0, .int .i64 0]).drew).below hb); have Ox_131 := Lib.hid (show OD _ (w.heap.size) n (fun j => if j < i then (fun j => mor (a j) (b j) bits) j else D.zero) from ((OX.out.al _).dr).below hb); have HB_132 := Lib.hid (below_tr (below_dr (below_al HB_0.out _)) hb); clear hb; have RQ_133 := Lib.hid (RQ.out.dk K); have RT_134 := Lib.hid (RT.out.dk K); clear K OX HB_0 RQ RT; have SS_135 := Lib.hid hs; clear hs; have ls := Bs_130.out.lt; obtain ⟨cs0, cs1, cs2, cs3, cs4, cs5⟩ := Bs_130.out.cells6; have fs0 := Bs_130.out.free 0; have fs1 := Bs_130.out.free 1; have fs2 := Bs_130.out.free 2; have fs3 := Bs_130.out.free 3; have fs4 := Bs_130.out.free 4; have fs5 := Bs_130.out.free 5; have cr10 : w_129.cell? ⟨A1, o1 + i * 3, none⟩ = some (.bool q.b) := (HB_132.out.cell (p := ⟨A1, o1 + i * 3, none⟩) hl1).trans X0.out; have cr11 : w_129.cell? ⟨A1, o1 + i * 3 + 1, none⟩ = some (.slice q.A q.n q.c) := (HB_132.out.cell (p := ⟨A1, o1 + i * 3 + 1, none⟩) hl1).trans X1.out; have cr12 : w_129.cell? ⟨A1, o1 + i * 3 + 2, none⟩ = some (.int .i64 (a i).x) := (HB_132.out.cell (p := ⟨A1, o1 + i * 3 + 2, none⟩) hl1).trans X2.out; have cr20 : w_129.cell? ⟨A2, o2 + i * 3, none⟩ = some (.bool t.b) := (HB_132.out.cell (p := ⟨A2, o2 + i * 3, none⟩) hl2).trans Y0.out; have cr21 : w_129.cell? ⟨A2, o2 + i * 3 + 1, none⟩ = some (.slice t.A t.n t.c) := (HB_132.out.cell (p := ⟨A2, o2 + i * 3 + 1, none⟩) hl2).trans Y1.out; have cr22 : w_129.cell? ⟨A2, o2 + i * 3 + 2, none⟩ = some (.int .i64 (b i).x) := (HB_132.out.cell (p := ⟨A2, o2 + i * 3 + 2, none⟩) hl2).trans Y2.out; obtain ⟨⟨_, px0⟩, ⟨_, px1⟩, ⟨_, px2⟩, rx0, rx1, rx2⟩ := Ox_131.out.there hi2; have lx := Ox_131.out.lt; have k_136 : SX1 (w_129) := (hS1 _).2 ⟨(Below.cell (p := ⟨A1, o1 + i * 3, none⟩) HB_132.out hl1).trans X0.out, (Below.cell (p := ⟨A1, o1 + i * 3 + 1, none⟩) HB_132.out hl1).trans X1.out, (Below.cell (p := ⟨A1, o1 + i * 3 + 2, none⟩) HB_132.out hl1).trans X2.out, (Below.cell (p := ⟨A2, o2 + i * 3, none⟩) HB_132.out hl2).trans Y0.out, (Below.cell (p := ⟨A2, o2 + i * 3 + 1, none⟩) HB_132.out hl2).trans Y1.out, (Below.cell (p := ⟨A2, o2 + i * 3 + 2, none⟩) HB_132.out hl2).trans Y2.out⟩)
           | (have _ := tok_105; skip; go_at_call 146; clear tok_105; (with_reducible refine (dabs_any (w_119) t (b i) RT_123.out nb0).mono ?_); rintro e w_138 ⟨⟨m, rfl, hm⟩, hb⟩; clear cr10 cr11 cr12 cr20 cr21 cr22 px0 px1 px2 rx0 rx1 rx2 lx k_125 k_126; have K := Dk.below hb; have Ox_139 := Lib.hid (show OD _ (w.heap.size) n (fun j => if j < i then (fun j => mor (a j) (b j) bits) j else D.zero) from Ox_120.out.below hb); have HB_140 := Lib.hid (below_tr HB_121.out hb); clear hb; have RQ_141 := Lib.hid (RQ_122.out.dk K); have RT_142 := Lib.hid (RT_123.out.dk K); have SS_143 := Lib.hid (SS_124.out.dk K); clear K Ox_120 HB_121 RQ_122 RT_123 SS_124; have RM_144 := Lib.hid hm; clear hm; have cr10 : w_138.cell? ⟨A1, o1 + i * 3, none⟩ = some (.bool q.b) := (HB_140.out.cell (p := ⟨A1, o1 + i * 3, none⟩) hl1).trans X0.out; have cr11 : w_138.cell? ⟨A1, o1 + i * 3 + 1, none⟩ = some (.slice q.A q.n q.c) := (HB_140.out.cell (p := ⟨A1, o1 + i * 3 + 1, none⟩) hl1).trans X1.out; have cr12 : w_138.cell? ⟨A1, o1 + i * 3 + 2, none⟩ = some (.int .i64 (a i).x) := (HB_140.out.cell (p := ⟨A1, o1 + i * 3 + 2, none⟩) hl1).trans X2.out; have cr20 : w_138.cell? ⟨A2, o2 + i * 3, none⟩ = some (.bool t.b) := (HB_140.out.cell (p := ⟨A2, o2 + i * 3, none⟩) hl2).trans Y0.out; have cr21 : w_138.cell? ⟨A2, o2 + i * 3 + 1, none⟩ = some (.slice t.A t.n t.c) := (HB_140.out.cell (p := ⟨A2, o2 + i * 3 + 1, none⟩) hl2).trans Y1.out; have cr22 : w_138.cell? ⟨A2, o2 + i * 3 + 2, none⟩ = some (.int .i64 (b i).x) := (HB_140.out.cell (p := ⟨A2, o2 + i * 3 + 2, none⟩) hl2).trans Y2.out; obtain ⟨⟨_, px0⟩, ⟨_, px1⟩, ⟨_, px2⟩, rx0, rx1, rx2⟩ := Ox_139.out.there hi2; have lx := Ox_139.out.lt; have k_145 : SX1 (w_138) := (hS1 _).2 ⟨(Below.cell (p := ⟨A1, o1 + i * 3, none⟩) HB_140.out hl1).trans X0.out, (Below.cell (p := ⟨A1, o1 + i * 3 + 1, none⟩) HB_140.out hl1).trans X1.out, (Below.cell (p := ⟨A1, o1 + i * 3 + 2, none⟩) HB_140.out hl1).trans X2.out, (Below.cell (p := ⟨A2, o2 + i * 3, none⟩) HB_140.out hl2).trans Y0.out, (Below.cell (p := ⟨A2, o2 + i * 3 + 1, none⟩) HB_140.out hl2).trans Y1.out, (Below.cell (p := ⟨A2, o2 + i * 3 + 2, none⟩) HB_140.out hl2).trans Y2.out⟩; have k_146 : SX1 (w_138.alloc (.cells #[.bool false, .slice none 0 0, .int .i64 0, .bool false, .slice none 0 0, .int .i64 0] 62)) := (hS1 _).2 ⟨(Below.cell (p := ⟨A1, o1 + i * 3, none⟩) (below_al HB_140.out _) hl1).trans X0.out, (Below.cell (p := ⟨A1, o1 + i * 3 + 1, none⟩) (below_al HB_140.out _) hl1).trans X1.out, (Below.cell (p := ⟨A1, o1 + i * 3 + 2, none⟩) (below_al HB_140.out _) hl1).trans X2.out, (Below.cell (p := ⟨A2, o2 + i * 3, none⟩) (below_al HB_140.out _) hl2).trans Y0.out, (Below.cell (p := ⟨A2, o2 + i * 3 + 1, none⟩) (below_al HB_140.out _) hl2).trans Y1.out, (Below.cell (p := ⟨A2, o2 + i * 3 + 2, none⟩) (below_al HB_140.out _) hl2).trans Y2.out⟩)
           | (have _ := tok_112; have n_148 := Ox_120.out.lt; skip; go_at_call 146; clear tok_112; (with_reducible refine (dabs_any (w_119.alloc (.cells #[.bool false, .slice none 0 0, .int .i64 0, .bool false, .slice none 0 0, .int .i64 0] 62)) t (b i) (RT_123.out.dk ((Dk.refl _).alloc _)) nb0).mono ?_); rintro e w_149 ⟨⟨m, rfl, hm⟩, hb⟩; clear cr10 cr11 cr12 cr20 cr21 cr22 px0 px1 px2 rx0 rx1 rx2 lx k_125 k_126; have K := Dk.trans ((Dk.refl _).alloc _) (.below hb); have Bs_150 := Lib.hid (show Bk _ _ _ #[.bool false, .slice none 0 0, .int .i64 0, .bool false, .slice none 0 0, .int .i64 0] from (Bk.new _ 62 #[.bool false, .slice none 0 0, .int .i64 0, .bool false, .slice none 0 0, .int .i64 0]).below hb); have Ox_151 := Lib.hid (show OD _ (w.heap.size) n (fun j => if j < i then (fun j => mor (a j) (b j) bits) j else D.zero) from (Ox_120.out.al _).below hb); have HB_152 := Lib.hid (below_tr (below_al HB_121.out _) hb); clear hb; have RQ_153 := Lib.hid (RQ_122.out.dk K); have RT_154 := Lib.hid (RT_123.out.dk K); have SS_155 := Lib.hid (SS_124.out.dk K); clear K Ox_120 HB_121 RQ_122 RT_123 SS_124; have RM_156 := Lib.hid hm; clear hm; have ls := Bs_150.out.lt; obtain ⟨cs0, cs1, cs2, cs3, cs4, cs5⟩ := Bs_150.out.cells6; have fs0 := Bs_150.out.free 0; have fs1 := Bs_150.out.free 1; have fs2 := Bs_150.out.free 2; have fs3 := Bs_150.out.free 3; have fs4 := Bs_150.out.free 4; have fs5 := Bs_150.out.free 5; have cr10 : w_149.cell? ⟨A1, o1 + i * 3, none⟩ = some (.bool q.b) := (HB_152.out.cell (p := ⟨A1, o1 + i * 3, none⟩) hl1).trans X0.out; have cr11 : w_149.cell? ⟨A1, o1 + i * 3 + 1, none⟩ = some (.slice q.A q.n q.c) := (HB_152.out.cell (p := ⟨A1, o1 + i * 3 + 1, none⟩) hl1).trans X1.out; have cr12 : w_149.cell? ⟨A1, o1 + i * 3 + 2, none⟩ = some (.int .i64 (a i).x) := (HB_152.out.cell (p := ⟨A1, o1 + i * 3 + 2, none⟩) hl1).trans X2.out; have cr20 : w_149.cell? ⟨A2, o2 + i * 3, none⟩ = some (.bool t.b) := (HB_152.out.cell (p := ⟨A2, o2 + i * 3, none⟩) hl2).trans Y0.out; have cr21 : w_149.cell? ⟨A2, o2 + i * 3 + 1, none⟩ = some (.slice t.A t.n t.c) := (HB_152.out.cell (p := ⟨A2, o2 + i * 3 + 1, none⟩) hl2).trans Y1.out; have cr22 : w_149.cell? ⟨A2, o2 + i * 3 + 2, none⟩ = some (.int .i64 (b i).x) := (HB_152.out.cell (p := ⟨A2, o2 + i * 3 + 2, none⟩) hl2).trans Y2.out; obtain ⟨⟨_, px0⟩, ⟨_, px1⟩, ⟨_, px2⟩, rx0, rx1, rx2⟩ := Ox_151.out.there hi2; have lx := Ox_151.out.lt; have k_157 : SX1 (w_149) := (hS1 _).2 ⟨(Below.cell (p := ⟨A1, o1 + i * 3, none⟩) HB_152.out hl1).trans X0.out, (Below.cell (p := ⟨A1, o1 + i * 3 + 1, none⟩) HB_152.out hl1).trans X1.out, (Below.cell (p := ⟨A1, o1 + i * 3 + 2, none⟩) HB_152.out hl1).trans X2.out, (Below.cell (p := ⟨A2, o2 + i * 3, none⟩) HB_152.out hl2).trans Y0.out, (Below.cell (p := ⟨A2, o2 + i * 3 + 1, none⟩) HB_152.out hl2).trans Y1.out, (Below.cell (p := ⟨A2, o2 + i * 3 + 2, none⟩) HB_152.out hl2).trans Y2.out⟩)
           | (have _ := tok_109; skip; go_at_call 146; clear tok_109; (with_reducible refine (dabs_any (w_129) t (b i) RT_134.out nb0).mono ?_); rintro e w_159 ⟨⟨m, rfl, hm⟩, hb⟩; clear ls cs0 cs1 cs2 cs3 cs4 cs5 fs0 fs1 fs2 fs3 fs4 fs5 cr10 cr11 cr12 cr20 cr21 cr22 px0 px1 px2 rx0 rx1 rx2 lx k_136; have K := Dk.below hb; have Bs_160 := Lib.hid (show Bk _ _ _ #[.bool false, .slice none 0 0, .int .i64 0, .bool false, .slice none 0 0, .int .i64 0] from Bs_130.out.below hb); have Ox_161 := Lib.hid (show OD _ (w.heap.size) n (fun j => if j < i then (fun j => mor (a j) (b j) bits) j else D.zero) from Ox_131.out.below hb); have HB_162 := Lib.hid (below_tr HB_132.out hb); clear hb; have RQ_163 := Lib.hid (RQ_133.out.dk K); have RT_164 := Lib.hid (RT_134.out.dk K); have SS_165 := Lib.hid (SS_135.out.dk K); clear K Bs_130 Ox_131 HB_132 RQ_133 RT_134 SS_135; have RM_166 := Lib.hid hm; clear hm; have ls := Bs_160.out.lt; obtain ⟨cs0, cs1, cs2, cs3, cs4, cs5⟩ := Bs_160.out.cells6; have fs0 := Bs_160.out.free 0; have fs1 := Bs_160.out.free 1; have fs2 := Bs_160.out.free 2; have fs3 := Bs_160.out.free 3; have fs4 := Bs_160.out.free 4; have fs5 := Bs_160.out.free 5; have cr10 : w_159.cell? ⟨A1, o1 + i * 3, none⟩ = some (.bool q.b) := (HB_162.out.cell (p := ⟨A1, o1 + i * 3, none⟩) hl1).trans X0.out; have cr11 : w_159.cell? ⟨A1, o1 + i * 3 + 1, none⟩ = some (.slice q.A q.n q.c) := (HB_162.out.cell (p := ⟨A1, o1 + i * 3 + 1, none⟩) hl1).trans X1.out; have cr12 : w_159.cell? ⟨A1, o1 + i * 3 + 2, none⟩ = some (.int .i64 (a i).x) := (HB_162.out.cell (p := ⟨A1, o1 + i * 3 + 2, none⟩) hl1).trans X2.out; have cr20 : w_159.cell? ⟨A2, o2 + i * 3, none⟩ = some (.bool t.b) := (HB_162.out.cell (p := ⟨A2, o2 + i * 3, none⟩) hl2).trans Y0.out; have cr21 : w_159.cell? ⟨A2, o2 + i * 3 + 1, none⟩ = some (.slice t.A t.n t.c) := (HB_162.out.cell (p := ⟨A2, o2 + i * 3 + 1, none⟩) hl2).trans Y1.out; have cr22 : w_159.cell? ⟨A2, o2 + i * 3 + 2, none⟩ = some (.int .i64 (b i).x) := (HB_162.out.cell (p := ⟨A2, o2 + i * 3 + 2, none⟩) hl2).trans Y2.out; obtain ⟨⟨_, px0⟩, ⟨_, px1⟩, ⟨_, px2⟩, rx0, rx1, rx2⟩ := Ox_161.out.there hi2; have lx := Ox_161.out.lt; have k_167 : SX1 (w_159) := (hS1 _).2 ⟨(Below.cell (p := ⟨A1, o1 + i * 3, none⟩) HB_162.out hl1).trans X0.out, (Below.cell (p := ⟨A1, o1 + i * 3 + 1, none⟩) HB_162.out hl1).trans X1.out, (Below.cell (p := ⟨A1, o1 + i * 3 + 2, none⟩) HB_162.out hl1).trans X2.out, (Below.cell (p := ⟨A2, o2 + i * 3, none⟩) HB_162.out hl2).trans Y0.out, (Below.cell (p := ⟨A2, o2 + i * 3 + 1, none⟩) HB_162.out hl2).trans Y1.out, (Below.cell (p := ⟨A2, o2 + i * 3 + 2, none⟩) HB_162.out hl2).trans Y2.out⟩)
           | (have _ := tok_106; skip; go_at_call 59; clear tok_106; (with_reducible refine (spoint_any (w_138) m (b i).abs RM_144.out).mono ?_); rintro e w_169 ⟨⟨x, rfl, hx⟩, hb⟩; clear cr10 cr11 cr12 cr20 cr21 cr22 px0 px1 px2 rx0 rx1 rx2 lx k_145 k_146; have K := Dk.below hb; have Ox_170 := Lib.hid (show OD _ (w.heap.size) n (fun j => if j < i then (fun j => mor (a j) (b j) bits) j else D.zero) from Ox_139.out.below hb); have HB_171 := Lib.hid (below_tr HB_140.out hb); clear hb; have RQ_172 := Lib.hid (RQ_141.out.dk K); have RT_173 := Lib.hid (RT_142.out.dk K); have SS_174 := Lib.hid (SS_143.out.dk K); have RM_175 := Lib.hid (RM_144.out.dk K); clear K Ox_139 HB_140 RQ_141 RT_142 SS_143 RM_144; have SX_176 := Lib.hid hx; clear hx; have cr10 : w_169.cell? ⟨A1, o1 + i * 3, none⟩ = some (.bool q.b) := (HB_171.out.cell (p := ⟨A1, o1 + i * 3, none⟩) hl1).trans X0.out; have cr11 : w_169.cell? ⟨A1, o1 + i * 3 + 1, none⟩ = some (.slice q.A q.n q.c) := (HB_171.out.cell (p := ⟨A1, o1 + i * 3 + 1, none⟩) hl1).trans X1.out; have cr12 : w_169.cell? ⟨A1, o1 + i * 3 + 2, none⟩ = some (.int .i64 (a i).x) := (HB_171.out.cell (p := ⟨A1, o1 + i * 3 + 2, none⟩) hl1).trans X2.out; have cr20 : w_169.cell? ⟨A2, o2 + i * 3, none⟩ = some (.bool t.b) := (HB_171.out.cell (p := ⟨A2, o2 + i * 3, none⟩) hl2).trans Y0.out; have cr21 : w_169.cell? ⟨A2, o2 + i * 3 + 1, none⟩ = some (.slice t.A t.n t.c) := (HB_171.out.cell (p := ⟨A2, o2 + i * 3 + 1, none⟩) hl2).trans Y1.out; have cr22 : w_169.cell? ⟨A2, o2 + i * 3 + 2, none⟩ = some (.int .i64 (b i).x) := (HB_171.out.cell (p := ⟨A2, o2 + i * 3 + 2, none⟩) hl2).trans Y2.out; obtain ⟨⟨_, px0⟩, ⟨_, px1⟩, ⟨_, px2⟩, rx0, rx1, rx2⟩ := Ox_170.out.there hi2; have lx := Ox_170.out.lt; have k_177 : SX1 (w_169) := (hS1 _).2 ⟨(Below.cell (p := ⟨A1, o1 + i * 3, none⟩) HB_171.out hl1).trans X0.out, (Below.cell (p := ⟨A1, o1 + i * 3 + 1, none⟩) HB_171.out hl1).trans X1.out, (Below.cell (p := ⟨A1, o1 + i * 3 + 2, none⟩) HB_171.out hl1).trans X2.out, (Below.cell (p := ⟨A2, o2 + i * 3, none⟩) HB_171.out hl2).trans Y0.out, (Below.cell (p := ⟨A2, o2 + i * 3 + 1, none⟩) HB_171.out hl2).trans Y1.out, (Below.cell (p := ⟨A2, o2 + i * 3 + 2, none⟩) HB_171.out hl2).trans Y2.out⟩; have k_178 : SX1 (w_169.alloc (.cells #[.bool false, .slice none 0 0, .int .i64 0, .bool false, .slice none 0 0, .int .i64 0] 62)) := (hS1 _).2 ⟨(Below.cell (p := ⟨A1, o1 + i * 3, none⟩) (below_al HB_171.out _) hl1).trans X0.out, (Below.cell (p := ⟨A1, o1 + i * 3 + 1, none⟩) (below_al HB_171.out _) hl1).trans X1.out, (Below.cell (p := ⟨A1, o1 + i * 3 + 2, none⟩) (below_al HB_171.out _) hl1).trans X2.out, (Below.cell (p := ⟨A2, o2 + i * 3, none⟩) (below_al HB_171.out _) hl2).trans Y0.out, (Below.cell (p := ⟨A2, o2 + i * 3 + 1, none⟩) (below_al HB_171.out _) hl2).trans Y1.out, (Below.cell (p := ⟨A2, o2 + i * 3 + 2, none⟩) (below_al HB_171.out _) hl2).trans Y2.out⟩)
           | (have _ := tok_115; have n_180 := Ox_139.out.lt; skip; go_at_call 59; clear tok_115; (with_reducible refine (spoint_any (w_138.alloc (.cells #[.bool false, .slice none 0 0, .int .i64 0, .bool false, .slice none 0 0, .int .i64 0] 62)) m (b i).abs (RM_144.out.dk ((Dk.refl _).alloc _))).mono ?_); rintro e w_181 ⟨⟨x, rfl, hx⟩, hb⟩; clear cr10 cr11 cr12 cr20 cr21 cr22 px0 px1 px2 rx0 rx1 rx2 lx k_145 k_146; have K := Dk.trans ((Dk.refl _).alloc _) (.below hb); have Bs_182 := Lib.hid (show Bk _ _ _ #[.bool false, .slice none 0 0, .int .i64 0, .bool false, .slice none 0 0, .int .i64 0] from (Bk.new _ 62 #[.bool false, .slice none 0 0, .int .i64 0, .bool false, .slice none 0 0, .int .i64 0]).below hb); have Ox_183 := Lib.hid (show OD _ (w.heap.size) n (fun j => if j < i then (fun j => mor (a j) (b j) bits) j else D.zero) from (Ox_139.out.al _).below hb); have HB_184 := Lib.hid (below_tr (below_al HB_140.out _) hb); clear hb; have RQ_185 := Lib.hid (RQ_141.out.dk K); have RT_186 := Lib.hid (RT_142.out.dk K); have SS_187 := Lib.hid (SS_143.out.dk K); have RM_188 := Lib.hid (RM_144.out.dk K); clear K Ox_139 HB_140 RQ_141 RT_142 SS_143 RM_144; have SX_189 := Lib.hid hx; clear hx; have ls := Bs_182.out.lt; obtain ⟨cs0, cs1, cs2, cs3, cs4, cs5⟩ := Bs_182.out.cells6; have fs0 := Bs_182.out.free 0; have fs1 := Bs_182.out.free 1; have fs2 := Bs_182.out.free 2; have fs3 := Bs_182.out.free 3; have fs4 := Bs_182.out.free 4; have fs5 := Bs_182.out.free 5; have cr10 : w_181.cell? ⟨A1, o1 + i * 3, none⟩ = some (.bool q.b) := (HB_184.out.cell (p := ⟨A1, o1 + i * 3, none⟩) hl1).trans X0.out; have cr11 : w_181.cell? ⟨A1, o1 + i * 3 + 1, none⟩ = some (.slice q.A q.n q.c) := (HB_184.out.cell (p := ⟨A1, o1 + i * 3 + 1, none⟩) hl1).trans X1.out; have cr12 : w_181.cell? ⟨A1, o1 + i * 3 + 2, none⟩ = some (.int .i64 (a i).x) := (HB_184.out.cell (p := ⟨A1, o1 + i * 3 + 2, none⟩) hl1).trans X2.out; have cr20 : w_181.cell? ⟨A2, o2 + i * 3, none⟩ = some (.bool t.b) := (HB_184.out.cell (p := ⟨A2, o2 + i * 3, none⟩) hl2).trans Y0.out; have cr21 : w_181.cell? ⟨A2, o2 + i * 3 + 1, none⟩ = some (.slice t.A t.n t.c) := (HB_184.out.cell (p := ⟨A2, o2 + i * 3 + 1, none⟩) hl2).trans Y1.out; have cr22 : w_181.cell? ⟨A2, o2 + i * 3 + 2, none⟩ = some (.int .i64 (b i).x) := (HB_184.out.cell (p := ⟨A2, o2 + i * 3 + 2, none⟩) hl2).trans Y2.out; obtain ⟨⟨_, px0⟩, ⟨_, px1⟩, ⟨_, px2⟩, rx0, rx1, rx2⟩ := Ox_183.out.there hi2; have lx := Ox_183.out.lt; have k_190 : SX1 (w_181) := (hS1 _).2 ⟨(Below.cell (p := ⟨A1, o1 + i * 3, none⟩) HB_184.out hl1).trans X0.out, (Below.cell (p := ⟨A1, o1 + i * 3 + 1, none⟩) HB_184.out hl1).trans X1.out, (Below.cell (p := ⟨A1, o1 + i * 3 + 2, none⟩) HB_184.out hl1).trans X2.out, (Below.cell (p := ⟨A2, o2 + i * 3, none⟩) HB_184.out hl2).trans Y0.out, (Below.cell (p := ⟨A2, o2 + i * 3 + 1, none⟩) HB_184.out hl2).trans Y1.out, (Below.cell (p := ⟨A2, o2 + i * 3 + 2, none⟩) HB_184.out hl2).trans Y2.out⟩)
           | (have _ := tok_110; skip; go_at_call 59; clear tok_110; (with_reducible refine (spoint_any (w_159) m (b i).abs RM_166.out).mono ?_); rintro e w_192 ⟨⟨x, rfl, hx⟩, hb⟩; clear ls cs0 cs1 cs2 cs3 cs4 cs5 fs0 fs1 fs2 fs3 fs4 fs5 cr10 cr11 cr12 cr20 cr21 cr22 px0 px1 px2 rx0 rx1 rx2 lx k_167; have K := Dk.below hb; have Bs_193 := Lib.hid (show Bk _ _ _ #[.bool false, .slice none 0 0, .int .i64 0, .bool false, .slice none 0 0, .int .i64 0] from Bs_160.out.below hb); have Ox_194 := Lib.hid (show OD _ (w.heap.size) n (fun j => if j < i then (fun j => mor (a j) (b j) bits) j else D.zero) from Ox_161.out.below hb); have HB_195 := Lib.hid (below_tr HB_162.out hb); clear hb; have RQ_196 := Lib.hid (RQ_163.out.dk K); have RT_197 := Lib.hid (RT_164.out.dk K); have SS_198 := Lib.hid (SS_165.out.dk K); have RM_199 := Lib.hid (RM_166.out.dk K); clear K Bs_160 Ox_161 HB_162 RQ_163 RT_164 SS_165 RM_166; have SX_200 := Lib.hid hx; clear hx; have ls := Bs_193.out.lt; obtain ⟨cs0, cs1, cs2, cs3, cs4, cs5⟩ := Bs_193.out.cells6; have fs0 := Bs_193.out.free 0; have fs1 := Bs_193.out.free 1; have fs2 := Bs_193.out.free 2; have fs3 := Bs_193.out.free 3; have fs4 := Bs_193.out.free 4; have fs5 := Bs_193.out.free 5; have cr10 : w_192.cell? ⟨A1, o1 + i * 3, none⟩ = some (.bool q.b) := (HB_195.out.cell (p := ⟨A1, o1 + i * 3, none⟩) hl1).trans X0.out; have cr11 : w_192.cell? ⟨A1, o1 + i * 3 + 1, none⟩ = some (.slice q.A q.n q.c) := (HB_195.out.cell (p := ⟨A1, o1 + i * 3 + 1, none⟩) hl1).trans X1.out; have cr12 : w_192.cell? ⟨A1, o1 + i * 3 + 2, none⟩ = some (.int .i64 (a i).x) := (HB_195.out.cell (p := ⟨A1, o1 + i * 3 + 2, none⟩) hl1).trans X2.out; have cr20 : w_192.cell? ⟨A2, o2 + i * 3, none⟩ = some (.bool t.b) := (HB_195.out.cell (p := ⟨A2, o2 + i * 3, none⟩) hl2).trans Y0.out; have cr21 : w_192.cell? ⟨A2, o2 + i * 3 + 1, none⟩ = some (.slice t.A t.n t.c) := (HB_195.out.cell (p := ⟨A2, o2 + i * 3 + 1, none⟩) hl2).trans Y1.out; have cr22 : w_192.cell? ⟨A2, o2 + i * 3 + 2, none⟩ = some (.int .i64 (b i).x) := (HB_195.out.cell (p := ⟨A2, o2 + i * 3 + 2, none⟩) hl2).trans Y2.out; obtain ⟨⟨_, px0⟩, ⟨_, px1⟩, ⟨_, px2⟩, rx0, rx1, rx2⟩ := Ox_194.out.there hi2; have lx := Ox_194.out.lt; have k_201 : SX1 (w_192) := (hS1 _).2 ⟨(Below.cell (p := ⟨A1, o1 + i * 3, none⟩) HB_195.out hl1).trans X0.out, (Below.cell (p := ⟨A1, o1 + i * 3 + 1, none⟩) HB_195.out hl1).trans X1.out, (Below.cell (p := ⟨A1, o1 + i * 3 + 2, none⟩) HB_195.out hl1).trans X2.out, (Below.cell (p := ⟨A2, o2 + i * 3, none⟩) HB_195.out hl2).trans Y0.out, (Below.cell (p := ⟨A2, o2 + i * 3 + 1, none⟩) HB_195.out hl2).trans Y1.out, (Below.cell (p := ⟨A2, o2 + i * 3 + 2, none⟩) HB_195.out hl2).trans Y2.out⟩)
           | (have _ := tok_113; skip; go_at_call 59; clear tok_113; (with_reducible refine (spoint_any (w_149) m (b i).abs RM_156.out).mono ?_); rintro e w_203 ⟨⟨x, rfl, hx⟩, hb⟩; clear ls cs0 cs1 cs2 cs3 cs4 cs5 fs0 fs1 fs2 fs3 fs4 fs5 cr10 cr11 cr12 cr20 cr21 cr22 px0 px1 px2 rx0 rx1 rx2 lx k_157; have K := Dk.below hb; have Bs_204 := Lib.hid (show Bk _ _ _ #[.bool false, .slice none 0 0, .int .i64 0, .bool false, .slice none 0 0, .int .i64 0] from Bs_150.out.below hb); have Ox_205 := Lib.hid (show OD _ (w.heap.size) n (fun j => if j < i then (fun j => mor (a j) (b j) bits) j else D.zero) from Ox_151.out.below hb); have HB_206 := Lib.hid (below_tr HB_152.out hb); clear hb; have RQ_207 := Lib.hid (RQ_153.out.dk K); have RT_208 := Lib.hid (RT_154.out.dk K); have SS_209 := Lib.hid (SS_155.out.dk K); have RM_210 := Lib.hid (RM_156.out.dk K); clear K Bs_150 Ox_151 HB_152 RQ_153 RT_154 SS_155 RM_156; have SX_211 := Lib.hid hx; clear hx; have ls := Bs_204.out.lt; obtain ⟨cs0, cs1, cs2, cs3, cs4, cs5⟩ := Bs_204.out.cells6; have fs0 := Bs_204.out.free 0; have fs1 := Bs_204.out.free 1; have fs2 := Bs_204.out.free 2; have fs3 := Bs_204.out.free 3; have fs4 := Bs_204.out.free 4; have fs5 := Bs_204.out.free 5; have cr10 : w_203.cell? ⟨A1, o1 + i * 3, none⟩ = some (.bool q.b) := (HB_206.out.cell (p := ⟨A1, o1 + i * 3, none⟩) hl1).trans X0.out; have cr11 : w_203.cell? ⟨A1, o1 + i * 3 + 1, none⟩ = some (.slice q.A q.n q.c) := (HB_206.out.cell (p := ⟨A1, o1 + i * 3 + 1, none⟩) hl1).trans X1.out; have cr12 : w_203.cell? ⟨A1, o1 + i * 3 + 2, none⟩ = some (.int .i64 (a i).x) := (HB_206.out.cell (p := ⟨A1, o1 + i * 3 + 2, none⟩) hl1).trans X2.out; have cr20 : w_203.cell? ⟨A2, o2 + i * 3, none⟩ = some (.bool t.b) := (HB_206.out.cell (p := ⟨A2, o2 + i * 3, none⟩) hl2).trans Y0.out; have cr21 : w_203.cell? ⟨A2, o2 + i * 3 + 1, none⟩ = some (.slice t.A t.n t.c) := (HB_206.out.cell (p := ⟨A2, o2 + i * 3 + 1, none⟩) hl2).trans Y1.out; have cr22 : w_203.cell? ⟨A2, o2 + i * 3 + 2, none⟩ = some (.int .i64 (b i).x) := (HB_206.out.cell (p := ⟨A2, o2 + i * 3 + 2, none⟩) hl2).trans Y2.out; obtain ⟨⟨_, px0⟩, ⟨_, px1⟩, ⟨_, px2⟩, rx0, rx1, rx2⟩ := Ox_205.out.there hi2; have lx := Ox_205.out.lt; have k_212 : SX1 (w_203) := (hS1 _).2 ⟨(Below.cell (p := ⟨A1, o1 + i * 3, none⟩) HB_206.out hl1).trans X0.out, (Below.cell (p := ⟨A1, o1 + i * 3 + 1, none⟩) HB_206.out hl1).trans X1.out, (Below.cell (p := ⟨A1, o1 + i * 3 + 2, none⟩) HB_206.out hl1).trans X2.out, (Below.cell (p := ⟨A2, o2 + i * 3, none⟩) HB_206.out hl2).trans Y0.out, (Below.cell (p := ⟨A2, o2 + i * 3 + 1, none⟩) HB_206.out hl2).trans Y1.out, (Below.cell (p := ⟨A2, o2 + i * 3 + 2, none⟩) HB_206.out hl2).trans Y2.out⟩)
           | (have _ := tok_107; skip; go_at_call 38; clear tok_107; (with_reducible refine (sadd_any (w_169) s x (Sp.pt (a i)) (Sp.pt (b i).abs) bits E T SS_174.out SX_176.out La.out Lb.out hET hb2 hb3 (HT.out.below HB_171.out)).mono ?_); rintro e w_214 ⟨⟨p, rfl, hp⟩, hb⟩; clear cr10 cr11 cr12 cr20 cr21 cr22 px0 px1 px2 rx0 rx1 rx2 lx k_177 k_178; have K := Dk.below hb; have Ox_215 := Lib.hid (show OD _ (w.heap.size) n (fun j => if j < i then (fun j => mor (a j) (b j) bits) j else D.zero) from Ox_170.out.below hb); have HB_216 := Lib.hid (below_tr HB_171.out hb); clear hb; have RQ_217 := Lib.hid (RQ_172.out.dk K); have RT_218 := Lib.hid (RT_173.out.dk K); have SS_219 := Lib.hid (SS_174.out.dk K); have RM_220 := Lib.hid (RM_175.out.dk K); have SX_221 := Lib.hid (SX_176.out.dk K); clear K Ox_170 HB_171 RQ_172 RT_173 SS_174 RM_175 SX_176; have SP_222 := Lib.hid hp; clear hp; have cr10 : w_214.cell? ⟨A1, o1 + i * 3, none⟩ = some (.bool q.b) := (HB_216.out.cell (p := ⟨A1, o1 + i * 3, none⟩) hl1).trans X0.out; have cr11 : w_214.cell? ⟨A1, o1 + i * 3 + 1, none⟩ = some (.slice q.A q.n q.c) := (HB_216.out.cell (p := ⟨A1, o1 + i * 3 + 1, none⟩) hl1).trans X1.out; have cr12 : w_214.cell? ⟨A1, o1 + i * 3 + 2, none⟩ = some (.int .i64 (a i).x) := (HB_216.out.cell (p := ⟨A1, o1 + i * 3 + 2, none⟩) hl1).trans X2.out; have cr20 : w_214.cell? ⟨A2, o2 + i * 3, none⟩ = some (.bool t.b) := (HB_216.out.cell (p := ⟨A2, o2 + i * 3, none⟩) hl2).trans Y0.out; have cr21 : w_214.cell? ⟨A2, o2 + i * 3 + 1, none⟩ = some (.slice t.A t.n t.c) := (HB_216.out.cell (p := ⟨A2, o2 + i * 3 + 1, none⟩) hl2).trans Y1.out; have cr22 : w_214.cell? ⟨A2, o2 + i * 3 + 2, none⟩ = some (.int .i64 (b i).x) := (HB_216.out.cell (p := ⟨A2, o2 + i * 3 + 2, none⟩) hl2).trans Y2.out; obtain ⟨⟨_, px0⟩, ⟨_, px1⟩, ⟨_, px2⟩, rx0, rx1, rx2⟩ := Ox_215.out.there hi2; have lx := Ox_215.out.lt; have k_223 : SX1 (w_214) := (hS1 _).2 ⟨(Below.cell (p := ⟨A1, o1 + i * 3, none⟩) HB_216.out hl1).trans X0.out, (Below.cell (p := ⟨A1, o1 + i * 3 + 1, none⟩) HB_216.out hl1).trans X1.out, (Below.cell (p := ⟨A1, o1 + i * 3 + 2, none⟩) HB_216.out hl1).trans X2.out, (Below.cell (p := ⟨A2, o2 + i * 3, none⟩) HB_216.out hl2).trans Y0.out, (Below.cell (p := ⟨A2, o2 + i * 3 + 1, none⟩) HB_216.out hl2).trans Y1.out, (Below.cell (p := ⟨A2, o2 + i * 3 + 2, none⟩) HB_216.out hl2).trans Y2.out⟩; have n_224 := Ox_215.out.lt; have k_225 : SX1 (w_214.alloc (.cells #[.bool false, .slice none 0 0, .int .i64 0, .bool false, .slice none 0 0, .int .i64 0] 62)) := (hS1 _).2 ⟨(Below.cell (p := ⟨A1, o1 + i * 3, none⟩) (below_al HB_216.out _) hl1).trans X0.out, (Below.cell (p := ⟨A1, o1 + i * 3 + 1, none⟩) (below_al HB_216.out _) hl1).trans X1.out, (Below.cell (p := ⟨A1, o1 + i * 3 + 2, none⟩) (below_al HB_216.out _) hl1).trans X2.out, (Below.cell (p := ⟨A2, o2 + i * 3, none⟩) (below_al HB_216.out _) hl2).trans Y0.out, (Below.cell (p := ⟨A2, o2 + i * 3 + 1, none⟩) (below_al HB_216.out _) hl2).trans Y1.out, (Below.cell (p := ⟨A2, o2 + i * 3 + 2, none⟩) (below_al HB_216.out _) hl2).trans Y2.out⟩; have k_226 : SX1 (w_214.alloc (.cells #[.bool p.lo.b, .slice p.lo.A p.lo.n p.lo.c, .int .i64 (Sp.add (Sp.pt (a i)) (Sp.pt (b i).abs) bits).lo.x, .bool p.hi.b, .slice p.hi.A p.hi.n p.hi.c, .int .i64 (Sp.add (Sp.pt (a i)) (Sp.pt (b i).abs) bits).hi.x] 62)) := (hS1 _).2 ⟨(Below.cell (p := ⟨A1, o1 + i * 3, none⟩) (below_al HB_216.out _) hl1).trans X0.out, (Below.cell (p := ⟨A1, o1 + i * 3 + 1, none⟩) (below_al HB_216.out _) hl1).trans X1.out, (Below.cell (p := ⟨A1, o1 + i * 3 + 2, none⟩) (below_al HB_216.out _) hl1).trans X2.out, (Below.cell (p := ⟨A2, o2 + i * 3, none⟩) (below_al HB_216.out _) hl2).trans Y0.out, (Below.cell (p := ⟨A2, o2 + i * 3 + 1, none⟩) (below_al HB_216.out _) hl2).trans Y1.out, (Below.cell (p := ⟨A2, o2 + i * 3 + 2, none⟩) (below_al HB_216.out _) hl2).trans Y2.out⟩)
           | (have _ := tok_117; have n_228 := Ox_170.out.lt; skip; go_at_call 38; clear tok_117; (with_reducible refine (sadd_any (w_169.alloc (.cells #[.bool false, .slice none 0 0, .int .i64 0, .bool false, .slice none 0 0, .int .i64 0] 62)) s x (Sp.pt (a i)) (Sp.pt (b i).abs) bits E T (SS_174.out.dk ((Dk.refl _).alloc _)) (SX_176.out.dk ((Dk.refl _).alloc _)) La.out Lb.out hET hb2 hb3 (HT.out.below (below_al HB_171.out _))).mono ?_); rintro e w_229 ⟨⟨p, rfl, hp⟩, hb⟩; clear cr10 cr11 cr12 cr20 cr21 cr22 px0 px1 px2 rx0 rx1 rx2 lx k_177 k_178; have K := Dk.trans ((Dk.refl _).alloc _) (.below hb); have Bs_230 := Lib.hid (show Bk _ _ _ #[.bool false, .slice none 0 0, .int .i64 0, .bool false, .slice none 0 0, .int .i64 0] from (Bk.new _ 62 #[.bool false, .slice none 0 0, .int .i64 0, .bool false, .slice none 0 0, .int .i64 0]).below hb); have Ox_231 := Lib.hid (show OD _ (w.heap.size) n (fun j => if j < i then (fun j => mor (a j) (b j) bits) j else D.zero) from (Ox_170.out.al _).below hb); have HB_232 := Lib.hid (below_tr (below_al HB_171.out _) hb); clear hb; have RQ_233 := Lib.hid (RQ_172.out.dk K); have RT_234 := Lib.hid (RT_173.out.dk K); have SS_235 := Lib.hid (SS_174.out.dk K); have RM_236 := Lib.hid (RM_175.out.dk K); have SX_237 := Lib.hid (SX_176.out.dk K); clear K Ox_170 HB_171 RQ_172 RT_173 SS_174 RM_175 SX_176; have SP_238 := Lib.hid hp; clear hp; have ls := Bs_230.out.lt; obtain ⟨cs0, cs1, cs2, cs3, cs4, cs5⟩ := Bs_230.out.cells6; have fs0 := Bs_230.out.free 0; have fs1 := Bs_230.out.free 1; have fs2 := Bs_230.out.free 2; have fs3 := Bs_230.out.free 3; have fs4 := Bs_230.out.free 4; have fs5 := Bs_230.out.free 5; have cr10 : w_229.cell? ⟨A1, o1 + i * 3, none⟩ = some (.bool q.b) := (HB_232.out.cell (p := ⟨A1, o1 + i * 3, none⟩) hl1).trans X0.out; have cr11 : w_229.cell? ⟨A1, o1 + i * 3 + 1, none⟩ = some (.slice q.A q.n q.c) := (HB_232.out.cell (p := ⟨A1, o1 + i * 3 + 1, none⟩) hl1).trans X1.out; have cr12 : w_229.cell? ⟨A1, o1 + i * 3 + 2, none⟩ = some (.int .i64 (a i).x) := (HB_232.out.cell (p := ⟨A1, o1 + i * 3 + 2, none⟩) hl1).trans X2.out; have cr20 : w_229.cell? ⟨A2, o2 + i * 3, none⟩ = some (.bool t.b) := (HB_232.out.cell (p := ⟨A2, o2 + i * 3, none⟩) hl2).trans Y0.out; have cr21 : w_229.cell? ⟨A2, o2 + i * 3 + 1, none⟩ = some (.slice t.A t.n t.c) := (HB_232.out.cell (p := ⟨A2, o2 + i * 3 + 1, none⟩) hl2).trans Y1.out; have cr22 : w_229.cell? ⟨A2, o2 + i * 3 + 2, none⟩ = some (.int .i64 (b i).x) := (HB_232.out.cell (p := ⟨A2, o2 + i * 3 + 2, none⟩) hl2).trans Y2.out; obtain ⟨⟨_, px0⟩, ⟨_, px1⟩, ⟨_, px2⟩, rx0, rx1, rx2⟩ := Ox_231.out.there hi2; have lx := Ox_231.out.lt; have k_239 : SX1 (w_229) := (hS1 _).2 ⟨(Below.cell (p := ⟨A1, o1 + i * 3, none⟩) HB_232.out hl1).trans X0.out, (Below.cell (p := ⟨A1, o1 + i * 3 + 1, none⟩) HB_232.out hl1).trans X1.out, (Below.cell (p := ⟨A1, o1 + i * 3 + 2, none⟩) HB_232.out hl1).trans X2.out, (Below.cell (p := ⟨A2, o2 + i * 3, none⟩) HB_232.out hl2).trans Y0.out, (Below.cell (p := ⟨A2, o2 + i * 3 + 1, none⟩) HB_232.out hl2).trans Y1.out, (Below.cell (p := ⟨A2, o2 + i * 3 + 2, none⟩) HB_232.out hl2).trans Y2.out⟩; have y0 := HB_232.out.size; have k_240 : SX1 ((((((w_229.setCell ⟨w_169.heap.size, 0, none⟩ (.bool p.lo.b)).setCell ⟨w_169.heap.size, 1, none⟩ (.slice p.lo.A p.lo.n p.lo.c)).setCell ⟨w_169.heap.size, 2, none⟩ (.int .i64 (Sp.add (Sp.pt (a i)) (Sp.pt (b i).abs) bits).lo.x)).setCell ⟨w_169.heap.size, 3, none⟩ (.bool p.hi.b)).setCell ⟨w_169.heap.size, 4, none⟩ (.slice p.hi.A p.hi.n p.hi.c)).setCell ⟨w_169.heap.size, 5, none⟩ (.int .i64 (Sp.add (Sp.pt (a i)) (Sp.pt (b i).abs) bits).hi.x)) := (hS1 _).2 ⟨(Below.cell (p := ⟨A1, o1 + i * 3, none⟩) (below_st (below_st (below_st (below_st (below_st (below_st HB_232.out 0 (by omega) (.bool p.lo.b)) 1 (by omega) (.slice p.lo.A p.lo.n p.lo.c)) 2 (by omega) (.int .i64 (Sp.add (Sp.pt (a i)) (Sp.pt (b i).abs) bits).lo.x)) 3 (by omega) (.bool p.hi.b)) 4 (by omega) (.slice p.hi.A p.hi.n p.hi.c)) 5 (by omega) (.int .i64 (Sp.add (Sp.pt (a i)) (Sp.pt (b i).abs) bits).hi.x)) hl1).trans X0.out, (Below.cell (p := ⟨A1, o1 + i * 3 + 1, none⟩) (below_st (below_st (below_st (below_st (below_st (below_st HB_232.out 0 (by omega) (.bool p.lo.b)) 1 (by omega) (.slice p.lo.A p.lo.n p.lo.c)) 2 (by omega) (.int .i64 (Sp.add (Sp.pt (a i)) (Sp.pt (b i).abs) bits).lo.x)) 3 (by omega) (.bool p.hi.b)) 4 (by omega) (.slice p.hi.A p.hi.n p.hi.c)) 5 (by omega) (.int .i64 (Sp.add (Sp.pt (a i)) (Sp.pt (b i).abs) bits).hi.x)) hl1).trans X1.out, (Below.cell (p := ⟨A1, o1 + i * 3 + 2, none⟩) (below_st (below_st (below_st (below_st (below_st (below_st HB_232.out 0 (by omega) (.bool p.lo.b)) 1 (by omega) (.slice p.lo.A p.lo.n p.lo.c)) 2 (by omega) (.int .i64 (Sp.add (Sp.pt (a i)) (Sp.pt (b i).abs) bits).lo.x)) 3 (by omega) (.bool p.hi.b)) 4 (by omega) (.slice p.hi.A p.hi.n p.hi.c)) 5 (by omega) (.int .i64 (Sp.add (Sp.pt (a i)) (Sp.pt (b i).abs) bits).hi.x)) hl1).trans X2.out, (Below.cell (p := ⟨A2, o2 + i * 3, none⟩) (below_st (below_st (below_st (below_st (below_st (below_st HB_232.out 0 (by omega) (.bool p.lo.b)) 1 (by omega) (.slice p.lo.A p.lo.n p.lo.c)) 2 (by omega) (.int .i64 (Sp.add (Sp.pt (a i)) (Sp.pt (b i).abs) bits).lo.x)) 3 (by omega) (.bool p.hi.b)) 4 (by omega) (.slice p.hi.A p.hi.n p.hi.c)) 5 (by omega) (.int .i64 (Sp.add (Sp.pt (a i)) (Sp.pt (b i).abs) bits).hi.x)) hl2).trans Y0.out, (Below.cell (p := ⟨A2, o2 + i * 3 + 1, none⟩) (below_st (below_st (below_st (below_st (below_st (below_st HB_232.out 0 (by omega) (.bool p.lo.b)) 1 (by omega) (.slice p.lo.A p.lo.n p.lo.c)) 2 (by omega) (.int .i64 (Sp.add (Sp.pt (a i)) (Sp.pt (b i).abs) bits).lo.x)) 3 (by omega) (.bool p.hi.b)) 4 (by omega) (.slice p.hi.A p.hi.n p.hi.c)) 5 (by omega) (.int .i64 (Sp.add (Sp.pt (a i)) (Sp.pt (b i).abs) bits).hi.x)) hl2).trans Y1.out, (Below.cell (p := ⟨A2, o2 + i * 3 + 2, none⟩) (below_st (below_st (below_st (below_st (below_st (below_st HB_232.out 0 (by omega) (.bool p.lo.b)) 1 (by omega) (.slice p.lo.A p.lo.n p.lo.c)) 2 (by omega) (.int .i64 (Sp.add (Sp.pt (a i)) (Sp.pt (b i).abs) bits).lo.x)) 3 (by omega) (.bool p.hi.b)) 4 (by omega) (.slice p.hi.A p.hi.n p.hi.c)) 5 (by omega) (.int .i64 (Sp.add (Sp.pt (a i)) (Sp.pt (b i).abs) bits).hi.x)) hl2).trans Y2.out⟩; clear y0)
           | (have _ := tok_111; skip; go_at_call 38; clear tok_111; (with_reducible refine (sadd_any (w_192) s x (Sp.pt (a i)) (Sp.pt (b i).abs) bits E T SS_198.out SX_200.out La.out Lb.out hET hb2 hb3 (HT.out.below HB_195.out)).mono ?_); rintro e w_242 ⟨⟨p, rfl, hp⟩, hb⟩; clear ls cs0 cs1 cs2 cs3 cs4 cs5 fs0 fs1 fs2 fs3 fs4 fs5 cr10 cr11 cr12 cr20 cr21 cr22 px0 px1 px2 rx0 rx1 rx2 lx k_201; have K := Dk.below hb; have Bs_243 := Lib.hid (show Bk _ _ _ #[.bool false, .slice none 0 0, .int .i64 0, .bool false, .slice none 0 0, .int .i64 0] from Bs_193.out.below hb); have Ox_244 := Lib.hid (show OD _ (w.heap.size) n (fun j => if j < i then (fun j => mor (a j) (b j) bits) j else D.zero) from Ox_194.out.below hb); have HB_245 := Lib.hid (below_tr HB_195.out hb); clear hb; have RQ_246 := Lib.hid (RQ_196.out.dk K); have RT_247 := Lib.hid (RT_197.out.dk K); have SS_248 := Lib.hid (SS_198.out.dk K); have RM_249 := Lib.hid (RM_199.out.dk K); have SX_250 := Lib.hid (SX_200.out.dk K); clear K Bs_193 Ox_194 HB_195 RQ_196 RT_197 SS_198 RM_199 SX_200; have SP_251 := Lib.hid hp; clear hp; have ls := Bs_243.out.lt; obtain ⟨cs0, cs1, cs2, cs3, cs4, cs5⟩ := Bs_243.out.cells6; have fs0 := Bs_243.out.free 0; have fs1 := Bs_243.out.free 1; have fs2 := Bs_243.out.free 2; have fs3 := Bs_243.out.free 3; have fs4 := Bs_243.out.free 4; have fs5 := Bs_243.out.free 5; have cr10 : w_242.cell? ⟨A1, o1 + i * 3, none⟩ = some (.bool q.b) := (HB_245.out.cell (p := ⟨A1, o1 + i * 3, none⟩) hl1).trans X0.out; have cr11 : w_242.cell? ⟨A1, o1 + i * 3 + 1, none⟩ = some (.slice q.A q.n q.c) := (HB_245.out.cell (p := ⟨A1, o1 + i * 3 + 1, none⟩) hl1).trans X1.out; have cr12 : w_242.cell? ⟨A1, o1 + i * 3 + 2, none⟩ = some (.int .i64 (a i).x) := (HB_245.out.cell (p := ⟨A1, o1 + i * 3 + 2, none⟩) hl1).trans X2.out; have cr20 : w_242.cell? ⟨A2, o2 + i * 3, none⟩ = some (.bool t.b) := (HB_245.out.cell (p := ⟨A2, o2 + i * 3, none⟩) hl2).trans Y0.out; have cr21 : w_242.cell? ⟨A2, o2 + i * 3 + 1, none⟩ = some (.slice t.A t.n t.c) := (HB_245.out.cell (p := ⟨A2, o2 + i * 3 + 1, none⟩) hl2).trans Y1.out; have cr22 : w_242.cell? ⟨A2, o2 + i * 3 + 2, none⟩ = some (.int .i64 (b i).x) := (HB_245.out.cell (p := ⟨A2, o2 + i * 3 + 2, none⟩) hl2).trans Y2.out; obtain ⟨⟨_, px0⟩, ⟨_, px1⟩, ⟨_, px2⟩, rx0, rx1, rx2⟩ := Ox_244.out.there hi2; have lx := Ox_244.out.lt; have k_252 : SX1 (w_242) := (hS1 _).2 ⟨(Below.cell (p := ⟨A1, o1 + i * 3, none⟩) HB_245.out hl1).trans X0.out, (Below.cell (p := ⟨A1, o1 + i * 3 + 1, none⟩) HB_245.out hl1).trans X1.out, (Below.cell (p := ⟨A1, o1 + i * 3 + 2, none⟩) HB_245.out hl1).trans X2.out, (Below.cell (p := ⟨A2, o2 + i * 3, none⟩) HB_245.out hl2).trans Y0.out, (Below.cell (p := ⟨A2, o2 + i * 3 + 1, none⟩) HB_245.out hl2).trans Y1.out, (Below.cell (p := ⟨A2, o2 + i * 3 + 2, none⟩) HB_245.out hl2).trans Y2.out⟩; have y0 := HB_245.out.size; have k_253 : SX1 ((((((w_242.setCell ⟨wr.heap.size, 0, none⟩ (.bool p.lo.b)).setCell ⟨wr.heap.size, 1, none⟩ (.slice p.lo.A p.lo.n p.lo.c)).setCell ⟨wr.heap.size, 2, none⟩ (.int .i64 (Sp.add (Sp.pt (a i)) (Sp.pt (b i).abs) bits).lo.x)).setCell ⟨wr.heap.size, 3, none⟩ (.bool p.hi.b)).setCell ⟨wr.heap.size, 4, none⟩ (.slice p.hi.A p.hi.n p.hi.c)).setCell ⟨wr.heap.size, 5, none⟩ (.int .i64 (Sp.add (Sp.pt (a i)) (Sp.pt (b i).abs) bits).hi.x)) := (hS1 _).2 ⟨(Below.cell (p := ⟨A1, o1 + i * 3, none⟩) (below_st (below_st (below_st (below_st (below_st (below_st HB_245.out 0 (by omega) (.bool p.lo.b)) 1 (by omega) (.slice p.lo.A p.lo.n p.lo.c)) 2 (by omega) (.int .i64 (Sp.add (Sp.pt (a i)) (Sp.pt (b i).abs) bits).lo.x)) 3 (by omega) (.bool p.hi.b)) 4 (by omega) (.slice p.hi.A p.hi.n p.hi.c)) 5 (by omega) (.int .i64 (Sp.add (Sp.pt (a i)) (Sp.pt (b i).abs) bits).hi.x)) hl1).trans X0.out, (Below.cell (p := ⟨A1, o1 + i * 3 + 1, none⟩) (below_st (below_st (below_st (below_st (below_st (below_st HB_245.out 0 (by omega) (.bool p.lo.b)) 1 (by omega) (.slice p.lo.A p.lo.n p.lo.c)) 2 (by omega) (.int .i64 (Sp.add (Sp.pt (a i)) (Sp.pt (b i).abs) bits).lo.x)) 3 (by omega) (.bool p.hi.b)) 4 (by omega) (.slice p.hi.A p.hi.n p.hi.c)) 5 (by omega) (.int .i64 (Sp.add (Sp.pt (a i)) (Sp.pt (b i).abs) bits).hi.x)) hl1).trans X1.out, (Below.cell (p := ⟨A1, o1 + i * 3 + 2, none⟩) (below_st (below_st (below_st (below_st (below_st (below_st HB_245.out 0 (by omega) (.bool p.lo.b)) 1 (by omega) (.slice p.lo.A p.lo.n p.lo.c)) 2 (by omega) (.int .i64 (Sp.add (Sp.pt (a i)) (Sp.pt (b i).abs) bits).lo.x)) 3 (by omega) (.bool p.hi.b)) 4 (by omega) (.slice p.hi.A p.hi.n p.hi.c)) 5 (by omega) (.int .i64 (Sp.add (Sp.pt (a i)) (Sp.pt (b i).abs) bits).hi.x)) hl1).trans X2.out, (Below.cell (p := ⟨A2, o2 + i * 3, none⟩) (below_st (below_st (below_st (below_st (below_st (below_st HB_245.out 0 (by omega) (.bool p.lo.b)) 1 (by omega) (.slice p.lo.A p.lo.n p.lo.c)) 2 (by omega) (.int .i64 (Sp.add (Sp.pt (a i)) (Sp.pt (b i).abs) bits).lo.x)) 3 (by omega) (.bool p.hi.b)) 4 (by omega) (.slice p.hi.A p.hi.n p.hi.c)) 5 (by omega) (.int .i64 (Sp.add (Sp.pt (a i)) (Sp.pt (b i).abs) bits).hi.x)) hl2).trans Y0.out, (Below.cell (p := ⟨A2, o2 + i * 3 + 1, none⟩) (below_st (below_st (below_st (below_st (below_st (below_st HB_245.out 0 (by omega) (.bool p.lo.b)) 1 (by omega) (.slice p.lo.A p.lo.n p.lo.c)) 2 (by omega) (.int .i64 (Sp.add (Sp.pt (a i)) (Sp.pt (b i).abs) bits).lo.x)) 3 (by omega) (.bool p.hi.b)) 4 (by omega) (.slice p.hi.A p.hi.n p.hi.c)) 5 (by omega) (.int .i64 (Sp.add (Sp.pt (a i)) (Sp.pt (b i).abs) bits).hi.x)) hl2).trans Y1.out, (Below.cell (p := ⟨A2, o2 + i * 3 + 2, none⟩) (below_st (below_st (below_st (below_st (below_st (below_st HB_245.out 0 (by omega) (.bool p.lo.b)) 1 (by omega) (.slice p.lo.A p.lo.n p.lo.c)) 2 (by omega) (.int .i64 (Sp.add (Sp.pt (a i)) (Sp.pt (b i).abs) bits).lo.x)) 3 (by omega) (.bool p.hi.b)) 4 (by omega) (.slice p.hi.A p.hi.n p.hi.c)) 5 (by omega) (.int .i64 (Sp.add (Sp.pt (a i)) (Sp.pt (b i).abs) bits).hi.x)) hl2).trans Y2.out⟩; clear y0)
           | (have _ := tok_114; skip; go_at_call 38; clear tok_114; (with_reducible refine (sadd_any (w_203) s x (Sp.pt (a i)) (Sp.pt (b i).abs) bits E T SS_209.out SX_211.out La.out Lb.out hET hb2 hb3 (HT.out.below HB_206.out)).mono ?_); rintro e w_255 ⟨⟨p, rfl, hp⟩, hb⟩; clear ls cs0 cs1 cs2 cs3 cs4 cs5 fs0 fs1 fs2 fs3 fs4 fs5 cr10 cr11 cr12 cr20 cr21 cr22 px0 px1 px2 rx0 rx1 rx2 lx k_212; have K := Dk.below hb; have Bs_256 := Lib.hid (show Bk _ _ _ #[.bool false, .slice none 0 0, .int .i64 0, .bool false, .slice none 0 0, .int .i64 0] from Bs_204.out.below hb); have Ox_257 := Lib.hid (show OD _ (w.heap.size) n (fun j => if j < i then (fun j => mor (a j) (b j) bits) j else D.zero) from Ox_205.out.below hb); have HB_258 := Lib.hid (below_tr HB_206.out hb); clear hb; have RQ_259 := Lib.hid (RQ_207.out.dk K); have RT_260 := Lib.hid (RT_208.out.dk K); have SS_261 := Lib.hid (SS_209.out.dk K); have RM_262 := Lib.hid (RM_210.out.dk K); have SX_263 := Lib.hid (SX_211.out.dk K); clear K Bs_204 Ox_205 HB_206 RQ_207 RT_208 SS_209 RM_210 SX_211; have SP_264 := Lib.hid hp; clear hp; have ls := Bs_256.out.lt; obtain ⟨cs0, cs1, cs2, cs3, cs4, cs5⟩ := Bs_256.out.cells6; have fs0 := Bs_256.out.free 0; have fs1 := Bs_256.out.free 1; have fs2 := Bs_256.out.free 2; have fs3 := Bs_256.out.free 3; have fs4 := Bs_256.out.free 4; have fs5 := Bs_256.out.free 5; have cr10 : w_255.cell? ⟨A1, o1 + i * 3, none⟩ = some (.bool q.b) := (HB_258.out.cell (p := ⟨A1, o1 + i * 3, none⟩) hl1).trans X0.out; have cr11 : w_255.cell? ⟨A1, o1 + i * 3 + 1, none⟩ = some (.slice q.A q.n q.c) := (HB_258.out.cell (p := ⟨A1, o1 + i * 3 + 1, none⟩) hl1).trans X1.out; have cr12 : w_255.cell? ⟨A1, o1 + i * 3 + 2, none⟩ = some (.int .i64 (a i).x) := (HB_258.out.cell (p := ⟨A1, o1 + i * 3 + 2, none⟩) hl1).trans X2.out; have cr20 : w_255.cell? ⟨A2, o2 + i * 3, none⟩ = some (.bool t.b) := (HB_258.out.cell (p := ⟨A2, o2 + i * 3, none⟩) hl2).trans Y0.out; have cr21 : w_255.cell? ⟨A2, o2 + i * 3 + 1, none⟩ = some (.slice t.A t.n t.c) := (HB_258.out.cell (p := ⟨A2, o2 + i * 3 + 1, none⟩) hl2).trans Y1.out; have cr22 : w_255.cell? ⟨A2, o2 + i * 3 + 2, none⟩ = some (.int .i64 (b i).x) := (HB_258.out.cell (p := ⟨A2, o2 + i * 3 + 2, none⟩) hl2).trans Y2.out; obtain ⟨⟨_, px0⟩, ⟨_, px1⟩, ⟨_, px2⟩, rx0, rx1, rx2⟩ := Ox_257.out.there hi2; have lx := Ox_257.out.lt; have k_265 : SX1 (w_255) := (hS1 _).2 ⟨(Below.cell (p := ⟨A1, o1 + i * 3, none⟩) HB_258.out hl1).trans X0.out, (Below.cell (p := ⟨A1, o1 + i * 3 + 1, none⟩) HB_258.out hl1).trans X1.out, (Below.cell (p := ⟨A1, o1 + i * 3 + 2, none⟩) HB_258.out hl1).trans X2.out, (Below.cell (p := ⟨A2, o2 + i * 3, none⟩) HB_258.out hl2).trans Y0.out, (Below.cell (p := ⟨A2, o2 + i * 3 + 1, none⟩) HB_258.out hl2).trans Y1.out, (Below.cell (p := ⟨A2, o2 + i * 3 + 2, none⟩) HB_258.out hl2).trans Y2.out⟩; have y0 := HB_258.out.size; have k_266 : SX1 ((((((w_255.setCell ⟨w_119.heap.size, 0, none⟩ (.bool p.lo.b)).setCell ⟨w_119.heap.size, 1, none⟩ (.slice p.lo.A p.lo.n p.lo.c)).setCell ⟨w_119.heap.size, 2, none⟩ (.int .i64 (Sp.add (Sp.pt (a i)) (Sp.pt (b i).abs) bits).lo.x)).setCell ⟨w_119.heap.size, 3, none⟩ (.bool p.hi.b)).setCell ⟨w_119.heap.size, 4, none⟩ (.slice p.hi.A p.hi.n p.hi.c)).setCell ⟨w_119.heap.size, 5, none⟩ (.int .i64 (Sp.add (Sp.pt (a i)) (Sp.pt (b i).abs) bits).hi.x)) := (hS1 _).2 ⟨(Below.cell (p := ⟨A1, o1 + i * 3, none⟩) (below_st (below_st (below_st (below_st (below_st (below_st HB_258.out 0 (by omega) (.bool p.lo.b)) 1 (by omega) (.slice p.lo.A p.lo.n p.lo.c)) 2 (by omega) (.int .i64 (Sp.add (Sp.pt (a i)) (Sp.pt (b i).abs) bits).lo.x)) 3 (by omega) (.bool p.hi.b)) 4 (by omega) (.slice p.hi.A p.hi.n p.hi.c)) 5 (by omega) (.int .i64 (Sp.add (Sp.pt (a i)) (Sp.pt (b i).abs) bits).hi.x)) hl1).trans X0.out, (Below.cell (p := ⟨A1, o1 + i * 3 + 1, none⟩) (below_st (below_st (below_st (below_st (below_st (below_st HB_258.out 0 (by omega) (.bool p.lo.b)) 1 (by omega) (.slice p.lo.A p.lo.n p.lo.c)) 2 (by omega) (.int .i64 (Sp.add (Sp.pt (a i)) (Sp.pt (b i).abs) bits).lo.x)) 3 (by omega) (.bool p.hi.b)) 4 (by omega) (.slice p.hi.A p.hi.n p.hi.c)) 5 (by omega) (.int .i64 (Sp.add (Sp.pt (a i)) (Sp.pt (b i).abs) bits).hi.x)) hl1).trans X1.out, (Below.cell (p := ⟨A1, o1 + i * 3 + 2, none⟩) (below_st (below_st (below_st (below_st (below_st (below_st HB_258.out 0 (by omega) (.bool p.lo.b)) 1 (by omega) (.slice p.lo.A p.lo.n p.lo.c)) 2 (by omega) (.int .i64 (Sp.add (Sp.pt (a i)) (Sp.pt (b i).abs) bits).lo.x)) 3 (by omega) (.bool p.hi.b)) 4 (by omega) (.slice p.hi.A p.hi.n p.hi.c)) 5 (by omega) (.int .i64 (Sp.add (Sp.pt (a i)) (Sp.pt (b i).abs) bits).hi.x)) hl1).trans X2.out, (Below.cell (p := ⟨A2, o2 + i * 3, none⟩) (below_st (below_st (below_st (below_st (below_st (below_st HB_258.out 0 (by omega) (.bool p.lo.b)) 1 (by omega) (.slice p.lo.A p.lo.n p.lo.c)) 2 (by omega) (.int .i64 (Sp.add (Sp.pt (a i)) (Sp.pt (b i).abs) bits).lo.x)) 3 (by omega) (.bool p.hi.b)) 4 (by omega) (.slice p.hi.A p.hi.n p.hi.c)) 5 (by omega) (.int .i64 (Sp.add (Sp.pt (a i)) (Sp.pt (b i).abs) bits).hi.x)) hl2).trans Y0.out, (Below.cell (p := ⟨A2, o2 + i * 3 + 1, none⟩) (below_st (below_st (below_st (below_st (below_st (below_st HB_258.out 0 (by omega) (.bool p.lo.b)) 1 (by omega) (.slice p.lo.A p.lo.n p.lo.c)) 2 (by omega) (.int .i64 (Sp.add (Sp.pt (a i)) (Sp.pt (b i).abs) bits).lo.x)) 3 (by omega) (.bool p.hi.b)) 4 (by omega) (.slice p.hi.A p.hi.n p.hi.c)) 5 (by omega) (.int .i64 (Sp.add (Sp.pt (a i)) (Sp.pt (b i).abs) bits).hi.x)) hl2).trans Y1.out, (Below.cell (p := ⟨A2, o2 + i * 3 + 2, none⟩) (below_st (below_st (below_st (below_st (below_st (below_st HB_258.out 0 (by omega) (.bool p.lo.b)) 1 (by omega) (.slice p.lo.A p.lo.n p.lo.c)) 2 (by omega) (.int .i64 (Sp.add (Sp.pt (a i)) (Sp.pt (b i).abs) bits).lo.x)) 3 (by omega) (.bool p.hi.b)) 4 (by omega) (.slice p.hi.A p.hi.n p.hi.c)) 5 (by omega) (.int .i64 (Sp.add (Sp.pt (a i)) (Sp.pt (b i).abs) bits).hi.x)) hl2).trans Y2.out⟩; clear y0)
           | (have _ := tok_116; skip; go_at_call 38; clear tok_116; (with_reducible refine (sadd_any (w_181) s x (Sp.pt (a i)) (Sp.pt (b i).abs) bits E T SS_187.out SX_189.out La.out Lb.out hET hb2 hb3 (HT.out.below HB_184.out)).mono ?_); rintro e w_268 ⟨⟨p, rfl, hp⟩, hb⟩; clear ls cs0 cs1 cs2 cs3 cs4 cs5 fs0 fs1 fs2 fs3 fs4 fs5 cr10 cr11 cr12 cr20 cr21 cr22 px0 px1 px2 rx0 rx1 rx2 lx k_190; have K := Dk.below hb; have Bs_269 := Lib.hid (show Bk _ _ _ #[.bool false, .slice none 0 0, .int .i64 0, .bool false, .slice none 0 0, .int .i64 0] from Bs_182.out.below hb); have Ox_270 := Lib.hid (show OD _ (w.heap.size) n (fun j => if j < i then (fun j => mor (a j) (b j) bits) j else D.zero) from Ox_183.out.below hb); have HB_271 := Lib.hid (below_tr HB_184.out hb); clear hb; have RQ_272 := Lib.hid (RQ_185.out.dk K); have RT_273 := Lib.hid (RT_186.out.dk K); have SS_274 := Lib.hid (SS_187.out.dk K); have RM_275 := Lib.hid (RM_188.out.dk K); have SX_276 := Lib.hid (SX_189.out.dk K); clear K Bs_182 Ox_183 HB_184 RQ_185 RT_186 SS_187 RM_188 SX_189; have SP_277 := Lib.hid hp; clear hp; have ls := Bs_269.out.lt; obtain ⟨cs0, cs1, cs2, cs3, cs4, cs5⟩ := Bs_269.out.cells6; have fs0 := Bs_269.out.free 0; have fs1 := Bs_269.out.free 1; have fs2 := Bs_269.out.free 2; have fs3 := Bs_269.out.free 3; have fs4 := Bs_269.out.free 4; have fs5 := Bs_269.out.free 5; have cr10 : w_268.cell? ⟨A1, o1 + i * 3, none⟩ = some (.bool q.b) := (HB_271.out.cell (p := ⟨A1, o1 + i * 3, none⟩) hl1).trans X0.out; have cr11 : w_268.cell? ⟨A1, o1 + i * 3 + 1, none⟩ = some (.slice q.A q.n q.c) := (HB_271.out.cell (p := ⟨A1, o1 + i * 3 + 1, none⟩) hl1).trans X1.out; have cr12 : w_268.cell? ⟨A1, o1 + i * 3 + 2, none⟩ = some (.int .i64 (a i).x) := (HB_271.out.cell (p := ⟨A1, o1 + i * 3 + 2, none⟩) hl1).trans X2.out; have cr20 : w_268.cell? ⟨A2, o2 + i * 3, none⟩ = some (.bool t.b) := (HB_271.out.cell (p := ⟨A2, o2 + i * 3, none⟩) hl2).trans Y0.out; have cr21 : w_268.cell? ⟨A2, o2 + i * 3 + 1, none⟩ = some (.slice t.A t.n t.c) := (HB_271.out.cell (p := ⟨A2, o2 + i * 3 + 1, none⟩) hl2).trans Y1.out; have cr22 : w_268.cell? ⟨A2, o2 + i * 3 + 2, none⟩ = some (.int .i64 (b i).x) := (HB_271.out.cell (p := ⟨A2, o2 + i * 3 + 2, none⟩) hl2).trans Y2.out; obtain ⟨⟨_, px0⟩, ⟨_, px1⟩, ⟨_, px2⟩, rx0, rx1, rx2⟩ := Ox_270.out.there hi2; have lx := Ox_270.out.lt; have k_278 : SX1 (w_268) := (hS1 _).2 ⟨(Below.cell (p := ⟨A1, o1 + i * 3, none⟩) HB_271.out hl1).trans X0.out, (Below.cell (p := ⟨A1, o1 + i * 3 + 1, none⟩) HB_271.out hl1).trans X1.out, (Below.cell (p := ⟨A1, o1 + i * 3 + 2, none⟩) HB_271.out hl1).trans X2.out, (Below.cell (p := ⟨A2, o2 + i * 3, none⟩) HB_271.out hl2).trans Y0.out, (Below.cell (p := ⟨A2, o2 + i * 3 + 1, none⟩) HB_271.out hl2).trans Y1.out, (Below.cell (p := ⟨A2, o2 + i * 3 + 2, none⟩) HB_271.out hl2).trans Y2.out⟩; have y0 := HB_271.out.size; have k_279 : SX1 ((((((w_268.setCell ⟨w_138.heap.size, 0, none⟩ (.bool p.lo.b)).setCell ⟨w_138.heap.size, 1, none⟩ (.slice p.lo.A p.lo.n p.lo.c)).setCell ⟨w_138.heap.size, 2, none⟩ (.int .i64 (Sp.add (Sp.pt (a i)) (Sp.pt (b i).abs) bits).lo.x)).setCell ⟨w_138.heap.size, 3, none⟩ (.bool p.hi.b)).setCell ⟨w_138.heap.size, 4, none⟩ (.slice p.hi.A p.hi.n p.hi.c)).setCell ⟨w_138.heap.size, 5, none⟩ (.int .i64 (Sp.add (Sp.pt (a i)) (Sp.pt (b i).abs) bits).hi.x)) := (hS1 _).2 ⟨(Below.cell (p := ⟨A1, o1 + i * 3, none⟩) (below_st (below_st (below_st (below_st (below_st (below_st HB_271.out 0 (by omega) (.bool p.lo.b)) 1 (by omega) (.slice p.lo.A p.lo.n p.lo.c)) 2 (by omega) (.int .i64 (Sp.add (Sp.pt (a i)) (Sp.pt (b i).abs) bits).lo.x)) 3 (by omega) (.bool p.hi.b)) 4 (by omega) (.slice p.hi.A p.hi.n p.hi.c)) 5 (by omega) (.int .i64 (Sp.add (Sp.pt (a i)) (Sp.pt (b i).abs) bits).hi.x)) hl1).trans X0.out, (Below.cell (p := ⟨A1, o1 + i * 3 + 1, none⟩) (below_st (below_st (below_st (below_st (below_st (below_st HB_271.out 0 (by omega) (.bool p.lo.b)) 1 (by omega) (.slice p.lo.A p.lo.n p.lo.c)) 2 (by omega) (.int .i64 (Sp.add (Sp.pt (a i)) (Sp.pt (b i).abs) bits).lo.x)) 3 (by omega) (.bool p.hi.b)) 4 (by omega) (.slice p.hi.A p.hi.n p.hi.c)) 5 (by omega) (.int .i64 (Sp.add (Sp.pt (a i)) (Sp.pt (b i).abs) bits).hi.x)) hl1).trans X1.out, (Below.cell (p := ⟨A1, o1 + i * 3 + 2, none⟩) (below_st (below_st (below_st (below_st (below_st (below_st HB_271.out 0 (by omega) (.bool p.lo.b)) 1 (by omega) (.slice p.lo.A p.lo.n p.lo.c)) 2 (by omega) (.int .i64 (Sp.add (Sp.pt (a i)) (Sp.pt (b i).abs) bits).lo.x)) 3 (by omega) (.bool p.hi.b)) 4 (by omega) (.slice p.hi.A p.hi.n p.hi.c)) 5 (by omega) (.int .i64 (Sp.add (Sp.pt (a i)) (Sp.pt (b i).abs) bits).hi.x)) hl1).trans X2.out, (Below.cell (p := ⟨A2, o2 + i * 3, none⟩) (below_st (below_st (below_st (below_st (below_st (below_st HB_271.out 0 (by omega) (.bool p.lo.b)) 1 (by omega) (.slice p.lo.A p.lo.n p.lo.c)) 2 (by omega) (.int .i64 (Sp.add (Sp.pt (a i)) (Sp.pt (b i).abs) bits).lo.x)) 3 (by omega) (.bool p.hi.b)) 4 (by omega) (.slice p.hi.A p.hi.n p.hi.c)) 5 (by omega) (.int .i64 (Sp.add (Sp.pt (a i)) (Sp.pt (b i).abs) bits).hi.x)) hl2).trans Y0.out, (Below.cell (p := ⟨A2, o2 + i * 3 + 1, none⟩) (below_st (below_st (below_st (below_st (below_st (below_st HB_271.out 0 (by omega) (.bool p.lo.b)) 1 (by omega) (.slice p.lo.A p.lo.n p.lo.c)) 2 (by omega) (.int .i64 (Sp.add (Sp.pt (a i)) (Sp.pt (b i).abs) bits).lo.x)) 3 (by omega) (.bool p.hi.b)) 4 (by omega) (.slice p.hi.A p.hi.n p.hi.c)) 5 (by omega) (.int .i64 (Sp.add (Sp.pt (a i)) (Sp.pt (b i).abs) bits).hi.x)) hl2).trans Y1.out, (Below.cell (p := ⟨A2, o2 + i * 3 + 2, none⟩) (below_st (below_st (below_st (below_st (below_st (below_st HB_271.out 0 (by omega) (.bool p.lo.b)) 1 (by omega) (.slice p.lo.A p.lo.n p.lo.c)) 2 (by omega) (.int .i64 (Sp.add (Sp.pt (a i)) (Sp.pt (b i).abs) bits).lo.x)) 3 (by omega) (.bool p.hi.b)) 4 (by omega) (.slice p.hi.A p.hi.n p.hi.c)) 5 (by omega) (.int .i64 (Sp.add (Sp.pt (a i)) (Sp.pt (b i).abs) bits).hi.x)) hl2).trans Y2.out⟩; clear y0))
        all_goals (go_wp2_with fail; go_meet; first | (exact ⟨w_214.heap.size, p, rfl, rfl, (by have := Ox_215.out.lt; have := HB_216.out.size; omega), (Bk.new _ 62 #[.bool p.lo.b, .slice p.lo.A p.lo.n p.lo.c, .int .i64 (Sp.add (Sp.pt (a i)) (Sp.pt (b i).abs) bits).lo.x, .bool p.hi.b, .slice p.hi.A p.hi.n p.hi.c, .int .i64 (Sp.add (Sp.pt (a i)) (Sp.pt (b i).abs) bits).hi.x]), (Ox_215.out.al _), (below_al HB_216.out _), (SP_222.out.dk ((Dk.refl _).alloc _))⟩) | (have y0 := Bs_243.out.lt; have y1 := Ox_244.out.lt; have y2 := HB_245.out.size; exact ⟨wr.heap.size, p, rfl, rfl, (by omega), ((((((Bs_243.out.set 0 (.bool p.lo.b)).set 1 (.slice p.lo.A p.lo.n p.lo.c)).set 2 (.int .i64 (Sp.add (Sp.pt (a i)) (Sp.pt (b i).abs) bits).lo.x)).set 3 (.bool p.hi.b)).set 4 (.slice p.hi.A p.hi.n p.hi.c)).set 5 (.int .i64 (Sp.add (Sp.pt (a i)) (Sp.pt (b i).abs) bits).hi.x)), ((((((Ox_244.out.st (cs := #[.bool false, .slice none 0 0, .int .i64 0, .bool false, .slice none 0 0, .int .i64 0]) Bs_243.out (by omega) 0 (by intro _ hh; cases hh) (.bool p.lo.b)).st (cs := #[.bool p.lo.b, .slice none 0 0, .int .i64 0, .bool false, .slice none 0 0, .int .i64 0]) (Bs_243.out.set 0 (.bool p.lo.b)) (by omega) 1 (by intro _ hh; cases hh) (.slice p.lo.A p.lo.n p.lo.c)).st (cs := #[.bool p.lo.b, .slice p.lo.A p.lo.n p.lo.c, .int .i64 0, .bool false, .slice none 0 0, .int .i64 0]) ((Bs_243.out.set 0 (.bool p.lo.b)).set 1 (.slice p.lo.A p.lo.n p.lo.c)) (by omega) 2 (by intro _ hh; cases hh) (.int .i64 (Sp.add (Sp.pt (a i)) (Sp.pt (b i).abs) bits).lo.x)).st (cs := #[.bool p.lo.b, .slice p.lo.A p.lo.n p.lo.c, .int .i64 (Sp.add (Sp.pt (a i)) (Sp.pt (b i).abs) bits).lo.x, .bool false, .slice none 0 0, .int .i64 0]) (((Bs_243.out.set 0 (.bool p.lo.b)).set 1 (.slice p.lo.A p.lo.n p.lo.c)).set 2 (.int .i64 (Sp.add (Sp.pt (a i)) (Sp.pt (b i).abs) bits).lo.x)) (by omega) 3 (by intro _ hh; cases hh) (.bool p.hi.b)).st (cs := #[.bool p.lo.b, .slice p.lo.A p.lo.n p.lo.c, .int .i64 (Sp.add (Sp.pt (a i)) (Sp.pt (b i).abs) bits).lo.x, .bool p.hi.b, .slice none 0 0, .int .i64 0]) ((((Bs_243.out.set 0 (.bool p.lo.b)).set 1 (.slice p.lo.A p.lo.n p.lo.c)).set 2 (.int .i64 (Sp.add (Sp.pt (a i)) (Sp.pt (b i).abs) bits).lo.x)).set 3 (.bool p.hi.b)) (by omega) 4 (by intro _ hh; cases hh) (.slice p.hi.A p.hi.n p.hi.c)).st (cs := #[.bool p.lo.b, .slice p.lo.A p.lo.n p.lo.c, .int .i64 (Sp.add (Sp.pt (a i)) (Sp.pt (b i).abs) bits).lo.x, .bool p.hi.b, .slice p.hi.A p.hi.n p.hi.c, .int .i64 0]) (((((Bs_243.out.set 0 (.bool p.lo.b)).set 1 (.slice p.lo.A p.lo.n p.lo.c)).set 2 (.int .i64 (Sp.add (Sp.pt (a i)) (Sp.pt (b i).abs) bits).lo.x)).set 3 (.bool p.hi.b)).set 4 (.slice p.hi.A p.hi.n p.hi.c)) (by omega) 5 (by intro _ hh; cases hh) (.int .i64 (Sp.add (Sp.pt (a i)) (Sp.pt (b i).abs) bits).hi.x)), (below_st (below_st (below_st (below_st (below_st (below_st HB_245.out 0 (by omega) (.bool p.lo.b)) 1 (by omega) (.slice p.lo.A p.lo.n p.lo.c)) 2 (by omega) (.int .i64 (Sp.add (Sp.pt (a i)) (Sp.pt (b i).abs) bits).lo.x)) 3 (by omega) (.bool p.hi.b)) 4 (by omega) (.slice p.hi.A p.hi.n p.hi.c)) 5 (by omega) (.int .i64 (Sp.add (Sp.pt (a i)) (Sp.pt (b i).abs) bits).hi.x)), (SP_251.out.dk (((((((Dk.refl _).set (cs := #[.bool false, .slice none 0 0, .int .i64 0, .bool false, .slice none 0 0, .int .i64 0]) Bs_243.out 0 (by intro _ hh; cases hh) (.bool p.lo.b)).set (cs := #[.bool p.lo.b, .slice none 0 0, .int .i64 0, .bool false, .slice none 0 0, .int .i64 0]) (Bs_243.out.set 0 (.bool p.lo.b)) 1 (by intro _ hh; cases hh) (.slice p.lo.A p.lo.n p.lo.c)).set (cs := #[.bool p.lo.b, .slice p.lo.A p.lo.n p.lo.c, .int .i64 0, .bool false, .slice none 0 0, .int .i64 0]) ((Bs_243.out.set 0 (.bool p.lo.b)).set 1 (.slice p.lo.A p.lo.n p.lo.c)) 2 (by intro _ hh; cases hh) (.int .i64 (Sp.add (Sp.pt (a i)) (Sp.pt (b i).abs) bits).lo.x)).set (cs := #[.bool p.lo.b, .slice p.lo.A p.lo.n p.lo.c, .int .i64 (Sp.add (Sp.pt (a i)) (Sp.pt (b i).abs) bits).lo.x, .bool false, .slice none 0 0, .int .i64 0]) (((Bs_243.out.set 0 (.bool p.lo.b)).set 1 (.slice p.lo.A p.lo.n p.lo.c)).set 2 (.int .i64 (Sp.add (Sp.pt (a i)) (Sp.pt (b i).abs) bits).lo.x)) 3 (by intro _ hh; cases hh) (.bool p.hi.b)).set (cs := #[.bool p.lo.b, .slice p.lo.A p.lo.n p.lo.c, .int .i64 (Sp.add (Sp.pt (a i)) (Sp.pt (b i).abs) bits).lo.x, .bool p.hi.b, .slice none 0 0, .int .i64 0]) ((((Bs_243.out.set 0 (.bool p.lo.b)).set 1 (.slice p.lo.A p.lo.n p.lo.c)).set 2 (.int .i64 (Sp.add (Sp.pt (a i)) (Sp.pt (b i).abs) bits).lo.x)).set 3 (.bool p.hi.b)) 4 (by intro _ hh; cases hh) (.slice p.hi.A p.hi.n p.hi.c)).set (cs := #[.bool p.lo.b, .slice p.lo.A p.lo.n p.lo.c, .int .i64 (Sp.add (Sp.pt (a i)) (Sp.pt (b i).abs) bits).lo.x, .bool p.hi.b, .slice p.hi.A p.hi.n p.hi.c, .int .i64 0]) (((((Bs_243.out.set 0 (.bool p.lo.b)).set 1 (.slice p.lo.A p.lo.n p.lo.c)).set 2 (.int .i64 (Sp.add (Sp.pt (a i)) (Sp.pt (b i).abs) bits).lo.x)).set 3 (.bool p.hi.b)).set 4 (.slice p.hi.A p.hi.n p.hi.c)) 5 (by intro _ hh; cases hh) (.int .i64 (Sp.add (Sp.pt (a i)) (Sp.pt (b i).abs) bits).hi.x)))⟩) | (have y0 := Bs_256.out.lt; have y1 := Ox_257.out.lt; have y2 := HB_258.out.size; exact ⟨w_119.heap.size, p, rfl, rfl, (by omega), ((((((Bs_256.out.set 0 (.bool p.lo.b)).set 1 (.slice p.lo.A p.lo.n p.lo.c)).set 2 (.int .i64 (Sp.add (Sp.pt (a i)) (Sp.pt (b i).abs) bits).lo.x)).set 3 (.bool p.hi.b)).set 4 (.slice p.hi.A p.hi.n p.hi.c)).set 5 (.int .i64 (Sp.add (Sp.pt (a i)) (Sp.pt (b i).abs) bits).hi.x)), ((((((Ox_257.out.st (cs := #[.bool false, .slice none 0 0, .int .i64 0, .bool false, .slice none 0 0, .int .i64 0]) Bs_256.out (by omega) 0 (by intro _ hh; cases hh) (.bool p.lo.b)).st (cs := #[.bool p.lo.b, .slice none 0 0, .int .i64 0, .bool false, .slice none 0 0, .int .i64 0]) (Bs_256.out.set 0 (.bool p.lo.b)) (by omega) 1 (by intro _ hh; cases hh) (.slice p.lo.A p.lo.n p.lo.c)).st (cs := #[.bool p.lo.b, .slice p.lo.A p.lo.n p.lo.c, .int .i64 0, .bool false, .slice none 0 0, .int .i64 0]) ((Bs_256.out.set 0 (.bool p.lo.b)).set 1 (.slice p.lo.A p.lo.n p.lo.c)) (by omega) 2 (by intro _ hh; cases hh) (.int .i64 (Sp.add (Sp.pt (a i)) (Sp.pt (b i).abs) bits).lo.x)).st (cs := #[.bool p.lo.b, .slice p.lo.A p.lo.n p.lo.c, .int .i64 (Sp.add (Sp.pt (a i)) (Sp.pt (b i).abs) bits).lo.x, .bool false, .slice none 0 0, .int .i64 0]) (((Bs_256.out.set 0 (.bool p.lo.b)).set 1 (.slice p.lo.A p.lo.n p.lo.c)).set 2 (.int .i64 (Sp.add (Sp.pt (a i)) (Sp.pt (b i).abs) bits).lo.x)) (by omega) 3 (by intro _ hh; cases hh) (.bool p.hi.b)).st (cs := #[.bool p.lo.b, .slice p.lo.A p.lo.n p.lo.c, .int .i64 (Sp.add (Sp.pt (a i)) (Sp.pt (b i).abs) bits).lo.x, .bool p.hi.b, .slice none 0 0, .int .i64 0]) ((((Bs_256.out.set 0 (.bool p.lo.b)).set 1 (.slice p.lo.A p.lo.n p.lo.c)).set 2 (.int .i64 (Sp.add (Sp.pt (a i)) (Sp.pt (b i).abs) bits).lo.x)).set 3 (.bool p.hi.b)) (by omega) 4 (by intro _ hh; cases hh) (.slice p.hi.A p.hi.n p.hi.c)).st (cs := #[.bool p.lo.b, .slice p.lo.A p.lo.n p.lo.c, .int .i64 (Sp.add (Sp.pt (a i)) (Sp.pt (b i).abs) bits).lo.x, .bool p.hi.b, .slice p.hi.A p.hi.n p.hi.c, .int .i64 0]) (((((Bs_256.out.set 0 (.bool p.lo.b)).set 1 (.slice p.lo.A p.lo.n p.lo.c)).set 2 (.int .i64 (Sp.add (Sp.pt (a i)) (Sp.pt (b i).abs) bits).lo.x)).set 3 (.bool p.hi.b)).set 4 (.slice p.hi.A p.hi.n p.hi.c)) (by omega) 5 (by intro _ hh; cases hh) (.int .i64 (Sp.add (Sp.pt (a i)) (Sp.pt (b i).abs) bits).hi.x)), (below_st (below_st (below_st (below_st (below_st (below_st HB_258.out 0 (by omega) (.bool p.lo.b)) 1 (by omega) (.slice p.lo.A p.lo.n p.lo.c)) 2 (by omega) (.int .i64 (Sp.add (Sp.pt (a i)) (Sp.pt (b i).abs) bits).lo.x)) 3 (by omega) (.bool p.hi.b)) 4 (by omega) (.slice p.hi.A p.hi.n p.hi.c)) 5 (by omega) (.int .i64 (Sp.add (Sp.pt (a i)) (Sp.pt (b i).abs) bits).hi.x)), (SP_264.out.dk (((((((Dk.refl _).set (cs := #[.bool false, .slice none 0 0, .int .i64 0, .bool false, .slice none 0 0, .int .i64 0]) Bs_256.out 0 (by intro _ hh; cases hh) (.bool p.lo.b)).set (cs := #[.bool p.lo.b, .slice none 0 0, .int .i64 0, .bool false, .slice none 0 0, .int .i64 0]) (Bs_256.out.set 0 (.bool p.lo.b)) 1 (by intro _ hh; cases hh) (.slice p.lo.A p.lo.n p.lo.c)).set (cs := #[.bool p.lo.b, .slice p.lo.A p.lo.n p.lo.c, .int .i64 0, .bool false, .slice none 0 0, .int .i64 0]) ((Bs_256.out.set 0 (.bool p.lo.b)).set 1 (.slice p.lo.A p.lo.n p.lo.c)) 2 (by intro _ hh; cases hh) (.int .i64 (Sp.add (Sp.pt (a i)) (Sp.pt (b i).abs) bits).lo.x)).set (cs := #[.bool p.lo.b, .slice p.lo.A p.lo.n p.lo.c, .int .i64 (Sp.add (Sp.pt (a i)) (Sp.pt (b i).abs) bits).lo.x, .bool false, .slice none 0 0, .int .i64 0]) (((Bs_256.out.set 0 (.bool p.lo.b)).set 1 (.slice p.lo.A p.lo.n p.lo.c)).set 2 (.int .i64 (Sp.add (Sp.pt (a i)) (Sp.pt (b i).abs) bits).lo.x)) 3 (by intro _ hh; cases hh) (.bool p.hi.b)).set (cs := #[.bool p.lo.b, .slice p.lo.A p.lo.n p.lo.c, .int .i64 (Sp.add (Sp.pt (a i)) (Sp.pt (b i).abs) bits).lo.x, .bool p.hi.b, .slice none 0 0, .int .i64 0]) ((((Bs_256.out.set 0 (.bool p.lo.b)).set 1 (.slice p.lo.A p.lo.n p.lo.c)).set 2 (.int .i64 (Sp.add (Sp.pt (a i)) (Sp.pt (b i).abs) bits).lo.x)).set 3 (.bool p.hi.b)) 4 (by intro _ hh; cases hh) (.slice p.hi.A p.hi.n p.hi.c)).set (cs := #[.bool p.lo.b, .slice p.lo.A p.lo.n p.lo.c, .int .i64 (Sp.add (Sp.pt (a i)) (Sp.pt (b i).abs) bits).lo.x, .bool p.hi.b, .slice p.hi.A p.hi.n p.hi.c, .int .i64 0]) (((((Bs_256.out.set 0 (.bool p.lo.b)).set 1 (.slice p.lo.A p.lo.n p.lo.c)).set 2 (.int .i64 (Sp.add (Sp.pt (a i)) (Sp.pt (b i).abs) bits).lo.x)).set 3 (.bool p.hi.b)).set 4 (.slice p.hi.A p.hi.n p.hi.c)) 5 (by intro _ hh; cases hh) (.int .i64 (Sp.add (Sp.pt (a i)) (Sp.pt (b i).abs) bits).hi.x)))⟩) | (have y0 := Bs_269.out.lt; have y1 := Ox_270.out.lt; have y2 := HB_271.out.size; exact ⟨w_138.heap.size, p, rfl, rfl, (by omega), ((((((Bs_269.out.set 0 (.bool p.lo.b)).set 1 (.slice p.lo.A p.lo.n p.lo.c)).set 2 (.int .i64 (Sp.add (Sp.pt (a i)) (Sp.pt (b i).abs) bits).lo.x)).set 3 (.bool p.hi.b)).set 4 (.slice p.hi.A p.hi.n p.hi.c)).set 5 (.int .i64 (Sp.add (Sp.pt (a i)) (Sp.pt (b i).abs) bits).hi.x)), ((((((Ox_270.out.st (cs := #[.bool false, .slice none 0 0, .int .i64 0, .bool false, .slice none 0 0, .int .i64 0]) Bs_269.out (by omega) 0 (by intro _ hh; cases hh) (.bool p.lo.b)).st (cs := #[.bool p.lo.b, .slice none 0 0, .int .i64 0, .bool false, .slice none 0 0, .int .i64 0]) (Bs_269.out.set 0 (.bool p.lo.b)) (by omega) 1 (by intro _ hh; cases hh) (.slice p.lo.A p.lo.n p.lo.c)).st (cs := #[.bool p.lo.b, .slice p.lo.A p.lo.n p.lo.c, .int .i64 0, .bool false, .slice none 0 0, .int .i64 0]) ((Bs_269.out.set 0 (.bool p.lo.b)).set 1 (.slice p.lo.A p.lo.n p.lo.c)) (by omega) 2 (by intro _ hh; cases hh) (.int .i64 (Sp.add (Sp.pt (a i)) (Sp.pt (b i).abs) bits).lo.x)).st (cs := #[.bool p.lo.b, .slice p.lo.A p.lo.n p.lo.c, .int .i64 (Sp.add (Sp.pt (a i)) (Sp.pt (b i).abs) bits).lo.x, .bool false, .slice none 0 0, .int .i64 0]) (((Bs_269.out.set 0 (.bool p.lo.b)).set 1 (.slice p.lo.A p.lo.n p.lo.c)).set 2 (.int .i64 (Sp.add (Sp.pt (a i)) (Sp.pt (b i).abs) bits).lo.x)) (by omega) 3 (by intro _ hh; cases hh) (.bool p.hi.b)).st (cs := #[.bool p.lo.b, .slice p.lo.A p.lo.n p.lo.c, .int .i64 (Sp.add (Sp.pt (a i)) (Sp.pt (b i).abs) bits).lo.x, .bool p.hi.b, .slice none 0 0, .int .i64 0]) ((((Bs_269.out.set 0 (.bool p.lo.b)).set 1 (.slice p.lo.A p.lo.n p.lo.c)).set 2 (.int .i64 (Sp.add (Sp.pt (a i)) (Sp.pt (b i).abs) bits).lo.x)).set 3 (.bool p.hi.b)) (by omega) 4 (by intro _ hh; cases hh) (.slice p.hi.A p.hi.n p.hi.c)).st (cs := #[.bool p.lo.b, .slice p.lo.A p.lo.n p.lo.c, .int .i64 (Sp.add (Sp.pt (a i)) (Sp.pt (b i).abs) bits).lo.x, .bool p.hi.b, .slice p.hi.A p.hi.n p.hi.c, .int .i64 0]) (((((Bs_269.out.set 0 (.bool p.lo.b)).set 1 (.slice p.lo.A p.lo.n p.lo.c)).set 2 (.int .i64 (Sp.add (Sp.pt (a i)) (Sp.pt (b i).abs) bits).lo.x)).set 3 (.bool p.hi.b)).set 4 (.slice p.hi.A p.hi.n p.hi.c)) (by omega) 5 (by intro _ hh; cases hh) (.int .i64 (Sp.add (Sp.pt (a i)) (Sp.pt (b i).abs) bits).hi.x)), (below_st (below_st (below_st (below_st (below_st (below_st HB_271.out 0 (by omega) (.bool p.lo.b)) 1 (by omega) (.slice p.lo.A p.lo.n p.lo.c)) 2 (by omega) (.int .i64 (Sp.add (Sp.pt (a i)) (Sp.pt (b i).abs) bits).lo.x)) 3 (by omega) (.bool p.hi.b)) 4 (by omega) (.slice p.hi.A p.hi.n p.hi.c)) 5 (by omega) (.int .i64 (Sp.add (Sp.pt (a i)) (Sp.pt (b i).abs) bits).hi.x)), (SP_277.out.dk (((((((Dk.refl _).set (cs := #[.bool false, .slice none 0 0, .int .i64 0, .bool false, .slice none 0 0, .int .i64 0]) Bs_269.out 0 (by intro _ hh; cases hh) (.bool p.lo.b)).set (cs := #[.bool p.lo.b, .slice none 0 0, .int .i64 0, .bool false, .slice none 0 0, .int .i64 0]) (Bs_269.out.set 0 (.bool p.lo.b)) 1 (by intro _ hh; cases hh) (.slice p.lo.A p.lo.n p.lo.c)).set (cs := #[.bool p.lo.b, .slice p.lo.A p.lo.n p.lo.c, .int .i64 0, .bool false, .slice none 0 0, .int .i64 0]) ((Bs_269.out.set 0 (.bool p.lo.b)).set 1 (.slice p.lo.A p.lo.n p.lo.c)) 2 (by intro _ hh; cases hh) (.int .i64 (Sp.add (Sp.pt (a i)) (Sp.pt (b i).abs) bits).lo.x)).set (cs := #[.bool p.lo.b, .slice p.lo.A p.lo.n p.lo.c, .int .i64 (Sp.add (Sp.pt (a i)) (Sp.pt (b i).abs) bits).lo.x, .bool false, .slice none 0 0, .int .i64 0]) (((Bs_269.out.set 0 (.bool p.lo.b)).set 1 (.slice p.lo.A p.lo.n p.lo.c)).set 2 (.int .i64 (Sp.add (Sp.pt (a i)) (Sp.pt (b i).abs) bits).lo.x)) 3 (by intro _ hh; cases hh) (.bool p.hi.b)).set (cs := #[.bool p.lo.b, .slice p.lo.A p.lo.n p.lo.c, .int .i64 (Sp.add (Sp.pt (a i)) (Sp.pt (b i).abs) bits).lo.x, .bool p.hi.b, .slice none 0 0, .int .i64 0]) ((((Bs_269.out.set 0 (.bool p.lo.b)).set 1 (.slice p.lo.A p.lo.n p.lo.c)).set 2 (.int .i64 (Sp.add (Sp.pt (a i)) (Sp.pt (b i).abs) bits).lo.x)).set 3 (.bool p.hi.b)) 4 (by intro _ hh; cases hh) (.slice p.hi.A p.hi.n p.hi.c)).set (cs := #[.bool p.lo.b, .slice p.lo.A p.lo.n p.lo.c, .int .i64 (Sp.add (Sp.pt (a i)) (Sp.pt (b i).abs) bits).lo.x, .bool p.hi.b, .slice p.hi.A p.hi.n p.hi.c, .int .i64 0]) (((((Bs_269.out.set 0 (.bool p.lo.b)).set 1 (.slice p.lo.A p.lo.n p.lo.c)).set 2 (.int .i64 (Sp.add (Sp.pt (a i)) (Sp.pt (b i).abs) bits).lo.x)).set 3 (.bool p.hi.b)).set 4 (.slice p.hi.A p.hi.n p.hi.c)) 5 (by intro _ hh; cases hh) (.int .i64 (Sp.add (Sp.pt (a i)) (Sp.pt (b i).abs) bits).hi.x)))⟩) | (have y0 := Bs_230.out.lt; have y1 := Ox_231.out.lt; have y2 := HB_232.out.size; exact ⟨w_169.heap.size, p, rfl, rfl, (by omega), ((((((Bs_230.out.set 0 (.bool p.lo.b)).set 1 (.slice p.lo.A p.lo.n p.lo.c)).set 2 (.int .i64 (Sp.add (Sp.pt (a i)) (Sp.pt (b i).abs) bits).lo.x)).set 3 (.bool p.hi.b)).set 4 (.slice p.hi.A p.hi.n p.hi.c)).set 5 (.int .i64 (Sp.add (Sp.pt (a i)) (Sp.pt (b i).abs) bits).hi.x)), ((((((Ox_231.out.st (cs := #[.bool false, .slice none 0 0, .int .i64 0, .bool false, .slice none 0 0, .int .i64 0]) Bs_230.out (by omega) 0 (by intro _ hh; cases hh) (.bool p.lo.b)).st (cs := #[.bool p.lo.b, .slice none 0 0, .int .i64 0, .bool false, .slice none 0 0, .int .i64 0]) (Bs_230.out.set 0 (.bool p.lo.b)) (by omega) 1 (by intro _ hh; cases hh) (.slice p.lo.A p.lo.n p.lo.c)).st (cs := #[.bool p.lo.b, .slice p.lo.A p.lo.n p.lo.c, .int .i64 0, .bool false, .slice none 0 0, .int .i64 0]) ((Bs_230.out.set 0 (.bool p.lo.b)).set 1 (.slice p.lo.A p.lo.n p.lo.c)) (by omega) 2 (by intro _ hh; cases hh) (.int .i64 (Sp.add (Sp.pt (a i)) (Sp.pt (b i).abs) bits).lo.x)).st (cs := #[.bool p.lo.b, .slice p.lo.A p.lo.n p.lo.c, .int .i64 (Sp.add (Sp.pt (a i)) (Sp.pt (b i).abs) bits).lo.x, .bool false, .slice none 0 0, .int .i64 0]) (((Bs_230.out.set 0 (.bool p.lo.b)).set 1 (.slice p.lo.A p.lo.n p.lo.c)).set 2 (.int .i64 (Sp.add (Sp.pt (a i)) (Sp.pt (b i).abs) bits).lo.x)) (by omega) 3 (by intro _ hh; cases hh) (.bool p.hi.b)).st (cs := #[.bool p.lo.b, .slice p.lo.A p.lo.n p.lo.c, .int .i64 (Sp.add (Sp.pt (a i)) (Sp.pt (b i).abs) bits).lo.x, .bool p.hi.b, .slice none 0 0, .int .i64 0]) ((((Bs_230.out.set 0 (.bool p.lo.b)).set 1 (.slice p.lo.A p.lo.n p.lo.c)).set 2 (.int .i64 (Sp.add (Sp.pt (a i)) (Sp.pt (b i).abs) bits).lo.x)).set 3 (.bool p.hi.b)) (by omega) 4 (by intro _ hh; cases hh) (.slice p.hi.A p.hi.n p.hi.c)).st (cs := #[.bool p.lo.b, .slice p.lo.A p.lo.n p.lo.c, .int .i64 (Sp.add (Sp.pt (a i)) (Sp.pt (b i).abs) bits).lo.x, .bool p.hi.b, .slice p.hi.A p.hi.n p.hi.c, .int .i64 0]) (((((Bs_230.out.set 0 (.bool p.lo.b)).set 1 (.slice p.lo.A p.lo.n p.lo.c)).set 2 (.int .i64 (Sp.add (Sp.pt (a i)) (Sp.pt (b i).abs) bits).lo.x)).set 3 (.bool p.hi.b)).set 4 (.slice p.hi.A p.hi.n p.hi.c)) (by omega) 5 (by intro _ hh; cases hh) (.int .i64 (Sp.add (Sp.pt (a i)) (Sp.pt (b i).abs) bits).hi.x)), (below_st (below_st (below_st (below_st (below_st (below_st HB_232.out 0 (by omega) (.bool p.lo.b)) 1 (by omega) (.slice p.lo.A p.lo.n p.lo.c)) 2 (by omega) (.int .i64 (Sp.add (Sp.pt (a i)) (Sp.pt (b i).abs) bits).lo.x)) 3 (by omega) (.bool p.hi.b)) 4 (by omega) (.slice p.hi.A p.hi.n p.hi.c)) 5 (by omega) (.int .i64 (Sp.add (Sp.pt (a i)) (Sp.pt (b i).abs) bits).hi.x)), (SP_238.out.dk (((((((Dk.refl _).set (cs := #[.bool false, .slice none 0 0, .int .i64 0, .bool false, .slice none 0 0, .int .i64 0]) Bs_230.out 0 (by intro _ hh; cases hh) (.bool p.lo.b)).set (cs := #[.bool p.lo.b, .slice none 0 0, .int .i64 0, .bool false, .slice none 0 0, .int .i64 0]) (Bs_230.out.set 0 (.bool p.lo.b)) 1 (by intro _ hh; cases hh) (.slice p.lo.A p.lo.n p.lo.c)).set (cs := #[.bool p.lo.b, .slice p.lo.A p.lo.n p.lo.c, .int .i64 0, .bool false, .slice none 0 0, .int .i64 0]) ((Bs_230.out.set 0 (.bool p.lo.b)).set 1 (.slice p.lo.A p.lo.n p.lo.c)) 2 (by intro _ hh; cases hh) (.int .i64 (Sp.add (Sp.pt (a i)) (Sp.pt (b i).abs) bits).lo.x)).set (cs := #[.bool p.lo.b, .slice p.lo.A p.lo.n p.lo.c, .int .i64 (Sp.add (Sp.pt (a i)) (Sp.pt (b i).abs) bits).lo.x, .bool false, .slice none 0 0, .int .i64 0]) (((Bs_230.out.set 0 (.bool p.lo.b)).set 1 (.slice p.lo.A p.lo.n p.lo.c)).set 2 (.int .i64 (Sp.add (Sp.pt (a i)) (Sp.pt (b i).abs) bits).lo.x)) 3 (by intro _ hh; cases hh) (.bool p.hi.b)).set (cs := #[.bool p.lo.b, .slice p.lo.A p.lo.n p.lo.c, .int .i64 (Sp.add (Sp.pt (a i)) (Sp.pt (b i).abs) bits).lo.x, .bool p.hi.b, .slice none 0 0, .int .i64 0]) ((((Bs_230.out.set 0 (.bool p.lo.b)).set 1 (.slice p.lo.A p.lo.n p.lo.c)).set 2 (.int .i64 (Sp.add (Sp.pt (a i)) (Sp.pt (b i).abs) bits).lo.x)).set 3 (.bool p.hi.b)) 4 (by intro _ hh; cases hh) (.slice p.hi.A p.hi.n p.hi.c)).set (cs := #[.bool p.lo.b, .slice p.lo.A p.lo.n p.lo.c, .int .i64 (Sp.add (Sp.pt (a i)) (Sp.pt (b i).abs) bits).lo.x, .bool p.hi.b, .slice p.hi.A p.hi.n p.hi.c, .int .i64 0]) (((((Bs_230.out.set 0 (.bool p.lo.b)).set 1 (.slice p.lo.A p.lo.n p.lo.c)).set 2 (.int .i64 (Sp.add (Sp.pt (a i)) (Sp.pt (b i).abs) bits).lo.x)).set 3 (.bool p.hi.b)).set 4 (.slice p.hi.A p.hi.n p.hi.c)) 5 (by intro _ hh; cases hh) (.int .i64 (Sp.add (Sp.pt (a i)) (Sp.pt (b i).abs) bits).hi.x)))⟩))
      case rest =>
        clear cr10 cr11 cr12 cr20 cr21 cr22 px0 px1 px2 rx0 rx1 rx2 lx
        clear OX RQ RT HB_0
        obtain ⟨w_282, rfl⟩ : ∃ x, x = wc := ⟨_, rfl⟩
        obtain ⟨g_101, p, rfl, rfl, nn0, bz, br0, hbel, hf0⟩ := hcut
        have Ox_283 := Lib.hid br0
        have n_284 := nn0
        have Bs_285 := Lib.hid bz
        have HB_285 := Lib.hid hbel
        have SP_287 := Lib.hid hf0
        clear nn0 bz br0 hbel hf0
        have ls := Bs_285.out.lt
        obtain ⟨cs0, cs1, cs2, cs3, cs4, cs5⟩ := Bs_285.out.cells6
        have cr10 : w_282.cell? ⟨A1, o1 + i * 3, none⟩ = some (.bool q.b) := (HB_285.out.cell (p := ⟨A1, o1 + i * 3, none⟩) hl1).trans X0.out
        have cr11 : w_282.cell? ⟨A1, o1 + i * 3 + 1, none⟩ = some (.slice q.A q.n q.c) := (HB_285.out.cell (p := ⟨A1, o1 + i * 3 + 1, none⟩) hl1).trans X1.out
        have cr12 : w_282.cell? ⟨A1, o1 + i * 3 + 2, none⟩ = some (.int .i64 (a i).x) := (HB_285.out.cell (p := ⟨A1, o1 + i * 3 + 2, none⟩) hl1).trans X2.out
        have cr20 : w_282.cell? ⟨A2, o2 + i * 3, none⟩ = some (.bool t.b) := (HB_285.out.cell (p := ⟨A2, o2 + i * 3, none⟩) hl2).trans Y0.out
        have cr21 : w_282.cell? ⟨A2, o2 + i * 3 + 1, none⟩ = some (.slice t.A t.n t.c) := (HB_285.out.cell (p := ⟨A2, o2 + i * 3 + 1, none⟩) hl2).trans Y1.out
        have cr22 : w_282.cell? ⟨A2, o2 + i * 3 + 2, none⟩ = some (.int .i64 (b i).x) := (HB_285.out.cell (p := ⟨A2, o2 + i * 3 + 2, none⟩) hl2).trans Y2.out
        obtain ⟨⟨_, px0⟩, ⟨_, px1⟩, ⟨_, px2⟩, rx0, rx1, rx2⟩ := Ox_283.out.there hi2
        have lx := Ox_283.out.lt
        go_wp2_with fail
        have RH := Lib.hid (show RD _ p.hi (mor (a i) (b i) bits) from SP_287.out.2)
        go_wp2
        go_roundw
        case rel => exact ⟨i + 1, by go_num, hi2, Lib.hid ⟨OD.next (F := (fun j => mor (a j) (b j) bits)) (Ox_283.out.put hi2 p.hi (mor (a i) (b i) bits) RH.out).1, (below_put3 HB_285.out (by have := HB_285.out.size; omega) i (.bool p.hi.b) (.slice p.hi.A p.hi.n p.hi.c) (.int .i64 (mor (a i) (b i) bits).x))⟩⟩
        case measure => simp only [intOf]; omega
    · obtain rfl : i = n := by omega
      obtain ⟨hx, hbel⟩ := Hr.out
      have OX := Lib.hid hx
      have HB_0 := Lib.hid hbel
      clear hx hbel Hr
      clear hi2
      go_wp2
      go_ret2
      exact ⟨⟨w.heap.size, rfl, Nat.le_refl _, OX.out.done (F := (fun j => mor (a j) (b j) bits))⟩, HB_0.out⟩

end Go.Proofs.YtgioppkggpfnoaaDoor.Nu
end

section
/- What (*joiner).way keeps and makes: memory alone. -/
set_option linter.unusedVariables false
namespace Go.Proofs.YtgioppkggpfnoaaDoor.Nu
open Go.RowKit Go.Proofs

/-- A list of m ways, each a row of its own. -/
def OG (w : World) (v : Value) (m n : Nat) (g : Nat → Nat → D) : Prop := ∃ xs, OR w v m xs ∧ ∀ k, k < m → ∃ b, xs[k]? = some (.slice (some ⟨b, 0, none⟩) n n) ∧ OD w b n (g k)
theorem Bk.uniq {w : World} {g : Nat} {t t' : TypeId} {cs cs' : Array Value} (h : Bk w g t cs) (h' : Bk w g t' cs') : t = t' ∧ cs = cs' := by
  unfold Bk at *
  rw [h] at h'
  injection h' with h'
  injection h' with h1 h2
  exact ⟨h2, h1⟩
theorem OD.bk {w : World} {g n : Nat} {f : Nat → D} (h : OD w g n f) : ∃ cs, Bk w g 53 cs := by obtain ⟨e, hb, _⟩ := h; exact ⟨_, hb⟩
theorem OR.bk {w : World} {v : Value} {m : Nat} {xs : List Value} (h : OR w v m xs) : ∀ k, v.ownBlock = some k → ∃ cs, Bk w k 39 cs := by
  rcases h.2 with ⟨rfl, _⟩ | ⟨g, cap, cur, rfl, _, _, hb, _⟩
  · intro k hk; cases hk
  · intro k hk
    obtain rfl : g = k := by simpa [Value.ownBlock] using hk
    exact ⟨_, hb⟩
theorem OG.nil (w : World) (n : Nat) (g : Nat → Nat → D) : OG w (.slice none 0 0) 0 n g := ⟨[], OR.nil w, fun k hk => absurd hk (by omega)⟩
theorem OG.lt {w : World} {v : Value} {m n : Nat} {g : Nat → Nat → D} (h : OG w v m n g) : ∀ k, v.ownBlock = some k → k < w.heap.size := by obtain ⟨xs, h, _⟩ := h; exact h.lt
theorem OG.bk {w : World} {v : Value} {m n : Nat} {g : Nat → Nat → D} (h : OG w v m n g) : ∀ k, v.ownBlock = some k → ∃ cs, Bk w k 39 cs := by obtain ⟨xs, h, _⟩ := h; exact h.bk
theorem OG.keep {w w' : World} {v : Value} {m n : Nat} {g : Nat → Nat → D} (h : OG w v m n g) (k : Dk w w') (h1 : ∀ b cs, Bk w b 39 cs → w'.heap[b]? = w.heap[b]?) (h2 : ∀ b cs, Bk w b 53 cs → w'.heap[b]? = w.heap[b]?) : OG w' v m n g := by
  obtain ⟨xs, ho, hg⟩ := h
  refine ⟨xs, ho.keep fun b hb => ?_, fun j hj => ?_⟩
  · obtain ⟨cs, hcs⟩ := ho.bk b hb
    exact h1 b cs hcs
  · obtain ⟨b, e, hd⟩ := hg j hj
    obtain ⟨cs, hcs⟩ := hd.bk
    exact ⟨b, e, hd.keep (h2 b cs hcs) k⟩
theorem OG.below {w w' : World} {v : Value} {m n : Nat} {g : Nat → Nat → D} (h : OG w v m n g) (hb : Below w.heap.size w w') : OG w' v m n g :=
  h.keep (.below hb) (fun b cs hbk => hb.block b hbk.lt) (fun b cs hbk => hb.block b hbk.lt)
theorem OG.set {w : World} {v : Value} {m n : Nat} {g : Nat → Nat → D} (h : OG w v m n g) {b : Nat} {t : TypeId} {cs : Array Value} (B : Bk w b t cs) (ht : t ≠ 39) (ht2 : t ≠ 53) (j : Nat) (hj : ∀ v, cs[j]? ≠ some (.int .u32 v)) (u : Value) : OG (w.setCell ⟨b, j, none⟩ u) v m n g :=
  h.keep ((Dk.refl w).set B j hj u) (fun b' cs' hb' => same1 w (fun e => by subst e; exact ht (B.uniq hb').1) j u) (fun b' cs' hb' => same1 w (fun e => by subst e; exact ht2 (B.uniq hb').1) j u)
theorem OD.set {w : World} {g n : Nat} {f : Nat → D} (h : OD w g n f) {b : Nat} {t : TypeId} {cs : Array Value} (B : Bk w b t cs) (ht2 : t ≠ 53) (j : Nat) (hj : ∀ v, cs[j]? ≠ some (.int .u32 v)) (u : Value) : OD (w.setCell ⟨b, j, none⟩ u) g n f := by
  obtain ⟨cs', hb'⟩ := h.bk
  exact h.keep (same1 w (fun e => by subst e; exact ht2 (B.uniq hb').1) j u) ((Dk.refl w).set B j hj u)
/-- All stands but block g and a row's own block. -/
structure Kb (g : Nat) (v : Value) (w w' : World) : Prop where
  os : w'.os = w.os
  tape : w'.tape = w.tape
  output : w'.output = w.output
  size : w.heap.size ≤ w'.heap.size
  block : ∀ k, k < w.heap.size → k ≠ g → v.ownBlock ≠ some k → w'.heap[k]? = w.heap[k]?
theorem Kb.of_below {g : Nat} {v : Value} {w w' : World} (h : Below w.heap.size w w') : Kb g v w w' := ⟨h.os, h.tape, h.output, h.size, fun k hk _ _ => h.block k hk⟩
theorem Kb.trans {g : Nat} {v : Value} {a b c : World} (h : Kb g v a b) (h2 : Kb g v b c) : Kb g v a c :=
  ⟨h2.os.trans h.os, h2.tape.trans h.tape, h2.output.trans h.output, Nat.le_trans h.size h2.size, fun k hk e1 e2 => (h2.block k (Nat.lt_of_lt_of_le hk h.size) e1 e2).trans (h.block k hk e1 e2)⟩
theorem Kb.set {g : Nat} {v : Value} (w : World) (j : Nat) (u : Value) : Kb g v w (w.setCell ⟨g, j, none⟩ u) := ⟨rfl, rfl, rfl, by simp [World.setCell], fun k _ e _ => same1 w e j u⟩
theorem Kb.below {g : Nat} {v : Value} {B : Nat} {a w w' : World} (h : Kb g v w w') (hb : Below B a w) (hg : B ≤ g) (hv : ∀ k, v.ownBlock = some k → B ≤ k) (hB : B ≤ w.heap.size) : Below B a w' :=
  hb.trans ⟨h.os, h.tape, h.output, h.size, fun k hk => h.block k (by omega) (by omega) (fun e => by have := hv k e; omega)⟩
theorem Bk.kb {g : Nat} {v : Value} {w w' : World} {b : Nat} {t : TypeId} {cs : Array Value} (B : Bk w b t cs) (h : Kb g v w w') (e1 : b ≠ g) (e2 : v.ownBlock ≠ some b) : Bk w' b t cs := (h.block b B.lt e1 e2).trans B
theorem OD.kb {g : Nat} {v : Value} {w w' : World} {b n : Nat} {f : Nat → D} (h : OD w b n f) (k : Kb g v w w') (d : Dk w w') (e1 : b ≠ g) (e2 : v.ownBlock ≠ some b) : OD w' b n f := h.keep (k.block b h.lt e1 e2) d
/-- Append and store, as 'way' does them. -/
theorem way_mid {w w2 : World} {gj : Nat} {v v' c0 c2 c3 : Value} {m n g1 : Nat} {g : Nat → Nat → D} {F : Nat → D} {xs : List Value} {o : Obj}
    (hJ : Bk w gj 146 #[c0, v, c2, c3]) (hv : ∀ z, v ≠ .int .u32 z) (ho : OR w v m xs) (hg : ∀ k, k < m → ∃ b, xs[k]? = some (.slice (some ⟨b, 0, none⟩) n n) ∧ OD w b n (g k)) (h1 : OD w g1 n F)
    (hor : OR w2 v' (m + 1) (xs ++ [.slice (some ⟨g1, 0, none⟩) n n])) (hgr : (w.alloc o).grownBy w2 v.ownBlock) (hdk : Dk (w.alloc o) w2) (hob : v'.ownBlock = v.ownBlock ∨ v'.ownBlock = some (w.heap.size + 1)) :
    Bk w2 gj 146 #[c0, v, c2, c3] ∧ Bk (w2.setCell ⟨gj, 1, none⟩ v') gj 146 #[c0, v', c2, c3] ∧ OG (w2.setCell ⟨gj, 1, none⟩ v') v' (m + 1) n (fun k => if k = m then F else g k) ∧ Kb gj v w (w2.setCell ⟨gj, 1, none⟩ v') ∧ Dk w (w2.setCell ⟨gj, 1, none⟩ v') ∧ (v'.ownBlock = v.ownBlock ∨ ∃ k, w.heap.size ≤ k ∧ v'.ownBlock = some k) ∧
      (∀ b n' f, OD w b n' f → OD (w2.setCell ⟨gj, 1, none⟩ v') b n' f) := by
  have hne : v.ownBlock ≠ some gj := fun e => by
    obtain ⟨cs, hcs⟩ := ho.bk gj e
    have := (hJ.uniq hcs).1
    revert this
    decide
  have hlt := hJ.lt
  have hK0 : ∀ k, k < w.heap.size → v.ownBlock ≠ some k → w2.heap[k]? = w.heap[k]? := fun k hk e =>
    (hgr.block k (by rw [World.size_alloc]; omega) (fun e2 => e e2.symm)).trans (sameA w hk o)
  have hJ2 : Bk w2 gj 146 #[c0, v, c2, c3] := (hK0 gj hlt hne).trans hJ
  have hD2 : Dk w w2 := ((Dk.refl w).alloc o).trans hdk
  have hrow : ∀ b n' f, OD w b n' f → OD w2 b n' f := fun b n' f h => by
    refine h.keep (hK0 b h.lt fun e => ?_) hD2
    obtain ⟨cs, hcs⟩ := ho.bk b e
    obtain ⟨cs', hcs'⟩ := h.bk
    have := (hcs.uniq hcs').1
    revert this
    decide
  have hj : ∀ z, (#[c0, v, c2, c3] : Array Value)[1]? ≠ some (.int .u32 z) := fun z h => by
    simp at h
    exact hv z h
  have hG2 : OG w2 v' (m + 1) n (fun k => if k = m then F else g k) := by
    refine ⟨_, hor, fun k hk => ?_⟩
    by_cases e : k = m
    · subst e
      refine ⟨g1, ?_, by simpa using hrow _ _ _ h1⟩
      rw [List.getElem?_append_right (by rw [ho.1]; exact Nat.le_refl _), ho.1, Nat.sub_self]
      rfl
    · obtain ⟨b, e1, hd⟩ := hg k (by omega)
      refine ⟨b, ?_, by simpa [e] using hrow _ _ _ hd⟩
      rw [List.getElem?_append_left (by rw [ho.1]; omega)]
      exact e1
  refine ⟨hJ2, ?_, hG2.set hJ2 (by decide) (by decide) 1 hj v', ?_, hD2.set hJ2 1 hj v', ?_, fun b n' f h => (hrow b n' f h).set hJ2 (by decide) 1 hj v'⟩
  · have := hJ2.set 1 v'
    exact this
  · have k1 : Kb gj v w w2 := ⟨hgr.os, hgr.tape, hgr.output, Nat.le_trans (by simp) hgr.size, fun k hk _ e => hK0 k hk e⟩
    exact k1.trans (.set w2 1 v')
  · rcases hob with h | h
    · exact .inl h
    · exact .inr ⟨_, by omega, h⟩
theorem BTab.ne_joiner {w : World} {gj : Nat} {t : TypeId} {A : Option Addr} {n c : Nat} {c1 c2 c3 : Value} (h : BTab w) (B : Bk w gj t #[.slice A n c, c1, c2, c3]) : gj ≠ 1 := fun e => by
  subst e
  have h1 := h.2 0 0 rfl
  rw [B.cell 0 rfl] at h1
  cases h1
theorem BTab.ne_row {w : World} {v : Value} {m : Nat} {xs : List Value} (h : BTab w) (ho : OR w v m xs) : v.ownBlock ≠ some 1 := fun e => by
  rcases ho.2 with ⟨rfl, _⟩ | ⟨g, cap, cur, rfl, _, _, hb, _, _, hall⟩
  · cases e
  · obtain rfl : g = 1 := by simpa [Value.ownBlock] using e
    have h1 := h.2 0 0 rfl
    rw [Lib.cell_of_heap hb] at h1
    obtain ⟨A, n, c, e2⟩ := hall 0 _ h1
    cases e2
theorem BTab.kb {w w' : World} {gj : Nat} {v : Value} (h : BTab w) (k : Kb gj v w w') (e1 : gj ≠ 1) (e2 : v.ownBlock ≠ some 1) : BTab w' :=
  ⟨Nat.lt_of_lt_of_le h.1 k.size, fun j x hj => (World.cell?_of_block (a := ⟨_, j, none⟩) (k.block _ h.1 (Ne.symm e1) e2)).trans (h.2 j x hj)⟩
theorem OR.form {w : World} {v : Value} {m : Nat} {xs : List Value} (h : OR w v (m + 1) xs) : ∃ g c, v = .slice (some ⟨g, 0, none⟩) (m + 1) c := by
  rcases h.2 with ⟨_, e⟩ | ⟨g, cap, cur, e, _⟩
  · subst e
    have := h.1
    simp at this
  · exact ⟨g, cap, e⟩
end Go.Proofs.YtgioppkggpfnoaaDoor.Nu
end

section
/- The walk of (*joiner).way. -/
set_option linter.unusedVariables false
namespace Go.Proofs.YtgioppkggpfnoaaDoor.Nu
open Go.RowKit Go.Proofs

/-- What 'way' leaves: a way more, and the sizes more by what is off. -/
def WayPost (F r' : Nat → D) (gj gc : Nat) (v : Value) (m n : Nat) (g : Nat → Nat → D) (bits : Nat) (w : World) (e : Ending) (w' : World) : Prop :=
  e = .returned (.int .i64 0) ∧ ∃ (v' : Value) (gr' : Nat), Bk w' gj 146 #[.slice (some ⟨gc, 0, none⟩) n n, v', .slice (some ⟨gr', 0, none⟩) n n, .int .i64 bits] ∧ (∀ z, v' ≠ .int .u32 z) ∧ OG w' v' (m + 1) n (fun k => if k = m then F else g k) ∧ w.heap.size ≤ gr' ∧ OD w' gr' n r' ∧ (v'.ownBlock = v.ownBlock ∨ ∃ k, w.heap.size ≤ k ∧ v'.ownBlock = some k) ∧ Dk w w' ∧ Kb gj v w w'

set_option maxRecDepth 100000 in
set_option maxHeartbeats 4000000 in
theorem way_plain (w : World) (gj gc gr : Nat) (v : Value) (A B : Option Addr) (m n cA cB : Nat) (a b : Nat → D) (g : Nat → Nat → D) (r : Nat → D) (bits : Nat) (E T R : Nat) (hv : ∀ z, v ≠ .int .u32 z) (hm0 : m ≤ 1000000) (hJ : Bk w gj 146 #[.slice (some ⟨gc, 0, none⟩) n n, v, .slice (some ⟨gr, 0, none⟩) n n, .int .i64 bits]) (hG : OG w v m n g) (hR : OD w gr n r) (h : RDs w A n cA a) (h2 : RDs w B n cB b) (la : ∀ i, i < n → (a i).Lim E T) (lb : ∀ i, i < n → (b i).Lim E T) (lr : ∀ i, i < n → (r i).Lim (E + 1) R) (hTR : T + 3 ≤ R) (hET : E + R + 4 ≤ 16000) (hb2 : 2 ≤ bits) (hb3 : bits ≤ 4096) (ht : BTab w) :
    Calls Tryd.prog 89 #[.pointer (some ⟨gj, 0, none⟩), .slice A n cA, .slice B n cB, .bool false] w fun e w' => WayPost (fun i => halfM (a i) (b i) bits) (fun i => mor (r i) (halfO (a i) (b i) bits) bits) gj gc v m n g bits w e w' := by
  have HJ := Lib.hid hJ
  have HG := Lib.hid hG
  have HR := Lib.hid hR
  have HA := Lib.hid h
  have HB := Lib.hid h2
  have LA := Lib.hid la
  have LB := Lib.hid lb
  have LR := Lib.hid lr
  have HT := Lib.hid ht
  have n0 := h.2.1
  clear hJ hG hR h h2 la lb lr ht
  have LO := Lib.hid (fun (i : Nat) (hi : i < n) => (halfO_lim (LA.out i hi) (LB.out i hi) bits).mono (Nat.le_refl _) (show T + 3 ≤ R by omega))
  obtain ⟨xs, hor0, hgs⟩ := HG.out
  have HOR := Lib.hid hor0
  have HGS := Lib.hid hgs
  clear hor0 hgs HG
  have NJ := Lib.hid (HT.out.ne_joiner HJ.out)
  have NV := Lib.hid (HT.out.ne_row HOR.out)
  have eH : E + T + 4 ≤ 16000 := by omega
  have eM : E + 1 + R + 1 ≤ 16000 := by omega
  have cj0 := HJ.out.cell 0 rfl
  have cj1 := HJ.out.cell 1 rfl
  have cj2 := HJ.out.cell 2 rfl
  have cj3 := HJ.out.cell 3 rfl
  go_enter Tryd.func89, Tryd.ntmps89
  go_wp2_with fail
  refine (halves_plain _ A B n cA cB a b bits E T HA.out HB.out LA.out LB.out eH hb2 hb3 HT.out).mono ?_
  rintro e w1 ⟨⟨g1, g2, rfl, hg1, hg2, ho1, ho2⟩, hb⟩
  have J1 := Lib.hid (HJ.out.below hb)
  have O1 := Lib.hid ho1
  have O2 := Lib.hid ho2
  have R1 := Lib.hid (HR.out.below hb)
  have HB1 := Lib.hid hb
  have OR1 := Lib.hid (HOR.out.keep (w' := w1) (fun k hk => hb.block k (HOR.out.lt k hk)))
  have GS1 := Lib.hid (show ∀ k, k < m → ∃ b, xs[k]? = some (.slice (some ⟨b, 0, none⟩) n n) ∧ OD w1 b n (g k) from fun k hk => by obtain ⟨b, e1, e2⟩ := HGS.out k hk; exact ⟨b, e1, e2.below hb⟩)
  clear hb ho1 ho2 cj0 cj1 cj2 cj3
  have cj0 := J1.out.cell 0 rfl
  have fj0 := J1.out.free 0
  have cj1 := J1.out.cell 1 rfl
  have fj1 := J1.out.free 1
  have cj2 := J1.out.cell 2 rfl
  have fj2 := J1.out.free 2
  have cj3 := J1.out.cell 3 rfl
  have fj3 := J1.out.free 3
  have lj := J1.out.lt
  go_wp2_with (at_builtin; refine wpList_append_sl rfl _ _ rfl v m xs rfl (OR1.out.keep (fun k hk => sameA w1 (OR1.out.lt k hk) _)) ⟨w1.heap.size, 0, none⟩ 1 (some ⟨g1, 0, none⟩) n n rfl ?qc1 hm0 ?_)
  case qc1 => exact Bk.cell (Bk.new w1 _ _) 0 rfl
  intro v' w2 hor hgr hdk hob
  obtain ⟨gv, cv, rfl⟩ := hor.form
  have HM := Lib.hid (way_mid J1.out hv OR1.out GS1.out O1.out hor hgr hdk hob)
  clear hob hdk hgr hor
  obtain ⟨j2, j3, hg3, hk3, hd3, hw3, hrow⟩ := HM.out
  have J2 := Lib.hid j2
  have J3 := Lib.hid j3
  have G3 := Lib.hid hg3
  have K3 := Lib.hid hk3
  have D3 := Lib.hid hd3
  have W3 := Lib.hid hw3
  have O3 := Lib.hid (hrow _ _ _ O2.out)
  have R3 := Lib.hid (hrow _ _ _ R1.out)
  clear j2 j3 hg3 hk3 hd3 hw3 hrow HM cj0 cj1 cj2 cj3 fj0 fj1 fj2 fj3 lj OR1 GS1 O1 O2 R1 J1
  have cj0 := J2.out.cell 0 rfl
  have fj0 := J2.out.free 0
  have cj1 := J2.out.cell 1 rfl
  have fj1 := J2.out.free 1
  have cj2 := J2.out.cell 2 rfl
  have fj2 := J2.out.free 2
  have cj3 := J2.out.cell 3 rfl
  have fj3 := J2.out.free 3
  go_wp2_with fail
  generalize w2.setCell ⟨gj, 1, none⟩ (.slice (some ⟨gv, 0, none⟩) (m + 1) cv) = w3 at *
  clear cj0 cj1 cj2 cj3 fj0 fj1 fj2 fj3 J2
  have cj0 := J3.out.cell 0 rfl
  have fj0 := J3.out.free 0
  have cj1 := J3.out.cell 1 rfl
  have fj1 := J3.out.free 1
  have cj2 := J3.out.cell 2 rfl
  have fj2 := J3.out.free 2
  have cj3 := J3.out.cell 3 rfl
  have fj3 := J3.out.free 3
  have lj := J3.out.lt
  have HT3 := Lib.hid (show BTab w3.drew from ((BTab.below HT.out HB1.out).kb K3.out NJ.out NV.out).below ((Below.refl _ w3).drew))
  have k_0 : w3.cell? ⟨gj, 3, none⟩ = some (.int .i64 bits) := cj3
  have k_1 : w3.drew.cell? ⟨gj, 3, none⟩ = some (.int .i64 bits) := cj3
  go_region_with
    (first
     | (go_at_call 88; (with_reducible refine (more_any w3.drew (some ⟨gr, 0, none⟩) (some ⟨g2, 0, none⟩) n n n r (fun j => halfO (a j) (b j) bits) bits (E + 1) R (R3.out.dr.read n0) (O3.out.dr.read n0) LR.out LO.out eM hb2 hb3 HT3.out).mono ?_); rintro e w4 ⟨⟨g3, rfl, hg3, ho3⟩, hb⟩; have J4 := Lib.hid (J3.out.drew.below hb); have O4 := Lib.hid ho3; have HB4 := Lib.hid hb; clear hb ho3 cj0 cj1 cj2 cj3 fj0 fj1 fj2 fj3 lj k_0 k_1; have k_2 : w4.cell? ⟨gj, 3, none⟩ = some (.int .i64 bits) := J4.out.cell 3 rfl; have k_3 : (w4.setCell ⟨gj, 2, none⟩ (.slice (some ⟨g3, 0, none⟩) n n)).cell? ⟨gj, 3, none⟩ = some (.int .i64 bits) := (J4.out.set 2 _).cell 3 rfl; have cj0 := J4.out.cell 0 rfl; have cj1 := J4.out.cell 1 rfl; have cj2 := J4.out.cell 2 rfl; have cj3 := J4.out.cell 3 rfl; have fj0 := J4.out.free 0; have fj1 := J4.out.free 1; have fj2 := J4.out.free 2; have fj3 := J4.out.free 3; have lj := J4.out.lt))
  all_goals
    go_wp2
    have hj2 : ∀ z, (#[.slice (some ⟨gc, 0, none⟩) n n, .slice (some ⟨gv, 0, none⟩) (m + 1) cv, .slice (some ⟨gr, 0, none⟩) n n, .int .i64 bits] : Array Value)[2]? ≠ some (.int .u32 z) := fun z h => by cases h
    have HB5 := Lib.hid (((Below.refl _ w3).drew).trans HB4.out)
    go_ret
    refine ⟨rfl, .slice (some ⟨gv, 0, none⟩) (m + 1) cv, g3, ?_, (fun z h => by cases h), ?_, ?_, O4.out.set J4.out (by decide) 2 hj2 _, ?_, ?_, ?_⟩
    · have h := J4.out.set 2 (.slice (some ⟨g3, 0, none⟩) n n)
      exact h
    · exact (G3.out.below HB5.out).set J4.out (by decide) (by decide) 2 hj2 _
    · have := HB1.out.size
      have := K3.out.size
      exact Nat.le_trans (by omega) (show w3.heap.size ≤ g3 from hg3)
    · rcases W3.out with h | ⟨k, hk, h⟩
      · exact .inl h
      · exact .inr ⟨k, Nat.le_trans HB1.out.size hk, h⟩
    · exact (Dk.below HB1.out).trans (D3.out.trans ((Dk.below HB5.out).trans ((Dk.refl _).set J4.out 2 hj2 _)))
    · exact (Kb.of_below HB1.out).trans (K3.out.trans ((Kb.of_below HB5.out).trans (.set w4 2 _)))

set_option maxRecDepth 100000 in
set_option maxHeartbeats 4000000 in
theorem way_turn (w : World) (gj gc gr : Nat) (v : Value) (A B : Option Addr) (m n cA cB : Nat) (a b : Nat → D) (g : Nat → Nat → D) (r : Nat → D) (bits : Nat) (E T R : Nat) (hv : ∀ z, v ≠ .int .u32 z) (hm0 : m ≤ 1000000) (hJ : Bk w gj 146 #[.slice (some ⟨gc, 0, none⟩) n n, v, .slice (some ⟨gr, 0, none⟩) n n, .int .i64 bits]) (hG : OG w v m n g) (hR : OD w gr n r) (h : RDs w A n cA a) (h2 : RDs w B n cB b) (la : ∀ i, i < n → (a i).Lim E T) (lb : ∀ i, i < n → (b i).Lim E T) (lr : ∀ i, i < n → (r i).Lim (E + 1) R) (hTR : T + 3 ≤ R) (hET : E + R + 4 ≤ 16000) (hb2 : 2 ≤ bits) (hb3 : bits ≤ 4096) (ht : BTab w) :
    Calls Tryd.prog 89 #[.pointer (some ⟨gj, 0, none⟩), .slice A n cA, .slice B n cB, .bool true] w fun e w' => WayPost (fun i => halfM (a i) (b i).neg bits) (fun i => mor (r i) (halfO (a i) (b i).neg bits) bits) gj gc v m n g bits w e w' := by
  have HJ := Lib.hid hJ
  have HG := Lib.hid hG
  have HR := Lib.hid hR
  have HA := Lib.hid h
  have HB := Lib.hid h2
  have LA := Lib.hid la
  have LB := Lib.hid lb
  have LR := Lib.hid lr
  have HT := Lib.hid ht
  have n0 := h.2.1
  clear hJ hG hR h h2 la lb lr ht
  have LO := Lib.hid (fun (i : Nat) (hi : i < n) => (halfO_lim (LA.out i hi) (neg_lim (LB.out i hi)) bits).mono (Nat.le_refl _) (show T + 3 ≤ R by omega))
  obtain ⟨xs, hor0, hgs⟩ := HG.out
  have HOR := Lib.hid hor0
  have HGS := Lib.hid hgs
  clear hor0 hgs HG
  have NJ := Lib.hid (HT.out.ne_joiner HJ.out)
  have NV := Lib.hid (HT.out.ne_row HOR.out)
  have eH : E + T + 4 ≤ 16000 := by omega
  have eM : E + 1 + R + 1 ≤ 16000 := by omega
  have cj0 := HJ.out.cell 0 rfl
  have cj1 := HJ.out.cell 1 rfl
  have cj2 := HJ.out.cell 2 rfl
  have cj3 := HJ.out.cell 3 rfl
  go_enter Tryd.func89, Tryd.ntmps89
  go_wp2_with fail
  refine (halves_turn _ A B n cA cB a b bits E T HA.out HB.out LA.out LB.out eH hb2 hb3 HT.out).mono ?_
  rintro e w1 ⟨⟨g1, g2, rfl, hg1, hg2, ho1, ho2⟩, hb⟩
  have J1 := Lib.hid (HJ.out.below hb)
  have O1 := Lib.hid ho1
  have O2 := Lib.hid ho2
  have R1 := Lib.hid (HR.out.below hb)
  have HB1 := Lib.hid hb
  have OR1 := Lib.hid (HOR.out.keep (w' := w1) (fun k hk => hb.block k (HOR.out.lt k hk)))
  have GS1 := Lib.hid (show ∀ k, k < m → ∃ b, xs[k]? = some (.slice (some ⟨b, 0, none⟩) n n) ∧ OD w1 b n (g k) from fun k hk => by obtain ⟨b, e1, e2⟩ := HGS.out k hk; exact ⟨b, e1, e2.below hb⟩)
  clear hb ho1 ho2 cj0 cj1 cj2 cj3
  have cj0 := J1.out.cell 0 rfl
  have fj0 := J1.out.free 0
  have cj1 := J1.out.cell 1 rfl
  have fj1 := J1.out.free 1
  have cj2 := J1.out.cell 2 rfl
  have fj2 := J1.out.free 2
  have cj3 := J1.out.cell 3 rfl
  have fj3 := J1.out.free 3
  have lj := J1.out.lt
  go_wp2_with (at_builtin; refine wpList_append_sl rfl _ _ rfl v m xs rfl (OR1.out.keep (fun k hk => sameA w1 (OR1.out.lt k hk) _)) ⟨w1.heap.size, 0, none⟩ 1 (some ⟨g1, 0, none⟩) n n rfl ?qc1 hm0 ?_)
  case qc1 => exact Bk.cell (Bk.new w1 _ _) 0 rfl
  intro v' w2 hor hgr hdk hob
  obtain ⟨gv, cv, rfl⟩ := hor.form
  have HM := Lib.hid (way_mid J1.out hv OR1.out GS1.out O1.out hor hgr hdk hob)
  clear hob hdk hgr hor
  obtain ⟨j2, j3, hg3, hk3, hd3, hw3, hrow⟩ := HM.out
  have J2 := Lib.hid j2
  have J3 := Lib.hid j3
  have G3 := Lib.hid hg3
  have K3 := Lib.hid hk3
  have D3 := Lib.hid hd3
  have W3 := Lib.hid hw3
  have O3 := Lib.hid (hrow _ _ _ O2.out)
  have R3 := Lib.hid (hrow _ _ _ R1.out)
  clear j2 j3 hg3 hk3 hd3 hw3 hrow HM cj0 cj1 cj2 cj3 fj0 fj1 fj2 fj3 lj OR1 GS1 O1 O2 R1 J1
  have cj0 := J2.out.cell 0 rfl
  have fj0 := J2.out.free 0
  have cj1 := J2.out.cell 1 rfl
  have fj1 := J2.out.free 1
  have cj2 := J2.out.cell 2 rfl
  have fj2 := J2.out.free 2
  have cj3 := J2.out.cell 3 rfl
  have fj3 := J2.out.free 3
  go_wp2_with fail
  generalize w2.setCell ⟨gj, 1, none⟩ (.slice (some ⟨gv, 0, none⟩) (m + 1) cv) = w3 at *
  clear cj0 cj1 cj2 cj3 fj0 fj1 fj2 fj3 J2
  have cj0 := J3.out.cell 0 rfl
  have fj0 := J3.out.free 0
  have cj1 := J3.out.cell 1 rfl
  have fj1 := J3.out.free 1
  have cj2 := J3.out.cell 2 rfl
  have fj2 := J3.out.free 2
  have cj3 := J3.out.cell 3 rfl
  have fj3 := J3.out.free 3
  have lj := J3.out.lt
  have HT3 := Lib.hid (show BTab w3.drew from ((BTab.below HT.out HB1.out).kb K3.out NJ.out NV.out).below ((Below.refl _ w3).drew))
  have k_0 : w3.cell? ⟨gj, 3, none⟩ = some (.int .i64 bits) := cj3
  have k_1 : w3.drew.cell? ⟨gj, 3, none⟩ = some (.int .i64 bits) := cj3
  go_region_with
    (first
     | (go_at_call 88; (with_reducible refine (more_any w3.drew (some ⟨gr, 0, none⟩) (some ⟨g2, 0, none⟩) n n n r (fun j => halfO (a j) (b j).neg bits) bits (E + 1) R (R3.out.dr.read n0) (O3.out.dr.read n0) LR.out LO.out eM hb2 hb3 HT3.out).mono ?_); rintro e w4 ⟨⟨g3, rfl, hg3, ho3⟩, hb⟩; have J4 := Lib.hid (J3.out.drew.below hb); have O4 := Lib.hid ho3; have HB4 := Lib.hid hb; clear hb ho3 cj0 cj1 cj2 cj3 fj0 fj1 fj2 fj3 lj k_0 k_1; have k_2 : w4.cell? ⟨gj, 3, none⟩ = some (.int .i64 bits) := J4.out.cell 3 rfl; have k_3 : (w4.setCell ⟨gj, 2, none⟩ (.slice (some ⟨g3, 0, none⟩) n n)).cell? ⟨gj, 3, none⟩ = some (.int .i64 bits) := (J4.out.set 2 _).cell 3 rfl; have cj0 := J4.out.cell 0 rfl; have cj1 := J4.out.cell 1 rfl; have cj2 := J4.out.cell 2 rfl; have cj3 := J4.out.cell 3 rfl; have fj0 := J4.out.free 0; have fj1 := J4.out.free 1; have fj2 := J4.out.free 2; have fj3 := J4.out.free 3; have lj := J4.out.lt))
  all_goals
    go_wp2
    have hj2 : ∀ z, (#[.slice (some ⟨gc, 0, none⟩) n n, .slice (some ⟨gv, 0, none⟩) (m + 1) cv, .slice (some ⟨gr, 0, none⟩) n n, .int .i64 bits] : Array Value)[2]? ≠ some (.int .u32 z) := fun z h => by cases h
    have HB5 := Lib.hid (((Below.refl _ w3).drew).trans HB4.out)
    go_ret
    refine ⟨rfl, .slice (some ⟨gv, 0, none⟩) (m + 1) cv, g3, ?_, (fun z h => by cases h), ?_, ?_, O4.out.set J4.out (by decide) 2 hj2 _, ?_, ?_, ?_⟩
    · have h := J4.out.set 2 (.slice (some ⟨g3, 0, none⟩) n n)
      exact h
    · exact (G3.out.below HB5.out).set J4.out (by decide) (by decide) 2 hj2 _
    · have := HB1.out.size
      have := K3.out.size
      exact Nat.le_trans (by omega) (show w3.heap.size ≤ g3 from hg3)
    · rcases W3.out with h | ⟨k, hk, h⟩
      · exact .inl h
      · exact .inr ⟨k, Nat.le_trans HB1.out.size hk, h⟩
    · exact (Dk.below HB1.out).trans (D3.out.trans ((Dk.below HB5.out).trans ((Dk.refl _).set J4.out 2 hj2 _)))
    · exact (Kb.of_below HB1.out).trans (K3.out.trans ((Kb.of_below HB5.out).trans (.set w4 2 _)))

end Go.Proofs.YtgioppkggpfnoaaDoor.Nu
end

section
/- What join.Hull keeps while it goes: memory alone. -/
set_option linter.unusedVariables false
namespace Go.Proofs.YtgioppkggpfnoaaDoor.Nu
open Go.RowKit Go.Proofs

theorem OG.congr {w : World} {v : Value} {m n : Nat} {g g' : Nat → Nat → D} (h : OG w v m n g) (e : ∀ k, k < m → g k = g' k) : OG w v m n g' := by
  obtain ⟨xs, h1, h2⟩ := h
  exact ⟨xs, h1, fun k hk => by rw [← e k hk]; exact h2 k hk⟩
theorem OG.read {w : World} {v : Value} {m n : Nat} {g : Nat → Nat → D} (h : OG w v (m + 1) n g) (n0 : n ≤ 1000000) (m0 : m + 1 ≤ 1000000) : ∃ gg c, v = .slice (some ⟨gg, 0, none⟩) (m + 1) c ∧ RDss w (some ⟨gg, 0, none⟩) (m + 1) c n g := by
  obtain ⟨xs, h1, h2⟩ := h
  rcases h1.2 with ⟨_, e⟩ | ⟨g0, cap, cur, e, hc, _, hb, hs, ht, _⟩
  · subst e
    have := h1.1
    simp at this
  · refine ⟨g0, cap, e, hc, m0, fun _ => ⟨g0, 0, rfl, hb.lt, fun k hk => ?_⟩⟩
    obtain ⟨b, e1, hd⟩ := h2 k hk
    refine ⟨some ⟨b, 0, none⟩, n, ?_, hd.read n0⟩
    have e2 : cur[k]? = some (.slice (some ⟨b, 0, none⟩) n n) := by
      rw [← e1, ← ht, List.getElem?_take_of_lt hk]
      simp
    rw [Nat.zero_add]
    exact (Lib.cell_of_heap hb k).trans e2
theorem OG.rd {w : World} {gg m c n : Nat} {g : Nat → Nat → D} (h : OG w (.slice (some ⟨gg, 0, none⟩) (m + 1) c) (m + 1) n g) (n0 : n ≤ 1000000) (m0 : m + 1 ≤ 1000000) : RDss w (some ⟨gg, 0, none⟩) (m + 1) c n g := by
  obtain ⟨gg', c', e, h2⟩ := h.read n0 m0
  injection e with e1 e2 e3
  subst e3
  rw [e1]
  exact h2
theorem OD.neb {w : World} {g n b : Nat} {f : Nat → D} {t : TypeId} {cs : Array Value} (h : OD w g n f) (B : Bk w b t cs) (ht : t ≠ 53) : g ≠ b := fun e => by
  subst e
  obtain ⟨cs', h'⟩ := h.bk
  exact ht (B.uniq h').1
/-- The boxes, the joiner, its rows. -/
structure HS (w0 w : World) (gj g1 : Nat) (ca cb co : Array Value) (n bits : Nat) (C : Nat → D) (g R : Nat → Nat → D) (m : Nat) (v : Value) (gr : Nat) : Prop where
  ba : Bk w w0.heap.size 42 ca
  bb : Bk w (w0.heap.size + 1) 42 cb
  bo : Bk w (w0.heap.size + 2) 42 co
  bj : Bk w gj 146 #[.slice (some ⟨g1, 0, none⟩) n n, v, .slice (some ⟨gr, 0, none⟩) n n, .int .i64 bits]
  oc : OD w g1 n C
  or : OD w gr n (R m)
  og : OG w v m n g
  vv : ∀ z, v ≠ .int .u32 z
  vo : ∀ k, v.ownBlock = some k → w0.heap.size ≤ k
  gj0 : w0.heap.size ≤ gj
  be : Below w0.heap.size w0 w
theorem HS.below {w0 w w' : World} {gj g1 : Nat} {ca cb co : Array Value} {n bits : Nat} {C : Nat → D} {g R : Nat → Nat → D} {m : Nat} {v : Value} {gr : Nat} (S : HS w0 w gj g1 ca cb co n bits C g R m v gr) (h : Below w.heap.size w w') : HS w0 w' gj g1 ca cb co n bits C g R m v gr :=
  ⟨S.ba.below h, S.bb.below h, S.bo.below h, S.bj.below h, S.oc.below h, S.or.below h, S.og.below h, S.vv, S.vo, S.gj0, below_tr S.be h⟩
theorem HS.nv {w0 w : World} {gj g1 : Nat} {ca cb co : Array Value} {n bits : Nat} {C : Nat → D} {g R : Nat → Nat → D} {m : Nat} {v : Value} {gr : Nat} (S : HS w0 w gj g1 ca cb co n bits C g R m v gr) {b : Nat} {t : TypeId} {cs : Array Value} (B : Bk w b t cs) (ht : t ≠ 39) : v.ownBlock ≠ some b := fun e => by
  obtain ⟨cs', h⟩ := S.og.bk b e
  exact ht (B.uniq h).1
theorem HS.nj {w0 w : World} {gj g1 : Nat} {ca cb co : Array Value} {n bits : Nat} {C : Nat → D} {g R : Nat → Nat → D} {m : Nat} {v : Value} {gr : Nat} (S : HS w0 w gj g1 ca cb co n bits C g R m v gr) {b : Nat} {t : TypeId} {cs : Array Value} (B : Bk w b t cs) (ht : t ≠ 146) : b ≠ gj := fun e => by
  subst e
  exact ht (B.uniq S.bj).1
theorem HS.step {w0 w w' : World} {gj g1 : Nat} {ca cb co : Array Value} {n bits : Nat} {C : Nat → D} {g R : Nat → Nat → D} {m : Nat} {v : Value} {gr : Nat} {F r' : Nat → D} {e : Ending} (S : HS w0 w gj g1 ca cb co n bits C g R m v gr) (P : WayPost F r' gj g1 v m n g bits w e w') (hF : F = g m) (hR : r' = R (m + 1)) :
    e = .returned (.int .i64 0) ∧ ∃ v' gr', HS w0 w' gj g1 ca cb co n bits C g R (m + 1) v' gr' ∧ (∀ t, t < w.heap.size → v.ownBlock ≠ some t → v'.ownBlock ≠ some t) ∧ Kb gj v w w' ∧ Dk w w' := by
  obtain ⟨rfl, v', gr', h1, h2, h3, h4, h5, h6, h7, h8⟩ := P
  have zj : (42 : TypeId) ≠ 146 := by decide
  have zr : (42 : TypeId) ≠ 39 := by decide
  have dj : (53 : TypeId) ≠ 146 := by decide
  have dr : (53 : TypeId) ≠ 39 := by decide
  obtain ⟨_, c1⟩ := S.oc.bk
  refine ⟨rfl, v', gr', ⟨S.ba.kb h8 (S.nj S.ba zj) (S.nv S.ba zr), S.bb.kb h8 (S.nj S.bb zj) (S.nv S.bb zr), S.bo.kb h8 (S.nj S.bo zj) (S.nv S.bo zr), h1, S.oc.kb h8 h7 (S.nj c1 dj) (S.nv c1 dr), hR ▸ h5, h3.congr fun k hk => ?_, h2, fun k hk => ?_, S.gj0, h8.below S.be S.gj0 S.vo S.be.size⟩, fun t ht hn he => ?_, h8, h7⟩
  · by_cases e : k = m
    · rw [if_pos e, hF, e]
    · rw [if_neg e]
  · rcases h6 with e | ⟨k', hk', e⟩
    · exact S.vo k (by rw [← e]; exact hk)
    · rw [e] at hk
      injection hk with hk
      have := S.be.size
      omega
  · rcases h6 with e | ⟨k', hk', e⟩
    · exact hn (by rw [← e]; exact he)
    · rw [e] at he
      injection he with he
      omega
/-- With the box that the function of a way holds. -/
structure HC (w0 w : World) (gj g1 gt gN : Nat) (ca cb co : Array Value) (n bits : Nat) (C : Nat → D) (g R : Nat → Nat → D) (m : Nat) (v : Value) (gr : Nat) : Prop where
  s : HS w0 w gj g1 ca cb co n bits C g R m v gr
  bt : Bk w gt 39 #[.slice (some ⟨gN, 0, none⟩) n n]
  on : OD w gN n (fun _ => D.zero)
  vt : v.ownBlock ≠ some gt
theorem HC.below {w0 w w' : World} {gj g1 gt gN : Nat} {ca cb co : Array Value} {n bits : Nat} {C : Nat → D} {g R : Nat → Nat → D} {m : Nat} {v : Value} {gr : Nat} (S : HC w0 w gj g1 gt gN ca cb co n bits C g R m v gr) (h : Below w.heap.size w w') : HC w0 w' gj g1 gt gN ca cb co n bits C g R m v gr :=
  ⟨S.s.below h, S.bt.below h, S.on.below h, S.vt⟩
theorem HC.step {w0 w w' : World} {gj g1 gt gN : Nat} {ca cb co : Array Value} {n bits : Nat} {C : Nat → D} {g R : Nat → Nat → D} {m : Nat} {v : Value} {gr : Nat} {F r' : Nat → D} {e : Ending} (S : HC w0 w gj g1 gt gN ca cb co n bits C g R m v gr) (P : WayPost F r' gj g1 v m n g bits w e w') (hF : F = g m) (hR : r' = R (m + 1)) :
    e = .returned (.int .i64 0) ∧ ∃ v' gr', HC w0 w' gj g1 gt gN ca cb co n bits C g R (m + 1) v' gr' := by
  obtain ⟨e, v', gr', h1, h2, h3, h4⟩ := S.s.step P hF hR
  obtain ⟨_, c1⟩ := S.on.bk
  exact ⟨e, v', gr', h1, S.bt.kb h3 (S.s.nj S.bt (by decide)) S.vt, S.on.kb h3 h4 (S.s.nj c1 (by decide)) (S.s.nv c1 (by decide)), h2 gt S.bt.lt S.vt⟩
theorem HS.made {w0 w w' : World} {gj g1 gt gN : Nat} {ca cb co : Array Value} {n bits : Nat} {C : Nat → D} {g R : Nat → Nat → D} {m : Nat} {v : Value} {gr : Nat} (S : HS w0 w gj g1 ca cb co n bits C g R m v gr) (h : Below w.heap.size w w') (ht : w.heap.size ≤ gt) (bt : Bk w' gt 39 #[.slice (some ⟨gN, 0, none⟩) n n]) (on : OD w' gN n (fun _ => D.zero)) : HC w0 w' gj g1 gt gN ca cb co n bits C g R m v gr :=
  ⟨S.below h, bt, on, fun e => by have := S.og.lt gt e; omega⟩
theorem hull_g0 (a b : Zo) (bits : Nat) : (fun i => halfM (a.c i) (b.c i).neg bits) = (hull a b bits).g 0 := by
  funext i
  simp [hull, wayA, wayB]
theorem hull_r0 (a b : Zo) (bits : Nat) : (fun i => mor (hullR a b bits 0 i) (halfO (a.c i) (b.c i).neg bits) bits) = hullR a b bits 1 := by
  funext i
  simp [hullR, wayA, wayB]
theorem way1 (a : Zo) (i : Nat) : wayA a (1 + 2 * i) = a.at i := by unfold wayA; rw [if_neg (by omega), show (1 + 2 * i - 1) / 2 = i by omega]
theorem way2 (a : Zo) (i : Nat) : wayA a (1 + 2 * i + 1) = a.at i := by unfold wayA; rw [if_neg (by omega), show (1 + 2 * i + 1 - 1) / 2 = i by omega]
theorem wayb1 (a : Zo) (i : Nat) : wayB a (1 + 2 * i) = a.at i := by unfold wayB; rw [if_neg (by omega), if_pos (by omega), show (1 + 2 * i - 1) / 2 = i by omega]
theorem wayb2 (a : Zo) (i : Nat) : wayB a (1 + 2 * i + 1) = fun j => (a.at i j).neg := by unfold wayB; rw [if_neg (by omega), if_neg (by omega), show (1 + 2 * i + 1 - 1) / 2 = i by omega]
theorem hull_g1 (a b : Zo) (bits i : Nat) : (fun j => halfM (a.at i j) (b.at i j) bits) = (hull a b bits).g (1 + 2 * i) := by
  show _ = fun j => halfM (wayA a (1 + 2 * i) j) (wayB b (1 + 2 * i) j) bits
  rw [way1, wayb1]
theorem hull_r1 (a b : Zo) (bits i : Nat) : (fun j => mor (hullR a b bits (1 + 2 * i) j) (halfO (a.at i j) (b.at i j) bits) bits) = hullR a b bits (1 + 2 * i + 1) := by
  show _ = fun j => mor (hullR a b bits (1 + 2 * i) j) (halfO (wayA a (1 + 2 * i) j) (wayB b (1 + 2 * i) j) bits) bits
  rw [way1, wayb1]
theorem hull_g2 (a b : Zo) (bits i : Nat) : (fun j => halfM (a.at i j) (b.at i j).neg bits) = (hull a b bits).g (1 + 2 * i + 1) := by
  show _ = fun j => halfM (wayA a (1 + 2 * i + 1) j) (wayB b (1 + 2 * i + 1) j) bits
  rw [way2, wayb2]
theorem hull_r2 (a b : Zo) (bits i : Nat) : (fun j => mor (hullR a b bits (1 + 2 * i + 1) j) (halfO (a.at i j) (b.at i j).neg bits) bits) = hullR a b bits (1 + 2 * i + 1 + 1) := by
  show _ = fun j => mor (hullR a b bits (1 + 2 * i + 1) j) (halfO (wayA a (1 + 2 * i + 1) j) (wayB b (1 + 2 * i + 1) j) bits) bits
  rw [way2, wayb2]
end Go.Proofs.YtgioppkggpfnoaaDoor.Nu
end

section
/- The walk of join.Hull. -/
set_option linter.unusedVariables false
namespace Go.Proofs.YtgioppkggpfnoaaDoor.Nu
open Go.RowKit Go.Proofs

set_option maxRecDepth 100000 in
set_option maxHeartbeats 4000000 in
theorem hull_any (w : World) (Aac Aag Aar Abc Abg Abr : Option Addr) (cac cag car cbc cbg cbr : Nat) (a b : Zo) (bits : Nat) (E T : Nat) (ha : RZo w ⟨Aac, cac, Aag, cag, Aar, car⟩ a) (hb : RZo w ⟨Abc, cbc, Abg, cbg, Abr, cbr⟩ b) (hn : a.n = b.n) (oa : a.Ok) (ob : b.Ok) (la : a.Lim E T) (lb : b.Lim E T) (hna : Aag = none → cag = 0) (hnb : Abg = none → cbg = 0) (hm : max a.m b.m ≤ 2047) (hET : E + T + 4 * max a.m b.m + 20 ≤ 16000) (hb2 : 2 ≤ bits) (hb3 : bits ≤ 4096) (ht : BTab w) :
    Calls Tryd.prog 26 #[.agg #[.slice Aac a.n cac, .slice Aag a.m cag, .slice Aar a.n car], .agg #[.slice Abc b.n cbc, .slice Abg b.m cbg, .slice Abr b.n cbr], .int .i64 bits] w fun e w' => (∃ (gc gg gr cg : Nat), e = .returned (.tuple #[.agg #[.slice (some ⟨gc, 0, none⟩) a.n a.n, .slice (some ⟨gg, 0, none⟩) (hull a b bits).m cg, .slice (some ⟨gr, 0, none⟩) a.n a.n], .int .i64 0]) ∧ RZo w' ⟨some ⟨gc, 0, none⟩, a.n, some ⟨gg, 0, none⟩, cg, some ⟨gr, 0, none⟩, a.n⟩ (hull a b bits)) ∧ Below w.heap.size w w' := by
  have HA := Lib.hid ha
  have HB := Lib.hid hb
  have OA := Lib.hid oa
  have OB := Lib.hid ob
  have LA := Lib.hid la
  have LB := Lib.hid lb
  have HT := Lib.hid ht
  have HNA := Lib.hid hna
  have HNB := Lib.hid hnb
  have n16 := oa.n
  have n0 : a.n ≤ 1000000 := by omega
  clear ha hb oa ob la lb ht hna hnb
  have hmk := fun W => make_D a.n n0 W
  have HMK := Lib.hid hmk
  clear hmk
  have m1 : (0 : Int) ≤ max (a.m : Int) (b.m : Int) := by omega
  have m2 : max (a.m : Int) (b.m : Int) ≤ 2047 := by omega
  have eH : E + T + 4 ≤ 16000 := by omega
  have HBC := Lib.hid (show RDs w Abc a.n cbc b.c by rw [hn]; exact HB.out.c)
  have HBR := Lib.hid (show RDs w Abr a.n cbr b.r by rw [hn]; exact HB.out.r)
  have HBG := Lib.hid (show RDss w Abg b.m cbg a.n b.g by rw [hn]; exact HB.out.g)
  have HAC := Lib.hid (show RDs w Aac a.n cac a.c from HA.out.c)
  have HAR := Lib.hid (show RDs w Aar a.n car a.r from HA.out.r)
  have HAG := Lib.hid (show RDss w Aag a.m cag a.n a.g from HA.out.g)
  have ZB := Lib.hid (fun (W : World) (h : RZo W ⟨Abc, cbc, Abg, cbg, Abr, cbr⟩ b) => zcheck_good W Abc Abg Abr cbc cbg cbr b h OB.out HNB.out)
  have ATB := Lib.hid (fun (W : World) (i gt gN : Nat) (h : RDss W Abg b.m cbg b.n b.g) (h2 : OD W gN b.n (fun _ => D.zero)) (h3 : Bk W gt 39 #[.slice (some ⟨gN, 0, none⟩) b.n b.n]) (hi : i ≤ 1000000) (n0 : b.n ≤ 1000000) => at_any W Abc Abg Abr cbc cbg cbr b i gt gN h h2 h3 hi n0)
  rw [← hn] at ZB ATB ⊢
  have HN := Lib.hid hn
  clear hn
  have BX := Lib.hid (boxes3 w 42 #[.slice Aac a.n cac, .slice Aag a.m cag, .slice Aar a.n car] 42 #[.slice Abc a.n cbc, .slice Abg b.m cbg, .slice Abr a.n cbr] 42 #[.slice none 0 0, .slice none 0 0, .slice none 0 0])
  go_enter Tryd.func26, Tryd.ntmps26
  go_wp2_with fail
  generalize ((w.alloc (.cells #[.slice Aac a.n cac, .slice Aag a.m cag, .slice Aar a.n car] 42)).alloc (.cells #[.slice Abc a.n cbc, .slice Abg b.m cbg, .slice Abr a.n cbr] 42)).alloc (.cells #[.slice none 0 0, .slice none 0 0, .slice none 0 0] 42) = w0 at *
  obtain ⟨b0, b1, b2, hw⟩ := BX.out
  have Ba_0 := Lib.hid b0
  have Bb_0 := Lib.hid b1
  have Bo_0 := Lib.hid b2
  have HB_0 := Lib.hid hw
  have K := Dk.below (hw.mono (Nat.le_refl _))
  clear BX hw b0 b1 b2
  clear K
  have la := Ba_0.out.lt
  obtain ⟨ca0, ca1, ca2⟩ := Ba_0.out.cells3
  have lb := Bb_0.out.lt
  obtain ⟨cb0, cb1, cb2⟩ := Bb_0.out.cells3
  have lo := Bo_0.out.lt
  obtain ⟨co0, co1, co2⟩ := Bo_0.out.cells3
  go_wp2_with fail
  refine (zcheck_good _ Aac Aag Aar cac cag car a (HA.out.below HB_0.out) OA.out HNA.out).mono ?_
  rintro e w1 ⟨rfl, hb⟩
  clear la ca0 ca1 ca2 lb cb0 cb1 cb2 lo co0 co1 co2
  have K := Dk.below hb
  have Ba_1 := Lib.hid (show Bk _ _ _ #[.slice Aac a.n cac, .slice Aag a.m cag, .slice Aar a.n car] from Ba_0.out.below hb)
  have Bb_2 := Lib.hid (show Bk _ _ _ #[.slice Abc a.n cbc, .slice Abg b.m cbg, .slice Abr a.n cbr] from Bb_0.out.below hb)
  have Bo_3 := Lib.hid (show Bk _ _ _ #[.slice none 0 0, .slice none 0 0, .slice none 0 0] from Bo_0.out.below hb)
  have HB_4 := Lib.hid (below_tr HB_0.out hb)
  clear hb
  clear K Ba_0 Bb_0 Bo_0 HB_0
  have la := Ba_1.out.lt
  obtain ⟨ca0, ca1, ca2⟩ := Ba_1.out.cells3
  have lb := Bb_2.out.lt
  obtain ⟨cb0, cb1, cb2⟩ := Bb_2.out.cells3
  have lo := Bo_3.out.lt
  obtain ⟨co0, co1, co2⟩ := Bo_3.out.cells3
  go_wp2_with fail
  refine (ZB.out _ (HB.out.below HB_4.out)).mono ?_
  rintro e w2 ⟨rfl, hb⟩
  clear la ca0 ca1 ca2 lb cb0 cb1 cb2 lo co0 co1 co2
  have K := Dk.below hb
  have Ba_5 := Lib.hid (show Bk _ _ _ #[.slice Aac a.n cac, .slice Aag a.m cag, .slice Aar a.n car] from Ba_1.out.below hb)
  have Bb_6 := Lib.hid (show Bk _ _ _ #[.slice Abc a.n cbc, .slice Abg b.m cbg, .slice Abr a.n cbr] from Bb_2.out.below hb)
  have Bo_7 := Lib.hid (show Bk _ _ _ #[.slice none 0 0, .slice none 0 0, .slice none 0 0] from Bo_3.out.below hb)
  have HB_8 := Lib.hid (below_tr HB_4.out hb)
  clear hb
  clear K Ba_1 Bb_2 Bo_3 HB_4
  have la := Ba_5.out.lt
  obtain ⟨ca0, ca1, ca2⟩ := Ba_5.out.cells3
  have lb := Bb_6.out.lt
  obtain ⟨cb0, cb1, cb2⟩ := Bb_6.out.cells3
  have lo := Bo_7.out.lt
  obtain ⟨co0, co1, co2⟩ := Bo_7.out.cells3
  go_wp2_with fail
  refine (halves_plain _ Aac Abc a.n cac cbc a.c b.c bits E T (HAC.out.below HB_8.out) (HBC.out.below HB_8.out) LA.out.c (fun i hi => LB.out.c i (by rw [← HN.out]; exact hi)) eH hb2 hb3 (HT.out.below HB_8.out)).mono ?_
  rintro e w3 ⟨⟨g1, g2, rfl, hg1, hg2, ho1, ho2⟩, hb⟩
  clear la ca0 ca1 ca2 lb cb0 cb1 cb2 lo co0 co1 co2
  have K := Dk.below hb
  have Ba_9 := Lib.hid (show Bk _ _ _ #[.slice Aac a.n cac, .slice Aag a.m cag, .slice Aar a.n car] from Ba_5.out.below hb)
  have Bb_10 := Lib.hid (show Bk _ _ _ #[.slice Abc a.n cbc, .slice Abg b.m cbg, .slice Abr a.n cbr] from Bb_6.out.below hb)
  have Bo_11 := Lib.hid (show Bk _ _ _ #[.slice none 0 0, .slice none 0 0, .slice none 0 0] from Bo_7.out.below hb)
  have HB_12 := Lib.hid (below_tr HB_8.out hb)
  clear hb
  clear K Ba_5 Bb_6 Bo_7 HB_8
  have O1 := Lib.hid ho1
  have O2 := Lib.hid ho2
  clear ho1 ho2
  have la := Ba_9.out.lt
  obtain ⟨ca0, ca1, ca2⟩ := Ba_9.out.cells3
  have lb := Bb_10.out.lt
  obtain ⟨cb0, cb1, cb2⟩ := Bb_10.out.cells3
  have lo := Bo_11.out.lt
  obtain ⟨co0, co1, co2⟩ := Bo_11.out.cells3
  have hmk := HMK.out
  have n62 : a.n ≤ 16 := n16
  have n_13 := Ba_9.out.lt
  have n_14 := Bb_10.out.lt
  have n_15 := Bo_11.out.lt
  have n_16 := O1.out.lt
  have n_17 := O2.out.lt
  go_wp2_with fail
  clear la ca0 ca1 ca2 lb cb0 cb1 cb2 lo co0 co1 co2
  have K : Dk w3 ((w3.alloc (.cells #[.slice (some ⟨g1, 0, none⟩) a.n a.n, .slice none 0 0, .slice none 0 0, .int .i64 bits] 146)).alloc (.cells (mkD a.n) 53)) := (((Dk.refl _).alloc _).alloc _)
  have Ba_18 := Lib.hid (show Bk ((w3.alloc (.cells #[.slice (some ⟨g1, 0, none⟩) a.n a.n, .slice none 0 0, .slice none 0 0, .int .i64 bits] 146)).alloc (.cells (mkD a.n) 53)) (w.heap.size) 42 #[.slice Aac a.n cac, .slice Aag a.m cag, .slice Aar a.n car] from ((Ba_9.out.alloc _).alloc _))
  have Bb_19 := Lib.hid (show Bk ((w3.alloc (.cells #[.slice (some ⟨g1, 0, none⟩) a.n a.n, .slice none 0 0, .slice none 0 0, .int .i64 bits] 146)).alloc (.cells (mkD a.n) 53)) (w.heap.size + 1) 42 #[.slice Abc a.n cbc, .slice Abg b.m cbg, .slice Abr a.n cbr] from ((Bb_10.out.alloc _).alloc _))
  have Bo_20 := Lib.hid (show Bk ((w3.alloc (.cells #[.slice (some ⟨g1, 0, none⟩) a.n a.n, .slice none 0 0, .slice none 0 0, .int .i64 bits] 146)).alloc (.cells (mkD a.n) 53)) (w.heap.size + 2) 42 #[.slice none 0 0, .slice none 0 0, .slice none 0 0] from ((Bo_11.out.alloc _).alloc _))
  have Bj_21 := Lib.hid (show Bk ((w3.alloc (.cells #[.slice (some ⟨g1, 0, none⟩) a.n a.n, .slice none 0 0, .slice none 0 0, .int .i64 bits] 146)).alloc (.cells (mkD a.n) 53)) (w3.heap.size) 146 #[.slice (some ⟨g1, 0, none⟩) a.n a.n, .slice none 0 0, .slice none 0 0, .int .i64 bits] from ((Bk.new _ 146 #[.slice (some ⟨g1, 0, none⟩) a.n a.n, .slice none 0 0, .slice none 0 0, .int .i64 bits]).alloc _))
  have Oc_22 := Lib.hid (show OD ((w3.alloc (.cells #[.slice (some ⟨g1, 0, none⟩) a.n a.n, .slice none 0 0, .slice none 0 0, .int .i64 bits] 146)).alloc (.cells (mkD a.n) 53)) (g1) a.n (fun j => halfM (a.c j) (b.c j) bits) from ((O1.out.al _).al _))
  have Of_23 := Lib.hid (show OD ((w3.alloc (.cells #[.slice (some ⟨g1, 0, none⟩) a.n a.n, .slice none 0 0, .slice none 0 0, .int .i64 bits] 146)).alloc (.cells (mkD a.n) 53)) (g2) a.n (fun j => halfO (a.c j) (b.c j) bits) from ((O2.out.al _).al _))
  have Ou_24 := Lib.hid (show OD ((w3.alloc (.cells #[.slice (some ⟨g1, 0, none⟩) a.n a.n, .slice none 0 0, .slice none 0 0, .int .i64 bits] 146)).alloc (.cells (mkD a.n) 53)) (w3.heap.size + 1) a.n (fun _ => D.zero) from (OD.made1 _ _ a.n))
  have HB_25 := Lib.hid (show Below w.heap.size w ((w3.alloc (.cells #[.slice (some ⟨g1, 0, none⟩) a.n a.n, .slice none 0 0, .slice none 0 0, .int .i64 bits] 146)).alloc (.cells (mkD a.n) 53)) from (below_al (below_al HB_12.out _) _))
  clear K Ba_9 Bb_10 Bo_11 O1 O2 HB_12
  generalize (w3.alloc (.cells #[.slice (some ⟨g1, 0, none⟩) a.n a.n, .slice none 0 0, .slice none 0 0, .int .i64 bits] 146)).alloc (.cells (mkD a.n) 53) = w4 at *
  clear hmk
  have H0 := Lib.hid (show Bk w4 (w.heap.size) 42 #[.slice Aac a.n cac, .slice Aag a.m cag, .slice Aar a.n car] ∧ Bk w4 (w.heap.size + 1) 42 #[.slice Abc a.n cbc, .slice Abg b.m cbg, .slice Abr a.n cbr] ∧ Bk w4 (w.heap.size + 2) 42 #[.slice none 0 0, .slice none 0 0, .slice none 0 0] ∧ Bk w4 (w3.heap.size) 146 #[.slice (some ⟨g1, 0, none⟩) a.n a.n, .slice none 0 0, .slice none 0 0, .int .i64 bits] ∧ OD w4 (g1) a.n (fun j => halfM (a.c j) (b.c j) bits) ∧ OD w4 (g2) a.n (fun j => halfO (a.c j) (b.c j) bits) ∧ OD w4 (w3.heap.size + 1) a.n (fun j => if j < 0 then (a.r j).mx (b.r j) else D.zero) ∧ Below w.heap.size w w4 from ⟨Ba_18.out, Bb_19.out, Bo_20.out, Bj_21.out, Oc_22.out, Of_23.out, OD.start (F := fun j => (a.r j).mx (b.r j)) Ou_24.out, HB_25.out⟩)
  clear Ba_18 Bb_19 Bo_20 Bj_21 Oc_22 Of_23 Ou_24 HB_25
  go_loopw [70] (fun k wr => ∃ i : Nat, k = .int .i64 i ∧ i ≤ a.n ∧ Hid (Bk wr (w.heap.size) 42 #[.slice Aac a.n cac, .slice Aag a.m cag, .slice Aar a.n car] ∧ Bk wr (w.heap.size + 1) 42 #[.slice Abc a.n cbc, .slice Abg b.m cbg, .slice Abr a.n cbr] ∧ Bk wr (w.heap.size + 2) 42 #[.slice none 0 0, .slice none 0 0, .slice none 0 0] ∧ Bk wr (w3.heap.size) 146 #[.slice (some ⟨g1, 0, none⟩) a.n a.n, .slice none 0 0, .slice none 0 0, .int .i64 bits] ∧ OD wr (g1) a.n (fun j => halfM (a.c j) (b.c j) bits) ∧ OD wr (g2) a.n (fun j => halfO (a.c j) (b.c j) bits) ∧ OD wr (w3.heap.size + 1) a.n (fun j => if j < i then (a.r j).mx (b.r j) else D.zero) ∧ Below w.heap.size w wr)) (fun k _ => a.n - (intOf k).toNat)
  case atStart => exact ⟨0, rfl, Nat.zero_le _, H0⟩
  case round =>
    clear H0
    obtain ⟨i, rfl, hi, Hr⟩ := hrel
    by_cases hi2 : i < a.n
    · have q3 : (i : Int) < (a.n : Int) := by omega
      obtain ⟨tb0, tb1, tb2, tb3, tr0, tr1, tr2, tz⟩ := Hr.out
      have Ba_27 := Lib.hid tb0
      have Bb_28 := Lib.hid tb1
      have Bo_29 := Lib.hid tb2
      have Bj_30 := Lib.hid tb3
      have Oc_31 := Lib.hid tr0
      have Of_32 := Lib.hid tr1
      have Ou_33 := Lib.hid tr2
      have HB_34 := Lib.hid tz
      clear tb0 tb1 tb2 tb3 tr0 tr1 tr2 tz
      clear Hr
      obtain ⟨A1, o1, rfl, hl1, hcc⟩ := HAR.out.2.2 (by omega)
      obtain ⟨q, z0, z1, z2, hq⟩ := hcc i hi2
      obtain ⟨A2, o2, rfl, hl2, hc2⟩ := HBR.out.2.2 (by omega)
      obtain ⟨t, y0, y1, y2, ht⟩ := hc2 i hi2
      have X0 := Lib.hid z0
      have Y0 := Lib.hid y0
      have X1 := Lib.hid z1
      have Y1 := Lib.hid y1
      have X2 := Lib.hid z2
      have Y2 := Lib.hid y2
      have RQ := Lib.hid (hq.below HB_34.out)
      have RT := Lib.hid (ht.below HB_34.out)
      clear hcc z0 z1 z2 hq hc2 y0 y1 y2 ht
      have Lra := Lib.hid (LA.out.r i hi2)
      have Lrb := Lib.hid (LB.out.r i (by rw [← HN.out]; exact hi2))
      have eT : E + T ≤ 16000 := by omega
      have la := Ba_27.out.lt
      obtain ⟨ca0, ca1, ca2⟩ := Ba_27.out.cells3
      have lb := Bb_28.out.lt
      obtain ⟨cb0, cb1, cb2⟩ := Bb_28.out.cells3
      have lo := Bo_29.out.lt
      obtain ⟨co0, co1, co2⟩ := Bo_29.out.cells3
      have lj := Bj_30.out.lt
      obtain ⟨cj0, cj1, cj2, cj3⟩ := Bj_30.out.cells4
      have cr10 : wr.cell? ⟨A1, o1 + i * 3, none⟩ = some (.bool q.b) := (HB_34.out.cell (p := ⟨A1, o1 + i * 3, none⟩) hl1).trans X0.out
      have cr11 : wr.cell? ⟨A1, o1 + i * 3 + 1, none⟩ = some (.slice q.A q.n q.c) := (HB_34.out.cell (p := ⟨A1, o1 + i * 3 + 1, none⟩) hl1).trans X1.out
      have cr12 : wr.cell? ⟨A1, o1 + i * 3 + 2, none⟩ = some (.int .i64 (a.r i).x) := (HB_34.out.cell (p := ⟨A1, o1 + i * 3 + 2, none⟩) hl1).trans X2.out
      have cr20 : wr.cell? ⟨A2, o2 + i * 3, none⟩ = some (.bool t.b) := (HB_34.out.cell (p := ⟨A2, o2 + i * 3, none⟩) hl2).trans Y0.out
      have cr21 : wr.cell? ⟨A2, o2 + i * 3 + 1, none⟩ = some (.slice t.A t.n t.c) := (HB_34.out.cell (p := ⟨A2, o2 + i * 3 + 1, none⟩) hl2).trans Y1.out
      have cr22 : wr.cell? ⟨A2, o2 + i * 3 + 2, none⟩ = some (.int .i64 (b.r i).x) := (HB_34.out.cell (p := ⟨A2, o2 + i * 3 + 2, none⟩) hl2).trans Y2.out
      obtain ⟨⟨_, pu0⟩, ⟨_, pu1⟩, ⟨_, pu2⟩, ru0, ru1, ru2⟩ := Ou_33.out.there hi2
      have lu := Ou_33.out.lt
      go_wp2_with fail
      obtain ⟨SX1, hS1⟩ : ∃ S : World → Prop, ∀ w', S w' ↔ (w'.cell? ⟨w.heap.size, 0, none⟩ = some (.slice Aac a.n cac) ∧ w'.cell? ⟨w.heap.size, 1, none⟩ = some (.slice Aag a.m cag) ∧ w'.cell? ⟨w.heap.size, 2, none⟩ = some (.slice (some ⟨A1, o1, none⟩) a.n car) ∧ w'.cell? ⟨w.heap.size + 1, 0, none⟩ = some (.slice Abc a.n cbc) ∧ w'.cell? ⟨w.heap.size + 1, 1, none⟩ = some (.slice Abg b.m cbg) ∧ w'.cell? ⟨w.heap.size + 1, 2, none⟩ = some (.slice (some ⟨A2, o2, none⟩) a.n cbr) ∧ w'.cell? ⟨A1, o1 + i * 3, none⟩ = some (.bool q.b) ∧ w'.cell? ⟨A1, o1 + i * 3 + 1, none⟩ = some (.slice q.A q.n q.c) ∧ w'.cell? ⟨A1, o1 + i * 3 + 2, none⟩ = some (.int .i64 (a.r i).x) ∧ w'.cell? ⟨A2, o2 + i * 3, none⟩ = some (.bool t.b) ∧ w'.cell? ⟨A2, o2 + i * 3 + 1, none⟩ = some (.slice t.A t.n t.c) ∧ w'.cell? ⟨A2, o2 + i * 3 + 2, none⟩ = some (.int .i64 (b.r i).x)) := ⟨_, fun _ => Iff.rfl⟩
      have k_35 : SX1 (wr) := (hS1 _).2 ⟨Ba_27.out.cell 0 rfl, Ba_27.out.cell 1 rfl, Ba_27.out.cell 2 rfl, Bb_28.out.cell 0 rfl, Bb_28.out.cell 1 rfl, Bb_28.out.cell 2 rfl, (Below.cell (p := ⟨A1, o1 + i * 3, none⟩) HB_34.out hl1).trans X0.out, (Below.cell (p := ⟨A1, o1 + i * 3 + 1, none⟩) HB_34.out hl1).trans X1.out, (Below.cell (p := ⟨A1, o1 + i * 3 + 2, none⟩) HB_34.out hl1).trans X2.out, (Below.cell (p := ⟨A2, o2 + i * 3, none⟩) HB_34.out hl2).trans Y0.out, (Below.cell (p := ⟨A2, o2 + i * 3 + 1, none⟩) HB_34.out hl2).trans Y1.out, (Below.cell (p := ⟨A2, o2 + i * 3 + 2, none⟩) HB_34.out hl2).trans Y2.out⟩
      have k_36 : SX1 (wr.drew) := (hS1 _).2 ⟨(Ba_27.out.drew).cell 0 rfl, (Ba_27.out.drew).cell 1 rfl, (Ba_27.out.drew).cell 2 rfl, (Bb_28.out.drew).cell 0 rfl, (Bb_28.out.drew).cell 1 rfl, (Bb_28.out.drew).cell 2 rfl, (Below.cell (p := ⟨A1, o1 + i * 3, none⟩) (below_dr HB_34.out) hl1).trans X0.out, (Below.cell (p := ⟨A1, o1 + i * 3 + 1, none⟩) (below_dr HB_34.out) hl1).trans X1.out, (Below.cell (p := ⟨A1, o1 + i * 3 + 2, none⟩) (below_dr HB_34.out) hl1).trans X2.out, (Below.cell (p := ⟨A2, o2 + i * 3, none⟩) (below_dr HB_34.out) hl2).trans Y0.out, (Below.cell (p := ⟨A2, o2 + i * 3 + 1, none⟩) (below_dr HB_34.out) hl2).trans Y1.out, (Below.cell (p := ⟨A2, o2 + i * 3 + 2, none⟩) (below_dr HB_34.out) hl2).trans Y2.out⟩
      have tok_37 : True := trivial
      go_region_held3 (fun w' => w'.cell? ⟨w.heap.size, 0, none⟩ = some (.slice Aac a.n cac) ∧ w'.cell? ⟨w.heap.size, 1, none⟩ = some (.slice Aag a.m cag) ∧ w'.cell? ⟨w.heap.size, 2, none⟩ = some (.slice (some ⟨A1, o1, none⟩) a.n car) ∧ w'.cell? ⟨w.heap.size + 1, 0, none⟩ = some (.slice Abc a.n cbc) ∧ w'.cell? ⟨w.heap.size + 1, 1, none⟩ = some (.slice Abg b.m cbg) ∧ w'.cell? ⟨w.heap.size + 1, 2, none⟩ = some (.slice (some ⟨A2, o2, none⟩) a.n cbr) ∧ w'.cell? ⟨A1, o1 + i * 3, none⟩ = some (.bool q.b) ∧ w'.cell? ⟨A1, o1 + i * 3 + 1, none⟩ = some (.slice q.A q.n q.c) ∧ w'.cell? ⟨A1, o1 + i * 3 + 2, none⟩ = some (.int .i64 (a.r i).x) ∧ w'.cell? ⟨A2, o2 + i * 3, none⟩ = some (.bool t.b) ∧ w'.cell? ⟨A2, o2 + i * 3 + 1, none⟩ = some (.slice t.A t.n t.c) ∧ w'.cell? ⟨A2, o2 + i * 3 + 2, none⟩ = some (.int .i64 (b.r i).x)) (first | with_reducible exact (hS1 _).1 k_35 | with_reducible exact (hS1 _).1 k_36 | with_reducible exact (hS1 _).1 k_49 | with_reducible exact (hS1 _).1 k_50)
        (first
         | (have _ := tok_37; go_at_call 87; clear tok_37; refine (dmax_any _ q t (a.r i) (b.r i) E T (RQ.out.dk ((Dk.refl _).drew)) (RT.out.dk ((Dk.refl _).drew)) Lra.out Lrb.out eT).mono ?_; rintro e w5 ⟨⟨m, rfl, hm⟩, hb⟩; clear la ca0 ca1 ca2 lb cb0 cb1 cb2 lo co0 co1 co2 lj cj0 cj1 cj2 cj3 cr10 cr11 cr12 cr20 cr21 cr22 pu0 pu1 pu2 ru0 ru1 ru2 lu k_35 k_36; have K := Dk.trans ((Dk.refl _).drew) (.below hb); have Ba_38 := Lib.hid (show Bk _ _ _ #[.slice Aac a.n cac, .slice Aag a.m cag, .slice (some ⟨A1, o1, none⟩) a.n car] from (Ba_27.out.drew).below hb); have Bb_39 := Lib.hid (show Bk _ _ _ #[.slice Abc a.n cbc, .slice Abg b.m cbg, .slice (some ⟨A2, o2, none⟩) a.n cbr] from (Bb_28.out.drew).below hb); have Bo_40 := Lib.hid (show Bk _ _ _ #[.slice none 0 0, .slice none 0 0, .slice none 0 0] from (Bo_29.out.drew).below hb); have Bj_41 := Lib.hid (show Bk _ _ _ #[.slice (some ⟨g1, 0, none⟩) a.n a.n, .slice none 0 0, .slice none 0 0, .int .i64 bits] from (Bj_30.out.drew).below hb); have Oc_42 := Lib.hid (show OD _ (g1) a.n (fun j => halfM (a.c j) (b.c j) bits) from (Oc_31.out.dr).below hb); have Of_43 := Lib.hid (show OD _ (g2) a.n (fun j => halfO (a.c j) (b.c j) bits) from (Of_32.out.dr).below hb); have Ou_44 := Lib.hid (show OD _ (w3.heap.size + 1) a.n (fun j => if j < i then (a.r j).mx (b.r j) else D.zero) from (Ou_33.out.dr).below hb); have HB_45 := Lib.hid (below_tr (below_dr HB_34.out) hb); clear hb; have RQ_46 := Lib.hid (RQ.out.dk K); have RT_47 := Lib.hid (RT.out.dk K); clear K Ba_27 Bb_28 Bo_29 Bj_30 Oc_31 Of_32 Ou_33 HB_34 RQ RT; have RM_48 := Lib.hid hm; clear hm; have la := Ba_38.out.lt; obtain ⟨ca0, ca1, ca2⟩ := Ba_38.out.cells3; have lb := Bb_39.out.lt; obtain ⟨cb0, cb1, cb2⟩ := Bb_39.out.cells3; have lo := Bo_40.out.lt; obtain ⟨co0, co1, co2⟩ := Bo_40.out.cells3; have lj := Bj_41.out.lt; obtain ⟨cj0, cj1, cj2, cj3⟩ := Bj_41.out.cells4; have cr10 : w5.cell? ⟨A1, o1 + i * 3, none⟩ = some (.bool q.b) := (HB_45.out.cell (p := ⟨A1, o1 + i * 3, none⟩) hl1).trans X0.out; have cr11 : w5.cell? ⟨A1, o1 + i * 3 + 1, none⟩ = some (.slice q.A q.n q.c) := (HB_45.out.cell (p := ⟨A1, o1 + i * 3 + 1, none⟩) hl1).trans X1.out; have cr12 : w5.cell? ⟨A1, o1 + i * 3 + 2, none⟩ = some (.int .i64 (a.r i).x) := (HB_45.out.cell (p := ⟨A1, o1 + i * 3 + 2, none⟩) hl1).trans X2.out; have cr20 : w5.cell? ⟨A2, o2 + i * 3, none⟩ = some (.bool t.b) := (HB_45.out.cell (p := ⟨A2, o2 + i * 3, none⟩) hl2).trans Y0.out; have cr21 : w5.cell? ⟨A2, o2 + i * 3 + 1, none⟩ = some (.slice t.A t.n t.c) := (HB_45.out.cell (p := ⟨A2, o2 + i * 3 + 1, none⟩) hl2).trans Y1.out; have cr22 : w5.cell? ⟨A2, o2 + i * 3 + 2, none⟩ = some (.int .i64 (b.r i).x) := (HB_45.out.cell (p := ⟨A2, o2 + i * 3 + 2, none⟩) hl2).trans Y2.out; obtain ⟨⟨_, pu0⟩, ⟨_, pu1⟩, ⟨_, pu2⟩, ru0, ru1, ru2⟩ := Ou_44.out.there hi2; have lu := Ou_44.out.lt; have k_49 : SX1 (w5) := (hS1 _).2 ⟨Ba_38.out.cell 0 rfl, Ba_38.out.cell 1 rfl, Ba_38.out.cell 2 rfl, Bb_39.out.cell 0 rfl, Bb_39.out.cell 1 rfl, Bb_39.out.cell 2 rfl, (Below.cell (p := ⟨A1, o1 + i * 3, none⟩) HB_45.out hl1).trans X0.out, (Below.cell (p := ⟨A1, o1 + i * 3 + 1, none⟩) HB_45.out hl1).trans X1.out, (Below.cell (p := ⟨A1, o1 + i * 3 + 2, none⟩) HB_45.out hl1).trans X2.out, (Below.cell (p := ⟨A2, o2 + i * 3, none⟩) HB_45.out hl2).trans Y0.out, (Below.cell (p := ⟨A2, o2 + i * 3 + 1, none⟩) HB_45.out hl2).trans Y1.out, (Below.cell (p := ⟨A2, o2 + i * 3 + 2, none⟩) HB_45.out hl2).trans Y2.out⟩; have y0 := Ba_38.out.lt; have y1 := Bb_39.out.lt; have y2 := Bo_40.out.lt; have y3 := Bj_41.out.lt; have y4 := Oc_42.out.lt; have y5 := Of_43.out.lt; have y6 := Ou_44.out.lt; have y7 := HB_45.out.size; have k_50 : SX1 (((w5.setCell ⟨w3.heap.size + 1, i * 3, none⟩ (.bool m.b)).setCell ⟨w3.heap.size + 1, i * 3 + 1, none⟩ (.slice m.A m.n m.c)).setCell ⟨w3.heap.size + 1, i * 3 + 2, none⟩ (.int .i64 ((a.r i).mx (b.r i)).x)) := (hS1 _).2 ⟨(Ba_38.out.ne3 (by omega) i (.bool m.b) (.slice m.A m.n m.c) (.int .i64 ((a.r i).mx (b.r i)).x)).cell 0 rfl, (Ba_38.out.ne3 (by omega) i (.bool m.b) (.slice m.A m.n m.c) (.int .i64 ((a.r i).mx (b.r i)).x)).cell 1 rfl, (Ba_38.out.ne3 (by omega) i (.bool m.b) (.slice m.A m.n m.c) (.int .i64 ((a.r i).mx (b.r i)).x)).cell 2 rfl, (Bb_39.out.ne3 (by omega) i (.bool m.b) (.slice m.A m.n m.c) (.int .i64 ((a.r i).mx (b.r i)).x)).cell 0 rfl, (Bb_39.out.ne3 (by omega) i (.bool m.b) (.slice m.A m.n m.c) (.int .i64 ((a.r i).mx (b.r i)).x)).cell 1 rfl, (Bb_39.out.ne3 (by omega) i (.bool m.b) (.slice m.A m.n m.c) (.int .i64 ((a.r i).mx (b.r i)).x)).cell 2 rfl, (Below.cell (p := ⟨A1, o1 + i * 3, none⟩) (below_put3 HB_45.out (by omega) i (.bool m.b) (.slice m.A m.n m.c) (.int .i64 ((a.r i).mx (b.r i)).x)) hl1).trans X0.out, (Below.cell (p := ⟨A1, o1 + i * 3 + 1, none⟩) (below_put3 HB_45.out (by omega) i (.bool m.b) (.slice m.A m.n m.c) (.int .i64 ((a.r i).mx (b.r i)).x)) hl1).trans X1.out, (Below.cell (p := ⟨A1, o1 + i * 3 + 2, none⟩) (below_put3 HB_45.out (by omega) i (.bool m.b) (.slice m.A m.n m.c) (.int .i64 ((a.r i).mx (b.r i)).x)) hl1).trans X2.out, (Below.cell (p := ⟨A2, o2 + i * 3, none⟩) (below_put3 HB_45.out (by omega) i (.bool m.b) (.slice m.A m.n m.c) (.int .i64 ((a.r i).mx (b.r i)).x)) hl2).trans Y0.out, (Below.cell (p := ⟨A2, o2 + i * 3 + 1, none⟩) (below_put3 HB_45.out (by omega) i (.bool m.b) (.slice m.A m.n m.c) (.int .i64 ((a.r i).mx (b.r i)).x)) hl2).trans Y1.out, (Below.cell (p := ⟨A2, o2 + i * 3 + 2, none⟩) (below_put3 HB_45.out (by omega) i (.bool m.b) (.slice m.A m.n m.c) (.int .i64 ((a.r i).mx (b.r i)).x)) hl2).trans Y2.out⟩; clear y0 y1 y2 y3 y4 y5 y6 y7))
      go_wp2
      go_roundw
      case rel => exact ⟨i + 1, by go_num, hi2, Lib.hid ⟨(Ba_38.out.ne3 (by have := Ba_38.out.lt; have := Bb_39.out.lt; have := Bo_40.out.lt; have := Bj_41.out.lt; have := Oc_42.out.lt; have := Of_43.out.lt; have := Ou_44.out.lt; have := HB_45.out.size; omega) i (.bool m.b) (.slice m.A m.n m.c) (.int .i64 ((a.r i).mx (b.r i)).x)), (Bb_39.out.ne3 (by have := Ba_38.out.lt; have := Bb_39.out.lt; have := Bo_40.out.lt; have := Bj_41.out.lt; have := Oc_42.out.lt; have := Of_43.out.lt; have := Ou_44.out.lt; have := HB_45.out.size; omega) i (.bool m.b) (.slice m.A m.n m.c) (.int .i64 ((a.r i).mx (b.r i)).x)), (Bo_40.out.ne3 (by have := Ba_38.out.lt; have := Bb_39.out.lt; have := Bo_40.out.lt; have := Bj_41.out.lt; have := Oc_42.out.lt; have := Of_43.out.lt; have := Ou_44.out.lt; have := HB_45.out.size; omega) i (.bool m.b) (.slice m.A m.n m.c) (.int .i64 ((a.r i).mx (b.r i)).x)), (Bj_41.out.ne3 (by have := Ba_38.out.lt; have := Bb_39.out.lt; have := Bo_40.out.lt; have := Bj_41.out.lt; have := Oc_42.out.lt; have := Of_43.out.lt; have := Ou_44.out.lt; have := HB_45.out.size; omega) i (.bool m.b) (.slice m.A m.n m.c) (.int .i64 ((a.r i).mx (b.r i)).x)), (Oc_42.out.rp3 (by have := Ba_38.out.lt; have := Bb_39.out.lt; have := Bo_40.out.lt; have := Bj_41.out.lt; have := Oc_42.out.lt; have := Of_43.out.lt; have := Ou_44.out.lt; have := HB_45.out.size; omega) i (.bool m.b) (.slice m.A m.n m.c) (.int .i64 ((a.r i).mx (b.r i)).x) (Ou_44.out.put hi2 m ((a.r i).mx (b.r i)) RM_48.out).2), (Of_43.out.rp3 (by have := Ba_38.out.lt; have := Bb_39.out.lt; have := Bo_40.out.lt; have := Bj_41.out.lt; have := Oc_42.out.lt; have := Of_43.out.lt; have := Ou_44.out.lt; have := HB_45.out.size; omega) i (.bool m.b) (.slice m.A m.n m.c) (.int .i64 ((a.r i).mx (b.r i)).x) (Ou_44.out.put hi2 m ((a.r i).mx (b.r i)) RM_48.out).2), OD.next (F := fun j => (a.r j).mx (b.r j)) (Ou_44.out.put hi2 m ((a.r i).mx (b.r i)) RM_48.out).1, (below_put3 HB_45.out (by have := HB_45.out.size; omega) i (.bool m.b) (.slice m.A m.n m.c) (.int .i64 ((a.r i).mx (b.r i)).x))⟩⟩
      case measure => simp only [intOf]; omega
    · obtain rfl : i = a.n := by omega
      clear hi2
      obtain ⟨tb0, tb1, tb2, tb3, tr0, tr1, tr2, tz⟩ := Hr.out
      have Ba_27 := Lib.hid tb0
      have Bb_28 := Lib.hid tb1
      have Bo_29 := Lib.hid tb2
      have Bj_30 := Lib.hid tb3
      have Oc_31 := Lib.hid tr0
      have Of_32 := Lib.hid tr1
      have Ou_33 := Lib.hid tr2
      have HB_34 := Lib.hid tz
      clear tb0 tb1 tb2 tb3 tr0 tr1 tr2 tz
      clear Hr
      have la := Ba_27.out.lt
      obtain ⟨ca0, ca1, ca2⟩ := Ba_27.out.cells3
      have lb := Bb_28.out.lt
      obtain ⟨cb0, cb1, cb2⟩ := Bb_28.out.cells3
      have lo := Bo_29.out.lt
      obtain ⟨co0, co1, co2⟩ := Bo_29.out.cells3
      have lj := Bj_30.out.lt
      obtain ⟨cj0, cj1, cj2, cj3⟩ := Bj_30.out.cells4
      go_wp2_with fail
      have OuD := Lib.hid (Ou_33.out.done (F := fun j => (a.r j).mx (b.r j)))
      have LBC := Lib.hid (fun (i : Nat) (hi : i < a.n) => LB.out.c i (by rw [← HN.out]; exact hi))
      have LU := Lib.hid (fun (i : Nat) (hi : i < a.n) => ((mx_lim (LA.out.r i hi) (LB.out.r i (by rw [← HN.out]; exact hi))).mono (show E ≤ E + 1 by omega) (show T ≤ T + 3 by omega)))
      have LF := Lib.hid (fun (i : Nat) (hi : i < a.n) => halfO_lim (LA.out.c i hi) (LBC.out i hi) bits)
      have LR := Lib.hid (fun (k i : Nat) (hi : i < a.n) => hullR_lim LA.out LB.out HN.out bits k i hi)
      have eM : E + 1 + (T + 3) + 1 ≤ 16000 := by omega
      have nj : w3.heap.size < wr.heap.size := Bj_30.out.lt
      refine (more_any _ (some ⟨w3.heap.size + 1, 0, none⟩) (some ⟨g2, 0, none⟩) a.n a.n a.n (fun j => (a.r j).mx (b.r j)) (fun j => halfO (a.c j) (b.c j) bits) bits (E + 1) (T + 3) (OuD.out.read n0) (Of_32.out.read n0) LU.out LF.out eM hb2 hb3 (HT.out.below HB_34.out)).mono ?_
      rintro e w5 ⟨⟨g3, rfl, hg3, ho3⟩, hb⟩
      clear la ca0 ca1 ca2 lb cb0 cb1 cb2 lo co0 co1 co2 lj cj0 cj1 cj2 cj3
      have K := Dk.below hb
      have Ba_35 := Lib.hid (show Bk _ _ _ #[.slice Aac a.n cac, .slice Aag a.m cag, .slice Aar a.n car] from Ba_27.out.below hb)
      have Bb_36 := Lib.hid (show Bk _ _ _ #[.slice Abc a.n cbc, .slice Abg b.m cbg, .slice Abr a.n cbr] from Bb_28.out.below hb)
      have Bo_37 := Lib.hid (show Bk _ _ _ #[.slice none 0 0, .slice none 0 0, .slice none 0 0] from Bo_29.out.below hb)
      have Bj_38 := Lib.hid (show Bk _ _ _ #[.slice (some ⟨g1, 0, none⟩) a.n a.n, .slice none 0 0, .slice none 0 0, .int .i64 bits] from Bj_30.out.below hb)
      have Oc_39 := Lib.hid (show OD _ (g1) a.n (fun j => halfM (a.c j) (b.c j) bits) from Oc_31.out.below hb)
      have Of_40 := Lib.hid (show OD _ (g2) a.n (fun j => halfO (a.c j) (b.c j) bits) from Of_32.out.below hb)
      have Ou_41 := Lib.hid (show OD _ (w3.heap.size + 1) a.n (fun j => (a.r j).mx (b.r j)) from OuD.out.below hb)
      have HB_42 := Lib.hid (below_tr HB_34.out hb)
      clear hb
      clear K Ba_27 Bb_28 Bo_29 Bj_30 Oc_31 Of_32 OuD HB_34
      have O3 := Lib.hid (show OD _ g3 a.n (hullR a b bits 0) from ho3)
      clear ho3
      have la := Ba_35.out.lt
      obtain ⟨ca0, ca1, ca2⟩ := Ba_35.out.cells3
      have lb := Bb_36.out.lt
      obtain ⟨cb0, cb1, cb2⟩ := Bb_36.out.cells3
      have lo := Bo_37.out.lt
      obtain ⟨co0, co1, co2⟩ := Bo_37.out.cells3
      have lj := Bj_38.out.lt
      obtain ⟨cj0, cj1, cj2, cj3⟩ := Bj_38.out.cells4
      have fj0 := Bj_38.out.free 0
      have fj1 := Bj_38.out.free 1
      have fj2 := Bj_38.out.free 2
      have fj3 := Bj_38.out.free 3
      go_wp2_with fail
      clear la ca0 ca1 ca2 lb cb0 cb1 cb2 lo co0 co1 co2 lj cj0 cj1 cj2 cj3 fj0 fj1 fj2 fj3
      have K : Dk w5 (w5.setCell ⟨w3.heap.size, 2, none⟩ (.slice (some ⟨g3, 0, none⟩) a.n a.n)) := ((Dk.refl _).set (cs := #[.slice (some ⟨g1, 0, none⟩) a.n a.n, .slice none 0 0, .slice none 0 0, .int .i64 bits]) Bj_38.out 2 (by intro _ hh; cases hh) (.slice (some ⟨g3, 0, none⟩) a.n a.n))
      have Ba_43 := Lib.hid (show Bk (w5.setCell ⟨w3.heap.size, 2, none⟩ (.slice (some ⟨g3, 0, none⟩) a.n a.n)) (w.heap.size) 42 #[.slice Aac a.n cac, .slice Aag a.m cag, .slice Aar a.n car] from (Ba_35.out.ne (by have := Ba_35.out.lt; have := Bb_36.out.lt; have := Bo_37.out.lt; have := Bj_38.out.lt; have := Oc_39.out.lt; have := O3.out.lt; have := HB_42.out.size; omega) 2 (.slice (some ⟨g3, 0, none⟩) a.n a.n)))
      have Bb_44 := Lib.hid (show Bk (w5.setCell ⟨w3.heap.size, 2, none⟩ (.slice (some ⟨g3, 0, none⟩) a.n a.n)) (w.heap.size + 1) 42 #[.slice Abc a.n cbc, .slice Abg b.m cbg, .slice Abr a.n cbr] from (Bb_36.out.ne (by have := Ba_35.out.lt; have := Bb_36.out.lt; have := Bo_37.out.lt; have := Bj_38.out.lt; have := Oc_39.out.lt; have := O3.out.lt; have := HB_42.out.size; omega) 2 (.slice (some ⟨g3, 0, none⟩) a.n a.n)))
      have Bo_45 := Lib.hid (show Bk (w5.setCell ⟨w3.heap.size, 2, none⟩ (.slice (some ⟨g3, 0, none⟩) a.n a.n)) (w.heap.size + 2) 42 #[.slice none 0 0, .slice none 0 0, .slice none 0 0] from (Bo_37.out.ne (by have := Ba_35.out.lt; have := Bb_36.out.lt; have := Bo_37.out.lt; have := Bj_38.out.lt; have := Oc_39.out.lt; have := O3.out.lt; have := HB_42.out.size; omega) 2 (.slice (some ⟨g3, 0, none⟩) a.n a.n)))
      have Bj_46 := Lib.hid (show Bk (w5.setCell ⟨w3.heap.size, 2, none⟩ (.slice (some ⟨g3, 0, none⟩) a.n a.n)) (w3.heap.size) 146 #[.slice (some ⟨g1, 0, none⟩) a.n a.n, .slice none 0 0, .slice (some ⟨g3, 0, none⟩) a.n a.n, .int .i64 bits] from (Bj_38.out.set 2 (.slice (some ⟨g3, 0, none⟩) a.n a.n)))
      have Oc_47 := Lib.hid (show OD (w5.setCell ⟨w3.heap.size, 2, none⟩ (.slice (some ⟨g3, 0, none⟩) a.n a.n)) (g1) a.n (fun j => halfM (a.c j) (b.c j) bits) from (Oc_39.out.st (cs := #[.slice (some ⟨g1, 0, none⟩) a.n a.n, .slice none 0 0, .slice none 0 0, .int .i64 bits]) Bj_38.out (by have := Ba_35.out.lt; have := Bb_36.out.lt; have := Bo_37.out.lt; have := Bj_38.out.lt; have := Oc_39.out.lt; have := O3.out.lt; have := HB_42.out.size; omega) 2 (by intro _ hh; cases hh) (.slice (some ⟨g3, 0, none⟩) a.n a.n)))
      have Or_48 := Lib.hid (show OD (w5.setCell ⟨w3.heap.size, 2, none⟩ (.slice (some ⟨g3, 0, none⟩) a.n a.n)) (g3) a.n (hullR a b bits 0) from (O3.out.st (cs := #[.slice (some ⟨g1, 0, none⟩) a.n a.n, .slice none 0 0, .slice none 0 0, .int .i64 bits]) Bj_38.out (by have := Ba_35.out.lt; have := Bb_36.out.lt; have := Bo_37.out.lt; have := Bj_38.out.lt; have := Oc_39.out.lt; have := O3.out.lt; have := HB_42.out.size; omega) 2 (by intro _ hh; cases hh) (.slice (some ⟨g3, 0, none⟩) a.n a.n)))
      have HB_49 := Lib.hid (show Below w.heap.size w (w5.setCell ⟨w3.heap.size, 2, none⟩ (.slice (some ⟨g3, 0, none⟩) a.n a.n)) from (below_st HB_42.out 2 (by have := HB_42.out.size; omega) (.slice (some ⟨g3, 0, none⟩) a.n a.n)))
      clear K Ba_35 Bb_36 Bo_37 Bj_38 Oc_39 O3 HB_42
      generalize w5.setCell ⟨w3.heap.size, 2, none⟩ (.slice (some ⟨g3, 0, none⟩) a.n a.n) = w6 at *
      have S0 := Lib.hid (show HS w w6 w3.heap.size g1 #[.slice Aac a.n cac, .slice Aag a.m cag, .slice Aar a.n car] #[.slice Abc a.n cbc, .slice Abg b.m cbg, .slice Abr a.n cbr] #[.slice none 0 0, .slice none 0 0, .slice none 0 0] a.n bits (fun j => halfM (a.c j) (b.c j) bits) (hull a b bits).g (hullR a b bits) 0 (.slice none 0 0) g3 from ⟨Ba_43.out, Bb_44.out, Bo_45.out, Bj_46.out, Oc_47.out, Or_48.out, OG.nil _ _ _, (fun z h => by cases h), (fun k h => by cases h), Nat.le_of_lt n_13, HB_49.out⟩)
      have la := Ba_43.out.lt
      obtain ⟨ca0, ca1, ca2⟩ := Ba_43.out.cells3
      have lb := Bb_44.out.lt
      obtain ⟨cb0, cb1, cb2⟩ := Bb_44.out.cells3
      have lo := Bo_45.out.lt
      obtain ⟨co0, co1, co2⟩ := Bo_45.out.cells3
      have lj := Bj_46.out.lt
      obtain ⟨cj0, cj1, cj2, cj3⟩ := Bj_46.out.cells4
      go_wp2_with fail
      refine (way_turn _ w3.heap.size g1 g3 (.slice none 0 0) Aac Abc 0 a.n cac cbc a.c b.c (hull a b bits).g (hullR a b bits 0) bits E T (T + 5 + 2 * 0) S0.out.vv (by omega) S0.out.bj S0.out.og S0.out.or (HAC.out.below S0.out.be) (HBC.out.below S0.out.be) LA.out.c LBC.out (LR.out 0) (by omega) (by omega) hb2 hb3 (HT.out.below S0.out.be)).mono ?_
      rintro e w7 P
      obtain ⟨rfl, v1, g4, s1, _, _, _⟩ := S0.out.step P (hull_g0 a b bits) (hull_r0 a b bits)
      have S1 := Lib.hid s1
      clear s1 P S0
      clear la ca0 ca1 ca2 lb cb0 cb1 cb2 lo co0 co1 co2 lj cj0 cj1 cj2 cj3
      clear Ba_43 Bb_44 Bo_45 Bj_46 Oc_47 Or_48 HB_49
      have HB7 := Lib.hid S1.out.be
      have S7a := Lib.hid S1.out.ba
      have S7b := Lib.hid S1.out.bb
      have S7o := Lib.hid S1.out.bo
      have la := S7a.out.lt
      obtain ⟨ca0, ca1, ca2⟩ := S7a.out.cells3
      have lb := S7b.out.lt
      obtain ⟨cb0, cb1, cb2⟩ := S7b.out.cells3
      have lo := S7o.out.lt
      obtain ⟨co0, co1, co2⟩ := S7o.out.cells3
      have hmk := HMK.out
      have hmf : ∀ fn first cap W, (Instr.makeFunc fn first cap).run Tryd.prog W = .ok (.func fn first cap) W := fun _ _ _ _ => rfl
      have c7 := S1.out.be.size
      have n_50 := S7a.out.lt
      have n_51 := S7b.out.lt
      have n_52 := S7o.out.lt
      go_wp2_with fail
      have T1 := Lib.hid (show HC w ((w7.alloc (.cells (mkD a.n) 53)).alloc (.cells #[.slice (some ⟨w7.heap.size, 0, none⟩) a.n a.n] 39)) w3.heap.size g1 (w7.heap.size + 1) w7.heap.size #[.slice Aac a.n cac, .slice Aag a.m cag, .slice Aar a.n car] #[.slice Abc a.n cbc, .slice Abg b.m cbg, .slice Abr a.n cbr] #[.slice none 0 0, .slice none 0 0, .slice none 0 0] a.n bits (fun j => halfM (a.c j) (b.c j) bits) (hull a b bits).g (hullR a b bits) 1 v1 g4 from S1.out.made (below_al (below_al (Below.refl _ w7) _) _) (Nat.le_succ _) (Bk.new_1 _ _ 39 #[.slice (some ⟨w7.heap.size, 0, none⟩) a.n a.n]) ((OD.made _ a.n).al _))
      clear la ca0 ca1 ca2 lb cb0 cb1 cb2 lo co0 co1 co2
      clear S7a S7b S7o HB7
      generalize (w7.alloc (.cells (mkD a.n) 53)).alloc (.cells #[.slice (some ⟨w7.heap.size, 0, none⟩) a.n a.n] 39) = w8 at *
      clear hmk hmf S1
      obtain ⟨gt, hgt⟩ : ∃ x, x = w7.heap.size + 1 := ⟨_, rfl⟩
      obtain ⟨gN, hgN⟩ : ∃ x, x = w7.heap.size := ⟨_, rfl⟩
      rw [← hgt] at T1 ⊢
      rw [← hgN] at T1
      clear hgt hgN
      have T2 := Lib.hid (show ∃ v gr, HC w w8 w3.heap.size g1 gt gN #[.slice Aac a.n cac, .slice Aag a.m cag, .slice Aar a.n car] #[.slice Abc a.n cbc, .slice Abg b.m cbg, .slice Abr a.n cbr] #[.slice none 0 0, .slice none 0 0, .slice none 0 0] a.n bits (fun j => halfM (a.c j) (b.c j) bits) (hull a b bits).g (hullR a b bits) (1 + 2 * 0) v gr from ⟨v1, g4, T1.out⟩)
      clear T1
      go_loopw [123] (fun k wr => ∃ i : Nat, k = .int .i64 i ∧ i ≤ max a.m b.m ∧ Hid (∃ v gr, HC w wr w3.heap.size g1 gt gN #[.slice Aac a.n cac, .slice Aag a.m cag, .slice Aar a.n car] #[.slice Abc a.n cbc, .slice Abg b.m cbg, .slice Abr a.n cbr] #[.slice none 0 0, .slice none 0 0, .slice none 0 0] a.n bits (fun j => halfM (a.c j) (b.c j) bits) (hull a b bits).g (hullR a b bits) (1 + 2 * i) v gr)) (fun k _ => max a.m b.m - (intOf k).toNat)
      case atStart => exact ⟨0, rfl, Nat.zero_le _, T2⟩
      case round =>
        clear T2
        obtain ⟨i, rfl, hi, Hr⟩ := hrel
        by_cases hi2 : i < max a.m b.m
        · have q3 : (i : Int) < max (a.m : Int) (b.m : Int) := by omega
          go_wp2_with fail
          have T3 := Lib.hid (show ∃ v gr, HC w wr w3.heap.size g1 gt gN #[.slice Aac a.n cac, .slice Aag a.m cag, .slice Aar a.n car] #[.slice Abc a.n cbc, .slice Abg b.m cbg, .slice Abr a.n cbr] #[.slice none 0 0, .slice none 0 0, .slice none 0 0] a.n bits (fun j => halfM (a.c j) (b.c j) bits) (hull a b bits).g (hullR a b bits) (1 + 2 * i + 0) v gr from Hr.out)
          clear Hr
          have hs : i + 1 ≤ max a.m b.m := hi2
          have hi0 : i ≤ 1000000 := by omega
          go_loopw [127] (fun k wr => ∃ t : Nat, k = .int .i64 t ∧ t ≤ 2 ∧ Hid (∃ v gr, HC w wr w3.heap.size g1 gt gN #[.slice Aac a.n cac, .slice Aag a.m cag, .slice Aar a.n car] #[.slice Abc a.n cbc, .slice Abg b.m cbg, .slice Abr a.n cbr] #[.slice none 0 0, .slice none 0 0, .slice none 0 0] a.n bits (fun j => halfM (a.c j) (b.c j) bits) (hull a b bits).g (hullR a b bits) (1 + 2 * i + t) v gr)) (fun k _ => 2 - (intOf k).toNat)
          case atStart => exact ⟨0, rfl, by omega, T3⟩
          case round =>
            clear T3
            obtain ⟨t, rfl, ht0, Hr⟩ := hrel
            by_cases ht2 : t < 2
            · have q4 : (t : Int) < 2 := by omega
              obtain ⟨v, gr, T⟩ := Hr.out
              have T4 := Lib.hid T
              clear T Hr
              obtain rfl | rfl : t = 0 ∨ t = 1 := by omega
              · have T5 := Lib.hid (show HC w wr.drew w3.heap.size g1 gt gN #[.slice Aac a.n cac, .slice Aag a.m cag, .slice Aar a.n car] #[.slice Abc a.n cbc, .slice Abg b.m cbg, .slice Abr a.n cbr] #[.slice none 0 0, .slice none 0 0, .slice none 0 0] a.n bits (fun j => halfM (a.c j) (b.c j) bits) (hull a b bits).g (hullR a b bits) (1 + 2 * i + 0) v gr from T4.out.below (Below.drew (Below.refl _ wr)))
                have kc0 := T4.out.s.ba.lt
                have kc1 := T4.out.s.bb.lt
                have k_0 : (wr).cell? ⟨w.heap.size, 0, none⟩ = some (.slice Aac a.n cac) ∧ (wr).cell? ⟨w.heap.size, 1, none⟩ = some (.slice Aag a.m cag) ∧ (wr).cell? ⟨w.heap.size, 2, none⟩ = some (.slice Aar a.n car) ∧ (wr).cell? ⟨w.heap.size + 1, 0, none⟩ = some (.slice Abc a.n cbc) ∧ (wr).cell? ⟨w.heap.size + 1, 1, none⟩ = some (.slice Abg b.m cbg) ∧ (wr).cell? ⟨w.heap.size + 1, 2, none⟩ = some (.slice Abr a.n cbr) := ⟨T4.out.s.ba.cell 0 rfl, T4.out.s.ba.cell 1 rfl, T4.out.s.ba.cell 2 rfl, T4.out.s.bb.cell 0 rfl, T4.out.s.bb.cell 1 rfl, T4.out.s.bb.cell 2 rfl⟩
                have k_1 : (wr.drew).cell? ⟨w.heap.size, 0, none⟩ = some (.slice Aac a.n cac) ∧ (wr.drew).cell? ⟨w.heap.size, 1, none⟩ = some (.slice Aag a.m cag) ∧ (wr.drew).cell? ⟨w.heap.size, 2, none⟩ = some (.slice Aar a.n car) ∧ (wr.drew).cell? ⟨w.heap.size + 1, 0, none⟩ = some (.slice Abc a.n cbc) ∧ (wr.drew).cell? ⟨w.heap.size + 1, 1, none⟩ = some (.slice Abg b.m cbg) ∧ (wr.drew).cell? ⟨w.heap.size + 1, 2, none⟩ = some (.slice Abr a.n cbr) := ⟨T5.out.s.ba.cell 0 rfl, T5.out.s.ba.cell 1 rfl, T5.out.s.ba.cell 2 rfl, T5.out.s.bb.cell 0 rfl, T5.out.s.bb.cell 1 rfl, T5.out.s.bb.cell 2 rfl⟩
                have tok0 : True := trivial
                have tok1 : True := trivial
                have tok2 : True := trivial
                have qR : E + (T + 5 + 2 * (1 + 2 * i + 0)) + 4 ≤ 16000 := by omega
                have qT : T + 3 ≤ T + 5 + 2 * (1 + 2 * i + 0) := by omega
                have qm : 1 + 2 * i + 0 ≤ 1000000 := by omega
                have LAT := Lib.hid (fun (j : Nat) (hj : j < a.n) => at_lim LA.out i j hj)
                have LBT := Lib.hid (fun (j : Nat) (hj : j < a.n) => at_lim LB.out i j (by rw [← HN.out]; exact hj))
                have hix : ∀ W, (Instr.index 150 (.agg #[.bool false, .bool true]) (.int .i64 0)).run Tryd.prog W = .ok (.bool false) W := fun _ => rfl
                go_wp2_with fail
                go_region_held3 (fun w' => (w').cell? ⟨w.heap.size, 0, none⟩ = some (.slice Aac a.n cac) ∧ (w').cell? ⟨w.heap.size, 1, none⟩ = some (.slice Aag a.m cag) ∧ (w').cell? ⟨w.heap.size, 2, none⟩ = some (.slice Aar a.n car) ∧ (w').cell? ⟨w.heap.size + 1, 0, none⟩ = some (.slice Abc a.n cbc) ∧ (w').cell? ⟨w.heap.size + 1, 1, none⟩ = some (.slice Abg b.m cbg) ∧ (w').cell? ⟨w.heap.size + 1, 2, none⟩ = some (.slice Abr a.n cbr)) (first | with_reducible exact k_0 | with_reducible exact k_1 | with_reducible exact k_2 | with_reducible exact k_3 | with_reducible exact k_4)
                  (first
                   | (have _ := tok0; go_at_call 90; clear tok0; (with_reducible refine (at_any wr.drew Aac Aag Aar cac cag car a i gt gN (HAG.out.below T5.out.s.be) T5.out.on T5.out.bt hi0 n0).mono ?_); rintro e w9 ⟨⟨A1, c1, rfl, hr1⟩, hb⟩; have T9 := Lib.hid (T5.out.below hb); have R1 := Lib.hid hr1; clear hr1 hb k_0 k_1; have lz0 := T9.out.s.ba.lt; have k_2 : (w9).cell? ⟨w.heap.size, 0, none⟩ = some (.slice Aac a.n cac) ∧ (w9).cell? ⟨w.heap.size, 1, none⟩ = some (.slice Aag a.m cag) ∧ (w9).cell? ⟨w.heap.size, 2, none⟩ = some (.slice Aar a.n car) ∧ (w9).cell? ⟨w.heap.size + 1, 0, none⟩ = some (.slice Abc a.n cbc) ∧ (w9).cell? ⟨w.heap.size + 1, 1, none⟩ = some (.slice Abg b.m cbg) ∧ (w9).cell? ⟨w.heap.size + 1, 2, none⟩ = some (.slice Abr a.n cbr) := ⟨T9.out.s.ba.cell 0 rfl, T9.out.s.ba.cell 1 rfl, T9.out.s.ba.cell 2 rfl, T9.out.s.bb.cell 0 rfl, T9.out.s.bb.cell 1 rfl, T9.out.s.bb.cell 2 rfl⟩)
                   | (have _ := tok1; go_at_call 90; clear tok1; (with_reducible refine (ATB.out w9 i gt gN (HBG.out.below T9.out.s.be) T9.out.on T9.out.bt hi0 n0).mono ?_); rintro e w10 ⟨⟨A2, c2, rfl, hr2⟩, hb⟩; have T10 := Lib.hid (T9.out.below hb); have R2 := Lib.hid hr2; have R3 := Lib.hid (R1.out.below hb); clear hr2 hb k_2; have k_3 : (w10).cell? ⟨w.heap.size, 0, none⟩ = some (.slice Aac a.n cac) ∧ (w10).cell? ⟨w.heap.size, 1, none⟩ = some (.slice Aag a.m cag) ∧ (w10).cell? ⟨w.heap.size, 2, none⟩ = some (.slice Aar a.n car) ∧ (w10).cell? ⟨w.heap.size + 1, 0, none⟩ = some (.slice Abc a.n cbc) ∧ (w10).cell? ⟨w.heap.size + 1, 1, none⟩ = some (.slice Abg b.m cbg) ∧ (w10).cell? ⟨w.heap.size + 1, 2, none⟩ = some (.slice Abr a.n cbr) := ⟨T10.out.s.ba.cell 0 rfl, T10.out.s.ba.cell 1 rfl, T10.out.s.ba.cell 2 rfl, T10.out.s.bb.cell 0 rfl, T10.out.s.bb.cell 1 rfl, T10.out.s.bb.cell 2 rfl⟩)
                   | (have _ := tok2; go_at_call 89; clear tok2; (with_reducible refine (way_plain w10 w3.heap.size g1 gr v A1 A2 (1 + 2 * i + 0) a.n c1 c2 (a.at i) (b.at i) (hull a b bits).g (hullR a b bits (1 + 2 * i + 0)) bits E T (T + 5 + 2 * (1 + 2 * i + 0)) T10.out.s.vv qm T10.out.s.bj T10.out.s.og T10.out.s.or R3.out R2.out LAT.out LBT.out (LR.out (1 + 2 * i + 0)) qT qR hb2 hb3 (HT.out.below T10.out.s.be)).mono ?_); rintro e w11 P; obtain ⟨rfl, v', gr', hst⟩ := T10.out.step P (hull_g1 a b bits i) (hull_r1 a b bits i); have T11 := Lib.hid hst; clear hst P k_3; have k_4 : (w11).cell? ⟨w.heap.size, 0, none⟩ = some (.slice Aac a.n cac) ∧ (w11).cell? ⟨w.heap.size, 1, none⟩ = some (.slice Aag a.m cag) ∧ (w11).cell? ⟨w.heap.size, 2, none⟩ = some (.slice Aar a.n car) ∧ (w11).cell? ⟨w.heap.size + 1, 0, none⟩ = some (.slice Abc a.n cbc) ∧ (w11).cell? ⟨w.heap.size + 1, 1, none⟩ = some (.slice Abg b.m cbg) ∧ (w11).cell? ⟨w.heap.size + 1, 2, none⟩ = some (.slice Abr a.n cbr) := ⟨T11.out.s.ba.cell 0 rfl, T11.out.s.ba.cell 1 rfl, T11.out.s.ba.cell 2 rfl, T11.out.s.bb.cell 0 rfl, T11.out.s.bb.cell 1 rfl, T11.out.s.bb.cell 2 rfl⟩))
                go_wp2
                go_roundw
                case rel => exact ⟨1, by go_num, by omega, Lib.hid ⟨v', gr', T11.out⟩⟩
                case measure => simp [intOf]
              · have T5 := Lib.hid (show HC w wr.drew w3.heap.size g1 gt gN #[.slice Aac a.n cac, .slice Aag a.m cag, .slice Aar a.n car] #[.slice Abc a.n cbc, .slice Abg b.m cbg, .slice Abr a.n cbr] #[.slice none 0 0, .slice none 0 0, .slice none 0 0] a.n bits (fun j => halfM (a.c j) (b.c j) bits) (hull a b bits).g (hullR a b bits) (1 + 2 * i + 1) v gr from T4.out.below (Below.drew (Below.refl _ wr)))
                have kc0 := T4.out.s.ba.lt
                have kc1 := T4.out.s.bb.lt
                have k_0 : (wr).cell? ⟨w.heap.size, 0, none⟩ = some (.slice Aac a.n cac) ∧ (wr).cell? ⟨w.heap.size, 1, none⟩ = some (.slice Aag a.m cag) ∧ (wr).cell? ⟨w.heap.size, 2, none⟩ = some (.slice Aar a.n car) ∧ (wr).cell? ⟨w.heap.size + 1, 0, none⟩ = some (.slice Abc a.n cbc) ∧ (wr).cell? ⟨w.heap.size + 1, 1, none⟩ = some (.slice Abg b.m cbg) ∧ (wr).cell? ⟨w.heap.size + 1, 2, none⟩ = some (.slice Abr a.n cbr) := ⟨T4.out.s.ba.cell 0 rfl, T4.out.s.ba.cell 1 rfl, T4.out.s.ba.cell 2 rfl, T4.out.s.bb.cell 0 rfl, T4.out.s.bb.cell 1 rfl, T4.out.s.bb.cell 2 rfl⟩
                have k_1 : (wr.drew).cell? ⟨w.heap.size, 0, none⟩ = some (.slice Aac a.n cac) ∧ (wr.drew).cell? ⟨w.heap.size, 1, none⟩ = some (.slice Aag a.m cag) ∧ (wr.drew).cell? ⟨w.heap.size, 2, none⟩ = some (.slice Aar a.n car) ∧ (wr.drew).cell? ⟨w.heap.size + 1, 0, none⟩ = some (.slice Abc a.n cbc) ∧ (wr.drew).cell? ⟨w.heap.size + 1, 1, none⟩ = some (.slice Abg b.m cbg) ∧ (wr.drew).cell? ⟨w.heap.size + 1, 2, none⟩ = some (.slice Abr a.n cbr) := ⟨T5.out.s.ba.cell 0 rfl, T5.out.s.ba.cell 1 rfl, T5.out.s.ba.cell 2 rfl, T5.out.s.bb.cell 0 rfl, T5.out.s.bb.cell 1 rfl, T5.out.s.bb.cell 2 rfl⟩
                have tok0 : True := trivial
                have tok1 : True := trivial
                have tok2 : True := trivial
                have qR : E + (T + 5 + 2 * (1 + 2 * i + 1)) + 4 ≤ 16000 := by omega
                have qT : T + 3 ≤ T + 5 + 2 * (1 + 2 * i + 1) := by omega
                have qm : 1 + 2 * i + 1 ≤ 1000000 := by omega
                have LAT := Lib.hid (fun (j : Nat) (hj : j < a.n) => at_lim LA.out i j hj)
                have LBT := Lib.hid (fun (j : Nat) (hj : j < a.n) => at_lim LB.out i j (by rw [← HN.out]; exact hj))
                have hix : ∀ W, (Instr.index 150 (.agg #[.bool false, .bool true]) (.int .i64 1)).run Tryd.prog W = .ok (.bool true) W := fun _ => rfl
                go_wp2_with fail
                go_region_held3 (fun w' => (w').cell? ⟨w.heap.size, 0, none⟩ = some (.slice Aac a.n cac) ∧ (w').cell? ⟨w.heap.size, 1, none⟩ = some (.slice Aag a.m cag) ∧ (w').cell? ⟨w.heap.size, 2, none⟩ = some (.slice Aar a.n car) ∧ (w').cell? ⟨w.heap.size + 1, 0, none⟩ = some (.slice Abc a.n cbc) ∧ (w').cell? ⟨w.heap.size + 1, 1, none⟩ = some (.slice Abg b.m cbg) ∧ (w').cell? ⟨w.heap.size + 1, 2, none⟩ = some (.slice Abr a.n cbr)) (first | with_reducible exact k_0 | with_reducible exact k_1 | with_reducible exact k_2 | with_reducible exact k_3 | with_reducible exact k_4)
                  (first
                   | (have _ := tok0; go_at_call 90; clear tok0; (with_reducible refine (at_any wr.drew Aac Aag Aar cac cag car a i gt gN (HAG.out.below T5.out.s.be) T5.out.on T5.out.bt hi0 n0).mono ?_); rintro e w9 ⟨⟨A1, c1, rfl, hr1⟩, hb⟩; have T9 := Lib.hid (T5.out.below hb); have R1 := Lib.hid hr1; clear hr1 hb k_0 k_1; have lz0 := T9.out.s.ba.lt; have k_2 : (w9).cell? ⟨w.heap.size, 0, none⟩ = some (.slice Aac a.n cac) ∧ (w9).cell? ⟨w.heap.size, 1, none⟩ = some (.slice Aag a.m cag) ∧ (w9).cell? ⟨w.heap.size, 2, none⟩ = some (.slice Aar a.n car) ∧ (w9).cell? ⟨w.heap.size + 1, 0, none⟩ = some (.slice Abc a.n cbc) ∧ (w9).cell? ⟨w.heap.size + 1, 1, none⟩ = some (.slice Abg b.m cbg) ∧ (w9).cell? ⟨w.heap.size + 1, 2, none⟩ = some (.slice Abr a.n cbr) := ⟨T9.out.s.ba.cell 0 rfl, T9.out.s.ba.cell 1 rfl, T9.out.s.ba.cell 2 rfl, T9.out.s.bb.cell 0 rfl, T9.out.s.bb.cell 1 rfl, T9.out.s.bb.cell 2 rfl⟩)
                   | (have _ := tok1; go_at_call 90; clear tok1; (with_reducible refine (ATB.out w9 i gt gN (HBG.out.below T9.out.s.be) T9.out.on T9.out.bt hi0 n0).mono ?_); rintro e w10 ⟨⟨A2, c2, rfl, hr2⟩, hb⟩; have T10 := Lib.hid (T9.out.below hb); have R2 := Lib.hid hr2; have R3 := Lib.hid (R1.out.below hb); clear hr2 hb k_2; have k_3 : (w10).cell? ⟨w.heap.size, 0, none⟩ = some (.slice Aac a.n cac) ∧ (w10).cell? ⟨w.heap.size, 1, none⟩ = some (.slice Aag a.m cag) ∧ (w10).cell? ⟨w.heap.size, 2, none⟩ = some (.slice Aar a.n car) ∧ (w10).cell? ⟨w.heap.size + 1, 0, none⟩ = some (.slice Abc a.n cbc) ∧ (w10).cell? ⟨w.heap.size + 1, 1, none⟩ = some (.slice Abg b.m cbg) ∧ (w10).cell? ⟨w.heap.size + 1, 2, none⟩ = some (.slice Abr a.n cbr) := ⟨T10.out.s.ba.cell 0 rfl, T10.out.s.ba.cell 1 rfl, T10.out.s.ba.cell 2 rfl, T10.out.s.bb.cell 0 rfl, T10.out.s.bb.cell 1 rfl, T10.out.s.bb.cell 2 rfl⟩)
                   | (have _ := tok2; go_at_call 89; clear tok2; (with_reducible refine (way_turn w10 w3.heap.size g1 gr v A1 A2 (1 + 2 * i + 1) a.n c1 c2 (a.at i) (b.at i) (hull a b bits).g (hullR a b bits (1 + 2 * i + 1)) bits E T (T + 5 + 2 * (1 + 2 * i + 1)) T10.out.s.vv qm T10.out.s.bj T10.out.s.og T10.out.s.or R3.out R2.out LAT.out LBT.out (LR.out (1 + 2 * i + 1)) qT qR hb2 hb3 (HT.out.below T10.out.s.be)).mono ?_); rintro e w11 P; obtain ⟨rfl, v', gr', hst⟩ := T10.out.step P (hull_g2 a b bits i) (hull_r2 a b bits i); have T11 := Lib.hid hst; clear hst P k_3; have k_4 : (w11).cell? ⟨w.heap.size, 0, none⟩ = some (.slice Aac a.n cac) ∧ (w11).cell? ⟨w.heap.size, 1, none⟩ = some (.slice Aag a.m cag) ∧ (w11).cell? ⟨w.heap.size, 2, none⟩ = some (.slice Aar a.n car) ∧ (w11).cell? ⟨w.heap.size + 1, 0, none⟩ = some (.slice Abc a.n cbc) ∧ (w11).cell? ⟨w.heap.size + 1, 1, none⟩ = some (.slice Abg b.m cbg) ∧ (w11).cell? ⟨w.heap.size + 1, 2, none⟩ = some (.slice Abr a.n cbr) := ⟨T11.out.s.ba.cell 0 rfl, T11.out.s.ba.cell 1 rfl, T11.out.s.ba.cell 2 rfl, T11.out.s.bb.cell 0 rfl, T11.out.s.bb.cell 1 rfl, T11.out.s.bb.cell 2 rfl⟩))
                go_wp2
                go_roundw
                case rel => exact ⟨2, by go_num, by omega, Lib.hid ⟨v', gr', T11.out⟩⟩
                case measure => simp [intOf]
            · obtain rfl : t = 2 := by omega
              have T12 := Lib.hid (show ∃ v gr, HC w wr w3.heap.size g1 gt gN #[.slice Aac a.n cac, .slice Aag a.m cag, .slice Aar a.n car] #[.slice Abc a.n cbc, .slice Abg b.m cbg, .slice Abr a.n cbr] #[.slice none 0 0, .slice none 0 0, .slice none 0 0] a.n bits (fun j => halfM (a.c j) (b.c j) bits) (hull a b bits).g (hullR a b bits) (1 + 2 * (i + 1)) v gr from by rw [show 1 + 2 * (i + 1) = 1 + 2 * i + 2 from by omega]; exact Hr.out)
              clear Hr
              go_wp2
              go_roundw
              case rel => exact ⟨i + 1, by go_num, hs, T12⟩
              case measure => simp only [intOf]; omega
        · obtain rfl : i = max a.m b.m := by omega
          clear hi2
          obtain ⟨v, gr, T⟩ := Hr.out
          clear Hr
          have eg : OG wr v (2 * max a.m b.m + 1) a.n (hull a b bits).g := by rw [show 2 * max a.m b.m + 1 = 1 + 2 * max a.m b.m from by omega]; exact T.s.og
          obtain ⟨gg, cg, rfl, _⟩ := OG.read eg n0 (by omega)
          have hss := eg
          have RR := Lib.hid (show OD wr gr a.n (hullR a b bits (2 * max a.m b.m + 1)) by rw [show 2 * max a.m b.m + 1 = 1 + 2 * max a.m b.m from by omega]; exact T.s.or)
          have RG := Lib.hid hss
          have RC := Lib.hid T.s.oc
          have BO := Lib.hid T.s.bo
          have BJ := Lib.hid T.s.bj
          have HB9 := Lib.hid T.s.be
          clear hss T
          have lo := BO.out.lt
          obtain ⟨co0, co1, co2⟩ := BO.out.cells3
          have fo0 := BO.out.free 0
          have fo1 := BO.out.free 1
          have fo2 := BO.out.free 2
          have lj := BJ.out.lt
          obtain ⟨cj0, cj1, cj2, cj3⟩ := BJ.out.cells4
          have qj : w3.heap.size ≠ w.heap.size + 2 := by omega
          have zr : (42 : TypeId) ≠ 39 := by decide
          have zd : (42 : TypeId) ≠ 53 := by decide
          have ng1 := RC.out.neb BO.out zd
          have ngr := RR.out.neb BO.out zd
          have RZ := Lib.hid (OG.rd (((RG.out.set BO.out zr zd 0 (by intro _ hh; cases hh) (.slice (some ⟨g1, 0, none⟩) a.n a.n)).set (BO.out.set 0 (.slice (some ⟨g1, 0, none⟩) a.n a.n)) zr zd 1 (by intro _ hh; cases hh) (.slice (some ⟨gg, 0, none⟩) (2 * max a.m b.m + 1) cg)).set ((BO.out.set 0 (.slice (some ⟨g1, 0, none⟩) a.n a.n)).set 1 (.slice (some ⟨gg, 0, none⟩) (2 * max a.m b.m + 1) cg)) zr zd 2 (by intro _ hh; cases hh) (.slice (some ⟨gr, 0, none⟩) a.n a.n)) n0 (by omega))
          go_wp2
          refine bodyPost_ret (v := .tuple #[.agg #[.slice (some ⟨g1, 0, none⟩) a.n a.n, .slice (some ⟨gg, 0, none⟩) (2 * max a.m b.m + 1) cg, .slice (some ⟨gr, 0, none⟩) a.n a.n], .int .i64 0]) ?_ rfl ?_
          · simp [results, Tryd.f26, go_sem, co0, co1, co2]
          · have y0 := BO.out.lt; have y1 := BJ.out.lt; have y2 := RC.out.lt; have y3 := RR.out.lt; have y4 := HB9.out.size; exact ⟨⟨g1, gg, gr, cg, rfl, ⟨(((RC.out.st (cs := #[.slice none 0 0, .slice none 0 0, .slice none 0 0]) BO.out (by omega) 0 (by intro _ hh; cases hh) (.slice (some ⟨g1, 0, none⟩) a.n a.n)).st (cs := #[.slice (some ⟨g1, 0, none⟩) a.n a.n, .slice none 0 0, .slice none 0 0]) (BO.out.set 0 (.slice (some ⟨g1, 0, none⟩) a.n a.n)) (by omega) 1 (by intro _ hh; cases hh) (.slice (some ⟨gg, 0, none⟩) (2 * max a.m b.m + 1) cg)).st (cs := #[.slice (some ⟨g1, 0, none⟩) a.n a.n, .slice (some ⟨gg, 0, none⟩) (2 * max a.m b.m + 1) cg, .slice none 0 0]) ((BO.out.set 0 (.slice (some ⟨g1, 0, none⟩) a.n a.n)).set 1 (.slice (some ⟨gg, 0, none⟩) (2 * max a.m b.m + 1) cg)) (by omega) 2 (by intro _ hh; cases hh) (.slice (some ⟨gr, 0, none⟩) a.n a.n)).read n0, RZ.out, (((RR.out.st (cs := #[.slice none 0 0, .slice none 0 0, .slice none 0 0]) BO.out (by omega) 0 (by intro _ hh; cases hh) (.slice (some ⟨g1, 0, none⟩) a.n a.n)).st (cs := #[.slice (some ⟨g1, 0, none⟩) a.n a.n, .slice none 0 0, .slice none 0 0]) (BO.out.set 0 (.slice (some ⟨g1, 0, none⟩) a.n a.n)) (by omega) 1 (by intro _ hh; cases hh) (.slice (some ⟨gg, 0, none⟩) (2 * max a.m b.m + 1) cg)).st (cs := #[.slice (some ⟨g1, 0, none⟩) a.n a.n, .slice (some ⟨gg, 0, none⟩) (2 * max a.m b.m + 1) cg, .slice none 0 0]) ((BO.out.set 0 (.slice (some ⟨g1, 0, none⟩) a.n a.n)).set 1 (.slice (some ⟨gg, 0, none⟩) (2 * max a.m b.m + 1) cg)) (by omega) 2 (by intro _ hh; cases hh) (.slice (some ⟨gr, 0, none⟩) a.n a.n)).read n0⟩⟩, (below_st (below_st (below_st HB9.out 0 (by omega) (.slice (some ⟨g1, 0, none⟩) a.n a.n)) 1 (by omega) (.slice (some ⟨gg, 0, none⟩) (2 * max a.m b.m + 1) cg)) 2 (by omega) (.slice (some ⟨gr, 0, none⟩) a.n a.n))⟩

end Go.Proofs.YtgioppkggpfnoaaDoor.Nu
end

section
/- The walk of zono.Point. -/
set_option linter.unusedVariables false
namespace Go.Proofs.YtgioppkggpfnoaaDoor.Nu
open Go.RowKit Go.Proofs

theorem point_mem {w w0 w3 : World} {g n : Nat} {t : TypeId} {cs : Array Value} (B : Bk w3 g t cs) (hs : w3.heap.size = w0.heap.size) (hb : Below w.heap.size w w3) :
    Bk ((w3.alloc (.cells (mkD n) 53)).alloc (.cells (mkD n) 53)).drew g t cs ∧ OD ((w3.alloc (.cells (mkD n) 53)).alloc (.cells (mkD n) 53)).drew w0.heap.size n (fun _ => D.zero) ∧ OD ((w3.alloc (.cells (mkD n) 53)).alloc (.cells (mkD n) 53)).drew (w0.heap.size + 1) n (fun _ => D.zero) ∧ Below w.heap.size w ((w3.alloc (.cells (mkD n) 53)).alloc (.cells (mkD n) 53)).drew := by
  rw [← hs]
  exact ⟨((B.alloc _).alloc _).drew, ((OD.made w3 n).al _).dr, (OD.made1 w3 _ n).dr, below_dr (below_al (below_al hb _) _)⟩

set_option maxRecDepth 100000 in
set_option maxHeartbeats 4000000 in
theorem point_any (w : World) (n : Nat) (hn : n ≤ 16) :
    Calls Tryd.prog 49 #[.int .i64 n] w fun e w' => (∃ g1 g2 : Nat, e = .returned (.agg #[.slice (some ⟨g1, 0, none⟩) n n, .slice none 0 0, .slice (some ⟨g2, 0, none⟩) n n]) ∧ w.heap.size ≤ g1 ∧ w.heap.size ≤ g2 ∧ g1 ≠ g2 ∧ OD w' g1 n (fun _ => D.zero) ∧ OD w' g2 n (fun _ => D.zero)) ∧ Below w.heap.size w w' := by
  have n0 : n ≤ 1000000 := by omega
  have hmk := fun W => make_D n n0 W
  have HMK := Lib.hid hmk
  clear hmk
  have e1 : max (n : Int) 0 = (n : Int) := by omega
  have e2 : min (n : Int) 16 = (n : Int) := by omega
  have BX := Lib.hid (boxes1 w 42 #[.slice none 0 0, .slice none 0 0, .slice none 0 0])
  go_enter Tryd.func49, Tryd.ntmps49
  go_wp2_with fail
  generalize w.alloc (.cells #[.slice none 0 0, .slice none 0 0, .slice none 0 0] 42) = w0 at *
  obtain ⟨b0, hw⟩ := BX.out
  have Bo_0 := Lib.hid b0
  have HB_0 := Lib.hid hw
  have K := Dk.below (hw.mono (Nat.le_refl _))
  clear BX hw b0
  clear K
  have lo := Bo_0.out.lt
  obtain ⟨co0, co1, co2⟩ := Bo_0.out.cells3
  have fo0 := Bo_0.out.free 0
  have fo1 := Bo_0.out.free 1
  have fo2 := Bo_0.out.free 2
  have hmk := HMK.out
  have n62 : n ≤ 16 := hn
  go_wp2_with fail
  go_region_held3 (fun w' => True) (trivial)
    (fail)
  all_goals go_wp2
  · have lw := HB_0.out.size
    have M := Lib.hid (point_mem (w0 := w0) (n := n) (((Bo_0.out.set 0 (.slice (some ⟨w0.heap.size, 0, none⟩) n n)).set 1 (.slice none 0 0)).set 2 (.slice (some ⟨w0.heap.size + 1, 0, none⟩) n n)) (by simp [World.setCell]) (below_st (below_st (below_st HB_0.out 0 (Nat.le_refl _) (.slice (some ⟨w0.heap.size, 0, none⟩) n n)) 1 (Nat.le_refl _) (.slice none 0 0)) 2 (Nat.le_refl _) (.slice (some ⟨w0.heap.size + 1, 0, none⟩) n n)))
    clear co0 co1 co2 fo0 fo1 fo2 lo hmk HMK
    generalize (((((w0.setCell ⟨w.heap.size, 0, none⟩ (.slice (some ⟨w0.heap.size, 0, none⟩) n n)).setCell ⟨w.heap.size, 1, none⟩ (.slice none 0 0)).setCell ⟨w.heap.size, 2, none⟩ (.slice (some ⟨w0.heap.size + 1, 0, none⟩) n n)).alloc (.cells (mkD n) 53)).alloc (.cells (mkD n) 53)).drew = w9 at *
    obtain ⟨m1, m2, m3, m4⟩ := M.out
    have co0 : w9.cell? ⟨w.heap.size, 0, none⟩ = some (.slice (some ⟨w0.heap.size, 0, none⟩) n n) := m1.cell 0 rfl
    have co1 : w9.cell? ⟨w.heap.size, 1, none⟩ = some (.slice none 0 0) := m1.cell 1 rfl
    have co2 : w9.cell? ⟨w.heap.size, 2, none⟩ = some (.slice (some ⟨w0.heap.size + 1, 0, none⟩) n n) := m1.cell 2 rfl
    refine bodyPost_ret (v := .agg #[.slice (some ⟨w0.heap.size, 0, none⟩) n n, .slice none 0 0, .slice (some ⟨w0.heap.size + 1, 0, none⟩) n n]) ?_ rfl ?_
    · simp [results, Tryd.f49, go_sem, co0, co1, co2]
    · exact ⟨⟨w0.heap.size, w0.heap.size + 1, rfl, by omega, by omega, by omega, m2, m3⟩, m4⟩
  · have lw := HB_0.out.size
    have M := Lib.hid (point_mem (w0 := w0) (n := n) (((Bo_0.out.set 0 (.slice (some ⟨w0.heap.size + 1, 0, none⟩) n n)).set 1 (.slice none 0 0)).set 2 (.slice (some ⟨w0.heap.size, 0, none⟩) n n)) (by simp [World.setCell]) (below_st (below_st (below_st HB_0.out 0 (Nat.le_refl _) (.slice (some ⟨w0.heap.size + 1, 0, none⟩) n n)) 1 (Nat.le_refl _) (.slice none 0 0)) 2 (Nat.le_refl _) (.slice (some ⟨w0.heap.size, 0, none⟩) n n)))
    clear co0 co1 co2 fo0 fo1 fo2 lo hmk HMK
    generalize (((((w0.setCell ⟨w.heap.size, 0, none⟩ (.slice (some ⟨w0.heap.size + 1, 0, none⟩) n n)).setCell ⟨w.heap.size, 1, none⟩ (.slice none 0 0)).setCell ⟨w.heap.size, 2, none⟩ (.slice (some ⟨w0.heap.size, 0, none⟩) n n)).alloc (.cells (mkD n) 53)).alloc (.cells (mkD n) 53)).drew = w9 at *
    obtain ⟨m1, m2, m3, m4⟩ := M.out
    have co0 : w9.cell? ⟨w.heap.size, 0, none⟩ = some (.slice (some ⟨w0.heap.size + 1, 0, none⟩) n n) := m1.cell 0 rfl
    have co1 : w9.cell? ⟨w.heap.size, 1, none⟩ = some (.slice none 0 0) := m1.cell 1 rfl
    have co2 : w9.cell? ⟨w.heap.size, 2, none⟩ = some (.slice (some ⟨w0.heap.size, 0, none⟩) n n) := m1.cell 2 rfl
    refine bodyPost_ret (v := .agg #[.slice (some ⟨w0.heap.size + 1, 0, none⟩) n n, .slice none 0 0, .slice (some ⟨w0.heap.size, 0, none⟩) n n]) ?_ rfl ?_
    · simp [results, Tryd.f49, go_sem, co0, co1, co2]
    · exact ⟨⟨w0.heap.size + 1, w0.heap.size, rfl, by omega, by omega, by omega, m3, m2⟩, m4⟩

end Go.Proofs.YtgioppkggpfnoaaDoor.Nu
end

section
/- Layer 18's far: how far a set goes in a direction, reckoned with 2000 bits. -/
set_option linter.unusedVariables false
namespace Go.Proofs.YtgioppkggpfnoaaDoor.Nu
open Go.RowKit Go.Proofs

set_option maxRecDepth 100000 in
set_option maxHeartbeats 4000000 in
theorem spoint_copy (w : World) (b : Bool) (A : Option Addr) (n c : Nat) (x : Int) :
    Calls Tryd.prog 59 #[.agg #[.bool b, .slice A n c, .int .i64 x]] w fun e w' => e = .returned (.agg #[.bool b, .slice A n c, .int .i64 x, .bool b, .slice A n c, .int .i64 x]) ∧ Below w.heap.size w w' := by
  have BX := Lib.hid (boxes2 w 53 #[.bool b, .slice A n c, .int .i64 x] 62 #[.bool b, .slice A n c, .int .i64 x, .bool b, .slice A n c, .int .i64 x])
  go_enter Tryd.func59, Tryd.ntmps59
  go_wp2
  refine bodyPost_ret (v := .agg #[.bool b, .slice A n c, .int .i64 x, .bool b, .slice A n c, .int .i64 x]) ?_ rfl ?_
  · simp [results, Tryd.f59, go_sem]
  · exact ⟨rfl, BX.out.2.2⟩
theorem own_below {w w' : World} {base : Nat} {e : TypeId} {size : Nat} {v : Value} {n : Nat} {xs : List Value} (h : w.ownsRow base e size v n xs) (hb : Below w.heap.size w w') : w'.ownsRow base e size v n xs := by
  refine ⟨h.1, ?_⟩
  rcases h.2 with hn | ⟨g, cap, cur, rfl, h1, hg, rest⟩
  · exact .inl hn
  · exact .inr ⟨g, cap, cur, rfl, h1, (hb.block g (Array.getElem?_eq_some_iff.1 hg).1).trans hg, rest⟩
theorem new_row (w : World) (xs : List Value) (t : TypeId) (j : Nat) (u : Value) (h : xs[j]? = some u) : (w.alloc (.cells xs.toArray t)).cell? ((⟨w.heap.size, 0, none⟩ : Addr).add j) = some u := by
  rw [Addr.add_lit, Nat.zero_add]
  exact (Bk.new w t xs.toArray).cell j (by simpa using h)
theorem one6 {a b c d e f : Value} (ha : a.oneCell' = true) (hb : b.oneCell' = true) (hc : c.oneCell' = true) (hd : d.oneCell' = true) (he : e.oneCell' = true) (hf : f.oneCell' = true) : ∀ u ∈ [a, b, c, d, e, f], u.oneCell' = true := by
  intro u hu
  rcases List.mem_cons.1 hu with rfl | hu
  · exact ha
  rcases List.mem_cons.1 hu with rfl | hu
  · exact hb
  rcases List.mem_cons.1 hu with rfl | hu
  · exact hc
  rcases List.mem_cons.1 hu with rfl | hu
  · exact hd
  rcases List.mem_cons.1 hu with rfl | hu
  · exact he
  rcases List.mem_cons.1 hu with rfl | hu
  · exact hf
  cases hu
/-- Element j of a row of points. -/
def PtAt (xs : List Value) (j : Nat) (q : Q) (x : Int) : Prop := xs[j * 6]? = some (.bool q.b) ∧ xs[j * 6 + 1]? = some (.slice q.A q.n q.c) ∧ xs[j * 6 + 2]? = some (.int .i64 x) ∧ xs[j * 6 + 3]? = some (.bool q.b) ∧ xs[j * 6 + 4]? = some (.slice q.A q.n q.c) ∧ xs[j * 6 + 5]? = some (.int .i64 x)
theorem PtAt.app {xs ys : List Value} {j i : Nat} {q : Q} {x : Int} (h : PtAt xs j q x) (hl : xs.length = i * 6) (hj : j < i) : PtAt (xs ++ ys) j q x := by
  have hlt : ∀ c, c < 6 → (xs ++ ys)[j * 6 + c]? = xs[j * 6 + c]? := fun c hc => List.getElem?_append_left (by omega)
  obtain ⟨a0, a1, a2, a3, a4, a5⟩ := h
  exact ⟨(hlt 0 (by omega)).trans a0, (hlt 1 (by omega)).trans a1, (hlt 2 (by omega)).trans a2, (hlt 3 (by omega)).trans a3, (hlt 4 (by omega)).trans a4, (hlt 5 (by omega)).trans a5⟩
theorem PtAt.last {xs : List Value} {i : Nat} (q : Q) (x : Int) (hl : xs.length = i * 6) : PtAt (xs ++ [.bool q.b, .slice q.A q.n q.c, .int .i64 x, .bool q.b, .slice q.A q.n q.c, .int .i64 x]) i q x := by
  have hlt : ∀ c, (xs ++ [Value.bool q.b, .slice q.A q.n q.c, .int .i64 x, .bool q.b, .slice q.A q.n q.c, .int .i64 x])[i * 6 + c]? = [Value.bool q.b, .slice q.A q.n q.c, .int .i64 x, .bool q.b, .slice q.A q.n q.c, .int .i64 x][c]? := fun c => by
    rw [List.getElem?_append_right (by omega), show i * 6 + c - xs.length = c by omega]
  exact ⟨hlt 0, hlt 1, hlt 2, hlt 3, hlt 4, hlt 5⟩
/-- The state ahead of a direction's place: so many spans are laid. -/
def FarRel (w : World) (f : Nat → D) (w0 : World) (i : Nat) (v : Value) (wr : World) : Prop :=
  Below w0.heap.size w0 wr ∧ ∃ xs, wr.ownsRow w0.heap.size 62 6 v i xs ∧ ∀ j, j < i → ∃ q, PtAt xs j q (f j).x ∧ RD w q (f j)
theorem far_next {w w0 w5 w6 : World} {f : Nat → D} {i : Nat} {v v' : Value} {xs : List Value} {q : Q} (hb : Below w0.heap.size w0 w5) (ho : w5.ownsRow w0.heap.size 62 6 v i xs)
    (hn : w6.ownsRow w0.heap.size 62 6 v' (i + 1) (xs ++ [.bool q.b, .slice q.A q.n q.c, .int .i64 (f i).x, .bool q.b, .slice q.A q.n q.c, .int .i64 (f i).x])) (hg : w5.grownBy w6 v.ownBlock) (he : ∀ j, j < i → ∃ q, PtAt xs j q (f j).x ∧ RD w q (f j)) (hq : RD w q (f i)) : FarRel w f w0 (i + 1) v' w6 := by
  refine ⟨hb.grown hg hb.size fun k hk => (ho.lt k hk).1, _, hn, fun j hj => ?_⟩
  by_cases e : j = i
  · subst e
    exact ⟨q, PtAt.last q _ ho.1, hq⟩
  · obtain ⟨q', h1, h2⟩ := he j (by omega)
    exact ⟨q', h1.app ho.1 (by omega), h2⟩
theorem far_end {w w0 wr : World} {f : Nat → D} {n c : Nat} {A : Option Addr} {v : Value} (hd : RDs w A n c f) (h0 : Below w.heap.size w w0) (h : FarRel w f w0 n v wr) : ∃ dA dc, v = .slice dA n dc ∧ RSs wr dA n dc (pts f) := by
  obtain ⟨hb, xs, ho, he⟩ := h
  have hbw := below_tr h0 hb
  rcases ho.2 with ⟨rfl, hx⟩ | ⟨g, cap, cur, rfl, _, hg, hnc, _⟩
  · have hn : n = 0 := by have := ho.1; rw [hx] at this; simp at this; omega
    subst hn
    exact ⟨none, 0, rfl, Nat.le_refl _, Nat.zero_le _, fun h => absurd h (by omega)⟩
  · refine ⟨_, _, rfl, hnc, hd.2.1, fun _ => ⟨g, 0, rfl, (Array.getElem?_eq_some_iff.1 hg).1, fun j hj => ?_⟩⟩
    obtain ⟨q, ⟨a0, a1, a2, a3, a4, a5⟩, hr⟩ := he j hj
    have hc : ∀ k u, xs[k]? = some u → wr.cell? ⟨g, 0 + k, none⟩ = some u := fun k u hu => by
      have := ho.cells (g := g) rfl k u hu
      rw [Addr.add_lit] at this
      exact this
    exact ⟨⟨q, q⟩, hc _ _ a0, hc _ _ a1, hc _ _ a2, hc _ _ a3, hc _ _ a4, hc _ _ a5, hr.below hbw, hr.below hbw⟩

end Go.Proofs.YtgioppkggpfnoaaDoor.Nu
end

section
/- The two points that layer 18's statements join ahead of all else: what comes of it. And how near the set that holds two lies. No program in sight. -/
namespace Go.Proofs.YtgioppkggpfnoaaDoor.Nu

/-- The middle alone, of so many noughts. -/
def ptZo (n : Nat) : Zo := ⟨n, fun _ => D.zero, 0, fun _ _ => D.zero, fun _ => D.zero⟩
theorem ptZo_lim (n E T : Nat) : (ptZo n).Lim E T := ⟨fun _ _ => zero_lim _ _, fun _ _ h _ => absurd h (Nat.not_lt_zero _), fun _ _ => zero_lim _ _⟩
/-! ### What holds two may be -/
end Go.Proofs.YtgioppkggpfnoaaDoor.Nu
end
