/- Texts of the seat, laid together: SMul, Lists, Own, Inner, Points. -/
import Derived.Test.YtgioppkggpfnoaaDoorJn2
import Derived.LoopN
import Derived.Deep.DeepCutAuto
import Derived.Deep.CutBlock
import Derived.RegionTactic
import Derived.StillTailTactics
import Derived.Deep.RegionHeld3
set_option linter.all false
set_option exponentiation.threshold 20000
section
/- The walk of span.Mul. -/
set_option linter.unusedVariables false
namespace Go.Proofs.YtgioppkggpfnoaaDoor.Nu
open Go.RowKit Go.Proofs

/-- What stands on either side in round i. -/
def mA (s : SQ) : Nat → Q
  | 0 => s.lo
  | 1 => s.lo
  | _ => s.hi
def mB (t : SQ) : Nat → Q
  | 0 => t.lo
  | 1 => t.hi
  | 2 => t.lo
  | _ => t.hi
def mAd (a : Sp) : Nat → D
  | 0 => a.lo
  | 1 => a.lo
  | _ => a.hi
def mBd (b : Sp) : Nat → D
  | 0 => b.lo
  | 1 => b.hi
  | 2 => b.lo
  | _ => b.hi
/-- The product of round i; the least and the greatest ahead of it. -/
def mP (a b : Sp) (i : Nat) : D := (mAd a i).mul (mBd b i)
def mL (a b : Sp) : Nat → D
  | 0 => D.zero
  | 1 => mP a b 0
  | k + 2 => (mL a b (k + 1)).mn (mP a b (k + 1))
def mH (a b : Sp) : Nat → D
  | 0 => D.zero
  | 1 => mP a b 0
  | k + 2 => (mH a b (k + 1)).mx (mP a b (k + 1))
theorem mL_one {a b : Sp} {i : Nat} (h : i = 0) : mL a b (i + 1) = mP a b i := by subst h; rfl
theorem mH_one {a b : Sp} {i : Nat} (h : i = 0) : mH a b (i + 1) = mP a b i := by subst h; rfl
theorem mL_more {a b : Sp} {i : Nat} (h : ¬i = 0) : mL a b (i + 1) = (mL a b i).mn (mP a b i) := by
  obtain ⟨j, rfl⟩ : ∃ j, i = j + 1 := ⟨i - 1, by omega⟩
  rfl
theorem mH_more {a b : Sp} {i : Nat} (h : ¬i = 0) : mH a b (i + 1) = (mH a b i).mx (mP a b i) := by
  obtain ⟨j, rfl⟩ : ∃ j, i = j + 1 := ⟨i - 1, by omega⟩
  rfl
theorem mul_four (a b : Sp) (bits : Nat) : a.mul b bits = Sp.out (mL a b 4) (mH a b 4) bits := rfl
theorem mA_rd {w : World} {s : SQ} {a : Sp} (h : RS w s a) (i : Nat) : RD w (mA s i) (mAd a i) := by
  rcases i with _ | _ | i
  · exact h.1
  · exact h.1
  · exact h.2
theorem mB_rd {w : World} {s : SQ} {a : Sp} (h : RS w s a) (i : Nat) : RD w (mB s i) (mBd a i) := by
  rcases i with _ | _ | _ | i
  · exact h.1
  · exact h.2
  · exact h.1
  · exact h.2
theorem mAd_lim {a : Sp} {E T : Nat} (h : a.Lim E T) (i : Nat) : (mAd a i).Lim E T := by
  rcases i with _ | _ | i
  · exact h.1
  · exact h.1
  · exact h.2
theorem mBd_lim {a : Sp} {E T : Nat} (h : a.Lim E T) (i : Nat) : (mBd a i).Lim E T := by
  rcases i with _ | _ | _ | i
  · exact h.1
  · exact h.2
  · exact h.1
  · exact h.2
theorem mul_ok1 {a b : D} {E T E2 T2 : Nat} (la : a.Lim E T) (lb : b.Lim E2 T2) (h : E + E2 + T + T2 ≤ 16000) : nb a.z.natAbs + nb b.z.natAbs ≤ 16320 ∧ -20000 ≤ a.x ∧ a.x ≤ 20000 ∧ -20000 ≤ b.x ∧ b.x ≤ 20000 := by
  have h1 := la.nb
  have h2 := lb.nb
  have h3 := la.1
  have h4 := la.2
  have h5 := lb.1
  have h6 := lb.2
  omega
theorem mul_ok {a b : Sp} {E T E2 T2 : Nat} (la : a.Lim E T) (lb : b.Lim E2 T2) (h : E + E2 + T + T2 ≤ 16000) (i : Nat) :
    (nb (mAd a i).z.natAbs + nb (mBd b i).z.natAbs ≤ 16320 ∧ -20000 ≤ (mAd a i).x ∧ (mAd a i).x ≤ 20000 ∧ -20000 ≤ (mBd b i).x ∧ (mBd b i).x ≤ 20000) ∧ D.Lim (E + E2) (T + T2) (mP a b i) ∧ D.Lim (E + E2) (T + T2) (mL a b i) ∧ D.Lim (E + E2) (T + T2) (mH a b i) := by
  have p : ∀ j, D.Lim (E + E2) (T + T2) (mP a b j) := fun j => mul_lim (mAd_lim la j) (mBd_lim lb j)
  have q : ∀ j, D.Lim (E + E2) (T + T2) (mL a b j) ∧ D.Lim (E + E2) (T + T2) (mH a b j) := fun j => by
    induction j with
    | zero => exact ⟨zero_lim _ _, zero_lim _ _⟩
    | succ j ih =>
      by_cases hj : j = 0
      · rw [mL_one hj, mH_one hj]
        exact ⟨p j, p j⟩
      · rw [mL_more hj, mH_more hj]
        exact ⟨mn_lim ih.1 (p j), mx_lim ih.2 (p j)⟩
  exact ⟨mul_ok1 (mAd_lim la i) (mBd_lim lb i) h, p i, q i⟩
/-- The state ahead of round i. -/
def SMulRel (a b : Sp) (W : World) (i : Nat) (w : World) : Prop :=
  ∃ u v : Q, Bk w (W.heap.size + 1 + 1) 62 #[.bool false, .slice none 0 0, .int .i64 0, .bool false, .slice none 0 0, .int .i64 0] ∧ Bk w (W.heap.size + 1 + 1 + 1) 53 #[.bool u.b, .slice u.A u.n u.c, .int .i64 (mL a b i).x] ∧ Bk w (W.heap.size + 1 + 1 + 1 + 1) 53 #[.bool v.b, .slice v.A v.n v.c, .int .i64 (mH a b i).x] ∧ Below W.heap.size W w ∧ RD w u (mL a b i) ∧ RD w v (mH a b i)

set_option maxRecDepth 100000 in
set_option maxHeartbeats 40000000 in
theorem smul_any (w : World) (s t : SQ) (a b : Sp) (bits : Nat) (E T E2 T2 : Nat) (h : RS w s a) (h2 : RS w t b) (la : a.Lim E T) (lb : b.Lim E2 T2) (hET : E + E2 + T + T2 ≤ 16000) (hb2 : 2 ≤ bits) (hb3 : bits ≤ 4096) (ht : BTab w) :
    Calls Tryd.prog 37 #[.agg #[.bool s.lo.b, .slice s.lo.A s.lo.n s.lo.c, .int .i64 a.lo.x, .bool s.hi.b, .slice s.hi.A s.hi.n s.hi.c, .int .i64 a.hi.x], .agg #[.bool t.lo.b, .slice t.lo.A t.lo.n t.lo.c, .int .i64 b.lo.x, .bool t.hi.b, .slice t.hi.A t.hi.n t.hi.c, .int .i64 b.hi.x], .int .i64 bits] w fun e w' => (∃ r : SQ, e = .returned (.tuple #[.agg #[.bool r.lo.b, .slice r.lo.A r.lo.n r.lo.c, .int .i64 (a.mul b bits).lo.x, .bool r.hi.b, .slice r.hi.A r.hi.n r.hi.c, .int .i64 (a.mul b bits).hi.x], .int .i64 0]) ∧ RS w' r (a.mul b bits)) ∧ Below w.heap.size w w' := by
  have HA := Lib.hid h
  have HB := Lib.hid h2
  have LA := Lib.hid la
  have LB := Lib.hid lb
  clear h h2 la lb
  have HT := Lib.hid ht
  have YY := Lib.hid (mul_ok LA.out LB.out hET)
  have y9 : E + E2 + (T + T2) ≤ 16000 := by omega
  clear ht
  rw [mul_four]
  have hix : ∀ (W : World) (i : Nat), i < 4 → (Instr.index 158 (.agg #[.bool s.lo.b, .slice s.lo.A s.lo.n s.lo.c, .int .i64 a.lo.x, .bool t.lo.b, .slice t.lo.A t.lo.n t.lo.c, .int .i64 b.lo.x, .bool s.lo.b, .slice s.lo.A s.lo.n s.lo.c, .int .i64 a.lo.x, .bool t.hi.b, .slice t.hi.A t.hi.n t.hi.c, .int .i64 b.hi.x, .bool s.hi.b, .slice s.hi.A s.hi.n s.hi.c, .int .i64 a.hi.x, .bool t.lo.b, .slice t.lo.A t.lo.n t.lo.c, .int .i64 b.lo.x, .bool s.hi.b, .slice s.hi.A s.hi.n s.hi.c, .int .i64 a.hi.x, .bool t.hi.b, .slice t.hi.A t.hi.n t.hi.c, .int .i64 b.hi.x]) (.int .i64 i)).run Tryd.prog W = .ok (.agg #[.bool (mA s i).b, .slice (mA s i).A (mA s i).n (mA s i).c, .int .i64 (mAd a i).x, .bool (mB t i).b, .slice (mB t i).A (mB t i).n (mB t i).c, .int .i64 (mBd b i).x]) W := by
    intro W i hi
    rcases i with _ | _ | _ | _ | i
    · rfl
    · rfl
    · rfl
    · rfl
    · omega
  have BX := Lib.hid (boxes5 w 62 #[.bool s.lo.b, .slice s.lo.A s.lo.n s.lo.c, .int .i64 a.lo.x, .bool s.hi.b, .slice s.hi.A s.hi.n s.hi.c, .int .i64 a.hi.x] 62 #[.bool t.lo.b, .slice t.lo.A t.lo.n t.lo.c, .int .i64 b.lo.x, .bool t.hi.b, .slice t.hi.A t.hi.n t.hi.c, .int .i64 b.hi.x] 62 #[.bool false, .slice none 0 0, .int .i64 0, .bool false, .slice none 0 0, .int .i64 0] 53 #[.bool false, .slice none 0 0, .int .i64 0] 53 #[.bool false, .slice none 0 0, .int .i64 0])
  go_enter Tryd.func37, Tryd.ntmps37
  go_wp2_with fail
  generalize ((((w.alloc (.cells #[.bool s.lo.b, .slice s.lo.A s.lo.n s.lo.c, .int .i64 a.lo.x, .bool s.hi.b, .slice s.hi.A s.hi.n s.hi.c, .int .i64 a.hi.x] 62)).alloc (.cells #[.bool t.lo.b, .slice t.lo.A t.lo.n t.lo.c, .int .i64 b.lo.x, .bool t.hi.b, .slice t.hi.A t.hi.n t.hi.c, .int .i64 b.hi.x] 62)).alloc (.cells #[.bool false, .slice none 0 0, .int .i64 0, .bool false, .slice none 0 0, .int .i64 0] 62)).alloc (.cells #[.bool false, .slice none 0 0, .int .i64 0] 53)).alloc (.cells #[.bool false, .slice none 0 0, .int .i64 0] 53) = w0 at *
  obtain ⟨b0, b1, b2, b3, b4, hw⟩ := BX.out
  have Ba_0 := Lib.hid b0
  have Bb_0 := Lib.hid b1
  have Bo_0 := Lib.hid b2
  have Bl_0 := Lib.hid b3
  have Bh_0 := Lib.hid b4
  have HB_0 := Lib.hid hw
  have K := Dk.below (hw.mono (Nat.le_refl _))
  clear BX hw b0 b1 b2 b3 b4
  clear K
  have la := Ba_0.out.lt
  obtain ⟨ca0, ca1, ca2, ca3, ca4, ca5⟩ := Ba_0.out.cells6
  have lb := Bb_0.out.lt
  obtain ⟨cb0, cb1, cb2, cb3, cb4, cb5⟩ := Bb_0.out.cells6
  have lo := Bo_0.out.lt
  obtain ⟨co0, co1, co2, co3, co4, co5⟩ := Bo_0.out.cells6
  have ll := Bl_0.out.lt
  obtain ⟨cl0, cl1, cl2⟩ := Bl_0.out.cells3
  have lh := Bh_0.out.lt
  obtain ⟨ch0, ch1, ch2⟩ := Bh_0.out.cells3
  go_wp2_with fail
  clear la ca0 ca1 ca2 ca3 ca4 ca5 lb cb0 cb1 cb2 cb3 cb4 cb5 lo co0 co1 co2 co3 co4 co5 ll cl0 cl1 cl2 lh ch0 ch1 ch2
  have H0 := Lib.hid (show SMulRel a b w 0 w0 from ⟨Q.nil, Q.nil, Bo_0.out, Bl_0.out, Bh_0.out, HB_0.out, RD.zero _, RD.zero _⟩)
  clear Ba_0 Bb_0 Bo_0 Bl_0 Bh_0 HB_0
  go_loopw [35] (fun k wr => ∃ i : Nat, k = .int .i64 i ∧ i ≤ 4 ∧ Hid (SMulRel a b w i wr)) (fun k _ => 4 - (intOf k).toNat)
  case atStart => exact ⟨0, rfl, Nat.zero_le _, H0⟩
  case round =>
    clear H0
    obtain ⟨i, rfl, hi, Hr⟩ := hrel
    by_cases hi2 : i < 4
    · have q3 : (i : Int) < 4 := by omega
      have q4 : (0 : Int) ≤ (i : Int) := by omega
      have hx := fun W => hix W i hi2
      have Y0 := Lib.hid (YY.out i)
      clear hix
      go_upto_block 1 with (fail)
      go_cut [] (fun wx => SMulRel a b w (i + 1) wx)
      case first =>
        by_cases e0 : i = 0
        · have e1 : ((i : Int) == 0) = true := by subst e0; rfl
          have E0 := Lib.hid e0
          clear e0
          obtain ⟨u, v, bo, bl, bh, hbel, hru, hrv⟩ := Hr.out
          have Bo_0 := Lib.hid bo
          have Bl_0 := Lib.hid bl
          have Bh_0 := Lib.hid bh
          have HB_0 := Lib.hid hbel
          have SU := Lib.hid hru
          have SV := Lib.hid hrv
          clear bo bl bh hbel hru hrv Hr
          have lo := Bo_0.out.lt
          obtain ⟨co0, co1, co2, co3, co4, co5⟩ := Bo_0.out.cells6
          have ll := Bl_0.out.lt
          obtain ⟨cl0, cl1, cl2⟩ := Bl_0.out.cells3
          have lh := Bh_0.out.lt
          obtain ⟨ch0, ch1, ch2⟩ := Bh_0.out.cells3
          have n_101 := Bo_0.out.lt
          have n_102 := Bl_0.out.lt
          have n_103 := Bh_0.out.lt
          go_wp2_with fail
          refine (dmul_any _ (mA s i) (mB t i) (mAd a i) (mBd b i) ((mA_rd HA.out i).below (below_al HB_0.out _)) ((mB_rd HB.out i).below (below_al HB_0.out _)) Y0.out.1 (HT.out.below (below_al HB_0.out _))).mono ?_
          rintro e w1 ⟨⟨q, rfl, hq⟩, hb⟩
          clear lo co0 co1 co2 co3 co4 co5 ll cl0 cl1 cl2 lh ch0 ch1 ch2
          have K := Dk.trans ((Dk.refl _).alloc _) (.below hb)
          have Bo_104 := Lib.hid (show Bk _ _ _ #[.bool false, .slice none 0 0, .int .i64 0, .bool false, .slice none 0 0, .int .i64 0] from (Bo_0.out.alloc _).below hb)
          have Bl_105 := Lib.hid (show Bk _ _ _ #[.bool u.b, .slice u.A u.n u.c, .int .i64 (mL a b i).x] from (Bl_0.out.alloc _).below hb)
          have Bh_106 := Lib.hid (show Bk _ _ _ #[.bool v.b, .slice v.A v.n v.c, .int .i64 (mH a b i).x] from (Bh_0.out.alloc _).below hb)
          have Bp_107 := Lib.hid (show Bk _ _ _ #[.bool (mA s i).b, .slice (mA s i).A (mA s i).n (mA s i).c, .int .i64 (mAd a i).x, .bool (mB t i).b, .slice (mB t i).A (mB t i).n (mB t i).c, .int .i64 (mBd b i).x] from (Bk.new _ 157 #[.bool (mA s i).b, .slice (mA s i).A (mA s i).n (mA s i).c, .int .i64 (mAd a i).x, .bool (mB t i).b, .slice (mB t i).A (mB t i).n (mB t i).c, .int .i64 (mBd b i).x]).below hb)
          have HB_108 := Lib.hid (below_tr (below_al HB_0.out _) hb)
          clear hb
          have SU_109 := Lib.hid (SU.out.dk K)
          have SV_110 := Lib.hid (SV.out.dk K)
          clear K Bo_0 Bl_0 Bh_0 HB_0 SU SV
          have RP_111 := Lib.hid hq
          clear hq
          have lo := Bo_104.out.lt
          obtain ⟨co0, co1, co2, co3, co4, co5⟩ := Bo_104.out.cells6
          have ll := Bl_105.out.lt
          obtain ⟨cl0, cl1, cl2⟩ := Bl_105.out.cells3
          have lh := Bh_106.out.lt
          obtain ⟨ch0, ch1, ch2⟩ := Bh_106.out.cells3
          have n_112 := Bo_104.out.lt
          have n_113 := Bl_105.out.lt
          have n_114 := Bh_106.out.lt
          go_wp2_with fail
          clear lo co0 co1 co2 co3 co4 co5 ll cl0 cl1 cl2 lh ch0 ch1 ch2
          have K : Dk w1 (w1.alloc (.cells #[.bool q.b, .slice q.A q.n q.c, .int .i64 ((mAd a i).mul (mBd b i)).x] 53)) := ((Dk.refl _).alloc _)
          have Bo_115 := Lib.hid (show Bk (w1.alloc (.cells #[.bool q.b, .slice q.A q.n q.c, .int .i64 ((mAd a i).mul (mBd b i)).x] 53)) (w.heap.size + 1 + 1) 62 #[.bool false, .slice none 0 0, .int .i64 0, .bool false, .slice none 0 0, .int .i64 0] from (Bo_104.out.alloc _))
          have Bl_116 := Lib.hid (show Bk (w1.alloc (.cells #[.bool q.b, .slice q.A q.n q.c, .int .i64 ((mAd a i).mul (mBd b i)).x] 53)) (w.heap.size + 1 + 1 + 1) 53 #[.bool u.b, .slice u.A u.n u.c, .int .i64 (mL a b i).x] from (Bl_105.out.alloc _))
          have Bh_117 := Lib.hid (show Bk (w1.alloc (.cells #[.bool q.b, .slice q.A q.n q.c, .int .i64 ((mAd a i).mul (mBd b i)).x] 53)) (w.heap.size + 1 + 1 + 1 + 1) 53 #[.bool v.b, .slice v.A v.n v.c, .int .i64 (mH a b i).x] from (Bh_106.out.alloc _))
          have Bx_118 := Lib.hid (show Bk (w1.alloc (.cells #[.bool q.b, .slice q.A q.n q.c, .int .i64 ((mAd a i).mul (mBd b i)).x] 53)) (w1.heap.size) 53 #[.bool q.b, .slice q.A q.n q.c, .int .i64 ((mAd a i).mul (mBd b i)).x] from (Bk.new _ 53 #[.bool q.b, .slice q.A q.n q.c, .int .i64 ((mAd a i).mul (mBd b i)).x]))
          have HB_119 := Lib.hid (show Below w.heap.size w (w1.alloc (.cells #[.bool q.b, .slice q.A q.n q.c, .int .i64 ((mAd a i).mul (mBd b i)).x] 53)) from (below_al HB_108.out _))
          have SU_120 := Lib.hid (SU_109.out.dk K)
          have SV_121 := Lib.hid (SV_110.out.dk K)
          have RP_122 := Lib.hid (RP_111.out.dk K)
          clear K Bo_104 Bl_105 Bh_106 HB_108 SU_109 SV_110 RP_111
          generalize w1.alloc (.cells #[.bool q.b, .slice q.A q.n q.c, .int .i64 ((mAd a i).mul (mBd b i)).x] 53) = w2 at *
          have lo := Bo_115.out.lt
          obtain ⟨co0, co1, co2, co3, co4, co5⟩ := Bo_115.out.cells6
          have ll := Bl_116.out.lt
          obtain ⟨cl0, cl1, cl2⟩ := Bl_116.out.cells3
          have fl0 := Bl_116.out.free 0
          have fl1 := Bl_116.out.free 1
          have fl2 := Bl_116.out.free 2
          have lh := Bh_117.out.lt
          obtain ⟨ch0, ch1, ch2⟩ := Bh_117.out.cells3
          have fh0 := Bh_117.out.free 0
          have fh1 := Bh_117.out.free 1
          have fh2 := Bh_117.out.free 2
          have lx := Bx_118.out.lt
          obtain ⟨cx0, cx1, cx2⟩ := Bx_118.out.cells3
          go_region
          go_wp2_with fail
          go_meet
          unfold SMulRel
          rw [mL_one E0.out, mH_one E0.out]
          have y0 := Bo_115.out.lt; have y1 := Bl_116.out.lt; have y2 := Bh_117.out.lt; have y3 := Bx_118.out.lt; have y4 := HB_119.out.size; exact ⟨q, q, (((((((Bo_115.out.ne (by omega) 0 (.bool q.b)).ne (by omega) 1 (.slice q.A q.n q.c)).ne (by omega) 2 (.int .i64 ((mAd a i).mul (mBd b i)).x)).ne (by omega) 0 (.bool q.b)).ne (by omega) 1 (.slice q.A q.n q.c)).ne (by omega) 2 (.int .i64 ((mAd a i).mul (mBd b i)).x)).drew), (((((((Bl_116.out.set 0 (.bool q.b)).set 1 (.slice q.A q.n q.c)).set 2 (.int .i64 ((mAd a i).mul (mBd b i)).x)).ne (by omega) 0 (.bool q.b)).ne (by omega) 1 (.slice q.A q.n q.c)).ne (by omega) 2 (.int .i64 ((mAd a i).mul (mBd b i)).x)).drew), (((((((Bh_117.out.ne (by omega) 0 (.bool q.b)).ne (by omega) 1 (.slice q.A q.n q.c)).ne (by omega) 2 (.int .i64 ((mAd a i).mul (mBd b i)).x)).set 0 (.bool q.b)).set 1 (.slice q.A q.n q.c)).set 2 (.int .i64 ((mAd a i).mul (mBd b i)).x)).drew), (below_dr (below_st (below_st (below_st (below_st (below_st (below_st HB_119.out 0 (by omega) (.bool q.b)) 1 (by omega) (.slice q.A q.n q.c)) 2 (by omega) (.int .i64 ((mAd a i).mul (mBd b i)).x)) 0 (by omega) (.bool q.b)) 1 (by omega) (.slice q.A q.n q.c)) 2 (by omega) (.int .i64 ((mAd a i).mul (mBd b i)).x))), (RP_122.out.dk ((((((((Dk.refl _).set (cs := #[.bool u.b, .slice u.A u.n u.c, .int .i64 (mL a b i).x]) Bl_116.out 0 (by intro _ hh; cases hh) (.bool q.b)).set (cs := #[.bool q.b, .slice u.A u.n u.c, .int .i64 (mL a b i).x]) (Bl_116.out.set 0 (.bool q.b)) 1 (by intro _ hh; cases hh) (.slice q.A q.n q.c)).set (cs := #[.bool q.b, .slice q.A q.n q.c, .int .i64 (mL a b i).x]) ((Bl_116.out.set 0 (.bool q.b)).set 1 (.slice q.A q.n q.c)) 2 (by intro _ hh; cases hh) (.int .i64 ((mAd a i).mul (mBd b i)).x)).set (cs := #[.bool v.b, .slice v.A v.n v.c, .int .i64 (mH a b i).x]) (((Bh_117.out.ne (by omega) 0 (.bool q.b)).ne (by omega) 1 (.slice q.A q.n q.c)).ne (by omega) 2 (.int .i64 ((mAd a i).mul (mBd b i)).x)) 0 (by intro _ hh; cases hh) (.bool q.b)).set (cs := #[.bool q.b, .slice v.A v.n v.c, .int .i64 (mH a b i).x]) ((((Bh_117.out.ne (by omega) 0 (.bool q.b)).ne (by omega) 1 (.slice q.A q.n q.c)).ne (by omega) 2 (.int .i64 ((mAd a i).mul (mBd b i)).x)).set 0 (.bool q.b)) 1 (by intro _ hh; cases hh) (.slice q.A q.n q.c)).set (cs := #[.bool q.b, .slice q.A q.n q.c, .int .i64 (mH a b i).x]) (((((Bh_117.out.ne (by omega) 0 (.bool q.b)).ne (by omega) 1 (.slice q.A q.n q.c)).ne (by omega) 2 (.int .i64 ((mAd a i).mul (mBd b i)).x)).set 0 (.bool q.b)).set 1 (.slice q.A q.n q.c)) 2 (by intro _ hh; cases hh) (.int .i64 ((mAd a i).mul (mBd b i)).x)).drew)), (RP_122.out.dk ((((((((Dk.refl _).set (cs := #[.bool u.b, .slice u.A u.n u.c, .int .i64 (mL a b i).x]) Bl_116.out 0 (by intro _ hh; cases hh) (.bool q.b)).set (cs := #[.bool q.b, .slice u.A u.n u.c, .int .i64 (mL a b i).x]) (Bl_116.out.set 0 (.bool q.b)) 1 (by intro _ hh; cases hh) (.slice q.A q.n q.c)).set (cs := #[.bool q.b, .slice q.A q.n q.c, .int .i64 (mL a b i).x]) ((Bl_116.out.set 0 (.bool q.b)).set 1 (.slice q.A q.n q.c)) 2 (by intro _ hh; cases hh) (.int .i64 ((mAd a i).mul (mBd b i)).x)).set (cs := #[.bool v.b, .slice v.A v.n v.c, .int .i64 (mH a b i).x]) (((Bh_117.out.ne (by omega) 0 (.bool q.b)).ne (by omega) 1 (.slice q.A q.n q.c)).ne (by omega) 2 (.int .i64 ((mAd a i).mul (mBd b i)).x)) 0 (by intro _ hh; cases hh) (.bool q.b)).set (cs := #[.bool q.b, .slice v.A v.n v.c, .int .i64 (mH a b i).x]) ((((Bh_117.out.ne (by omega) 0 (.bool q.b)).ne (by omega) 1 (.slice q.A q.n q.c)).ne (by omega) 2 (.int .i64 ((mAd a i).mul (mBd b i)).x)).set 0 (.bool q.b)) 1 (by intro _ hh; cases hh) (.slice q.A q.n q.c)).set (cs := #[.bool q.b, .slice q.A q.n q.c, .int .i64 (mH a b i).x]) (((((Bh_117.out.ne (by omega) 0 (.bool q.b)).ne (by omega) 1 (.slice q.A q.n q.c)).ne (by omega) 2 (.int .i64 ((mAd a i).mul (mBd b i)).x)).set 0 (.bool q.b)).set 1 (.slice q.A q.n q.c)) 2 (by intro _ hh; cases hh) (.int .i64 ((mAd a i).mul (mBd b i)).x)).drew))⟩
        · have e1 : ((i : Int) == 0) = false := by simp only [beq_eq_false_iff_ne]; omega
          have E0 := Lib.hid e0
          clear e0
          obtain ⟨u, v, bo, bl, bh, hbel, hru, hrv⟩ := Hr.out
          have Bo_0 := Lib.hid bo
          have Bl_0 := Lib.hid bl
          have Bh_0 := Lib.hid bh
          have HB_0 := Lib.hid hbel
          have SU := Lib.hid hru
          have SV := Lib.hid hrv
          clear bo bl bh hbel hru hrv Hr
          have lo := Bo_0.out.lt
          obtain ⟨co0, co1, co2, co3, co4, co5⟩ := Bo_0.out.cells6
          have ll := Bl_0.out.lt
          obtain ⟨cl0, cl1, cl2⟩ := Bl_0.out.cells3
          have lh := Bh_0.out.lt
          obtain ⟨ch0, ch1, ch2⟩ := Bh_0.out.cells3
          have n_101 := Bo_0.out.lt
          have n_102 := Bl_0.out.lt
          have n_103 := Bh_0.out.lt
          go_wp2_with fail
          refine (dmul_any _ (mA s i) (mB t i) (mAd a i) (mBd b i) ((mA_rd HA.out i).below (below_al HB_0.out _)) ((mB_rd HB.out i).below (below_al HB_0.out _)) Y0.out.1 (HT.out.below (below_al HB_0.out _))).mono ?_
          rintro e w1 ⟨⟨q, rfl, hq⟩, hb⟩
          clear lo co0 co1 co2 co3 co4 co5 ll cl0 cl1 cl2 lh ch0 ch1 ch2
          have K := Dk.trans ((Dk.refl _).alloc _) (.below hb)
          have Bo_104 := Lib.hid (show Bk _ _ _ #[.bool false, .slice none 0 0, .int .i64 0, .bool false, .slice none 0 0, .int .i64 0] from (Bo_0.out.alloc _).below hb)
          have Bl_105 := Lib.hid (show Bk _ _ _ #[.bool u.b, .slice u.A u.n u.c, .int .i64 (mL a b i).x] from (Bl_0.out.alloc _).below hb)
          have Bh_106 := Lib.hid (show Bk _ _ _ #[.bool v.b, .slice v.A v.n v.c, .int .i64 (mH a b i).x] from (Bh_0.out.alloc _).below hb)
          have Bp_107 := Lib.hid (show Bk _ _ _ #[.bool (mA s i).b, .slice (mA s i).A (mA s i).n (mA s i).c, .int .i64 (mAd a i).x, .bool (mB t i).b, .slice (mB t i).A (mB t i).n (mB t i).c, .int .i64 (mBd b i).x] from (Bk.new _ 157 #[.bool (mA s i).b, .slice (mA s i).A (mA s i).n (mA s i).c, .int .i64 (mAd a i).x, .bool (mB t i).b, .slice (mB t i).A (mB t i).n (mB t i).c, .int .i64 (mBd b i).x]).below hb)
          have HB_108 := Lib.hid (below_tr (below_al HB_0.out _) hb)
          clear hb
          have SU_109 := Lib.hid (SU.out.dk K)
          have SV_110 := Lib.hid (SV.out.dk K)
          clear K Bo_0 Bl_0 Bh_0 HB_0 SU SV
          have RP_111 := Lib.hid hq
          clear hq
          have lo := Bo_104.out.lt
          obtain ⟨co0, co1, co2, co3, co4, co5⟩ := Bo_104.out.cells6
          have ll := Bl_105.out.lt
          obtain ⟨cl0, cl1, cl2⟩ := Bl_105.out.cells3
          have lh := Bh_106.out.lt
          obtain ⟨ch0, ch1, ch2⟩ := Bh_106.out.cells3
          have n_112 := Bo_104.out.lt
          have n_113 := Bl_105.out.lt
          have n_114 := Bh_106.out.lt
          have Z1 := Lib.hid Y0.out.2.1
          have Z2 := Lib.hid Y0.out.2.2.1
          have Z3 := Lib.hid Y0.out.2.2.2
          go_wp2_with fail
          clear lo co0 co1 co2 co3 co4 co5 ll cl0 cl1 cl2 lh ch0 ch1 ch2
          have K : Dk w1 (w1.alloc (.cells #[.bool q.b, .slice q.A q.n q.c, .int .i64 ((mAd a i).mul (mBd b i)).x] 53)) := ((Dk.refl _).alloc _)
          have Bo_115 := Lib.hid (show Bk (w1.alloc (.cells #[.bool q.b, .slice q.A q.n q.c, .int .i64 ((mAd a i).mul (mBd b i)).x] 53)) (w.heap.size + 1 + 1) 62 #[.bool false, .slice none 0 0, .int .i64 0, .bool false, .slice none 0 0, .int .i64 0] from (Bo_104.out.alloc _))
          have Bl_116 := Lib.hid (show Bk (w1.alloc (.cells #[.bool q.b, .slice q.A q.n q.c, .int .i64 ((mAd a i).mul (mBd b i)).x] 53)) (w.heap.size + 1 + 1 + 1) 53 #[.bool u.b, .slice u.A u.n u.c, .int .i64 (mL a b i).x] from (Bl_105.out.alloc _))
          have Bh_117 := Lib.hid (show Bk (w1.alloc (.cells #[.bool q.b, .slice q.A q.n q.c, .int .i64 ((mAd a i).mul (mBd b i)).x] 53)) (w.heap.size + 1 + 1 + 1 + 1) 53 #[.bool v.b, .slice v.A v.n v.c, .int .i64 (mH a b i).x] from (Bh_106.out.alloc _))
          have Bx_118 := Lib.hid (show Bk (w1.alloc (.cells #[.bool q.b, .slice q.A q.n q.c, .int .i64 ((mAd a i).mul (mBd b i)).x] 53)) (w1.heap.size) 53 #[.bool q.b, .slice q.A q.n q.c, .int .i64 ((mAd a i).mul (mBd b i)).x] from (Bk.new _ 53 #[.bool q.b, .slice q.A q.n q.c, .int .i64 ((mAd a i).mul (mBd b i)).x]))
          have HB_119 := Lib.hid (show Below w.heap.size w (w1.alloc (.cells #[.bool q.b, .slice q.A q.n q.c, .int .i64 ((mAd a i).mul (mBd b i)).x] 53)) from (below_al HB_108.out _))
          have SU_120 := Lib.hid (SU_109.out.dk K)
          have SV_121 := Lib.hid (SV_110.out.dk K)
          have RP_122 := Lib.hid (RP_111.out.dk K)
          clear K Bo_104 Bl_105 Bh_106 HB_108 SU_109 SV_110 RP_111
          generalize w1.alloc (.cells #[.bool q.b, .slice q.A q.n q.c, .int .i64 ((mAd a i).mul (mBd b i)).x] 53) = w2 at *
          clear Y0 YY HA HB LA LB HT hx
          have ll := Bl_116.out.lt
          obtain ⟨cl0, cl1, cl2⟩ := Bl_116.out.cells3
          have fl0 := Bl_116.out.free 0
          have fl1 := Bl_116.out.free 1
          have fl2 := Bl_116.out.free 2
          have lh := Bh_117.out.lt
          obtain ⟨ch0, ch1, ch2⟩ := Bh_117.out.cells3
          have fh0 := Bh_117.out.free 0
          have fh1 := Bh_117.out.free 1
          have fh2 := Bh_117.out.free 2
          have lx := Bx_118.out.lt
          obtain ⟨cx0, cx1, cx2⟩ := Bx_118.out.cells3
          have ge_123 := Lib.hid (show w.heap.size ≤ w.heap.size + 1 + 1 + 1 by have := HB_119.out.size; omega)
          have ne_124 := Lib.hid (show w.heap.size + 1 + 1 ≠ w.heap.size + 1 + 1 + 1 by have := Bo_115.out.lt; have := Bl_116.out.lt; have := Bh_117.out.lt; have := Bx_118.out.lt; have := HB_119.out.size; omega)
          have ne_125 := Lib.hid (show w.heap.size + 1 + 1 + 1 + 1 ≠ w.heap.size + 1 + 1 + 1 by have := Bo_115.out.lt; have := Bl_116.out.lt; have := Bh_117.out.lt; have := Bx_118.out.lt; have := HB_119.out.size; omega)
          have ne_126 := Lib.hid (show w1.heap.size ≠ w.heap.size + 1 + 1 + 1 by have := Bo_115.out.lt; have := Bl_116.out.lt; have := Bh_117.out.lt; have := Bx_118.out.lt; have := HB_119.out.size; omega)
          have ge_127 := Lib.hid (show w.heap.size ≤ w.heap.size + 1 + 1 + 1 + 1 by have := HB_119.out.size; omega)
          have ne_128 := Lib.hid (show w.heap.size + 1 + 1 ≠ w.heap.size + 1 + 1 + 1 + 1 by have := Bo_115.out.lt; have := Bl_116.out.lt; have := Bh_117.out.lt; have := Bx_118.out.lt; have := HB_119.out.size; omega)
          have ne_129 := Lib.hid (show w.heap.size + 1 + 1 + 1 ≠ w.heap.size + 1 + 1 + 1 + 1 by have := Bo_115.out.lt; have := Bl_116.out.lt; have := Bh_117.out.lt; have := Bx_118.out.lt; have := HB_119.out.size; omega)
          have ne_130 := Lib.hid (show w1.heap.size ≠ w.heap.size + 1 + 1 + 1 + 1 by have := Bo_115.out.lt; have := Bl_116.out.lt; have := Bh_117.out.lt; have := Bx_118.out.lt; have := HB_119.out.size; omega)
          have tok_131 : True := trivial
          have tok_132 : True := trivial
          go_region_with
            (first
             | (clear tok_131; go_at_call 97; refine (dmin_any _ u q (mL a b i) ((mAd a i).mul (mBd b i)) (E + E2) (T + T2) (SU_120.out.dk ((Dk.refl _).drew)) (RP_122.out.dk ((Dk.refl _).drew)) Z2.out Z1.out y9).mono ?_; rintro e w3 ⟨⟨m, rfl, hu⟩, hb⟩; clear ll cl0 cl1 cl2 fl0 fl1 fl2 lh ch0 ch1 ch2 fh0 fh1 fh2 lx cx0 cx1 cx2; have K := Dk.trans ((Dk.refl _).drew) (.below hb); have Bo_133 := Lib.hid (show Bk _ _ _ #[.bool false, .slice none 0 0, .int .i64 0, .bool false, .slice none 0 0, .int .i64 0] from (Bo_115.out.drew).below hb); have Bl_134 := Lib.hid (show Bk _ _ _ #[.bool u.b, .slice u.A u.n u.c, .int .i64 (mL a b i).x] from (Bl_116.out.drew).below hb); have Bh_135 := Lib.hid (show Bk _ _ _ #[.bool v.b, .slice v.A v.n v.c, .int .i64 (mH a b i).x] from (Bh_117.out.drew).below hb); have Bx_136 := Lib.hid (show Bk _ _ _ #[.bool q.b, .slice q.A q.n q.c, .int .i64 ((mAd a i).mul (mBd b i)).x] from (Bx_118.out.drew).below hb); have HB_137 := Lib.hid (below_tr (below_dr HB_119.out) hb); clear hb; have SU_138 := Lib.hid (SU_120.out.dk K); have SV_139 := Lib.hid (SV_121.out.dk K); have RP_140 := Lib.hid (RP_122.out.dk K); clear K Bo_115 Bl_116 Bh_117 Bx_118 HB_119 SU_120 SV_121 RP_122; have RL_141 := Lib.hid hu; clear hu; have ll := Bl_134.out.lt; obtain ⟨cl0, cl1, cl2⟩ := Bl_134.out.cells3; have fl0 := Bl_134.out.free 0; have fl1 := Bl_134.out.free 1; have fl2 := Bl_134.out.free 2; have lh := Bh_135.out.lt; obtain ⟨ch0, ch1, ch2⟩ := Bh_135.out.cells3; have fh0 := Bh_135.out.free 0; have fh1 := Bh_135.out.free 1; have fh2 := Bh_135.out.free 2; have lx := Bx_136.out.lt; obtain ⟨cx0, cx1, cx2⟩ := Bx_136.out.cells3)
             | (clear tok_132; go_at_call 87; refine (dmax_any _ v q (mH a b i) ((mAd a i).mul (mBd b i)) (E + E2) (T + T2) SV_139.out RP_140.out Z3.out Z1.out y9).mono ?_; rintro e w4 ⟨⟨x, rfl, hu⟩, hb⟩; clear ll cl0 cl1 cl2 fl0 fl1 fl2 lh ch0 ch1 ch2 fh0 fh1 fh2 lx cx0 cx1 cx2; have K := Dk.below hb; have Bo_142 := Lib.hid (show Bk _ _ _ #[.bool false, .slice none 0 0, .int .i64 0, .bool false, .slice none 0 0, .int .i64 0] from Bo_133.out.below hb); have Bl_143 := Lib.hid (show Bk _ _ _ #[.bool u.b, .slice u.A u.n u.c, .int .i64 (mL a b i).x] from Bl_134.out.below hb); have Bh_144 := Lib.hid (show Bk _ _ _ #[.bool v.b, .slice v.A v.n v.c, .int .i64 (mH a b i).x] from Bh_135.out.below hb); have Bx_145 := Lib.hid (show Bk _ _ _ #[.bool q.b, .slice q.A q.n q.c, .int .i64 ((mAd a i).mul (mBd b i)).x] from Bx_136.out.below hb); have HB_146 := Lib.hid (below_tr HB_137.out hb); clear hb; have SU_147 := Lib.hid (SU_138.out.dk K); have SV_148 := Lib.hid (SV_139.out.dk K); have RP_149 := Lib.hid (RP_140.out.dk K); have RL_150 := Lib.hid (RL_141.out.dk K); clear K Bo_133 Bl_134 Bh_135 Bx_136 HB_137 SU_138 SV_139 RP_140 RL_141; have RH_151 := Lib.hid hu; clear hu; have ll := Bl_143.out.lt; obtain ⟨cl0, cl1, cl2⟩ := Bl_143.out.cells3; have fl0 := Bl_143.out.free 0; have fl1 := Bl_143.out.free 1; have fl2 := Bl_143.out.free 2; have lh := Bh_144.out.lt; obtain ⟨ch0, ch1, ch2⟩ := Bh_144.out.cells3; have fh0 := Bh_144.out.free 0; have fh1 := Bh_144.out.free 1; have fh2 := Bh_144.out.free 2; have lx := Bx_145.out.lt; obtain ⟨cx0, cx1, cx2⟩ := Bx_145.out.cells3))
          all_goals (go_wp2_with fail; go_meet; unfold SMulRel; rw [mL_more E0.out, mH_more E0.out]; exact ⟨m, x, ((((((Bo_142.out.ne ne_124.out 0 (.bool m.b)).ne ne_124.out 1 (.slice m.A m.n m.c)).ne ne_124.out 2 (.int .i64 ((mL a b i).mn ((mAd a i).mul (mBd b i))).x)).ne ne_128.out 0 (.bool x.b)).ne ne_128.out 1 (.slice x.A x.n x.c)).ne ne_128.out 2 (.int .i64 ((mH a b i).mx ((mAd a i).mul (mBd b i))).x)), ((((((Bl_143.out.set 0 (.bool m.b)).set 1 (.slice m.A m.n m.c)).set 2 (.int .i64 ((mL a b i).mn ((mAd a i).mul (mBd b i))).x)).ne ne_129.out 0 (.bool x.b)).ne ne_129.out 1 (.slice x.A x.n x.c)).ne ne_129.out 2 (.int .i64 ((mH a b i).mx ((mAd a i).mul (mBd b i))).x)), ((((((Bh_144.out.ne ne_125.out 0 (.bool m.b)).ne ne_125.out 1 (.slice m.A m.n m.c)).ne ne_125.out 2 (.int .i64 ((mL a b i).mn ((mAd a i).mul (mBd b i))).x)).set 0 (.bool x.b)).set 1 (.slice x.A x.n x.c)).set 2 (.int .i64 ((mH a b i).mx ((mAd a i).mul (mBd b i))).x)), (below_st (below_st (below_st (below_st (below_st (below_st HB_146.out 0 ge_123.out (.bool m.b)) 1 ge_123.out (.slice m.A m.n m.c)) 2 ge_123.out (.int .i64 ((mL a b i).mn ((mAd a i).mul (mBd b i))).x)) 0 ge_127.out (.bool x.b)) 1 ge_127.out (.slice x.A x.n x.c)) 2 ge_127.out (.int .i64 ((mH a b i).mx ((mAd a i).mul (mBd b i))).x)), (RL_150.out.dk (((((((Dk.refl _).set (cs := #[.bool u.b, .slice u.A u.n u.c, .int .i64 (mL a b i).x]) Bl_143.out 0 (by intro _ hh; cases hh) (.bool m.b)).set (cs := #[.bool m.b, .slice u.A u.n u.c, .int .i64 (mL a b i).x]) (Bl_143.out.set 0 (.bool m.b)) 1 (by intro _ hh; cases hh) (.slice m.A m.n m.c)).set (cs := #[.bool m.b, .slice m.A m.n m.c, .int .i64 (mL a b i).x]) ((Bl_143.out.set 0 (.bool m.b)).set 1 (.slice m.A m.n m.c)) 2 (by intro _ hh; cases hh) (.int .i64 ((mL a b i).mn ((mAd a i).mul (mBd b i))).x)).set (cs := #[.bool v.b, .slice v.A v.n v.c, .int .i64 (mH a b i).x]) (((Bh_144.out.ne ne_125.out 0 (.bool m.b)).ne ne_125.out 1 (.slice m.A m.n m.c)).ne ne_125.out 2 (.int .i64 ((mL a b i).mn ((mAd a i).mul (mBd b i))).x)) 0 (by intro _ hh; cases hh) (.bool x.b)).set (cs := #[.bool x.b, .slice v.A v.n v.c, .int .i64 (mH a b i).x]) ((((Bh_144.out.ne ne_125.out 0 (.bool m.b)).ne ne_125.out 1 (.slice m.A m.n m.c)).ne ne_125.out 2 (.int .i64 ((mL a b i).mn ((mAd a i).mul (mBd b i))).x)).set 0 (.bool x.b)) 1 (by intro _ hh; cases hh) (.slice x.A x.n x.c)).set (cs := #[.bool x.b, .slice x.A x.n x.c, .int .i64 (mH a b i).x]) (((((Bh_144.out.ne ne_125.out 0 (.bool m.b)).ne ne_125.out 1 (.slice m.A m.n m.c)).ne ne_125.out 2 (.int .i64 ((mL a b i).mn ((mAd a i).mul (mBd b i))).x)).set 0 (.bool x.b)).set 1 (.slice x.A x.n x.c)) 2 (by intro _ hh; cases hh) (.int .i64 ((mH a b i).mx ((mAd a i).mul (mBd b i))).x))), (RH_151.out.dk (((((((Dk.refl _).set (cs := #[.bool u.b, .slice u.A u.n u.c, .int .i64 (mL a b i).x]) Bl_143.out 0 (by intro _ hh; cases hh) (.bool m.b)).set (cs := #[.bool m.b, .slice u.A u.n u.c, .int .i64 (mL a b i).x]) (Bl_143.out.set 0 (.bool m.b)) 1 (by intro _ hh; cases hh) (.slice m.A m.n m.c)).set (cs := #[.bool m.b, .slice m.A m.n m.c, .int .i64 (mL a b i).x]) ((Bl_143.out.set 0 (.bool m.b)).set 1 (.slice m.A m.n m.c)) 2 (by intro _ hh; cases hh) (.int .i64 ((mL a b i).mn ((mAd a i).mul (mBd b i))).x)).set (cs := #[.bool v.b, .slice v.A v.n v.c, .int .i64 (mH a b i).x]) (((Bh_144.out.ne ne_125.out 0 (.bool m.b)).ne ne_125.out 1 (.slice m.A m.n m.c)).ne ne_125.out 2 (.int .i64 ((mL a b i).mn ((mAd a i).mul (mBd b i))).x)) 0 (by intro _ hh; cases hh) (.bool x.b)).set (cs := #[.bool x.b, .slice v.A v.n v.c, .int .i64 (mH a b i).x]) ((((Bh_144.out.ne ne_125.out 0 (.bool m.b)).ne ne_125.out 1 (.slice m.A m.n m.c)).ne ne_125.out 2 (.int .i64 ((mL a b i).mn ((mAd a i).mul (mBd b i))).x)).set 0 (.bool x.b)) 1 (by intro _ hh; cases hh) (.slice x.A x.n x.c)).set (cs := #[.bool x.b, .slice x.A x.n x.c, .int .i64 (mH a b i).x]) (((((Bh_144.out.ne ne_125.out 0 (.bool m.b)).ne ne_125.out 1 (.slice m.A m.n m.c)).ne ne_125.out 2 (.int .i64 ((mL a b i).mn ((mAd a i).mul (mBd b i))).x)).set 0 (.bool x.b)).set 1 (.slice x.A x.n x.c)) 2 (by intro _ hh; cases hh) (.int .i64 ((mH a b i).mx ((mAd a i).mul (mBd b i))).x)))⟩)
      case rest =>
        clear HA HB LA LB HT YY Y0 hx Hr
        have HC := Lib.hid hcut
        clear hcut
        go_wp2_with fail
        go_roundw
        case rel => exact ⟨i + 1, by go_num, hi2, HC⟩
        case measure => simp only [intOf]; omega
    · obtain rfl : i = 4 := by omega
      have Y0 := Lib.hid (YY.out 4)
      clear hi2 hix YY
      obtain ⟨u, v, bo, bl, bh, hbel, hru, hrv⟩ := Hr.out
      have Bo_0 := Lib.hid bo
      have Bl_0 := Lib.hid bl
      have Bh_0 := Lib.hid bh
      have HB_0 := Lib.hid hbel
      have SU := Lib.hid hru
      have SV := Lib.hid hrv
      clear bo bl bh hbel hru hrv Hr
      have lo := Bo_0.out.lt
      obtain ⟨co0, co1, co2, co3, co4, co5⟩ := Bo_0.out.cells6
      have ll := Bl_0.out.lt
      obtain ⟨cl0, cl1, cl2⟩ := Bl_0.out.cells3
      have lh := Bh_0.out.lt
      obtain ⟨ch0, ch1, ch2⟩ := Bh_0.out.cells3
      go_wp2_with fail
      refine (sout_any _ u v (mL a b 4) (mH a b 4) bits (E + E2) (T + T2) SU.out SV.out Y0.out.2.2.1 Y0.out.2.2.2 y9 hb2 hb3 (HT.out.below HB_0.out)).mono ?_
      rintro e w1 ⟨⟨r, rfl, hr⟩, hb⟩
      clear lo co0 co1 co2 co3 co4 co5 ll cl0 cl1 cl2 lh ch0 ch1 ch2
      have K := Dk.below hb
      have Bo_101 := Lib.hid (show Bk _ _ _ #[.bool false, .slice none 0 0, .int .i64 0, .bool false, .slice none 0 0, .int .i64 0] from Bo_0.out.below hb)
      have Bl_102 := Lib.hid (show Bk _ _ _ #[.bool u.b, .slice u.A u.n u.c, .int .i64 (mL a b 4).x] from Bl_0.out.below hb)
      have Bh_103 := Lib.hid (show Bk _ _ _ #[.bool v.b, .slice v.A v.n v.c, .int .i64 (mH a b 4).x] from Bh_0.out.below hb)
      have HB_104 := Lib.hid (below_tr HB_0.out hb)
      clear hb
      have SU_105 := Lib.hid (SU.out.dk K)
      have SV_106 := Lib.hid (SV.out.dk K)
      clear K Bo_0 Bl_0 Bh_0 HB_0 SU SV
      have RZ_107 := Lib.hid hr
      clear hr
      have lo := Bo_101.out.lt
      obtain ⟨co0, co1, co2, co3, co4, co5⟩ := Bo_101.out.cells6
      have fo0 := Bo_101.out.free 0
      have fo1 := Bo_101.out.free 1
      have fo2 := Bo_101.out.free 2
      have fo3 := Bo_101.out.free 3
      have fo4 := Bo_101.out.free 4
      have fo5 := Bo_101.out.free 5
      have ll := Bl_102.out.lt
      obtain ⟨cl0, cl1, cl2⟩ := Bl_102.out.cells3
      have lh := Bh_103.out.lt
      obtain ⟨ch0, ch1, ch2⟩ := Bh_103.out.cells3
      go_wp2
      refine bodyPost_ret (v := .tuple #[.agg #[.bool r.lo.b, .slice r.lo.A r.lo.n r.lo.c, .int .i64 (Sp.out (mL a b 4) (mH a b 4) bits).lo.x, .bool r.hi.b, .slice r.hi.A r.hi.n r.hi.c, .int .i64 (Sp.out (mL a b 4) (mH a b 4) bits).hi.x], .int .i64 0]) ?_ rfl ?_
      · simp [results, Tryd.f37, go_sem, co0, co1, co2, co3, co4, co5]
      · have y0 := HB_104.out.size; exact ⟨⟨r, rfl, (RZ_107.out.dk (((((((Dk.refl _).set (cs := #[.bool false, .slice none 0 0, .int .i64 0, .bool false, .slice none 0 0, .int .i64 0]) Bo_101.out 0 (by intro _ hh; cases hh) (.bool r.lo.b)).set (cs := #[.bool r.lo.b, .slice none 0 0, .int .i64 0, .bool false, .slice none 0 0, .int .i64 0]) (Bo_101.out.set 0 (.bool r.lo.b)) 1 (by intro _ hh; cases hh) (.slice r.lo.A r.lo.n r.lo.c)).set (cs := #[.bool r.lo.b, .slice r.lo.A r.lo.n r.lo.c, .int .i64 0, .bool false, .slice none 0 0, .int .i64 0]) ((Bo_101.out.set 0 (.bool r.lo.b)).set 1 (.slice r.lo.A r.lo.n r.lo.c)) 2 (by intro _ hh; cases hh) (.int .i64 (Sp.out (mL a b 4) (mH a b 4) bits).lo.x)).set (cs := #[.bool r.lo.b, .slice r.lo.A r.lo.n r.lo.c, .int .i64 (Sp.out (mL a b 4) (mH a b 4) bits).lo.x, .bool false, .slice none 0 0, .int .i64 0]) (((Bo_101.out.set 0 (.bool r.lo.b)).set 1 (.slice r.lo.A r.lo.n r.lo.c)).set 2 (.int .i64 (Sp.out (mL a b 4) (mH a b 4) bits).lo.x)) 3 (by intro _ hh; cases hh) (.bool r.hi.b)).set (cs := #[.bool r.lo.b, .slice r.lo.A r.lo.n r.lo.c, .int .i64 (Sp.out (mL a b 4) (mH a b 4) bits).lo.x, .bool r.hi.b, .slice none 0 0, .int .i64 0]) ((((Bo_101.out.set 0 (.bool r.lo.b)).set 1 (.slice r.lo.A r.lo.n r.lo.c)).set 2 (.int .i64 (Sp.out (mL a b 4) (mH a b 4) bits).lo.x)).set 3 (.bool r.hi.b)) 4 (by intro _ hh; cases hh) (.slice r.hi.A r.hi.n r.hi.c)).set (cs := #[.bool r.lo.b, .slice r.lo.A r.lo.n r.lo.c, .int .i64 (Sp.out (mL a b 4) (mH a b 4) bits).lo.x, .bool r.hi.b, .slice r.hi.A r.hi.n r.hi.c, .int .i64 0]) (((((Bo_101.out.set 0 (.bool r.lo.b)).set 1 (.slice r.lo.A r.lo.n r.lo.c)).set 2 (.int .i64 (Sp.out (mL a b 4) (mH a b 4) bits).lo.x)).set 3 (.bool r.hi.b)).set 4 (.slice r.hi.A r.hi.n r.hi.c)) 5 (by intro _ hh; cases hh) (.int .i64 (Sp.out (mL a b 4) (mH a b 4) bits).hi.x)))⟩, (below_st (below_st (below_st (below_st (below_st (below_st HB_104.out 0 (by omega) (.bool r.lo.b)) 1 (by omega) (.slice r.lo.A r.lo.n r.lo.c)) 2 (by omega) (.int .i64 (Sp.out (mL a b 4) (mH a b 4) bits).lo.x)) 3 (by omega) (.bool r.hi.b)) 4 (by omega) (.slice r.hi.A r.hi.n r.hi.c)) 5 (by omega) (.int .i64 (Sp.out (mL a b 4) (mH a b 4) bits).hi.x))⟩

end Go.Proofs.YtgioppkggpfnoaaDoor.Nu
end

section
/- Rows of dyads and of spans in memory. -/
set_option linter.unusedVariables false
namespace Go.Proofs.YtgioppkggpfnoaaDoor.Nu
open Go.RowKit Go.Proofs

/-- A slice of dyads, element by element. -/
def RDs (w : World) (A : Option Addr) (n c : Nat) (f : Nat → D) : Prop :=
  n ≤ c ∧ n ≤ 1000000 ∧ (0 < n → ∃ b off, A = some ⟨b, off, none⟩ ∧ b < w.heap.size ∧ ∀ j, j < n → ∃ q : Q, w.cell? ⟨b, off + j * 3, none⟩ = some (.bool q.b) ∧ w.cell? ⟨b, off + j * 3 + 1, none⟩ = some (.slice q.A q.n q.c) ∧ w.cell? ⟨b, off + j * 3 + 2, none⟩ = some (.int .i64 (f j).x) ∧ RD w q (f j))
/-- A slice of spans. -/
def RSs (w : World) (A : Option Addr) (n c : Nat) (f : Nat → Sp) : Prop :=
  n ≤ c ∧ n ≤ 1000000 ∧ (0 < n → ∃ b off, A = some ⟨b, off, none⟩ ∧ b < w.heap.size ∧ ∀ j, j < n → ∃ s : SQ, w.cell? ⟨b, off + j * 6, none⟩ = some (.bool s.lo.b) ∧ w.cell? ⟨b, off + j * 6 + 1, none⟩ = some (.slice s.lo.A s.lo.n s.lo.c) ∧ w.cell? ⟨b, off + j * 6 + 2, none⟩ = some (.int .i64 (f j).lo.x) ∧ w.cell? ⟨b, off + j * 6 + 3, none⟩ = some (.bool s.hi.b) ∧ w.cell? ⟨b, off + j * 6 + 4, none⟩ = some (.slice s.hi.A s.hi.n s.hi.c) ∧ w.cell? ⟨b, off + j * 6 + 5, none⟩ = some (.int .i64 (f j).hi.x) ∧ RS w s (f j))
theorem RDs.below {w w' : World} {A : Option Addr} {n c : Nat} {f : Nat → D} (h : RDs w A n c f) (hb : Below w.heap.size w w') : RDs w' A n c f := by
  obtain ⟨h1, h2, h3⟩ := h
  refine ⟨h1, h2, fun h0 => ?_⟩
  obtain ⟨b, off, hA, hlt, hc⟩ := h3 h0
  refine ⟨b, off, hA, Nat.lt_of_lt_of_le hlt hb.size, fun j hj => ?_⟩
  obtain ⟨q, c0, c1, c2, hr⟩ := hc j hj
  exact ⟨q, (hb.cell (p := ⟨b, _, none⟩) hlt).trans c0, (hb.cell (p := ⟨b, _, none⟩) hlt).trans c1, (hb.cell (p := ⟨b, _, none⟩) hlt).trans c2, hr.below hb⟩
theorem RSs.below {w w' : World} {A : Option Addr} {n c : Nat} {f : Nat → Sp} (h : RSs w A n c f) (hb : Below w.heap.size w w') : RSs w' A n c f := by
  obtain ⟨h1, h2, h3⟩ := h
  refine ⟨h1, h2, fun h0 => ?_⟩
  obtain ⟨b, off, hA, hlt, hc⟩ := h3 h0
  refine ⟨b, off, hA, Nat.lt_of_lt_of_le hlt hb.size, fun j hj => ?_⟩
  obtain ⟨q, c0, c1, c2, c3, c4, c5, hr⟩ := hc j hj
  exact ⟨q, (hb.cell (p := ⟨b, _, none⟩) hlt).trans c0, (hb.cell (p := ⟨b, _, none⟩) hlt).trans c1, (hb.cell (p := ⟨b, _, none⟩) hlt).trans c2, (hb.cell (p := ⟨b, _, none⟩) hlt).trans c3, (hb.cell (p := ⟨b, _, none⟩) hlt).trans c4, (hb.cell (p := ⟨b, _, none⟩) hlt).trans c5, hr.below hb⟩
/-- A slice of slices of dyads, each of n. -/
def RDss (w : World) (A : Option Addr) (m c n : Nat) (f : Nat → Nat → D) : Prop :=
  m ≤ c ∧ m ≤ 1000000 ∧ (0 < m → ∃ b off, A = some ⟨b, off, none⟩ ∧ b < w.heap.size ∧ ∀ k, k < m → ∃ A' c', w.cell? ⟨b, off + k, none⟩ = some (.slice A' n c') ∧ RDs w A' n c' (f k))
theorem RDss.below {w w' : World} {A : Option Addr} {m c n : Nat} {f : Nat → Nat → D} (h : RDss w A m c n f) (hb : Below w.heap.size w w') : RDss w' A m c n f := by
  obtain ⟨h1, h2, h3⟩ := h
  refine ⟨h1, h2, fun h0 => ?_⟩
  obtain ⟨b, off, hA, hlt, hc⟩ := h3 h0
  refine ⟨b, off, hA, Nat.lt_of_lt_of_le hlt hb.size, fun k hk => ?_⟩
  obtain ⟨A', c', e, hr⟩ := hc k hk
  exact ⟨A', c', (hb.cell (p := ⟨b, _, none⟩) hlt).trans e, hr.below hb⟩
/-- Where a set's three lists lie. -/
structure ZQ where
  Ac : Option Addr
  cc : Nat
  Ag : Option Addr
  cg : Nat
  Ar : Option Addr
  cr : Nat
structure RZo (w : World) (y : ZQ) (z : Zo) : Prop where
  c : RDs w y.Ac z.n y.cc z.c
  g : RDss w y.Ag z.m y.cg z.n z.g
  r : RDs w y.Ar z.n y.cr z.r
theorem RZo.below {w w' : World} {y : ZQ} {z : Zo} (h : RZo w y z) (hb : Below w.heap.size w w') : RZo w' y z := ⟨h.c.below hb, h.g.below hb, h.r.below hb⟩
theorem supG_lim {g : Nat → Nat → D} {dir : Nat → Sp} {n bits m : Nat} {all : Sp} {E T E2 T2 : Nat} (hg : ∀ k i, k < m → i < n → (g k i).Lim E T) (hd : ∀ i, i < n → (dir i).Lim E2 T2) (ha : all.Lim (E + E2) (T + T2 + 1 + 2 * n)) : ∀ k, k ≤ m → (supG g dir n bits all k).Lim (E + E2) (T + T2 + 1 + 2 * n + 2 * k) := by
  intro k hk
  induction k with
  | zero => exact ha
  | succ k ih =>
    have h1 := ih (by omega)
    have h2 := size_lim (inner_lim (a := pts (g k)) bits n (fun i hi => pt_lim (hg k i (by omega) hi)) hd)
    exact (sadd_lim h1 (pt_lim (h2.mono (Nat.le_refl _) (show T + T2 + 1 + 2 * n ≤ T + T2 + 1 + 2 * n + 2 * k by omega))) bits).mono (Nat.le_refl _) (by omega)
theorem supR_lim {r : Nat → D} {dir : Nat → Sp} {n bits q : Nat} {all : Sp} {E T E2 T2 : Nat} (hr : ∀ i, i < n → (r i).Lim E T) (hd : ∀ i, i < n → (dir i).Lim E2 T2) (ha : all.Lim (E + E2) (T + T2 + 1 + q)) : ∀ k, k ≤ n → (supR r dir bits all k).Lim (E + E2) (T + T2 + 1 + q + 2 * k) := by
  intro k hk
  induction k with
  | zero => exact ha
  | succ k ih =>
    have h1 := ih (by omega)
    have h2 := smul_lim (pt_lim (hr k (by omega))) (pt_lim (size_lim (hd k (by omega)))) bits
    exact (sadd_lim h1 (h2.mono (Nat.le_refl _) (show T + T2 + 1 ≤ T + T2 + 1 + q + 2 * k by omega)) bits).mono (Nat.le_refl _) (by omega)
end Go.Proofs.YtgioppkggpfnoaaDoor.Nu
end

section
/- Rows of dyads and of spans that the call makes and writes. -/
set_option linter.unusedVariables false
namespace Go.Proofs.YtgioppkggpfnoaaDoor.Nu
open Go.RowKit Go.Proofs

/-- A row of n elements of m cells each: cell c of element j is 'e j c'. -/
def rowOf (m n : Nat) (e : Nat → Nat → Value) : Array Value := Array.ofFn (n := n * m) fun j => e (j.1 / m) (j.1 % m)
theorem rowOf_size (m n : Nat) (e : Nat → Nat → Value) : (rowOf m n e).size = n * m := by simp [rowOf]
theorem rowOf_get {m n : Nat} (e : Nat → Nat → Value) {i c : Nat} (hi : i < n) (hc : c < m) : (rowOf m n e)[i * m + c]? = some (e i c) := by
  have h1 : i * m + c < n * m := by
    have : i * m + m ≤ n * m := by rw [← Nat.succ_mul]; exact Nat.mul_le_mul_right _ hi
    omega
  have hm : 0 < m := by omega
  unfold rowOf
  rw [Array.getElem?_ofFn, dif_pos h1]
  simp only
  rw [Nat.mul_comm i m, Nat.mul_add_div hm, Nat.div_eq_of_lt hc, Nat.add_zero, Nat.mul_add_mod, Nat.mod_eq_of_lt hc]
theorem rowOf_get? {m n : Nat} {e : Nat → Nat → Value} (k : Nat) : (rowOf m n e)[k]? = if k < n * m then some (e (k / m) (k % m)) else none := by
  unfold rowOf
  rw [Array.getElem?_ofFn]
  split <;> rfl
theorem rowOf_congr {m n : Nat} {e e' : Nat → Nat → Value} (h : ∀ i c, i < n → c < m → e i c = e' i c) : rowOf m n e = rowOf m n e' := by
  unfold rowOf
  congr 1
  funext j
  have hj := j.2
  have hm : 0 < m := by
    false_or_by_contra
    rename_i h0
    have : m = 0 := by omega
    subst this
    simp at hj
  exact h _ _ (Nat.div_lt_of_lt_mul (Nat.lt_of_lt_of_eq hj (Nat.mul_comm n m))) (Nat.mod_lt _ hm)
theorem rowOf_set {m n : Nat} (e : Nat → Nat → Value) {i c : Nat} (hc : c < m) (v : Value) : (rowOf m n e).setIfInBounds (i * m + c) v = rowOf m n fun j d => if j = i ∧ d = c then v else e j d := by
  have hm : 0 < m := by omega
  apply Array.ext_getElem?
  intro k
  rw [rowOf_get? (e := fun j d => if j = i ∧ d = c then v else e j d), Array.getElem?_setIfInBounds, rowOf_get?, rowOf_size]
  by_cases hk : i * m + c = k
  · subst hk
    rw [if_pos rfl]
    by_cases hl : i * m + c < n * m
    · rw [if_pos hl, if_pos hl]
      rw [Nat.mul_comm i m, Nat.mul_add_div hm, Nat.div_eq_of_lt hc, Nat.add_zero, Nat.mul_add_mod, Nat.mod_eq_of_lt hc, if_pos ⟨rfl, rfl⟩]
    · rw [if_neg hl, if_neg hl]
  · rw [if_neg hk]
    by_cases hl : k < n * m
    · rw [if_pos hl, if_pos hl]
      congr 1
      rw [if_neg]
      rintro ⟨h3, h4⟩
      have := Nat.div_add_mod k m
      rw [h3, h4, Nat.mul_comm] at this
      exact hk this
    · rw [if_neg hl, if_neg hl]
theorem rowOf_made (z : Value) (m n : Nat) (hm : z.cells.size = m) : madeCells z.cells (n * m) = rowOf m n fun _ c => z.cells[c]! := by
  apply Array.ext
  · rw [rowOf_size]; simp [size_madeCells]
  · intro i h1 h2
    simp [madeCells, rowOf, hm]
/-- What all elements of a row of dyads are. -/
def isD (w : World) (e : Nat → Nat → Value) (j : Nat) (d : D) : Prop := ∃ q : Q, e j 0 = .bool q.b ∧ e j 1 = .slice q.A q.n q.c ∧ e j 2 = .int .i64 d.x ∧ RD w q d
/-- A row of dyads that lies in a block of its own. -/
def OD (w : World) (g n : Nat) (f : Nat → D) : Prop := ∃ e, Bk w g 53 (rowOf 3 n e) ∧ ∀ j, j < n → isD w e j (f j)
def isS (w : World) (e : Nat → Nat → Value) (j : Nat) (a : Sp) : Prop := ∃ s : SQ, e j 0 = .bool s.lo.b ∧ e j 1 = .slice s.lo.A s.lo.n s.lo.c ∧ e j 2 = .int .i64 a.lo.x ∧ e j 3 = .bool s.hi.b ∧ e j 4 = .slice s.hi.A s.hi.n s.hi.c ∧ e j 5 = .int .i64 a.hi.x ∧ RS w s a
def OS (w : World) (g n : Nat) (f : Nat → Sp) : Prop := ∃ e, Bk w g 62 (rowOf 6 n e) ∧ ∀ j, j < n → isS w e j (f j)
theorem OD.lt {w : World} {g n : Nat} {f : Nat → D} (h : OD w g n f) : g < w.heap.size := by obtain ⟨e, hb, _⟩ := h; exact hb.lt
theorem OS.lt {w : World} {g n : Nat} {f : Nat → Sp} (h : OS w g n f) : g < w.heap.size := by obtain ⟨e, hb, _⟩ := h; exact hb.lt
/-- It stands where its block does, and digits keep. -/
theorem OD.keep {w w' : World} {g n : Nat} {f : Nat → D} (h : OD w g n f) (hg : w'.heap[g]? = w.heap[g]?) (k : Dk w w') : OD w' g n f := by
  obtain ⟨e, hb, hj⟩ := h
  refine ⟨e, hg.trans hb, fun j h => ?_⟩
  obtain ⟨q, a, b, c, hr⟩ := hj j h
  exact ⟨q, a, b, c, hr.dk k⟩
theorem OS.keep {w w' : World} {g n : Nat} {f : Nat → Sp} (h : OS w g n f) (hg : w'.heap[g]? = w.heap[g]?) (k : Dk w w') : OS w' g n f := by
  obtain ⟨e, hb, hj⟩ := h
  refine ⟨e, hg.trans hb, fun j h => ?_⟩
  obtain ⟨q, a, b, c, a1, b1, c1, hr⟩ := hj j h
  exact ⟨q, a, b, c, a1, b1, c1, hr.dk k⟩
theorem OD.below {w w' : World} {g n : Nat} {f : Nat → D} (h : OD w g n f) (hb : Below w.heap.size w w') : OD w' g n f := h.keep (hb.block g h.lt) (.below hb)
theorem OS.below {w w' : World} {g n : Nat} {f : Nat → Sp} (h : OS w g n f) (hb : Below w.heap.size w w') : OS w' g n f := h.keep (hb.block g h.lt) (.below hb)
theorem OD.congr {w : World} {g n : Nat} {f f' : Nat → D} (h : OD w g n f) (e : ∀ j, j < n → f j = f' j) : OD w g n f' := by
  obtain ⟨e1, hb, hj⟩ := h
  exact ⟨e1, hb, fun j h => by rw [← e j h]; exact hj j h⟩
theorem OS.congr {w : World} {g n : Nat} {f f' : Nat → Sp} (h : OS w g n f) (e : ∀ j, j < n → f j = f' j) : OS w g n f' := by
  obtain ⟨e1, hb, hj⟩ := h
  exact ⟨e1, hb, fun j h => by rw [← e j h]; exact hj j h⟩
/-- As a slice of dyads. -/
theorem OD.read {w : World} {g n : Nat} {f : Nat → D} (h : OD w g n f) (hn : n ≤ 1000000) : RDs w (some ⟨g, 0, none⟩) n n f := by
  have hl := h.lt
  obtain ⟨e, hb, hj⟩ := h
  refine ⟨Nat.le_refl _, hn, fun _ => ⟨g, 0, rfl, hl, fun j h => ?_⟩⟩
  obtain ⟨q, a, b, c, hr⟩ := hj j h
  rw [Nat.zero_add]
  exact ⟨q, hb.cell (j * 3 + 0) (by rw [rowOf_get e h (by omega), a]), hb.cell (j * 3 + 1) (by rw [rowOf_get e h (by omega), b]), hb.cell (j * 3 + 2) (by rw [rowOf_get e h (by omega), c]), hr⟩
theorem OS.read {w : World} {g n : Nat} {f : Nat → Sp} (h : OS w g n f) (hn : n ≤ 1000000) : RSs w (some ⟨g, 0, none⟩) n n f := by
  have hl := h.lt
  obtain ⟨e, hb, hj⟩ := h
  refine ⟨Nat.le_refl _, hn, fun _ => ⟨g, 0, rfl, hl, fun j h => ?_⟩⟩
  obtain ⟨q, a, b, c, a1, b1, c1, hr⟩ := hj j h
  rw [Nat.zero_add]
  exact ⟨q, hb.cell (j * 6 + 0) (by rw [rowOf_get e h (by omega), a]), hb.cell (j * 6 + 1) (by rw [rowOf_get e h (by omega), b]), hb.cell (j * 6 + 2) (by rw [rowOf_get e h (by omega), c]), hb.cell (j * 6 + 3) (by rw [rowOf_get e h (by omega), a1]), hb.cell (j * 6 + 4) (by rw [rowOf_get e h (by omega), b1]), hb.cell (j * 6 + 5) (by rw [rowOf_get e h (by omega), c1]), hr⟩
/-- What is there to be written over. -/
theorem OD.there {w : World} {g n : Nat} {f : Nat → D} (h : OD w g n f) {i : Nat} (hi : i < n) : (∃ v, w.cell? ⟨g, i * 3, none⟩ = some v) ∧ (∃ v, w.cell? ⟨g, i * 3 + 1, none⟩ = some v) ∧ (∃ v, w.cell? ⟨g, i * 3 + 2, none⟩ = some v) ∧ w.frozen? ⟨g, i * 3, none⟩ = false ∧ w.frozen? ⟨g, i * 3 + 1, none⟩ = false ∧ w.frozen? ⟨g, i * 3 + 2, none⟩ = false := by
  obtain ⟨e, hb, hj⟩ := h
  exact ⟨⟨_, hb.cell (i * 3 + 0) (rowOf_get e hi (by omega))⟩, ⟨_, hb.cell (i * 3 + 1) (rowOf_get e hi (by omega))⟩, ⟨_, hb.cell (i * 3 + 2) (rowOf_get e hi (by omega))⟩, hb.free _, hb.free _, hb.free _⟩
theorem OS.there {w : World} {g n : Nat} {f : Nat → Sp} (h : OS w g n f) {i : Nat} (hi : i < n) : (∃ v, w.cell? ⟨g, i * 6, none⟩ = some v) ∧ (∃ v, w.cell? ⟨g, i * 6 + 1, none⟩ = some v) ∧ (∃ v, w.cell? ⟨g, i * 6 + 2, none⟩ = some v) ∧ (∃ v, w.cell? ⟨g, i * 6 + 3, none⟩ = some v) ∧ (∃ v, w.cell? ⟨g, i * 6 + 4, none⟩ = some v) ∧ (∃ v, w.cell? ⟨g, i * 6 + 5, none⟩ = some v) ∧ w.frozen? ⟨g, i * 6, none⟩ = false ∧ w.frozen? ⟨g, i * 6 + 1, none⟩ = false ∧ w.frozen? ⟨g, i * 6 + 2, none⟩ = false ∧ w.frozen? ⟨g, i * 6 + 3, none⟩ = false ∧ w.frozen? ⟨g, i * 6 + 4, none⟩ = false ∧ w.frozen? ⟨g, i * 6 + 5, none⟩ = false := by
  obtain ⟨e, hb, hj⟩ := h
  exact ⟨⟨_, hb.cell (i * 6 + 0) (rowOf_get e hi (by omega))⟩, ⟨_, hb.cell (i * 6 + 1) (rowOf_get e hi (by omega))⟩, ⟨_, hb.cell (i * 6 + 2) (rowOf_get e hi (by omega))⟩, ⟨_, hb.cell (i * 6 + 3) (rowOf_get e hi (by omega))⟩, ⟨_, hb.cell (i * 6 + 4) (rowOf_get e hi (by omega))⟩, ⟨_, hb.cell (i * 6 + 5) (rowOf_get e hi (by omega))⟩, hb.free _, hb.free _, hb.free _, hb.free _, hb.free _, hb.free _⟩
/-- The world with one element of a row of dyads written. -/
def put3 (w : World) (g i : Nat) (v0 v1 v2 : Value) : World := ((w.setCell ⟨g, i * 3, none⟩ v0).setCell ⟨g, i * 3 + 1, none⟩ v1).setCell ⟨g, i * 3 + 2, none⟩ v2
def put6 (w : World) (g i : Nat) (v0 v1 v2 v3 v4 v5 : Value) : World := (((((w.setCell ⟨g, i * 6, none⟩ v0).setCell ⟨g, i * 6 + 1, none⟩ v1).setCell ⟨g, i * 6 + 2, none⟩ v2).setCell ⟨g, i * 6 + 3, none⟩ v3).setCell ⟨g, i * 6 + 4, none⟩ v4).setCell ⟨g, i * 6 + 5, none⟩ v5
theorem Bk.ne3 {w : World} {g g' : Nat} {t : TypeId} {cs : Array Value} (h : Bk w g t cs) (hg : g ≠ g') (i : Nat) (v0 v1 v2 : Value) : Bk (put3 w g' i v0 v1 v2) g t cs := ((h.ne hg _ _).ne hg _ _).ne hg _ _
theorem Bk.ne6 {w : World} {g g' : Nat} {t : TypeId} {cs : Array Value} (h : Bk w g t cs) (hg : g ≠ g') (i : Nat) (v0 v1 v2 v3 v4 v5 : Value) : Bk (put6 w g' i v0 v1 v2 v3 v4 v5) g t cs := (((((h.ne hg _ _).ne hg _ _).ne hg _ _).ne hg _ _).ne hg _ _).ne hg _ _
theorem same3 (w : World) {g g' : Nat} (hg : g ≠ g') (i : Nat) (v0 v1 v2 : Value) : (put3 w g' i v0 v1 v2).heap[g]? = w.heap[g]? := by
  unfold put3; rw [Below.heap_setCell _ _ _ _ hg, Below.heap_setCell _ _ _ _ hg, Below.heap_setCell _ _ _ _ hg]
theorem same6 (w : World) {g g' : Nat} (hg : g ≠ g') (i : Nat) (v0 v1 v2 v3 v4 v5 : Value) : (put6 w g' i v0 v1 v2 v3 v4 v5).heap[g]? = w.heap[g]? := by
  unfold put6; rw [Below.heap_setCell _ _ _ _ hg, Below.heap_setCell _ _ _ _ hg, Below.heap_setCell _ _ _ _ hg, Below.heap_setCell _ _ _ _ hg, Below.heap_setCell _ _ _ _ hg, Below.heap_setCell _ _ _ _ hg]
theorem same1 (w : World) {g g' : Nat} (hg : g ≠ g') (j : Nat) (v : Value) : (w.setCell ⟨g', j, none⟩ v).heap[g]? = w.heap[g]? := Below.heap_setCell _ _ _ _ hg
theorem sameA (w : World) {g : Nat} (hg : g < w.heap.size) (o : Obj) : (w.alloc o).heap[g]? = w.heap[g]? := Lib.alloc_old _ _ _ hg
/-- Element i written. -/
theorem OD.put {w : World} {g n : Nat} {f : Nat → D} (h : OD w g n f) {i : Nat} (hi : i < n) (q : Q) (d : D) (hr : RD w q d) :
    OD (put3 w g i (.bool q.b) (.slice q.A q.n q.c) (.int .i64 d.x)) g n (fun j => if j = i then d else f j) ∧ Dk w (put3 w g i (.bool q.b) (.slice q.A q.n q.c) (.int .i64 d.x)) := by
  obtain ⟨e, hb, hj⟩ := h
  obtain ⟨q0, a, b, c, _⟩ := hj i hi
  have b1 := hb.set (i * 3 + 0) (.bool q.b)
  have b2 := b1.set (i * 3 + 1) (.slice q.A q.n q.c)
  have b3 := b2.set (i * 3 + 2) (.int .i64 d.x)
  have k : Dk w (put3 w g i (.bool q.b) (.slice q.A q.n q.c) (.int .i64 d.x)) := by
    have k1 := (Dk.refl w).set hb (i * 3 + 0) (by rw [rowOf_get e hi (by omega), a]; intro v h; cases h) (.bool q.b)
    have k2 := k1.set b1 (i * 3 + 1) (by rw [rowOf_set e (by omega), rowOf_get _ hi (by omega), if_neg (by omega), b]; intro v h; cases h) (.slice q.A q.n q.c)
    exact k2.set b2 (i * 3 + 2) (by rw [rowOf_set e (by omega), rowOf_set _ (by omega), rowOf_get _ hi (by omega), if_neg (by omega), if_neg (by omega), c]; intro v h; cases h) (.int .i64 d.x)
  refine ⟨⟨_, (by rw [rowOf_set e (by omega), rowOf_set _ (by omega), rowOf_set _ (by omega)] at b3; exact b3), fun j hjn => ?_⟩, k⟩
  by_cases hij : j = i
  · subst hij
    refine ⟨q, ?_, ?_, ?_, ?_⟩
    · simp
    · simp
    · simp
    · simpa using hr.dk k
  · obtain ⟨q1, a1, b1, c1, r1⟩ := hj j hjn
    refine ⟨q1, ?_, ?_, ?_, ?_⟩
    · simp [hij, a1]
    · simp [hij, b1]
    · simp [hij, c1]
    · simpa [hij] using r1.dk k
theorem OS.put {w : World} {g n : Nat} {f : Nat → Sp} (h : OS w g n f) {i : Nat} (hi : i < n) (s : SQ) (x : Sp) (hr : RS w s x) :
    OS (put6 w g i (.bool s.lo.b) (.slice s.lo.A s.lo.n s.lo.c) (.int .i64 x.lo.x) (.bool s.hi.b) (.slice s.hi.A s.hi.n s.hi.c) (.int .i64 x.hi.x)) g n (fun j => if j = i then x else f j) ∧ Dk w (put6 w g i (.bool s.lo.b) (.slice s.lo.A s.lo.n s.lo.c) (.int .i64 x.lo.x) (.bool s.hi.b) (.slice s.hi.A s.hi.n s.hi.c) (.int .i64 x.hi.x)) := by
  obtain ⟨e, hb, hj⟩ := h
  obtain ⟨q0, a, b, c, a', b', c', _⟩ := hj i hi
  have b1 := hb.set (i * 6 + 0) (.bool s.lo.b)
  have b2 := b1.set (i * 6 + 1) (.slice s.lo.A s.lo.n s.lo.c)
  have b3 := b2.set (i * 6 + 2) (.int .i64 x.lo.x)
  have b4 := b3.set (i * 6 + 3) (.bool s.hi.b)
  have b5 := b4.set (i * 6 + 4) (.slice s.hi.A s.hi.n s.hi.c)
  have b6 := b5.set (i * 6 + 5) (.int .i64 x.hi.x)
  have k : Dk w (put6 w g i (.bool s.lo.b) (.slice s.lo.A s.lo.n s.lo.c) (.int .i64 x.lo.x) (.bool s.hi.b) (.slice s.hi.A s.hi.n s.hi.c) (.int .i64 x.hi.x)) := by
    have k1 := (Dk.refl w).set hb (i * 6 + 0) (by rw [rowOf_get e hi (by omega), a]; intro v h; cases h) (.bool s.lo.b)
    have k2 := k1.set b1 (i * 6 + 1) (by rw [rowOf_set e (by omega), rowOf_get _ hi (by omega), if_neg (by omega), b]; intro v h; cases h) (.slice s.lo.A s.lo.n s.lo.c)
    have k3 := k2.set b2 (i * 6 + 2) (by rw [rowOf_set e (by omega), rowOf_set _ (by omega), rowOf_get _ hi (by omega), if_neg (by omega), if_neg (by omega), c]; intro v h; cases h) (.int .i64 x.lo.x)
    have k4 := k3.set b3 (i * 6 + 3) (by rw [rowOf_set e (by omega), rowOf_set _ (by omega), rowOf_set _ (by omega), rowOf_get _ hi (by omega), if_neg (by omega), if_neg (by omega), if_neg (by omega), a']; intro v h; cases h) (.bool s.hi.b)
    have k5 := k4.set b4 (i * 6 + 4) (by rw [rowOf_set e (by omega), rowOf_set _ (by omega), rowOf_set _ (by omega), rowOf_set _ (by omega), rowOf_get _ hi (by omega), if_neg (by omega), if_neg (by omega), if_neg (by omega), if_neg (by omega), b']; intro v h; cases h) (.slice s.hi.A s.hi.n s.hi.c)
    exact k5.set b5 (i * 6 + 5) (by rw [rowOf_set e (by omega), rowOf_set _ (by omega), rowOf_set _ (by omega), rowOf_set _ (by omega), rowOf_set _ (by omega), rowOf_get _ hi (by omega), if_neg (by omega), if_neg (by omega), if_neg (by omega), if_neg (by omega), if_neg (by omega), c']; intro v h; cases h) (.int .i64 x.hi.x)
  refine ⟨⟨_, (by rw [rowOf_set e (by omega), rowOf_set _ (by omega), rowOf_set _ (by omega), rowOf_set _ (by omega), rowOf_set _ (by omega), rowOf_set _ (by omega)] at b6; exact b6), fun j hjn => ?_⟩, k⟩
  by_cases hij : j = i
  · subst hij
    refine ⟨s, ?_, ?_, ?_, ?_, ?_, ?_, ?_⟩
    · simp
    · simp
    · simp
    · simp
    · simp
    · simp
    · simpa using hr.dk k
  · obtain ⟨q1, a1, b1, c1, a2, b2, c2, r1⟩ := hj j hjn
    refine ⟨q1, ?_, ?_, ?_, ?_, ?_, ?_, ?_⟩
    · simp [hij, a1]
    · simp [hij, b1]
    · simp [hij, c1]
    · simp [hij, a2]
    · simp [hij, b2]
    · simp [hij, c2]
    · simpa [hij] using r1.dk k
theorem below_put3 {w w' : World} (h : Below w.heap.size w w') {g : Nat} (hg : w.heap.size ≤ g) (i : Nat) (v0 v1 v2 : Value) : Below w.heap.size w (put3 w' g i v0 v1 v2) := below_st (below_st (below_st h _ hg _) _ hg _) _ hg _
theorem below_put6 {w w' : World} (h : Below w.heap.size w w') {g : Nat} (hg : w.heap.size ≤ g) (i : Nat) (v0 v1 v2 v3 v4 v5 : Value) : Below w.heap.size w (put6 w' g i v0 v1 v2 v3 v4 v5) := below_st (below_st (below_st (below_st (below_st (below_st h _ hg _) _ hg _) _ hg _) _ hg _) _ hg _) _ hg _
/-- Made rows: behind plain names. -/
def mkD (n : Nat) : Array Value := rowOf 3 n fun _ c => if c = 0 then .bool false else if c = 1 then .slice none 0 0 else .int .i64 0
def mkS (n : Nat) : Array Value := rowOf 6 n fun _ c => if c = 0 ∨ c = 3 then .bool false else if c = 1 ∨ c = 4 then .slice none 0 0 else .int .i64 0
theorem OD.made (w : World) (n : Nat) : OD (w.alloc (.cells (mkD n) 53)) w.heap.size n (fun _ => D.zero) := ⟨_, alloc_top w _, fun j _ => ⟨Q.nil, rfl, rfl, rfl, RD.zero _⟩⟩
theorem OS.made (w : World) (n : Nat) : OS (w.alloc (.cells (mkS n) 62)) w.heap.size n (fun _ => Sp.zero) := ⟨_, alloc_top w _, fun j _ => ⟨⟨Q.nil, Q.nil⟩, rfl, rfl, rfl, rfl, rfl, rfl, RS.zero _⟩⟩
theorem infoD : (Tryd.prog.info? 53).map (fun i => (i.zero, i.size, i.bytes)) = some (some (.agg #[.bool false, .slice none 0 0, .int .i64 0]), 3, 40) := by kernel_rfl
theorem infoS : (Tryd.prog.info? 62).map (fun i => (i.zero, i.size, i.bytes)) = some (some (.agg #[.bool false, .slice none 0 0, .int .i64 0, .bool false, .slice none 0 0, .int .i64 0]), 6, 80) := by kernel_rfl
theorem make_D (n : Nat) (hn : n ≤ 1000000) (w : World) : (Instr.makeSlice 39 (.int .i64 n) (.int .i64 n)).run Tryd.prog w = .ok (.slice (some ⟨w.heap.size, 0, none⟩) n n) (w.alloc (.cells (mkD n) 53)) := by
  obtain ⟨i0, hi, hz0, hz1, hz2⟩ := info_parts infoD
  have h := run_make (P := Tryd.prog) w 39 53 i0 _ Tryd.underlying39 hi hz0 .i64 .i64 n n (by omega) (Int.le_refl _) (by rw [hz2]; omega) (by omega)
  have e : madeCells (Value.agg #[.bool false, .slice none 0 0, .int .i64 0]).cells (n * 3) = mkD n := by
    rw [rowOf_made _ 3 n rfl]
    refine rowOf_congr fun i c _ hc => ?_
    match c, hc with
    | 0, _ => rfl
    | 1, _ => rfl
    | 2, _ => rfl
  simp only [Int.toNat_natCast, hz1, e] at h
  exact h
theorem make_S (n : Nat) (hn : n ≤ 1000000) (w : World) : (Instr.makeSlice 95 (.int .i64 n) (.int .i64 n)).run Tryd.prog w = .ok (.slice (some ⟨w.heap.size, 0, none⟩) n n) (w.alloc (.cells (mkS n) 62)) := by
  obtain ⟨i0, hi, hz0, hz1, hz2⟩ := info_parts infoS
  have h := run_make (P := Tryd.prog) w 95 62 i0 _ Tryd.underlying95 hi hz0 .i64 .i64 n n (by omega) (Int.le_refl _) (by rw [hz2]; omega) (by omega)
  have e : madeCells (Value.agg #[.bool false, .slice none 0 0, .int .i64 0, .bool false, .slice none 0 0, .int .i64 0]).cells (n * 6) = mkS n := by
    rw [rowOf_made _ 6 n rfl]
    refine rowOf_congr fun i c _ hc => ?_
    match c, hc with
    | 0, _ => rfl
    | 1, _ => rfl
    | 2, _ => rfl
    | 3, _ => rfl
    | 4, _ => rfl
    | 5, _ => rfl
  simp only [Int.toNat_natCast, hz1, e] at h
  exact h
theorem OD.al {w : World} {g n : Nat} {f : Nat → D} (h : OD w g n f) (o : Obj) : OD (w.alloc o) g n f := h.keep (sameA w h.lt o) ((Dk.refl w).alloc o)
theorem OD.dr {w : World} {g n : Nat} {f : Nat → D} (h : OD w g n f) : OD w.drew g n f := h.keep rfl ((Dk.refl w).drew)
theorem OD.st {w : World} {g n : Nat} {f : Nat → D} (h : OD w g n f) {g' : Nat} {t : TypeId} {cs : Array Value} (B : Bk w g' t cs) (hg : g ≠ g') (j : Nat) (hj : ∀ v, cs[j]? ≠ some (.int .u32 v)) (u : Value) : OD (w.setCell ⟨g', j, none⟩ u) g n f := h.keep (same1 w hg j u) ((Dk.refl w).set B j hj u)
theorem OD.rp3 {w : World} {g n : Nat} {f : Nat → D} (h : OD w g n f) {g' : Nat} (hg : g ≠ g') (i : Nat) (v0 v1 v2 : Value) (k : Dk w (put3 w g' i v0 v1 v2)) : OD (put3 w g' i v0 v1 v2) g n f := h.keep (same3 w hg i v0 v1 v2) k
theorem OD.rp6 {w : World} {g n : Nat} {f : Nat → D} (h : OD w g n f) {g' : Nat} (hg : g ≠ g') (i : Nat) (v0 v1 v2 v3 v4 v5 : Value) (k : Dk w (put6 w g' i v0 v1 v2 v3 v4 v5)) : OD (put6 w g' i v0 v1 v2 v3 v4 v5) g n f := h.keep (same6 w hg i v0 v1 v2 v3 v4 v5) k
theorem OS.al {w : World} {g n : Nat} {f : Nat → Sp} (h : OS w g n f) (o : Obj) : OS (w.alloc o) g n f := h.keep (sameA w h.lt o) ((Dk.refl w).alloc o)
theorem OS.dr {w : World} {g n : Nat} {f : Nat → Sp} (h : OS w g n f) : OS w.drew g n f := h.keep rfl ((Dk.refl w).drew)
theorem OS.st {w : World} {g n : Nat} {f : Nat → Sp} (h : OS w g n f) {g' : Nat} {t : TypeId} {cs : Array Value} (B : Bk w g' t cs) (hg : g ≠ g') (j : Nat) (hj : ∀ v, cs[j]? ≠ some (.int .u32 v)) (u : Value) : OS (w.setCell ⟨g', j, none⟩ u) g n f := h.keep (same1 w hg j u) ((Dk.refl w).set B j hj u)
theorem OS.rp3 {w : World} {g n : Nat} {f : Nat → Sp} (h : OS w g n f) {g' : Nat} (hg : g ≠ g') (i : Nat) (v0 v1 v2 : Value) (k : Dk w (put3 w g' i v0 v1 v2)) : OS (put3 w g' i v0 v1 v2) g n f := h.keep (same3 w hg i v0 v1 v2) k
theorem OS.rp6 {w : World} {g n : Nat} {f : Nat → Sp} (h : OS w g n f) {g' : Nat} (hg : g ≠ g') (i : Nat) (v0 v1 v2 v3 v4 v5 : Value) (k : Dk w (put6 w g' i v0 v1 v2 v3 v4 v5)) : OS (put6 w g' i v0 v1 v2 v3 v4 v5) g n f := h.keep (same6 w hg i v0 v1 v2 v3 v4 v5) k
theorem upto_next {α : Type} (F : Nat → α) (z : α) (i j : Nat) : (if j = i then F i else if j < i then F j else z) = if j < i + 1 then F j else z := by
  by_cases h : j = i
  · subst h; rw [if_pos rfl, if_pos (by omega)]
  · rw [if_neg h]
    by_cases h2 : j < i
    · rw [if_pos h2, if_pos (by omega)]
    · rw [if_neg h2, if_neg (by omega)]
theorem OD.next {w : World} {g n i : Nat} {F : Nat → D} {z : D} (h : OD w g n (fun j => if j = i then F i else if j < i then F j else z)) : OD w g n (fun j => if j < i + 1 then F j else z) := h.congr fun j _ => upto_next F z i j
theorem OS.next {w : World} {g n i : Nat} {F : Nat → Sp} {z : Sp} (h : OS w g n (fun j => if j = i then F i else if j < i then F j else z)) : OS w g n (fun j => if j < i + 1 then F j else z) := h.congr fun j _ => upto_next F z i j
theorem OD.start {w : World} {g n : Nat} {F : Nat → D} {z : D} (h : OD w g n (fun _ => z)) : OD w g n (fun j => if j < 0 then F j else z) := h.congr fun j _ => by rw [if_neg (by omega)]
theorem OS.start {w : World} {g n : Nat} {F : Nat → Sp} {z : Sp} (h : OS w g n (fun _ => z)) : OS w g n (fun j => if j < 0 then F j else z) := h.congr fun j _ => by rw [if_neg (by omega)]
theorem OD.done {w : World} {g n : Nat} {F : Nat → D} {z : D} (h : OD w g n (fun j => if j < n then F j else z)) : OD w g n F := h.congr fun j hj => by rw [if_pos hj]
theorem OS.done {w : World} {g n : Nat} {F : Nat → Sp} {z : Sp} (h : OS w g n (fun j => if j < n then F j else z)) : OS w g n F := h.congr fun j hj => by rw [if_pos hj]
theorem OD.made1 (w : World) (o : Obj) (n : Nat) : OD ((w.alloc o).alloc (.cells (mkD n) 53)) (w.heap.size + 1) n (fun _ => D.zero) := by
  have h := OD.made (w.alloc o) n
  rw [World.size_alloc] at h
  exact h
end Go.Proofs.YtgioppkggpfnoaaDoor.Nu
end

section
/- The walk of vec.Inner. -/
set_option linter.unusedVariables false
namespace Go.Proofs.YtgioppkggpfnoaaDoor.Nu
open Go.RowKit Go.Proofs

/-- The state ahead of round i. -/
def InnerRel (f g : Nat → Sp) (bits : Nat) (W : World) (i : Nat) (w : World) : Prop :=
  ∃ u : SQ, Bk w W.heap.size 62 #[.bool false, .slice none 0 0, .int .i64 0, .bool false, .slice none 0 0, .int .i64 0] ∧ Bk w (W.heap.size + 1) 62 #[.bool u.lo.b, .slice u.lo.A u.lo.n u.lo.c, .int .i64 (inner f g bits i).lo.x, .bool u.hi.b, .slice u.hi.A u.hi.n u.hi.c, .int .i64 (inner f g bits i).hi.x] ∧ Below W.heap.size W w ∧ RS w u (inner f g bits i)
theorem InnerRel.start {w w0 : World} (f g : Nat → Sp) (bits : Nat) (b0 : Bk w0 w.heap.size 62 #[.bool false, .slice none 0 0, .int .i64 0, .bool false, .slice none 0 0, .int .i64 0]) (b1 : Bk w0 (w.heap.size + 1) 62 #[.bool false, .slice none 0 0, .int .i64 0, .bool false, .slice none 0 0, .int .i64 0]) (hw : Below w.heap.size w w0) : InnerRel f g bits w 0 w0 :=
  ⟨⟨Q.nil, Q.nil⟩, b0, b1, hw, RS.zero _⟩

set_option maxRecDepth 100000 in
set_option maxHeartbeats 4000000 in
theorem inner_any (w : World) (A B : Option Addr) (n c d : Nat) (f g : Nat → Sp) (bits : Nat) (E T E2 T2 : Nat) (h : RSs w A n c f) (h2 : RSs w B n d g) (la : ∀ i, i < n → (f i).Lim E T) (lb : ∀ i, i < n → (g i).Lim E2 T2) (hET : E + E2 + T + T2 + 2 * n + 4 ≤ 16000) (hb2 : 2 ≤ bits) (hb3 : bits ≤ 4096) (ht : BTab w) :
    Calls Tryd.prog 121 #[.slice A n c, .slice B n d, .int .i64 bits] w fun e w' => (∃ r : SQ, e = .returned (.tuple #[.agg #[.bool r.lo.b, .slice r.lo.A r.lo.n r.lo.c, .int .i64 (inner f g bits n).lo.x, .bool r.hi.b, .slice r.hi.A r.hi.n r.hi.c, .int .i64 (inner f g bits n).hi.x], .int .i64 0]) ∧ RS w' r (inner f g bits n)) ∧ Below w.heap.size w w' := by
  have HA := Lib.hid h
  have HB := Lib.hid h2
  have LA := Lib.hid la
  have LB := Lib.hid lb
  have HT := Lib.hid ht
  have n0 := h.2.1
  clear h h2 la lb ht
  have q0 : ((n : Int) != (n : Int)) = false := by simp
  have BX := Lib.hid (boxes2 w 62 #[.bool false, .slice none 0 0, .int .i64 0, .bool false, .slice none 0 0, .int .i64 0] 62 #[.bool false, .slice none 0 0, .int .i64 0, .bool false, .slice none 0 0, .int .i64 0])
  go_enter Tryd.func121, Tryd.ntmps121
  go_wp2_with fail
  generalize (w.alloc (.cells #[.bool false, .slice none 0 0, .int .i64 0, .bool false, .slice none 0 0, .int .i64 0] 62)).alloc (.cells #[.bool false, .slice none 0 0, .int .i64 0, .bool false, .slice none 0 0, .int .i64 0] 62) = w0 at *
  obtain ⟨b0, b1, hw⟩ := BX.out
  have H0 := Lib.hid (InnerRel.start f g bits b0 b1 hw)
  clear BX b0 b1 hw
  go_loopw [20] (fun k wr => ∃ i : Nat, k = .int .i64 i ∧ i ≤ n ∧ Hid (InnerRel f g bits w i wr)) (fun k _ => n - (intOf k).toNat)
  case atStart => exact ⟨0, rfl, Nat.zero_le _, H0⟩
  case round =>
    obtain ⟨i, rfl, hi, Hr⟩ := hrel
    by_cases hi2 : i < n
    · obtain ⟨u, bo, ba, hbel, hru⟩ := Hr.out
      obtain ⟨A1, o1, rfl, hl1, hc1⟩ := HA.out.2.2 (by omega)
      obtain ⟨A2, o2, rfl, hl2, hc2⟩ := HB.out.2.2 (by omega)
      obtain ⟨s, x0, x1, x2, x3, x4, x5, hs⟩ := hc1 i hi2
      obtain ⟨t, y0, y1, y2, y3, y4, y5, ht⟩ := hc2 i hi2
      
      have X0 := Lib.hid x0
      have Y0 := Lib.hid y0
      have X1 := Lib.hid x1
      have Y1 := Lib.hid y1
      have X2 := Lib.hid x2
      have Y2 := Lib.hid y2
      have X3 := Lib.hid x3
      have Y3 := Lib.hid y3
      have X4 := Lib.hid x4
      have Y4 := Lib.hid y4
      have X5 := Lib.hid x5
      have Y5 := Lib.hid y5
      have LI := Lib.hid (inner_lim bits i (fun j hj => LA.out j (by omega)) (fun j hj => LB.out j (by omega)))
      have SA := Lib.hid (hs.below hbel)
      have SB := Lib.hid (ht.below hbel)
      have Lf := Lib.hid (LA.out i hi2)
      have Lg := Lib.hid (LB.out i hi2)
      have LM := Lib.hid (smul_lim Lf.out Lg.out bits)
      have Bo_0 := Lib.hid bo
      have Ba_0 := Lib.hid ba
      have HB_0 := Lib.hid hbel
      have SU := Lib.hid hru
      have e1 : E + E2 + T + T2 ≤ 16000 := by omega
      have e2 : E + E2 + (T + T2 + 1 + 2 * i) + 1 ≤ 16000 := by omega
      clear x0 x1 x2 x3 x4 x5 y0 y1 y2 y3 y4 y5 hc1 hc2 hs ht bo ba hru hbel
      have q3 : (i : Int) < (n : Int) := by omega
      go_upto_region 7 with (fail)
      have lo := Bo_0.out.lt
      obtain ⟨co0, co1, co2, co3, co4, co5⟩ := Bo_0.out.cells6
      have la := Ba_0.out.lt
      obtain ⟨ca0, ca1, ca2, ca3, ca4, ca5⟩ := Ba_0.out.cells6
      have cr10 : wr.cell? ⟨A1, o1 + i * 6, none⟩ = some (.bool s.lo.b) := (HB_0.out.cell (p := ⟨A1, o1 + i * 6, none⟩) hl1).trans X0.out
      have cr11 : wr.cell? ⟨A1, o1 + i * 6 + 1, none⟩ = some (.slice s.lo.A s.lo.n s.lo.c) := (HB_0.out.cell (p := ⟨A1, o1 + i * 6 + 1, none⟩) hl1).trans X1.out
      have cr12 : wr.cell? ⟨A1, o1 + i * 6 + 2, none⟩ = some (.int .i64 (f i).lo.x) := (HB_0.out.cell (p := ⟨A1, o1 + i * 6 + 2, none⟩) hl1).trans X2.out
      have cr13 : wr.cell? ⟨A1, o1 + i * 6 + 3, none⟩ = some (.bool s.hi.b) := (HB_0.out.cell (p := ⟨A1, o1 + i * 6 + 3, none⟩) hl1).trans X3.out
      have cr14 : wr.cell? ⟨A1, o1 + i * 6 + 4, none⟩ = some (.slice s.hi.A s.hi.n s.hi.c) := (HB_0.out.cell (p := ⟨A1, o1 + i * 6 + 4, none⟩) hl1).trans X4.out
      have cr15 : wr.cell? ⟨A1, o1 + i * 6 + 5, none⟩ = some (.int .i64 (f i).hi.x) := (HB_0.out.cell (p := ⟨A1, o1 + i * 6 + 5, none⟩) hl1).trans X5.out
      have cr20 : wr.cell? ⟨A2, o2 + i * 6, none⟩ = some (.bool t.lo.b) := (HB_0.out.cell (p := ⟨A2, o2 + i * 6, none⟩) hl2).trans Y0.out
      have cr21 : wr.cell? ⟨A2, o2 + i * 6 + 1, none⟩ = some (.slice t.lo.A t.lo.n t.lo.c) := (HB_0.out.cell (p := ⟨A2, o2 + i * 6 + 1, none⟩) hl2).trans Y1.out
      have cr22 : wr.cell? ⟨A2, o2 + i * 6 + 2, none⟩ = some (.int .i64 (g i).lo.x) := (HB_0.out.cell (p := ⟨A2, o2 + i * 6 + 2, none⟩) hl2).trans Y2.out
      have cr23 : wr.cell? ⟨A2, o2 + i * 6 + 3, none⟩ = some (.bool t.hi.b) := (HB_0.out.cell (p := ⟨A2, o2 + i * 6 + 3, none⟩) hl2).trans Y3.out
      have cr24 : wr.cell? ⟨A2, o2 + i * 6 + 4, none⟩ = some (.slice t.hi.A t.hi.n t.hi.c) := (HB_0.out.cell (p := ⟨A2, o2 + i * 6 + 4, none⟩) hl2).trans Y4.out
      have cr25 : wr.cell? ⟨A2, o2 + i * 6 + 5, none⟩ = some (.int .i64 (g i).hi.x) := (HB_0.out.cell (p := ⟨A2, o2 + i * 6 + 5, none⟩) hl2).trans Y5.out
      go_cut [10, 11] (fun s10 s11 wx => ∃ (g_1 : Nat) (p : SQ), s10 = .pointer (some ⟨g_1, 0, none⟩) ∧ s11 = .int .i64 0 ∧ w.heap.size < g_1 ∧ w.heap.size + 1 < g_1 ∧ Bk wx g_1 62 #[.bool p.lo.b, .slice p.lo.A p.lo.n p.lo.c, .int .i64 ((f i).mul (g i) bits).lo.x, .bool p.hi.b, .slice p.hi.A p.hi.n p.hi.c, .int .i64 ((f i).mul (g i) bits).hi.x] ∧ Bk wx (w.heap.size) 62 #[.bool false, .slice none 0 0, .int .i64 0, .bool false, .slice none 0 0, .int .i64 0] ∧ Bk wx (w.heap.size + 1) 62 #[.bool u.lo.b, .slice u.lo.A u.lo.n u.lo.c, .int .i64 (inner f g bits i).lo.x, .bool u.hi.b, .slice u.hi.A u.hi.n u.hi.c, .int .i64 (inner f g bits i).hi.x] ∧ Below w.heap.size w wx ∧ RS wx s (f i) ∧ RS wx t (g i) ∧ RS wx u (inner f g bits i) ∧ RS wx p ((f i).mul (g i) bits))
      case first =>
        obtain ⟨SX1, hS1⟩ : ∃ S : World → Prop, ∀ w', S w' ↔ (w'.cell? ⟨A1, o1 + i * 6, none⟩ = some (.bool s.lo.b) ∧ w'.cell? ⟨A1, o1 + i * 6 + 1, none⟩ = some (.slice s.lo.A s.lo.n s.lo.c) ∧ w'.cell? ⟨A1, o1 + i * 6 + 2, none⟩ = some (.int .i64 (f i).lo.x) ∧ w'.cell? ⟨A1, o1 + i * 6 + 3, none⟩ = some (.bool s.hi.b) ∧ w'.cell? ⟨A1, o1 + i * 6 + 4, none⟩ = some (.slice s.hi.A s.hi.n s.hi.c) ∧ w'.cell? ⟨A1, o1 + i * 6 + 5, none⟩ = some (.int .i64 (f i).hi.x) ∧ w'.cell? ⟨A2, o2 + i * 6, none⟩ = some (.bool t.lo.b) ∧ w'.cell? ⟨A2, o2 + i * 6 + 1, none⟩ = some (.slice t.lo.A t.lo.n t.lo.c) ∧ w'.cell? ⟨A2, o2 + i * 6 + 2, none⟩ = some (.int .i64 (g i).lo.x) ∧ w'.cell? ⟨A2, o2 + i * 6 + 3, none⟩ = some (.bool t.hi.b) ∧ w'.cell? ⟨A2, o2 + i * 6 + 4, none⟩ = some (.slice t.hi.A t.hi.n t.hi.c) ∧ w'.cell? ⟨A2, o2 + i * 6 + 5, none⟩ = some (.int .i64 (g i).hi.x)) := ⟨_, fun _ => Iff.rfl⟩
        have k_2 : SX1 (wr) := (hS1 _).2 ⟨(Below.cell (p := ⟨A1, o1 + i * 6, none⟩) HB_0.out hl1).trans X0.out, (Below.cell (p := ⟨A1, o1 + i * 6 + 1, none⟩) HB_0.out hl1).trans X1.out, (Below.cell (p := ⟨A1, o1 + i * 6 + 2, none⟩) HB_0.out hl1).trans X2.out, (Below.cell (p := ⟨A1, o1 + i * 6 + 3, none⟩) HB_0.out hl1).trans X3.out, (Below.cell (p := ⟨A1, o1 + i * 6 + 4, none⟩) HB_0.out hl1).trans X4.out, (Below.cell (p := ⟨A1, o1 + i * 6 + 5, none⟩) HB_0.out hl1).trans X5.out, (Below.cell (p := ⟨A2, o2 + i * 6, none⟩) HB_0.out hl2).trans Y0.out, (Below.cell (p := ⟨A2, o2 + i * 6 + 1, none⟩) HB_0.out hl2).trans Y1.out, (Below.cell (p := ⟨A2, o2 + i * 6 + 2, none⟩) HB_0.out hl2).trans Y2.out, (Below.cell (p := ⟨A2, o2 + i * 6 + 3, none⟩) HB_0.out hl2).trans Y3.out, (Below.cell (p := ⟨A2, o2 + i * 6 + 4, none⟩) HB_0.out hl2).trans Y4.out, (Below.cell (p := ⟨A2, o2 + i * 6 + 5, none⟩) HB_0.out hl2).trans Y5.out⟩
        have k_3 : SX1 (wr.drew) := (hS1 _).2 ⟨(Below.cell (p := ⟨A1, o1 + i * 6, none⟩) (below_dr HB_0.out) hl1).trans X0.out, (Below.cell (p := ⟨A1, o1 + i * 6 + 1, none⟩) (below_dr HB_0.out) hl1).trans X1.out, (Below.cell (p := ⟨A1, o1 + i * 6 + 2, none⟩) (below_dr HB_0.out) hl1).trans X2.out, (Below.cell (p := ⟨A1, o1 + i * 6 + 3, none⟩) (below_dr HB_0.out) hl1).trans X3.out, (Below.cell (p := ⟨A1, o1 + i * 6 + 4, none⟩) (below_dr HB_0.out) hl1).trans X4.out, (Below.cell (p := ⟨A1, o1 + i * 6 + 5, none⟩) (below_dr HB_0.out) hl1).trans X5.out, (Below.cell (p := ⟨A2, o2 + i * 6, none⟩) (below_dr HB_0.out) hl2).trans Y0.out, (Below.cell (p := ⟨A2, o2 + i * 6 + 1, none⟩) (below_dr HB_0.out) hl2).trans Y1.out, (Below.cell (p := ⟨A2, o2 + i * 6 + 2, none⟩) (below_dr HB_0.out) hl2).trans Y2.out, (Below.cell (p := ⟨A2, o2 + i * 6 + 3, none⟩) (below_dr HB_0.out) hl2).trans Y3.out, (Below.cell (p := ⟨A2, o2 + i * 6 + 4, none⟩) (below_dr HB_0.out) hl2).trans Y4.out, (Below.cell (p := ⟨A2, o2 + i * 6 + 5, none⟩) (below_dr HB_0.out) hl2).trans Y5.out⟩
        have tok_4 : True := trivial
        have tok_5 : True := trivial
        have k_6 : SX1 ((wr.alloc (.cells #[.bool false, .slice none 0 0, .int .i64 0, .bool false, .slice none 0 0, .int .i64 0] 62)).drew) := (hS1 _).2 ⟨(Below.cell (p := ⟨A1, o1 + i * 6, none⟩) (below_dr (below_al HB_0.out _)) hl1).trans X0.out, (Below.cell (p := ⟨A1, o1 + i * 6 + 1, none⟩) (below_dr (below_al HB_0.out _)) hl1).trans X1.out, (Below.cell (p := ⟨A1, o1 + i * 6 + 2, none⟩) (below_dr (below_al HB_0.out _)) hl1).trans X2.out, (Below.cell (p := ⟨A1, o1 + i * 6 + 3, none⟩) (below_dr (below_al HB_0.out _)) hl1).trans X3.out, (Below.cell (p := ⟨A1, o1 + i * 6 + 4, none⟩) (below_dr (below_al HB_0.out _)) hl1).trans X4.out, (Below.cell (p := ⟨A1, o1 + i * 6 + 5, none⟩) (below_dr (below_al HB_0.out _)) hl1).trans X5.out, (Below.cell (p := ⟨A2, o2 + i * 6, none⟩) (below_dr (below_al HB_0.out _)) hl2).trans Y0.out, (Below.cell (p := ⟨A2, o2 + i * 6 + 1, none⟩) (below_dr (below_al HB_0.out _)) hl2).trans Y1.out, (Below.cell (p := ⟨A2, o2 + i * 6 + 2, none⟩) (below_dr (below_al HB_0.out _)) hl2).trans Y2.out, (Below.cell (p := ⟨A2, o2 + i * 6 + 3, none⟩) (below_dr (below_al HB_0.out _)) hl2).trans Y3.out, (Below.cell (p := ⟨A2, o2 + i * 6 + 4, none⟩) (below_dr (below_al HB_0.out _)) hl2).trans Y4.out, (Below.cell (p := ⟨A2, o2 + i * 6 + 5, none⟩) (below_dr (below_al HB_0.out _)) hl2).trans Y5.out⟩
        go_region_held3 (fun w' => w'.cell? ⟨A1, o1 + i * 6, none⟩ = some (.bool s.lo.b) ∧ w'.cell? ⟨A1, o1 + i * 6 + 1, none⟩ = some (.slice s.lo.A s.lo.n s.lo.c) ∧ w'.cell? ⟨A1, o1 + i * 6 + 2, none⟩ = some (.int .i64 (f i).lo.x) ∧ w'.cell? ⟨A1, o1 + i * 6 + 3, none⟩ = some (.bool s.hi.b) ∧ w'.cell? ⟨A1, o1 + i * 6 + 4, none⟩ = some (.slice s.hi.A s.hi.n s.hi.c) ∧ w'.cell? ⟨A1, o1 + i * 6 + 5, none⟩ = some (.int .i64 (f i).hi.x) ∧ w'.cell? ⟨A2, o2 + i * 6, none⟩ = some (.bool t.lo.b) ∧ w'.cell? ⟨A2, o2 + i * 6 + 1, none⟩ = some (.slice t.lo.A t.lo.n t.lo.c) ∧ w'.cell? ⟨A2, o2 + i * 6 + 2, none⟩ = some (.int .i64 (g i).lo.x) ∧ w'.cell? ⟨A2, o2 + i * 6 + 3, none⟩ = some (.bool t.hi.b) ∧ w'.cell? ⟨A2, o2 + i * 6 + 4, none⟩ = some (.slice t.hi.A t.hi.n t.hi.c) ∧ w'.cell? ⟨A2, o2 + i * 6 + 5, none⟩ = some (.int .i64 (g i).hi.x)) (first | with_reducible exact (hS1 _).1 k_2 | with_reducible exact (hS1 _).1 k_3 | with_reducible exact (hS1 _).1 k_6 | with_reducible exact (hS1 _).1 k_15 | with_reducible exact (hS1 _).1 k_18 | with_reducible exact (hS1 _).1 k_19 | with_reducible exact (hS1 _).1 k_32 | with_reducible exact (hS1 _).1 k_33)
          (first
           | (have _ := tok_4; skip; go_at_call 37; clear tok_4; (with_reducible refine (smul_any (wr.drew) s t (f i) (g i) bits E T E2 T2 (SA.out.dk ((Dk.refl _).drew)) (SB.out.dk ((Dk.refl _).drew)) Lf.out Lg.out e1 hb2 hb3 (HT.out.below (below_dr HB_0.out))).mono ?_); rintro e w_7 ⟨⟨p, rfl, hp⟩, hb⟩; clear lo co0 co1 co2 co3 co4 co5 la ca0 ca1 ca2 ca3 ca4 ca5 cr10 cr11 cr12 cr13 cr14 cr15 cr20 cr21 cr22 cr23 cr24 cr25 k_2 k_3 k_6; have K := Dk.trans ((Dk.refl _).drew) (.below hb); have Bo_8 := Lib.hid (show Bk _ _ _ #[.bool false, .slice none 0 0, .int .i64 0, .bool false, .slice none 0 0, .int .i64 0] from (Bo_0.out.drew).below hb); have Ba_9 := Lib.hid (show Bk _ _ _ #[.bool u.lo.b, .slice u.lo.A u.lo.n u.lo.c, .int .i64 (inner f g bits i).lo.x, .bool u.hi.b, .slice u.hi.A u.hi.n u.hi.c, .int .i64 (inner f g bits i).hi.x] from (Ba_0.out.drew).below hb); have HB_10 := Lib.hid (below_tr (below_dr HB_0.out) hb); clear hb; have S1_11 := Lib.hid (SA.out.dk K); have S2_12 := Lib.hid (SB.out.dk K); have SU_13 := Lib.hid (SU.out.dk K); clear K Bo_0 Ba_0 HB_0 SA SB SU; have SP_14 := Lib.hid hp; clear hp; have lo := Bo_8.out.lt; obtain ⟨co0, co1, co2, co3, co4, co5⟩ := Bo_8.out.cells6; have la := Ba_9.out.lt; obtain ⟨ca0, ca1, ca2, ca3, ca4, ca5⟩ := Ba_9.out.cells6; have cr10 : w_7.cell? ⟨A1, o1 + i * 6, none⟩ = some (.bool s.lo.b) := (HB_10.out.cell (p := ⟨A1, o1 + i * 6, none⟩) hl1).trans X0.out; have cr11 : w_7.cell? ⟨A1, o1 + i * 6 + 1, none⟩ = some (.slice s.lo.A s.lo.n s.lo.c) := (HB_10.out.cell (p := ⟨A1, o1 + i * 6 + 1, none⟩) hl1).trans X1.out; have cr12 : w_7.cell? ⟨A1, o1 + i * 6 + 2, none⟩ = some (.int .i64 (f i).lo.x) := (HB_10.out.cell (p := ⟨A1, o1 + i * 6 + 2, none⟩) hl1).trans X2.out; have cr13 : w_7.cell? ⟨A1, o1 + i * 6 + 3, none⟩ = some (.bool s.hi.b) := (HB_10.out.cell (p := ⟨A1, o1 + i * 6 + 3, none⟩) hl1).trans X3.out; have cr14 : w_7.cell? ⟨A1, o1 + i * 6 + 4, none⟩ = some (.slice s.hi.A s.hi.n s.hi.c) := (HB_10.out.cell (p := ⟨A1, o1 + i * 6 + 4, none⟩) hl1).trans X4.out; have cr15 : w_7.cell? ⟨A1, o1 + i * 6 + 5, none⟩ = some (.int .i64 (f i).hi.x) := (HB_10.out.cell (p := ⟨A1, o1 + i * 6 + 5, none⟩) hl1).trans X5.out; have cr20 : w_7.cell? ⟨A2, o2 + i * 6, none⟩ = some (.bool t.lo.b) := (HB_10.out.cell (p := ⟨A2, o2 + i * 6, none⟩) hl2).trans Y0.out; have cr21 : w_7.cell? ⟨A2, o2 + i * 6 + 1, none⟩ = some (.slice t.lo.A t.lo.n t.lo.c) := (HB_10.out.cell (p := ⟨A2, o2 + i * 6 + 1, none⟩) hl2).trans Y1.out; have cr22 : w_7.cell? ⟨A2, o2 + i * 6 + 2, none⟩ = some (.int .i64 (g i).lo.x) := (HB_10.out.cell (p := ⟨A2, o2 + i * 6 + 2, none⟩) hl2).trans Y2.out; have cr23 : w_7.cell? ⟨A2, o2 + i * 6 + 3, none⟩ = some (.bool t.hi.b) := (HB_10.out.cell (p := ⟨A2, o2 + i * 6 + 3, none⟩) hl2).trans Y3.out; have cr24 : w_7.cell? ⟨A2, o2 + i * 6 + 4, none⟩ = some (.slice t.hi.A t.hi.n t.hi.c) := (HB_10.out.cell (p := ⟨A2, o2 + i * 6 + 4, none⟩) hl2).trans Y4.out; have cr25 : w_7.cell? ⟨A2, o2 + i * 6 + 5, none⟩ = some (.int .i64 (g i).hi.x) := (HB_10.out.cell (p := ⟨A2, o2 + i * 6 + 5, none⟩) hl2).trans Y5.out; have k_15 : SX1 (w_7) := (hS1 _).2 ⟨(Below.cell (p := ⟨A1, o1 + i * 6, none⟩) HB_10.out hl1).trans X0.out, (Below.cell (p := ⟨A1, o1 + i * 6 + 1, none⟩) HB_10.out hl1).trans X1.out, (Below.cell (p := ⟨A1, o1 + i * 6 + 2, none⟩) HB_10.out hl1).trans X2.out, (Below.cell (p := ⟨A1, o1 + i * 6 + 3, none⟩) HB_10.out hl1).trans X3.out, (Below.cell (p := ⟨A1, o1 + i * 6 + 4, none⟩) HB_10.out hl1).trans X4.out, (Below.cell (p := ⟨A1, o1 + i * 6 + 5, none⟩) HB_10.out hl1).trans X5.out, (Below.cell (p := ⟨A2, o2 + i * 6, none⟩) HB_10.out hl2).trans Y0.out, (Below.cell (p := ⟨A2, o2 + i * 6 + 1, none⟩) HB_10.out hl2).trans Y1.out, (Below.cell (p := ⟨A2, o2 + i * 6 + 2, none⟩) HB_10.out hl2).trans Y2.out, (Below.cell (p := ⟨A2, o2 + i * 6 + 3, none⟩) HB_10.out hl2).trans Y3.out, (Below.cell (p := ⟨A2, o2 + i * 6 + 4, none⟩) HB_10.out hl2).trans Y4.out, (Below.cell (p := ⟨A2, o2 + i * 6 + 5, none⟩) HB_10.out hl2).trans Y5.out⟩; have n_16 := Bo_8.out.lt; have n_17 := Ba_9.out.lt; have k_18 : SX1 (w_7.alloc (.cells #[.bool false, .slice none 0 0, .int .i64 0, .bool false, .slice none 0 0, .int .i64 0] 62)) := (hS1 _).2 ⟨(Below.cell (p := ⟨A1, o1 + i * 6, none⟩) (below_al HB_10.out _) hl1).trans X0.out, (Below.cell (p := ⟨A1, o1 + i * 6 + 1, none⟩) (below_al HB_10.out _) hl1).trans X1.out, (Below.cell (p := ⟨A1, o1 + i * 6 + 2, none⟩) (below_al HB_10.out _) hl1).trans X2.out, (Below.cell (p := ⟨A1, o1 + i * 6 + 3, none⟩) (below_al HB_10.out _) hl1).trans X3.out, (Below.cell (p := ⟨A1, o1 + i * 6 + 4, none⟩) (below_al HB_10.out _) hl1).trans X4.out, (Below.cell (p := ⟨A1, o1 + i * 6 + 5, none⟩) (below_al HB_10.out _) hl1).trans X5.out, (Below.cell (p := ⟨A2, o2 + i * 6, none⟩) (below_al HB_10.out _) hl2).trans Y0.out, (Below.cell (p := ⟨A2, o2 + i * 6 + 1, none⟩) (below_al HB_10.out _) hl2).trans Y1.out, (Below.cell (p := ⟨A2, o2 + i * 6 + 2, none⟩) (below_al HB_10.out _) hl2).trans Y2.out, (Below.cell (p := ⟨A2, o2 + i * 6 + 3, none⟩) (below_al HB_10.out _) hl2).trans Y3.out, (Below.cell (p := ⟨A2, o2 + i * 6 + 4, none⟩) (below_al HB_10.out _) hl2).trans Y4.out, (Below.cell (p := ⟨A2, o2 + i * 6 + 5, none⟩) (below_al HB_10.out _) hl2).trans Y5.out⟩; have k_19 : SX1 (w_7.alloc (.cells #[.bool p.lo.b, .slice p.lo.A p.lo.n p.lo.c, .int .i64 ((f i).mul (g i) bits).lo.x, .bool p.hi.b, .slice p.hi.A p.hi.n p.hi.c, .int .i64 ((f i).mul (g i) bits).hi.x] 62)) := (hS1 _).2 ⟨(Below.cell (p := ⟨A1, o1 + i * 6, none⟩) (below_al HB_10.out _) hl1).trans X0.out, (Below.cell (p := ⟨A1, o1 + i * 6 + 1, none⟩) (below_al HB_10.out _) hl1).trans X1.out, (Below.cell (p := ⟨A1, o1 + i * 6 + 2, none⟩) (below_al HB_10.out _) hl1).trans X2.out, (Below.cell (p := ⟨A1, o1 + i * 6 + 3, none⟩) (below_al HB_10.out _) hl1).trans X3.out, (Below.cell (p := ⟨A1, o1 + i * 6 + 4, none⟩) (below_al HB_10.out _) hl1).trans X4.out, (Below.cell (p := ⟨A1, o1 + i * 6 + 5, none⟩) (below_al HB_10.out _) hl1).trans X5.out, (Below.cell (p := ⟨A2, o2 + i * 6, none⟩) (below_al HB_10.out _) hl2).trans Y0.out, (Below.cell (p := ⟨A2, o2 + i * 6 + 1, none⟩) (below_al HB_10.out _) hl2).trans Y1.out, (Below.cell (p := ⟨A2, o2 + i * 6 + 2, none⟩) (below_al HB_10.out _) hl2).trans Y2.out, (Below.cell (p := ⟨A2, o2 + i * 6 + 3, none⟩) (below_al HB_10.out _) hl2).trans Y3.out, (Below.cell (p := ⟨A2, o2 + i * 6 + 4, none⟩) (below_al HB_10.out _) hl2).trans Y4.out, (Below.cell (p := ⟨A2, o2 + i * 6 + 5, none⟩) (below_al HB_10.out _) hl2).trans Y5.out⟩)
           | (have _ := tok_5; have n_21 := Bo_0.out.lt; have n_22 := Ba_0.out.lt; skip; go_at_call 37; clear tok_5; (with_reducible refine (smul_any ((wr.alloc (.cells #[.bool false, .slice none 0 0, .int .i64 0, .bool false, .slice none 0 0, .int .i64 0] 62)).drew) s t (f i) (g i) bits E T E2 T2 (SA.out.dk (((Dk.refl _).alloc _).drew)) (SB.out.dk (((Dk.refl _).alloc _).drew)) Lf.out Lg.out e1 hb2 hb3 (HT.out.below (below_dr (below_al HB_0.out _)))).mono ?_); rintro e w_23 ⟨⟨p, rfl, hp⟩, hb⟩; clear lo co0 co1 co2 co3 co4 co5 la ca0 ca1 ca2 ca3 ca4 ca5 cr10 cr11 cr12 cr13 cr14 cr15 cr20 cr21 cr22 cr23 cr24 cr25 k_2 k_3 k_6; have K := Dk.trans (((Dk.refl _).alloc _).drew) (.below hb); have Bo_24 := Lib.hid (show Bk _ _ _ #[.bool false, .slice none 0 0, .int .i64 0, .bool false, .slice none 0 0, .int .i64 0] from ((Bo_0.out.alloc _).drew).below hb); have Ba_25 := Lib.hid (show Bk _ _ _ #[.bool u.lo.b, .slice u.lo.A u.lo.n u.lo.c, .int .i64 (inner f g bits i).lo.x, .bool u.hi.b, .slice u.hi.A u.hi.n u.hi.c, .int .i64 (inner f g bits i).hi.x] from ((Ba_0.out.alloc _).drew).below hb); have Bp_26 := Lib.hid (show Bk _ _ _ #[.bool false, .slice none 0 0, .int .i64 0, .bool false, .slice none 0 0, .int .i64 0] from ((Bk.new _ 62 #[.bool false, .slice none 0 0, .int .i64 0, .bool false, .slice none 0 0, .int .i64 0]).drew).below hb); have HB_27 := Lib.hid (below_tr (below_dr (below_al HB_0.out _)) hb); clear hb; have S1_28 := Lib.hid (SA.out.dk K); have S2_29 := Lib.hid (SB.out.dk K); have SU_30 := Lib.hid (SU.out.dk K); clear K Bo_0 Ba_0 HB_0 SA SB SU; have SP_31 := Lib.hid hp; clear hp; have lo := Bo_24.out.lt; obtain ⟨co0, co1, co2, co3, co4, co5⟩ := Bo_24.out.cells6; have la := Ba_25.out.lt; obtain ⟨ca0, ca1, ca2, ca3, ca4, ca5⟩ := Ba_25.out.cells6; have lp := Bp_26.out.lt; obtain ⟨cp0, cp1, cp2, cp3, cp4, cp5⟩ := Bp_26.out.cells6; have fp0 := Bp_26.out.free 0; have fp1 := Bp_26.out.free 1; have fp2 := Bp_26.out.free 2; have fp3 := Bp_26.out.free 3; have fp4 := Bp_26.out.free 4; have fp5 := Bp_26.out.free 5; have cr10 : w_23.cell? ⟨A1, o1 + i * 6, none⟩ = some (.bool s.lo.b) := (HB_27.out.cell (p := ⟨A1, o1 + i * 6, none⟩) hl1).trans X0.out; have cr11 : w_23.cell? ⟨A1, o1 + i * 6 + 1, none⟩ = some (.slice s.lo.A s.lo.n s.lo.c) := (HB_27.out.cell (p := ⟨A1, o1 + i * 6 + 1, none⟩) hl1).trans X1.out; have cr12 : w_23.cell? ⟨A1, o1 + i * 6 + 2, none⟩ = some (.int .i64 (f i).lo.x) := (HB_27.out.cell (p := ⟨A1, o1 + i * 6 + 2, none⟩) hl1).trans X2.out; have cr13 : w_23.cell? ⟨A1, o1 + i * 6 + 3, none⟩ = some (.bool s.hi.b) := (HB_27.out.cell (p := ⟨A1, o1 + i * 6 + 3, none⟩) hl1).trans X3.out; have cr14 : w_23.cell? ⟨A1, o1 + i * 6 + 4, none⟩ = some (.slice s.hi.A s.hi.n s.hi.c) := (HB_27.out.cell (p := ⟨A1, o1 + i * 6 + 4, none⟩) hl1).trans X4.out; have cr15 : w_23.cell? ⟨A1, o1 + i * 6 + 5, none⟩ = some (.int .i64 (f i).hi.x) := (HB_27.out.cell (p := ⟨A1, o1 + i * 6 + 5, none⟩) hl1).trans X5.out; have cr20 : w_23.cell? ⟨A2, o2 + i * 6, none⟩ = some (.bool t.lo.b) := (HB_27.out.cell (p := ⟨A2, o2 + i * 6, none⟩) hl2).trans Y0.out; have cr21 : w_23.cell? ⟨A2, o2 + i * 6 + 1, none⟩ = some (.slice t.lo.A t.lo.n t.lo.c) := (HB_27.out.cell (p := ⟨A2, o2 + i * 6 + 1, none⟩) hl2).trans Y1.out; have cr22 : w_23.cell? ⟨A2, o2 + i * 6 + 2, none⟩ = some (.int .i64 (g i).lo.x) := (HB_27.out.cell (p := ⟨A2, o2 + i * 6 + 2, none⟩) hl2).trans Y2.out; have cr23 : w_23.cell? ⟨A2, o2 + i * 6 + 3, none⟩ = some (.bool t.hi.b) := (HB_27.out.cell (p := ⟨A2, o2 + i * 6 + 3, none⟩) hl2).trans Y3.out; have cr24 : w_23.cell? ⟨A2, o2 + i * 6 + 4, none⟩ = some (.slice t.hi.A t.hi.n t.hi.c) := (HB_27.out.cell (p := ⟨A2, o2 + i * 6 + 4, none⟩) hl2).trans Y4.out; have cr25 : w_23.cell? ⟨A2, o2 + i * 6 + 5, none⟩ = some (.int .i64 (g i).hi.x) := (HB_27.out.cell (p := ⟨A2, o2 + i * 6 + 5, none⟩) hl2).trans Y5.out; have k_32 : SX1 (w_23) := (hS1 _).2 ⟨(Below.cell (p := ⟨A1, o1 + i * 6, none⟩) HB_27.out hl1).trans X0.out, (Below.cell (p := ⟨A1, o1 + i * 6 + 1, none⟩) HB_27.out hl1).trans X1.out, (Below.cell (p := ⟨A1, o1 + i * 6 + 2, none⟩) HB_27.out hl1).trans X2.out, (Below.cell (p := ⟨A1, o1 + i * 6 + 3, none⟩) HB_27.out hl1).trans X3.out, (Below.cell (p := ⟨A1, o1 + i * 6 + 4, none⟩) HB_27.out hl1).trans X4.out, (Below.cell (p := ⟨A1, o1 + i * 6 + 5, none⟩) HB_27.out hl1).trans X5.out, (Below.cell (p := ⟨A2, o2 + i * 6, none⟩) HB_27.out hl2).trans Y0.out, (Below.cell (p := ⟨A2, o2 + i * 6 + 1, none⟩) HB_27.out hl2).trans Y1.out, (Below.cell (p := ⟨A2, o2 + i * 6 + 2, none⟩) HB_27.out hl2).trans Y2.out, (Below.cell (p := ⟨A2, o2 + i * 6 + 3, none⟩) HB_27.out hl2).trans Y3.out, (Below.cell (p := ⟨A2, o2 + i * 6 + 4, none⟩) HB_27.out hl2).trans Y4.out, (Below.cell (p := ⟨A2, o2 + i * 6 + 5, none⟩) HB_27.out hl2).trans Y5.out⟩; have y0 := HB_27.out.size; have k_33 : SX1 ((((((w_23.setCell ⟨wr.heap.size, 0, none⟩ (.bool p.lo.b)).setCell ⟨wr.heap.size, 1, none⟩ (.slice p.lo.A p.lo.n p.lo.c)).setCell ⟨wr.heap.size, 2, none⟩ (.int .i64 ((f i).mul (g i) bits).lo.x)).setCell ⟨wr.heap.size, 3, none⟩ (.bool p.hi.b)).setCell ⟨wr.heap.size, 4, none⟩ (.slice p.hi.A p.hi.n p.hi.c)).setCell ⟨wr.heap.size, 5, none⟩ (.int .i64 ((f i).mul (g i) bits).hi.x)) := (hS1 _).2 ⟨(Below.cell (p := ⟨A1, o1 + i * 6, none⟩) (below_st (below_st (below_st (below_st (below_st (below_st HB_27.out 0 (by omega) (.bool p.lo.b)) 1 (by omega) (.slice p.lo.A p.lo.n p.lo.c)) 2 (by omega) (.int .i64 ((f i).mul (g i) bits).lo.x)) 3 (by omega) (.bool p.hi.b)) 4 (by omega) (.slice p.hi.A p.hi.n p.hi.c)) 5 (by omega) (.int .i64 ((f i).mul (g i) bits).hi.x)) hl1).trans X0.out, (Below.cell (p := ⟨A1, o1 + i * 6 + 1, none⟩) (below_st (below_st (below_st (below_st (below_st (below_st HB_27.out 0 (by omega) (.bool p.lo.b)) 1 (by omega) (.slice p.lo.A p.lo.n p.lo.c)) 2 (by omega) (.int .i64 ((f i).mul (g i) bits).lo.x)) 3 (by omega) (.bool p.hi.b)) 4 (by omega) (.slice p.hi.A p.hi.n p.hi.c)) 5 (by omega) (.int .i64 ((f i).mul (g i) bits).hi.x)) hl1).trans X1.out, (Below.cell (p := ⟨A1, o1 + i * 6 + 2, none⟩) (below_st (below_st (below_st (below_st (below_st (below_st HB_27.out 0 (by omega) (.bool p.lo.b)) 1 (by omega) (.slice p.lo.A p.lo.n p.lo.c)) 2 (by omega) (.int .i64 ((f i).mul (g i) bits).lo.x)) 3 (by omega) (.bool p.hi.b)) 4 (by omega) (.slice p.hi.A p.hi.n p.hi.c)) 5 (by omega) (.int .i64 ((f i).mul (g i) bits).hi.x)) hl1).trans X2.out, (Below.cell (p := ⟨A1, o1 + i * 6 + 3, none⟩) (below_st (below_st (below_st (below_st (below_st (below_st HB_27.out 0 (by omega) (.bool p.lo.b)) 1 (by omega) (.slice p.lo.A p.lo.n p.lo.c)) 2 (by omega) (.int .i64 ((f i).mul (g i) bits).lo.x)) 3 (by omega) (.bool p.hi.b)) 4 (by omega) (.slice p.hi.A p.hi.n p.hi.c)) 5 (by omega) (.int .i64 ((f i).mul (g i) bits).hi.x)) hl1).trans X3.out, (Below.cell (p := ⟨A1, o1 + i * 6 + 4, none⟩) (below_st (below_st (below_st (below_st (below_st (below_st HB_27.out 0 (by omega) (.bool p.lo.b)) 1 (by omega) (.slice p.lo.A p.lo.n p.lo.c)) 2 (by omega) (.int .i64 ((f i).mul (g i) bits).lo.x)) 3 (by omega) (.bool p.hi.b)) 4 (by omega) (.slice p.hi.A p.hi.n p.hi.c)) 5 (by omega) (.int .i64 ((f i).mul (g i) bits).hi.x)) hl1).trans X4.out, (Below.cell (p := ⟨A1, o1 + i * 6 + 5, none⟩) (below_st (below_st (below_st (below_st (below_st (below_st HB_27.out 0 (by omega) (.bool p.lo.b)) 1 (by omega) (.slice p.lo.A p.lo.n p.lo.c)) 2 (by omega) (.int .i64 ((f i).mul (g i) bits).lo.x)) 3 (by omega) (.bool p.hi.b)) 4 (by omega) (.slice p.hi.A p.hi.n p.hi.c)) 5 (by omega) (.int .i64 ((f i).mul (g i) bits).hi.x)) hl1).trans X5.out, (Below.cell (p := ⟨A2, o2 + i * 6, none⟩) (below_st (below_st (below_st (below_st (below_st (below_st HB_27.out 0 (by omega) (.bool p.lo.b)) 1 (by omega) (.slice p.lo.A p.lo.n p.lo.c)) 2 (by omega) (.int .i64 ((f i).mul (g i) bits).lo.x)) 3 (by omega) (.bool p.hi.b)) 4 (by omega) (.slice p.hi.A p.hi.n p.hi.c)) 5 (by omega) (.int .i64 ((f i).mul (g i) bits).hi.x)) hl2).trans Y0.out, (Below.cell (p := ⟨A2, o2 + i * 6 + 1, none⟩) (below_st (below_st (below_st (below_st (below_st (below_st HB_27.out 0 (by omega) (.bool p.lo.b)) 1 (by omega) (.slice p.lo.A p.lo.n p.lo.c)) 2 (by omega) (.int .i64 ((f i).mul (g i) bits).lo.x)) 3 (by omega) (.bool p.hi.b)) 4 (by omega) (.slice p.hi.A p.hi.n p.hi.c)) 5 (by omega) (.int .i64 ((f i).mul (g i) bits).hi.x)) hl2).trans Y1.out, (Below.cell (p := ⟨A2, o2 + i * 6 + 2, none⟩) (below_st (below_st (below_st (below_st (below_st (below_st HB_27.out 0 (by omega) (.bool p.lo.b)) 1 (by omega) (.slice p.lo.A p.lo.n p.lo.c)) 2 (by omega) (.int .i64 ((f i).mul (g i) bits).lo.x)) 3 (by omega) (.bool p.hi.b)) 4 (by omega) (.slice p.hi.A p.hi.n p.hi.c)) 5 (by omega) (.int .i64 ((f i).mul (g i) bits).hi.x)) hl2).trans Y2.out, (Below.cell (p := ⟨A2, o2 + i * 6 + 3, none⟩) (below_st (below_st (below_st (below_st (below_st (below_st HB_27.out 0 (by omega) (.bool p.lo.b)) 1 (by omega) (.slice p.lo.A p.lo.n p.lo.c)) 2 (by omega) (.int .i64 ((f i).mul (g i) bits).lo.x)) 3 (by omega) (.bool p.hi.b)) 4 (by omega) (.slice p.hi.A p.hi.n p.hi.c)) 5 (by omega) (.int .i64 ((f i).mul (g i) bits).hi.x)) hl2).trans Y3.out, (Below.cell (p := ⟨A2, o2 + i * 6 + 4, none⟩) (below_st (below_st (below_st (below_st (below_st (below_st HB_27.out 0 (by omega) (.bool p.lo.b)) 1 (by omega) (.slice p.lo.A p.lo.n p.lo.c)) 2 (by omega) (.int .i64 ((f i).mul (g i) bits).lo.x)) 3 (by omega) (.bool p.hi.b)) 4 (by omega) (.slice p.hi.A p.hi.n p.hi.c)) 5 (by omega) (.int .i64 ((f i).mul (g i) bits).hi.x)) hl2).trans Y4.out, (Below.cell (p := ⟨A2, o2 + i * 6 + 5, none⟩) (below_st (below_st (below_st (below_st (below_st (below_st HB_27.out 0 (by omega) (.bool p.lo.b)) 1 (by omega) (.slice p.lo.A p.lo.n p.lo.c)) 2 (by omega) (.int .i64 ((f i).mul (g i) bits).lo.x)) 3 (by omega) (.bool p.hi.b)) 4 (by omega) (.slice p.hi.A p.hi.n p.hi.c)) 5 (by omega) (.int .i64 ((f i).mul (g i) bits).hi.x)) hl2).trans Y5.out⟩; clear y0))
        all_goals (go_wp2_with fail; go_meet; first | (have y0 := Bo_8.out.lt; have y1 := Ba_9.out.lt; have y2 := HB_10.out.size; exact ⟨w_7.heap.size, p, rfl, rfl, (by omega), (by omega), (Bk.new _ 62 #[.bool p.lo.b, .slice p.lo.A p.lo.n p.lo.c, .int .i64 ((f i).mul (g i) bits).lo.x, .bool p.hi.b, .slice p.hi.A p.hi.n p.hi.c, .int .i64 ((f i).mul (g i) bits).hi.x]), (Bo_8.out.alloc _), (Ba_9.out.alloc _), (below_al HB_10.out _), (S1_11.out.dk ((Dk.refl _).alloc _)), (S2_12.out.dk ((Dk.refl _).alloc _)), (SU_13.out.dk ((Dk.refl _).alloc _)), (SP_14.out.dk ((Dk.refl _).alloc _))⟩) | (have y0 := Bo_24.out.lt; have y1 := Ba_25.out.lt; have y2 := Bp_26.out.lt; have y3 := HB_27.out.size; exact ⟨wr.heap.size, p, rfl, rfl, (by omega), (by omega), ((((((Bp_26.out.set 0 (.bool p.lo.b)).set 1 (.slice p.lo.A p.lo.n p.lo.c)).set 2 (.int .i64 ((f i).mul (g i) bits).lo.x)).set 3 (.bool p.hi.b)).set 4 (.slice p.hi.A p.hi.n p.hi.c)).set 5 (.int .i64 ((f i).mul (g i) bits).hi.x)), ((((((Bo_24.out.ne (by omega) 0 (.bool p.lo.b)).ne (by omega) 1 (.slice p.lo.A p.lo.n p.lo.c)).ne (by omega) 2 (.int .i64 ((f i).mul (g i) bits).lo.x)).ne (by omega) 3 (.bool p.hi.b)).ne (by omega) 4 (.slice p.hi.A p.hi.n p.hi.c)).ne (by omega) 5 (.int .i64 ((f i).mul (g i) bits).hi.x)), ((((((Ba_25.out.ne (by omega) 0 (.bool p.lo.b)).ne (by omega) 1 (.slice p.lo.A p.lo.n p.lo.c)).ne (by omega) 2 (.int .i64 ((f i).mul (g i) bits).lo.x)).ne (by omega) 3 (.bool p.hi.b)).ne (by omega) 4 (.slice p.hi.A p.hi.n p.hi.c)).ne (by omega) 5 (.int .i64 ((f i).mul (g i) bits).hi.x)), (below_st (below_st (below_st (below_st (below_st (below_st HB_27.out 0 (by omega) (.bool p.lo.b)) 1 (by omega) (.slice p.lo.A p.lo.n p.lo.c)) 2 (by omega) (.int .i64 ((f i).mul (g i) bits).lo.x)) 3 (by omega) (.bool p.hi.b)) 4 (by omega) (.slice p.hi.A p.hi.n p.hi.c)) 5 (by omega) (.int .i64 ((f i).mul (g i) bits).hi.x)), (S1_28.out.dk (((((((Dk.refl _).set (cs := #[.bool false, .slice none 0 0, .int .i64 0, .bool false, .slice none 0 0, .int .i64 0]) Bp_26.out 0 (by intro _ hh; cases hh) (.bool p.lo.b)).set (cs := #[.bool p.lo.b, .slice none 0 0, .int .i64 0, .bool false, .slice none 0 0, .int .i64 0]) (Bp_26.out.set 0 (.bool p.lo.b)) 1 (by intro _ hh; cases hh) (.slice p.lo.A p.lo.n p.lo.c)).set (cs := #[.bool p.lo.b, .slice p.lo.A p.lo.n p.lo.c, .int .i64 0, .bool false, .slice none 0 0, .int .i64 0]) ((Bp_26.out.set 0 (.bool p.lo.b)).set 1 (.slice p.lo.A p.lo.n p.lo.c)) 2 (by intro _ hh; cases hh) (.int .i64 ((f i).mul (g i) bits).lo.x)).set (cs := #[.bool p.lo.b, .slice p.lo.A p.lo.n p.lo.c, .int .i64 ((f i).mul (g i) bits).lo.x, .bool false, .slice none 0 0, .int .i64 0]) (((Bp_26.out.set 0 (.bool p.lo.b)).set 1 (.slice p.lo.A p.lo.n p.lo.c)).set 2 (.int .i64 ((f i).mul (g i) bits).lo.x)) 3 (by intro _ hh; cases hh) (.bool p.hi.b)).set (cs := #[.bool p.lo.b, .slice p.lo.A p.lo.n p.lo.c, .int .i64 ((f i).mul (g i) bits).lo.x, .bool p.hi.b, .slice none 0 0, .int .i64 0]) ((((Bp_26.out.set 0 (.bool p.lo.b)).set 1 (.slice p.lo.A p.lo.n p.lo.c)).set 2 (.int .i64 ((f i).mul (g i) bits).lo.x)).set 3 (.bool p.hi.b)) 4 (by intro _ hh; cases hh) (.slice p.hi.A p.hi.n p.hi.c)).set (cs := #[.bool p.lo.b, .slice p.lo.A p.lo.n p.lo.c, .int .i64 ((f i).mul (g i) bits).lo.x, .bool p.hi.b, .slice p.hi.A p.hi.n p.hi.c, .int .i64 0]) (((((Bp_26.out.set 0 (.bool p.lo.b)).set 1 (.slice p.lo.A p.lo.n p.lo.c)).set 2 (.int .i64 ((f i).mul (g i) bits).lo.x)).set 3 (.bool p.hi.b)).set 4 (.slice p.hi.A p.hi.n p.hi.c)) 5 (by intro _ hh; cases hh) (.int .i64 ((f i).mul (g i) bits).hi.x))), (S2_29.out.dk (((((((Dk.refl _).set (cs := #[.bool false, .slice none 0 0, .int .i64 0, .bool false, .slice none 0 0, .int .i64 0]) Bp_26.out 0 (by intro _ hh; cases hh) (.bool p.lo.b)).set (cs := #[.bool p.lo.b, .slice none 0 0, .int .i64 0, .bool false, .slice none 0 0, .int .i64 0]) (Bp_26.out.set 0 (.bool p.lo.b)) 1 (by intro _ hh; cases hh) (.slice p.lo.A p.lo.n p.lo.c)).set (cs := #[.bool p.lo.b, .slice p.lo.A p.lo.n p.lo.c, .int .i64 0, .bool false, .slice none 0 0, .int .i64 0]) ((Bp_26.out.set 0 (.bool p.lo.b)).set 1 (.slice p.lo.A p.lo.n p.lo.c)) 2 (by intro _ hh; cases hh) (.int .i64 ((f i).mul (g i) bits).lo.x)).set (cs := #[.bool p.lo.b, .slice p.lo.A p.lo.n p.lo.c, .int .i64 ((f i).mul (g i) bits).lo.x, .bool false, .slice none 0 0, .int .i64 0]) (((Bp_26.out.set 0 (.bool p.lo.b)).set 1 (.slice p.lo.A p.lo.n p.lo.c)).set 2 (.int .i64 ((f i).mul (g i) bits).lo.x)) 3 (by intro _ hh; cases hh) (.bool p.hi.b)).set (cs := #[.bool p.lo.b, .slice p.lo.A p.lo.n p.lo.c, .int .i64 ((f i).mul (g i) bits).lo.x, .bool p.hi.b, .slice none 0 0, .int .i64 0]) ((((Bp_26.out.set 0 (.bool p.lo.b)).set 1 (.slice p.lo.A p.lo.n p.lo.c)).set 2 (.int .i64 ((f i).mul (g i) bits).lo.x)).set 3 (.bool p.hi.b)) 4 (by intro _ hh; cases hh) (.slice p.hi.A p.hi.n p.hi.c)).set (cs := #[.bool p.lo.b, .slice p.lo.A p.lo.n p.lo.c, .int .i64 ((f i).mul (g i) bits).lo.x, .bool p.hi.b, .slice p.hi.A p.hi.n p.hi.c, .int .i64 0]) (((((Bp_26.out.set 0 (.bool p.lo.b)).set 1 (.slice p.lo.A p.lo.n p.lo.c)).set 2 (.int .i64 ((f i).mul (g i) bits).lo.x)).set 3 (.bool p.hi.b)).set 4 (.slice p.hi.A p.hi.n p.hi.c)) 5 (by intro _ hh; cases hh) (.int .i64 ((f i).mul (g i) bits).hi.x))), (SU_30.out.dk (((((((Dk.refl _).set (cs := #[.bool false, .slice none 0 0, .int .i64 0, .bool false, .slice none 0 0, .int .i64 0]) Bp_26.out 0 (by intro _ hh; cases hh) (.bool p.lo.b)).set (cs := #[.bool p.lo.b, .slice none 0 0, .int .i64 0, .bool false, .slice none 0 0, .int .i64 0]) (Bp_26.out.set 0 (.bool p.lo.b)) 1 (by intro _ hh; cases hh) (.slice p.lo.A p.lo.n p.lo.c)).set (cs := #[.bool p.lo.b, .slice p.lo.A p.lo.n p.lo.c, .int .i64 0, .bool false, .slice none 0 0, .int .i64 0]) ((Bp_26.out.set 0 (.bool p.lo.b)).set 1 (.slice p.lo.A p.lo.n p.lo.c)) 2 (by intro _ hh; cases hh) (.int .i64 ((f i).mul (g i) bits).lo.x)).set (cs := #[.bool p.lo.b, .slice p.lo.A p.lo.n p.lo.c, .int .i64 ((f i).mul (g i) bits).lo.x, .bool false, .slice none 0 0, .int .i64 0]) (((Bp_26.out.set 0 (.bool p.lo.b)).set 1 (.slice p.lo.A p.lo.n p.lo.c)).set 2 (.int .i64 ((f i).mul (g i) bits).lo.x)) 3 (by intro _ hh; cases hh) (.bool p.hi.b)).set (cs := #[.bool p.lo.b, .slice p.lo.A p.lo.n p.lo.c, .int .i64 ((f i).mul (g i) bits).lo.x, .bool p.hi.b, .slice none 0 0, .int .i64 0]) ((((Bp_26.out.set 0 (.bool p.lo.b)).set 1 (.slice p.lo.A p.lo.n p.lo.c)).set 2 (.int .i64 ((f i).mul (g i) bits).lo.x)).set 3 (.bool p.hi.b)) 4 (by intro _ hh; cases hh) (.slice p.hi.A p.hi.n p.hi.c)).set (cs := #[.bool p.lo.b, .slice p.lo.A p.lo.n p.lo.c, .int .i64 ((f i).mul (g i) bits).lo.x, .bool p.hi.b, .slice p.hi.A p.hi.n p.hi.c, .int .i64 0]) (((((Bp_26.out.set 0 (.bool p.lo.b)).set 1 (.slice p.lo.A p.lo.n p.lo.c)).set 2 (.int .i64 ((f i).mul (g i) bits).lo.x)).set 3 (.bool p.hi.b)).set 4 (.slice p.hi.A p.hi.n p.hi.c)) 5 (by intro _ hh; cases hh) (.int .i64 ((f i).mul (g i) bits).hi.x))), (SP_31.out.dk (((((((Dk.refl _).set (cs := #[.bool false, .slice none 0 0, .int .i64 0, .bool false, .slice none 0 0, .int .i64 0]) Bp_26.out 0 (by intro _ hh; cases hh) (.bool p.lo.b)).set (cs := #[.bool p.lo.b, .slice none 0 0, .int .i64 0, .bool false, .slice none 0 0, .int .i64 0]) (Bp_26.out.set 0 (.bool p.lo.b)) 1 (by intro _ hh; cases hh) (.slice p.lo.A p.lo.n p.lo.c)).set (cs := #[.bool p.lo.b, .slice p.lo.A p.lo.n p.lo.c, .int .i64 0, .bool false, .slice none 0 0, .int .i64 0]) ((Bp_26.out.set 0 (.bool p.lo.b)).set 1 (.slice p.lo.A p.lo.n p.lo.c)) 2 (by intro _ hh; cases hh) (.int .i64 ((f i).mul (g i) bits).lo.x)).set (cs := #[.bool p.lo.b, .slice p.lo.A p.lo.n p.lo.c, .int .i64 ((f i).mul (g i) bits).lo.x, .bool false, .slice none 0 0, .int .i64 0]) (((Bp_26.out.set 0 (.bool p.lo.b)).set 1 (.slice p.lo.A p.lo.n p.lo.c)).set 2 (.int .i64 ((f i).mul (g i) bits).lo.x)) 3 (by intro _ hh; cases hh) (.bool p.hi.b)).set (cs := #[.bool p.lo.b, .slice p.lo.A p.lo.n p.lo.c, .int .i64 ((f i).mul (g i) bits).lo.x, .bool p.hi.b, .slice none 0 0, .int .i64 0]) ((((Bp_26.out.set 0 (.bool p.lo.b)).set 1 (.slice p.lo.A p.lo.n p.lo.c)).set 2 (.int .i64 ((f i).mul (g i) bits).lo.x)).set 3 (.bool p.hi.b)) 4 (by intro _ hh; cases hh) (.slice p.hi.A p.hi.n p.hi.c)).set (cs := #[.bool p.lo.b, .slice p.lo.A p.lo.n p.lo.c, .int .i64 ((f i).mul (g i) bits).lo.x, .bool p.hi.b, .slice p.hi.A p.hi.n p.hi.c, .int .i64 0]) (((((Bp_26.out.set 0 (.bool p.lo.b)).set 1 (.slice p.lo.A p.lo.n p.lo.c)).set 2 (.int .i64 ((f i).mul (g i) bits).lo.x)).set 3 (.bool p.hi.b)).set 4 (.slice p.hi.A p.hi.n p.hi.c)) 5 (by intro _ hh; cases hh) (.int .i64 ((f i).mul (g i) bits).hi.x)))⟩))
      case rest =>
        clear lo co0 co1 co2 co3 co4 co5 la ca0 ca1 ca2 ca3 ca4 ca5 cr10 cr11 cr12 cr13 cr14 cr15 cr20 cr21 cr22 cr23 cr24 cr25
        clear Bo_0 Ba_0 SA SB SU HB_0
        obtain ⟨w_36, rfl⟩ : ∃ x, x = wc := ⟨_, rfl⟩
        obtain ⟨g_1, p, rfl, rfl, nn0, nn1, bz, bo0, bo1, hbel, hf0, hf1, hf2, hf3⟩ := hcut
        have Bo_37 := Lib.hid bo0
        have n_38 := nn0
        have Ba_39 := Lib.hid bo1
        have n_40 := nn1
        have Bp_41 := Lib.hid bz
        have HB_41 := Lib.hid hbel
        have S1_43 := Lib.hid hf0
        have S2_44 := Lib.hid hf1
        have SU_45 := Lib.hid hf2
        have SP_46 := Lib.hid hf3
        clear nn0 nn1 bz bo0 bo1 hbel hf0 hf1 hf2 hf3
        have lo := Bo_37.out.lt
        obtain ⟨co0, co1, co2, co3, co4, co5⟩ := Bo_37.out.cells6
        have la := Ba_39.out.lt
        obtain ⟨ca0, ca1, ca2, ca3, ca4, ca5⟩ := Ba_39.out.cells6
        have lp := Bp_41.out.lt
        obtain ⟨cp0, cp1, cp2, cp3, cp4, cp5⟩ := Bp_41.out.cells6
        have cr10 : w_36.cell? ⟨A1, o1 + i * 6, none⟩ = some (.bool s.lo.b) := (HB_41.out.cell (p := ⟨A1, o1 + i * 6, none⟩) hl1).trans X0.out
        have cr11 : w_36.cell? ⟨A1, o1 + i * 6 + 1, none⟩ = some (.slice s.lo.A s.lo.n s.lo.c) := (HB_41.out.cell (p := ⟨A1, o1 + i * 6 + 1, none⟩) hl1).trans X1.out
        have cr12 : w_36.cell? ⟨A1, o1 + i * 6 + 2, none⟩ = some (.int .i64 (f i).lo.x) := (HB_41.out.cell (p := ⟨A1, o1 + i * 6 + 2, none⟩) hl1).trans X2.out
        have cr13 : w_36.cell? ⟨A1, o1 + i * 6 + 3, none⟩ = some (.bool s.hi.b) := (HB_41.out.cell (p := ⟨A1, o1 + i * 6 + 3, none⟩) hl1).trans X3.out
        have cr14 : w_36.cell? ⟨A1, o1 + i * 6 + 4, none⟩ = some (.slice s.hi.A s.hi.n s.hi.c) := (HB_41.out.cell (p := ⟨A1, o1 + i * 6 + 4, none⟩) hl1).trans X4.out
        have cr15 : w_36.cell? ⟨A1, o1 + i * 6 + 5, none⟩ = some (.int .i64 (f i).hi.x) := (HB_41.out.cell (p := ⟨A1, o1 + i * 6 + 5, none⟩) hl1).trans X5.out
        have cr20 : w_36.cell? ⟨A2, o2 + i * 6, none⟩ = some (.bool t.lo.b) := (HB_41.out.cell (p := ⟨A2, o2 + i * 6, none⟩) hl2).trans Y0.out
        have cr21 : w_36.cell? ⟨A2, o2 + i * 6 + 1, none⟩ = some (.slice t.lo.A t.lo.n t.lo.c) := (HB_41.out.cell (p := ⟨A2, o2 + i * 6 + 1, none⟩) hl2).trans Y1.out
        have cr22 : w_36.cell? ⟨A2, o2 + i * 6 + 2, none⟩ = some (.int .i64 (g i).lo.x) := (HB_41.out.cell (p := ⟨A2, o2 + i * 6 + 2, none⟩) hl2).trans Y2.out
        have cr23 : w_36.cell? ⟨A2, o2 + i * 6 + 3, none⟩ = some (.bool t.hi.b) := (HB_41.out.cell (p := ⟨A2, o2 + i * 6 + 3, none⟩) hl2).trans Y3.out
        have cr24 : w_36.cell? ⟨A2, o2 + i * 6 + 4, none⟩ = some (.slice t.hi.A t.hi.n t.hi.c) := (HB_41.out.cell (p := ⟨A2, o2 + i * 6 + 4, none⟩) hl2).trans Y4.out
        have cr25 : w_36.cell? ⟨A2, o2 + i * 6 + 5, none⟩ = some (.int .i64 (g i).hi.x) := (HB_41.out.cell (p := ⟨A2, o2 + i * 6 + 5, none⟩) hl2).trans Y5.out
        go_wp2_with fail
        refine (sadd_any _ u p (inner f g bits i) ((f i).mul (g i) bits) bits (E + E2) (T + T2 + 1 + 2 * i) SU_45.out SP_46.out LI.out (LM.out.mono (Nat.le_refl _) (by omega)) e2 hb2 hb3 (HT.out.below HB_41.out)).mono ?_
        rintro e w1 ⟨⟨v, rfl, hv⟩, hb⟩
        clear lo co0 co1 co2 co3 co4 co5 la ca0 ca1 ca2 ca3 ca4 ca5 lp cp0 cp1 cp2 cp3 cp4 cp5 cr10 cr11 cr12 cr13 cr14 cr15 cr20 cr21 cr22 cr23 cr24 cr25
        have K := Dk.below hb
        have Bo_47 := Lib.hid (show Bk _ _ _ #[.bool false, .slice none 0 0, .int .i64 0, .bool false, .slice none 0 0, .int .i64 0] from Bo_37.out.below hb)
        have Ba_48 := Lib.hid (show Bk _ _ _ #[.bool u.lo.b, .slice u.lo.A u.lo.n u.lo.c, .int .i64 (inner f g bits i).lo.x, .bool u.hi.b, .slice u.hi.A u.hi.n u.hi.c, .int .i64 (inner f g bits i).hi.x] from Ba_39.out.below hb)
        have Bp_49 := Lib.hid (show Bk _ _ _ #[.bool p.lo.b, .slice p.lo.A p.lo.n p.lo.c, .int .i64 ((f i).mul (g i) bits).lo.x, .bool p.hi.b, .slice p.hi.A p.hi.n p.hi.c, .int .i64 ((f i).mul (g i) bits).hi.x] from Bp_41.out.below hb)
        have HB_50 := Lib.hid (below_tr HB_41.out hb)
        clear hb
        have S1_51 := Lib.hid (S1_43.out.dk K)
        have S2_52 := Lib.hid (S2_44.out.dk K)
        have SU_53 := Lib.hid (SU_45.out.dk K)
        have SP_54 := Lib.hid (SP_46.out.dk K)
        clear K Bo_37 Ba_39 Bp_41 HB_41 S1_43 S2_44 SU_45 SP_46
        have SV_55 := Lib.hid hv
        clear hv
        have lo := Bo_47.out.lt
        obtain ⟨co0, co1, co2, co3, co4, co5⟩ := Bo_47.out.cells6
        have la := Ba_48.out.lt
        obtain ⟨ca0, ca1, ca2, ca3, ca4, ca5⟩ := Ba_48.out.cells6
        have fa0 := Ba_48.out.free 0
        have fa1 := Ba_48.out.free 1
        have fa2 := Ba_48.out.free 2
        have fa3 := Ba_48.out.free 3
        have fa4 := Ba_48.out.free 4
        have fa5 := Ba_48.out.free 5
        have lp := Bp_49.out.lt
        obtain ⟨cp0, cp1, cp2, cp3, cp4, cp5⟩ := Bp_49.out.cells6
        have cr10 : w1.cell? ⟨A1, o1 + i * 6, none⟩ = some (.bool s.lo.b) := (HB_50.out.cell (p := ⟨A1, o1 + i * 6, none⟩) hl1).trans X0.out
        have cr11 : w1.cell? ⟨A1, o1 + i * 6 + 1, none⟩ = some (.slice s.lo.A s.lo.n s.lo.c) := (HB_50.out.cell (p := ⟨A1, o1 + i * 6 + 1, none⟩) hl1).trans X1.out
        have cr12 : w1.cell? ⟨A1, o1 + i * 6 + 2, none⟩ = some (.int .i64 (f i).lo.x) := (HB_50.out.cell (p := ⟨A1, o1 + i * 6 + 2, none⟩) hl1).trans X2.out
        have cr13 : w1.cell? ⟨A1, o1 + i * 6 + 3, none⟩ = some (.bool s.hi.b) := (HB_50.out.cell (p := ⟨A1, o1 + i * 6 + 3, none⟩) hl1).trans X3.out
        have cr14 : w1.cell? ⟨A1, o1 + i * 6 + 4, none⟩ = some (.slice s.hi.A s.hi.n s.hi.c) := (HB_50.out.cell (p := ⟨A1, o1 + i * 6 + 4, none⟩) hl1).trans X4.out
        have cr15 : w1.cell? ⟨A1, o1 + i * 6 + 5, none⟩ = some (.int .i64 (f i).hi.x) := (HB_50.out.cell (p := ⟨A1, o1 + i * 6 + 5, none⟩) hl1).trans X5.out
        have cr20 : w1.cell? ⟨A2, o2 + i * 6, none⟩ = some (.bool t.lo.b) := (HB_50.out.cell (p := ⟨A2, o2 + i * 6, none⟩) hl2).trans Y0.out
        have cr21 : w1.cell? ⟨A2, o2 + i * 6 + 1, none⟩ = some (.slice t.lo.A t.lo.n t.lo.c) := (HB_50.out.cell (p := ⟨A2, o2 + i * 6 + 1, none⟩) hl2).trans Y1.out
        have cr22 : w1.cell? ⟨A2, o2 + i * 6 + 2, none⟩ = some (.int .i64 (g i).lo.x) := (HB_50.out.cell (p := ⟨A2, o2 + i * 6 + 2, none⟩) hl2).trans Y2.out
        have cr23 : w1.cell? ⟨A2, o2 + i * 6 + 3, none⟩ = some (.bool t.hi.b) := (HB_50.out.cell (p := ⟨A2, o2 + i * 6 + 3, none⟩) hl2).trans Y3.out
        have cr24 : w1.cell? ⟨A2, o2 + i * 6 + 4, none⟩ = some (.slice t.hi.A t.hi.n t.hi.c) := (HB_50.out.cell (p := ⟨A2, o2 + i * 6 + 4, none⟩) hl2).trans Y4.out
        have cr25 : w1.cell? ⟨A2, o2 + i * 6 + 5, none⟩ = some (.int .i64 (g i).hi.x) := (HB_50.out.cell (p := ⟨A2, o2 + i * 6 + 5, none⟩) hl2).trans Y5.out
        go_wp2
        go_roundw
        case rel => exact ⟨i + 1, by go_num, hi2, Lib.hid ⟨v, ((((((Bo_47.out.ne (by have := Bo_47.out.lt; have := Ba_48.out.lt; have := Bp_49.out.lt; have := HB_50.out.size; omega) 0 (.bool v.lo.b)).ne (by have := Bo_47.out.lt; have := Ba_48.out.lt; have := Bp_49.out.lt; have := HB_50.out.size; omega) 1 (.slice v.lo.A v.lo.n v.lo.c)).ne (by have := Bo_47.out.lt; have := Ba_48.out.lt; have := Bp_49.out.lt; have := HB_50.out.size; omega) 2 (.int .i64 (inner f g bits (i + 1)).lo.x)).ne (by have := Bo_47.out.lt; have := Ba_48.out.lt; have := Bp_49.out.lt; have := HB_50.out.size; omega) 3 (.bool v.hi.b)).ne (by have := Bo_47.out.lt; have := Ba_48.out.lt; have := Bp_49.out.lt; have := HB_50.out.size; omega) 4 (.slice v.hi.A v.hi.n v.hi.c)).ne (by have := Bo_47.out.lt; have := Ba_48.out.lt; have := Bp_49.out.lt; have := HB_50.out.size; omega) 5 (.int .i64 (inner f g bits (i + 1)).hi.x)), ((((((Ba_48.out.set 0 (.bool v.lo.b)).set 1 (.slice v.lo.A v.lo.n v.lo.c)).set 2 (.int .i64 (inner f g bits (i + 1)).lo.x)).set 3 (.bool v.hi.b)).set 4 (.slice v.hi.A v.hi.n v.hi.c)).set 5 (.int .i64 (inner f g bits (i + 1)).hi.x)), (below_st (below_st (below_st (below_st (below_st (below_st HB_50.out 0 (by have := HB_50.out.size; omega) (.bool v.lo.b)) 1 (by have := HB_50.out.size; omega) (.slice v.lo.A v.lo.n v.lo.c)) 2 (by have := HB_50.out.size; omega) (.int .i64 (inner f g bits (i + 1)).lo.x)) 3 (by have := HB_50.out.size; omega) (.bool v.hi.b)) 4 (by have := HB_50.out.size; omega) (.slice v.hi.A v.hi.n v.hi.c)) 5 (by have := HB_50.out.size; omega) (.int .i64 (inner f g bits (i + 1)).hi.x)), (SV_55.out.dk (((((((Dk.refl _).set (cs := #[.bool u.lo.b, .slice u.lo.A u.lo.n u.lo.c, .int .i64 (inner f g bits i).lo.x, .bool u.hi.b, .slice u.hi.A u.hi.n u.hi.c, .int .i64 (inner f g bits i).hi.x]) Ba_48.out 0 (by intro _ hh; cases hh) (.bool v.lo.b)).set (cs := #[.bool v.lo.b, .slice u.lo.A u.lo.n u.lo.c, .int .i64 (inner f g bits i).lo.x, .bool u.hi.b, .slice u.hi.A u.hi.n u.hi.c, .int .i64 (inner f g bits i).hi.x]) (Ba_48.out.set 0 (.bool v.lo.b)) 1 (by intro _ hh; cases hh) (.slice v.lo.A v.lo.n v.lo.c)).set (cs := #[.bool v.lo.b, .slice v.lo.A v.lo.n v.lo.c, .int .i64 (inner f g bits i).lo.x, .bool u.hi.b, .slice u.hi.A u.hi.n u.hi.c, .int .i64 (inner f g bits i).hi.x]) ((Ba_48.out.set 0 (.bool v.lo.b)).set 1 (.slice v.lo.A v.lo.n v.lo.c)) 2 (by intro _ hh; cases hh) (.int .i64 (inner f g bits (i + 1)).lo.x)).set (cs := #[.bool v.lo.b, .slice v.lo.A v.lo.n v.lo.c, .int .i64 (inner f g bits (i + 1)).lo.x, .bool u.hi.b, .slice u.hi.A u.hi.n u.hi.c, .int .i64 (inner f g bits i).hi.x]) (((Ba_48.out.set 0 (.bool v.lo.b)).set 1 (.slice v.lo.A v.lo.n v.lo.c)).set 2 (.int .i64 (inner f g bits (i + 1)).lo.x)) 3 (by intro _ hh; cases hh) (.bool v.hi.b)).set (cs := #[.bool v.lo.b, .slice v.lo.A v.lo.n v.lo.c, .int .i64 (inner f g bits (i + 1)).lo.x, .bool v.hi.b, .slice u.hi.A u.hi.n u.hi.c, .int .i64 (inner f g bits i).hi.x]) ((((Ba_48.out.set 0 (.bool v.lo.b)).set 1 (.slice v.lo.A v.lo.n v.lo.c)).set 2 (.int .i64 (inner f g bits (i + 1)).lo.x)).set 3 (.bool v.hi.b)) 4 (by intro _ hh; cases hh) (.slice v.hi.A v.hi.n v.hi.c)).set (cs := #[.bool v.lo.b, .slice v.lo.A v.lo.n v.lo.c, .int .i64 (inner f g bits (i + 1)).lo.x, .bool v.hi.b, .slice v.hi.A v.hi.n v.hi.c, .int .i64 (inner f g bits i).hi.x]) (((((Ba_48.out.set 0 (.bool v.lo.b)).set 1 (.slice v.lo.A v.lo.n v.lo.c)).set 2 (.int .i64 (inner f g bits (i + 1)).lo.x)).set 3 (.bool v.hi.b)).set 4 (.slice v.hi.A v.hi.n v.hi.c)) 5 (by intro _ hh; cases hh) (.int .i64 (inner f g bits (i + 1)).hi.x)))⟩⟩
        case measure => simp only [intOf]; omega
    · obtain rfl : i = n := by omega
      obtain ⟨u, bo, ba, hbel, hru⟩ := Hr.out
      have Bo_0 := Lib.hid bo
      have Ba_0 := Lib.hid ba
      have HB_0 := Lib.hid hbel
      have SU := Lib.hid hru
      clear hru bo ba hbel hi2
      have lo := Bo_0.out.lt
      obtain ⟨co0, co1, co2, co3, co4, co5⟩ := Bo_0.out.cells6
      have fo0 := Bo_0.out.free 0
      have fo1 := Bo_0.out.free 1
      have fo2 := Bo_0.out.free 2
      have fo3 := Bo_0.out.free 3
      have fo4 := Bo_0.out.free 4
      have fo5 := Bo_0.out.free 5
      have la := Ba_0.out.lt
      obtain ⟨ca0, ca1, ca2, ca3, ca4, ca5⟩ := Ba_0.out.cells6
      go_wp2
      refine bodyPost_ret (v := .tuple #[.agg #[.bool u.lo.b, .slice u.lo.A u.lo.n u.lo.c, .int .i64 (inner f g bits i).lo.x, .bool u.hi.b, .slice u.hi.A u.hi.n u.hi.c, .int .i64 (inner f g bits i).hi.x], .int .i64 0]) ?_ rfl ?_
      · simp [results, Tryd.f121, go_sem, co0, co1, co2, co3, co4, co5]
      · have y0 := HB_0.out.size; exact ⟨⟨u, rfl, (SU.out.dk (((((((Dk.refl _).set (cs := #[.bool false, .slice none 0 0, .int .i64 0, .bool false, .slice none 0 0, .int .i64 0]) Bo_0.out 0 (by intro _ hh; cases hh) (.bool u.lo.b)).set (cs := #[.bool u.lo.b, .slice none 0 0, .int .i64 0, .bool false, .slice none 0 0, .int .i64 0]) (Bo_0.out.set 0 (.bool u.lo.b)) 1 (by intro _ hh; cases hh) (.slice u.lo.A u.lo.n u.lo.c)).set (cs := #[.bool u.lo.b, .slice u.lo.A u.lo.n u.lo.c, .int .i64 0, .bool false, .slice none 0 0, .int .i64 0]) ((Bo_0.out.set 0 (.bool u.lo.b)).set 1 (.slice u.lo.A u.lo.n u.lo.c)) 2 (by intro _ hh; cases hh) (.int .i64 (inner f g bits i).lo.x)).set (cs := #[.bool u.lo.b, .slice u.lo.A u.lo.n u.lo.c, .int .i64 (inner f g bits i).lo.x, .bool false, .slice none 0 0, .int .i64 0]) (((Bo_0.out.set 0 (.bool u.lo.b)).set 1 (.slice u.lo.A u.lo.n u.lo.c)).set 2 (.int .i64 (inner f g bits i).lo.x)) 3 (by intro _ hh; cases hh) (.bool u.hi.b)).set (cs := #[.bool u.lo.b, .slice u.lo.A u.lo.n u.lo.c, .int .i64 (inner f g bits i).lo.x, .bool u.hi.b, .slice none 0 0, .int .i64 0]) ((((Bo_0.out.set 0 (.bool u.lo.b)).set 1 (.slice u.lo.A u.lo.n u.lo.c)).set 2 (.int .i64 (inner f g bits i).lo.x)).set 3 (.bool u.hi.b)) 4 (by intro _ hh; cases hh) (.slice u.hi.A u.hi.n u.hi.c)).set (cs := #[.bool u.lo.b, .slice u.lo.A u.lo.n u.lo.c, .int .i64 (inner f g bits i).lo.x, .bool u.hi.b, .slice u.hi.A u.hi.n u.hi.c, .int .i64 0]) (((((Bo_0.out.set 0 (.bool u.lo.b)).set 1 (.slice u.lo.A u.lo.n u.lo.c)).set 2 (.int .i64 (inner f g bits i).lo.x)).set 3 (.bool u.hi.b)).set 4 (.slice u.hi.A u.hi.n u.hi.c)) 5 (by intro _ hh; cases hh) (.int .i64 (inner f g bits i).hi.x)))⟩, (below_st (below_st (below_st (below_st (below_st (below_st HB_0.out 0 (by omega) (.bool u.lo.b)) 1 (by omega) (.slice u.lo.A u.lo.n u.lo.c)) 2 (by omega) (.int .i64 (inner f g bits i).lo.x)) 3 (by omega) (.bool u.hi.b)) 4 (by omega) (.slice u.hi.A u.hi.n u.hi.c)) 5 (by omega) (.int .i64 (inner f g bits i).hi.x))⟩

end Go.Proofs.YtgioppkggpfnoaaDoor.Nu
end

section
/- The walk of zono.points. -/
set_option linter.unusedVariables false
namespace Go.Proofs.YtgioppkggpfnoaaDoor.Nu
open Go.RowKit Go.Proofs

def PtsRel (f : Nat → D) (n : Nat) (W : World) (i : Nat) (w : World) : Prop := OS w W.heap.size n (fun j => if j < i then Sp.pt (f j) else Sp.zero) ∧ Below W.heap.size W w
theorem PtsRel.start (f : Nat → D) (n : Nat) (w : World) : PtsRel f n w 0 (w.alloc (.cells (mkS n) 62)) := ⟨OS.start (F := fun j => Sp.pt (f j)) (OS.made w n), below_al (Below.refl _ w) _⟩

set_option maxRecDepth 100000 in
set_option maxHeartbeats 4000000 in
theorem points_any (w : World) (A : Option Addr) (n c : Nat) (f : Nat → D) (h : RDs w A n c f) :
    Calls Tryd.prog 122 #[.slice A n c] w fun e w' => (∃ A' c', e = .returned (.slice A' n c') ∧ RSs w' A' n c' (pts f)) ∧ Below w.heap.size w w' := by
  have HA := Lib.hid h
  have n0 := h.2.1
  clear h
  have hmk := fun W => make_S n n0 W
  go_enter Tryd.func122, Tryd.ntmps122
  go_wp2_with fail
  have H0 := Lib.hid (PtsRel.start f n w)
  clear hmk
  generalize w.alloc (.cells (mkS n) 62) = w0 at *
  go_loopw [11] (fun k wr => ∃ i : Nat, k = .int .i64 i ∧ i ≤ n ∧ Hid (PtsRel f n w i wr)) (fun k _ => n - (intOf k).toNat)
  case atStart => exact ⟨0, rfl, Nat.zero_le _, H0⟩
  case round =>
    obtain ⟨i, rfl, hi, Hr⟩ := hrel
    by_cases hi2 : i < n
    · have q3 : (i : Int) < (n : Int) := by omega
      obtain ⟨ho, hbel⟩ := Hr.out
      have OX := Lib.hid ho
      have HB_0 := Lib.hid hbel
      obtain ⟨A1, o1, rfl, hl1, hcc⟩ := HA.out.2.2 (by omega)
      obtain ⟨q, z0, z1, z2, hq⟩ := hcc i hi2
      have X0 := Lib.hid z0
      have X1 := Lib.hid z1
      have X2 := Lib.hid z2
      clear hcc z0 z1 z2
      have RQ := Lib.hid (hq.below hbel)
      clear ho hbel hq
      have cr10 : wr.cell? ⟨A1, o1 + i * 3, none⟩ = some (.bool q.b) := (HB_0.out.cell (p := ⟨A1, o1 + i * 3, none⟩) hl1).trans X0.out
      have cr11 : wr.cell? ⟨A1, o1 + i * 3 + 1, none⟩ = some (.slice q.A q.n q.c) := (HB_0.out.cell (p := ⟨A1, o1 + i * 3 + 1, none⟩) hl1).trans X1.out
      have cr12 : wr.cell? ⟨A1, o1 + i * 3 + 2, none⟩ = some (.int .i64 (f i).x) := (HB_0.out.cell (p := ⟨A1, o1 + i * 3 + 2, none⟩) hl1).trans X2.out
      go_wp2_with fail
      refine (spoint_any _ q (f i) (RQ.out.dk ((Dk.refl _).alloc _))).mono ?_
      rintro e w1 ⟨⟨s, rfl, hs⟩, hb⟩
      clear cr10 cr11 cr12
      have K := Dk.trans ((Dk.refl _).alloc _) (.below hb)
      have Bd_101 := Lib.hid (show Bk _ _ _ #[.bool q.b, .slice q.A q.n q.c, .int .i64 (f i).x] from (Bk.new _ 53 #[.bool q.b, .slice q.A q.n q.c, .int .i64 (f i).x]).below hb)
      have Ox_102 := Lib.hid (show OS _ (w.heap.size) n (fun j => if j < i then Sp.pt (f j) else Sp.zero) from (OX.out.al _).below hb)
      have HB_103 := Lib.hid (below_tr (below_al HB_0.out _) hb)
      clear hb
      have RQ_104 := Lib.hid (RQ.out.dk K)
      clear K OX HB_0 RQ
      have RS_105 := Lib.hid hs
      clear hs
      have ld := Bd_101.out.lt
      obtain ⟨cd0, cd1, cd2⟩ := Bd_101.out.cells3
      have cr10 : w1.cell? ⟨A1, o1 + i * 3, none⟩ = some (.bool q.b) := (HB_103.out.cell (p := ⟨A1, o1 + i * 3, none⟩) hl1).trans X0.out
      have cr11 : w1.cell? ⟨A1, o1 + i * 3 + 1, none⟩ = some (.slice q.A q.n q.c) := (HB_103.out.cell (p := ⟨A1, o1 + i * 3 + 1, none⟩) hl1).trans X1.out
      have cr12 : w1.cell? ⟨A1, o1 + i * 3 + 2, none⟩ = some (.int .i64 (f i).x) := (HB_103.out.cell (p := ⟨A1, o1 + i * 3 + 2, none⟩) hl1).trans X2.out
      obtain ⟨⟨_, px0⟩, ⟨_, px1⟩, ⟨_, px2⟩, ⟨_, px3⟩, ⟨_, px4⟩, ⟨_, px5⟩, rx0, rx1, rx2, rx3, rx4, rx5⟩ := Ox_102.out.there hi2
      have lx := Ox_102.out.lt
      go_wp2
      go_roundw
      case rel => exact ⟨i + 1, by go_num, hi2, Lib.hid ⟨OS.next (F := fun j => Sp.pt (f j)) (Ox_102.out.put hi2 s (Sp.pt (f i)) RS_105.out).1, (below_put6 HB_103.out (by have := HB_103.out.size; omega) i (.bool s.lo.b) (.slice s.lo.A s.lo.n s.lo.c) (.int .i64 (Sp.pt (f i)).lo.x) (.bool s.hi.b) (.slice s.hi.A s.hi.n s.hi.c) (.int .i64 (Sp.pt (f i)).hi.x))⟩⟩
      case measure => simp only [intOf]; omega
    · obtain rfl : i = n := by omega
      obtain ⟨ho, hbel⟩ := Hr.out
      have OX := Lib.hid ho
      have HB_0 := Lib.hid hbel
      clear ho hbel hi2
      go_wp2
      go_ret
      exact ⟨⟨_, _, rfl, (OX.out.done (F := fun j => Sp.pt (f j))).read n0⟩, HB_0.out⟩

end Go.Proofs.YtgioppkggpfnoaaDoor.Nu
end
