/- Texts of the seat, laid together: Level, DAdd, DTop, DCmpA, DCmpT, DCmpL, DCmp, DLess, DRound, DOf, DMax, DMul, DSub, DAbs, SOut, SSize, SAdd. -/
import Derived.Test.YtgioppkggpfnoaaDoorJn1
import Derived.RegionTactic
import Derived.Outline
import Derived.StillTailTactics
import Derived.Deep.RegionHeld3
set_option linter.all false
set_option exponentiation.threshold 20000
section
/- The walk of dyad.level. -/
set_option linter.unusedVariables false
namespace Go.Proofs.YtgioppkggpfnoaaDoor.Nu
open Go.RowKit Go.Proofs

theorem dsign_q (w : World) (q : Q) (d : D) (h : RD w q d) : Calls Tryd.prog 34 #[.agg #[.bool q.b, .slice q.A q.n q.c, .int .i64 d.x]] w fun e w' => e = .returned (.int .i64 (sgn d.z)) ∧ Below w.heap.size w w' := dsign_any w q.b q.A q.n q.c d.z d.x h.1
def levX (a b : D) : Int := if a.z = 0 then 0 else if b.z = 0 then a.z else a.z * 2 ^ (a.x - min a.x b.x).toNat
def levY (a b : D) : Int := if a.z = 0 then b.z else if b.z = 0 then 0 else b.z * 2 ^ (b.x - min a.x b.x).toNat
def levE (a b : D) : Int := if a.z = 0 then b.x else if b.z = 0 then a.x else min a.x b.x
theorem add_lev (a b : D) : a.add b = D.mk' (levX a b + levY a b) (levE a b) := by
  unfold D.add levX levY levE
  split
  · rw [Int.zero_add]
  · split
    · rw [Int.add_zero]
    · rfl
theorem lev_size {a b : D} {E T : Nat} (la : a.Lim E T) (lb : b.Lim E T) (hET : E + T ≤ 16000) (ha : a.z ≠ 0) (hb : b.z ≠ 0) :
    nb a.z.natAbs ≤ 16000 ∧ nb b.z.natAbs ≤ 16000 ∧ (a.x - min a.x b.x).toNat ≤ 16000 ∧ (b.x - min a.x b.x).toNat ≤ 16000 ∧ nb (a.z * 2 ^ (a.x - min a.x b.x).toNat).natAbs ≤ 16000 ∧ nb (b.z * 2 ^ (b.x - min a.x b.x).toNat).natAbs ≤ 16000 := by
  have h1 := scale_nb la (low := min a.x b.x) (by omega) ha
  have h2 := scale_nb lb (low := min a.x b.x) (by omega) hb
  have h3 := la.1
  have h4 := la.2
  have h5 := lb.1
  have h6 := lb.2
  have h7 := nb_pos (x := a.z.natAbs) (by omega)
  have h8 := nb_pos (x := b.z.natAbs) (by omega)
  generalize nb (a.z * 2 ^ (a.x - min a.x b.x).toNat).natAbs = X at *
  generalize nb (b.z * 2 ^ (b.x - min a.x b.x).toNat).natAbs = Y at *
  omega
theorem sgn_ne {z : Int} (h : z ≠ 0) : ((sgn z : Int) == 0) = false := by rw [beq_eq_false_iff_ne]; have := sgn_cases z; omega
theorem sgn_eq {z : Int} (h : z = 0) : ((sgn z : Int) == 0) = true := by rw [beq_iff_eq]; have := sgn_cases z; omega

set_option maxRecDepth 100000 in
set_option maxHeartbeats 4000000 in
theorem dlevel_any (w : World) (p q : Q) (a b : D) (E T : Nat) (h : RD w p a) (h2 : RD w q b) (la : a.Lim E T) (lb : b.Lim E T) (hET : E + T ≤ 16000) :
    Calls Tryd.prog 109 #[.agg #[.bool p.b, .slice p.A p.n p.c, .int .i64 a.x], .agg #[.bool q.b, .slice q.A q.n q.c, .int .i64 b.x]] w fun e w' => (∃ r s : Q, e = .returned (.tuple #[.agg #[.bool r.b, .slice r.A r.n r.c], .agg #[.bool s.b, .slice s.A s.n s.c], .int .i64 (levE a b), .int .i64 0]) ∧ RW w' r (levX a b) ∧ RW w' s (levY a b)) ∧ Below w.heap.size w w' := by
  have HA := Lib.hid h
  have HB := Lib.hid h2
  have LA := Lib.hid la
  have LB := Lib.hid lb
  clear h h2 la lb
  by_cases ha : a.z = 0
  · have q0 := sgn_eq ha
    rw [show levX a b = 0 by unfold levX; rw [if_pos ha], show levY a b = b.z by unfold levY; rw [if_pos ha], show levE a b = b.x by unfold levE; rw [if_pos ha]]
    clear ha
    have BX := Lib.hid (boxes4 w 53 #[.bool p.b, .slice p.A p.n p.c, .int .i64 a.x] 53 #[.bool q.b, .slice q.A q.n q.c, .int .i64 b.x] 51 #[.bool false, .slice none 0 0] 51 #[.bool false, .slice none 0 0])
    go_enter Tryd.func109, Tryd.ntmps109
    go_wp2_with fail
    generalize (((w.alloc (.cells #[.bool p.b, .slice p.A p.n p.c, .int .i64 a.x] 53)).alloc (.cells #[.bool q.b, .slice q.A q.n q.c, .int .i64 b.x] 53)).alloc (.cells #[.bool false, .slice none 0 0] 51)).alloc (.cells #[.bool false, .slice none 0 0] 51) = w0 at *
    obtain ⟨b0, b1, b2, b3, hw⟩ := BX.out
    have Ba_0 := Lib.hid b0
    have Bb_0 := Lib.hid b1
    have Bx_0 := Lib.hid b2
    have By_0 := Lib.hid b3
    have HB_0 := Lib.hid hw
    have K := Dk.below (hw.mono (Nat.le_refl _))
    clear BX hw b0 b1 b2 b3
    have RA_1 := Lib.hid (HA.out.dk K)
    have RB_2 := Lib.hid (HB.out.dk K)
    clear K HA HB
    have la := Ba_0.out.lt
    obtain ⟨ca0, ca1, ca2⟩ := Ba_0.out.cells3
    have lb := Bb_0.out.lt
    obtain ⟨cb0, cb1, cb2⟩ := Bb_0.out.cells3
    have lx := Bx_0.out.lt
    obtain ⟨cx0, cx1⟩ := Bx_0.out.cells2
    have ly := By_0.out.lt
    obtain ⟨cy0, cy1⟩ := By_0.out.cells2
    go_wp2_with fail
    refine (dsign_q _ p a RA_1.out).mono ?_
    rintro e w1 ⟨rfl, hb⟩
    clear la ca0 ca1 ca2 lb cb0 cb1 cb2 lx cx0 cx1 ly cy0 cy1
    have K := Dk.below hb
    have Ba_3 := Lib.hid (show Bk _ _ _ #[.bool p.b, .slice p.A p.n p.c, .int .i64 a.x] from Ba_0.out.below hb)
    have Bb_4 := Lib.hid (show Bk _ _ _ #[.bool q.b, .slice q.A q.n q.c, .int .i64 b.x] from Bb_0.out.below hb)
    have Bx_5 := Lib.hid (show Bk _ _ _ #[.bool false, .slice none 0 0] from Bx_0.out.below hb)
    have By_6 := Lib.hid (show Bk _ _ _ #[.bool false, .slice none 0 0] from By_0.out.below hb)
    have HB_7 := Lib.hid (below_tr HB_0.out hb)
    clear hb
    have RA_8 := Lib.hid (RA_1.out.dk K)
    have RB_9 := Lib.hid (RB_2.out.dk K)
    clear K Ba_0 Bb_0 Bx_0 By_0 HB_0 RA_1 RB_2
    generalize sgn a.z = t at *
    have la := Ba_3.out.lt
    obtain ⟨ca0, ca1, ca2⟩ := Ba_3.out.cells3
    have lb := Bb_4.out.lt
    obtain ⟨cb0, cb1, cb2⟩ := Bb_4.out.cells3
    have lx := Bx_5.out.lt
    obtain ⟨cx0, cx1⟩ := Bx_5.out.cells2
    have fx0 := Bx_5.out.free 0
    have fx1 := Bx_5.out.free 1
    have ly := By_6.out.lt
    obtain ⟨cy0, cy1⟩ := By_6.out.cells2
    have fy0 := By_6.out.free 0
    have fy1 := By_6.out.free 1
    go_wp2
    go_region
    go_wp2
    refine bodyPost_ret (v := .tuple #[.agg #[.bool false, .slice none 0 0], .agg #[.bool q.b, .slice q.A q.n q.c], .int .i64 b.x, .int .i64 0]) ?_ rfl ?_
    · simp [results, Tryd.f109, go_sem, cx0, cx1, cy0, cy1]
    · have y0 := Ba_3.out.lt; have y1 := Bb_4.out.lt; have y2 := Bx_5.out.lt; have y3 := By_6.out.lt; have y4 := HB_7.out.size; exact ⟨⟨Q.nil, q, rfl, RW.zero _, (RB_9.out.dk ((((((Dk.refl _).set (cs := #[.bool false, .slice none 0 0]) Bx_5.out 0 (by intro _ hh; cases hh) (.bool false)).set (cs := #[.bool false, .slice none 0 0]) (Bx_5.out.set 0 (.bool false)) 1 (by intro _ hh; cases hh) (.slice none 0 0)).set (cs := #[.bool false, .slice none 0 0]) ((By_6.out.ne (by omega) 0 (.bool false)).ne (by omega) 1 (.slice none 0 0)) 0 (by intro _ hh; cases hh) (.bool q.b)).set (cs := #[.bool q.b, .slice none 0 0]) (((By_6.out.ne (by omega) 0 (.bool false)).ne (by omega) 1 (.slice none 0 0)).set 0 (.bool q.b)) 1 (by intro _ hh; cases hh) (.slice q.A q.n q.c)).drew)).1⟩, (below_dr (below_st (below_st (below_st (below_st HB_7.out 0 (by omega) (.bool false)) 1 (by omega) (.slice none 0 0)) 0 (by omega) (.bool q.b)) 1 (by omega) (.slice q.A q.n q.c)))⟩
  · have q0 := sgn_ne ha
    by_cases hb0 : b.z = 0
    · have q1 := sgn_eq hb0
      rw [show levX a b = a.z by unfold levX; rw [if_neg ha, if_pos hb0], show levY a b = 0 by unfold levY; rw [if_neg ha, if_pos hb0], show levE a b = a.x by unfold levE; rw [if_neg ha, if_pos hb0]]
      clear ha hb0
      have BX := Lib.hid (boxes4 w 53 #[.bool p.b, .slice p.A p.n p.c, .int .i64 a.x] 53 #[.bool q.b, .slice q.A q.n q.c, .int .i64 b.x] 51 #[.bool false, .slice none 0 0] 51 #[.bool false, .slice none 0 0])
      go_enter Tryd.func109, Tryd.ntmps109
      go_wp2_with fail
      generalize (((w.alloc (.cells #[.bool p.b, .slice p.A p.n p.c, .int .i64 a.x] 53)).alloc (.cells #[.bool q.b, .slice q.A q.n q.c, .int .i64 b.x] 53)).alloc (.cells #[.bool false, .slice none 0 0] 51)).alloc (.cells #[.bool false, .slice none 0 0] 51) = w0 at *
      obtain ⟨b0, b1, b2, b3, hw⟩ := BX.out
      have Ba_0 := Lib.hid b0
      have Bb_0 := Lib.hid b1
      have Bx_0 := Lib.hid b2
      have By_0 := Lib.hid b3
      have HB_0 := Lib.hid hw
      have K := Dk.below (hw.mono (Nat.le_refl _))
      clear BX hw b0 b1 b2 b3
      have RA_1 := Lib.hid (HA.out.dk K)
      have RB_2 := Lib.hid (HB.out.dk K)
      clear K HA HB
      have la := Ba_0.out.lt
      obtain ⟨ca0, ca1, ca2⟩ := Ba_0.out.cells3
      have lb := Bb_0.out.lt
      obtain ⟨cb0, cb1, cb2⟩ := Bb_0.out.cells3
      have lx := Bx_0.out.lt
      obtain ⟨cx0, cx1⟩ := Bx_0.out.cells2
      have ly := By_0.out.lt
      obtain ⟨cy0, cy1⟩ := By_0.out.cells2
      go_wp2_with fail
      refine (dsign_q _ p a RA_1.out).mono ?_
      rintro e w1 ⟨rfl, hb⟩
      clear la ca0 ca1 ca2 lb cb0 cb1 cb2 lx cx0 cx1 ly cy0 cy1
      have K := Dk.below hb
      have Ba_3 := Lib.hid (show Bk _ _ _ #[.bool p.b, .slice p.A p.n p.c, .int .i64 a.x] from Ba_0.out.below hb)
      have Bb_4 := Lib.hid (show Bk _ _ _ #[.bool q.b, .slice q.A q.n q.c, .int .i64 b.x] from Bb_0.out.below hb)
      have Bx_5 := Lib.hid (show Bk _ _ _ #[.bool false, .slice none 0 0] from Bx_0.out.below hb)
      have By_6 := Lib.hid (show Bk _ _ _ #[.bool false, .slice none 0 0] from By_0.out.below hb)
      have HB_7 := Lib.hid (below_tr HB_0.out hb)
      clear hb
      have RA_8 := Lib.hid (RA_1.out.dk K)
      have RB_9 := Lib.hid (RB_2.out.dk K)
      clear K Ba_0 Bb_0 Bx_0 By_0 HB_0 RA_1 RB_2
      generalize sgn a.z = t at *
      have la := Ba_3.out.lt
      obtain ⟨ca0, ca1, ca2⟩ := Ba_3.out.cells3
      have lb := Bb_4.out.lt
      obtain ⟨cb0, cb1, cb2⟩ := Bb_4.out.cells3
      have lx := Bx_5.out.lt
      obtain ⟨cx0, cx1⟩ := Bx_5.out.cells2
      have ly := By_6.out.lt
      obtain ⟨cy0, cy1⟩ := By_6.out.cells2
      go_wp2_with fail
      refine (dsign_q _ q b RB_9.out).mono ?_
      rintro e w2 ⟨rfl, hb⟩
      clear la ca0 ca1 ca2 lb cb0 cb1 cb2 lx cx0 cx1 ly cy0 cy1
      have K := Dk.below hb
      have Ba_10 := Lib.hid (show Bk _ _ _ #[.bool p.b, .slice p.A p.n p.c, .int .i64 a.x] from Ba_3.out.below hb)
      have Bb_11 := Lib.hid (show Bk _ _ _ #[.bool q.b, .slice q.A q.n q.c, .int .i64 b.x] from Bb_4.out.below hb)
      have Bx_12 := Lib.hid (show Bk _ _ _ #[.bool false, .slice none 0 0] from Bx_5.out.below hb)
      have By_13 := Lib.hid (show Bk _ _ _ #[.bool false, .slice none 0 0] from By_6.out.below hb)
      have HB_14 := Lib.hid (below_tr HB_7.out hb)
      clear hb
      have RA_15 := Lib.hid (RA_8.out.dk K)
      have RB_16 := Lib.hid (RB_9.out.dk K)
      clear K Ba_3 Bb_4 Bx_5 By_6 HB_7 RA_8 RB_9
      generalize sgn b.z = t2 at *
      have la := Ba_10.out.lt
      obtain ⟨ca0, ca1, ca2⟩ := Ba_10.out.cells3
      have lb := Bb_11.out.lt
      obtain ⟨cb0, cb1, cb2⟩ := Bb_11.out.cells3
      have lx := Bx_12.out.lt
      obtain ⟨cx0, cx1⟩ := Bx_12.out.cells2
      have fx0 := Bx_12.out.free 0
      have fx1 := Bx_12.out.free 1
      have ly := By_13.out.lt
      obtain ⟨cy0, cy1⟩ := By_13.out.cells2
      have fy0 := By_13.out.free 0
      have fy1 := By_13.out.free 1
      go_wp2
      go_region
      go_wp2
      refine bodyPost_ret (v := .tuple #[.agg #[.bool p.b, .slice p.A p.n p.c], .agg #[.bool false, .slice none 0 0], .int .i64 a.x, .int .i64 0]) ?_ rfl ?_
      · simp [results, Tryd.f109, go_sem, cx0, cx1, cy0, cy1]
      · have y0 := Ba_10.out.lt; have y1 := Bb_11.out.lt; have y2 := Bx_12.out.lt; have y3 := By_13.out.lt; have y4 := HB_14.out.size; exact ⟨⟨p, Q.nil, rfl, (RA_15.out.dk ((((((Dk.refl _).set (cs := #[.bool false, .slice none 0 0]) Bx_12.out 0 (by intro _ hh; cases hh) (.bool p.b)).set (cs := #[.bool p.b, .slice none 0 0]) (Bx_12.out.set 0 (.bool p.b)) 1 (by intro _ hh; cases hh) (.slice p.A p.n p.c)).set (cs := #[.bool false, .slice none 0 0]) ((By_13.out.ne (by omega) 0 (.bool p.b)).ne (by omega) 1 (.slice p.A p.n p.c)) 0 (by intro _ hh; cases hh) (.bool false)).set (cs := #[.bool false, .slice none 0 0]) (((By_13.out.ne (by omega) 0 (.bool p.b)).ne (by omega) 1 (.slice p.A p.n p.c)).set 0 (.bool false)) 1 (by intro _ hh; cases hh) (.slice none 0 0)).drew)).1, RW.zero _⟩, (below_dr (below_st (below_st (below_st (below_st HB_14.out 0 (by omega) (.bool p.b)) 1 (by omega) (.slice p.A p.n p.c)) 0 (by omega) (.bool false)) 1 (by omega) (.slice none 0 0)))⟩
    · have q1 := sgn_ne hb0
      have s0 := Lib.hid (lev_size LA.out LB.out hET ha hb0)
      rw [show levX a b = a.z * 2 ^ (a.x - min a.x b.x).toNat by unfold levX; rw [if_neg ha, if_neg hb0], show levY a b = b.z * 2 ^ (b.x - min a.x b.x).toNat by unfold levY; rw [if_neg ha, if_neg hb0], show levE a b = min a.x b.x by unfold levE; rw [if_neg ha, if_neg hb0]]
      clear ha hb0
      have BX := Lib.hid (boxes4 w 53 #[.bool p.b, .slice p.A p.n p.c, .int .i64 a.x] 53 #[.bool q.b, .slice q.A q.n q.c, .int .i64 b.x] 51 #[.bool false, .slice none 0 0] 51 #[.bool false, .slice none 0 0])
      go_enter Tryd.func109, Tryd.ntmps109
      go_wp2_with fail
      generalize (((w.alloc (.cells #[.bool p.b, .slice p.A p.n p.c, .int .i64 a.x] 53)).alloc (.cells #[.bool q.b, .slice q.A q.n q.c, .int .i64 b.x] 53)).alloc (.cells #[.bool false, .slice none 0 0] 51)).alloc (.cells #[.bool false, .slice none 0 0] 51) = w0 at *
      obtain ⟨b0, b1, b2, b3, hw⟩ := BX.out
      have Ba_0 := Lib.hid b0
      have Bb_0 := Lib.hid b1
      have Bx_0 := Lib.hid b2
      have By_0 := Lib.hid b3
      have HB_0 := Lib.hid hw
      have K := Dk.below (hw.mono (Nat.le_refl _))
      clear BX hw b0 b1 b2 b3
      have RA_1 := Lib.hid (HA.out.dk K)
      have RB_2 := Lib.hid (HB.out.dk K)
      clear K HA HB
      have la := Ba_0.out.lt
      obtain ⟨ca0, ca1, ca2⟩ := Ba_0.out.cells3
      have lb := Bb_0.out.lt
      obtain ⟨cb0, cb1, cb2⟩ := Bb_0.out.cells3
      have lx := Bx_0.out.lt
      obtain ⟨cx0, cx1⟩ := Bx_0.out.cells2
      have ly := By_0.out.lt
      obtain ⟨cy0, cy1⟩ := By_0.out.cells2
      go_wp2_with fail
      refine (dsign_q _ p a RA_1.out).mono ?_
      rintro e w1 ⟨rfl, hb⟩
      clear la ca0 ca1 ca2 lb cb0 cb1 cb2 lx cx0 cx1 ly cy0 cy1
      have K := Dk.below hb
      have Ba_3 := Lib.hid (show Bk _ _ _ #[.bool p.b, .slice p.A p.n p.c, .int .i64 a.x] from Ba_0.out.below hb)
      have Bb_4 := Lib.hid (show Bk _ _ _ #[.bool q.b, .slice q.A q.n q.c, .int .i64 b.x] from Bb_0.out.below hb)
      have Bx_5 := Lib.hid (show Bk _ _ _ #[.bool false, .slice none 0 0] from Bx_0.out.below hb)
      have By_6 := Lib.hid (show Bk _ _ _ #[.bool false, .slice none 0 0] from By_0.out.below hb)
      have HB_7 := Lib.hid (below_tr HB_0.out hb)
      clear hb
      have RA_8 := Lib.hid (RA_1.out.dk K)
      have RB_9 := Lib.hid (RB_2.out.dk K)
      clear K Ba_0 Bb_0 Bx_0 By_0 HB_0 RA_1 RB_2
      generalize sgn a.z = t at *
      have la := Ba_3.out.lt
      obtain ⟨ca0, ca1, ca2⟩ := Ba_3.out.cells3
      have lb := Bb_4.out.lt
      obtain ⟨cb0, cb1, cb2⟩ := Bb_4.out.cells3
      have lx := Bx_5.out.lt
      obtain ⟨cx0, cx1⟩ := Bx_5.out.cells2
      have ly := By_6.out.lt
      obtain ⟨cy0, cy1⟩ := By_6.out.cells2
      go_wp2_with fail
      refine (dsign_q _ q b RB_9.out).mono ?_
      rintro e w2 ⟨rfl, hb⟩
      clear la ca0 ca1 ca2 lb cb0 cb1 cb2 lx cx0 cx1 ly cy0 cy1
      have K := Dk.below hb
      have Ba_10 := Lib.hid (show Bk _ _ _ #[.bool p.b, .slice p.A p.n p.c, .int .i64 a.x] from Ba_3.out.below hb)
      have Bb_11 := Lib.hid (show Bk _ _ _ #[.bool q.b, .slice q.A q.n q.c, .int .i64 b.x] from Bb_4.out.below hb)
      have Bx_12 := Lib.hid (show Bk _ _ _ #[.bool false, .slice none 0 0] from Bx_5.out.below hb)
      have By_13 := Lib.hid (show Bk _ _ _ #[.bool false, .slice none 0 0] from By_6.out.below hb)
      have HB_14 := Lib.hid (below_tr HB_7.out hb)
      clear hb
      have RA_15 := Lib.hid (RA_8.out.dk K)
      have RB_16 := Lib.hid (RB_9.out.dk K)
      clear K Ba_3 Bb_4 Bx_5 By_6 HB_7 RA_8 RB_9
      generalize sgn b.z = t2 at *
      have la := Ba_10.out.lt
      obtain ⟨ca0, ca1, ca2⟩ := Ba_10.out.cells3
      have lb := Bb_11.out.lt
      obtain ⟨cb0, cb1, cb2⟩ := Bb_11.out.cells3
      have lx := Bx_12.out.lt
      obtain ⟨cx0, cx1⟩ := Bx_12.out.cells2
      have ly := By_13.out.lt
      obtain ⟨cy0, cy1⟩ := By_13.out.cells2
      go_wp2_with fail
      rw [wrap_nat (x := a.x - min a.x b.x) (by omega) (by have := s0.out; omega)]
      refine (wleft_q _ p a.z _ RA_15.out.1 (by have := s0.out; omega) (by have := s0.out; omega) (by have := s0.out; omega)).mono ?_
      rintro e w3 ⟨⟨r, rfl, hr⟩, hb⟩
      clear la ca0 ca1 ca2 lb cb0 cb1 cb2 lx cx0 cx1 ly cy0 cy1
      have K := Dk.below hb
      have Ba_17 := Lib.hid (show Bk _ _ _ #[.bool p.b, .slice p.A p.n p.c, .int .i64 a.x] from Ba_10.out.below hb)
      have Bb_18 := Lib.hid (show Bk _ _ _ #[.bool q.b, .slice q.A q.n q.c, .int .i64 b.x] from Bb_11.out.below hb)
      have Bx_19 := Lib.hid (show Bk _ _ _ #[.bool false, .slice none 0 0] from Bx_12.out.below hb)
      have By_20 := Lib.hid (show Bk _ _ _ #[.bool false, .slice none 0 0] from By_13.out.below hb)
      have HB_21 := Lib.hid (below_tr HB_14.out hb)
      clear hb
      have RA_22 := Lib.hid (RA_15.out.dk K)
      have RB_23 := Lib.hid (RB_16.out.dk K)
      clear K Ba_10 Bb_11 Bx_12 By_13 HB_14 RA_15 RB_16
      have RX_24 := Lib.hid hr
      clear hr
      have la := Ba_17.out.lt
      obtain ⟨ca0, ca1, ca2⟩ := Ba_17.out.cells3
      have lb := Bb_18.out.lt
      obtain ⟨cb0, cb1, cb2⟩ := Bb_18.out.cells3
      have lx := Bx_19.out.lt
      obtain ⟨cx0, cx1⟩ := Bx_19.out.cells2
      have ly := By_20.out.lt
      obtain ⟨cy0, cy1⟩ := By_20.out.cells2
      have n_25 := Ba_17.out.lt
      have n_26 := Bb_18.out.lt
      have n_27 := Bx_19.out.lt
      have n_28 := By_20.out.lt
      go_wp2_with fail
      rw [wrap_nat (x := b.x - min a.x b.x) (by omega) (by have := s0.out; omega)]
      refine (wleft_q _ q b.z _ (RB_23.out.dk ((Dk.refl _).alloc _)).1 (by have := s0.out; omega) (by have := s0.out; omega) (by have := s0.out; omega)).mono ?_
      rintro e w4 ⟨⟨s, rfl, hs⟩, hb⟩
      clear la ca0 ca1 ca2 lb cb0 cb1 cb2 lx cx0 cx1 ly cy0 cy1
      have K := Dk.trans ((Dk.refl _).alloc _) (.below hb)
      have Ba_29 := Lib.hid (show Bk _ _ _ #[.bool p.b, .slice p.A p.n p.c, .int .i64 a.x] from (Ba_17.out.alloc _).below hb)
      have Bb_30 := Lib.hid (show Bk _ _ _ #[.bool q.b, .slice q.A q.n q.c, .int .i64 b.x] from (Bb_18.out.alloc _).below hb)
      have Bx_31 := Lib.hid (show Bk _ _ _ #[.bool false, .slice none 0 0] from (Bx_19.out.alloc _).below hb)
      have By_32 := Lib.hid (show Bk _ _ _ #[.bool false, .slice none 0 0] from (By_20.out.alloc _).below hb)
      have Blx_33 := Lib.hid (show Bk _ _ _ #[.bool r.b, .slice r.A r.n r.c] from (Bk.new _ 51 #[.bool r.b, .slice r.A r.n r.c]).below hb)
      have HB_34 := Lib.hid (below_tr (below_al HB_21.out _) hb)
      clear hb
      have RA_35 := Lib.hid (RA_22.out.dk K)
      have RB_36 := Lib.hid (RB_23.out.dk K)
      have RX_37 := Lib.hid (RX_24.out.dk K)
      clear K Ba_17 Bb_18 Bx_19 By_20 HB_21 RA_22 RB_23 RX_24
      have RY_38 := Lib.hid hs
      clear hs
      have la := Ba_29.out.lt
      obtain ⟨ca0, ca1, ca2⟩ := Ba_29.out.cells3
      have lb := Bb_30.out.lt
      obtain ⟨cb0, cb1, cb2⟩ := Bb_30.out.cells3
      have lx := Bx_31.out.lt
      obtain ⟨cx0, cx1⟩ := Bx_31.out.cells2
      have ly := By_32.out.lt
      obtain ⟨cy0, cy1⟩ := By_32.out.cells2
      have llx := Blx_33.out.lt
      obtain ⟨clx0, clx1⟩ := Blx_33.out.cells2
      have n_39 := Ba_29.out.lt
      have n_40 := Bb_30.out.lt
      have n_41 := Bx_31.out.lt
      have n_42 := By_32.out.lt
      have n_43 := Blx_33.out.lt
      go_wp2
      clear la ca0 ca1 ca2 lb cb0 cb1 cb2 lx cx0 cx1 ly cy0 cy1 llx clx0 clx1
      have K : Dk w4 (w4.alloc (.cells #[.bool s.b, .slice s.A s.n s.c] 51)) := ((Dk.refl _).alloc _)
      have Ba_44 := Lib.hid (show Bk (w4.alloc (.cells #[.bool s.b, .slice s.A s.n s.c] 51)) (w.heap.size) 53 #[.bool p.b, .slice p.A p.n p.c, .int .i64 a.x] from (Ba_29.out.alloc _))
      have Bb_45 := Lib.hid (show Bk (w4.alloc (.cells #[.bool s.b, .slice s.A s.n s.c] 51)) (w.heap.size + 1) 53 #[.bool q.b, .slice q.A q.n q.c, .int .i64 b.x] from (Bb_30.out.alloc _))
      have Bx_46 := Lib.hid (show Bk (w4.alloc (.cells #[.bool s.b, .slice s.A s.n s.c] 51)) (w.heap.size + 2) 51 #[.bool false, .slice none 0 0] from (Bx_31.out.alloc _))
      have By_47 := Lib.hid (show Bk (w4.alloc (.cells #[.bool s.b, .slice s.A s.n s.c] 51)) (w.heap.size + 3) 51 #[.bool false, .slice none 0 0] from (By_32.out.alloc _))
      have Blx_48 := Lib.hid (show Bk (w4.alloc (.cells #[.bool s.b, .slice s.A s.n s.c] 51)) (w3.heap.size) 51 #[.bool r.b, .slice r.A r.n r.c] from (Blx_33.out.alloc _))
      have Bly_49 := Lib.hid (show Bk (w4.alloc (.cells #[.bool s.b, .slice s.A s.n s.c] 51)) (w4.heap.size) 51 #[.bool s.b, .slice s.A s.n s.c] from (Bk.new _ 51 #[.bool s.b, .slice s.A s.n s.c]))
      have HB_50 := Lib.hid (show Below w.heap.size w (w4.alloc (.cells #[.bool s.b, .slice s.A s.n s.c] 51)) from (below_al HB_34.out _))
      have RA_51 := Lib.hid (RA_35.out.dk K)
      have RB_52 := Lib.hid (RB_36.out.dk K)
      have RX_53 := Lib.hid (RX_37.out.dk K)
      have RY_54 := Lib.hid (RY_38.out.dk K)
      clear K Ba_29 Bb_30 Bx_31 By_32 Blx_33 HB_34 RA_35 RB_36 RX_37 RY_38
      generalize w4.alloc (.cells #[.bool s.b, .slice s.A s.n s.c] 51) = w5 at *
      have la := Ba_44.out.lt
      obtain ⟨ca0, ca1, ca2⟩ := Ba_44.out.cells3
      have lb := Bb_45.out.lt
      obtain ⟨cb0, cb1, cb2⟩ := Bb_45.out.cells3
      have lx := Bx_46.out.lt
      obtain ⟨cx0, cx1⟩ := Bx_46.out.cells2
      have fx0 := Bx_46.out.free 0
      have fx1 := Bx_46.out.free 1
      have ly := By_47.out.lt
      obtain ⟨cy0, cy1⟩ := By_47.out.cells2
      have fy0 := By_47.out.free 0
      have fy1 := By_47.out.free 1
      have llx := Blx_48.out.lt
      obtain ⟨clx0, clx1⟩ := Blx_48.out.cells2
      have lly := Bly_49.out.lt
      obtain ⟨cly0, cly1⟩ := Bly_49.out.cells2
      go_region
      go_wp2
      refine bodyPost_ret (v := .tuple #[.agg #[.bool r.b, .slice r.A r.n r.c], .agg #[.bool s.b, .slice s.A s.n s.c], .int .i64 (min a.x b.x), .int .i64 0]) ?_ rfl ?_
      · simp [results, Tryd.f109, go_sem, cx0, cx1, cy0, cy1]
      · have y0 := Ba_44.out.lt; have y1 := Bb_45.out.lt; have y2 := Bx_46.out.lt; have y3 := By_47.out.lt; have y4 := Blx_48.out.lt; have y5 := Bly_49.out.lt; have y6 := HB_50.out.size; exact ⟨⟨r, s, rfl, (RX_53.out.dk ((((((Dk.refl _).set (cs := #[.bool false, .slice none 0 0]) Bx_46.out 0 (by intro _ hh; cases hh) (.bool r.b)).set (cs := #[.bool r.b, .slice none 0 0]) (Bx_46.out.set 0 (.bool r.b)) 1 (by intro _ hh; cases hh) (.slice r.A r.n r.c)).set (cs := #[.bool false, .slice none 0 0]) ((By_47.out.ne (by omega) 0 (.bool r.b)).ne (by omega) 1 (.slice r.A r.n r.c)) 0 (by intro _ hh; cases hh) (.bool s.b)).set (cs := #[.bool s.b, .slice none 0 0]) (((By_47.out.ne (by omega) 0 (.bool r.b)).ne (by omega) 1 (.slice r.A r.n r.c)).set 0 (.bool s.b)) 1 (by intro _ hh; cases hh) (.slice s.A s.n s.c)).drew)), (RY_54.out.dk ((((((Dk.refl _).set (cs := #[.bool false, .slice none 0 0]) Bx_46.out 0 (by intro _ hh; cases hh) (.bool r.b)).set (cs := #[.bool r.b, .slice none 0 0]) (Bx_46.out.set 0 (.bool r.b)) 1 (by intro _ hh; cases hh) (.slice r.A r.n r.c)).set (cs := #[.bool false, .slice none 0 0]) ((By_47.out.ne (by omega) 0 (.bool r.b)).ne (by omega) 1 (.slice r.A r.n r.c)) 0 (by intro _ hh; cases hh) (.bool s.b)).set (cs := #[.bool s.b, .slice none 0 0]) (((By_47.out.ne (by omega) 0 (.bool r.b)).ne (by omega) 1 (.slice r.A r.n r.c)).set 0 (.bool s.b)) 1 (by intro _ hh; cases hh) (.slice s.A s.n s.c)).drew))⟩, (below_dr (below_st (below_st (below_st (below_st HB_50.out 0 (by omega) (.bool r.b)) 1 (by omega) (.slice r.A r.n r.c)) 0 (by omega) (.bool s.b)) 1 (by omega) (.slice s.A s.n s.c)))⟩
end Go.Proofs.YtgioppkggpfnoaaDoor.Nu
end

section
/- The walk of dyad.Add. -/
set_option linter.unusedVariables false
namespace Go.Proofs.YtgioppkggpfnoaaDoor.Nu
open Go.RowKit Go.Proofs

theorem lev_nb {a b : D} {E T : Nat} (la : a.Lim E T) (lb : b.Lim E T) (hET : E + T ≤ 16000) :
    nb (levX a b).natAbs ≤ 16000 ∧ nb (levY a b).natAbs ≤ 16000 ∧ nb (levX a b + levY a b).natAbs ≤ 16384 ∧ -40000 ≤ levE a b ∧ levE a b ≤ 40000 := by
  have e : nb (levX a b).natAbs ≤ 16000 ∧ nb (levY a b).natAbs ≤ 16000 ∧ -40000 ≤ levE a b ∧ levE a b ≤ 40000 := by
    have h1 := la.nb
    have h2 := lb.nb
    have h3 := la.1
    have h4 := la.2
    have h5 := lb.1
    have h6 := lb.2
    unfold levX levY levE
    by_cases ha : a.z = 0
    · rw [if_pos ha, if_pos ha, if_pos ha]
      exact ⟨by simp [nb_zero], by omega, by omega, by omega⟩
    · by_cases hb : b.z = 0
      · rw [if_neg ha, if_neg ha, if_neg ha, if_pos hb, if_pos hb, if_pos hb]
        exact ⟨by omega, by simp [nb_zero], by omega, by omega⟩
      · have := lev_size la lb hET ha hb
        rw [if_neg ha, if_neg ha, if_neg ha, if_neg hb, if_neg hb, if_neg hb]
        exact ⟨this.2.2.2.2.1, this.2.2.2.2.2, by omega, by omega⟩
  exact ⟨e.1, e.2.1, Nat.le_trans (nb_add _ _ 16000 e.1 e.2.1) (by omega), e.2.2⟩

set_option maxRecDepth 100000 in
set_option maxHeartbeats 4000000 in
theorem dadd_any (w : World) (p q : Q) (a b : D) (E T : Nat) (h : RD w p a) (h2 : RD w q b) (la : a.Lim E T) (lb : b.Lim E T) (hET : E + T ≤ 16000) (ht : BTab w) :
    Calls Tryd.prog 52 #[.agg #[.bool p.b, .slice p.A p.n p.c, .int .i64 a.x], .agg #[.bool q.b, .slice q.A q.n q.c, .int .i64 b.x]] w fun e w' => (∃ r : Q, e = .returned (.tuple #[.agg #[.bool r.b, .slice r.A r.n r.c, .int .i64 (a.add b).x], .int .i64 0]) ∧ RD w' r (a.add b)) ∧ Below w.heap.size w w' := by
  have HA := Lib.hid h
  have HB := Lib.hid h2
  have LA := Lib.hid la
  have LB := Lib.hid lb
  clear h h2 la lb
  have HT := Lib.hid ht
  clear ht
  have s0 := Lib.hid (lev_nb LA.out LB.out hET)
  rw [add_lev]
  have BX := Lib.hid (boxes3 w 53 #[.bool p.b, .slice p.A p.n p.c, .int .i64 a.x] 53 #[.bool q.b, .slice q.A q.n q.c, .int .i64 b.x] 53 #[.bool false, .slice none 0 0, .int .i64 0])
  go_enter Tryd.func52, Tryd.ntmps52
  go_wp2_with fail
  generalize ((w.alloc (.cells #[.bool p.b, .slice p.A p.n p.c, .int .i64 a.x] 53)).alloc (.cells #[.bool q.b, .slice q.A q.n q.c, .int .i64 b.x] 53)).alloc (.cells #[.bool false, .slice none 0 0, .int .i64 0] 53) = w0 at *
  obtain ⟨b0, b1, b2, hw⟩ := BX.out
  have Ba_0 := Lib.hid b0
  have Bb_0 := Lib.hid b1
  have Bo_0 := Lib.hid b2
  have HB_0 := Lib.hid hw
  have K := Dk.below (hw.mono (Nat.le_refl _))
  clear BX hw b0 b1 b2
  have RA_1 := Lib.hid (HA.out.dk K)
  have RB_2 := Lib.hid (HB.out.dk K)
  clear K HA HB
  have la := Ba_0.out.lt
  obtain ⟨ca0, ca1, ca2⟩ := Ba_0.out.cells3
  have lb := Bb_0.out.lt
  obtain ⟨cb0, cb1, cb2⟩ := Bb_0.out.cells3
  have lo := Bo_0.out.lt
  obtain ⟨co0, co1, co2⟩ := Bo_0.out.cells3
  go_wp2_with fail
  refine (dlevel_any _ p q a b E T RA_1.out RB_2.out LA.out LB.out hET).mono ?_
  rintro e w1 ⟨⟨r, s, rfl, hr, hs⟩, hb⟩
  clear la ca0 ca1 ca2 lb cb0 cb1 cb2 lo co0 co1 co2
  have K := Dk.below hb
  have Ba_3 := Lib.hid (show Bk _ _ _ #[.bool p.b, .slice p.A p.n p.c, .int .i64 a.x] from Ba_0.out.below hb)
  have Bb_4 := Lib.hid (show Bk _ _ _ #[.bool q.b, .slice q.A q.n q.c, .int .i64 b.x] from Bb_0.out.below hb)
  have Bo_5 := Lib.hid (show Bk _ _ _ #[.bool false, .slice none 0 0, .int .i64 0] from Bo_0.out.below hb)
  have HB_6 := Lib.hid (below_tr HB_0.out hb)
  clear hb
  have RA_7 := Lib.hid (RA_1.out.dk K)
  have RB_8 := Lib.hid (RB_2.out.dk K)
  clear K Ba_0 Bb_0 Bo_0 HB_0 RA_1 RB_2
  have RX_9 := Lib.hid hr
  clear hr
  have RY_10 := Lib.hid hs
  clear hs
  have la := Ba_3.out.lt
  obtain ⟨ca0, ca1, ca2⟩ := Ba_3.out.cells3
  have lb := Bb_4.out.lt
  obtain ⟨cb0, cb1, cb2⟩ := Bb_4.out.cells3
  have lo := Bo_5.out.lt
  obtain ⟨co0, co1, co2⟩ := Bo_5.out.cells3
  have n_11 := Ba_3.out.lt
  have n_12 := Bb_4.out.lt
  have n_13 := Bo_5.out.lt
  go_wp2_with fail
  refine (wadd_q _ r s (levX a b) (levY a b) (RX_9.out.dk (((Dk.refl _).alloc _).alloc _)) (RY_10.out.dk (((Dk.refl _).alloc _).alloc _)) (s0.out.1) (s0.out.2.1)).mono ?_
  rintro e w2 ⟨⟨t, rfl, ht⟩, hb⟩
  clear la ca0 ca1 ca2 lb cb0 cb1 cb2 lo co0 co1 co2
  have K := Dk.trans (((Dk.refl _).alloc _).alloc _) (.below hb)
  have Ba_14 := Lib.hid (show Bk _ _ _ #[.bool p.b, .slice p.A p.n p.c, .int .i64 a.x] from ((Ba_3.out.alloc _).alloc _).below hb)
  have Bb_15 := Lib.hid (show Bk _ _ _ #[.bool q.b, .slice q.A q.n q.c, .int .i64 b.x] from ((Bb_4.out.alloc _).alloc _).below hb)
  have Bo_16 := Lib.hid (show Bk _ _ _ #[.bool false, .slice none 0 0, .int .i64 0] from ((Bo_5.out.alloc _).alloc _).below hb)
  have Bx_17 := Lib.hid (show Bk _ _ _ #[.bool r.b, .slice r.A r.n r.c] from ((Bk.new _ 51 #[.bool r.b, .slice r.A r.n r.c]).alloc _).below hb)
  have By_18 := Lib.hid (show Bk _ _ _ #[.bool s.b, .slice s.A s.n s.c] from (Bk.new_1 _ _ 51 #[.bool s.b, .slice s.A s.n s.c]).below hb)
  have HB_19 := Lib.hid (below_tr (below_al (below_al HB_6.out _) _) hb)
  clear hb
  have RA_20 := Lib.hid (RA_7.out.dk K)
  have RB_21 := Lib.hid (RB_8.out.dk K)
  have RX_22 := Lib.hid (RX_9.out.dk K)
  have RY_23 := Lib.hid (RY_10.out.dk K)
  clear K Ba_3 Bb_4 Bo_5 HB_6 RA_7 RB_8 RX_9 RY_10
  have RS_24 := Lib.hid ht
  clear ht
  have la := Ba_14.out.lt
  obtain ⟨ca0, ca1, ca2⟩ := Ba_14.out.cells3
  have lb := Bb_15.out.lt
  obtain ⟨cb0, cb1, cb2⟩ := Bb_15.out.cells3
  have lo := Bo_16.out.lt
  obtain ⟨co0, co1, co2⟩ := Bo_16.out.cells3
  have lx := Bx_17.out.lt
  obtain ⟨cx0, cx1⟩ := Bx_17.out.cells2
  have ly := By_18.out.lt
  obtain ⟨cy0, cy1⟩ := By_18.out.cells2
  have n_25 := Ba_14.out.lt
  have n_26 := Bb_15.out.lt
  have n_27 := Bo_16.out.lt
  have n_28 := Bx_17.out.lt
  have n_29 := By_18.out.lt
  go_wp2_with fail
  refine (dmake_q _ t (levX a b + levY a b) (levE a b) (RS_24.out.dk ((Dk.refl _).alloc _)) s0.out.2.2.1 s0.out.2.2.2.1 s0.out.2.2.2.2 (HT.out.below (below_al HB_19.out _))).mono ?_
  rintro e w3 ⟨⟨u, rfl, hu⟩, hb⟩
  clear la ca0 ca1 ca2 lb cb0 cb1 cb2 lo co0 co1 co2 lx cx0 cx1 ly cy0 cy1
  have K := Dk.trans ((Dk.refl _).alloc _) (.below hb)
  have Ba_30 := Lib.hid (show Bk _ _ _ #[.bool p.b, .slice p.A p.n p.c, .int .i64 a.x] from (Ba_14.out.alloc _).below hb)
  have Bb_31 := Lib.hid (show Bk _ _ _ #[.bool q.b, .slice q.A q.n q.c, .int .i64 b.x] from (Bb_15.out.alloc _).below hb)
  have Bo_32 := Lib.hid (show Bk _ _ _ #[.bool false, .slice none 0 0, .int .i64 0] from (Bo_16.out.alloc _).below hb)
  have Bx_33 := Lib.hid (show Bk _ _ _ #[.bool r.b, .slice r.A r.n r.c] from (Bx_17.out.alloc _).below hb)
  have By_34 := Lib.hid (show Bk _ _ _ #[.bool s.b, .slice s.A s.n s.c] from (By_18.out.alloc _).below hb)
  have Bs_35 := Lib.hid (show Bk _ _ _ #[.bool t.b, .slice t.A t.n t.c] from (Bk.new _ 51 #[.bool t.b, .slice t.A t.n t.c]).below hb)
  have HB_36 := Lib.hid (below_tr (below_al HB_19.out _) hb)
  clear hb
  have RA_37 := Lib.hid (RA_20.out.dk K)
  have RB_38 := Lib.hid (RB_21.out.dk K)
  have RX_39 := Lib.hid (RX_22.out.dk K)
  have RY_40 := Lib.hid (RY_23.out.dk K)
  have RS_41 := Lib.hid (RS_24.out.dk K)
  clear K Ba_14 Bb_15 Bo_16 Bx_17 By_18 HB_19 RA_20 RB_21 RX_22 RY_23 RS_24
  have RU_42 := Lib.hid hu
  clear hu
  have la := Ba_30.out.lt
  obtain ⟨ca0, ca1, ca2⟩ := Ba_30.out.cells3
  have lb := Bb_31.out.lt
  obtain ⟨cb0, cb1, cb2⟩ := Bb_31.out.cells3
  have lo := Bo_32.out.lt
  obtain ⟨co0, co1, co2⟩ := Bo_32.out.cells3
  have fo0 := Bo_32.out.free 0
  have fo1 := Bo_32.out.free 1
  have fo2 := Bo_32.out.free 2
  have lx := Bx_33.out.lt
  obtain ⟨cx0, cx1⟩ := Bx_33.out.cells2
  have ly := By_34.out.lt
  obtain ⟨cy0, cy1⟩ := By_34.out.cells2
  have ls := Bs_35.out.lt
  obtain ⟨cs0, cs1⟩ := Bs_35.out.cells2
  go_wp2
  refine bodyPost_ret (v := .tuple #[.agg #[.bool u.b, .slice u.A u.n u.c, .int .i64 (D.mk' (levX a b + levY a b) (levE a b)).x], .int .i64 0]) ?_ rfl ?_
  · simp [results, Tryd.f52, go_sem, co0, co1, co2]
  · have y0 := HB_36.out.size; exact ⟨⟨u, rfl, (RU_42.out.dk ((((Dk.refl _).set (cs := #[.bool false, .slice none 0 0, .int .i64 0]) Bo_32.out 0 (by intro _ hh; cases hh) (.bool u.b)).set (cs := #[.bool u.b, .slice none 0 0, .int .i64 0]) (Bo_32.out.set 0 (.bool u.b)) 1 (by intro _ hh; cases hh) (.slice u.A u.n u.c)).set (cs := #[.bool u.b, .slice u.A u.n u.c, .int .i64 0]) ((Bo_32.out.set 0 (.bool u.b)).set 1 (.slice u.A u.n u.c)) 2 (by intro _ hh; cases hh) (.int .i64 (D.mk' (levX a b + levY a b) (levE a b)).x)))⟩, (below_st (below_st (below_st HB_36.out 0 (by omega) (.bool u.b)) 1 (by omega) (.slice u.A u.n u.c)) 2 (by omega) (.int .i64 (D.mk' (levX a b + levY a b) (levE a b)).x))⟩

end Go.Proofs.YtgioppkggpfnoaaDoor.Nu
end

section
/- The walk of dyad.top. -/
set_option linter.unusedVariables false
namespace Go.Proofs.YtgioppkggpfnoaaDoor.Nu
open Go.RowKit Go.Proofs

set_option maxRecDepth 100000 in
set_option maxHeartbeats 4000000 in
theorem dtop_any (w : World) (p : Q) (a : D) (h : RD w p a) (hz : nb a.z.natAbs ≤ 16384) (hx : -20000 ≤ a.x ∧ a.x ≤ 20000) :
    Calls Tryd.prog 108 #[.agg #[.bool p.b, .slice p.A p.n p.c, .int .i64 a.x]] w fun e w' => e = .returned (.int .i64 a.top) ∧ Below w.heap.size w w' := by
  have HA := Lib.hid h
  clear h
  unfold D.top
  have e1 := Lib.hid (fun W => bits_q W p a.z)
  have y0 : nb a.z.natAbs ≤ 16384 := hz
  clear hz
  generalize nb a.z.natAbs = k at *
  have y1 : IntKind.i64.wrap (a.x + (k : Int)) = a.x + (k : Int) := by rw [IntKind.wrap_i64]; omega
  have BX := Lib.hid (boxes1 w 53 #[.bool p.b, .slice p.A p.n p.c, .int .i64 a.x])
  go_enter Tryd.func108, Tryd.ntmps108
  go_wp2_with fail
  generalize w.alloc (.cells #[.bool p.b, .slice p.A p.n p.c, .int .i64 a.x] 53) = w0 at *
  obtain ⟨b0, hw⟩ := BX.out
  have Ba_0 := Lib.hid b0
  have HB_0 := Lib.hid hw
  have K := Dk.below (hw.mono (Nat.le_refl _))
  clear BX hw b0
  have RA_1 := Lib.hid (HA.out.dk K)
  clear K HA
  have la := Ba_0.out.lt
  obtain ⟨ca0, ca1, ca2⟩ := Ba_0.out.cells3
  go_wp2_with fail
  go_quiet ((go_at_call 147; exact Calls.quiet_of_same (e1.out _ RA_1.out.1 y0)))
  go_wp2
  go_ret
  exact ⟨rfl, below_drewN HB_0.out _⟩

end Go.Proofs.YtgioppkggpfnoaaDoor.Nu
end

section
/- The walk of dyad.Compare. -/
set_option linter.unusedVariables false
namespace Go.Proofs.YtgioppkggpfnoaaDoor.Nu
open Go.RowKit Go.Proofs

theorem lim_top {a : D} {E T : Nat} (h : a.Lim E T) (hET : E + T ≤ 16000) : nb a.z.natAbs ≤ 16384 ∧ -20000 ≤ a.x ∧ a.x ≤ 20000 := by
  have h1 := h.nb
  have h2 := h.1
  have h3 := h.2
  omega
theorem cmp_sgn_lt {a b : D} (h : sgn a.z < sgn b.z) : a.cmp b = -1 := by
  have h1 := sgn_cases a.z
  have h2 := sgn_cases b.z
  apply dcmp_lt
  have h3 := val_neg (d := a)
  have h4 := val_pos (d := b)
  have h5 := val_neg (d := b)
  have h6 := val_pos (d := a)
  by_cases ha : a.z < 0
  · have h7 := h3.2 ha
    have h8 : ¬ b.val < 0 := fun e => by have := h5.1 e; omega
    grind
  · have h7 : ¬ a.val < 0 := fun e => ha (h3.1 e)
    have h8 := h4.2 (by omega)
    have h9 : ¬ 0 < a.val := fun e => by have := h6.1 e; omega
    grind
theorem dcmp_swap (a b : D) : a.cmp b = - b.cmp a := by
  have h1 := qcmp_cases a.val b.val
  have h2 := qcmp_cases b.val a.val
  unfold D.cmp
  rcases h1 with ⟨h, e⟩ | ⟨h, e⟩ | ⟨h, e⟩ <;> rcases h2 with ⟨h', e'⟩ | ⟨h', e'⟩ | ⟨h', e'⟩ <;> first | omega | (exfalso; grind)
theorem cmp_sgn_gt {a b : D} (h : sgn b.z < sgn a.z) : a.cmp b = 1 := by rw [dcmp_swap, cmp_sgn_lt h]; rfl
theorem cmp_sgn_zero {a b : D} (h : sgn a.z = sgn b.z) (h0 : sgn a.z = 0) : a.cmp b = 0 := by
  have h1 := sgn_cases a.z
  have h2 := sgn_cases b.z
  apply dcmp_eq
  rw [val_of_zero (d := a) (by omega), val_of_zero (d := b) (by omega)]
theorem cmp_top_p {a b : D} (h : sgn a.z = sgn b.z) (h0 : 0 < sgn a.z) (ht : a.top < b.top) : a.cmp b = -1 := by
  have h1 := sgn_cases a.z
  have h2 := sgn_cases b.z
  exact dcmp_lt (dtop_lt (by omega) ht)
theorem cmp_top_n {a b : D} (h : sgn a.z = sgn b.z) (h0 : sgn a.z < 0) (ht : b.top < a.top) : a.cmp b = -1 := by
  have h1 := sgn_cases a.z
  have h2 := sgn_cases b.z
  exact dcmp_lt (top_lt_neg (by omega) ht)
theorem cmp_lev {a b : D} (ha : a.z ≠ 0) (hb : b.z ≠ 0) : icmp (levX a b) (levY a b) = a.cmp b := by
  have h := scaled_cmp (a := a) (b := b) (low := min a.x b.x) (by omega) (by omega)
  unfold levX levY
  rw [if_neg ha, if_neg hb, if_neg ha, if_neg hb]
  generalize a.z * 2 ^ (a.x - min a.x b.x).toNat = X at *
  generalize b.z * 2 ^ (b.x - min a.x b.x).toNat = Y at *
  rcases Int.lt_trichotomy X Y with h1 | h1 | h1
  · rw [icmp_lt h1, dcmp_lt (h.1.1 h1)]
  · rw [icmp_eq h1.symm, dcmp_eq (h.2.1 h1)]
  · rw [icmp_gt h1, dcmp_gt]
    have h2 : ¬ a.val < b.val := fun e => by have := h.1.2 e; omega
    have h3 : ¬ a.val = b.val := fun e => by have := h.2.2 e; omega
    grind

set_option maxRecDepth 100000 in
set_option maxHeartbeats 4000000 in
theorem dcmp_a (w : World) (p q : Q) (a b : D) (E T : Nat) (h : RD w p a) (h2 : RD w q b) (la : a.Lim E T) (lb : b.Lim E T) (hET : E + T ≤ 16000) (hne : sgn a.z ≠ sgn b.z) :
    Calls Tryd.prog 48 #[.agg #[.bool p.b, .slice p.A p.n p.c, .int .i64 a.x], .agg #[.bool q.b, .slice q.A q.n q.c, .int .i64 b.x]] w fun e w' => e = .returned (.int .i64 (a.cmp b)) ∧ Below w.heap.size w w' := by
  have HA := Lib.hid h
  have HB := Lib.hid h2
  have LA := Lib.hid la
  have LB := Lib.hid lb
  clear h h2 la lb
  by_cases he : sgn a.z < sgn b.z
  · have HS := Lib.hid (cmp_sgn_lt he).symm
    have q0 : ((sgn a.z : Int) == sgn b.z) = false := by rw [beq_eq_false_iff_ne]; exact hne
    have q1 : ((sgn a.z : Int) != sgn b.z) = true := by rw [bne, q0]; rfl
    have q2 : sgn a.z < sgn b.z := he
    clear he hne
    have BX := Lib.hid (boxes2 w 53 #[.bool p.b, .slice p.A p.n p.c, .int .i64 a.x] 53 #[.bool q.b, .slice q.A q.n q.c, .int .i64 b.x])
    go_enter Tryd.func48, Tryd.ntmps48
    go_wp2_with fail
    generalize (w.alloc (.cells #[.bool p.b, .slice p.A p.n p.c, .int .i64 a.x] 53)).alloc (.cells #[.bool q.b, .slice q.A q.n q.c, .int .i64 b.x] 53) = w0 at *
    obtain ⟨b0, b1, hw⟩ := BX.out
    have Ba_0 := Lib.hid b0
    have Bb_0 := Lib.hid b1
    have HB_0 := Lib.hid hw
    have K := Dk.below (hw.mono (Nat.le_refl _))
    clear BX hw b0 b1
    have RA_1 := Lib.hid (HA.out.dk K)
    have RB_2 := Lib.hid (HB.out.dk K)
    clear K HA HB
    have la := Ba_0.out.lt
    obtain ⟨ca0, ca1, ca2⟩ := Ba_0.out.cells3
    have lb := Bb_0.out.lt
    obtain ⟨cb0, cb1, cb2⟩ := Bb_0.out.cells3
    go_wp2_with fail
    have tok_3 : True := trivial
    have tok_4 : True := trivial
    go_region_held3 (fun w' => w'.cell? ⟨w.heap.size, 0, none⟩ = some (.bool p.b) ∧ w'.cell? ⟨w.heap.size, 1, none⟩ = some (.slice p.A p.n p.c) ∧ w'.cell? ⟨w.heap.size, 2, none⟩ = some (.int .i64 a.x) ∧ w'.cell? ⟨w.heap.size + 1, 0, none⟩ = some (.bool q.b) ∧ w'.cell? ⟨w.heap.size + 1, 1, none⟩ = some (.slice q.A q.n q.c) ∧ w'.cell? ⟨w.heap.size + 1, 2, none⟩ = some (.int .i64 b.x)) (first | exact ⟨Ba_0.out.cell 0 rfl, Ba_0.out.cell 1 rfl, Ba_0.out.cell 2 rfl, Bb_0.out.cell 0 rfl, Bb_0.out.cell 1 rfl, Bb_0.out.cell 2 rfl⟩ | exact ⟨Ba_5.out.cell 0 rfl, Ba_5.out.cell 1 rfl, Ba_5.out.cell 2 rfl, Bb_6.out.cell 0 rfl, Bb_6.out.cell 1 rfl, Bb_6.out.cell 2 rfl⟩ | exact ⟨Ba_10.out.cell 0 rfl, Ba_10.out.cell 1 rfl, Ba_10.out.cell 2 rfl, Bb_11.out.cell 0 rfl, Bb_11.out.cell 1 rfl, Bb_11.out.cell 2 rfl⟩)
      (first
       | (have _ := tok_3; go_at_call 34; clear tok_3; refine (dsign_q _ p a (RA_1.out.dk ((Dk.refl _).drew))).mono ?_; rintro e w1 ⟨rfl, hb⟩; clear la ca0 ca1 ca2 lb cb0 cb1 cb2; have K := Dk.trans ((Dk.refl _).drew) (.below hb); have Ba_5 := Lib.hid (show Bk _ _ _ #[.bool p.b, .slice p.A p.n p.c, .int .i64 a.x] from (Ba_0.out.drew).below hb); have Bb_6 := Lib.hid (show Bk _ _ _ #[.bool q.b, .slice q.A q.n q.c, .int .i64 b.x] from (Bb_0.out.drew).below hb); have HB_7 := Lib.hid (below_tr (below_dr HB_0.out) hb); clear hb; have RA_8 := Lib.hid (RA_1.out.dk K); have RB_9 := Lib.hid (RB_2.out.dk K); clear K Ba_0 Bb_0 HB_0 RA_1 RB_2; have la := Ba_5.out.lt; obtain ⟨ca0, ca1, ca2⟩ := Ba_5.out.cells3; have lb := Bb_6.out.lt; obtain ⟨cb0, cb1, cb2⟩ := Bb_6.out.cells3)
       | (have _ := tok_4; go_at_call 34; clear tok_4; refine (dsign_q _ q b RB_9.out).mono ?_; rintro e w2 ⟨rfl, hb⟩; clear la ca0 ca1 ca2 lb cb0 cb1 cb2; have K := Dk.below hb; have Ba_10 := Lib.hid (show Bk _ _ _ #[.bool p.b, .slice p.A p.n p.c, .int .i64 a.x] from Ba_5.out.below hb); have Bb_11 := Lib.hid (show Bk _ _ _ #[.bool q.b, .slice q.A q.n q.c, .int .i64 b.x] from Bb_6.out.below hb); have HB_12 := Lib.hid (below_tr HB_7.out hb); clear hb; have RA_13 := Lib.hid (RA_8.out.dk K); have RB_14 := Lib.hid (RB_9.out.dk K); clear K Ba_5 Bb_6 HB_7 RA_8 RB_9; have la := Ba_10.out.lt; obtain ⟨ca0, ca1, ca2⟩ := Ba_10.out.cells3; have lb := Bb_11.out.lt; obtain ⟨cb0, cb1, cb2⟩ := Bb_11.out.cells3))
    generalize sgn a.z = x at *
    generalize sgn b.z = y at *
    go_wp2
    go_ret
    exact ⟨ret_int HS.out, HB_12.out⟩
  · have HS := Lib.hid (cmp_sgn_gt (a := a) (b := b) (by omega)).symm
    have q0 : ((sgn a.z : Int) == sgn b.z) = false := by rw [beq_eq_false_iff_ne]; exact hne
    have q1 : ((sgn a.z : Int) != sgn b.z) = true := by rw [bne, q0]; rfl
    have q2 : ¬ sgn a.z < sgn b.z := he
    clear he hne
    have BX := Lib.hid (boxes2 w 53 #[.bool p.b, .slice p.A p.n p.c, .int .i64 a.x] 53 #[.bool q.b, .slice q.A q.n q.c, .int .i64 b.x])
    go_enter Tryd.func48, Tryd.ntmps48
    go_wp2_with fail
    generalize (w.alloc (.cells #[.bool p.b, .slice p.A p.n p.c, .int .i64 a.x] 53)).alloc (.cells #[.bool q.b, .slice q.A q.n q.c, .int .i64 b.x] 53) = w0 at *
    obtain ⟨b0, b1, hw⟩ := BX.out
    have Ba_0 := Lib.hid b0
    have Bb_0 := Lib.hid b1
    have HB_0 := Lib.hid hw
    have K := Dk.below (hw.mono (Nat.le_refl _))
    clear BX hw b0 b1
    have RA_1 := Lib.hid (HA.out.dk K)
    have RB_2 := Lib.hid (HB.out.dk K)
    clear K HA HB
    have la := Ba_0.out.lt
    obtain ⟨ca0, ca1, ca2⟩ := Ba_0.out.cells3
    have lb := Bb_0.out.lt
    obtain ⟨cb0, cb1, cb2⟩ := Bb_0.out.cells3
    go_wp2_with fail
    have tok_3 : True := trivial
    have tok_4 : True := trivial
    go_region_held3 (fun w' => w'.cell? ⟨w.heap.size, 0, none⟩ = some (.bool p.b) ∧ w'.cell? ⟨w.heap.size, 1, none⟩ = some (.slice p.A p.n p.c) ∧ w'.cell? ⟨w.heap.size, 2, none⟩ = some (.int .i64 a.x) ∧ w'.cell? ⟨w.heap.size + 1, 0, none⟩ = some (.bool q.b) ∧ w'.cell? ⟨w.heap.size + 1, 1, none⟩ = some (.slice q.A q.n q.c) ∧ w'.cell? ⟨w.heap.size + 1, 2, none⟩ = some (.int .i64 b.x)) (first | exact ⟨Ba_0.out.cell 0 rfl, Ba_0.out.cell 1 rfl, Ba_0.out.cell 2 rfl, Bb_0.out.cell 0 rfl, Bb_0.out.cell 1 rfl, Bb_0.out.cell 2 rfl⟩ | exact ⟨Ba_5.out.cell 0 rfl, Ba_5.out.cell 1 rfl, Ba_5.out.cell 2 rfl, Bb_6.out.cell 0 rfl, Bb_6.out.cell 1 rfl, Bb_6.out.cell 2 rfl⟩ | exact ⟨Ba_10.out.cell 0 rfl, Ba_10.out.cell 1 rfl, Ba_10.out.cell 2 rfl, Bb_11.out.cell 0 rfl, Bb_11.out.cell 1 rfl, Bb_11.out.cell 2 rfl⟩)
      (first
       | (have _ := tok_3; go_at_call 34; clear tok_3; refine (dsign_q _ p a (RA_1.out.dk ((Dk.refl _).drew))).mono ?_; rintro e w1 ⟨rfl, hb⟩; clear la ca0 ca1 ca2 lb cb0 cb1 cb2; have K := Dk.trans ((Dk.refl _).drew) (.below hb); have Ba_5 := Lib.hid (show Bk _ _ _ #[.bool p.b, .slice p.A p.n p.c, .int .i64 a.x] from (Ba_0.out.drew).below hb); have Bb_6 := Lib.hid (show Bk _ _ _ #[.bool q.b, .slice q.A q.n q.c, .int .i64 b.x] from (Bb_0.out.drew).below hb); have HB_7 := Lib.hid (below_tr (below_dr HB_0.out) hb); clear hb; have RA_8 := Lib.hid (RA_1.out.dk K); have RB_9 := Lib.hid (RB_2.out.dk K); clear K Ba_0 Bb_0 HB_0 RA_1 RB_2; have la := Ba_5.out.lt; obtain ⟨ca0, ca1, ca2⟩ := Ba_5.out.cells3; have lb := Bb_6.out.lt; obtain ⟨cb0, cb1, cb2⟩ := Bb_6.out.cells3)
       | (have _ := tok_4; go_at_call 34; clear tok_4; refine (dsign_q _ q b RB_9.out).mono ?_; rintro e w2 ⟨rfl, hb⟩; clear la ca0 ca1 ca2 lb cb0 cb1 cb2; have K := Dk.below hb; have Ba_10 := Lib.hid (show Bk _ _ _ #[.bool p.b, .slice p.A p.n p.c, .int .i64 a.x] from Ba_5.out.below hb); have Bb_11 := Lib.hid (show Bk _ _ _ #[.bool q.b, .slice q.A q.n q.c, .int .i64 b.x] from Bb_6.out.below hb); have HB_12 := Lib.hid (below_tr HB_7.out hb); clear hb; have RA_13 := Lib.hid (RA_8.out.dk K); have RB_14 := Lib.hid (RB_9.out.dk K); clear K Ba_5 Bb_6 HB_7 RA_8 RB_9; have la := Ba_10.out.lt; obtain ⟨ca0, ca1, ca2⟩ := Ba_10.out.cells3; have lb := Bb_11.out.lt; obtain ⟨cb0, cb1, cb2⟩ := Bb_11.out.cells3))
    generalize sgn a.z = x at *
    generalize sgn b.z = y at *
    go_wp2
    go_ret
    exact ⟨ret_int HS.out, HB_12.out⟩

set_option maxRecDepth 100000 in
set_option maxHeartbeats 4000000 in
theorem dcmp_z (w : World) (p q : Q) (a b : D) (E T : Nat) (h : RD w p a) (h2 : RD w q b) (la : a.Lim E T) (lb : b.Lim E T) (hET : E + T ≤ 16000) (he : sgn a.z = sgn b.z) (h0 : sgn a.z = 0) :
    Calls Tryd.prog 48 #[.agg #[.bool p.b, .slice p.A p.n p.c, .int .i64 a.x], .agg #[.bool q.b, .slice q.A q.n q.c, .int .i64 b.x]] w fun e w' => e = .returned (.int .i64 (a.cmp b)) ∧ Below w.heap.size w w' := by
  have HA := Lib.hid h
  have HB := Lib.hid h2
  have LA := Lib.hid la
  have LB := Lib.hid lb
  clear h h2 la lb
  have HS := Lib.hid (cmp_sgn_zero he h0).symm
  have q0 : ((sgn a.z : Int) == sgn b.z) = true := by rw [beq_iff_eq]; exact he
  have q1 : ((sgn a.z : Int) != sgn b.z) = false := by rw [bne, q0]; rfl
  have q2 : ((sgn a.z : Int) == 0) = true := by rw [beq_iff_eq]; exact h0
  clear he h0
  have BX := Lib.hid (boxes2 w 53 #[.bool p.b, .slice p.A p.n p.c, .int .i64 a.x] 53 #[.bool q.b, .slice q.A q.n q.c, .int .i64 b.x])
  go_enter Tryd.func48, Tryd.ntmps48
  go_wp2_with fail
  generalize (w.alloc (.cells #[.bool p.b, .slice p.A p.n p.c, .int .i64 a.x] 53)).alloc (.cells #[.bool q.b, .slice q.A q.n q.c, .int .i64 b.x] 53) = w0 at *
  obtain ⟨b0, b1, hw⟩ := BX.out
  have Ba_0 := Lib.hid b0
  have Bb_0 := Lib.hid b1
  have HB_0 := Lib.hid hw
  have K := Dk.below (hw.mono (Nat.le_refl _))
  clear BX hw b0 b1
  have RA_1 := Lib.hid (HA.out.dk K)
  have RB_2 := Lib.hid (HB.out.dk K)
  clear K HA HB
  have la := Ba_0.out.lt
  obtain ⟨ca0, ca1, ca2⟩ := Ba_0.out.cells3
  have lb := Bb_0.out.lt
  obtain ⟨cb0, cb1, cb2⟩ := Bb_0.out.cells3
  go_wp2_with fail
  have tok_3 : True := trivial
  have tok_4 : True := trivial
  go_region_held3 (fun w' => w'.cell? ⟨w.heap.size, 0, none⟩ = some (.bool p.b) ∧ w'.cell? ⟨w.heap.size, 1, none⟩ = some (.slice p.A p.n p.c) ∧ w'.cell? ⟨w.heap.size, 2, none⟩ = some (.int .i64 a.x) ∧ w'.cell? ⟨w.heap.size + 1, 0, none⟩ = some (.bool q.b) ∧ w'.cell? ⟨w.heap.size + 1, 1, none⟩ = some (.slice q.A q.n q.c) ∧ w'.cell? ⟨w.heap.size + 1, 2, none⟩ = some (.int .i64 b.x)) (first | exact ⟨Ba_0.out.cell 0 rfl, Ba_0.out.cell 1 rfl, Ba_0.out.cell 2 rfl, Bb_0.out.cell 0 rfl, Bb_0.out.cell 1 rfl, Bb_0.out.cell 2 rfl⟩ | exact ⟨Ba_5.out.cell 0 rfl, Ba_5.out.cell 1 rfl, Ba_5.out.cell 2 rfl, Bb_6.out.cell 0 rfl, Bb_6.out.cell 1 rfl, Bb_6.out.cell 2 rfl⟩ | exact ⟨Ba_10.out.cell 0 rfl, Ba_10.out.cell 1 rfl, Ba_10.out.cell 2 rfl, Bb_11.out.cell 0 rfl, Bb_11.out.cell 1 rfl, Bb_11.out.cell 2 rfl⟩)
    (first
     | (have _ := tok_3; go_at_call 34; clear tok_3; refine (dsign_q _ p a (RA_1.out.dk ((Dk.refl _).drew))).mono ?_; rintro e w1 ⟨rfl, hb⟩; clear la ca0 ca1 ca2 lb cb0 cb1 cb2; have K := Dk.trans ((Dk.refl _).drew) (.below hb); have Ba_5 := Lib.hid (show Bk _ _ _ #[.bool p.b, .slice p.A p.n p.c, .int .i64 a.x] from (Ba_0.out.drew).below hb); have Bb_6 := Lib.hid (show Bk _ _ _ #[.bool q.b, .slice q.A q.n q.c, .int .i64 b.x] from (Bb_0.out.drew).below hb); have HB_7 := Lib.hid (below_tr (below_dr HB_0.out) hb); clear hb; have RA_8 := Lib.hid (RA_1.out.dk K); have RB_9 := Lib.hid (RB_2.out.dk K); clear K Ba_0 Bb_0 HB_0 RA_1 RB_2; have la := Ba_5.out.lt; obtain ⟨ca0, ca1, ca2⟩ := Ba_5.out.cells3; have lb := Bb_6.out.lt; obtain ⟨cb0, cb1, cb2⟩ := Bb_6.out.cells3)
     | (have _ := tok_4; go_at_call 34; clear tok_4; refine (dsign_q _ q b RB_9.out).mono ?_; rintro e w2 ⟨rfl, hb⟩; clear la ca0 ca1 ca2 lb cb0 cb1 cb2; have K := Dk.below hb; have Ba_10 := Lib.hid (show Bk _ _ _ #[.bool p.b, .slice p.A p.n p.c, .int .i64 a.x] from Ba_5.out.below hb); have Bb_11 := Lib.hid (show Bk _ _ _ #[.bool q.b, .slice q.A q.n q.c, .int .i64 b.x] from Bb_6.out.below hb); have HB_12 := Lib.hid (below_tr HB_7.out hb); clear hb; have RA_13 := Lib.hid (RA_8.out.dk K); have RB_14 := Lib.hid (RB_9.out.dk K); clear K Ba_5 Bb_6 HB_7 RA_8 RB_9; have la := Ba_10.out.lt; obtain ⟨ca0, ca1, ca2⟩ := Ba_10.out.cells3; have lb := Bb_11.out.lt; obtain ⟨cb0, cb1, cb2⟩ := Bb_11.out.cells3))
  generalize sgn a.z = x at *
  generalize sgn b.z = y at *
  go_wp2
  go_ret
  exact ⟨ret_int HS.out, HB_12.out⟩

end Go.Proofs.YtgioppkggpfnoaaDoor.Nu
end

section
/- The walk of dyad.Compare where the sizes differ. -/
set_option linter.unusedVariables false
namespace Go.Proofs.YtgioppkggpfnoaaDoor.Nu
open Go.RowKit Go.Proofs

set_option maxRecDepth 100000 in
set_option maxHeartbeats 4000000 in
theorem dcmp_t (w : World) (p q : Q) (a b : D) (E T : Nat) (h : RD w p a) (h2 : RD w q b) (la : a.Lim E T) (lb : b.Lim E T) (hET : E + T ≤ 16000) (he : sgn a.z = sgn b.z) (h0 : sgn a.z ≠ 0) (hne : a.top ≠ b.top) :
    Calls Tryd.prog 48 #[.agg #[.bool p.b, .slice p.A p.n p.c, .int .i64 a.x], .agg #[.bool q.b, .slice q.A q.n q.c, .int .i64 b.x]] w fun e w' => e = .returned (.int .i64 (a.cmp b)) ∧ Below w.heap.size w w' := by
  have HA := Lib.hid h
  have HB := Lib.hid h2
  have LA := Lib.hid la
  have LB := Lib.hid lb
  clear h h2 la lb
  by_cases hs : 0 < sgn a.z
  · by_cases hl : a.top < b.top
    · have HS := Lib.hid (show a.cmp b = -1 from cmp_top_p he hs hl).symm
      have q0 : ((sgn a.z : Int) == sgn b.z) = true := by rw [beq_iff_eq]; exact he
      have q1 : ((sgn a.z : Int) != sgn b.z) = false := by rw [bne, q0]; rfl
      have q2 : ((sgn a.z : Int) == 0) = false := by rw [beq_eq_false_iff_ne]; exact h0
      have q3 : ((a.top : Int) == b.top) = false := by rw [beq_eq_false_iff_ne]; exact hne
      have q4 : ((a.top : Int) != b.top) = true := by rw [bne, q3]; rfl
      have q5 : a.top < b.top := by omega
      have q6 : 0 < sgn a.z := by omega
      clear he h0 hs hl hne
      have Q3 := Lib.hid q3
      have Q4 := Lib.hid q4
      have Q5 := Lib.hid q5
      clear q3 q4 q5
      have SA := Lib.hid (lim_top LA.out hET)
      have SB := Lib.hid (lim_top LB.out hET)
      have BX := Lib.hid (boxes2 w 53 #[.bool p.b, .slice p.A p.n p.c, .int .i64 a.x] 53 #[.bool q.b, .slice q.A q.n q.c, .int .i64 b.x])
      go_enter Tryd.func48, Tryd.ntmps48
      go_wp2_with fail
      generalize (w.alloc (.cells #[.bool p.b, .slice p.A p.n p.c, .int .i64 a.x] 53)).alloc (.cells #[.bool q.b, .slice q.A q.n q.c, .int .i64 b.x] 53) = w0 at *
      obtain ⟨b0, b1, hw⟩ := BX.out
      have Ba_0 := Lib.hid b0
      have Bb_0 := Lib.hid b1
      have HB_0 := Lib.hid hw
      have K := Dk.below (hw.mono (Nat.le_refl _))
      clear BX hw b0 b1
      have RA_1 := Lib.hid (HA.out.dk K)
      have RB_2 := Lib.hid (HB.out.dk K)
      clear K HA HB
      have la := Ba_0.out.lt
      obtain ⟨ca0, ca1, ca2⟩ := Ba_0.out.cells3
      have lb := Bb_0.out.lt
      obtain ⟨cb0, cb1, cb2⟩ := Bb_0.out.cells3
      go_wp2_with fail
      have tok_3 : True := trivial
      have tok_4 : True := trivial
      go_region_held3 (fun w' => w'.cell? ⟨w.heap.size, 0, none⟩ = some (.bool p.b) ∧ w'.cell? ⟨w.heap.size, 1, none⟩ = some (.slice p.A p.n p.c) ∧ w'.cell? ⟨w.heap.size, 2, none⟩ = some (.int .i64 a.x) ∧ w'.cell? ⟨w.heap.size + 1, 0, none⟩ = some (.bool q.b) ∧ w'.cell? ⟨w.heap.size + 1, 1, none⟩ = some (.slice q.A q.n q.c) ∧ w'.cell? ⟨w.heap.size + 1, 2, none⟩ = some (.int .i64 b.x)) (first | exact ⟨Ba_0.out.cell 0 rfl, Ba_0.out.cell 1 rfl, Ba_0.out.cell 2 rfl, Bb_0.out.cell 0 rfl, Bb_0.out.cell 1 rfl, Bb_0.out.cell 2 rfl⟩ | exact ⟨Ba_5.out.cell 0 rfl, Ba_5.out.cell 1 rfl, Ba_5.out.cell 2 rfl, Bb_6.out.cell 0 rfl, Bb_6.out.cell 1 rfl, Bb_6.out.cell 2 rfl⟩ | exact ⟨Ba_10.out.cell 0 rfl, Ba_10.out.cell 1 rfl, Ba_10.out.cell 2 rfl, Bb_11.out.cell 0 rfl, Bb_11.out.cell 1 rfl, Bb_11.out.cell 2 rfl⟩)
        (first
         | (have _ := tok_3; go_at_call 34; clear tok_3; refine (dsign_q _ p a (RA_1.out.dk ((Dk.refl _).drew))).mono ?_; rintro e w1 ⟨rfl, hb⟩; clear la ca0 ca1 ca2 lb cb0 cb1 cb2; have K := Dk.trans ((Dk.refl _).drew) (.below hb); have Ba_5 := Lib.hid (show Bk _ _ _ #[.bool p.b, .slice p.A p.n p.c, .int .i64 a.x] from (Ba_0.out.drew).below hb); have Bb_6 := Lib.hid (show Bk _ _ _ #[.bool q.b, .slice q.A q.n q.c, .int .i64 b.x] from (Bb_0.out.drew).below hb); have HB_7 := Lib.hid (below_tr (below_dr HB_0.out) hb); clear hb; have RA_8 := Lib.hid (RA_1.out.dk K); have RB_9 := Lib.hid (RB_2.out.dk K); clear K Ba_0 Bb_0 HB_0 RA_1 RB_2; have la := Ba_5.out.lt; obtain ⟨ca0, ca1, ca2⟩ := Ba_5.out.cells3; have lb := Bb_6.out.lt; obtain ⟨cb0, cb1, cb2⟩ := Bb_6.out.cells3)
         | (have _ := tok_4; go_at_call 34; clear tok_4; refine (dsign_q _ q b RB_9.out).mono ?_; rintro e w2 ⟨rfl, hb⟩; clear la ca0 ca1 ca2 lb cb0 cb1 cb2; have K := Dk.below hb; have Ba_10 := Lib.hid (show Bk _ _ _ #[.bool p.b, .slice p.A p.n p.c, .int .i64 a.x] from Ba_5.out.below hb); have Bb_11 := Lib.hid (show Bk _ _ _ #[.bool q.b, .slice q.A q.n q.c, .int .i64 b.x] from Bb_6.out.below hb); have HB_12 := Lib.hid (below_tr HB_7.out hb); clear hb; have RA_13 := Lib.hid (RA_8.out.dk K); have RB_14 := Lib.hid (RB_9.out.dk K); clear K Ba_5 Bb_6 HB_7 RA_8 RB_9; have la := Ba_10.out.lt; obtain ⟨ca0, ca1, ca2⟩ := Ba_10.out.cells3; have lb := Bb_11.out.lt; obtain ⟨cb0, cb1, cb2⟩ := Bb_11.out.cells3))
      generalize sgn a.z = x at *
      generalize sgn b.z = y at *
      clear la ca0 ca1 ca2 lb cb0 cb1 cb2
      have la := Ba_10.out.lt
      obtain ⟨ca0, ca1, ca2⟩ := Ba_10.out.cells3
      have lb := Bb_11.out.lt
      obtain ⟨cb0, cb1, cb2⟩ := Bb_11.out.cells3
      go_wp2_with fail
      have tok_15 : True := trivial
      have tok_16 : True := trivial
      go_region_held3 (fun w' => w'.cell? ⟨w.heap.size, 0, none⟩ = some (.bool p.b) ∧ w'.cell? ⟨w.heap.size, 1, none⟩ = some (.slice p.A p.n p.c) ∧ w'.cell? ⟨w.heap.size, 2, none⟩ = some (.int .i64 a.x) ∧ w'.cell? ⟨w.heap.size + 1, 0, none⟩ = some (.bool q.b) ∧ w'.cell? ⟨w.heap.size + 1, 1, none⟩ = some (.slice q.A q.n q.c) ∧ w'.cell? ⟨w.heap.size + 1, 2, none⟩ = some (.int .i64 b.x)) (first | exact ⟨Ba_10.out.cell 0 rfl, Ba_10.out.cell 1 rfl, Ba_10.out.cell 2 rfl, Bb_11.out.cell 0 rfl, Bb_11.out.cell 1 rfl, Bb_11.out.cell 2 rfl⟩ | exact ⟨Ba_17.out.cell 0 rfl, Ba_17.out.cell 1 rfl, Ba_17.out.cell 2 rfl, Bb_18.out.cell 0 rfl, Bb_18.out.cell 1 rfl, Bb_18.out.cell 2 rfl⟩ | exact ⟨Ba_22.out.cell 0 rfl, Ba_22.out.cell 1 rfl, Ba_22.out.cell 2 rfl, Bb_23.out.cell 0 rfl, Bb_23.out.cell 1 rfl, Bb_23.out.cell 2 rfl⟩)
        (first
         | (have _ := tok_15; go_at_call 108; clear tok_15; refine (dtop_any _ p a (RA_13.out.dk ((Dk.refl _).drew)) SA.out.1 SA.out.2).mono ?_; rintro e w3 ⟨rfl, hb⟩; clear la ca0 ca1 ca2 lb cb0 cb1 cb2; have K := Dk.trans ((Dk.refl _).drew) (.below hb); have Ba_17 := Lib.hid (show Bk _ _ _ #[.bool p.b, .slice p.A p.n p.c, .int .i64 a.x] from (Ba_10.out.drew).below hb); have Bb_18 := Lib.hid (show Bk _ _ _ #[.bool q.b, .slice q.A q.n q.c, .int .i64 b.x] from (Bb_11.out.drew).below hb); have HB_19 := Lib.hid (below_tr (below_dr HB_12.out) hb); clear hb; have RA_20 := Lib.hid (RA_13.out.dk K); have RB_21 := Lib.hid (RB_14.out.dk K); clear K Ba_10 Bb_11 HB_12 RA_13 RB_14; have la := Ba_17.out.lt; obtain ⟨ca0, ca1, ca2⟩ := Ba_17.out.cells3; have lb := Bb_18.out.lt; obtain ⟨cb0, cb1, cb2⟩ := Bb_18.out.cells3)
         | (have _ := tok_16; go_at_call 108; clear tok_16; refine (dtop_any _ q b RB_21.out SB.out.1 SB.out.2).mono ?_; rintro e w4 ⟨rfl, hb⟩; clear la ca0 ca1 ca2 lb cb0 cb1 cb2; have K := Dk.below hb; have Ba_22 := Lib.hid (show Bk _ _ _ #[.bool p.b, .slice p.A p.n p.c, .int .i64 a.x] from Ba_17.out.below hb); have Bb_23 := Lib.hid (show Bk _ _ _ #[.bool q.b, .slice q.A q.n q.c, .int .i64 b.x] from Bb_18.out.below hb); have HB_24 := Lib.hid (below_tr HB_19.out hb); clear hb; have RA_25 := Lib.hid (RA_20.out.dk K); have RB_26 := Lib.hid (RB_21.out.dk K); clear K Ba_17 Bb_18 HB_19 RA_20 RB_21; have la := Ba_22.out.lt; obtain ⟨ca0, ca1, ca2⟩ := Ba_22.out.cells3; have lb := Bb_23.out.lt; obtain ⟨cb0, cb1, cb2⟩ := Bb_23.out.cells3))
      generalize a.top = m at *
      generalize b.top = k at *
      have q3 := Q3.out
      have q4 := Q4.out
      have q5 := Q5.out
      have q7 : (decide (m < k) == decide (0 < x)) = true := by rw [decide_eq_true (show m < k by omega), decide_eq_true (show 0 < x by omega)]; rfl
      go_wp2
      go_ret
      exact ⟨ret_int HS.out, HB_24.out⟩
    · have HS := Lib.hid (show a.cmp b = 1 from by rw [dcmp_swap, cmp_top_p he.symm (by omega) (by omega)]; rfl).symm
      have q0 : ((sgn a.z : Int) == sgn b.z) = true := by rw [beq_iff_eq]; exact he
      have q1 : ((sgn a.z : Int) != sgn b.z) = false := by rw [bne, q0]; rfl
      have q2 : ((sgn a.z : Int) == 0) = false := by rw [beq_eq_false_iff_ne]; exact h0
      have q3 : ((a.top : Int) == b.top) = false := by rw [beq_eq_false_iff_ne]; exact hne
      have q4 : ((a.top : Int) != b.top) = true := by rw [bne, q3]; rfl
      have q5 : ¬ a.top < b.top := by omega
      have q6 : 0 < sgn a.z := by omega
      clear he h0 hs hl hne
      have Q3 := Lib.hid q3
      have Q4 := Lib.hid q4
      have Q5 := Lib.hid q5
      clear q3 q4 q5
      have SA := Lib.hid (lim_top LA.out hET)
      have SB := Lib.hid (lim_top LB.out hET)
      have BX := Lib.hid (boxes2 w 53 #[.bool p.b, .slice p.A p.n p.c, .int .i64 a.x] 53 #[.bool q.b, .slice q.A q.n q.c, .int .i64 b.x])
      go_enter Tryd.func48, Tryd.ntmps48
      go_wp2_with fail
      generalize (w.alloc (.cells #[.bool p.b, .slice p.A p.n p.c, .int .i64 a.x] 53)).alloc (.cells #[.bool q.b, .slice q.A q.n q.c, .int .i64 b.x] 53) = w0 at *
      obtain ⟨b0, b1, hw⟩ := BX.out
      have Ba_0 := Lib.hid b0
      have Bb_0 := Lib.hid b1
      have HB_0 := Lib.hid hw
      have K := Dk.below (hw.mono (Nat.le_refl _))
      clear BX hw b0 b1
      have RA_1 := Lib.hid (HA.out.dk K)
      have RB_2 := Lib.hid (HB.out.dk K)
      clear K HA HB
      have la := Ba_0.out.lt
      obtain ⟨ca0, ca1, ca2⟩ := Ba_0.out.cells3
      have lb := Bb_0.out.lt
      obtain ⟨cb0, cb1, cb2⟩ := Bb_0.out.cells3
      go_wp2_with fail
      have tok_3 : True := trivial
      have tok_4 : True := trivial
      go_region_held3 (fun w' => w'.cell? ⟨w.heap.size, 0, none⟩ = some (.bool p.b) ∧ w'.cell? ⟨w.heap.size, 1, none⟩ = some (.slice p.A p.n p.c) ∧ w'.cell? ⟨w.heap.size, 2, none⟩ = some (.int .i64 a.x) ∧ w'.cell? ⟨w.heap.size + 1, 0, none⟩ = some (.bool q.b) ∧ w'.cell? ⟨w.heap.size + 1, 1, none⟩ = some (.slice q.A q.n q.c) ∧ w'.cell? ⟨w.heap.size + 1, 2, none⟩ = some (.int .i64 b.x)) (first | exact ⟨Ba_0.out.cell 0 rfl, Ba_0.out.cell 1 rfl, Ba_0.out.cell 2 rfl, Bb_0.out.cell 0 rfl, Bb_0.out.cell 1 rfl, Bb_0.out.cell 2 rfl⟩ | exact ⟨Ba_5.out.cell 0 rfl, Ba_5.out.cell 1 rfl, Ba_5.out.cell 2 rfl, Bb_6.out.cell 0 rfl, Bb_6.out.cell 1 rfl, Bb_6.out.cell 2 rfl⟩ | exact ⟨Ba_10.out.cell 0 rfl, Ba_10.out.cell 1 rfl, Ba_10.out.cell 2 rfl, Bb_11.out.cell 0 rfl, Bb_11.out.cell 1 rfl, Bb_11.out.cell 2 rfl⟩)
        (first
         | (have _ := tok_3; go_at_call 34; clear tok_3; refine (dsign_q _ p a (RA_1.out.dk ((Dk.refl _).drew))).mono ?_; rintro e w1 ⟨rfl, hb⟩; clear la ca0 ca1 ca2 lb cb0 cb1 cb2; have K := Dk.trans ((Dk.refl _).drew) (.below hb); have Ba_5 := Lib.hid (show Bk _ _ _ #[.bool p.b, .slice p.A p.n p.c, .int .i64 a.x] from (Ba_0.out.drew).below hb); have Bb_6 := Lib.hid (show Bk _ _ _ #[.bool q.b, .slice q.A q.n q.c, .int .i64 b.x] from (Bb_0.out.drew).below hb); have HB_7 := Lib.hid (below_tr (below_dr HB_0.out) hb); clear hb; have RA_8 := Lib.hid (RA_1.out.dk K); have RB_9 := Lib.hid (RB_2.out.dk K); clear K Ba_0 Bb_0 HB_0 RA_1 RB_2; have la := Ba_5.out.lt; obtain ⟨ca0, ca1, ca2⟩ := Ba_5.out.cells3; have lb := Bb_6.out.lt; obtain ⟨cb0, cb1, cb2⟩ := Bb_6.out.cells3)
         | (have _ := tok_4; go_at_call 34; clear tok_4; refine (dsign_q _ q b RB_9.out).mono ?_; rintro e w2 ⟨rfl, hb⟩; clear la ca0 ca1 ca2 lb cb0 cb1 cb2; have K := Dk.below hb; have Ba_10 := Lib.hid (show Bk _ _ _ #[.bool p.b, .slice p.A p.n p.c, .int .i64 a.x] from Ba_5.out.below hb); have Bb_11 := Lib.hid (show Bk _ _ _ #[.bool q.b, .slice q.A q.n q.c, .int .i64 b.x] from Bb_6.out.below hb); have HB_12 := Lib.hid (below_tr HB_7.out hb); clear hb; have RA_13 := Lib.hid (RA_8.out.dk K); have RB_14 := Lib.hid (RB_9.out.dk K); clear K Ba_5 Bb_6 HB_7 RA_8 RB_9; have la := Ba_10.out.lt; obtain ⟨ca0, ca1, ca2⟩ := Ba_10.out.cells3; have lb := Bb_11.out.lt; obtain ⟨cb0, cb1, cb2⟩ := Bb_11.out.cells3))
      generalize sgn a.z = x at *
      generalize sgn b.z = y at *
      clear la ca0 ca1 ca2 lb cb0 cb1 cb2
      have la := Ba_10.out.lt
      obtain ⟨ca0, ca1, ca2⟩ := Ba_10.out.cells3
      have lb := Bb_11.out.lt
      obtain ⟨cb0, cb1, cb2⟩ := Bb_11.out.cells3
      go_wp2_with fail
      have tok_15 : True := trivial
      have tok_16 : True := trivial
      go_region_held3 (fun w' => w'.cell? ⟨w.heap.size, 0, none⟩ = some (.bool p.b) ∧ w'.cell? ⟨w.heap.size, 1, none⟩ = some (.slice p.A p.n p.c) ∧ w'.cell? ⟨w.heap.size, 2, none⟩ = some (.int .i64 a.x) ∧ w'.cell? ⟨w.heap.size + 1, 0, none⟩ = some (.bool q.b) ∧ w'.cell? ⟨w.heap.size + 1, 1, none⟩ = some (.slice q.A q.n q.c) ∧ w'.cell? ⟨w.heap.size + 1, 2, none⟩ = some (.int .i64 b.x)) (first | exact ⟨Ba_10.out.cell 0 rfl, Ba_10.out.cell 1 rfl, Ba_10.out.cell 2 rfl, Bb_11.out.cell 0 rfl, Bb_11.out.cell 1 rfl, Bb_11.out.cell 2 rfl⟩ | exact ⟨Ba_17.out.cell 0 rfl, Ba_17.out.cell 1 rfl, Ba_17.out.cell 2 rfl, Bb_18.out.cell 0 rfl, Bb_18.out.cell 1 rfl, Bb_18.out.cell 2 rfl⟩ | exact ⟨Ba_22.out.cell 0 rfl, Ba_22.out.cell 1 rfl, Ba_22.out.cell 2 rfl, Bb_23.out.cell 0 rfl, Bb_23.out.cell 1 rfl, Bb_23.out.cell 2 rfl⟩)
        (first
         | (have _ := tok_15; go_at_call 108; clear tok_15; refine (dtop_any _ p a (RA_13.out.dk ((Dk.refl _).drew)) SA.out.1 SA.out.2).mono ?_; rintro e w3 ⟨rfl, hb⟩; clear la ca0 ca1 ca2 lb cb0 cb1 cb2; have K := Dk.trans ((Dk.refl _).drew) (.below hb); have Ba_17 := Lib.hid (show Bk _ _ _ #[.bool p.b, .slice p.A p.n p.c, .int .i64 a.x] from (Ba_10.out.drew).below hb); have Bb_18 := Lib.hid (show Bk _ _ _ #[.bool q.b, .slice q.A q.n q.c, .int .i64 b.x] from (Bb_11.out.drew).below hb); have HB_19 := Lib.hid (below_tr (below_dr HB_12.out) hb); clear hb; have RA_20 := Lib.hid (RA_13.out.dk K); have RB_21 := Lib.hid (RB_14.out.dk K); clear K Ba_10 Bb_11 HB_12 RA_13 RB_14; have la := Ba_17.out.lt; obtain ⟨ca0, ca1, ca2⟩ := Ba_17.out.cells3; have lb := Bb_18.out.lt; obtain ⟨cb0, cb1, cb2⟩ := Bb_18.out.cells3)
         | (have _ := tok_16; go_at_call 108; clear tok_16; refine (dtop_any _ q b RB_21.out SB.out.1 SB.out.2).mono ?_; rintro e w4 ⟨rfl, hb⟩; clear la ca0 ca1 ca2 lb cb0 cb1 cb2; have K := Dk.below hb; have Ba_22 := Lib.hid (show Bk _ _ _ #[.bool p.b, .slice p.A p.n p.c, .int .i64 a.x] from Ba_17.out.below hb); have Bb_23 := Lib.hid (show Bk _ _ _ #[.bool q.b, .slice q.A q.n q.c, .int .i64 b.x] from Bb_18.out.below hb); have HB_24 := Lib.hid (below_tr HB_19.out hb); clear hb; have RA_25 := Lib.hid (RA_20.out.dk K); have RB_26 := Lib.hid (RB_21.out.dk K); clear K Ba_17 Bb_18 HB_19 RA_20 RB_21; have la := Ba_22.out.lt; obtain ⟨ca0, ca1, ca2⟩ := Ba_22.out.cells3; have lb := Bb_23.out.lt; obtain ⟨cb0, cb1, cb2⟩ := Bb_23.out.cells3))
      generalize a.top = m at *
      generalize b.top = k at *
      have q3 := Q3.out
      have q4 := Q4.out
      have q5 := Q5.out
      have q7 : (decide (m < k) == decide (0 < x)) = false := by rw [decide_eq_false (show ¬ m < k by omega), decide_eq_true (show 0 < x by omega)]; rfl
      go_wp2
      go_ret
      exact ⟨ret_int HS.out, HB_24.out⟩
  · by_cases hl : a.top < b.top
    · have HS := Lib.hid (show a.cmp b = 1 from by rw [dcmp_swap, cmp_top_n he.symm (by omega) hl]; rfl).symm
      have q0 : ((sgn a.z : Int) == sgn b.z) = true := by rw [beq_iff_eq]; exact he
      have q1 : ((sgn a.z : Int) != sgn b.z) = false := by rw [bne, q0]; rfl
      have q2 : ((sgn a.z : Int) == 0) = false := by rw [beq_eq_false_iff_ne]; exact h0
      have q3 : ((a.top : Int) == b.top) = false := by rw [beq_eq_false_iff_ne]; exact hne
      have q4 : ((a.top : Int) != b.top) = true := by rw [bne, q3]; rfl
      have q5 : a.top < b.top := by omega
      have q6 : ¬ 0 < sgn a.z := by omega
      clear he h0 hs hl hne
      have Q3 := Lib.hid q3
      have Q4 := Lib.hid q4
      have Q5 := Lib.hid q5
      clear q3 q4 q5
      have SA := Lib.hid (lim_top LA.out hET)
      have SB := Lib.hid (lim_top LB.out hET)
      have BX := Lib.hid (boxes2 w 53 #[.bool p.b, .slice p.A p.n p.c, .int .i64 a.x] 53 #[.bool q.b, .slice q.A q.n q.c, .int .i64 b.x])
      go_enter Tryd.func48, Tryd.ntmps48
      go_wp2_with fail
      generalize (w.alloc (.cells #[.bool p.b, .slice p.A p.n p.c, .int .i64 a.x] 53)).alloc (.cells #[.bool q.b, .slice q.A q.n q.c, .int .i64 b.x] 53) = w0 at *
      obtain ⟨b0, b1, hw⟩ := BX.out
      have Ba_0 := Lib.hid b0
      have Bb_0 := Lib.hid b1
      have HB_0 := Lib.hid hw
      have K := Dk.below (hw.mono (Nat.le_refl _))
      clear BX hw b0 b1
      have RA_1 := Lib.hid (HA.out.dk K)
      have RB_2 := Lib.hid (HB.out.dk K)
      clear K HA HB
      have la := Ba_0.out.lt
      obtain ⟨ca0, ca1, ca2⟩ := Ba_0.out.cells3
      have lb := Bb_0.out.lt
      obtain ⟨cb0, cb1, cb2⟩ := Bb_0.out.cells3
      go_wp2_with fail
      have tok_3 : True := trivial
      have tok_4 : True := trivial
      go_region_held3 (fun w' => w'.cell? ⟨w.heap.size, 0, none⟩ = some (.bool p.b) ∧ w'.cell? ⟨w.heap.size, 1, none⟩ = some (.slice p.A p.n p.c) ∧ w'.cell? ⟨w.heap.size, 2, none⟩ = some (.int .i64 a.x) ∧ w'.cell? ⟨w.heap.size + 1, 0, none⟩ = some (.bool q.b) ∧ w'.cell? ⟨w.heap.size + 1, 1, none⟩ = some (.slice q.A q.n q.c) ∧ w'.cell? ⟨w.heap.size + 1, 2, none⟩ = some (.int .i64 b.x)) (first | exact ⟨Ba_0.out.cell 0 rfl, Ba_0.out.cell 1 rfl, Ba_0.out.cell 2 rfl, Bb_0.out.cell 0 rfl, Bb_0.out.cell 1 rfl, Bb_0.out.cell 2 rfl⟩ | exact ⟨Ba_5.out.cell 0 rfl, Ba_5.out.cell 1 rfl, Ba_5.out.cell 2 rfl, Bb_6.out.cell 0 rfl, Bb_6.out.cell 1 rfl, Bb_6.out.cell 2 rfl⟩ | exact ⟨Ba_10.out.cell 0 rfl, Ba_10.out.cell 1 rfl, Ba_10.out.cell 2 rfl, Bb_11.out.cell 0 rfl, Bb_11.out.cell 1 rfl, Bb_11.out.cell 2 rfl⟩)
        (first
         | (have _ := tok_3; go_at_call 34; clear tok_3; refine (dsign_q _ p a (RA_1.out.dk ((Dk.refl _).drew))).mono ?_; rintro e w1 ⟨rfl, hb⟩; clear la ca0 ca1 ca2 lb cb0 cb1 cb2; have K := Dk.trans ((Dk.refl _).drew) (.below hb); have Ba_5 := Lib.hid (show Bk _ _ _ #[.bool p.b, .slice p.A p.n p.c, .int .i64 a.x] from (Ba_0.out.drew).below hb); have Bb_6 := Lib.hid (show Bk _ _ _ #[.bool q.b, .slice q.A q.n q.c, .int .i64 b.x] from (Bb_0.out.drew).below hb); have HB_7 := Lib.hid (below_tr (below_dr HB_0.out) hb); clear hb; have RA_8 := Lib.hid (RA_1.out.dk K); have RB_9 := Lib.hid (RB_2.out.dk K); clear K Ba_0 Bb_0 HB_0 RA_1 RB_2; have la := Ba_5.out.lt; obtain ⟨ca0, ca1, ca2⟩ := Ba_5.out.cells3; have lb := Bb_6.out.lt; obtain ⟨cb0, cb1, cb2⟩ := Bb_6.out.cells3)
         | (have _ := tok_4; go_at_call 34; clear tok_4; refine (dsign_q _ q b RB_9.out).mono ?_; rintro e w2 ⟨rfl, hb⟩; clear la ca0 ca1 ca2 lb cb0 cb1 cb2; have K := Dk.below hb; have Ba_10 := Lib.hid (show Bk _ _ _ #[.bool p.b, .slice p.A p.n p.c, .int .i64 a.x] from Ba_5.out.below hb); have Bb_11 := Lib.hid (show Bk _ _ _ #[.bool q.b, .slice q.A q.n q.c, .int .i64 b.x] from Bb_6.out.below hb); have HB_12 := Lib.hid (below_tr HB_7.out hb); clear hb; have RA_13 := Lib.hid (RA_8.out.dk K); have RB_14 := Lib.hid (RB_9.out.dk K); clear K Ba_5 Bb_6 HB_7 RA_8 RB_9; have la := Ba_10.out.lt; obtain ⟨ca0, ca1, ca2⟩ := Ba_10.out.cells3; have lb := Bb_11.out.lt; obtain ⟨cb0, cb1, cb2⟩ := Bb_11.out.cells3))
      generalize sgn a.z = x at *
      generalize sgn b.z = y at *
      clear la ca0 ca1 ca2 lb cb0 cb1 cb2
      have la := Ba_10.out.lt
      obtain ⟨ca0, ca1, ca2⟩ := Ba_10.out.cells3
      have lb := Bb_11.out.lt
      obtain ⟨cb0, cb1, cb2⟩ := Bb_11.out.cells3
      go_wp2_with fail
      have tok_15 : True := trivial
      have tok_16 : True := trivial
      go_region_held3 (fun w' => w'.cell? ⟨w.heap.size, 0, none⟩ = some (.bool p.b) ∧ w'.cell? ⟨w.heap.size, 1, none⟩ = some (.slice p.A p.n p.c) ∧ w'.cell? ⟨w.heap.size, 2, none⟩ = some (.int .i64 a.x) ∧ w'.cell? ⟨w.heap.size + 1, 0, none⟩ = some (.bool q.b) ∧ w'.cell? ⟨w.heap.size + 1, 1, none⟩ = some (.slice q.A q.n q.c) ∧ w'.cell? ⟨w.heap.size + 1, 2, none⟩ = some (.int .i64 b.x)) (first | exact ⟨Ba_10.out.cell 0 rfl, Ba_10.out.cell 1 rfl, Ba_10.out.cell 2 rfl, Bb_11.out.cell 0 rfl, Bb_11.out.cell 1 rfl, Bb_11.out.cell 2 rfl⟩ | exact ⟨Ba_17.out.cell 0 rfl, Ba_17.out.cell 1 rfl, Ba_17.out.cell 2 rfl, Bb_18.out.cell 0 rfl, Bb_18.out.cell 1 rfl, Bb_18.out.cell 2 rfl⟩ | exact ⟨Ba_22.out.cell 0 rfl, Ba_22.out.cell 1 rfl, Ba_22.out.cell 2 rfl, Bb_23.out.cell 0 rfl, Bb_23.out.cell 1 rfl, Bb_23.out.cell 2 rfl⟩)
        (first
         | (have _ := tok_15; go_at_call 108; clear tok_15; refine (dtop_any _ p a (RA_13.out.dk ((Dk.refl _).drew)) SA.out.1 SA.out.2).mono ?_; rintro e w3 ⟨rfl, hb⟩; clear la ca0 ca1 ca2 lb cb0 cb1 cb2; have K := Dk.trans ((Dk.refl _).drew) (.below hb); have Ba_17 := Lib.hid (show Bk _ _ _ #[.bool p.b, .slice p.A p.n p.c, .int .i64 a.x] from (Ba_10.out.drew).below hb); have Bb_18 := Lib.hid (show Bk _ _ _ #[.bool q.b, .slice q.A q.n q.c, .int .i64 b.x] from (Bb_11.out.drew).below hb); have HB_19 := Lib.hid (below_tr (below_dr HB_12.out) hb); clear hb; have RA_20 := Lib.hid (RA_13.out.dk K); have RB_21 := Lib.hid (RB_14.out.dk K); clear K Ba_10 Bb_11 HB_12 RA_13 RB_14; have la := Ba_17.out.lt; obtain ⟨ca0, ca1, ca2⟩ := Ba_17.out.cells3; have lb := Bb_18.out.lt; obtain ⟨cb0, cb1, cb2⟩ := Bb_18.out.cells3)
         | (have _ := tok_16; go_at_call 108; clear tok_16; refine (dtop_any _ q b RB_21.out SB.out.1 SB.out.2).mono ?_; rintro e w4 ⟨rfl, hb⟩; clear la ca0 ca1 ca2 lb cb0 cb1 cb2; have K := Dk.below hb; have Ba_22 := Lib.hid (show Bk _ _ _ #[.bool p.b, .slice p.A p.n p.c, .int .i64 a.x] from Ba_17.out.below hb); have Bb_23 := Lib.hid (show Bk _ _ _ #[.bool q.b, .slice q.A q.n q.c, .int .i64 b.x] from Bb_18.out.below hb); have HB_24 := Lib.hid (below_tr HB_19.out hb); clear hb; have RA_25 := Lib.hid (RA_20.out.dk K); have RB_26 := Lib.hid (RB_21.out.dk K); clear K Ba_17 Bb_18 HB_19 RA_20 RB_21; have la := Ba_22.out.lt; obtain ⟨ca0, ca1, ca2⟩ := Ba_22.out.cells3; have lb := Bb_23.out.lt; obtain ⟨cb0, cb1, cb2⟩ := Bb_23.out.cells3))
      generalize a.top = m at *
      generalize b.top = k at *
      have q3 := Q3.out
      have q4 := Q4.out
      have q5 := Q5.out
      have q7 : (decide (m < k) == decide (0 < x)) = false := by rw [decide_eq_true (show m < k by omega), decide_eq_false (show ¬ 0 < x by omega)]; rfl
      go_wp2
      go_ret
      exact ⟨ret_int HS.out, HB_24.out⟩
    · have HS := Lib.hid (show a.cmp b = -1 from cmp_top_n he (by omega) (by omega)).symm
      have q0 : ((sgn a.z : Int) == sgn b.z) = true := by rw [beq_iff_eq]; exact he
      have q1 : ((sgn a.z : Int) != sgn b.z) = false := by rw [bne, q0]; rfl
      have q2 : ((sgn a.z : Int) == 0) = false := by rw [beq_eq_false_iff_ne]; exact h0
      have q3 : ((a.top : Int) == b.top) = false := by rw [beq_eq_false_iff_ne]; exact hne
      have q4 : ((a.top : Int) != b.top) = true := by rw [bne, q3]; rfl
      have q5 : ¬ a.top < b.top := by omega
      have q6 : ¬ 0 < sgn a.z := by omega
      clear he h0 hs hl hne
      have Q3 := Lib.hid q3
      have Q4 := Lib.hid q4
      have Q5 := Lib.hid q5
      clear q3 q4 q5
      have SA := Lib.hid (lim_top LA.out hET)
      have SB := Lib.hid (lim_top LB.out hET)
      have BX := Lib.hid (boxes2 w 53 #[.bool p.b, .slice p.A p.n p.c, .int .i64 a.x] 53 #[.bool q.b, .slice q.A q.n q.c, .int .i64 b.x])
      go_enter Tryd.func48, Tryd.ntmps48
      go_wp2_with fail
      generalize (w.alloc (.cells #[.bool p.b, .slice p.A p.n p.c, .int .i64 a.x] 53)).alloc (.cells #[.bool q.b, .slice q.A q.n q.c, .int .i64 b.x] 53) = w0 at *
      obtain ⟨b0, b1, hw⟩ := BX.out
      have Ba_0 := Lib.hid b0
      have Bb_0 := Lib.hid b1
      have HB_0 := Lib.hid hw
      have K := Dk.below (hw.mono (Nat.le_refl _))
      clear BX hw b0 b1
      have RA_1 := Lib.hid (HA.out.dk K)
      have RB_2 := Lib.hid (HB.out.dk K)
      clear K HA HB
      have la := Ba_0.out.lt
      obtain ⟨ca0, ca1, ca2⟩ := Ba_0.out.cells3
      have lb := Bb_0.out.lt
      obtain ⟨cb0, cb1, cb2⟩ := Bb_0.out.cells3
      go_wp2_with fail
      have tok_3 : True := trivial
      have tok_4 : True := trivial
      go_region_held3 (fun w' => w'.cell? ⟨w.heap.size, 0, none⟩ = some (.bool p.b) ∧ w'.cell? ⟨w.heap.size, 1, none⟩ = some (.slice p.A p.n p.c) ∧ w'.cell? ⟨w.heap.size, 2, none⟩ = some (.int .i64 a.x) ∧ w'.cell? ⟨w.heap.size + 1, 0, none⟩ = some (.bool q.b) ∧ w'.cell? ⟨w.heap.size + 1, 1, none⟩ = some (.slice q.A q.n q.c) ∧ w'.cell? ⟨w.heap.size + 1, 2, none⟩ = some (.int .i64 b.x)) (first | exact ⟨Ba_0.out.cell 0 rfl, Ba_0.out.cell 1 rfl, Ba_0.out.cell 2 rfl, Bb_0.out.cell 0 rfl, Bb_0.out.cell 1 rfl, Bb_0.out.cell 2 rfl⟩ | exact ⟨Ba_5.out.cell 0 rfl, Ba_5.out.cell 1 rfl, Ba_5.out.cell 2 rfl, Bb_6.out.cell 0 rfl, Bb_6.out.cell 1 rfl, Bb_6.out.cell 2 rfl⟩ | exact ⟨Ba_10.out.cell 0 rfl, Ba_10.out.cell 1 rfl, Ba_10.out.cell 2 rfl, Bb_11.out.cell 0 rfl, Bb_11.out.cell 1 rfl, Bb_11.out.cell 2 rfl⟩)
        (first
         | (have _ := tok_3; go_at_call 34; clear tok_3; refine (dsign_q _ p a (RA_1.out.dk ((Dk.refl _).drew))).mono ?_; rintro e w1 ⟨rfl, hb⟩; clear la ca0 ca1 ca2 lb cb0 cb1 cb2; have K := Dk.trans ((Dk.refl _).drew) (.below hb); have Ba_5 := Lib.hid (show Bk _ _ _ #[.bool p.b, .slice p.A p.n p.c, .int .i64 a.x] from (Ba_0.out.drew).below hb); have Bb_6 := Lib.hid (show Bk _ _ _ #[.bool q.b, .slice q.A q.n q.c, .int .i64 b.x] from (Bb_0.out.drew).below hb); have HB_7 := Lib.hid (below_tr (below_dr HB_0.out) hb); clear hb; have RA_8 := Lib.hid (RA_1.out.dk K); have RB_9 := Lib.hid (RB_2.out.dk K); clear K Ba_0 Bb_0 HB_0 RA_1 RB_2; have la := Ba_5.out.lt; obtain ⟨ca0, ca1, ca2⟩ := Ba_5.out.cells3; have lb := Bb_6.out.lt; obtain ⟨cb0, cb1, cb2⟩ := Bb_6.out.cells3)
         | (have _ := tok_4; go_at_call 34; clear tok_4; refine (dsign_q _ q b RB_9.out).mono ?_; rintro e w2 ⟨rfl, hb⟩; clear la ca0 ca1 ca2 lb cb0 cb1 cb2; have K := Dk.below hb; have Ba_10 := Lib.hid (show Bk _ _ _ #[.bool p.b, .slice p.A p.n p.c, .int .i64 a.x] from Ba_5.out.below hb); have Bb_11 := Lib.hid (show Bk _ _ _ #[.bool q.b, .slice q.A q.n q.c, .int .i64 b.x] from Bb_6.out.below hb); have HB_12 := Lib.hid (below_tr HB_7.out hb); clear hb; have RA_13 := Lib.hid (RA_8.out.dk K); have RB_14 := Lib.hid (RB_9.out.dk K); clear K Ba_5 Bb_6 HB_7 RA_8 RB_9; have la := Ba_10.out.lt; obtain ⟨ca0, ca1, ca2⟩ := Ba_10.out.cells3; have lb := Bb_11.out.lt; obtain ⟨cb0, cb1, cb2⟩ := Bb_11.out.cells3))
      generalize sgn a.z = x at *
      generalize sgn b.z = y at *
      clear la ca0 ca1 ca2 lb cb0 cb1 cb2
      have la := Ba_10.out.lt
      obtain ⟨ca0, ca1, ca2⟩ := Ba_10.out.cells3
      have lb := Bb_11.out.lt
      obtain ⟨cb0, cb1, cb2⟩ := Bb_11.out.cells3
      go_wp2_with fail
      have tok_15 : True := trivial
      have tok_16 : True := trivial
      go_region_held3 (fun w' => w'.cell? ⟨w.heap.size, 0, none⟩ = some (.bool p.b) ∧ w'.cell? ⟨w.heap.size, 1, none⟩ = some (.slice p.A p.n p.c) ∧ w'.cell? ⟨w.heap.size, 2, none⟩ = some (.int .i64 a.x) ∧ w'.cell? ⟨w.heap.size + 1, 0, none⟩ = some (.bool q.b) ∧ w'.cell? ⟨w.heap.size + 1, 1, none⟩ = some (.slice q.A q.n q.c) ∧ w'.cell? ⟨w.heap.size + 1, 2, none⟩ = some (.int .i64 b.x)) (first | exact ⟨Ba_10.out.cell 0 rfl, Ba_10.out.cell 1 rfl, Ba_10.out.cell 2 rfl, Bb_11.out.cell 0 rfl, Bb_11.out.cell 1 rfl, Bb_11.out.cell 2 rfl⟩ | exact ⟨Ba_17.out.cell 0 rfl, Ba_17.out.cell 1 rfl, Ba_17.out.cell 2 rfl, Bb_18.out.cell 0 rfl, Bb_18.out.cell 1 rfl, Bb_18.out.cell 2 rfl⟩ | exact ⟨Ba_22.out.cell 0 rfl, Ba_22.out.cell 1 rfl, Ba_22.out.cell 2 rfl, Bb_23.out.cell 0 rfl, Bb_23.out.cell 1 rfl, Bb_23.out.cell 2 rfl⟩)
        (first
         | (have _ := tok_15; go_at_call 108; clear tok_15; refine (dtop_any _ p a (RA_13.out.dk ((Dk.refl _).drew)) SA.out.1 SA.out.2).mono ?_; rintro e w3 ⟨rfl, hb⟩; clear la ca0 ca1 ca2 lb cb0 cb1 cb2; have K := Dk.trans ((Dk.refl _).drew) (.below hb); have Ba_17 := Lib.hid (show Bk _ _ _ #[.bool p.b, .slice p.A p.n p.c, .int .i64 a.x] from (Ba_10.out.drew).below hb); have Bb_18 := Lib.hid (show Bk _ _ _ #[.bool q.b, .slice q.A q.n q.c, .int .i64 b.x] from (Bb_11.out.drew).below hb); have HB_19 := Lib.hid (below_tr (below_dr HB_12.out) hb); clear hb; have RA_20 := Lib.hid (RA_13.out.dk K); have RB_21 := Lib.hid (RB_14.out.dk K); clear K Ba_10 Bb_11 HB_12 RA_13 RB_14; have la := Ba_17.out.lt; obtain ⟨ca0, ca1, ca2⟩ := Ba_17.out.cells3; have lb := Bb_18.out.lt; obtain ⟨cb0, cb1, cb2⟩ := Bb_18.out.cells3)
         | (have _ := tok_16; go_at_call 108; clear tok_16; refine (dtop_any _ q b RB_21.out SB.out.1 SB.out.2).mono ?_; rintro e w4 ⟨rfl, hb⟩; clear la ca0 ca1 ca2 lb cb0 cb1 cb2; have K := Dk.below hb; have Ba_22 := Lib.hid (show Bk _ _ _ #[.bool p.b, .slice p.A p.n p.c, .int .i64 a.x] from Ba_17.out.below hb); have Bb_23 := Lib.hid (show Bk _ _ _ #[.bool q.b, .slice q.A q.n q.c, .int .i64 b.x] from Bb_18.out.below hb); have HB_24 := Lib.hid (below_tr HB_19.out hb); clear hb; have RA_25 := Lib.hid (RA_20.out.dk K); have RB_26 := Lib.hid (RB_21.out.dk K); clear K Ba_17 Bb_18 HB_19 RA_20 RB_21; have la := Ba_22.out.lt; obtain ⟨ca0, ca1, ca2⟩ := Ba_22.out.cells3; have lb := Bb_23.out.lt; obtain ⟨cb0, cb1, cb2⟩ := Bb_23.out.cells3))
      generalize a.top = m at *
      generalize b.top = k at *
      have q3 := Q3.out
      have q4 := Q4.out
      have q5 := Q5.out
      have q7 : (decide (m < k) == decide (0 < x)) = true := by rw [decide_eq_false (show ¬ m < k by omega), decide_eq_false (show ¬ 0 < x by omega)]; rfl
      go_wp2
      go_ret
      exact ⟨ret_int HS.out, HB_24.out⟩

end Go.Proofs.YtgioppkggpfnoaaDoor.Nu
end

section
/- The walk of dyad.Compare where they do not. -/
set_option linter.unusedVariables false
namespace Go.Proofs.YtgioppkggpfnoaaDoor.Nu
open Go.RowKit Go.Proofs

set_option maxRecDepth 100000 in
set_option maxHeartbeats 4000000 in
theorem dcmp_l (w : World) (p q : Q) (a b : D) (E T : Nat) (h : RD w p a) (h2 : RD w q b) (la : a.Lim E T) (lb : b.Lim E T) (hET : E + T ≤ 16000) (he : sgn a.z = sgn b.z) (h0 : sgn a.z ≠ 0) (hne : a.top = b.top) :
    Calls Tryd.prog 48 #[.agg #[.bool p.b, .slice p.A p.n p.c, .int .i64 a.x], .agg #[.bool q.b, .slice q.A q.n q.c, .int .i64 b.x]] w fun e w' => e = .returned (.int .i64 (a.cmp b)) ∧ Below w.heap.size w w' := by
  have HA := Lib.hid h
  have HB := Lib.hid h2
  have LA := Lib.hid la
  have LB := Lib.hid lb
  clear h h2 la lb
  have HS := Lib.hid (cmp_lev (a := a) (b := b) (by have := sgn_cases a.z; omega) (by have := sgn_cases b.z; omega))
  have q0 : ((sgn a.z : Int) == sgn b.z) = true := by rw [beq_iff_eq]; exact he
  have q1 : ((sgn a.z : Int) != sgn b.z) = false := by rw [bne, q0]; rfl
  have q2 : ((sgn a.z : Int) == 0) = false := by rw [beq_eq_false_iff_ne]; exact h0
  have q3 : ((a.top : Int) == b.top) = true := by rw [beq_iff_eq]; exact hne
  have q4 : ((a.top : Int) != b.top) = false := by rw [bne, q3]; rfl
  clear he h0 hne
  have Q3 := Lib.hid q3
  have Q4 := Lib.hid q4
  
  clear q3 q4
  have SA := Lib.hid (lim_top LA.out hET)
  have SB := Lib.hid (lim_top LB.out hET)
  have BX := Lib.hid (boxes2 w 53 #[.bool p.b, .slice p.A p.n p.c, .int .i64 a.x] 53 #[.bool q.b, .slice q.A q.n q.c, .int .i64 b.x])
  go_enter Tryd.func48, Tryd.ntmps48
  go_wp2_with fail
  generalize (w.alloc (.cells #[.bool p.b, .slice p.A p.n p.c, .int .i64 a.x] 53)).alloc (.cells #[.bool q.b, .slice q.A q.n q.c, .int .i64 b.x] 53) = w0 at *
  obtain ⟨b0, b1, hw⟩ := BX.out
  have Ba_0 := Lib.hid b0
  have Bb_0 := Lib.hid b1
  have HB_0 := Lib.hid hw
  have K := Dk.below (hw.mono (Nat.le_refl _))
  clear BX hw b0 b1
  have RA_1 := Lib.hid (HA.out.dk K)
  have RB_2 := Lib.hid (HB.out.dk K)
  clear K HA HB
  have la := Ba_0.out.lt
  obtain ⟨ca0, ca1, ca2⟩ := Ba_0.out.cells3
  have lb := Bb_0.out.lt
  obtain ⟨cb0, cb1, cb2⟩ := Bb_0.out.cells3
  go_wp2_with fail
  have tok_3 : True := trivial
  have tok_4 : True := trivial
  go_region_held3 (fun w' => w'.cell? ⟨w.heap.size, 0, none⟩ = some (.bool p.b) ∧ w'.cell? ⟨w.heap.size, 1, none⟩ = some (.slice p.A p.n p.c) ∧ w'.cell? ⟨w.heap.size, 2, none⟩ = some (.int .i64 a.x) ∧ w'.cell? ⟨w.heap.size + 1, 0, none⟩ = some (.bool q.b) ∧ w'.cell? ⟨w.heap.size + 1, 1, none⟩ = some (.slice q.A q.n q.c) ∧ w'.cell? ⟨w.heap.size + 1, 2, none⟩ = some (.int .i64 b.x)) (first | exact ⟨Ba_0.out.cell 0 rfl, Ba_0.out.cell 1 rfl, Ba_0.out.cell 2 rfl, Bb_0.out.cell 0 rfl, Bb_0.out.cell 1 rfl, Bb_0.out.cell 2 rfl⟩ | exact ⟨Ba_5.out.cell 0 rfl, Ba_5.out.cell 1 rfl, Ba_5.out.cell 2 rfl, Bb_6.out.cell 0 rfl, Bb_6.out.cell 1 rfl, Bb_6.out.cell 2 rfl⟩ | exact ⟨Ba_10.out.cell 0 rfl, Ba_10.out.cell 1 rfl, Ba_10.out.cell 2 rfl, Bb_11.out.cell 0 rfl, Bb_11.out.cell 1 rfl, Bb_11.out.cell 2 rfl⟩)
    (first
     | (have _ := tok_3; go_at_call 34; clear tok_3; refine (dsign_q _ p a (RA_1.out.dk ((Dk.refl _).drew))).mono ?_; rintro e w1 ⟨rfl, hb⟩; clear la ca0 ca1 ca2 lb cb0 cb1 cb2; have K := Dk.trans ((Dk.refl _).drew) (.below hb); have Ba_5 := Lib.hid (show Bk _ _ _ #[.bool p.b, .slice p.A p.n p.c, .int .i64 a.x] from (Ba_0.out.drew).below hb); have Bb_6 := Lib.hid (show Bk _ _ _ #[.bool q.b, .slice q.A q.n q.c, .int .i64 b.x] from (Bb_0.out.drew).below hb); have HB_7 := Lib.hid (below_tr (below_dr HB_0.out) hb); clear hb; have RA_8 := Lib.hid (RA_1.out.dk K); have RB_9 := Lib.hid (RB_2.out.dk K); clear K Ba_0 Bb_0 HB_0 RA_1 RB_2; have la := Ba_5.out.lt; obtain ⟨ca0, ca1, ca2⟩ := Ba_5.out.cells3; have lb := Bb_6.out.lt; obtain ⟨cb0, cb1, cb2⟩ := Bb_6.out.cells3)
     | (have _ := tok_4; go_at_call 34; clear tok_4; refine (dsign_q _ q b RB_9.out).mono ?_; rintro e w2 ⟨rfl, hb⟩; clear la ca0 ca1 ca2 lb cb0 cb1 cb2; have K := Dk.below hb; have Ba_10 := Lib.hid (show Bk _ _ _ #[.bool p.b, .slice p.A p.n p.c, .int .i64 a.x] from Ba_5.out.below hb); have Bb_11 := Lib.hid (show Bk _ _ _ #[.bool q.b, .slice q.A q.n q.c, .int .i64 b.x] from Bb_6.out.below hb); have HB_12 := Lib.hid (below_tr HB_7.out hb); clear hb; have RA_13 := Lib.hid (RA_8.out.dk K); have RB_14 := Lib.hid (RB_9.out.dk K); clear K Ba_5 Bb_6 HB_7 RA_8 RB_9; have la := Ba_10.out.lt; obtain ⟨ca0, ca1, ca2⟩ := Ba_10.out.cells3; have lb := Bb_11.out.lt; obtain ⟨cb0, cb1, cb2⟩ := Bb_11.out.cells3))
  generalize sgn a.z = x at *
  generalize sgn b.z = y at *
  clear la ca0 ca1 ca2 lb cb0 cb1 cb2
  have la := Ba_10.out.lt
  obtain ⟨ca0, ca1, ca2⟩ := Ba_10.out.cells3
  have lb := Bb_11.out.lt
  obtain ⟨cb0, cb1, cb2⟩ := Bb_11.out.cells3
  go_wp2_with fail
  have tok_15 : True := trivial
  have tok_16 : True := trivial
  go_region_held3 (fun w' => w'.cell? ⟨w.heap.size, 0, none⟩ = some (.bool p.b) ∧ w'.cell? ⟨w.heap.size, 1, none⟩ = some (.slice p.A p.n p.c) ∧ w'.cell? ⟨w.heap.size, 2, none⟩ = some (.int .i64 a.x) ∧ w'.cell? ⟨w.heap.size + 1, 0, none⟩ = some (.bool q.b) ∧ w'.cell? ⟨w.heap.size + 1, 1, none⟩ = some (.slice q.A q.n q.c) ∧ w'.cell? ⟨w.heap.size + 1, 2, none⟩ = some (.int .i64 b.x)) (first | exact ⟨Ba_10.out.cell 0 rfl, Ba_10.out.cell 1 rfl, Ba_10.out.cell 2 rfl, Bb_11.out.cell 0 rfl, Bb_11.out.cell 1 rfl, Bb_11.out.cell 2 rfl⟩ | exact ⟨Ba_17.out.cell 0 rfl, Ba_17.out.cell 1 rfl, Ba_17.out.cell 2 rfl, Bb_18.out.cell 0 rfl, Bb_18.out.cell 1 rfl, Bb_18.out.cell 2 rfl⟩ | exact ⟨Ba_22.out.cell 0 rfl, Ba_22.out.cell 1 rfl, Ba_22.out.cell 2 rfl, Bb_23.out.cell 0 rfl, Bb_23.out.cell 1 rfl, Bb_23.out.cell 2 rfl⟩)
    (first
     | (have _ := tok_15; go_at_call 108; clear tok_15; refine (dtop_any _ p a (RA_13.out.dk ((Dk.refl _).drew)) SA.out.1 SA.out.2).mono ?_; rintro e w3 ⟨rfl, hb⟩; clear la ca0 ca1 ca2 lb cb0 cb1 cb2; have K := Dk.trans ((Dk.refl _).drew) (.below hb); have Ba_17 := Lib.hid (show Bk _ _ _ #[.bool p.b, .slice p.A p.n p.c, .int .i64 a.x] from (Ba_10.out.drew).below hb); have Bb_18 := Lib.hid (show Bk _ _ _ #[.bool q.b, .slice q.A q.n q.c, .int .i64 b.x] from (Bb_11.out.drew).below hb); have HB_19 := Lib.hid (below_tr (below_dr HB_12.out) hb); clear hb; have RA_20 := Lib.hid (RA_13.out.dk K); have RB_21 := Lib.hid (RB_14.out.dk K); clear K Ba_10 Bb_11 HB_12 RA_13 RB_14; have la := Ba_17.out.lt; obtain ⟨ca0, ca1, ca2⟩ := Ba_17.out.cells3; have lb := Bb_18.out.lt; obtain ⟨cb0, cb1, cb2⟩ := Bb_18.out.cells3)
     | (have _ := tok_16; go_at_call 108; clear tok_16; refine (dtop_any _ q b RB_21.out SB.out.1 SB.out.2).mono ?_; rintro e w4 ⟨rfl, hb⟩; clear la ca0 ca1 ca2 lb cb0 cb1 cb2; have K := Dk.below hb; have Ba_22 := Lib.hid (show Bk _ _ _ #[.bool p.b, .slice p.A p.n p.c, .int .i64 a.x] from Ba_17.out.below hb); have Bb_23 := Lib.hid (show Bk _ _ _ #[.bool q.b, .slice q.A q.n q.c, .int .i64 b.x] from Bb_18.out.below hb); have HB_24 := Lib.hid (below_tr HB_19.out hb); clear hb; have RA_25 := Lib.hid (RA_20.out.dk K); have RB_26 := Lib.hid (RB_21.out.dk K); clear K Ba_17 Bb_18 HB_19 RA_20 RB_21; have la := Ba_22.out.lt; obtain ⟨ca0, ca1, ca2⟩ := Ba_22.out.cells3; have lb := Bb_23.out.lt; obtain ⟨cb0, cb1, cb2⟩ := Bb_23.out.cells3))
  generalize a.top = m at *
  generalize b.top = k at *
  have q3 := Q3.out
  have q4 := Q4.out
  
  clear la ca0 ca1 ca2 lb cb0 cb1 cb2
  have la := Ba_22.out.lt
  obtain ⟨ca0, ca1, ca2⟩ := Ba_22.out.cells3
  have lb := Bb_23.out.lt
  obtain ⟨cb0, cb1, cb2⟩ := Bb_23.out.cells3
  go_wp2_with fail
  refine (dlevel_any _ p q a b E T RA_25.out RB_26.out LA.out LB.out hET).mono ?_
  rintro e w5 ⟨⟨r, s, rfl, hr, hs⟩, hb⟩
  clear la ca0 ca1 ca2 lb cb0 cb1 cb2
  have K := Dk.below hb
  have Ba_27 := Lib.hid (show Bk _ _ _ #[.bool p.b, .slice p.A p.n p.c, .int .i64 a.x] from Ba_22.out.below hb)
  have Bb_28 := Lib.hid (show Bk _ _ _ #[.bool q.b, .slice q.A q.n q.c, .int .i64 b.x] from Bb_23.out.below hb)
  have HB_29 := Lib.hid (below_tr HB_24.out hb)
  clear hb
  have RA_30 := Lib.hid (RA_25.out.dk K)
  have RB_31 := Lib.hid (RB_26.out.dk K)
  clear K Ba_22 Bb_23 HB_24 RA_25 RB_26
  have RX_32 := Lib.hid hr
  clear hr
  have RY_33 := Lib.hid hs
  clear hs
  have la := Ba_27.out.lt
  obtain ⟨ca0, ca1, ca2⟩ := Ba_27.out.cells3
  have lb := Bb_28.out.lt
  obtain ⟨cb0, cb1, cb2⟩ := Bb_28.out.cells3
  have n_34 := Ba_27.out.lt
  have n_35 := Bb_28.out.lt
  go_wp2_with fail
  refine (wcompare_q _ r s (levX a b) (levY a b) (RX_32.out.dk (((Dk.refl _).alloc _).alloc _)) (RY_33.out.dk (((Dk.refl _).alloc _).alloc _))).mono ?_
  rintro e w6 ⟨rfl, hb⟩
  clear la ca0 ca1 ca2 lb cb0 cb1 cb2
  have K := Dk.trans (((Dk.refl _).alloc _).alloc _) (.below hb)
  have Ba_36 := Lib.hid (show Bk _ _ _ #[.bool p.b, .slice p.A p.n p.c, .int .i64 a.x] from ((Ba_27.out.alloc _).alloc _).below hb)
  have Bb_37 := Lib.hid (show Bk _ _ _ #[.bool q.b, .slice q.A q.n q.c, .int .i64 b.x] from ((Bb_28.out.alloc _).alloc _).below hb)
  have Bx_38 := Lib.hid (show Bk _ _ _ #[.bool r.b, .slice r.A r.n r.c] from ((Bk.new _ 51 #[.bool r.b, .slice r.A r.n r.c]).alloc _).below hb)
  have By_39 := Lib.hid (show Bk _ _ _ #[.bool s.b, .slice s.A s.n s.c] from (Bk.new_1 _ _ 51 #[.bool s.b, .slice s.A s.n s.c]).below hb)
  have HB_40 := Lib.hid (below_tr (below_al (below_al HB_29.out _) _) hb)
  clear hb
  have RA_41 := Lib.hid (RA_30.out.dk K)
  have RB_42 := Lib.hid (RB_31.out.dk K)
  have RX_43 := Lib.hid (RX_32.out.dk K)
  have RY_44 := Lib.hid (RY_33.out.dk K)
  clear K Ba_27 Bb_28 HB_29 RA_30 RB_31 RX_32 RY_33
  generalize icmp (levX a b) (levY a b) = z at *
  go_wp2
  go_ret
  exact ⟨ret_int HS.out, HB_40.out⟩

end Go.Proofs.YtgioppkggpfnoaaDoor.Nu
end

section
/- dyad.Compare. -/
set_option linter.unusedVariables false
namespace Go.Proofs.YtgioppkggpfnoaaDoor.Nu
open Go.RowKit Go.Proofs

theorem dcompare_any (w : World) (p q : Q) (a b : D) (E T : Nat) (h : RD w p a) (h2 : RD w q b) (la : a.Lim E T) (lb : b.Lim E T) (hET : E + T ≤ 16000) :
    Calls Tryd.prog 48 #[.agg #[.bool p.b, .slice p.A p.n p.c, .int .i64 a.x], .agg #[.bool q.b, .slice q.A q.n q.c, .int .i64 b.x]] w fun e w' => e = .returned (.int .i64 (a.cmp b)) ∧ Below w.heap.size w w' := by
  by_cases he : sgn a.z = sgn b.z
  · by_cases h0 : sgn a.z = 0
    · exact dcmp_z w p q a b E T h h2 la lb hET he h0
    · by_cases ht : a.top = b.top
      · exact dcmp_l w p q a b E T h h2 la lb hET he h0 ht
      · exact dcmp_t w p q a b E T h h2 la lb hET he h0 ht
  · exact dcmp_a w p q a b E T h h2 la lb hET he

end Go.Proofs.YtgioppkggpfnoaaDoor.Nu
end

section
/- The walks of dyad.Less, own. -/
set_option linter.unusedVariables false
namespace Go.Proofs.YtgioppkggpfnoaaDoor.Nu
open Go.RowKit Go.Proofs

set_option maxRecDepth 100000 in
set_option maxHeartbeats 4000000 in
theorem dless_any (w : World) (p q : Q) (a b : D) (E T : Nat) (h : RD w p a) (h2 : RD w q b) (la : a.Lim E T) (lb : b.Lim E T) (hET : E + T ≤ 16000) :
    Calls Tryd.prog 29 #[.agg #[.bool p.b, .slice p.A p.n p.c, .int .i64 a.x], .agg #[.bool q.b, .slice q.A q.n q.c, .int .i64 b.x]] w fun e w' => e = .returned (.bool (decide (a.cmp b < 0))) ∧ Below w.heap.size w w' := by
  have HA := Lib.hid h
  have HB := Lib.hid h2
  have LA := Lib.hid la
  have LB := Lib.hid lb
  clear h h2 la lb
  generalize hz : a.cmp b = z
  have HZ := Lib.hid hz
  clear hz
  have BX := Lib.hid (boxes2 w 53 #[.bool p.b, .slice p.A p.n p.c, .int .i64 a.x] 53 #[.bool q.b, .slice q.A q.n q.c, .int .i64 b.x])
  go_enter Tryd.func29, Tryd.ntmps29
  go_wp2_with fail
  generalize (w.alloc (.cells #[.bool p.b, .slice p.A p.n p.c, .int .i64 a.x] 53)).alloc (.cells #[.bool q.b, .slice q.A q.n q.c, .int .i64 b.x] 53) = w0 at *
  obtain ⟨b0, b1, hw⟩ := BX.out
  have Ba_0 := Lib.hid b0
  have Bb_0 := Lib.hid b1
  have HB_0 := Lib.hid hw
  have K := Dk.below (hw.mono (Nat.le_refl _))
  clear BX hw b0 b1
  have RA_1 := Lib.hid (HA.out.dk K)
  have RB_2 := Lib.hid (HB.out.dk K)
  clear K HA HB
  have la := Ba_0.out.lt
  obtain ⟨ca0, ca1, ca2⟩ := Ba_0.out.cells3
  have lb := Bb_0.out.lt
  obtain ⟨cb0, cb1, cb2⟩ := Bb_0.out.cells3
  go_wp2_with fail
  refine (dcompare_any _ p q a b E T RA_1.out RB_2.out LA.out LB.out hET).mono ?_
  rintro e w1 ⟨rfl, hb⟩
  clear la ca0 ca1 ca2 lb cb0 cb1 cb2
  have K := Dk.below hb
  have Ba_3 := Lib.hid (show Bk _ _ _ #[.bool p.b, .slice p.A p.n p.c, .int .i64 a.x] from Ba_0.out.below hb)
  have Bb_4 := Lib.hid (show Bk _ _ _ #[.bool q.b, .slice q.A q.n q.c, .int .i64 b.x] from Bb_0.out.below hb)
  have HB_5 := Lib.hid (below_tr HB_0.out hb)
  clear hb
  have RA_6 := Lib.hid (RA_1.out.dk K)
  have RB_7 := Lib.hid (RB_2.out.dk K)
  clear K Ba_0 Bb_0 HB_0 RA_1 RB_2
  rw [HZ.out]
  go_wp2
  go_ret
  exact ⟨rfl, HB_5.out⟩

set_option maxRecDepth 100000 in
set_option maxHeartbeats 4000000 in
theorem down_any (w : World) (p : Q) (a : D) (h : RD w p a) (hn : p.n ≤ 512) :
    Calls Tryd.prog 145 #[.agg #[.bool p.b, .slice p.A p.n p.c, .int .i64 a.x]] w fun e w' => (∃ r : Q, e = .returned (.agg #[.bool r.b, .slice r.A r.n r.c, .int .i64 a.x]) ∧ RD w' r a) ∧ Below w.heap.size w w' := by
  have HA := Lib.hid h
  clear h
  have BX := Lib.hid (boxes2 w 53 #[.bool p.b, .slice p.A p.n p.c, .int .i64 a.x] 53 #[.bool false, .slice none 0 0, .int .i64 0])
  go_enter Tryd.func145, Tryd.ntmps145
  go_wp2_with fail
  generalize (w.alloc (.cells #[.bool p.b, .slice p.A p.n p.c, .int .i64 a.x] 53)).alloc (.cells #[.bool false, .slice none 0 0, .int .i64 0] 53) = w0 at *
  obtain ⟨b0, b1, hw⟩ := BX.out
  have Ba_0 := Lib.hid b0
  have Bo_0 := Lib.hid b1
  have HB_0 := Lib.hid hw
  have K := Dk.below (hw.mono (Nat.le_refl _))
  clear BX hw b0 b1
  have RA_1 := Lib.hid (HA.out.dk K)
  clear K HA
  have la := Ba_0.out.lt
  obtain ⟨ca0, ca1, ca2⟩ := Ba_0.out.cells3
  have lo := Bo_0.out.lt
  obtain ⟨co0, co1, co2⟩ := Bo_0.out.cells3
  go_wp2_with fail
  refine (clone_any _ p.A p.n p.c _ (RA_1.out.1.2.2) (by omega)).mono ?_
  rintro e w1 ⟨⟨A1, c1, rfl, hkc, hr⟩, hb⟩
  have hR := Lib.hid (show RD w1 ⟨p.b, A1, p.n, c1⟩ a from ⟨⟨RA_1.out.1.1, hkc, hr⟩, RA_1.out.2⟩)
  clear hr hkc
  clear la ca0 ca1 ca2 lo co0 co1 co2
  have K := Dk.below hb
  have Ba_2 := Lib.hid (show Bk _ _ _ #[.bool p.b, .slice p.A p.n p.c, .int .i64 a.x] from Ba_0.out.below hb)
  have Bo_3 := Lib.hid (show Bk _ _ _ #[.bool false, .slice none 0 0, .int .i64 0] from Bo_0.out.below hb)
  have HB_4 := Lib.hid (below_tr HB_0.out hb)
  clear hb
  have RA_5 := Lib.hid (RA_1.out.dk K)
  clear K Ba_0 Bo_0 HB_0 RA_1
  have la := Ba_2.out.lt
  obtain ⟨ca0, ca1, ca2⟩ := Ba_2.out.cells3
  have fa0 := Ba_2.out.free 0
  have fa1 := Ba_2.out.free 1
  have fa2 := Ba_2.out.free 2
  have lo := Bo_3.out.lt
  obtain ⟨co0, co1, co2⟩ := Bo_3.out.cells3
  have fo0 := Bo_3.out.free 0
  have fo1 := Bo_3.out.free 1
  have fo2 := Bo_3.out.free 2
  go_wp2
  refine bodyPost_ret (v := .agg #[.bool p.b, .slice A1 p.n c1, .int .i64 a.x]) ?_ rfl ?_
  · simp [results, Tryd.f145, go_sem, co0, co1, co2]
  · have y0 := Ba_2.out.lt; have y1 := Bo_3.out.lt; have y2 := HB_4.out.size; exact ⟨⟨⟨p.b, A1, p.n, c1⟩, rfl, (hR.out.dk (((((Dk.refl _).set (cs := #[.bool p.b, .slice p.A p.n p.c, .int .i64 a.x]) Ba_2.out 1 (by intro _ hh; cases hh) (.slice A1 p.n c1)).set (cs := #[.bool false, .slice none 0 0, .int .i64 0]) (Bo_3.out.ne (by omega) 1 (.slice A1 p.n c1)) 0 (by intro _ hh; cases hh) (.bool p.b)).set (cs := #[.bool p.b, .slice none 0 0, .int .i64 0]) ((Bo_3.out.ne (by omega) 1 (.slice A1 p.n c1)).set 0 (.bool p.b)) 1 (by intro _ hh; cases hh) (.slice A1 p.n c1)).set (cs := #[.bool p.b, .slice A1 p.n c1, .int .i64 0]) (((Bo_3.out.ne (by omega) 1 (.slice A1 p.n c1)).set 0 (.bool p.b)).set 1 (.slice A1 p.n c1)) 2 (by intro _ hh; cases hh) (.int .i64 a.x)))⟩, (below_st (below_st (below_st (below_st HB_4.out 1 (by omega) (.slice A1 p.n c1)) 0 (by omega) (.bool p.b)) 1 (by omega) (.slice A1 p.n c1)) 2 (by omega) (.int .i64 a.x))⟩

end Go.Proofs.YtgioppkggpfnoaaDoor.Nu
end

section
/- The walk of dyad.Round. -/
set_option linter.unusedVariables false
namespace Go.Proofs.YtgioppkggpfnoaaDoor.Nu
open Go.RowKit Go.Proofs

set_option maxRecDepth 100000 in
set_option maxHeartbeats 4000000 in
theorem dround_any (w : World) (p : Q) (a : D) (bits : Nat) (up : Bool) (E T : Nat) (h : RD w p a) (la : a.Lim E T) (hET : E + T ≤ 16000) (hb2 : 2 ≤ bits) (hb3 : bits ≤ 4096) (ht : BTab w) :
    Calls Tryd.prog 148 #[.agg #[.bool p.b, .slice p.A p.n p.c, .int .i64 a.x], .int .i64 bits, .bool up] w fun e w' => (∃ r : Q, e = .returned (.tuple #[.agg #[.bool r.b, .slice r.A r.n r.c, .int .i64 (a.round bits up).x], .int .i64 0]) ∧ RD w' r (a.round bits up)) ∧ Below w.heap.size w w' := by
  have HA := Lib.hid h
  have LA := Lib.hid la
  clear h la
  have HT := Lib.hid ht
  clear ht
  have y0 := Lib.hid LA.out.nb
  have x0 := Lib.hid (lim_top LA.out hET)
  have x1 := x0.out.2.1
  have x2 := x0.out.2.2
  have k0 : ¬ (bits : Int) < 2 := by omega
  have k1 : ¬ (4096 : Int) < (bits : Int) := by omega
  by_cases hov : nb a.z.natAbs ≤ bits
  · rw [round_exact hov]
    obtain ⟨K, hK⟩ : ∃ K, nb a.z.natAbs = K := ⟨_, rfl⟩
    have hk2 : K ≤ 16000 := by have := y0.out; omega
    rw [hK] at hov
    have HK := Lib.hid (show ((nb a.z.natAbs : Nat) : Int) = (K : Int) by rw [hK])
    clear hK
    have q0 : (K : Int) - (bits : Int) ≤ 0 := by omega
    have BX := Lib.hid (boxes2 w 53 #[.bool p.b, .slice p.A p.n p.c, .int .i64 a.x] 53 #[.bool false, .slice none 0 0, .int .i64 0])
    go_enter Tryd.func148, Tryd.ntmps148
    go_wp2_with fail
    generalize (w.alloc (.cells #[.bool p.b, .slice p.A p.n p.c, .int .i64 a.x] 53)).alloc (.cells #[.bool false, .slice none 0 0, .int .i64 0] 53) = w0 at *
    obtain ⟨b0, b1, hw⟩ := BX.out
    have Ba_0 := Lib.hid b0
    have Bo_0 := Lib.hid b1
    have HB_0 := Lib.hid hw
    have K := Dk.below (hw.mono (Nat.le_refl _))
    clear BX hw b0 b1
    have RA_1 := Lib.hid (HA.out.dk K)
    clear K HA
    have la := Ba_0.out.lt
    obtain ⟨ca0, ca1, ca2⟩ := Ba_0.out.cells3
    have lo := Bo_0.out.lt
    obtain ⟨co0, co1, co2⟩ := Bo_0.out.cells3
    go_wp2_with fail
    refine (bits_k _ p a.z RA_1.out.1 x0.out.1).mono ?_
    rintro e w' ⟨rfl, rfl⟩
    rw [HK.out]
    clear la ca0 ca1 ca2 lo co0 co1 co2
    have la := Ba_0.out.lt
    obtain ⟨ca0, ca1, ca2⟩ := Ba_0.out.cells3
    have lo := Bo_0.out.lt
    obtain ⟨co0, co1, co2⟩ := Bo_0.out.cells3
    have fo0 := Bo_0.out.free 0
    have fo1 := Bo_0.out.free 1
    have fo2 := Bo_0.out.free 2
    go_wp2
    refine bodyPost_ret (v := .tuple #[.agg #[.bool p.b, .slice p.A p.n p.c, .int .i64 a.x], .int .i64 0]) ?_ rfl ?_
    · simp [results, Tryd.f148, go_sem, co0, co1, co2]
    · have y0 := HB_0.out.size; exact ⟨⟨p, rfl, (RA_1.out.dk ((((Dk.refl _).set (cs := #[.bool false, .slice none 0 0, .int .i64 0]) Bo_0.out 0 (by intro _ hh; cases hh) (.bool p.b)).set (cs := #[.bool p.b, .slice none 0 0, .int .i64 0]) (Bo_0.out.set 0 (.bool p.b)) 1 (by intro _ hh; cases hh) (.slice p.A p.n p.c)).set (cs := #[.bool p.b, .slice p.A p.n p.c, .int .i64 0]) ((Bo_0.out.set 0 (.bool p.b)).set 1 (.slice p.A p.n p.c)) 2 (by intro _ hh; cases hh) (.int .i64 a.x)))⟩, (below_st (below_st (below_st HB_0.out 0 (by omega) (.bool p.b)) 1 (by omega) (.slice p.A p.n p.c)) 2 (by omega) (.int .i64 a.x))⟩
  · unfold D.round
    rw [if_neg hov]
    have HM := Lib.hid (fun z : Int => floor_nb z (nb a.z.natAbs - bits) bits)
    obtain ⟨k, hk⟩ : ∃ k, nb a.z.natAbs - bits = k := ⟨_, rfl⟩
    rw [hk] at HM
    rw [hk]
    have hk0 : 0 < k := by omega
    have hk1 : k ≤ 16000 := by have := y0.out; omega
    have HK := Lib.hid (show ((nb a.z.natAbs : Nat) : Int) = (bits : Int) + (k : Int) by omega)
    have HN := Lib.hid (show nb a.z.natAbs ≤ k + bits by omega)
    clear hov hk
    cases up
    · simp only [Bool.false_eq_true, if_false]
      have BX := Lib.hid (boxes2 w 53 #[.bool p.b, .slice p.A p.n p.c, .int .i64 a.x] 53 #[.bool false, .slice none 0 0, .int .i64 0])
      go_enter Tryd.func148, Tryd.ntmps148
      go_wp2_with fail
      generalize (w.alloc (.cells #[.bool p.b, .slice p.A p.n p.c, .int .i64 a.x] 53)).alloc (.cells #[.bool false, .slice none 0 0, .int .i64 0] 53) = w0 at *
      obtain ⟨b0, b1, hw⟩ := BX.out
      have Ba_0 := Lib.hid b0
      have Bo_0 := Lib.hid b1
      have HB_0 := Lib.hid hw
      have K := Dk.below (hw.mono (Nat.le_refl _))
      clear BX hw b0 b1
      have RA_1 := Lib.hid (HA.out.dk K)
      clear K HA
      have la := Ba_0.out.lt
      obtain ⟨ca0, ca1, ca2⟩ := Ba_0.out.cells3
      have lo := Bo_0.out.lt
      obtain ⟨co0, co1, co2⟩ := Bo_0.out.cells3
      go_wp2_with fail
      refine (bits_k _ p a.z RA_1.out.1 x0.out.1).mono ?_
      rintro e w' ⟨rfl, rfl⟩
      rw [HK.out]
      go_wp2_with fail
      rw [show ((bits : Int) + (k : Int) - (bits : Int)) = ((k : Nat) : Int) by omega]
      refine (wright_q _ p a.z k RA_1.out.1 x0.out.1 (by omega) (HT.out.below HB_0.out)).mono ?_
      rintro e w1 ⟨⟨r, rfl, hr⟩, hb⟩
      clear la ca0 ca1 ca2 lo co0 co1 co2
      have K := Dk.below hb
      have Ba_2 := Lib.hid (show Bk _ _ _ #[.bool p.b, .slice p.A p.n p.c, .int .i64 a.x] from Ba_0.out.below hb)
      have Bo_3 := Lib.hid (show Bk _ _ _ #[.bool false, .slice none 0 0, .int .i64 0] from Bo_0.out.below hb)
      have HB_4 := Lib.hid (below_tr HB_0.out hb)
      clear hb
      have RA_5 := Lib.hid (RA_1.out.dk K)
      clear K Ba_0 Bo_0 HB_0 RA_1
      have RX_6 := Lib.hid hr
      clear hr
      have la := Ba_2.out.lt
      obtain ⟨ca0, ca1, ca2⟩ := Ba_2.out.cells3
      have lo := Bo_3.out.lt
      obtain ⟨co0, co1, co2⟩ := Bo_3.out.cells3
      have n_7 := Ba_2.out.lt
      have n_8 := Bo_3.out.lt
      go_wp2_with fail
      try rw [show ((bits : Int) + (k : Int) - (bits : Int)) = ((k : Nat) : Int) by omega]
      refine (dmake_q _ r (a.z / 2 ^ k) (a.x + (k : Int)) (RX_6.out.dk ((Dk.refl _).alloc _)) (by have := HM.out a.z HN.out; omega) (by omega) (by omega) (HT.out.below (below_al HB_4.out _))).mono ?_
      rintro e w2 ⟨⟨v, rfl, hv⟩, hb⟩
      clear la ca0 ca1 ca2 lo co0 co1 co2
      have K := Dk.trans ((Dk.refl _).alloc _) (.below hb)
      have Ba_9 := Lib.hid (show Bk _ _ _ #[.bool p.b, .slice p.A p.n p.c, .int .i64 a.x] from (Ba_2.out.alloc _).below hb)
      have Bo_10 := Lib.hid (show Bk _ _ _ #[.bool false, .slice none 0 0, .int .i64 0] from (Bo_3.out.alloc _).below hb)
      have Bm_11 := Lib.hid (show Bk _ _ _ #[.bool r.b, .slice r.A r.n r.c] from (Bk.new _ 51 #[.bool r.b, .slice r.A r.n r.c]).below hb)
      have HB_12 := Lib.hid (below_tr (below_al HB_4.out _) hb)
      clear hb
      have RA_13 := Lib.hid (RA_5.out.dk K)
      have RX_14 := Lib.hid (RX_6.out.dk K)
      clear K Ba_2 Bo_3 HB_4 RA_5 RX_6
      have RV_15 := Lib.hid hv
      clear hv
      have la := Ba_9.out.lt
      obtain ⟨ca0, ca1, ca2⟩ := Ba_9.out.cells3
      have lo := Bo_10.out.lt
      obtain ⟨co0, co1, co2⟩ := Bo_10.out.cells3
      have fo0 := Bo_10.out.free 0
      have fo1 := Bo_10.out.free 1
      have fo2 := Bo_10.out.free 2
      have lm := Bm_11.out.lt
      obtain ⟨cm0, cm1⟩ := Bm_11.out.cells2
      go_wp2
      refine bodyPost_ret (v := .tuple #[.agg #[.bool v.b, .slice v.A v.n v.c, .int .i64 (D.mk' (a.z / 2 ^ k) (a.x + (k : Int))).x], .int .i64 0]) ?_ rfl ?_
      · simp [results, Tryd.f148, go_sem, co0, co1, co2]
      · have y0 := HB_12.out.size; exact ⟨⟨v, rfl, (RV_15.out.dk ((((Dk.refl _).set (cs := #[.bool false, .slice none 0 0, .int .i64 0]) Bo_10.out 0 (by intro _ hh; cases hh) (.bool v.b)).set (cs := #[.bool v.b, .slice none 0 0, .int .i64 0]) (Bo_10.out.set 0 (.bool v.b)) 1 (by intro _ hh; cases hh) (.slice v.A v.n v.c)).set (cs := #[.bool v.b, .slice v.A v.n v.c, .int .i64 0]) ((Bo_10.out.set 0 (.bool v.b)).set 1 (.slice v.A v.n v.c)) 2 (by intro _ hh; cases hh) (.int .i64 (D.mk' (a.z / 2 ^ k) (a.x + (k : Int))).x)))⟩, (below_st (below_st (below_st HB_12.out 0 (by omega) (.bool v.b)) 1 (by omega) (.slice v.A v.n v.c)) 2 (by omega) (.int .i64 (D.mk' (a.z / 2 ^ k) (a.x + (k : Int))).x))⟩
    · simp only [if_true]
      have BX := Lib.hid (boxes2 w 53 #[.bool p.b, .slice p.A p.n p.c, .int .i64 a.x] 53 #[.bool false, .slice none 0 0, .int .i64 0])
      go_enter Tryd.func148, Tryd.ntmps148
      go_wp2_with fail
      generalize (w.alloc (.cells #[.bool p.b, .slice p.A p.n p.c, .int .i64 a.x] 53)).alloc (.cells #[.bool false, .slice none 0 0, .int .i64 0] 53) = w0 at *
      obtain ⟨b0, b1, hw⟩ := BX.out
      have Ba_0 := Lib.hid b0
      have Bo_0 := Lib.hid b1
      have HB_0 := Lib.hid hw
      have K := Dk.below (hw.mono (Nat.le_refl _))
      clear BX hw b0 b1
      have RA_1 := Lib.hid (HA.out.dk K)
      clear K HA
      have la := Ba_0.out.lt
      obtain ⟨ca0, ca1, ca2⟩ := Ba_0.out.cells3
      have lo := Bo_0.out.lt
      obtain ⟨co0, co1, co2⟩ := Bo_0.out.cells3
      go_wp2_with fail
      refine (bits_k _ p a.z RA_1.out.1 x0.out.1).mono ?_
      rintro e w' ⟨rfl, rfl⟩
      rw [HK.out]
      go_wp2_with fail
      rw [show ((bits : Int) + (k : Int) - (bits : Int)) = ((k : Nat) : Int) by omega]
      refine (wright_q _ p a.z k RA_1.out.1 x0.out.1 (by omega) (HT.out.below HB_0.out)).mono ?_
      rintro e w1 ⟨⟨r, rfl, hr⟩, hb⟩
      clear la ca0 ca1 ca2 lo co0 co1 co2
      have K := Dk.below hb
      have Ba_2 := Lib.hid (show Bk _ _ _ #[.bool p.b, .slice p.A p.n p.c, .int .i64 a.x] from Ba_0.out.below hb)
      have Bo_3 := Lib.hid (show Bk _ _ _ #[.bool false, .slice none 0 0, .int .i64 0] from Bo_0.out.below hb)
      have HB_4 := Lib.hid (below_tr HB_0.out hb)
      clear hb
      have RA_5 := Lib.hid (RA_1.out.dk K)
      clear K Ba_0 Bo_0 HB_0 RA_1
      have RX_6 := Lib.hid hr
      clear hr
      have la := Ba_2.out.lt
      obtain ⟨ca0, ca1, ca2⟩ := Ba_2.out.cells3
      have lo := Bo_3.out.lt
      obtain ⟨co0, co1, co2⟩ := Bo_3.out.cells3
      have n_7 := Ba_2.out.lt
      have n_8 := Bo_3.out.lt
      go_wp2_with fail
      refine (wneg_q _ p a.z (RA_5.out.dk ((Dk.refl _).alloc _)).1 x0.out.1).mono ?_
      rintro e w2 ⟨⟨s, rfl, hs⟩, hb⟩
      clear la ca0 ca1 ca2 lo co0 co1 co2
      have K := Dk.trans ((Dk.refl _).alloc _) (.below hb)
      have Ba_9 := Lib.hid (show Bk _ _ _ #[.bool p.b, .slice p.A p.n p.c, .int .i64 a.x] from (Ba_2.out.alloc _).below hb)
      have Bo_10 := Lib.hid (show Bk _ _ _ #[.bool false, .slice none 0 0, .int .i64 0] from (Bo_3.out.alloc _).below hb)
      have Bm_11 := Lib.hid (show Bk _ _ _ #[.bool r.b, .slice r.A r.n r.c] from (Bk.new _ 51 #[.bool r.b, .slice r.A r.n r.c]).below hb)
      have HB_12 := Lib.hid (below_tr (below_al HB_4.out _) hb)
      clear hb
      have RA_13 := Lib.hid (RA_5.out.dk K)
      have RX_14 := Lib.hid (RX_6.out.dk K)
      clear K Ba_2 Bo_3 HB_4 RA_5 RX_6
      have RN_15 := Lib.hid hs
      clear hs
      have la := Ba_9.out.lt
      obtain ⟨ca0, ca1, ca2⟩ := Ba_9.out.cells3
      have lo := Bo_10.out.lt
      obtain ⟨co0, co1, co2⟩ := Bo_10.out.cells3
      have lm := Bm_11.out.lt
      obtain ⟨cm0, cm1⟩ := Bm_11.out.cells2
      have fm0 := Bm_11.out.free 0
      have fm1 := Bm_11.out.free 1
      go_wp2_with fail
      refine (wright_q _ s (-a.z) k RN_15.out (by rw [Int.natAbs_neg]; exact x0.out.1) (by omega) (HT.out.below HB_12.out)).mono ?_
      rintro e w3 ⟨⟨t, rfl, ht⟩, hb⟩
      clear la ca0 ca1 ca2 lo co0 co1 co2 lm cm0 cm1 fm0 fm1
      have K := Dk.below hb
      have Ba_16 := Lib.hid (show Bk _ _ _ #[.bool p.b, .slice p.A p.n p.c, .int .i64 a.x] from Ba_9.out.below hb)
      have Bo_17 := Lib.hid (show Bk _ _ _ #[.bool false, .slice none 0 0, .int .i64 0] from Bo_10.out.below hb)
      have Bm_18 := Lib.hid (show Bk _ _ _ #[.bool r.b, .slice r.A r.n r.c] from Bm_11.out.below hb)
      have HB_19 := Lib.hid (below_tr HB_12.out hb)
      clear hb
      have RA_20 := Lib.hid (RA_13.out.dk K)
      have RX_21 := Lib.hid (RX_14.out.dk K)
      have RN_22 := Lib.hid (RN_15.out.dk K)
      clear K Ba_9 Bo_10 Bm_11 HB_12 RA_13 RX_14 RN_15
      have RT_23 := Lib.hid ht
      clear ht
      have la := Ba_16.out.lt
      obtain ⟨ca0, ca1, ca2⟩ := Ba_16.out.cells3
      have lo := Bo_17.out.lt
      obtain ⟨co0, co1, co2⟩ := Bo_17.out.cells3
      have lm := Bm_18.out.lt
      obtain ⟨cm0, cm1⟩ := Bm_18.out.cells2
      have fm0 := Bm_18.out.free 0
      have fm1 := Bm_18.out.free 1
      have n_24 := Ba_16.out.lt
      have n_25 := Bo_17.out.lt
      have n_26 := Bm_18.out.lt
      go_wp2_with fail
      refine (wneg_q _ t (-a.z / 2 ^ k) (RT_23.out.dk ((Dk.refl _).alloc _)) (by have := HM.out (-a.z) (by rw [Int.natAbs_neg]; exact HN.out); omega)).mono ?_
      rintro e w4 ⟨⟨u, rfl, hu⟩, hb⟩
      clear la ca0 ca1 ca2 lo co0 co1 co2 lm cm0 cm1 fm0 fm1
      have K := Dk.trans ((Dk.refl _).alloc _) (.below hb)
      have Ba_27 := Lib.hid (show Bk _ _ _ #[.bool p.b, .slice p.A p.n p.c, .int .i64 a.x] from (Ba_16.out.alloc _).below hb)
      have Bo_28 := Lib.hid (show Bk _ _ _ #[.bool false, .slice none 0 0, .int .i64 0] from (Bo_17.out.alloc _).below hb)
      have Bm_29 := Lib.hid (show Bk _ _ _ #[.bool r.b, .slice r.A r.n r.c] from (Bm_18.out.alloc _).below hb)
      have Bn_30 := Lib.hid (show Bk _ _ _ #[.bool t.b, .slice t.A t.n t.c] from (Bk.new _ 51 #[.bool t.b, .slice t.A t.n t.c]).below hb)
      have HB_31 := Lib.hid (below_tr (below_al HB_19.out _) hb)
      clear hb
      have RA_32 := Lib.hid (RA_20.out.dk K)
      have RX_33 := Lib.hid (RX_21.out.dk K)
      have RN_34 := Lib.hid (RN_22.out.dk K)
      have RT_35 := Lib.hid (RT_23.out.dk K)
      clear K Ba_16 Bo_17 Bm_18 HB_19 RA_20 RX_21 RN_22 RT_23
      have RU_36 := Lib.hid hu
      clear hu
      have la := Ba_27.out.lt
      obtain ⟨ca0, ca1, ca2⟩ := Ba_27.out.cells3
      have lo := Bo_28.out.lt
      obtain ⟨co0, co1, co2⟩ := Bo_28.out.cells3
      have lm := Bm_29.out.lt
      obtain ⟨cm0, cm1⟩ := Bm_29.out.cells2
      have fm0 := Bm_29.out.free 0
      have fm1 := Bm_29.out.free 1
      have ln := Bn_30.out.lt
      obtain ⟨cn0, cn1⟩ := Bn_30.out.cells2
      go_wp2_with fail
      try rw [show ((bits : Int) + (k : Int) - (bits : Int)) = ((k : Nat) : Int) by omega]
      refine (dmake_q _ u (-(-a.z / 2 ^ k)) (a.x + (k : Int)) (RU_36.out.dk (((Dk.refl _).set (cs := #[.bool r.b, .slice r.A r.n r.c]) Bm_29.out 0 (by intro _ hh; cases hh) (.bool u.b)).set (cs := #[.bool u.b, .slice r.A r.n r.c]) (Bm_29.out.set 0 (.bool u.b)) 1 (by intro _ hh; cases hh) (.slice u.A u.n u.c))) (by have := HM.out (-a.z) (by rw [Int.natAbs_neg]; exact HN.out); rw [Int.natAbs_neg]; omega) (by omega) (by omega) (HT.out.below (below_st (below_st HB_31.out 0 (by have := HB_31.out.size; omega) (.bool u.b)) 1 (by have := HB_31.out.size; omega) (.slice u.A u.n u.c)))).mono ?_
      rintro e w5 ⟨⟨v, rfl, hv⟩, hb⟩
      clear la ca0 ca1 ca2 lo co0 co1 co2 lm cm0 cm1 fm0 fm1 ln cn0 cn1
      have K := Dk.trans (((Dk.refl _).set (cs := #[.bool r.b, .slice r.A r.n r.c]) Bm_29.out 0 (by intro _ hh; cases hh) (.bool u.b)).set (cs := #[.bool u.b, .slice r.A r.n r.c]) (Bm_29.out.set 0 (.bool u.b)) 1 (by intro _ hh; cases hh) (.slice u.A u.n u.c)) (.below hb)
      have y0 := Ba_27.out.lt; have y1 := Bo_28.out.lt; have y2 := Bm_29.out.lt; have y3 := Bn_30.out.lt; have y4 := HB_31.out.size; have Ba_37 := Lib.hid (show Bk _ _ _ #[.bool p.b, .slice p.A p.n p.c, .int .i64 a.x] from ((Ba_27.out.ne (by omega) 0 (.bool u.b)).ne (by omega) 1 (.slice u.A u.n u.c)).below hb); clear y0 y1 y2 y3 y4
      have y0 := Ba_27.out.lt; have y1 := Bo_28.out.lt; have y2 := Bm_29.out.lt; have y3 := Bn_30.out.lt; have y4 := HB_31.out.size; have Bo_38 := Lib.hid (show Bk _ _ _ #[.bool false, .slice none 0 0, .int .i64 0] from ((Bo_28.out.ne (by omega) 0 (.bool u.b)).ne (by omega) 1 (.slice u.A u.n u.c)).below hb); clear y0 y1 y2 y3 y4
      have Bm_39 := Lib.hid (show Bk _ _ _ #[.bool u.b, .slice u.A u.n u.c] from ((Bm_29.out.set 0 (.bool u.b)).set 1 (.slice u.A u.n u.c)).below hb)
      have y0 := Ba_27.out.lt; have y1 := Bo_28.out.lt; have y2 := Bm_29.out.lt; have y3 := Bn_30.out.lt; have y4 := HB_31.out.size; have Bn_40 := Lib.hid (show Bk _ _ _ #[.bool t.b, .slice t.A t.n t.c] from ((Bn_30.out.ne (by omega) 0 (.bool u.b)).ne (by omega) 1 (.slice u.A u.n u.c)).below hb); clear y0 y1 y2 y3 y4
      have y0 := HB_31.out.size; have HB_41 := Lib.hid (below_tr (below_st (below_st HB_31.out 0 (by omega) (.bool u.b)) 1 (by omega) (.slice u.A u.n u.c)) hb); clear y0
      clear hb
      have RA_42 := Lib.hid (RA_32.out.dk K)
      have RX_43 := Lib.hid (RX_33.out.dk K)
      have RN_44 := Lib.hid (RN_34.out.dk K)
      have RT_45 := Lib.hid (RT_35.out.dk K)
      have RU_46 := Lib.hid (RU_36.out.dk K)
      clear K Ba_27 Bo_28 Bm_29 Bn_30 HB_31 RA_32 RX_33 RN_34 RT_35 RU_36
      have RV_47 := Lib.hid hv
      clear hv
      have la := Ba_37.out.lt
      obtain ⟨ca0, ca1, ca2⟩ := Ba_37.out.cells3
      have lo := Bo_38.out.lt
      obtain ⟨co0, co1, co2⟩ := Bo_38.out.cells3
      have fo0 := Bo_38.out.free 0
      have fo1 := Bo_38.out.free 1
      have fo2 := Bo_38.out.free 2
      have lm := Bm_39.out.lt
      obtain ⟨cm0, cm1⟩ := Bm_39.out.cells2
      have ln := Bn_40.out.lt
      obtain ⟨cn0, cn1⟩ := Bn_40.out.cells2
      go_wp2
      refine bodyPost_ret (v := .tuple #[.agg #[.bool v.b, .slice v.A v.n v.c, .int .i64 (D.mk' (-(-a.z / 2 ^ k)) (a.x + (k : Int))).x], .int .i64 0]) ?_ rfl ?_
      · simp [results, Tryd.f148, go_sem, co0, co1, co2]
      · have y0 := HB_41.out.size; exact ⟨⟨v, rfl, (RV_47.out.dk ((((Dk.refl _).set (cs := #[.bool false, .slice none 0 0, .int .i64 0]) Bo_38.out 0 (by intro _ hh; cases hh) (.bool v.b)).set (cs := #[.bool v.b, .slice none 0 0, .int .i64 0]) (Bo_38.out.set 0 (.bool v.b)) 1 (by intro _ hh; cases hh) (.slice v.A v.n v.c)).set (cs := #[.bool v.b, .slice v.A v.n v.c, .int .i64 0]) ((Bo_38.out.set 0 (.bool v.b)).set 1 (.slice v.A v.n v.c)) 2 (by intro _ hh; cases hh) (.int .i64 (D.mk' (-(-a.z / 2 ^ k)) (a.x + (k : Int))).x)))⟩, (below_st (below_st (below_st HB_41.out 0 (by omega) (.bool v.b)) 1 (by omega) (.slice v.A v.n v.c)) 2 (by omega) (.int .i64 (D.mk' (-(-a.z / 2 ^ k)) (a.x + (k : Int))).x))⟩

end Go.Proofs.YtgioppkggpfnoaaDoor.Nu
end

section
/- The walk of dyad.Of. -/
set_option linter.unusedVariables false
namespace Go.Proofs.YtgioppkggpfnoaaDoor.Nu
open Go.RowKit Go.Proofs

set_option maxRecDepth 100000 in
set_option maxHeartbeats 4000000 in
theorem dOf_any (w : World) (n x : Int) (hn0 : -9223372036854775808 ≤ n) (hn1 : n ≤ 9223372036854775807) (hx0 : -100 ≤ x) (hx1 : x ≤ 100) (ht : BTab w) :
    Calls Tryd.prog 33 #[.int .i64 n, .int .i64 x] w fun e w' => (∃ r : Q, e = .returned (.agg #[.bool r.b, .slice r.A r.n r.c, .int .i64 (D.mk' n x).x]) ∧ RD w' r (D.mk' n x)) ∧ Below w.heap.size w w' := by
  have HT := Lib.hid ht
  clear ht
  have BX := Lib.hid (boxes1 w 53 #[.bool false, .slice none 0 0, .int .i64 0])
  go_enter Tryd.func33, Tryd.ntmps33
  go_wp2_with fail
  generalize w.alloc (.cells #[.bool false, .slice none 0 0, .int .i64 0] 53) = w0 at *
  obtain ⟨b0, hw⟩ := BX.out
  have Bo_0 := Lib.hid b0
  have HB_0 := Lib.hid hw
  have K := Dk.below (hw.mono (Nat.le_refl _))
  clear BX hw b0
  clear K
  have lo := Bo_0.out.lt
  obtain ⟨co0, co1, co2⟩ := Bo_0.out.cells3
  go_wp2_with fail
  refine (wOf_q _ n (by omega) (by omega)).mono ?_
  rintro e w1 ⟨⟨r, rfl, hr⟩, hb⟩
  clear lo co0 co1 co2
  have K := Dk.below hb
  have Bo_1 := Lib.hid (show Bk _ _ _ #[.bool false, .slice none 0 0, .int .i64 0] from Bo_0.out.below hb)
  have HB_2 := Lib.hid (below_tr HB_0.out hb)
  clear hb
  clear K Bo_0 HB_0
  have RN_3 := Lib.hid hr
  clear hr
  have lo := Bo_1.out.lt
  obtain ⟨co0, co1, co2⟩ := Bo_1.out.cells3
  go_wp2_with fail
  try rw [show min (max x (-100)) 100 = x by omega]
  refine (dmake_q _ r n x RN_3.out (Nat.le_trans (nb_le.2 (show n.natAbs < 2 ^ 64 by omega)) (by omega)) (by omega) (by omega) (HT.out.below HB_2.out)).mono ?_
  rintro e w2 ⟨⟨u, rfl, hu⟩, hb⟩
  clear lo co0 co1 co2
  have K := Dk.below hb
  have Bo_4 := Lib.hid (show Bk _ _ _ #[.bool false, .slice none 0 0, .int .i64 0] from Bo_1.out.below hb)
  have HB_5 := Lib.hid (below_tr HB_2.out hb)
  clear hb
  have RN_6 := Lib.hid (RN_3.out.dk K)
  clear K Bo_1 HB_2 RN_3
  have RU_7 := Lib.hid hu
  clear hu
  have lo := Bo_4.out.lt
  obtain ⟨co0, co1, co2⟩ := Bo_4.out.cells3
  have fo0 := Bo_4.out.free 0
  have fo1 := Bo_4.out.free 1
  have fo2 := Bo_4.out.free 2
  have n_8 := Bo_4.out.lt
  go_wp2
  refine bodyPost_ret (v := .agg #[.bool u.b, .slice u.A u.n u.c, .int .i64 (D.mk' n x).x]) ?_ rfl ?_
  · simp [results, Tryd.f33, go_sem, co0, co1, co2, lo]
  · have y0 := HB_5.out.size; exact ⟨⟨u, rfl, (RU_7.out.dk (((((Dk.refl _).set (cs := #[.bool false, .slice none 0 0, .int .i64 0]) Bo_4.out 0 (by intro _ hh; cases hh) (.bool u.b)).set (cs := #[.bool u.b, .slice none 0 0, .int .i64 0]) (Bo_4.out.set 0 (.bool u.b)) 1 (by intro _ hh; cases hh) (.slice u.A u.n u.c)).set (cs := #[.bool u.b, .slice u.A u.n u.c, .int .i64 0]) ((Bo_4.out.set 0 (.bool u.b)).set 1 (.slice u.A u.n u.c)) 2 (by intro _ hh; cases hh) (.int .i64 (D.mk' n x).x)).alloc _))⟩, (below_al (below_st (below_st (below_st HB_5.out 0 (by omega) (.bool u.b)) 1 (by omega) (.slice u.A u.n u.c)) 2 (by omega) (.int .i64 (D.mk' n x).x)) _)⟩

end Go.Proofs.YtgioppkggpfnoaaDoor.Nu
end

section
/- The walks of dyad.Max, Min. -/
set_option linter.unusedVariables false
namespace Go.Proofs.YtgioppkggpfnoaaDoor.Nu
open Go.RowKit Go.Proofs

set_option maxRecDepth 100000 in
set_option maxHeartbeats 4000000 in
theorem dmax_any (w : World) (p q : Q) (a b : D) (E T : Nat) (h : RD w p a) (h2 : RD w q b) (la : a.Lim E T) (lb : b.Lim E T) (hET : E + T ≤ 16000) :
    Calls Tryd.prog 87 #[.agg #[.bool p.b, .slice p.A p.n p.c, .int .i64 a.x], .agg #[.bool q.b, .slice q.A q.n q.c, .int .i64 b.x]] w fun e w' => (∃ r : Q, e = .returned (.agg #[.bool r.b, .slice r.A r.n r.c, .int .i64 (a.mx b).x]) ∧ RD w' r (a.mx b)) ∧ Below w.heap.size w w' := by
  have HA := Lib.hid h
  have HB := Lib.hid h2
  have LA := Lib.hid la
  have LB := Lib.hid lb
  clear h h2 la lb
  by_cases hl : a.cmp b < 0
  · rw [show a.mx b = b from if_pos hl]
    have hd : decide (a.cmp b < 0) = true := decide_eq_true hl
    have HD := Lib.hid hd
    clear hd hl
    have BX := Lib.hid (boxes3 w 53 #[.bool p.b, .slice p.A p.n p.c, .int .i64 a.x] 53 #[.bool q.b, .slice q.A q.n q.c, .int .i64 b.x] 53 #[.bool false, .slice none 0 0, .int .i64 0])
    go_enter Tryd.func87, Tryd.ntmps87
    go_wp2_with fail
    generalize ((w.alloc (.cells #[.bool p.b, .slice p.A p.n p.c, .int .i64 a.x] 53)).alloc (.cells #[.bool q.b, .slice q.A q.n q.c, .int .i64 b.x] 53)).alloc (.cells #[.bool false, .slice none 0 0, .int .i64 0] 53) = w0 at *
    obtain ⟨b0, b1, b2, hw⟩ := BX.out
    have Ba_0 := Lib.hid b0
    have Bb_0 := Lib.hid b1
    have Bo_0 := Lib.hid b2
    have HB_0 := Lib.hid hw
    have K := Dk.below (hw.mono (Nat.le_refl _))
    clear BX hw b0 b1 b2
    have RA_1 := Lib.hid (HA.out.dk K)
    have RB_2 := Lib.hid (HB.out.dk K)
    clear K HA HB
    have la := Ba_0.out.lt
    obtain ⟨ca0, ca1, ca2⟩ := Ba_0.out.cells3
    have lb := Bb_0.out.lt
    obtain ⟨cb0, cb1, cb2⟩ := Bb_0.out.cells3
    have lo := Bo_0.out.lt
    obtain ⟨co0, co1, co2⟩ := Bo_0.out.cells3
    go_wp2_with fail
    refine (dless_any _ p q a b E T RA_1.out RB_2.out LA.out LB.out hET).mono ?_
    rintro e w1 ⟨rfl, hb⟩
    clear la ca0 ca1 ca2 lb cb0 cb1 cb2 lo co0 co1 co2
    have K := Dk.below hb
    have Ba_3 := Lib.hid (show Bk _ _ _ #[.bool p.b, .slice p.A p.n p.c, .int .i64 a.x] from Ba_0.out.below hb)
    have Bb_4 := Lib.hid (show Bk _ _ _ #[.bool q.b, .slice q.A q.n q.c, .int .i64 b.x] from Bb_0.out.below hb)
    have Bo_5 := Lib.hid (show Bk _ _ _ #[.bool false, .slice none 0 0, .int .i64 0] from Bo_0.out.below hb)
    have HB_6 := Lib.hid (below_tr HB_0.out hb)
    clear hb
    have RA_7 := Lib.hid (RA_1.out.dk K)
    have RB_8 := Lib.hid (RB_2.out.dk K)
    clear K Ba_0 Bb_0 Bo_0 HB_0 RA_1 RB_2
    rw [HD.out]
    have la := Ba_3.out.lt
    obtain ⟨ca0, ca1, ca2⟩ := Ba_3.out.cells3
    have fa0 := Ba_3.out.free 0
    have fa1 := Ba_3.out.free 1
    have fa2 := Ba_3.out.free 2
    have lb := Bb_4.out.lt
    obtain ⟨cb0, cb1, cb2⟩ := Bb_4.out.cells3
    have lo := Bo_5.out.lt
    obtain ⟨co0, co1, co2⟩ := Bo_5.out.cells3
    have fo0 := Bo_5.out.free 0
    have fo1 := Bo_5.out.free 1
    have fo2 := Bo_5.out.free 2
    go_wp2_with fail
    refine (down_any _ q b (RB_8.out.dk ((((Dk.refl _).set (cs := #[.bool p.b, .slice p.A p.n p.c, .int .i64 a.x]) Ba_3.out 0 (by intro _ hh; cases hh) (.bool q.b)).set (cs := #[.bool q.b, .slice p.A p.n p.c, .int .i64 a.x]) (Ba_3.out.set 0 (.bool q.b)) 1 (by intro _ hh; cases hh) (.slice q.A q.n q.c)).set (cs := #[.bool q.b, .slice q.A q.n q.c, .int .i64 a.x]) ((Ba_3.out.set 0 (.bool q.b)).set 1 (.slice q.A q.n q.c)) 2 (by intro _ hh; cases hh) (.int .i64 b.x))) ((RB_8.out.dk ((((Dk.refl _).set (cs := #[.bool p.b, .slice p.A p.n p.c, .int .i64 a.x]) Ba_3.out 0 (by intro _ hh; cases hh) (.bool q.b)).set (cs := #[.bool q.b, .slice p.A p.n p.c, .int .i64 a.x]) (Ba_3.out.set 0 (.bool q.b)) 1 (by intro _ hh; cases hh) (.slice q.A q.n q.c)).set (cs := #[.bool q.b, .slice q.A q.n q.c, .int .i64 a.x]) ((Ba_3.out.set 0 (.bool q.b)).set 1 (.slice q.A q.n q.c)) 2 (by intro _ hh; cases hh) (.int .i64 b.x))).1.len (k := 512) (by have := LB.out.nb; omega))).mono ?_
    rintro e w2 ⟨⟨s, rfl, hs⟩, hb⟩
    clear la ca0 ca1 ca2 fa0 fa1 fa2 lb cb0 cb1 cb2 lo co0 co1 co2 fo0 fo1 fo2
    have K := Dk.trans ((((Dk.refl _).set (cs := #[.bool p.b, .slice p.A p.n p.c, .int .i64 a.x]) Ba_3.out 0 (by intro _ hh; cases hh) (.bool q.b)).set (cs := #[.bool q.b, .slice p.A p.n p.c, .int .i64 a.x]) (Ba_3.out.set 0 (.bool q.b)) 1 (by intro _ hh; cases hh) (.slice q.A q.n q.c)).set (cs := #[.bool q.b, .slice q.A q.n q.c, .int .i64 a.x]) ((Ba_3.out.set 0 (.bool q.b)).set 1 (.slice q.A q.n q.c)) 2 (by intro _ hh; cases hh) (.int .i64 b.x)) (.below hb)
    have Ba_9 := Lib.hid (show Bk _ _ _ #[.bool q.b, .slice q.A q.n q.c, .int .i64 b.x] from (((Ba_3.out.set 0 (.bool q.b)).set 1 (.slice q.A q.n q.c)).set 2 (.int .i64 b.x)).below hb)
    have y0 := Ba_3.out.lt; have y1 := Bb_4.out.lt; have y2 := Bo_5.out.lt; have y3 := HB_6.out.size; have Bb_10 := Lib.hid (show Bk _ _ _ #[.bool q.b, .slice q.A q.n q.c, .int .i64 b.x] from (((Bb_4.out.ne (by omega) 0 (.bool q.b)).ne (by omega) 1 (.slice q.A q.n q.c)).ne (by omega) 2 (.int .i64 b.x)).below hb); clear y0 y1 y2 y3
    have y0 := Ba_3.out.lt; have y1 := Bb_4.out.lt; have y2 := Bo_5.out.lt; have y3 := HB_6.out.size; have Bo_11 := Lib.hid (show Bk _ _ _ #[.bool false, .slice none 0 0, .int .i64 0] from (((Bo_5.out.ne (by omega) 0 (.bool q.b)).ne (by omega) 1 (.slice q.A q.n q.c)).ne (by omega) 2 (.int .i64 b.x)).below hb); clear y0 y1 y2 y3
    have y0 := HB_6.out.size; have HB_12 := Lib.hid (below_tr (below_st (below_st (below_st HB_6.out 0 (by omega) (.bool q.b)) 1 (by omega) (.slice q.A q.n q.c)) 2 (by omega) (.int .i64 b.x)) hb); clear y0
    clear hb
    have RA_13 := Lib.hid (RA_7.out.dk K)
    have RB_14 := Lib.hid (RB_8.out.dk K)
    clear K Ba_3 Bb_4 Bo_5 HB_6 RA_7 RB_8
    have RX_15 := Lib.hid hs
    clear hs
    have la := Ba_9.out.lt
    obtain ⟨ca0, ca1, ca2⟩ := Ba_9.out.cells3
    have lb := Bb_10.out.lt
    obtain ⟨cb0, cb1, cb2⟩ := Bb_10.out.cells3
    have lo := Bo_11.out.lt
    obtain ⟨co0, co1, co2⟩ := Bo_11.out.cells3
    have fo0 := Bo_11.out.free 0
    have fo1 := Bo_11.out.free 1
    have fo2 := Bo_11.out.free 2
    go_wp2
    refine bodyPost_ret (v := .agg #[.bool s.b, .slice s.A s.n s.c, .int .i64 b.x]) ?_ rfl ?_
    · simp [results, Tryd.f87, go_sem, co0, co1, co2]
    · have y0 := HB_12.out.size; exact ⟨⟨s, rfl, (RX_15.out.dk ((((Dk.refl _).set (cs := #[.bool false, .slice none 0 0, .int .i64 0]) Bo_11.out 0 (by intro _ hh; cases hh) (.bool s.b)).set (cs := #[.bool s.b, .slice none 0 0, .int .i64 0]) (Bo_11.out.set 0 (.bool s.b)) 1 (by intro _ hh; cases hh) (.slice s.A s.n s.c)).set (cs := #[.bool s.b, .slice s.A s.n s.c, .int .i64 0]) ((Bo_11.out.set 0 (.bool s.b)).set 1 (.slice s.A s.n s.c)) 2 (by intro _ hh; cases hh) (.int .i64 b.x)))⟩, (below_st (below_st (below_st HB_12.out 0 (by omega) (.bool s.b)) 1 (by omega) (.slice s.A s.n s.c)) 2 (by omega) (.int .i64 b.x))⟩
  · rw [show a.mx b = a from if_neg hl]
    have hd : decide (a.cmp b < 0) = false := decide_eq_false hl
    have HD := Lib.hid hd
    clear hd hl
    have BX := Lib.hid (boxes3 w 53 #[.bool p.b, .slice p.A p.n p.c, .int .i64 a.x] 53 #[.bool q.b, .slice q.A q.n q.c, .int .i64 b.x] 53 #[.bool false, .slice none 0 0, .int .i64 0])
    go_enter Tryd.func87, Tryd.ntmps87
    go_wp2_with fail
    generalize ((w.alloc (.cells #[.bool p.b, .slice p.A p.n p.c, .int .i64 a.x] 53)).alloc (.cells #[.bool q.b, .slice q.A q.n q.c, .int .i64 b.x] 53)).alloc (.cells #[.bool false, .slice none 0 0, .int .i64 0] 53) = w0 at *
    obtain ⟨b0, b1, b2, hw⟩ := BX.out
    have Ba_0 := Lib.hid b0
    have Bb_0 := Lib.hid b1
    have Bo_0 := Lib.hid b2
    have HB_0 := Lib.hid hw
    have K := Dk.below (hw.mono (Nat.le_refl _))
    clear BX hw b0 b1 b2
    have RA_1 := Lib.hid (HA.out.dk K)
    have RB_2 := Lib.hid (HB.out.dk K)
    clear K HA HB
    have la := Ba_0.out.lt
    obtain ⟨ca0, ca1, ca2⟩ := Ba_0.out.cells3
    have lb := Bb_0.out.lt
    obtain ⟨cb0, cb1, cb2⟩ := Bb_0.out.cells3
    have lo := Bo_0.out.lt
    obtain ⟨co0, co1, co2⟩ := Bo_0.out.cells3
    go_wp2_with fail
    refine (dless_any _ p q a b E T RA_1.out RB_2.out LA.out LB.out hET).mono ?_
    rintro e w1 ⟨rfl, hb⟩
    clear la ca0 ca1 ca2 lb cb0 cb1 cb2 lo co0 co1 co2
    have K := Dk.below hb
    have Ba_3 := Lib.hid (show Bk _ _ _ #[.bool p.b, .slice p.A p.n p.c, .int .i64 a.x] from Ba_0.out.below hb)
    have Bb_4 := Lib.hid (show Bk _ _ _ #[.bool q.b, .slice q.A q.n q.c, .int .i64 b.x] from Bb_0.out.below hb)
    have Bo_5 := Lib.hid (show Bk _ _ _ #[.bool false, .slice none 0 0, .int .i64 0] from Bo_0.out.below hb)
    have HB_6 := Lib.hid (below_tr HB_0.out hb)
    clear hb
    have RA_7 := Lib.hid (RA_1.out.dk K)
    have RB_8 := Lib.hid (RB_2.out.dk K)
    clear K Ba_0 Bb_0 Bo_0 HB_0 RA_1 RB_2
    rw [HD.out]
    have la := Ba_3.out.lt
    obtain ⟨ca0, ca1, ca2⟩ := Ba_3.out.cells3
    have fa0 := Ba_3.out.free 0
    have fa1 := Ba_3.out.free 1
    have fa2 := Ba_3.out.free 2
    have lb := Bb_4.out.lt
    obtain ⟨cb0, cb1, cb2⟩ := Bb_4.out.cells3
    have lo := Bo_5.out.lt
    obtain ⟨co0, co1, co2⟩ := Bo_5.out.cells3
    have fo0 := Bo_5.out.free 0
    have fo1 := Bo_5.out.free 1
    have fo2 := Bo_5.out.free 2
    go_wp2_with fail
    refine (down_any _ p a RA_7.out (RA_7.out.1.len (k := 512) (by have := LA.out.nb; omega))).mono ?_
    rintro e w2 ⟨⟨s, rfl, hs⟩, hb⟩
    clear la ca0 ca1 ca2 fa0 fa1 fa2 lb cb0 cb1 cb2 lo co0 co1 co2 fo0 fo1 fo2
    have K := Dk.below hb
    have Ba_9 := Lib.hid (show Bk _ _ _ #[.bool p.b, .slice p.A p.n p.c, .int .i64 a.x] from Ba_3.out.below hb)
    have Bb_10 := Lib.hid (show Bk _ _ _ #[.bool q.b, .slice q.A q.n q.c, .int .i64 b.x] from Bb_4.out.below hb)
    have Bo_11 := Lib.hid (show Bk _ _ _ #[.bool false, .slice none 0 0, .int .i64 0] from Bo_5.out.below hb)
    have HB_12 := Lib.hid (below_tr HB_6.out hb)
    clear hb
    have RA_13 := Lib.hid (RA_7.out.dk K)
    have RB_14 := Lib.hid (RB_8.out.dk K)
    clear K Ba_3 Bb_4 Bo_5 HB_6 RA_7 RB_8
    have RX_15 := Lib.hid hs
    clear hs
    have la := Ba_9.out.lt
    obtain ⟨ca0, ca1, ca2⟩ := Ba_9.out.cells3
    have lb := Bb_10.out.lt
    obtain ⟨cb0, cb1, cb2⟩ := Bb_10.out.cells3
    have lo := Bo_11.out.lt
    obtain ⟨co0, co1, co2⟩ := Bo_11.out.cells3
    have fo0 := Bo_11.out.free 0
    have fo1 := Bo_11.out.free 1
    have fo2 := Bo_11.out.free 2
    go_wp2
    refine bodyPost_ret (v := .agg #[.bool s.b, .slice s.A s.n s.c, .int .i64 a.x]) ?_ rfl ?_
    · simp [results, Tryd.f87, go_sem, co0, co1, co2]
    · have y0 := HB_12.out.size; exact ⟨⟨s, rfl, (RX_15.out.dk ((((Dk.refl _).set (cs := #[.bool false, .slice none 0 0, .int .i64 0]) Bo_11.out 0 (by intro _ hh; cases hh) (.bool s.b)).set (cs := #[.bool s.b, .slice none 0 0, .int .i64 0]) (Bo_11.out.set 0 (.bool s.b)) 1 (by intro _ hh; cases hh) (.slice s.A s.n s.c)).set (cs := #[.bool s.b, .slice s.A s.n s.c, .int .i64 0]) ((Bo_11.out.set 0 (.bool s.b)).set 1 (.slice s.A s.n s.c)) 2 (by intro _ hh; cases hh) (.int .i64 a.x)))⟩, (below_st (below_st (below_st HB_12.out 0 (by omega) (.bool s.b)) 1 (by omega) (.slice s.A s.n s.c)) 2 (by omega) (.int .i64 a.x))⟩

set_option maxRecDepth 100000 in
set_option maxHeartbeats 4000000 in
theorem dmin_any (w : World) (p q : Q) (a b : D) (E T : Nat) (h : RD w p a) (h2 : RD w q b) (la : a.Lim E T) (lb : b.Lim E T) (hET : E + T ≤ 16000) :
    Calls Tryd.prog 97 #[.agg #[.bool p.b, .slice p.A p.n p.c, .int .i64 a.x], .agg #[.bool q.b, .slice q.A q.n q.c, .int .i64 b.x]] w fun e w' => (∃ r : Q, e = .returned (.agg #[.bool r.b, .slice r.A r.n r.c, .int .i64 (a.mn b).x]) ∧ RD w' r (a.mn b)) ∧ Below w.heap.size w w' := by
  have HA := Lib.hid h
  have HB := Lib.hid h2
  have LA := Lib.hid la
  have LB := Lib.hid lb
  clear h h2 la lb
  by_cases hl : b.cmp a < 0
  · rw [show a.mn b = b from if_pos hl]
    have hd : decide (b.cmp a < 0) = true := decide_eq_true hl
    have HD := Lib.hid hd
    clear hd hl
    have BX := Lib.hid (boxes3 w 53 #[.bool p.b, .slice p.A p.n p.c, .int .i64 a.x] 53 #[.bool q.b, .slice q.A q.n q.c, .int .i64 b.x] 53 #[.bool false, .slice none 0 0, .int .i64 0])
    go_enter Tryd.func97, Tryd.ntmps97
    go_wp2_with fail
    generalize ((w.alloc (.cells #[.bool p.b, .slice p.A p.n p.c, .int .i64 a.x] 53)).alloc (.cells #[.bool q.b, .slice q.A q.n q.c, .int .i64 b.x] 53)).alloc (.cells #[.bool false, .slice none 0 0, .int .i64 0] 53) = w0 at *
    obtain ⟨b0, b1, b2, hw⟩ := BX.out
    have Ba_0 := Lib.hid b0
    have Bb_0 := Lib.hid b1
    have Bo_0 := Lib.hid b2
    have HB_0 := Lib.hid hw
    have K := Dk.below (hw.mono (Nat.le_refl _))
    clear BX hw b0 b1 b2
    have RA_1 := Lib.hid (HA.out.dk K)
    have RB_2 := Lib.hid (HB.out.dk K)
    clear K HA HB
    have la := Ba_0.out.lt
    obtain ⟨ca0, ca1, ca2⟩ := Ba_0.out.cells3
    have lb := Bb_0.out.lt
    obtain ⟨cb0, cb1, cb2⟩ := Bb_0.out.cells3
    have lo := Bo_0.out.lt
    obtain ⟨co0, co1, co2⟩ := Bo_0.out.cells3
    go_wp2_with fail
    refine (dless_any _ q p b a E T RB_2.out RA_1.out LB.out LA.out hET).mono ?_
    rintro e w1 ⟨rfl, hb⟩
    clear la ca0 ca1 ca2 lb cb0 cb1 cb2 lo co0 co1 co2
    have K := Dk.below hb
    have Ba_3 := Lib.hid (show Bk _ _ _ #[.bool p.b, .slice p.A p.n p.c, .int .i64 a.x] from Ba_0.out.below hb)
    have Bb_4 := Lib.hid (show Bk _ _ _ #[.bool q.b, .slice q.A q.n q.c, .int .i64 b.x] from Bb_0.out.below hb)
    have Bo_5 := Lib.hid (show Bk _ _ _ #[.bool false, .slice none 0 0, .int .i64 0] from Bo_0.out.below hb)
    have HB_6 := Lib.hid (below_tr HB_0.out hb)
    clear hb
    have RA_7 := Lib.hid (RA_1.out.dk K)
    have RB_8 := Lib.hid (RB_2.out.dk K)
    clear K Ba_0 Bb_0 Bo_0 HB_0 RA_1 RB_2
    rw [HD.out]
    have la := Ba_3.out.lt
    obtain ⟨ca0, ca1, ca2⟩ := Ba_3.out.cells3
    have fa0 := Ba_3.out.free 0
    have fa1 := Ba_3.out.free 1
    have fa2 := Ba_3.out.free 2
    have lb := Bb_4.out.lt
    obtain ⟨cb0, cb1, cb2⟩ := Bb_4.out.cells3
    have lo := Bo_5.out.lt
    obtain ⟨co0, co1, co2⟩ := Bo_5.out.cells3
    have fo0 := Bo_5.out.free 0
    have fo1 := Bo_5.out.free 1
    have fo2 := Bo_5.out.free 2
    go_wp2_with fail
    refine (down_any _ q b (RB_8.out.dk ((((Dk.refl _).set (cs := #[.bool p.b, .slice p.A p.n p.c, .int .i64 a.x]) Ba_3.out 0 (by intro _ hh; cases hh) (.bool q.b)).set (cs := #[.bool q.b, .slice p.A p.n p.c, .int .i64 a.x]) (Ba_3.out.set 0 (.bool q.b)) 1 (by intro _ hh; cases hh) (.slice q.A q.n q.c)).set (cs := #[.bool q.b, .slice q.A q.n q.c, .int .i64 a.x]) ((Ba_3.out.set 0 (.bool q.b)).set 1 (.slice q.A q.n q.c)) 2 (by intro _ hh; cases hh) (.int .i64 b.x))) ((RB_8.out.dk ((((Dk.refl _).set (cs := #[.bool p.b, .slice p.A p.n p.c, .int .i64 a.x]) Ba_3.out 0 (by intro _ hh; cases hh) (.bool q.b)).set (cs := #[.bool q.b, .slice p.A p.n p.c, .int .i64 a.x]) (Ba_3.out.set 0 (.bool q.b)) 1 (by intro _ hh; cases hh) (.slice q.A q.n q.c)).set (cs := #[.bool q.b, .slice q.A q.n q.c, .int .i64 a.x]) ((Ba_3.out.set 0 (.bool q.b)).set 1 (.slice q.A q.n q.c)) 2 (by intro _ hh; cases hh) (.int .i64 b.x))).1.len (k := 512) (by have := LB.out.nb; omega))).mono ?_
    rintro e w2 ⟨⟨s, rfl, hs⟩, hb⟩
    clear la ca0 ca1 ca2 fa0 fa1 fa2 lb cb0 cb1 cb2 lo co0 co1 co2 fo0 fo1 fo2
    have K := Dk.trans ((((Dk.refl _).set (cs := #[.bool p.b, .slice p.A p.n p.c, .int .i64 a.x]) Ba_3.out 0 (by intro _ hh; cases hh) (.bool q.b)).set (cs := #[.bool q.b, .slice p.A p.n p.c, .int .i64 a.x]) (Ba_3.out.set 0 (.bool q.b)) 1 (by intro _ hh; cases hh) (.slice q.A q.n q.c)).set (cs := #[.bool q.b, .slice q.A q.n q.c, .int .i64 a.x]) ((Ba_3.out.set 0 (.bool q.b)).set 1 (.slice q.A q.n q.c)) 2 (by intro _ hh; cases hh) (.int .i64 b.x)) (.below hb)
    have Ba_9 := Lib.hid (show Bk _ _ _ #[.bool q.b, .slice q.A q.n q.c, .int .i64 b.x] from (((Ba_3.out.set 0 (.bool q.b)).set 1 (.slice q.A q.n q.c)).set 2 (.int .i64 b.x)).below hb)
    have y0 := Ba_3.out.lt; have y1 := Bb_4.out.lt; have y2 := Bo_5.out.lt; have y3 := HB_6.out.size; have Bb_10 := Lib.hid (show Bk _ _ _ #[.bool q.b, .slice q.A q.n q.c, .int .i64 b.x] from (((Bb_4.out.ne (by omega) 0 (.bool q.b)).ne (by omega) 1 (.slice q.A q.n q.c)).ne (by omega) 2 (.int .i64 b.x)).below hb); clear y0 y1 y2 y3
    have y0 := Ba_3.out.lt; have y1 := Bb_4.out.lt; have y2 := Bo_5.out.lt; have y3 := HB_6.out.size; have Bo_11 := Lib.hid (show Bk _ _ _ #[.bool false, .slice none 0 0, .int .i64 0] from (((Bo_5.out.ne (by omega) 0 (.bool q.b)).ne (by omega) 1 (.slice q.A q.n q.c)).ne (by omega) 2 (.int .i64 b.x)).below hb); clear y0 y1 y2 y3
    have y0 := HB_6.out.size; have HB_12 := Lib.hid (below_tr (below_st (below_st (below_st HB_6.out 0 (by omega) (.bool q.b)) 1 (by omega) (.slice q.A q.n q.c)) 2 (by omega) (.int .i64 b.x)) hb); clear y0
    clear hb
    have RA_13 := Lib.hid (RA_7.out.dk K)
    have RB_14 := Lib.hid (RB_8.out.dk K)
    clear K Ba_3 Bb_4 Bo_5 HB_6 RA_7 RB_8
    have RX_15 := Lib.hid hs
    clear hs
    have la := Ba_9.out.lt
    obtain ⟨ca0, ca1, ca2⟩ := Ba_9.out.cells3
    have lb := Bb_10.out.lt
    obtain ⟨cb0, cb1, cb2⟩ := Bb_10.out.cells3
    have lo := Bo_11.out.lt
    obtain ⟨co0, co1, co2⟩ := Bo_11.out.cells3
    have fo0 := Bo_11.out.free 0
    have fo1 := Bo_11.out.free 1
    have fo2 := Bo_11.out.free 2
    go_wp2
    refine bodyPost_ret (v := .agg #[.bool s.b, .slice s.A s.n s.c, .int .i64 b.x]) ?_ rfl ?_
    · simp [results, Tryd.f97, go_sem, co0, co1, co2]
    · have y0 := HB_12.out.size; exact ⟨⟨s, rfl, (RX_15.out.dk ((((Dk.refl _).set (cs := #[.bool false, .slice none 0 0, .int .i64 0]) Bo_11.out 0 (by intro _ hh; cases hh) (.bool s.b)).set (cs := #[.bool s.b, .slice none 0 0, .int .i64 0]) (Bo_11.out.set 0 (.bool s.b)) 1 (by intro _ hh; cases hh) (.slice s.A s.n s.c)).set (cs := #[.bool s.b, .slice s.A s.n s.c, .int .i64 0]) ((Bo_11.out.set 0 (.bool s.b)).set 1 (.slice s.A s.n s.c)) 2 (by intro _ hh; cases hh) (.int .i64 b.x)))⟩, (below_st (below_st (below_st HB_12.out 0 (by omega) (.bool s.b)) 1 (by omega) (.slice s.A s.n s.c)) 2 (by omega) (.int .i64 b.x))⟩
  · rw [show a.mn b = a from if_neg hl]
    have hd : decide (b.cmp a < 0) = false := decide_eq_false hl
    have HD := Lib.hid hd
    clear hd hl
    have BX := Lib.hid (boxes3 w 53 #[.bool p.b, .slice p.A p.n p.c, .int .i64 a.x] 53 #[.bool q.b, .slice q.A q.n q.c, .int .i64 b.x] 53 #[.bool false, .slice none 0 0, .int .i64 0])
    go_enter Tryd.func97, Tryd.ntmps97
    go_wp2_with fail
    generalize ((w.alloc (.cells #[.bool p.b, .slice p.A p.n p.c, .int .i64 a.x] 53)).alloc (.cells #[.bool q.b, .slice q.A q.n q.c, .int .i64 b.x] 53)).alloc (.cells #[.bool false, .slice none 0 0, .int .i64 0] 53) = w0 at *
    obtain ⟨b0, b1, b2, hw⟩ := BX.out
    have Ba_0 := Lib.hid b0
    have Bb_0 := Lib.hid b1
    have Bo_0 := Lib.hid b2
    have HB_0 := Lib.hid hw
    have K := Dk.below (hw.mono (Nat.le_refl _))
    clear BX hw b0 b1 b2
    have RA_1 := Lib.hid (HA.out.dk K)
    have RB_2 := Lib.hid (HB.out.dk K)
    clear K HA HB
    have la := Ba_0.out.lt
    obtain ⟨ca0, ca1, ca2⟩ := Ba_0.out.cells3
    have lb := Bb_0.out.lt
    obtain ⟨cb0, cb1, cb2⟩ := Bb_0.out.cells3
    have lo := Bo_0.out.lt
    obtain ⟨co0, co1, co2⟩ := Bo_0.out.cells3
    go_wp2_with fail
    refine (dless_any _ q p b a E T RB_2.out RA_1.out LB.out LA.out hET).mono ?_
    rintro e w1 ⟨rfl, hb⟩
    clear la ca0 ca1 ca2 lb cb0 cb1 cb2 lo co0 co1 co2
    have K := Dk.below hb
    have Ba_3 := Lib.hid (show Bk _ _ _ #[.bool p.b, .slice p.A p.n p.c, .int .i64 a.x] from Ba_0.out.below hb)
    have Bb_4 := Lib.hid (show Bk _ _ _ #[.bool q.b, .slice q.A q.n q.c, .int .i64 b.x] from Bb_0.out.below hb)
    have Bo_5 := Lib.hid (show Bk _ _ _ #[.bool false, .slice none 0 0, .int .i64 0] from Bo_0.out.below hb)
    have HB_6 := Lib.hid (below_tr HB_0.out hb)
    clear hb
    have RA_7 := Lib.hid (RA_1.out.dk K)
    have RB_8 := Lib.hid (RB_2.out.dk K)
    clear K Ba_0 Bb_0 Bo_0 HB_0 RA_1 RB_2
    rw [HD.out]
    have la := Ba_3.out.lt
    obtain ⟨ca0, ca1, ca2⟩ := Ba_3.out.cells3
    have fa0 := Ba_3.out.free 0
    have fa1 := Ba_3.out.free 1
    have fa2 := Ba_3.out.free 2
    have lb := Bb_4.out.lt
    obtain ⟨cb0, cb1, cb2⟩ := Bb_4.out.cells3
    have lo := Bo_5.out.lt
    obtain ⟨co0, co1, co2⟩ := Bo_5.out.cells3
    have fo0 := Bo_5.out.free 0
    have fo1 := Bo_5.out.free 1
    have fo2 := Bo_5.out.free 2
    go_wp2_with fail
    refine (down_any _ p a RA_7.out (RA_7.out.1.len (k := 512) (by have := LA.out.nb; omega))).mono ?_
    rintro e w2 ⟨⟨s, rfl, hs⟩, hb⟩
    clear la ca0 ca1 ca2 fa0 fa1 fa2 lb cb0 cb1 cb2 lo co0 co1 co2 fo0 fo1 fo2
    have K := Dk.below hb
    have Ba_9 := Lib.hid (show Bk _ _ _ #[.bool p.b, .slice p.A p.n p.c, .int .i64 a.x] from Ba_3.out.below hb)
    have Bb_10 := Lib.hid (show Bk _ _ _ #[.bool q.b, .slice q.A q.n q.c, .int .i64 b.x] from Bb_4.out.below hb)
    have Bo_11 := Lib.hid (show Bk _ _ _ #[.bool false, .slice none 0 0, .int .i64 0] from Bo_5.out.below hb)
    have HB_12 := Lib.hid (below_tr HB_6.out hb)
    clear hb
    have RA_13 := Lib.hid (RA_7.out.dk K)
    have RB_14 := Lib.hid (RB_8.out.dk K)
    clear K Ba_3 Bb_4 Bo_5 HB_6 RA_7 RB_8
    have RX_15 := Lib.hid hs
    clear hs
    have la := Ba_9.out.lt
    obtain ⟨ca0, ca1, ca2⟩ := Ba_9.out.cells3
    have lb := Bb_10.out.lt
    obtain ⟨cb0, cb1, cb2⟩ := Bb_10.out.cells3
    have lo := Bo_11.out.lt
    obtain ⟨co0, co1, co2⟩ := Bo_11.out.cells3
    have fo0 := Bo_11.out.free 0
    have fo1 := Bo_11.out.free 1
    have fo2 := Bo_11.out.free 2
    go_wp2
    refine bodyPost_ret (v := .agg #[.bool s.b, .slice s.A s.n s.c, .int .i64 a.x]) ?_ rfl ?_
    · simp [results, Tryd.f97, go_sem, co0, co1, co2]
    · have y0 := HB_12.out.size; exact ⟨⟨s, rfl, (RX_15.out.dk ((((Dk.refl _).set (cs := #[.bool false, .slice none 0 0, .int .i64 0]) Bo_11.out 0 (by intro _ hh; cases hh) (.bool s.b)).set (cs := #[.bool s.b, .slice none 0 0, .int .i64 0]) (Bo_11.out.set 0 (.bool s.b)) 1 (by intro _ hh; cases hh) (.slice s.A s.n s.c)).set (cs := #[.bool s.b, .slice s.A s.n s.c, .int .i64 0]) ((Bo_11.out.set 0 (.bool s.b)).set 1 (.slice s.A s.n s.c)) 2 (by intro _ hh; cases hh) (.int .i64 a.x)))⟩, (below_st (below_st (below_st HB_12.out 0 (by omega) (.bool s.b)) 1 (by omega) (.slice s.A s.n s.c)) 2 (by omega) (.int .i64 a.x))⟩

end Go.Proofs.YtgioppkggpfnoaaDoor.Nu
end

section
/- The walk of dyad.Mul. -/
set_option linter.unusedVariables false
namespace Go.Proofs.YtgioppkggpfnoaaDoor.Nu
open Go.RowKit Go.Proofs

set_option maxRecDepth 100000 in
set_option maxHeartbeats 4000000 in
theorem dmul_any (w : World) (p q : Q) (a b : D) (h : RD w p a) (h2 : RD w q b) (hxy : nb a.z.natAbs + nb b.z.natAbs ≤ 16320 ∧ -20000 ≤ a.x ∧ a.x ≤ 20000 ∧ -20000 ≤ b.x ∧ b.x ≤ 20000) (ht : BTab w) :
    Calls Tryd.prog 51 #[.agg #[.bool p.b, .slice p.A p.n p.c, .int .i64 a.x], .agg #[.bool q.b, .slice q.A q.n q.c, .int .i64 b.x]] w fun e w' => (∃ r : Q, e = .returned (.tuple #[.agg #[.bool r.b, .slice r.A r.n r.c, .int .i64 (a.mul b).x], .int .i64 0]) ∧ RD w' r (a.mul b)) ∧ Below w.heap.size w w' := by
  have HA := Lib.hid h
  have HB := Lib.hid h2
  clear h h2
  have HT := Lib.hid ht
  clear ht
  have s0 := Lib.hid hxy
  clear hxy
  unfold D.mul
  have BX := Lib.hid (boxes3 w 53 #[.bool p.b, .slice p.A p.n p.c, .int .i64 a.x] 53 #[.bool q.b, .slice q.A q.n q.c, .int .i64 b.x] 53 #[.bool false, .slice none 0 0, .int .i64 0])
  go_enter Tryd.func51, Tryd.ntmps51
  go_wp2_with fail
  generalize ((w.alloc (.cells #[.bool p.b, .slice p.A p.n p.c, .int .i64 a.x] 53)).alloc (.cells #[.bool q.b, .slice q.A q.n q.c, .int .i64 b.x] 53)).alloc (.cells #[.bool false, .slice none 0 0, .int .i64 0] 53) = w0 at *
  obtain ⟨b0, b1, b2, hw⟩ := BX.out
  have Ba_0 := Lib.hid b0
  have Bb_0 := Lib.hid b1
  have Bo_0 := Lib.hid b2
  have HB_0 := Lib.hid hw
  have K := Dk.below (hw.mono (Nat.le_refl _))
  clear BX hw b0 b1 b2
  have RA_1 := Lib.hid (HA.out.dk K)
  have RB_2 := Lib.hid (HB.out.dk K)
  clear K HA HB
  have la := Ba_0.out.lt
  obtain ⟨ca0, ca1, ca2⟩ := Ba_0.out.cells3
  have lb := Bb_0.out.lt
  obtain ⟨cb0, cb1, cb2⟩ := Bb_0.out.cells3
  have lo := Bo_0.out.lt
  obtain ⟨co0, co1, co2⟩ := Bo_0.out.cells3
  go_wp2_with fail
  refine (wmul_q _ p q a.z b.z RA_1.out.1 RB_2.out.1 (by have := s0.out; omega)).mono ?_
  rintro e w1 ⟨⟨r, rfl, hr⟩, hb⟩
  clear la ca0 ca1 ca2 lb cb0 cb1 cb2 lo co0 co1 co2
  have K := Dk.below hb
  have Ba_3 := Lib.hid (show Bk _ _ _ #[.bool p.b, .slice p.A p.n p.c, .int .i64 a.x] from Ba_0.out.below hb)
  have Bb_4 := Lib.hid (show Bk _ _ _ #[.bool q.b, .slice q.A q.n q.c, .int .i64 b.x] from Bb_0.out.below hb)
  have Bo_5 := Lib.hid (show Bk _ _ _ #[.bool false, .slice none 0 0, .int .i64 0] from Bo_0.out.below hb)
  have HB_6 := Lib.hid (below_tr HB_0.out hb)
  clear hb
  have RA_7 := Lib.hid (RA_1.out.dk K)
  have RB_8 := Lib.hid (RB_2.out.dk K)
  clear K Ba_0 Bb_0 Bo_0 HB_0 RA_1 RB_2
  have RP_9 := Lib.hid hr
  clear hr
  have la := Ba_3.out.lt
  obtain ⟨ca0, ca1, ca2⟩ := Ba_3.out.cells3
  have lb := Bb_4.out.lt
  obtain ⟨cb0, cb1, cb2⟩ := Bb_4.out.cells3
  have lo := Bo_5.out.lt
  obtain ⟨co0, co1, co2⟩ := Bo_5.out.cells3
  have n_10 := Ba_3.out.lt
  have n_11 := Bb_4.out.lt
  have n_12 := Bo_5.out.lt
  have x0 := s0.out.2.1
  have x1 := s0.out.2.2.1
  have x2 := s0.out.2.2.2.1
  have x3 := s0.out.2.2.2.2
  go_wp2_with fail
  refine (dmake_q _ r (a.z * b.z) (a.x + b.x) (RP_9.out.dk ((Dk.refl _).alloc _)) (by rw [Int.natAbs_mul]; exact Nat.le_trans (nb_mul _ _) (by have := s0.out; omega)) (by omega) (by omega) (HT.out.below (below_al HB_6.out _))).mono ?_
  rintro e w2 ⟨⟨u, rfl, hu⟩, hb⟩
  clear la ca0 ca1 ca2 lb cb0 cb1 cb2 lo co0 co1 co2
  have K := Dk.trans ((Dk.refl _).alloc _) (.below hb)
  have Ba_13 := Lib.hid (show Bk _ _ _ #[.bool p.b, .slice p.A p.n p.c, .int .i64 a.x] from (Ba_3.out.alloc _).below hb)
  have Bb_14 := Lib.hid (show Bk _ _ _ #[.bool q.b, .slice q.A q.n q.c, .int .i64 b.x] from (Bb_4.out.alloc _).below hb)
  have Bo_15 := Lib.hid (show Bk _ _ _ #[.bool false, .slice none 0 0, .int .i64 0] from (Bo_5.out.alloc _).below hb)
  have Bp_16 := Lib.hid (show Bk _ _ _ #[.bool r.b, .slice r.A r.n r.c] from (Bk.new _ 51 #[.bool r.b, .slice r.A r.n r.c]).below hb)
  have HB_17 := Lib.hid (below_tr (below_al HB_6.out _) hb)
  clear hb
  have RA_18 := Lib.hid (RA_7.out.dk K)
  have RB_19 := Lib.hid (RB_8.out.dk K)
  have RP_20 := Lib.hid (RP_9.out.dk K)
  clear K Ba_3 Bb_4 Bo_5 HB_6 RA_7 RB_8 RP_9
  clear x0 x1 x2 x3
  have RU_21 := Lib.hid hu
  clear hu
  have la := Ba_13.out.lt
  obtain ⟨ca0, ca1, ca2⟩ := Ba_13.out.cells3
  have lb := Bb_14.out.lt
  obtain ⟨cb0, cb1, cb2⟩ := Bb_14.out.cells3
  have lo := Bo_15.out.lt
  obtain ⟨co0, co1, co2⟩ := Bo_15.out.cells3
  have fo0 := Bo_15.out.free 0
  have fo1 := Bo_15.out.free 1
  have fo2 := Bo_15.out.free 2
  have lp := Bp_16.out.lt
  obtain ⟨cp0, cp1⟩ := Bp_16.out.cells2
  go_wp2
  refine bodyPost_ret (v := .tuple #[.agg #[.bool u.b, .slice u.A u.n u.c, .int .i64 (D.mk' (a.z * b.z) (a.x + b.x)).x], .int .i64 0]) ?_ rfl ?_
  · simp [results, Tryd.f51, go_sem, co0, co1, co2]
  · have y0 := HB_17.out.size; exact ⟨⟨u, rfl, (RU_21.out.dk ((((Dk.refl _).set (cs := #[.bool false, .slice none 0 0, .int .i64 0]) Bo_15.out 0 (by intro _ hh; cases hh) (.bool u.b)).set (cs := #[.bool u.b, .slice none 0 0, .int .i64 0]) (Bo_15.out.set 0 (.bool u.b)) 1 (by intro _ hh; cases hh) (.slice u.A u.n u.c)).set (cs := #[.bool u.b, .slice u.A u.n u.c, .int .i64 0]) ((Bo_15.out.set 0 (.bool u.b)).set 1 (.slice u.A u.n u.c)) 2 (by intro _ hh; cases hh) (.int .i64 (D.mk' (a.z * b.z) (a.x + b.x)).x)))⟩, (below_st (below_st (below_st HB_17.out 0 (by omega) (.bool u.b)) 1 (by omega) (.slice u.A u.n u.c)) 2 (by omega) (.int .i64 (D.mk' (a.z * b.z) (a.x + b.x)).x))⟩

end Go.Proofs.YtgioppkggpfnoaaDoor.Nu
end

section
/- The walk of dyad.Sub. -/
set_option linter.unusedVariables false
namespace Go.Proofs.YtgioppkggpfnoaaDoor.Nu
open Go.RowKit Go.Proofs

set_option maxRecDepth 100000 in
set_option maxHeartbeats 4000000 in
theorem dsub_any (w : World) (p q : Q) (a b : D) (E T : Nat) (h : RD w p a) (h2 : RD w q b) (la : a.Lim E T) (lb : b.Lim E T) (hET : E + T ≤ 16000) (ht : BTab w) :
    Calls Tryd.prog 103 #[.agg #[.bool p.b, .slice p.A p.n p.c, .int .i64 a.x], .agg #[.bool q.b, .slice q.A q.n q.c, .int .i64 b.x]] w fun e w' => (∃ r : Q, e = .returned (.tuple #[.agg #[.bool r.b, .slice r.A r.n r.c, .int .i64 (a.sub b).x], .int .i64 0]) ∧ RD w' r (a.sub b)) ∧ Below w.heap.size w w' := by
  have HA := Lib.hid h
  have HB := Lib.hid h2
  have LA := Lib.hid la
  have LB := Lib.hid lb
  clear h h2 la lb
  have HT := Lib.hid ht
  clear ht
  unfold D.sub
  have BX := Lib.hid (boxes3 w 53 #[.bool p.b, .slice p.A p.n p.c, .int .i64 a.x] 53 #[.bool q.b, .slice q.A q.n q.c, .int .i64 b.x] 53 #[.bool false, .slice none 0 0, .int .i64 0])
  go_enter Tryd.func103, Tryd.ntmps103
  go_wp2_with fail
  generalize ((w.alloc (.cells #[.bool p.b, .slice p.A p.n p.c, .int .i64 a.x] 53)).alloc (.cells #[.bool q.b, .slice q.A q.n q.c, .int .i64 b.x] 53)).alloc (.cells #[.bool false, .slice none 0 0, .int .i64 0] 53) = w0 at *
  obtain ⟨b0, b1, b2, hw⟩ := BX.out
  have Ba_0 := Lib.hid b0
  have Bb_0 := Lib.hid b1
  have Bo_0 := Lib.hid b2
  have HB_0 := Lib.hid hw
  have K := Dk.below (hw.mono (Nat.le_refl _))
  clear BX hw b0 b1 b2
  have RA_1 := Lib.hid (HA.out.dk K)
  have RB_2 := Lib.hid (HB.out.dk K)
  clear K HA HB
  have la := Ba_0.out.lt
  obtain ⟨ca0, ca1, ca2⟩ := Ba_0.out.cells3
  have lb := Bb_0.out.lt
  obtain ⟨cb0, cb1, cb2⟩ := Bb_0.out.cells3
  have lo := Bo_0.out.lt
  obtain ⟨co0, co1, co2⟩ := Bo_0.out.cells3
  go_wp2_with fail
  have tok_3 : True := trivial
  have tok_4 : True := trivial
  go_region_held3 (fun w' => w'.cell? ⟨w.heap.size, 0, none⟩ = some (.bool p.b) ∧ w'.cell? ⟨w.heap.size, 1, none⟩ = some (.slice p.A p.n p.c) ∧ w'.cell? ⟨w.heap.size, 2, none⟩ = some (.int .i64 a.x) ∧ w'.cell? ⟨w.heap.size + 1, 0, none⟩ = some (.bool q.b) ∧ w'.cell? ⟨w.heap.size + 1, 1, none⟩ = some (.slice q.A q.n q.c) ∧ w'.cell? ⟨w.heap.size + 1, 2, none⟩ = some (.int .i64 b.x)) (first | exact ⟨Ba_0.out.cell 0 rfl, Ba_0.out.cell 1 rfl, Ba_0.out.cell 2 rfl, Bb_0.out.cell 0 rfl, Bb_0.out.cell 1 rfl, Bb_0.out.cell 2 rfl⟩ | exact ⟨Ba_5.out.cell 0 rfl, Ba_5.out.cell 1 rfl, Ba_5.out.cell 2 rfl, Bb_6.out.cell 0 rfl, Bb_6.out.cell 1 rfl, Bb_6.out.cell 2 rfl⟩ | exact ⟨Ba_12.out.cell 0 rfl, Ba_12.out.cell 1 rfl, Ba_12.out.cell 2 rfl, Bb_13.out.cell 0 rfl, Bb_13.out.cell 1 rfl, Bb_13.out.cell 2 rfl⟩ | exact ⟨(((Ba_12.out.ne (by have := Ba_12.out.lt; have := Bb_13.out.lt; have := Bo_14.out.lt; have := HB_15.out.size; omega) 0 (.bool u.b)).ne (by have := Ba_12.out.lt; have := Bb_13.out.lt; have := Bo_14.out.lt; have := HB_15.out.size; omega) 1 (.slice u.A u.n u.c)).ne (by have := Ba_12.out.lt; have := Bb_13.out.lt; have := Bo_14.out.lt; have := HB_15.out.size; omega) 2 (.int .i64 (a.add b.neg).x)).cell 0 rfl, (((Ba_12.out.ne (by have := Ba_12.out.lt; have := Bb_13.out.lt; have := Bo_14.out.lt; have := HB_15.out.size; omega) 0 (.bool u.b)).ne (by have := Ba_12.out.lt; have := Bb_13.out.lt; have := Bo_14.out.lt; have := HB_15.out.size; omega) 1 (.slice u.A u.n u.c)).ne (by have := Ba_12.out.lt; have := Bb_13.out.lt; have := Bo_14.out.lt; have := HB_15.out.size; omega) 2 (.int .i64 (a.add b.neg).x)).cell 1 rfl, (((Ba_12.out.ne (by have := Ba_12.out.lt; have := Bb_13.out.lt; have := Bo_14.out.lt; have := HB_15.out.size; omega) 0 (.bool u.b)).ne (by have := Ba_12.out.lt; have := Bb_13.out.lt; have := Bo_14.out.lt; have := HB_15.out.size; omega) 1 (.slice u.A u.n u.c)).ne (by have := Ba_12.out.lt; have := Bb_13.out.lt; have := Bo_14.out.lt; have := HB_15.out.size; omega) 2 (.int .i64 (a.add b.neg).x)).cell 2 rfl, (((Bb_13.out.ne (by have := Ba_12.out.lt; have := Bb_13.out.lt; have := Bo_14.out.lt; have := HB_15.out.size; omega) 0 (.bool u.b)).ne (by have := Ba_12.out.lt; have := Bb_13.out.lt; have := Bo_14.out.lt; have := HB_15.out.size; omega) 1 (.slice u.A u.n u.c)).ne (by have := Ba_12.out.lt; have := Bb_13.out.lt; have := Bo_14.out.lt; have := HB_15.out.size; omega) 2 (.int .i64 (a.add b.neg).x)).cell 0 rfl, (((Bb_13.out.ne (by have := Ba_12.out.lt; have := Bb_13.out.lt; have := Bo_14.out.lt; have := HB_15.out.size; omega) 0 (.bool u.b)).ne (by have := Ba_12.out.lt; have := Bb_13.out.lt; have := Bo_14.out.lt; have := HB_15.out.size; omega) 1 (.slice u.A u.n u.c)).ne (by have := Ba_12.out.lt; have := Bb_13.out.lt; have := Bo_14.out.lt; have := HB_15.out.size; omega) 2 (.int .i64 (a.add b.neg).x)).cell 1 rfl, (((Bb_13.out.ne (by have := Ba_12.out.lt; have := Bb_13.out.lt; have := Bo_14.out.lt; have := HB_15.out.size; omega) 0 (.bool u.b)).ne (by have := Ba_12.out.lt; have := Bb_13.out.lt; have := Bo_14.out.lt; have := HB_15.out.size; omega) 1 (.slice u.A u.n u.c)).ne (by have := Ba_12.out.lt; have := Bb_13.out.lt; have := Bo_14.out.lt; have := HB_15.out.size; omega) 2 (.int .i64 (a.add b.neg).x)).cell 2 rfl⟩)
    (first
     | (have _ := tok_3; go_at_call 111; clear tok_3; refine (dneg_q _ q b (RB_2.out.dk ((Dk.refl _).drew)) (by have := LB.out.nb; omega)).mono ?_; rintro e w1 ⟨⟨r, rfl, hr⟩, hb⟩; clear la ca0 ca1 ca2 lb cb0 cb1 cb2 lo co0 co1 co2; have K := Dk.trans ((Dk.refl _).drew) (.below hb); have Ba_5 := Lib.hid (show Bk _ _ _ #[.bool p.b, .slice p.A p.n p.c, .int .i64 a.x] from (Ba_0.out.drew).below hb); have Bb_6 := Lib.hid (show Bk _ _ _ #[.bool q.b, .slice q.A q.n q.c, .int .i64 b.x] from (Bb_0.out.drew).below hb); have Bo_7 := Lib.hid (show Bk _ _ _ #[.bool false, .slice none 0 0, .int .i64 0] from (Bo_0.out.drew).below hb); have HB_8 := Lib.hid (below_tr (below_dr HB_0.out) hb); clear hb; have RA_9 := Lib.hid (RA_1.out.dk K); have RB_10 := Lib.hid (RB_2.out.dk K); clear K Ba_0 Bb_0 Bo_0 HB_0 RA_1 RB_2; have RN_11 := Lib.hid hr; clear hr; have la := Ba_5.out.lt; obtain ⟨ca0, ca1, ca2⟩ := Ba_5.out.cells3; have lb := Bb_6.out.lt; obtain ⟨cb0, cb1, cb2⟩ := Bb_6.out.cells3; have lo := Bo_7.out.lt; obtain ⟨co0, co1, co2⟩ := Bo_7.out.cells3; have fo0 := Bo_7.out.free 0; have fo1 := Bo_7.out.free 1; have fo2 := Bo_7.out.free 2)
     | (have _ := tok_4; go_at_call 52; clear tok_4; refine (dadd_any _ p r a b.neg E T RA_9.out RN_11.out LA.out (neg_lim LB.out) hET (HT.out.below HB_8.out)).mono ?_; rintro e w2 ⟨⟨u, rfl, hu⟩, hb⟩; clear la ca0 ca1 ca2 lb cb0 cb1 cb2 lo co0 co1 co2 fo0 fo1 fo2; have K := Dk.below hb; have Ba_12 := Lib.hid (show Bk _ _ _ #[.bool p.b, .slice p.A p.n p.c, .int .i64 a.x] from Ba_5.out.below hb); have Bb_13 := Lib.hid (show Bk _ _ _ #[.bool q.b, .slice q.A q.n q.c, .int .i64 b.x] from Bb_6.out.below hb); have Bo_14 := Lib.hid (show Bk _ _ _ #[.bool false, .slice none 0 0, .int .i64 0] from Bo_7.out.below hb); have HB_15 := Lib.hid (below_tr HB_8.out hb); clear hb; have RA_16 := Lib.hid (RA_9.out.dk K); have RB_17 := Lib.hid (RB_10.out.dk K); have RN_18 := Lib.hid (RN_11.out.dk K); clear K Ba_5 Bb_6 Bo_7 HB_8 RA_9 RB_10 RN_11; have RU_19 := Lib.hid hu; clear hu; have la := Ba_12.out.lt; obtain ⟨ca0, ca1, ca2⟩ := Ba_12.out.cells3; have lb := Bb_13.out.lt; obtain ⟨cb0, cb1, cb2⟩ := Bb_13.out.cells3; have lo := Bo_14.out.lt; obtain ⟨co0, co1, co2⟩ := Bo_14.out.cells3; have fo0 := Bo_14.out.free 0; have fo1 := Bo_14.out.free 1; have fo2 := Bo_14.out.free 2))
  go_wp2
  refine bodyPost_ret (v := .tuple #[.agg #[.bool u.b, .slice u.A u.n u.c, .int .i64 (a.add b.neg).x], .int .i64 0]) ?_ rfl ?_
  · simp [results, Tryd.f103, go_sem, co0, co1, co2]
  · have y0 := HB_15.out.size; exact ⟨⟨u, rfl, (RU_19.out.dk ((((Dk.refl _).set (cs := #[.bool false, .slice none 0 0, .int .i64 0]) Bo_14.out 0 (by intro _ hh; cases hh) (.bool u.b)).set (cs := #[.bool u.b, .slice none 0 0, .int .i64 0]) (Bo_14.out.set 0 (.bool u.b)) 1 (by intro _ hh; cases hh) (.slice u.A u.n u.c)).set (cs := #[.bool u.b, .slice u.A u.n u.c, .int .i64 0]) ((Bo_14.out.set 0 (.bool u.b)).set 1 (.slice u.A u.n u.c)) 2 (by intro _ hh; cases hh) (.int .i64 (a.add b.neg).x)))⟩, (below_st (below_st (below_st HB_15.out 0 (by omega) (.bool u.b)) 1 (by omega) (.slice u.A u.n u.c)) 2 (by omega) (.int .i64 (a.add b.neg).x))⟩

end Go.Proofs.YtgioppkggpfnoaaDoor.Nu
end

section
/- The walks of dyad.Abs, Sub, top. -/
set_option linter.unusedVariables false
namespace Go.Proofs.YtgioppkggpfnoaaDoor.Nu
open Go.RowKit Go.Proofs

set_option maxRecDepth 100000 in
set_option maxHeartbeats 4000000 in
theorem dabs_any (w : World) (p : Q) (a : D) (h : RD w p a) (hz : nb a.z.natAbs ≤ 16384) :
    Calls Tryd.prog 146 #[.agg #[.bool p.b, .slice p.A p.n p.c, .int .i64 a.x]] w fun e w' => (∃ r : Q, e = .returned (.agg #[.bool r.b, .slice r.A r.n r.c, .int .i64 a.abs.x]) ∧ RD w' r a.abs) ∧ Below w.heap.size w w' := by
  have RA_c := Lib.hid h.2
  have HA := Lib.hid h
  clear h
  have BX := Lib.hid (boxes2 w 53 #[.bool p.b, .slice p.A p.n p.c, .int .i64 a.x] 53 #[.bool false, .slice none 0 0, .int .i64 0])
  go_enter Tryd.func146, Tryd.ntmps146
  go_wp2_with fail
  generalize (w.alloc (.cells #[.bool p.b, .slice p.A p.n p.c, .int .i64 a.x] 53)).alloc (.cells #[.bool false, .slice none 0 0, .int .i64 0] 53) = w0 at *
  obtain ⟨b0, b1, hw⟩ := BX.out
  have Ba_0 := Lib.hid b0
  have Bo_0 := Lib.hid b1
  have HB_0 := Lib.hid hw
  have K := Dk.below (hw.mono (Nat.le_refl _))
  clear BX hw b0 b1
  have RA_1 := Lib.hid (HA.out.dk K)
  clear K HA
  have la := Ba_0.out.lt
  obtain ⟨ca0, ca1, ca2⟩ := Ba_0.out.cells3
  have lo := Bo_0.out.lt
  obtain ⟨co0, co1, co2⟩ := Bo_0.out.cells3
  go_wp2_with fail
  have tok_2 : True := trivial
  go_region_held3 (fun w' => w'.cell? ⟨w.heap.size, 0, none⟩ = some (.bool p.b) ∧ w'.cell? ⟨w.heap.size, 1, none⟩ = some (.slice p.A p.n p.c) ∧ w'.cell? ⟨w.heap.size, 2, none⟩ = some (.int .i64 a.x)) (first | exact ⟨Ba_0.out.cell 0 rfl, Ba_0.out.cell 1 rfl, Ba_0.out.cell 2 rfl⟩ | exact ⟨Ba_3.out.cell 0 rfl, Ba_3.out.cell 1 rfl, Ba_3.out.cell 2 rfl⟩ | exact ⟨(((Ba_3.out.ne (by have := Ba_3.out.lt; have := Bo_4.out.lt; have := HB_5.out.size; omega) 0 (.bool r.b)).ne (by have := Ba_3.out.lt; have := Bo_4.out.lt; have := HB_5.out.size; omega) 1 (.slice r.A r.n r.c)).ne (by have := Ba_3.out.lt; have := Bo_4.out.lt; have := HB_5.out.size; omega) 2 (.int .i64 a.x)).cell 0 rfl, (((Ba_3.out.ne (by have := Ba_3.out.lt; have := Bo_4.out.lt; have := HB_5.out.size; omega) 0 (.bool r.b)).ne (by have := Ba_3.out.lt; have := Bo_4.out.lt; have := HB_5.out.size; omega) 1 (.slice r.A r.n r.c)).ne (by have := Ba_3.out.lt; have := Bo_4.out.lt; have := HB_5.out.size; omega) 2 (.int .i64 a.x)).cell 1 rfl, (((Ba_3.out.ne (by have := Ba_3.out.lt; have := Bo_4.out.lt; have := HB_5.out.size; omega) 0 (.bool r.b)).ne (by have := Ba_3.out.lt; have := Bo_4.out.lt; have := HB_5.out.size; omega) 1 (.slice r.A r.n r.c)).ne (by have := Ba_3.out.lt; have := Bo_4.out.lt; have := HB_5.out.size; omega) 2 (.int .i64 a.x)).cell 2 rfl⟩)
    (first
     | (have _ := tok_2; go_at_call 107; clear tok_2; refine (wabs_q _ p a.z (RA_1.out.dk ((Dk.refl _).drew)).1 (by omega)).mono ?_; rintro e w1 ⟨⟨r, rfl, hr⟩, hb⟩; clear la ca0 ca1 ca2 lo co0 co1 co2; have K := Dk.trans ((Dk.refl _).drew) (.below hb); have Ba_3 := Lib.hid (show Bk _ _ _ #[.bool p.b, .slice p.A p.n p.c, .int .i64 a.x] from (Ba_0.out.drew).below hb); have Bo_4 := Lib.hid (show Bk _ _ _ #[.bool false, .slice none 0 0, .int .i64 0] from (Bo_0.out.drew).below hb); have HB_5 := Lib.hid (below_tr (below_dr HB_0.out) hb); clear hb; have RA_6 := Lib.hid (RA_1.out.dk K); clear K Ba_0 Bo_0 HB_0 RA_1; have RX_7 := Lib.hid hr; clear hr; have la := Ba_3.out.lt; obtain ⟨ca0, ca1, ca2⟩ := Ba_3.out.cells3; have lo := Bo_4.out.lt; obtain ⟨co0, co1, co2⟩ := Bo_4.out.cells3; have fo0 := Bo_4.out.free 0; have fo1 := Bo_4.out.free 1; have fo2 := Bo_4.out.free 2))
  go_wp2
  refine bodyPost_ret (v := .agg #[.bool r.b, .slice r.A r.n r.c, .int .i64 a.x]) ?_ rfl ?_
  · simp [results, Tryd.f146, go_sem, co0, co1, co2]
  · have y0 := HB_5.out.size; exact ⟨⟨r, rfl, (RX_7.out.dk ((((Dk.refl _).set (cs := #[.bool false, .slice none 0 0, .int .i64 0]) Bo_4.out 0 (by intro _ hh; cases hh) (.bool r.b)).set (cs := #[.bool r.b, .slice none 0 0, .int .i64 0]) (Bo_4.out.set 0 (.bool r.b)) 1 (by intro _ hh; cases hh) (.slice r.A r.n r.c)).set (cs := #[.bool r.b, .slice r.A r.n r.c, .int .i64 0]) ((Bo_4.out.set 0 (.bool r.b)).set 1 (.slice r.A r.n r.c)) 2 (by intro _ hh; cases hh) (.int .i64 a.x))), abs_can RA_c.out⟩, (below_st (below_st (below_st HB_5.out 0 (by omega) (.bool r.b)) 1 (by omega) (.slice r.A r.n r.c)) 2 (by omega) (.int .i64 a.x))⟩

end Go.Proofs.YtgioppkggpfnoaaDoor.Nu
end

section
/- The walks of span.out, Point, Size. -/
set_option linter.unusedVariables false
namespace Go.Proofs.YtgioppkggpfnoaaDoor.Nu
open Go.RowKit Go.Proofs

set_option maxRecDepth 100000 in
set_option maxHeartbeats 4000000 in
theorem sout_any (w : World) (p q : Q) (a b : D) (bits : Nat) (E T : Nat) (h : RD w p a) (h2 : RD w q b) (la : a.Lim E T) (lb : b.Lim E T) (hET : E + T ≤ 16000) (hb2 : 2 ≤ bits) (hb3 : bits ≤ 4096) (ht : BTab w) :
    Calls Tryd.prog 98 #[.agg #[.bool p.b, .slice p.A p.n p.c, .int .i64 a.x], .agg #[.bool q.b, .slice q.A q.n q.c, .int .i64 b.x], .int .i64 bits] w fun e w' => (∃ r : SQ, e = .returned (.tuple #[.agg #[.bool r.lo.b, .slice r.lo.A r.lo.n r.lo.c, .int .i64 (Sp.out a b bits).lo.x, .bool r.hi.b, .slice r.hi.A r.hi.n r.hi.c, .int .i64 (Sp.out a b bits).hi.x], .int .i64 0]) ∧ RS w' r (Sp.out a b bits)) ∧ Below w.heap.size w w' := by
  have HA := Lib.hid h
  have HB := Lib.hid h2
  have LA := Lib.hid la
  have LB := Lib.hid lb
  clear h h2 la lb
  have HT := Lib.hid ht
  clear ht
  have BX := Lib.hid (boxes3 w 53 #[.bool p.b, .slice p.A p.n p.c, .int .i64 a.x] 53 #[.bool q.b, .slice q.A q.n q.c, .int .i64 b.x] 62 #[.bool false, .slice none 0 0, .int .i64 0, .bool false, .slice none 0 0, .int .i64 0])
  go_enter Tryd.func98, Tryd.ntmps98
  go_wp2_with fail
  generalize ((w.alloc (.cells #[.bool p.b, .slice p.A p.n p.c, .int .i64 a.x] 53)).alloc (.cells #[.bool q.b, .slice q.A q.n q.c, .int .i64 b.x] 53)).alloc (.cells #[.bool false, .slice none 0 0, .int .i64 0, .bool false, .slice none 0 0, .int .i64 0] 62) = w0 at *
  obtain ⟨b0, b1, b2, hw⟩ := BX.out
  have Ba_0 := Lib.hid b0
  have Bb_0 := Lib.hid b1
  have Bo_0 := Lib.hid b2
  have HB_0 := Lib.hid hw
  have K := Dk.below (hw.mono (Nat.le_refl _))
  clear BX hw b0 b1 b2
  have RA_1 := Lib.hid (HA.out.dk K)
  have RB_2 := Lib.hid (HB.out.dk K)
  clear K HA HB
  have la := Ba_0.out.lt
  obtain ⟨ca0, ca1, ca2⟩ := Ba_0.out.cells3
  have lb := Bb_0.out.lt
  obtain ⟨cb0, cb1, cb2⟩ := Bb_0.out.cells3
  have lo := Bo_0.out.lt
  obtain ⟨co0, co1, co2, co3, co4, co5⟩ := Bo_0.out.cells6
  go_wp2_with fail
  refine (dround_any _ p a bits false E T RA_1.out LA.out hET hb2 hb3 (HT.out.below HB_0.out)).mono ?_
  rintro e w1 ⟨⟨r, rfl, hr⟩, hb⟩
  clear la ca0 ca1 ca2 lb cb0 cb1 cb2 lo co0 co1 co2 co3 co4 co5
  have K := Dk.below hb
  have Ba_3 := Lib.hid (show Bk _ _ _ #[.bool p.b, .slice p.A p.n p.c, .int .i64 a.x] from Ba_0.out.below hb)
  have Bb_4 := Lib.hid (show Bk _ _ _ #[.bool q.b, .slice q.A q.n q.c, .int .i64 b.x] from Bb_0.out.below hb)
  have Bo_5 := Lib.hid (show Bk _ _ _ #[.bool false, .slice none 0 0, .int .i64 0, .bool false, .slice none 0 0, .int .i64 0] from Bo_0.out.below hb)
  have HB_6 := Lib.hid (below_tr HB_0.out hb)
  clear hb
  have RA_7 := Lib.hid (RA_1.out.dk K)
  have RB_8 := Lib.hid (RB_2.out.dk K)
  clear K Ba_0 Bb_0 Bo_0 HB_0 RA_1 RB_2
  have RX_9 := Lib.hid hr
  clear hr
  have la := Ba_3.out.lt
  obtain ⟨ca0, ca1, ca2⟩ := Ba_3.out.cells3
  have lb := Bb_4.out.lt
  obtain ⟨cb0, cb1, cb2⟩ := Bb_4.out.cells3
  have lo := Bo_5.out.lt
  obtain ⟨co0, co1, co2, co3, co4, co5⟩ := Bo_5.out.cells6
  have n_10 := Ba_3.out.lt
  have n_11 := Bb_4.out.lt
  have n_12 := Bo_5.out.lt
  go_wp2_with fail
  refine (dround_any _ q b bits true E T (RB_8.out.dk ((Dk.refl _).alloc _)) LB.out hET hb2 hb3 (HT.out.below (below_al HB_6.out _))).mono ?_
  rintro e w2 ⟨⟨s, rfl, hs⟩, hb⟩
  clear la ca0 ca1 ca2 lb cb0 cb1 cb2 lo co0 co1 co2 co3 co4 co5
  have K := Dk.trans ((Dk.refl _).alloc _) (.below hb)
  have Ba_13 := Lib.hid (show Bk _ _ _ #[.bool p.b, .slice p.A p.n p.c, .int .i64 a.x] from (Ba_3.out.alloc _).below hb)
  have Bb_14 := Lib.hid (show Bk _ _ _ #[.bool q.b, .slice q.A q.n q.c, .int .i64 b.x] from (Bb_4.out.alloc _).below hb)
  have Bo_15 := Lib.hid (show Bk _ _ _ #[.bool false, .slice none 0 0, .int .i64 0, .bool false, .slice none 0 0, .int .i64 0] from (Bo_5.out.alloc _).below hb)
  have Bl_16 := Lib.hid (show Bk _ _ _ #[.bool r.b, .slice r.A r.n r.c, .int .i64 (a.round bits false).x] from (Bk.new _ 53 #[.bool r.b, .slice r.A r.n r.c, .int .i64 (a.round bits false).x]).below hb)
  have HB_17 := Lib.hid (below_tr (below_al HB_6.out _) hb)
  clear hb
  have RA_18 := Lib.hid (RA_7.out.dk K)
  have RB_19 := Lib.hid (RB_8.out.dk K)
  have RX_20 := Lib.hid (RX_9.out.dk K)
  clear K Ba_3 Bb_4 Bo_5 HB_6 RA_7 RB_8 RX_9
  have RY_21 := Lib.hid hs
  clear hs
  have la := Ba_13.out.lt
  obtain ⟨ca0, ca1, ca2⟩ := Ba_13.out.cells3
  have lb := Bb_14.out.lt
  obtain ⟨cb0, cb1, cb2⟩ := Bb_14.out.cells3
  have lo := Bo_15.out.lt
  obtain ⟨co0, co1, co2, co3, co4, co5⟩ := Bo_15.out.cells6
  have fo0 := Bo_15.out.free 0
  have fo1 := Bo_15.out.free 1
  have fo2 := Bo_15.out.free 2
  have fo3 := Bo_15.out.free 3
  have fo4 := Bo_15.out.free 4
  have fo5 := Bo_15.out.free 5
  have ll := Bl_16.out.lt
  obtain ⟨cl0, cl1, cl2⟩ := Bl_16.out.cells3
  have n_22 := Ba_13.out.lt
  have n_23 := Bb_14.out.lt
  have n_24 := Bo_15.out.lt
  have n_25 := Bl_16.out.lt
  go_wp2
  refine bodyPost_ret (v := .tuple #[.agg #[.bool r.b, .slice r.A r.n r.c, .int .i64 (a.round bits false).x, .bool s.b, .slice s.A s.n s.c, .int .i64 (b.round bits true).x], .int .i64 0]) ?_ rfl ?_
  · simp [results, Tryd.f98, go_sem, co0, co1, co2, co3, co4, co5, lo]
  · have y0 := HB_17.out.size; exact ⟨⟨⟨r, s⟩, rfl, (RX_20.out.dk ((((((((Dk.refl _).set (cs := #[.bool false, .slice none 0 0, .int .i64 0, .bool false, .slice none 0 0, .int .i64 0]) Bo_15.out 0 (by intro _ hh; cases hh) (.bool r.b)).set (cs := #[.bool r.b, .slice none 0 0, .int .i64 0, .bool false, .slice none 0 0, .int .i64 0]) (Bo_15.out.set 0 (.bool r.b)) 1 (by intro _ hh; cases hh) (.slice r.A r.n r.c)).set (cs := #[.bool r.b, .slice r.A r.n r.c, .int .i64 0, .bool false, .slice none 0 0, .int .i64 0]) ((Bo_15.out.set 0 (.bool r.b)).set 1 (.slice r.A r.n r.c)) 2 (by intro _ hh; cases hh) (.int .i64 (a.round bits false).x)).set (cs := #[.bool r.b, .slice r.A r.n r.c, .int .i64 (a.round bits false).x, .bool false, .slice none 0 0, .int .i64 0]) (((Bo_15.out.set 0 (.bool r.b)).set 1 (.slice r.A r.n r.c)).set 2 (.int .i64 (a.round bits false).x)) 3 (by intro _ hh; cases hh) (.bool s.b)).set (cs := #[.bool r.b, .slice r.A r.n r.c, .int .i64 (a.round bits false).x, .bool s.b, .slice none 0 0, .int .i64 0]) ((((Bo_15.out.set 0 (.bool r.b)).set 1 (.slice r.A r.n r.c)).set 2 (.int .i64 (a.round bits false).x)).set 3 (.bool s.b)) 4 (by intro _ hh; cases hh) (.slice s.A s.n s.c)).set (cs := #[.bool r.b, .slice r.A r.n r.c, .int .i64 (a.round bits false).x, .bool s.b, .slice s.A s.n s.c, .int .i64 0]) (((((Bo_15.out.set 0 (.bool r.b)).set 1 (.slice r.A r.n r.c)).set 2 (.int .i64 (a.round bits false).x)).set 3 (.bool s.b)).set 4 (.slice s.A s.n s.c)) 5 (by intro _ hh; cases hh) (.int .i64 (b.round bits true).x)).alloc _)), (RY_21.out.dk ((((((((Dk.refl _).set (cs := #[.bool false, .slice none 0 0, .int .i64 0, .bool false, .slice none 0 0, .int .i64 0]) Bo_15.out 0 (by intro _ hh; cases hh) (.bool r.b)).set (cs := #[.bool r.b, .slice none 0 0, .int .i64 0, .bool false, .slice none 0 0, .int .i64 0]) (Bo_15.out.set 0 (.bool r.b)) 1 (by intro _ hh; cases hh) (.slice r.A r.n r.c)).set (cs := #[.bool r.b, .slice r.A r.n r.c, .int .i64 0, .bool false, .slice none 0 0, .int .i64 0]) ((Bo_15.out.set 0 (.bool r.b)).set 1 (.slice r.A r.n r.c)) 2 (by intro _ hh; cases hh) (.int .i64 (a.round bits false).x)).set (cs := #[.bool r.b, .slice r.A r.n r.c, .int .i64 (a.round bits false).x, .bool false, .slice none 0 0, .int .i64 0]) (((Bo_15.out.set 0 (.bool r.b)).set 1 (.slice r.A r.n r.c)).set 2 (.int .i64 (a.round bits false).x)) 3 (by intro _ hh; cases hh) (.bool s.b)).set (cs := #[.bool r.b, .slice r.A r.n r.c, .int .i64 (a.round bits false).x, .bool s.b, .slice none 0 0, .int .i64 0]) ((((Bo_15.out.set 0 (.bool r.b)).set 1 (.slice r.A r.n r.c)).set 2 (.int .i64 (a.round bits false).x)).set 3 (.bool s.b)) 4 (by intro _ hh; cases hh) (.slice s.A s.n s.c)).set (cs := #[.bool r.b, .slice r.A r.n r.c, .int .i64 (a.round bits false).x, .bool s.b, .slice s.A s.n s.c, .int .i64 0]) (((((Bo_15.out.set 0 (.bool r.b)).set 1 (.slice r.A r.n r.c)).set 2 (.int .i64 (a.round bits false).x)).set 3 (.bool s.b)).set 4 (.slice s.A s.n s.c)) 5 (by intro _ hh; cases hh) (.int .i64 (b.round bits true).x)).alloc _))⟩, (below_al (below_st (below_st (below_st (below_st (below_st (below_st HB_17.out 0 (by omega) (.bool r.b)) 1 (by omega) (.slice r.A r.n r.c)) 2 (by omega) (.int .i64 (a.round bits false).x)) 3 (by omega) (.bool s.b)) 4 (by omega) (.slice s.A s.n s.c)) 5 (by omega) (.int .i64 (b.round bits true).x)) _)⟩

set_option maxRecDepth 100000 in
set_option maxHeartbeats 4000000 in
theorem spoint_any (w : World) (p : Q) (a : D) (h : RD w p a) :
    Calls Tryd.prog 59 #[.agg #[.bool p.b, .slice p.A p.n p.c, .int .i64 a.x]] w fun e w' => (∃ r : SQ, e = .returned (.agg #[.bool r.lo.b, .slice r.lo.A r.lo.n r.lo.c, .int .i64 (Sp.pt a).lo.x, .bool r.hi.b, .slice r.hi.A r.hi.n r.hi.c, .int .i64 (Sp.pt a).hi.x]) ∧ RS w' r (Sp.pt a)) ∧ Below w.heap.size w w' := by
  have HA := Lib.hid h
  clear h
  have BX := Lib.hid (boxes2 w 53 #[.bool p.b, .slice p.A p.n p.c, .int .i64 a.x] 62 #[.bool p.b, .slice p.A p.n p.c, .int .i64 a.x, .bool p.b, .slice p.A p.n p.c, .int .i64 a.x])
  go_enter Tryd.func59, Tryd.ntmps59
  go_wp2
  refine bodyPost_ret (v := .agg #[.bool p.b, .slice p.A p.n p.c, .int .i64 a.x, .bool p.b, .slice p.A p.n p.c, .int .i64 a.x]) ?_ rfl ?_
  · simp [results, Tryd.f59, go_sem]
  · exact ⟨⟨⟨p, p⟩, rfl, HA.out.below BX.out.2.2, HA.out.below BX.out.2.2⟩, BX.out.2.2⟩

end Go.Proofs.YtgioppkggpfnoaaDoor.Nu
end

section
/- The walks of span.Size, Neg, Even. -/
set_option linter.unusedVariables false
namespace Go.Proofs.YtgioppkggpfnoaaDoor.Nu
open Go.RowKit Go.Proofs

set_option maxRecDepth 100000 in
set_option maxHeartbeats 4000000 in
theorem ssize_any (w : World) (s : SQ) (a : Sp) (E T : Nat) (h : RS w s a) (la : a.Lim E T) (hET : E + T ≤ 16000) :
    Calls Tryd.prog 123 #[.agg #[.bool s.lo.b, .slice s.lo.A s.lo.n s.lo.c, .int .i64 a.lo.x, .bool s.hi.b, .slice s.hi.A s.hi.n s.hi.c, .int .i64 a.hi.x]] w fun e w' => (∃ r : Q, e = .returned (.agg #[.bool r.b, .slice r.A r.n r.c, .int .i64 a.size.x]) ∧ RD w' r a.size) ∧ Below w.heap.size w w' := by
  have HA := Lib.hid h
  have LA := Lib.hid la
  clear h la
  have n0 := Lib.hid (LA.out.1.nb)
  have n1 := Lib.hid (LA.out.2.nb)
  have y0 : nb a.lo.z.natAbs ≤ 16384 := by have := n0.out; omega
  have y1 : nb a.hi.z.natAbs ≤ 16384 := by have := n1.out; omega
  unfold Sp.size
  have BX := Lib.hid (boxes2 w 62 #[.bool s.lo.b, .slice s.lo.A s.lo.n s.lo.c, .int .i64 a.lo.x, .bool s.hi.b, .slice s.hi.A s.hi.n s.hi.c, .int .i64 a.hi.x] 53 #[.bool false, .slice none 0 0, .int .i64 0])
  go_enter Tryd.func123, Tryd.ntmps123
  go_wp2_with fail
  generalize (w.alloc (.cells #[.bool s.lo.b, .slice s.lo.A s.lo.n s.lo.c, .int .i64 a.lo.x, .bool s.hi.b, .slice s.hi.A s.hi.n s.hi.c, .int .i64 a.hi.x] 62)).alloc (.cells #[.bool false, .slice none 0 0, .int .i64 0] 53) = w0 at *
  obtain ⟨b0, b1, hw⟩ := BX.out
  have Ba_0 := Lib.hid b0
  have Bo_0 := Lib.hid b1
  have HB_0 := Lib.hid hw
  have K := Dk.below (hw.mono (Nat.le_refl _))
  clear BX hw b0 b1
  have RA_1 := Lib.hid (HA.out.dk K)
  clear K HA
  have la := Ba_0.out.lt
  obtain ⟨ca0, ca1, ca2, ca3, ca4, ca5⟩ := Ba_0.out.cells6
  have lo := Bo_0.out.lt
  obtain ⟨co0, co1, co2⟩ := Bo_0.out.cells3
  go_wp2_with fail
  obtain ⟨SX1, hS1⟩ : ∃ S : World → Prop, ∀ w', S w' ↔ (w'.cell? ⟨w.heap.size, 0, none⟩ = some (.bool s.lo.b) ∧ w'.cell? ⟨w.heap.size, 1, none⟩ = some (.slice s.lo.A s.lo.n s.lo.c) ∧ w'.cell? ⟨w.heap.size, 2, none⟩ = some (.int .i64 a.lo.x) ∧ w'.cell? ⟨w.heap.size, 3, none⟩ = some (.bool s.hi.b) ∧ w'.cell? ⟨w.heap.size, 4, none⟩ = some (.slice s.hi.A s.hi.n s.hi.c) ∧ w'.cell? ⟨w.heap.size, 5, none⟩ = some (.int .i64 a.hi.x)) := ⟨_, fun _ => Iff.rfl⟩
  have k_2 : SX1 (w0) := (hS1 _).2 ⟨Ba_0.out.cell 0 rfl, Ba_0.out.cell 1 rfl, Ba_0.out.cell 2 rfl, Ba_0.out.cell 3 rfl, Ba_0.out.cell 4 rfl, Ba_0.out.cell 5 rfl⟩
  have k_3 : SX1 (w0.drew) := (hS1 _).2 ⟨(Ba_0.out.drew).cell 0 rfl, (Ba_0.out.drew).cell 1 rfl, (Ba_0.out.drew).cell 2 rfl, (Ba_0.out.drew).cell 3 rfl, (Ba_0.out.drew).cell 4 rfl, (Ba_0.out.drew).cell 5 rfl⟩
  have tok_4 : True := trivial
  have tok_5 : True := trivial
  have tok_6 : True := trivial
  go_region_held3 (fun w' => w'.cell? ⟨w.heap.size, 0, none⟩ = some (.bool s.lo.b) ∧ w'.cell? ⟨w.heap.size, 1, none⟩ = some (.slice s.lo.A s.lo.n s.lo.c) ∧ w'.cell? ⟨w.heap.size, 2, none⟩ = some (.int .i64 a.lo.x) ∧ w'.cell? ⟨w.heap.size, 3, none⟩ = some (.bool s.hi.b) ∧ w'.cell? ⟨w.heap.size, 4, none⟩ = some (.slice s.hi.A s.hi.n s.hi.c) ∧ w'.cell? ⟨w.heap.size, 5, none⟩ = some (.int .i64 a.hi.x)) (first | with_reducible exact (hS1 _).1 k_2 | with_reducible exact (hS1 _).1 k_3 | with_reducible exact (hS1 _).1 k_12 | with_reducible exact (hS1 _).1 k_19 | with_reducible exact (hS1 _).1 k_27 | with_reducible exact (hS1 _).1 k_28)
    (first
     | (have _ := tok_4; go_at_call 146; clear tok_4; refine (dabs_any _ s.lo a.lo (RA_1.out.dk ((Dk.refl _).drew)).1 y0).mono ?_; rintro e w1 ⟨⟨r, rfl, hr⟩, hb⟩; clear la ca0 ca1 ca2 ca3 ca4 ca5 lo co0 co1 co2 k_2 k_3; have K := Dk.trans ((Dk.refl _).drew) (.below hb); have Ba_7 := Lib.hid (show Bk _ _ _ #[.bool s.lo.b, .slice s.lo.A s.lo.n s.lo.c, .int .i64 a.lo.x, .bool s.hi.b, .slice s.hi.A s.hi.n s.hi.c, .int .i64 a.hi.x] from (Ba_0.out.drew).below hb); have Bo_8 := Lib.hid (show Bk _ _ _ #[.bool false, .slice none 0 0, .int .i64 0] from (Bo_0.out.drew).below hb); have HB_9 := Lib.hid (below_tr (below_dr HB_0.out) hb); clear hb; have RA_10 := Lib.hid (RA_1.out.dk K); clear K Ba_0 Bo_0 HB_0 RA_1; have RX_11 := Lib.hid hr; clear hr; have la := Ba_7.out.lt; obtain ⟨ca0, ca1, ca2, ca3, ca4, ca5⟩ := Ba_7.out.cells6; have lo := Bo_8.out.lt; obtain ⟨co0, co1, co2⟩ := Bo_8.out.cells3; have fo0 := Bo_8.out.free 0; have fo1 := Bo_8.out.free 1; have fo2 := Bo_8.out.free 2; have k_12 : SX1 (w1) := (hS1 _).2 ⟨Ba_7.out.cell 0 rfl, Ba_7.out.cell 1 rfl, Ba_7.out.cell 2 rfl, Ba_7.out.cell 3 rfl, Ba_7.out.cell 4 rfl, Ba_7.out.cell 5 rfl⟩)
     | (have _ := tok_5; go_at_call 146; clear tok_5; refine (dabs_any _ s.hi a.hi RA_10.out.2 y1).mono ?_; rintro e w2 ⟨⟨t, rfl, ht⟩, hb⟩; clear la ca0 ca1 ca2 ca3 ca4 ca5 lo co0 co1 co2 fo0 fo1 fo2 k_12; have K := Dk.below hb; have Ba_13 := Lib.hid (show Bk _ _ _ #[.bool s.lo.b, .slice s.lo.A s.lo.n s.lo.c, .int .i64 a.lo.x, .bool s.hi.b, .slice s.hi.A s.hi.n s.hi.c, .int .i64 a.hi.x] from Ba_7.out.below hb); have Bo_14 := Lib.hid (show Bk _ _ _ #[.bool false, .slice none 0 0, .int .i64 0] from Bo_8.out.below hb); have HB_15 := Lib.hid (below_tr HB_9.out hb); clear hb; have RA_16 := Lib.hid (RA_10.out.dk K); have RX_17 := Lib.hid (RX_11.out.dk K); clear K Ba_7 Bo_8 HB_9 RA_10 RX_11; have RY_18 := Lib.hid ht; clear ht; have la := Ba_13.out.lt; obtain ⟨ca0, ca1, ca2, ca3, ca4, ca5⟩ := Ba_13.out.cells6; have lo := Bo_14.out.lt; obtain ⟨co0, co1, co2⟩ := Bo_14.out.cells3; have fo0 := Bo_14.out.free 0; have fo1 := Bo_14.out.free 1; have fo2 := Bo_14.out.free 2; have k_19 : SX1 (w2) := (hS1 _).2 ⟨Ba_13.out.cell 0 rfl, Ba_13.out.cell 1 rfl, Ba_13.out.cell 2 rfl, Ba_13.out.cell 3 rfl, Ba_13.out.cell 4 rfl, Ba_13.out.cell 5 rfl⟩)
     | (have _ := tok_6; go_at_call 87; clear tok_6; refine (dmax_any _ r t a.lo.abs a.hi.abs E T RX_17.out RY_18.out (abs_lim LA.out.1) (abs_lim LA.out.2) hET).mono ?_; rintro e w3 ⟨⟨u, rfl, hu⟩, hb⟩; clear la ca0 ca1 ca2 ca3 ca4 ca5 lo co0 co1 co2 fo0 fo1 fo2 k_19; have K := Dk.below hb; have Ba_20 := Lib.hid (show Bk _ _ _ #[.bool s.lo.b, .slice s.lo.A s.lo.n s.lo.c, .int .i64 a.lo.x, .bool s.hi.b, .slice s.hi.A s.hi.n s.hi.c, .int .i64 a.hi.x] from Ba_13.out.below hb); have Bo_21 := Lib.hid (show Bk _ _ _ #[.bool false, .slice none 0 0, .int .i64 0] from Bo_14.out.below hb); have HB_22 := Lib.hid (below_tr HB_15.out hb); clear hb; have RA_23 := Lib.hid (RA_16.out.dk K); have RX_24 := Lib.hid (RX_17.out.dk K); have RY_25 := Lib.hid (RY_18.out.dk K); clear K Ba_13 Bo_14 HB_15 RA_16 RX_17 RY_18; have RU_26 := Lib.hid hu; clear hu; have la := Ba_20.out.lt; obtain ⟨ca0, ca1, ca2, ca3, ca4, ca5⟩ := Ba_20.out.cells6; have lo := Bo_21.out.lt; obtain ⟨co0, co1, co2⟩ := Bo_21.out.cells3; have fo0 := Bo_21.out.free 0; have fo1 := Bo_21.out.free 1; have fo2 := Bo_21.out.free 2; have k_27 : SX1 (w3) := (hS1 _).2 ⟨Ba_20.out.cell 0 rfl, Ba_20.out.cell 1 rfl, Ba_20.out.cell 2 rfl, Ba_20.out.cell 3 rfl, Ba_20.out.cell 4 rfl, Ba_20.out.cell 5 rfl⟩; have y0 := Ba_20.out.lt; have y1 := Bo_21.out.lt; have y2 := HB_22.out.size; have k_28 : SX1 (((w3.setCell ⟨w.heap.size + 1, 0, none⟩ (.bool u.b)).setCell ⟨w.heap.size + 1, 1, none⟩ (.slice u.A u.n u.c)).setCell ⟨w.heap.size + 1, 2, none⟩ (.int .i64 (a.lo.abs.mx a.hi.abs).x)) := (hS1 _).2 ⟨(((Ba_20.out.ne (by omega) 0 (.bool u.b)).ne (by omega) 1 (.slice u.A u.n u.c)).ne (by omega) 2 (.int .i64 (a.lo.abs.mx a.hi.abs).x)).cell 0 rfl, (((Ba_20.out.ne (by omega) 0 (.bool u.b)).ne (by omega) 1 (.slice u.A u.n u.c)).ne (by omega) 2 (.int .i64 (a.lo.abs.mx a.hi.abs).x)).cell 1 rfl, (((Ba_20.out.ne (by omega) 0 (.bool u.b)).ne (by omega) 1 (.slice u.A u.n u.c)).ne (by omega) 2 (.int .i64 (a.lo.abs.mx a.hi.abs).x)).cell 2 rfl, (((Ba_20.out.ne (by omega) 0 (.bool u.b)).ne (by omega) 1 (.slice u.A u.n u.c)).ne (by omega) 2 (.int .i64 (a.lo.abs.mx a.hi.abs).x)).cell 3 rfl, (((Ba_20.out.ne (by omega) 0 (.bool u.b)).ne (by omega) 1 (.slice u.A u.n u.c)).ne (by omega) 2 (.int .i64 (a.lo.abs.mx a.hi.abs).x)).cell 4 rfl, (((Ba_20.out.ne (by omega) 0 (.bool u.b)).ne (by omega) 1 (.slice u.A u.n u.c)).ne (by omega) 2 (.int .i64 (a.lo.abs.mx a.hi.abs).x)).cell 5 rfl⟩; clear y0 y1 y2))
  go_wp2
  refine bodyPost_ret (v := .agg #[.bool u.b, .slice u.A u.n u.c, .int .i64 (a.lo.abs.mx a.hi.abs).x]) ?_ rfl ?_
  · simp [results, Tryd.f123, go_sem, co0, co1, co2]
  · have y0 := HB_22.out.size; exact ⟨⟨u, rfl, (RU_26.out.dk ((((Dk.refl _).set (cs := #[.bool false, .slice none 0 0, .int .i64 0]) Bo_21.out 0 (by intro _ hh; cases hh) (.bool u.b)).set (cs := #[.bool u.b, .slice none 0 0, .int .i64 0]) (Bo_21.out.set 0 (.bool u.b)) 1 (by intro _ hh; cases hh) (.slice u.A u.n u.c)).set (cs := #[.bool u.b, .slice u.A u.n u.c, .int .i64 0]) ((Bo_21.out.set 0 (.bool u.b)).set 1 (.slice u.A u.n u.c)) 2 (by intro _ hh; cases hh) (.int .i64 (a.lo.abs.mx a.hi.abs).x)))⟩, (below_st (below_st (below_st HB_22.out 0 (by omega) (.bool u.b)) 1 (by omega) (.slice u.A u.n u.c)) 2 (by omega) (.int .i64 (a.lo.abs.mx a.hi.abs).x))⟩

set_option maxRecDepth 100000 in
set_option maxHeartbeats 4000000 in
theorem sneg_any (w : World) (s : SQ) (a : Sp) (E T : Nat) (h : RS w s a) (la : a.Lim E T) (hET : E + T ≤ 16000) :
    Calls Tryd.prog 85 #[.agg #[.bool s.lo.b, .slice s.lo.A s.lo.n s.lo.c, .int .i64 a.lo.x, .bool s.hi.b, .slice s.hi.A s.hi.n s.hi.c, .int .i64 a.hi.x]] w fun e w' => (∃ r : SQ, e = .returned (.agg #[.bool r.lo.b, .slice r.lo.A r.lo.n r.lo.c, .int .i64 a.neg.lo.x, .bool r.hi.b, .slice r.hi.A r.hi.n r.hi.c, .int .i64 a.neg.hi.x]) ∧ RS w' r a.neg) ∧ Below w.heap.size w w' := by
  have HA := Lib.hid h
  have LA := Lib.hid la
  clear h la
  have n0 := Lib.hid (LA.out.1.nb)
  have n1 := Lib.hid (LA.out.2.nb)
  have y0 : nb a.lo.z.natAbs ≤ 16384 := by have := n0.out; omega
  have y1 : nb a.hi.z.natAbs ≤ 16384 := by have := n1.out; omega
  have BX := Lib.hid (boxes2 w 62 #[.bool s.lo.b, .slice s.lo.A s.lo.n s.lo.c, .int .i64 a.lo.x, .bool s.hi.b, .slice s.hi.A s.hi.n s.hi.c, .int .i64 a.hi.x] 62 #[.bool false, .slice none 0 0, .int .i64 0, .bool false, .slice none 0 0, .int .i64 0])
  go_enter Tryd.func85, Tryd.ntmps85
  go_wp2_with fail
  generalize (w.alloc (.cells #[.bool s.lo.b, .slice s.lo.A s.lo.n s.lo.c, .int .i64 a.lo.x, .bool s.hi.b, .slice s.hi.A s.hi.n s.hi.c, .int .i64 a.hi.x] 62)).alloc (.cells #[.bool false, .slice none 0 0, .int .i64 0, .bool false, .slice none 0 0, .int .i64 0] 62) = w0 at *
  obtain ⟨b0, b1, hw⟩ := BX.out
  have Ba_0 := Lib.hid b0
  have Bo_0 := Lib.hid b1
  have HB_0 := Lib.hid hw
  have K := Dk.below (hw.mono (Nat.le_refl _))
  clear BX hw b0 b1
  have RA_1 := Lib.hid (HA.out.dk K)
  clear K HA
  have la := Ba_0.out.lt
  obtain ⟨ca0, ca1, ca2, ca3, ca4, ca5⟩ := Ba_0.out.cells6
  have lo := Bo_0.out.lt
  obtain ⟨co0, co1, co2, co3, co4, co5⟩ := Bo_0.out.cells6
  go_wp2_with fail
  obtain ⟨SX1, hS1⟩ : ∃ S : World → Prop, ∀ w', S w' ↔ (w'.cell? ⟨w.heap.size, 0, none⟩ = some (.bool s.lo.b) ∧ w'.cell? ⟨w.heap.size, 1, none⟩ = some (.slice s.lo.A s.lo.n s.lo.c) ∧ w'.cell? ⟨w.heap.size, 2, none⟩ = some (.int .i64 a.lo.x) ∧ w'.cell? ⟨w.heap.size, 3, none⟩ = some (.bool s.hi.b) ∧ w'.cell? ⟨w.heap.size, 4, none⟩ = some (.slice s.hi.A s.hi.n s.hi.c) ∧ w'.cell? ⟨w.heap.size, 5, none⟩ = some (.int .i64 a.hi.x)) := ⟨_, fun _ => Iff.rfl⟩
  have k_2 : SX1 (w0) := (hS1 _).2 ⟨Ba_0.out.cell 0 rfl, Ba_0.out.cell 1 rfl, Ba_0.out.cell 2 rfl, Ba_0.out.cell 3 rfl, Ba_0.out.cell 4 rfl, Ba_0.out.cell 5 rfl⟩
  have k_3 : SX1 (w0.drew) := (hS1 _).2 ⟨(Ba_0.out.drew).cell 0 rfl, (Ba_0.out.drew).cell 1 rfl, (Ba_0.out.drew).cell 2 rfl, (Ba_0.out.drew).cell 3 rfl, (Ba_0.out.drew).cell 4 rfl, (Ba_0.out.drew).cell 5 rfl⟩
  have tok_4 : True := trivial
  have tok_5 : True := trivial
  go_region_held3 (fun w' => w'.cell? ⟨w.heap.size, 0, none⟩ = some (.bool s.lo.b) ∧ w'.cell? ⟨w.heap.size, 1, none⟩ = some (.slice s.lo.A s.lo.n s.lo.c) ∧ w'.cell? ⟨w.heap.size, 2, none⟩ = some (.int .i64 a.lo.x) ∧ w'.cell? ⟨w.heap.size, 3, none⟩ = some (.bool s.hi.b) ∧ w'.cell? ⟨w.heap.size, 4, none⟩ = some (.slice s.hi.A s.hi.n s.hi.c) ∧ w'.cell? ⟨w.heap.size, 5, none⟩ = some (.int .i64 a.hi.x)) (first | with_reducible exact (hS1 _).1 k_2 | with_reducible exact (hS1 _).1 k_3 | with_reducible exact (hS1 _).1 k_11 | with_reducible exact (hS1 _).1 k_18 | with_reducible exact (hS1 _).1 k_19)
    (first
     | (have _ := tok_4; go_at_call 111; clear tok_4; refine (dneg_q _ s.hi a.hi (RA_1.out.dk ((Dk.refl _).drew)).2 y1).mono ?_; rintro e w1 ⟨⟨r, rfl, hr⟩, hb⟩; clear la ca0 ca1 ca2 ca3 ca4 ca5 lo co0 co1 co2 co3 co4 co5 k_2 k_3; have K := Dk.trans ((Dk.refl _).drew) (.below hb); have Ba_6 := Lib.hid (show Bk _ _ _ #[.bool s.lo.b, .slice s.lo.A s.lo.n s.lo.c, .int .i64 a.lo.x, .bool s.hi.b, .slice s.hi.A s.hi.n s.hi.c, .int .i64 a.hi.x] from (Ba_0.out.drew).below hb); have Bo_7 := Lib.hid (show Bk _ _ _ #[.bool false, .slice none 0 0, .int .i64 0, .bool false, .slice none 0 0, .int .i64 0] from (Bo_0.out.drew).below hb); have HB_8 := Lib.hid (below_tr (below_dr HB_0.out) hb); clear hb; have RA_9 := Lib.hid (RA_1.out.dk K); clear K Ba_0 Bo_0 HB_0 RA_1; have RX_10 := Lib.hid hr; clear hr; have la := Ba_6.out.lt; obtain ⟨ca0, ca1, ca2, ca3, ca4, ca5⟩ := Ba_6.out.cells6; have lo := Bo_7.out.lt; obtain ⟨co0, co1, co2, co3, co4, co5⟩ := Bo_7.out.cells6; have fo0 := Bo_7.out.free 0; have fo1 := Bo_7.out.free 1; have fo2 := Bo_7.out.free 2; have fo3 := Bo_7.out.free 3; have fo4 := Bo_7.out.free 4; have fo5 := Bo_7.out.free 5; have k_11 : SX1 (w1) := (hS1 _).2 ⟨Ba_6.out.cell 0 rfl, Ba_6.out.cell 1 rfl, Ba_6.out.cell 2 rfl, Ba_6.out.cell 3 rfl, Ba_6.out.cell 4 rfl, Ba_6.out.cell 5 rfl⟩)
     | (have _ := tok_5; go_at_call 111; clear tok_5; refine (dneg_q _ s.lo a.lo RA_9.out.1 y0).mono ?_; rintro e w2 ⟨⟨t, rfl, ht⟩, hb⟩; clear la ca0 ca1 ca2 ca3 ca4 ca5 lo co0 co1 co2 co3 co4 co5 fo0 fo1 fo2 fo3 fo4 fo5 k_11; have K := Dk.below hb; have Ba_12 := Lib.hid (show Bk _ _ _ #[.bool s.lo.b, .slice s.lo.A s.lo.n s.lo.c, .int .i64 a.lo.x, .bool s.hi.b, .slice s.hi.A s.hi.n s.hi.c, .int .i64 a.hi.x] from Ba_6.out.below hb); have Bo_13 := Lib.hid (show Bk _ _ _ #[.bool false, .slice none 0 0, .int .i64 0, .bool false, .slice none 0 0, .int .i64 0] from Bo_7.out.below hb); have HB_14 := Lib.hid (below_tr HB_8.out hb); clear hb; have RA_15 := Lib.hid (RA_9.out.dk K); have RX_16 := Lib.hid (RX_10.out.dk K); clear K Ba_6 Bo_7 HB_8 RA_9 RX_10; have RY_17 := Lib.hid ht; clear ht; have la := Ba_12.out.lt; obtain ⟨ca0, ca1, ca2, ca3, ca4, ca5⟩ := Ba_12.out.cells6; have lo := Bo_13.out.lt; obtain ⟨co0, co1, co2, co3, co4, co5⟩ := Bo_13.out.cells6; have fo0 := Bo_13.out.free 0; have fo1 := Bo_13.out.free 1; have fo2 := Bo_13.out.free 2; have fo3 := Bo_13.out.free 3; have fo4 := Bo_13.out.free 4; have fo5 := Bo_13.out.free 5; have k_18 : SX1 (w2) := (hS1 _).2 ⟨Ba_12.out.cell 0 rfl, Ba_12.out.cell 1 rfl, Ba_12.out.cell 2 rfl, Ba_12.out.cell 3 rfl, Ba_12.out.cell 4 rfl, Ba_12.out.cell 5 rfl⟩; have y0 := Ba_12.out.lt; have y1 := Bo_13.out.lt; have y2 := HB_14.out.size; have k_19 : SX1 ((((((w2.setCell ⟨w.heap.size + 1, 0, none⟩ (.bool r.b)).setCell ⟨w.heap.size + 1, 1, none⟩ (.slice r.A r.n r.c)).setCell ⟨w.heap.size + 1, 2, none⟩ (.int .i64 a.hi.x)).setCell ⟨w.heap.size + 1, 3, none⟩ (.bool t.b)).setCell ⟨w.heap.size + 1, 4, none⟩ (.slice t.A t.n t.c)).setCell ⟨w.heap.size + 1, 5, none⟩ (.int .i64 a.lo.x)) := (hS1 _).2 ⟨((((((Ba_12.out.ne (by omega) 0 (.bool r.b)).ne (by omega) 1 (.slice r.A r.n r.c)).ne (by omega) 2 (.int .i64 a.hi.x)).ne (by omega) 3 (.bool t.b)).ne (by omega) 4 (.slice t.A t.n t.c)).ne (by omega) 5 (.int .i64 a.lo.x)).cell 0 rfl, ((((((Ba_12.out.ne (by omega) 0 (.bool r.b)).ne (by omega) 1 (.slice r.A r.n r.c)).ne (by omega) 2 (.int .i64 a.hi.x)).ne (by omega) 3 (.bool t.b)).ne (by omega) 4 (.slice t.A t.n t.c)).ne (by omega) 5 (.int .i64 a.lo.x)).cell 1 rfl, ((((((Ba_12.out.ne (by omega) 0 (.bool r.b)).ne (by omega) 1 (.slice r.A r.n r.c)).ne (by omega) 2 (.int .i64 a.hi.x)).ne (by omega) 3 (.bool t.b)).ne (by omega) 4 (.slice t.A t.n t.c)).ne (by omega) 5 (.int .i64 a.lo.x)).cell 2 rfl, ((((((Ba_12.out.ne (by omega) 0 (.bool r.b)).ne (by omega) 1 (.slice r.A r.n r.c)).ne (by omega) 2 (.int .i64 a.hi.x)).ne (by omega) 3 (.bool t.b)).ne (by omega) 4 (.slice t.A t.n t.c)).ne (by omega) 5 (.int .i64 a.lo.x)).cell 3 rfl, ((((((Ba_12.out.ne (by omega) 0 (.bool r.b)).ne (by omega) 1 (.slice r.A r.n r.c)).ne (by omega) 2 (.int .i64 a.hi.x)).ne (by omega) 3 (.bool t.b)).ne (by omega) 4 (.slice t.A t.n t.c)).ne (by omega) 5 (.int .i64 a.lo.x)).cell 4 rfl, ((((((Ba_12.out.ne (by omega) 0 (.bool r.b)).ne (by omega) 1 (.slice r.A r.n r.c)).ne (by omega) 2 (.int .i64 a.hi.x)).ne (by omega) 3 (.bool t.b)).ne (by omega) 4 (.slice t.A t.n t.c)).ne (by omega) 5 (.int .i64 a.lo.x)).cell 5 rfl⟩; clear y0 y1 y2))
  go_wp2
  refine bodyPost_ret (v := .agg #[.bool r.b, .slice r.A r.n r.c, .int .i64 a.hi.x, .bool t.b, .slice t.A t.n t.c, .int .i64 a.lo.x]) ?_ rfl ?_
  · simp [results, Tryd.f85, go_sem, co0, co1, co2, co3, co4, co5]
  · have y0 := HB_14.out.size; exact ⟨⟨⟨r, t⟩, rfl, (RX_16.out.dk (((((((Dk.refl _).set (cs := #[.bool false, .slice none 0 0, .int .i64 0, .bool false, .slice none 0 0, .int .i64 0]) Bo_13.out 0 (by intro _ hh; cases hh) (.bool r.b)).set (cs := #[.bool r.b, .slice none 0 0, .int .i64 0, .bool false, .slice none 0 0, .int .i64 0]) (Bo_13.out.set 0 (.bool r.b)) 1 (by intro _ hh; cases hh) (.slice r.A r.n r.c)).set (cs := #[.bool r.b, .slice r.A r.n r.c, .int .i64 0, .bool false, .slice none 0 0, .int .i64 0]) ((Bo_13.out.set 0 (.bool r.b)).set 1 (.slice r.A r.n r.c)) 2 (by intro _ hh; cases hh) (.int .i64 a.hi.x)).set (cs := #[.bool r.b, .slice r.A r.n r.c, .int .i64 a.hi.x, .bool false, .slice none 0 0, .int .i64 0]) (((Bo_13.out.set 0 (.bool r.b)).set 1 (.slice r.A r.n r.c)).set 2 (.int .i64 a.hi.x)) 3 (by intro _ hh; cases hh) (.bool t.b)).set (cs := #[.bool r.b, .slice r.A r.n r.c, .int .i64 a.hi.x, .bool t.b, .slice none 0 0, .int .i64 0]) ((((Bo_13.out.set 0 (.bool r.b)).set 1 (.slice r.A r.n r.c)).set 2 (.int .i64 a.hi.x)).set 3 (.bool t.b)) 4 (by intro _ hh; cases hh) (.slice t.A t.n t.c)).set (cs := #[.bool r.b, .slice r.A r.n r.c, .int .i64 a.hi.x, .bool t.b, .slice t.A t.n t.c, .int .i64 0]) (((((Bo_13.out.set 0 (.bool r.b)).set 1 (.slice r.A r.n r.c)).set 2 (.int .i64 a.hi.x)).set 3 (.bool t.b)).set 4 (.slice t.A t.n t.c)) 5 (by intro _ hh; cases hh) (.int .i64 a.lo.x))), (RY_17.out.dk (((((((Dk.refl _).set (cs := #[.bool false, .slice none 0 0, .int .i64 0, .bool false, .slice none 0 0, .int .i64 0]) Bo_13.out 0 (by intro _ hh; cases hh) (.bool r.b)).set (cs := #[.bool r.b, .slice none 0 0, .int .i64 0, .bool false, .slice none 0 0, .int .i64 0]) (Bo_13.out.set 0 (.bool r.b)) 1 (by intro _ hh; cases hh) (.slice r.A r.n r.c)).set (cs := #[.bool r.b, .slice r.A r.n r.c, .int .i64 0, .bool false, .slice none 0 0, .int .i64 0]) ((Bo_13.out.set 0 (.bool r.b)).set 1 (.slice r.A r.n r.c)) 2 (by intro _ hh; cases hh) (.int .i64 a.hi.x)).set (cs := #[.bool r.b, .slice r.A r.n r.c, .int .i64 a.hi.x, .bool false, .slice none 0 0, .int .i64 0]) (((Bo_13.out.set 0 (.bool r.b)).set 1 (.slice r.A r.n r.c)).set 2 (.int .i64 a.hi.x)) 3 (by intro _ hh; cases hh) (.bool t.b)).set (cs := #[.bool r.b, .slice r.A r.n r.c, .int .i64 a.hi.x, .bool t.b, .slice none 0 0, .int .i64 0]) ((((Bo_13.out.set 0 (.bool r.b)).set 1 (.slice r.A r.n r.c)).set 2 (.int .i64 a.hi.x)).set 3 (.bool t.b)) 4 (by intro _ hh; cases hh) (.slice t.A t.n t.c)).set (cs := #[.bool r.b, .slice r.A r.n r.c, .int .i64 a.hi.x, .bool t.b, .slice t.A t.n t.c, .int .i64 0]) (((((Bo_13.out.set 0 (.bool r.b)).set 1 (.slice r.A r.n r.c)).set 2 (.int .i64 a.hi.x)).set 3 (.bool t.b)).set 4 (.slice t.A t.n t.c)) 5 (by intro _ hh; cases hh) (.int .i64 a.lo.x)))⟩, (below_st (below_st (below_st (below_st (below_st (below_st HB_14.out 0 (by omega) (.bool r.b)) 1 (by omega) (.slice r.A r.n r.c)) 2 (by omega) (.int .i64 a.hi.x)) 3 (by omega) (.bool t.b)) 4 (by omega) (.slice t.A t.n t.c)) 5 (by omega) (.int .i64 a.lo.x))⟩

set_option maxRecDepth 100000 in
set_option maxHeartbeats 4000000 in
theorem seven_any (w : World) (p : Q) (a : D) (h : RD w p a) (hz : nb a.z.natAbs ≤ 16384) :
    Calls Tryd.prog 120 #[.agg #[.bool p.b, .slice p.A p.n p.c, .int .i64 a.x]] w fun e w' => (∃ r : SQ, e = .returned (.agg #[.bool r.lo.b, .slice r.lo.A r.lo.n r.lo.c, .int .i64 (Sp.even a).lo.x, .bool r.hi.b, .slice r.hi.A r.hi.n r.hi.c, .int .i64 (Sp.even a).hi.x]) ∧ RS w' r (Sp.even a)) ∧ Below w.heap.size w w' := by
  have HA := Lib.hid h
  clear h
  have y0 : nb a.z.natAbs ≤ 16384 := hz
  have y1 : nb a.abs.z.natAbs ≤ 16384 := by unfold D.abs; simp only [Int.natAbs_natCast]; exact hz
  clear hz
  have BX := Lib.hid (boxes2 w 53 #[.bool p.b, .slice p.A p.n p.c, .int .i64 a.x] 62 #[.bool false, .slice none 0 0, .int .i64 0, .bool false, .slice none 0 0, .int .i64 0])
  go_enter Tryd.func120, Tryd.ntmps120
  go_wp2_with fail
  generalize (w.alloc (.cells #[.bool p.b, .slice p.A p.n p.c, .int .i64 a.x] 53)).alloc (.cells #[.bool false, .slice none 0 0, .int .i64 0, .bool false, .slice none 0 0, .int .i64 0] 62) = w0 at *
  obtain ⟨b0, b1, hw⟩ := BX.out
  have Ba_0 := Lib.hid b0
  have Bo_0 := Lib.hid b1
  have HB_0 := Lib.hid hw
  have K := Dk.below (hw.mono (Nat.le_refl _))
  clear BX hw b0 b1
  have RA_1 := Lib.hid (HA.out.dk K)
  clear K HA
  have la := Ba_0.out.lt
  obtain ⟨ca0, ca1, ca2⟩ := Ba_0.out.cells3
  have lo := Bo_0.out.lt
  obtain ⟨co0, co1, co2, co3, co4, co5⟩ := Bo_0.out.cells6
  go_wp2_with fail
  refine (dabs_any _ p a RA_1.out y0).mono ?_
  rintro e w1 ⟨⟨r, rfl, hr⟩, hb⟩
  clear la ca0 ca1 ca2 lo co0 co1 co2 co3 co4 co5
  have K := Dk.below hb
  have Ba_2 := Lib.hid (show Bk _ _ _ #[.bool p.b, .slice p.A p.n p.c, .int .i64 a.x] from Ba_0.out.below hb)
  have Bo_3 := Lib.hid (show Bk _ _ _ #[.bool false, .slice none 0 0, .int .i64 0, .bool false, .slice none 0 0, .int .i64 0] from Bo_0.out.below hb)
  have HB_4 := Lib.hid (below_tr HB_0.out hb)
  clear hb
  have RA_5 := Lib.hid (RA_1.out.dk K)
  clear K Ba_0 Bo_0 HB_0 RA_1
  have RX_6 := Lib.hid hr
  clear hr
  have la := Ba_2.out.lt
  obtain ⟨ca0, ca1, ca2⟩ := Ba_2.out.cells3
  have fa0 := Ba_2.out.free 0
  have fa1 := Ba_2.out.free 1
  have fa2 := Ba_2.out.free 2
  have lo := Bo_3.out.lt
  obtain ⟨co0, co1, co2, co3, co4, co5⟩ := Bo_3.out.cells6
  go_wp2_with fail
  clear la ca0 ca1 ca2 fa0 fa1 fa2 lo co0 co1 co2 co3 co4 co5
  have K : Dk w1 (((w1.setCell ⟨w.heap.size, 0, none⟩ (.bool r.b)).setCell ⟨w.heap.size, 1, none⟩ (.slice r.A r.n r.c)).setCell ⟨w.heap.size, 2, none⟩ (.int .i64 a.abs.x)) := ((((Dk.refl _).set (cs := #[.bool p.b, .slice p.A p.n p.c, .int .i64 a.x]) Ba_2.out 0 (by intro _ hh; cases hh) (.bool r.b)).set (cs := #[.bool r.b, .slice p.A p.n p.c, .int .i64 a.x]) (Ba_2.out.set 0 (.bool r.b)) 1 (by intro _ hh; cases hh) (.slice r.A r.n r.c)).set (cs := #[.bool r.b, .slice r.A r.n r.c, .int .i64 a.x]) ((Ba_2.out.set 0 (.bool r.b)).set 1 (.slice r.A r.n r.c)) 2 (by intro _ hh; cases hh) (.int .i64 a.abs.x))
  have Ba_7 := Lib.hid (show Bk (((w1.setCell ⟨w.heap.size, 0, none⟩ (.bool r.b)).setCell ⟨w.heap.size, 1, none⟩ (.slice r.A r.n r.c)).setCell ⟨w.heap.size, 2, none⟩ (.int .i64 a.abs.x)) (w.heap.size) 53 #[.bool r.b, .slice r.A r.n r.c, .int .i64 a.abs.x] from (((Ba_2.out.set 0 (.bool r.b)).set 1 (.slice r.A r.n r.c)).set 2 (.int .i64 a.abs.x)))
  have y0 := Ba_2.out.lt; have y1 := Bo_3.out.lt; have y2 := HB_4.out.size; have Bo_8 := Lib.hid (show Bk (((w1.setCell ⟨w.heap.size, 0, none⟩ (.bool r.b)).setCell ⟨w.heap.size, 1, none⟩ (.slice r.A r.n r.c)).setCell ⟨w.heap.size, 2, none⟩ (.int .i64 a.abs.x)) (w.heap.size + 1) 62 #[.bool false, .slice none 0 0, .int .i64 0, .bool false, .slice none 0 0, .int .i64 0] from (((Bo_3.out.ne (by omega) 0 (.bool r.b)).ne (by omega) 1 (.slice r.A r.n r.c)).ne (by omega) 2 (.int .i64 a.abs.x))); clear y0 y1 y2
  have y0 := HB_4.out.size; have HB_9 := Lib.hid (show Below w.heap.size w (((w1.setCell ⟨w.heap.size, 0, none⟩ (.bool r.b)).setCell ⟨w.heap.size, 1, none⟩ (.slice r.A r.n r.c)).setCell ⟨w.heap.size, 2, none⟩ (.int .i64 a.abs.x)) from (below_st (below_st (below_st HB_4.out 0 (by omega) (.bool r.b)) 1 (by omega) (.slice r.A r.n r.c)) 2 (by omega) (.int .i64 a.abs.x))); clear y0
  have RA_10 := Lib.hid (RA_5.out.dk K)
  have RX_11 := Lib.hid (RX_6.out.dk K)
  clear K Ba_2 Bo_3 HB_4 RA_5 RX_6
  generalize ((w1.setCell ⟨w.heap.size, 0, none⟩ (.bool r.b)).setCell ⟨w.heap.size, 1, none⟩ (.slice r.A r.n r.c)).setCell ⟨w.heap.size, 2, none⟩ (.int .i64 a.abs.x) = w2 at *
  have la := Ba_7.out.lt
  obtain ⟨ca0, ca1, ca2⟩ := Ba_7.out.cells3
  have lo := Bo_8.out.lt
  obtain ⟨co0, co1, co2, co3, co4, co5⟩ := Bo_8.out.cells6
  go_wp2_with fail
  obtain ⟨SX1, hS1⟩ : ∃ S : World → Prop, ∀ w', S w' ↔ (w'.cell? ⟨w.heap.size, 0, none⟩ = some (.bool r.b) ∧ w'.cell? ⟨w.heap.size, 1, none⟩ = some (.slice r.A r.n r.c) ∧ w'.cell? ⟨w.heap.size, 2, none⟩ = some (.int .i64 a.abs.x)) := ⟨_, fun _ => Iff.rfl⟩
  have k_12 : SX1 (w2) := (hS1 _).2 ⟨Ba_7.out.cell 0 rfl, Ba_7.out.cell 1 rfl, Ba_7.out.cell 2 rfl⟩
  have k_13 : SX1 (w2.drew) := (hS1 _).2 ⟨(Ba_7.out.drew).cell 0 rfl, (Ba_7.out.drew).cell 1 rfl, (Ba_7.out.drew).cell 2 rfl⟩
  have tok_14 : True := trivial
  go_region_held3 (fun w' => w'.cell? ⟨w.heap.size, 0, none⟩ = some (.bool r.b) ∧ w'.cell? ⟨w.heap.size, 1, none⟩ = some (.slice r.A r.n r.c) ∧ w'.cell? ⟨w.heap.size, 2, none⟩ = some (.int .i64 a.abs.x)) (first | with_reducible exact (hS1 _).1 k_12 | with_reducible exact (hS1 _).1 k_13 | with_reducible exact (hS1 _).1 k_21 | with_reducible exact (hS1 _).1 k_22)
    (first
     | (have _ := tok_14; go_at_call 111; clear tok_14; refine (dneg_q _ r a.abs (RX_11.out.dk ((Dk.refl _).drew)) y1).mono ?_; rintro e w3 ⟨⟨t, rfl, ht⟩, hb⟩; clear la ca0 ca1 ca2 lo co0 co1 co2 co3 co4 co5 k_12 k_13; have K := Dk.trans ((Dk.refl _).drew) (.below hb); have Ba_15 := Lib.hid (show Bk _ _ _ #[.bool r.b, .slice r.A r.n r.c, .int .i64 a.abs.x] from (Ba_7.out.drew).below hb); have Bo_16 := Lib.hid (show Bk _ _ _ #[.bool false, .slice none 0 0, .int .i64 0, .bool false, .slice none 0 0, .int .i64 0] from (Bo_8.out.drew).below hb); have HB_17 := Lib.hid (below_tr (below_dr HB_9.out) hb); clear hb; have RA_18 := Lib.hid (RA_10.out.dk K); have RX_19 := Lib.hid (RX_11.out.dk K); clear K Ba_7 Bo_8 HB_9 RA_10 RX_11; have RY_20 := Lib.hid ht; clear ht; have la := Ba_15.out.lt; obtain ⟨ca0, ca1, ca2⟩ := Ba_15.out.cells3; have lo := Bo_16.out.lt; obtain ⟨co0, co1, co2, co3, co4, co5⟩ := Bo_16.out.cells6; have fo0 := Bo_16.out.free 0; have fo1 := Bo_16.out.free 1; have fo2 := Bo_16.out.free 2; have fo3 := Bo_16.out.free 3; have fo4 := Bo_16.out.free 4; have fo5 := Bo_16.out.free 5; have k_21 : SX1 (w3) := (hS1 _).2 ⟨Ba_15.out.cell 0 rfl, Ba_15.out.cell 1 rfl, Ba_15.out.cell 2 rfl⟩; have y0 := Ba_15.out.lt; have y1 := Bo_16.out.lt; have y2 := HB_17.out.size; have k_22 : SX1 ((((((w3.setCell ⟨w.heap.size + 1, 0, none⟩ (.bool t.b)).setCell ⟨w.heap.size + 1, 1, none⟩ (.slice t.A t.n t.c)).setCell ⟨w.heap.size + 1, 2, none⟩ (.int .i64 a.abs.x)).setCell ⟨w.heap.size + 1, 3, none⟩ (.bool r.b)).setCell ⟨w.heap.size + 1, 4, none⟩ (.slice r.A r.n r.c)).setCell ⟨w.heap.size + 1, 5, none⟩ (.int .i64 a.abs.x)) := (hS1 _).2 ⟨((((((Ba_15.out.ne (by omega) 0 (.bool t.b)).ne (by omega) 1 (.slice t.A t.n t.c)).ne (by omega) 2 (.int .i64 a.abs.x)).ne (by omega) 3 (.bool r.b)).ne (by omega) 4 (.slice r.A r.n r.c)).ne (by omega) 5 (.int .i64 a.abs.x)).cell 0 rfl, ((((((Ba_15.out.ne (by omega) 0 (.bool t.b)).ne (by omega) 1 (.slice t.A t.n t.c)).ne (by omega) 2 (.int .i64 a.abs.x)).ne (by omega) 3 (.bool r.b)).ne (by omega) 4 (.slice r.A r.n r.c)).ne (by omega) 5 (.int .i64 a.abs.x)).cell 1 rfl, ((((((Ba_15.out.ne (by omega) 0 (.bool t.b)).ne (by omega) 1 (.slice t.A t.n t.c)).ne (by omega) 2 (.int .i64 a.abs.x)).ne (by omega) 3 (.bool r.b)).ne (by omega) 4 (.slice r.A r.n r.c)).ne (by omega) 5 (.int .i64 a.abs.x)).cell 2 rfl⟩; clear y0 y1 y2))
  go_wp2
  refine bodyPost_ret (v := .agg #[.bool t.b, .slice t.A t.n t.c, .int .i64 a.abs.x, .bool r.b, .slice r.A r.n r.c, .int .i64 a.abs.x]) ?_ rfl ?_
  · simp [results, Tryd.f120, go_sem, co0, co1, co2, co3, co4, co5]
  · have y0 := HB_17.out.size; exact ⟨⟨⟨t, r⟩, rfl, (RY_20.out.dk (((((((Dk.refl _).set (cs := #[.bool false, .slice none 0 0, .int .i64 0, .bool false, .slice none 0 0, .int .i64 0]) Bo_16.out 0 (by intro _ hh; cases hh) (.bool t.b)).set (cs := #[.bool t.b, .slice none 0 0, .int .i64 0, .bool false, .slice none 0 0, .int .i64 0]) (Bo_16.out.set 0 (.bool t.b)) 1 (by intro _ hh; cases hh) (.slice t.A t.n t.c)).set (cs := #[.bool t.b, .slice t.A t.n t.c, .int .i64 0, .bool false, .slice none 0 0, .int .i64 0]) ((Bo_16.out.set 0 (.bool t.b)).set 1 (.slice t.A t.n t.c)) 2 (by intro _ hh; cases hh) (.int .i64 a.abs.x)).set (cs := #[.bool t.b, .slice t.A t.n t.c, .int .i64 a.abs.x, .bool false, .slice none 0 0, .int .i64 0]) (((Bo_16.out.set 0 (.bool t.b)).set 1 (.slice t.A t.n t.c)).set 2 (.int .i64 a.abs.x)) 3 (by intro _ hh; cases hh) (.bool r.b)).set (cs := #[.bool t.b, .slice t.A t.n t.c, .int .i64 a.abs.x, .bool r.b, .slice none 0 0, .int .i64 0]) ((((Bo_16.out.set 0 (.bool t.b)).set 1 (.slice t.A t.n t.c)).set 2 (.int .i64 a.abs.x)).set 3 (.bool r.b)) 4 (by intro _ hh; cases hh) (.slice r.A r.n r.c)).set (cs := #[.bool t.b, .slice t.A t.n t.c, .int .i64 a.abs.x, .bool r.b, .slice r.A r.n r.c, .int .i64 0]) (((((Bo_16.out.set 0 (.bool t.b)).set 1 (.slice t.A t.n t.c)).set 2 (.int .i64 a.abs.x)).set 3 (.bool r.b)).set 4 (.slice r.A r.n r.c)) 5 (by intro _ hh; cases hh) (.int .i64 a.abs.x))), (RX_19.out.dk (((((((Dk.refl _).set (cs := #[.bool false, .slice none 0 0, .int .i64 0, .bool false, .slice none 0 0, .int .i64 0]) Bo_16.out 0 (by intro _ hh; cases hh) (.bool t.b)).set (cs := #[.bool t.b, .slice none 0 0, .int .i64 0, .bool false, .slice none 0 0, .int .i64 0]) (Bo_16.out.set 0 (.bool t.b)) 1 (by intro _ hh; cases hh) (.slice t.A t.n t.c)).set (cs := #[.bool t.b, .slice t.A t.n t.c, .int .i64 0, .bool false, .slice none 0 0, .int .i64 0]) ((Bo_16.out.set 0 (.bool t.b)).set 1 (.slice t.A t.n t.c)) 2 (by intro _ hh; cases hh) (.int .i64 a.abs.x)).set (cs := #[.bool t.b, .slice t.A t.n t.c, .int .i64 a.abs.x, .bool false, .slice none 0 0, .int .i64 0]) (((Bo_16.out.set 0 (.bool t.b)).set 1 (.slice t.A t.n t.c)).set 2 (.int .i64 a.abs.x)) 3 (by intro _ hh; cases hh) (.bool r.b)).set (cs := #[.bool t.b, .slice t.A t.n t.c, .int .i64 a.abs.x, .bool r.b, .slice none 0 0, .int .i64 0]) ((((Bo_16.out.set 0 (.bool t.b)).set 1 (.slice t.A t.n t.c)).set 2 (.int .i64 a.abs.x)).set 3 (.bool r.b)) 4 (by intro _ hh; cases hh) (.slice r.A r.n r.c)).set (cs := #[.bool t.b, .slice t.A t.n t.c, .int .i64 a.abs.x, .bool r.b, .slice r.A r.n r.c, .int .i64 0]) (((((Bo_16.out.set 0 (.bool t.b)).set 1 (.slice t.A t.n t.c)).set 2 (.int .i64 a.abs.x)).set 3 (.bool r.b)).set 4 (.slice r.A r.n r.c)) 5 (by intro _ hh; cases hh) (.int .i64 a.abs.x)))⟩, (below_st (below_st (below_st (below_st (below_st (below_st HB_17.out 0 (by omega) (.bool t.b)) 1 (by omega) (.slice t.A t.n t.c)) 2 (by omega) (.int .i64 a.abs.x)) 3 (by omega) (.bool r.b)) 4 (by omega) (.slice r.A r.n r.c)) 5 (by omega) (.int .i64 a.abs.x))⟩

end Go.Proofs.YtgioppkggpfnoaaDoor.Nu
end

section
/- The walks of span.Add, Sub. -/
set_option linter.unusedVariables false
namespace Go.Proofs.YtgioppkggpfnoaaDoor.Nu
open Go.RowKit Go.Proofs

set_option maxRecDepth 100000 in
set_option maxHeartbeats 4000000 in
theorem sadd_any (w : World) (s t : SQ) (a b : Sp) (bits : Nat) (E T : Nat) (h : RS w s a) (h2 : RS w t b) (la : a.Lim E T) (lb : b.Lim E T) (hET : E + T + 1 ≤ 16000) (hb2 : 2 ≤ bits) (hb3 : bits ≤ 4096) (ht : BTab w) :
    Calls Tryd.prog 38 #[.agg #[.bool s.lo.b, .slice s.lo.A s.lo.n s.lo.c, .int .i64 a.lo.x, .bool s.hi.b, .slice s.hi.A s.hi.n s.hi.c, .int .i64 a.hi.x], .agg #[.bool t.lo.b, .slice t.lo.A t.lo.n t.lo.c, .int .i64 b.lo.x, .bool t.hi.b, .slice t.hi.A t.hi.n t.hi.c, .int .i64 b.hi.x], .int .i64 bits] w fun e w' => (∃ r : SQ, e = .returned (.tuple #[.agg #[.bool r.lo.b, .slice r.lo.A r.lo.n r.lo.c, .int .i64 (a.add b bits).lo.x, .bool r.hi.b, .slice r.hi.A r.hi.n r.hi.c, .int .i64 (a.add b bits).hi.x], .int .i64 0]) ∧ RS w' r (a.add b bits)) ∧ Below w.heap.size w w' := by
  have HA := Lib.hid h
  have HB := Lib.hid h2
  have LA := Lib.hid la
  have LB := Lib.hid lb
  clear h h2 la lb
  have HT := Lib.hid ht
  clear ht
  unfold Sp.add
  have BX := Lib.hid (boxes3 w 62 #[.bool s.lo.b, .slice s.lo.A s.lo.n s.lo.c, .int .i64 a.lo.x, .bool s.hi.b, .slice s.hi.A s.hi.n s.hi.c, .int .i64 a.hi.x] 62 #[.bool t.lo.b, .slice t.lo.A t.lo.n t.lo.c, .int .i64 b.lo.x, .bool t.hi.b, .slice t.hi.A t.hi.n t.hi.c, .int .i64 b.hi.x] 62 #[.bool false, .slice none 0 0, .int .i64 0, .bool false, .slice none 0 0, .int .i64 0])
  go_enter Tryd.func38, Tryd.ntmps38
  go_wp2_with fail
  generalize ((w.alloc (.cells #[.bool s.lo.b, .slice s.lo.A s.lo.n s.lo.c, .int .i64 a.lo.x, .bool s.hi.b, .slice s.hi.A s.hi.n s.hi.c, .int .i64 a.hi.x] 62)).alloc (.cells #[.bool t.lo.b, .slice t.lo.A t.lo.n t.lo.c, .int .i64 b.lo.x, .bool t.hi.b, .slice t.hi.A t.hi.n t.hi.c, .int .i64 b.hi.x] 62)).alloc (.cells #[.bool false, .slice none 0 0, .int .i64 0, .bool false, .slice none 0 0, .int .i64 0] 62) = w0 at *
  obtain ⟨b0, b1, b2, hw⟩ := BX.out
  have Ba_0 := Lib.hid b0
  have Bb_0 := Lib.hid b1
  have Bo_0 := Lib.hid b2
  have HB_0 := Lib.hid hw
  have K := Dk.below (hw.mono (Nat.le_refl _))
  clear BX hw b0 b1 b2
  have RA_1 := Lib.hid (HA.out.dk K)
  have RB_2 := Lib.hid (HB.out.dk K)
  clear K HA HB
  have la := Ba_0.out.lt
  obtain ⟨ca0, ca1, ca2, ca3, ca4, ca5⟩ := Ba_0.out.cells6
  have lb := Bb_0.out.lt
  obtain ⟨cb0, cb1, cb2, cb3, cb4, cb5⟩ := Bb_0.out.cells6
  have lo := Bo_0.out.lt
  obtain ⟨co0, co1, co2, co3, co4, co5⟩ := Bo_0.out.cells6
  go_wp2_with fail
  refine (dadd_any _ s.lo t.lo a.lo b.lo E T RA_1.out.1 RB_2.out.1 LA.out.1 LB.out.1 (by omega) (HT.out.below HB_0.out)).mono ?_
  rintro e w1 ⟨⟨p, rfl, hp⟩, hb⟩
  clear la ca0 ca1 ca2 ca3 ca4 ca5 lb cb0 cb1 cb2 cb3 cb4 cb5 lo co0 co1 co2 co3 co4 co5
  have K := Dk.below hb
  have Ba_3 := Lib.hid (show Bk _ _ _ #[.bool s.lo.b, .slice s.lo.A s.lo.n s.lo.c, .int .i64 a.lo.x, .bool s.hi.b, .slice s.hi.A s.hi.n s.hi.c, .int .i64 a.hi.x] from Ba_0.out.below hb)
  have Bb_4 := Lib.hid (show Bk _ _ _ #[.bool t.lo.b, .slice t.lo.A t.lo.n t.lo.c, .int .i64 b.lo.x, .bool t.hi.b, .slice t.hi.A t.hi.n t.hi.c, .int .i64 b.hi.x] from Bb_0.out.below hb)
  have Bo_5 := Lib.hid (show Bk _ _ _ #[.bool false, .slice none 0 0, .int .i64 0, .bool false, .slice none 0 0, .int .i64 0] from Bo_0.out.below hb)
  have HB_6 := Lib.hid (below_tr HB_0.out hb)
  clear hb
  have RA_7 := Lib.hid (RA_1.out.dk K)
  have RB_8 := Lib.hid (RB_2.out.dk K)
  clear K Ba_0 Bb_0 Bo_0 HB_0 RA_1 RB_2
  have RX_9 := Lib.hid hp
  clear hp
  have la := Ba_3.out.lt
  obtain ⟨ca0, ca1, ca2, ca3, ca4, ca5⟩ := Ba_3.out.cells6
  have lb := Bb_4.out.lt
  obtain ⟨cb0, cb1, cb2, cb3, cb4, cb5⟩ := Bb_4.out.cells6
  have lo := Bo_5.out.lt
  obtain ⟨co0, co1, co2, co3, co4, co5⟩ := Bo_5.out.cells6
  have n_10 := Ba_3.out.lt
  have n_11 := Bb_4.out.lt
  have n_12 := Bo_5.out.lt
  go_wp2_with fail
  refine (dadd_any _ s.hi t.hi a.hi b.hi E T (RA_7.out.dk ((Dk.refl _).alloc _)).2 (RB_8.out.dk ((Dk.refl _).alloc _)).2 LA.out.2 LB.out.2 (by omega) (HT.out.below (below_al HB_6.out _))).mono ?_
  rintro e w2 ⟨⟨q, rfl, hq⟩, hb⟩
  clear la ca0 ca1 ca2 ca3 ca4 ca5 lb cb0 cb1 cb2 cb3 cb4 cb5 lo co0 co1 co2 co3 co4 co5
  have K := Dk.trans ((Dk.refl _).alloc _) (.below hb)
  have Ba_13 := Lib.hid (show Bk _ _ _ #[.bool s.lo.b, .slice s.lo.A s.lo.n s.lo.c, .int .i64 a.lo.x, .bool s.hi.b, .slice s.hi.A s.hi.n s.hi.c, .int .i64 a.hi.x] from (Ba_3.out.alloc _).below hb)
  have Bb_14 := Lib.hid (show Bk _ _ _ #[.bool t.lo.b, .slice t.lo.A t.lo.n t.lo.c, .int .i64 b.lo.x, .bool t.hi.b, .slice t.hi.A t.hi.n t.hi.c, .int .i64 b.hi.x] from (Bb_4.out.alloc _).below hb)
  have Bo_15 := Lib.hid (show Bk _ _ _ #[.bool false, .slice none 0 0, .int .i64 0, .bool false, .slice none 0 0, .int .i64 0] from (Bo_5.out.alloc _).below hb)
  have Bl_16 := Lib.hid (show Bk _ _ _ #[.bool p.b, .slice p.A p.n p.c, .int .i64 (a.lo.add b.lo).x] from (Bk.new _ 53 #[.bool p.b, .slice p.A p.n p.c, .int .i64 (a.lo.add b.lo).x]).below hb)
  have HB_17 := Lib.hid (below_tr (below_al HB_6.out _) hb)
  clear hb
  have RA_18 := Lib.hid (RA_7.out.dk K)
  have RB_19 := Lib.hid (RB_8.out.dk K)
  have RX_20 := Lib.hid (RX_9.out.dk K)
  clear K Ba_3 Bb_4 Bo_5 HB_6 RA_7 RB_8 RX_9
  have RY_21 := Lib.hid hq
  clear hq
  have la := Ba_13.out.lt
  obtain ⟨ca0, ca1, ca2, ca3, ca4, ca5⟩ := Ba_13.out.cells6
  have lb := Bb_14.out.lt
  obtain ⟨cb0, cb1, cb2, cb3, cb4, cb5⟩ := Bb_14.out.cells6
  have lo := Bo_15.out.lt
  obtain ⟨co0, co1, co2, co3, co4, co5⟩ := Bo_15.out.cells6
  have ll := Bl_16.out.lt
  obtain ⟨cl0, cl1, cl2⟩ := Bl_16.out.cells3
  have n_22 := Ba_13.out.lt
  have n_23 := Bb_14.out.lt
  have n_24 := Bo_15.out.lt
  have n_25 := Bl_16.out.lt
  go_wp2_with fail
  refine (sout_any _ p q (a.lo.add b.lo) (a.hi.add b.hi) bits E (T + 1) (RX_20.out.dk ((Dk.refl _).alloc _)) (RY_21.out.dk ((Dk.refl _).alloc _)) (add_lim LA.out.1 LB.out.1) (add_lim LA.out.2 LB.out.2) (by omega) hb2 hb3 (HT.out.below (below_al HB_17.out _))).mono ?_
  rintro e w3 ⟨⟨r, rfl, hr⟩, hb⟩
  clear la ca0 ca1 ca2 ca3 ca4 ca5 lb cb0 cb1 cb2 cb3 cb4 cb5 lo co0 co1 co2 co3 co4 co5 ll cl0 cl1 cl2
  have K := Dk.trans ((Dk.refl _).alloc _) (.below hb)
  have Ba_26 := Lib.hid (show Bk _ _ _ #[.bool s.lo.b, .slice s.lo.A s.lo.n s.lo.c, .int .i64 a.lo.x, .bool s.hi.b, .slice s.hi.A s.hi.n s.hi.c, .int .i64 a.hi.x] from (Ba_13.out.alloc _).below hb)
  have Bb_27 := Lib.hid (show Bk _ _ _ #[.bool t.lo.b, .slice t.lo.A t.lo.n t.lo.c, .int .i64 b.lo.x, .bool t.hi.b, .slice t.hi.A t.hi.n t.hi.c, .int .i64 b.hi.x] from (Bb_14.out.alloc _).below hb)
  have Bo_28 := Lib.hid (show Bk _ _ _ #[.bool false, .slice none 0 0, .int .i64 0, .bool false, .slice none 0 0, .int .i64 0] from (Bo_15.out.alloc _).below hb)
  have Bl_29 := Lib.hid (show Bk _ _ _ #[.bool p.b, .slice p.A p.n p.c, .int .i64 (a.lo.add b.lo).x] from (Bl_16.out.alloc _).below hb)
  have Bh_30 := Lib.hid (show Bk _ _ _ #[.bool q.b, .slice q.A q.n q.c, .int .i64 (a.hi.add b.hi).x] from (Bk.new _ 53 #[.bool q.b, .slice q.A q.n q.c, .int .i64 (a.hi.add b.hi).x]).below hb)
  have HB_31 := Lib.hid (below_tr (below_al HB_17.out _) hb)
  clear hb
  have RA_32 := Lib.hid (RA_18.out.dk K)
  have RB_33 := Lib.hid (RB_19.out.dk K)
  have RX_34 := Lib.hid (RX_20.out.dk K)
  have RY_35 := Lib.hid (RY_21.out.dk K)
  clear K Ba_13 Bb_14 Bo_15 Bl_16 HB_17 RA_18 RB_19 RX_20 RY_21
  have RZ_36 := Lib.hid hr
  clear hr
  have la := Ba_26.out.lt
  obtain ⟨ca0, ca1, ca2, ca3, ca4, ca5⟩ := Ba_26.out.cells6
  have lb := Bb_27.out.lt
  obtain ⟨cb0, cb1, cb2, cb3, cb4, cb5⟩ := Bb_27.out.cells6
  have lo := Bo_28.out.lt
  obtain ⟨co0, co1, co2, co3, co4, co5⟩ := Bo_28.out.cells6
  have fo0 := Bo_28.out.free 0
  have fo1 := Bo_28.out.free 1
  have fo2 := Bo_28.out.free 2
  have fo3 := Bo_28.out.free 3
  have fo4 := Bo_28.out.free 4
  have fo5 := Bo_28.out.free 5
  have ll := Bl_29.out.lt
  obtain ⟨cl0, cl1, cl2⟩ := Bl_29.out.cells3
  have lh := Bh_30.out.lt
  obtain ⟨ch0, ch1, ch2⟩ := Bh_30.out.cells3
  go_wp2
  refine bodyPost_ret (v := .tuple #[.agg #[.bool r.lo.b, .slice r.lo.A r.lo.n r.lo.c, .int .i64 (Sp.out (a.lo.add b.lo) (a.hi.add b.hi) bits).lo.x, .bool r.hi.b, .slice r.hi.A r.hi.n r.hi.c, .int .i64 (Sp.out (a.lo.add b.lo) (a.hi.add b.hi) bits).hi.x], .int .i64 0]) ?_ rfl ?_
  · simp [results, Tryd.f38, go_sem, co0, co1, co2, co3, co4, co5]
  · have y0 := HB_31.out.size; exact ⟨⟨r, rfl, (RZ_36.out.dk (((((((Dk.refl _).set (cs := #[.bool false, .slice none 0 0, .int .i64 0, .bool false, .slice none 0 0, .int .i64 0]) Bo_28.out 0 (by intro _ hh; cases hh) (.bool r.lo.b)).set (cs := #[.bool r.lo.b, .slice none 0 0, .int .i64 0, .bool false, .slice none 0 0, .int .i64 0]) (Bo_28.out.set 0 (.bool r.lo.b)) 1 (by intro _ hh; cases hh) (.slice r.lo.A r.lo.n r.lo.c)).set (cs := #[.bool r.lo.b, .slice r.lo.A r.lo.n r.lo.c, .int .i64 0, .bool false, .slice none 0 0, .int .i64 0]) ((Bo_28.out.set 0 (.bool r.lo.b)).set 1 (.slice r.lo.A r.lo.n r.lo.c)) 2 (by intro _ hh; cases hh) (.int .i64 (Sp.out (a.lo.add b.lo) (a.hi.add b.hi) bits).lo.x)).set (cs := #[.bool r.lo.b, .slice r.lo.A r.lo.n r.lo.c, .int .i64 (Sp.out (a.lo.add b.lo) (a.hi.add b.hi) bits).lo.x, .bool false, .slice none 0 0, .int .i64 0]) (((Bo_28.out.set 0 (.bool r.lo.b)).set 1 (.slice r.lo.A r.lo.n r.lo.c)).set 2 (.int .i64 (Sp.out (a.lo.add b.lo) (a.hi.add b.hi) bits).lo.x)) 3 (by intro _ hh; cases hh) (.bool r.hi.b)).set (cs := #[.bool r.lo.b, .slice r.lo.A r.lo.n r.lo.c, .int .i64 (Sp.out (a.lo.add b.lo) (a.hi.add b.hi) bits).lo.x, .bool r.hi.b, .slice none 0 0, .int .i64 0]) ((((Bo_28.out.set 0 (.bool r.lo.b)).set 1 (.slice r.lo.A r.lo.n r.lo.c)).set 2 (.int .i64 (Sp.out (a.lo.add b.lo) (a.hi.add b.hi) bits).lo.x)).set 3 (.bool r.hi.b)) 4 (by intro _ hh; cases hh) (.slice r.hi.A r.hi.n r.hi.c)).set (cs := #[.bool r.lo.b, .slice r.lo.A r.lo.n r.lo.c, .int .i64 (Sp.out (a.lo.add b.lo) (a.hi.add b.hi) bits).lo.x, .bool r.hi.b, .slice r.hi.A r.hi.n r.hi.c, .int .i64 0]) (((((Bo_28.out.set 0 (.bool r.lo.b)).set 1 (.slice r.lo.A r.lo.n r.lo.c)).set 2 (.int .i64 (Sp.out (a.lo.add b.lo) (a.hi.add b.hi) bits).lo.x)).set 3 (.bool r.hi.b)).set 4 (.slice r.hi.A r.hi.n r.hi.c)) 5 (by intro _ hh; cases hh) (.int .i64 (Sp.out (a.lo.add b.lo) (a.hi.add b.hi) bits).hi.x)))⟩, (below_st (below_st (below_st (below_st (below_st (below_st HB_31.out 0 (by omega) (.bool r.lo.b)) 1 (by omega) (.slice r.lo.A r.lo.n r.lo.c)) 2 (by omega) (.int .i64 (Sp.out (a.lo.add b.lo) (a.hi.add b.hi) bits).lo.x)) 3 (by omega) (.bool r.hi.b)) 4 (by omega) (.slice r.hi.A r.hi.n r.hi.c)) 5 (by omega) (.int .i64 (Sp.out (a.lo.add b.lo) (a.hi.add b.hi) bits).hi.x))⟩

set_option maxRecDepth 100000 in
set_option maxHeartbeats 4000000 in
theorem ssub_any (w : World) (s t : SQ) (a b : Sp) (bits : Nat) (E T : Nat) (h : RS w s a) (h2 : RS w t b) (la : a.Lim E T) (lb : b.Lim E T) (hET : E + T + 1 ≤ 16000) (hb2 : 2 ≤ bits) (hb3 : bits ≤ 4096) (ht : BTab w) :
    Calls Tryd.prog 158 #[.agg #[.bool s.lo.b, .slice s.lo.A s.lo.n s.lo.c, .int .i64 a.lo.x, .bool s.hi.b, .slice s.hi.A s.hi.n s.hi.c, .int .i64 a.hi.x], .agg #[.bool t.lo.b, .slice t.lo.A t.lo.n t.lo.c, .int .i64 b.lo.x, .bool t.hi.b, .slice t.hi.A t.hi.n t.hi.c, .int .i64 b.hi.x], .int .i64 bits] w fun e w' => (∃ r : SQ, e = .returned (.tuple #[.agg #[.bool r.lo.b, .slice r.lo.A r.lo.n r.lo.c, .int .i64 (a.sub b bits).lo.x, .bool r.hi.b, .slice r.hi.A r.hi.n r.hi.c, .int .i64 (a.sub b bits).hi.x], .int .i64 0]) ∧ RS w' r (a.sub b bits)) ∧ Below w.heap.size w w' := by
  have HA := Lib.hid h
  have HB := Lib.hid h2
  have LA := Lib.hid la
  have LB := Lib.hid lb
  clear h h2 la lb
  have HT := Lib.hid ht
  clear ht
  unfold Sp.sub
  have y0 : E + T ≤ 16000 := by omega
  have BX := Lib.hid (boxes3 w 62 #[.bool s.lo.b, .slice s.lo.A s.lo.n s.lo.c, .int .i64 a.lo.x, .bool s.hi.b, .slice s.hi.A s.hi.n s.hi.c, .int .i64 a.hi.x] 62 #[.bool t.lo.b, .slice t.lo.A t.lo.n t.lo.c, .int .i64 b.lo.x, .bool t.hi.b, .slice t.hi.A t.hi.n t.hi.c, .int .i64 b.hi.x] 62 #[.bool false, .slice none 0 0, .int .i64 0, .bool false, .slice none 0 0, .int .i64 0])
  go_enter Tryd.func158, Tryd.ntmps158
  go_wp2_with fail
  generalize ((w.alloc (.cells #[.bool s.lo.b, .slice s.lo.A s.lo.n s.lo.c, .int .i64 a.lo.x, .bool s.hi.b, .slice s.hi.A s.hi.n s.hi.c, .int .i64 a.hi.x] 62)).alloc (.cells #[.bool t.lo.b, .slice t.lo.A t.lo.n t.lo.c, .int .i64 b.lo.x, .bool t.hi.b, .slice t.hi.A t.hi.n t.hi.c, .int .i64 b.hi.x] 62)).alloc (.cells #[.bool false, .slice none 0 0, .int .i64 0, .bool false, .slice none 0 0, .int .i64 0] 62) = w0 at *
  obtain ⟨b0, b1, b2, hw⟩ := BX.out
  have Ba_0 := Lib.hid b0
  have Bb_0 := Lib.hid b1
  have Bo_0 := Lib.hid b2
  have HB_0 := Lib.hid hw
  have K := Dk.below (hw.mono (Nat.le_refl _))
  clear BX hw b0 b1 b2
  have RA_1 := Lib.hid (HA.out.dk K)
  have RB_2 := Lib.hid (HB.out.dk K)
  clear K HA HB
  have la := Ba_0.out.lt
  obtain ⟨ca0, ca1, ca2, ca3, ca4, ca5⟩ := Ba_0.out.cells6
  have lb := Bb_0.out.lt
  obtain ⟨cb0, cb1, cb2, cb3, cb4, cb5⟩ := Bb_0.out.cells6
  have lo := Bo_0.out.lt
  obtain ⟨co0, co1, co2, co3, co4, co5⟩ := Bo_0.out.cells6
  go_wp2_with fail
  obtain ⟨SX1, hS1⟩ : ∃ S : World → Prop, ∀ w', S w' ↔ (w'.cell? ⟨w.heap.size, 0, none⟩ = some (.bool s.lo.b) ∧ w'.cell? ⟨w.heap.size, 1, none⟩ = some (.slice s.lo.A s.lo.n s.lo.c) ∧ w'.cell? ⟨w.heap.size, 2, none⟩ = some (.int .i64 a.lo.x) ∧ w'.cell? ⟨w.heap.size, 3, none⟩ = some (.bool s.hi.b) ∧ w'.cell? ⟨w.heap.size, 4, none⟩ = some (.slice s.hi.A s.hi.n s.hi.c) ∧ w'.cell? ⟨w.heap.size, 5, none⟩ = some (.int .i64 a.hi.x) ∧ w'.cell? ⟨w.heap.size + 1, 0, none⟩ = some (.bool t.lo.b) ∧ w'.cell? ⟨w.heap.size + 1, 1, none⟩ = some (.slice t.lo.A t.lo.n t.lo.c) ∧ w'.cell? ⟨w.heap.size + 1, 2, none⟩ = some (.int .i64 b.lo.x) ∧ w'.cell? ⟨w.heap.size + 1, 3, none⟩ = some (.bool t.hi.b) ∧ w'.cell? ⟨w.heap.size + 1, 4, none⟩ = some (.slice t.hi.A t.hi.n t.hi.c) ∧ w'.cell? ⟨w.heap.size + 1, 5, none⟩ = some (.int .i64 b.hi.x)) := ⟨_, fun _ => Iff.rfl⟩
  have k_3 : SX1 (w0) := (hS1 _).2 ⟨Ba_0.out.cell 0 rfl, Ba_0.out.cell 1 rfl, Ba_0.out.cell 2 rfl, Ba_0.out.cell 3 rfl, Ba_0.out.cell 4 rfl, Ba_0.out.cell 5 rfl, Bb_0.out.cell 0 rfl, Bb_0.out.cell 1 rfl, Bb_0.out.cell 2 rfl, Bb_0.out.cell 3 rfl, Bb_0.out.cell 4 rfl, Bb_0.out.cell 5 rfl⟩
  have k_4 : SX1 (w0.drew) := (hS1 _).2 ⟨(Ba_0.out.drew).cell 0 rfl, (Ba_0.out.drew).cell 1 rfl, (Ba_0.out.drew).cell 2 rfl, (Ba_0.out.drew).cell 3 rfl, (Ba_0.out.drew).cell 4 rfl, (Ba_0.out.drew).cell 5 rfl, (Bb_0.out.drew).cell 0 rfl, (Bb_0.out.drew).cell 1 rfl, (Bb_0.out.drew).cell 2 rfl, (Bb_0.out.drew).cell 3 rfl, (Bb_0.out.drew).cell 4 rfl, (Bb_0.out.drew).cell 5 rfl⟩
  have tok_5 : True := trivial
  have tok_6 : True := trivial
  go_region_held3 (fun w' => w'.cell? ⟨w.heap.size, 0, none⟩ = some (.bool s.lo.b) ∧ w'.cell? ⟨w.heap.size, 1, none⟩ = some (.slice s.lo.A s.lo.n s.lo.c) ∧ w'.cell? ⟨w.heap.size, 2, none⟩ = some (.int .i64 a.lo.x) ∧ w'.cell? ⟨w.heap.size, 3, none⟩ = some (.bool s.hi.b) ∧ w'.cell? ⟨w.heap.size, 4, none⟩ = some (.slice s.hi.A s.hi.n s.hi.c) ∧ w'.cell? ⟨w.heap.size, 5, none⟩ = some (.int .i64 a.hi.x) ∧ w'.cell? ⟨w.heap.size + 1, 0, none⟩ = some (.bool t.lo.b) ∧ w'.cell? ⟨w.heap.size + 1, 1, none⟩ = some (.slice t.lo.A t.lo.n t.lo.c) ∧ w'.cell? ⟨w.heap.size + 1, 2, none⟩ = some (.int .i64 b.lo.x) ∧ w'.cell? ⟨w.heap.size + 1, 3, none⟩ = some (.bool t.hi.b) ∧ w'.cell? ⟨w.heap.size + 1, 4, none⟩ = some (.slice t.hi.A t.hi.n t.hi.c) ∧ w'.cell? ⟨w.heap.size + 1, 5, none⟩ = some (.int .i64 b.hi.x)) (first | with_reducible exact (hS1 _).1 k_3 | with_reducible exact (hS1 _).1 k_4 | with_reducible exact (hS1 _).1 k_14 | with_reducible exact (hS1 _).1 k_23 | with_reducible exact (hS1 _).1 k_24)
    (first
     | (have _ := tok_5; go_at_call 85; clear tok_5; refine (sneg_any _ t b E T (RB_2.out.dk ((Dk.refl _).drew)) LB.out y0).mono ?_; rintro e w1 ⟨⟨p, rfl, hp⟩, hb⟩; clear la ca0 ca1 ca2 ca3 ca4 ca5 lb cb0 cb1 cb2 cb3 cb4 cb5 lo co0 co1 co2 co3 co4 co5 k_3 k_4; have K := Dk.trans ((Dk.refl _).drew) (.below hb); have Ba_7 := Lib.hid (show Bk _ _ _ #[.bool s.lo.b, .slice s.lo.A s.lo.n s.lo.c, .int .i64 a.lo.x, .bool s.hi.b, .slice s.hi.A s.hi.n s.hi.c, .int .i64 a.hi.x] from (Ba_0.out.drew).below hb); have Bb_8 := Lib.hid (show Bk _ _ _ #[.bool t.lo.b, .slice t.lo.A t.lo.n t.lo.c, .int .i64 b.lo.x, .bool t.hi.b, .slice t.hi.A t.hi.n t.hi.c, .int .i64 b.hi.x] from (Bb_0.out.drew).below hb); have Bo_9 := Lib.hid (show Bk _ _ _ #[.bool false, .slice none 0 0, .int .i64 0, .bool false, .slice none 0 0, .int .i64 0] from (Bo_0.out.drew).below hb); have HB_10 := Lib.hid (below_tr (below_dr HB_0.out) hb); clear hb; have RA_11 := Lib.hid (RA_1.out.dk K); have RB_12 := Lib.hid (RB_2.out.dk K); clear K Ba_0 Bb_0 Bo_0 HB_0 RA_1 RB_2; have RX_13 := Lib.hid hp; clear hp; have la := Ba_7.out.lt; obtain ⟨ca0, ca1, ca2, ca3, ca4, ca5⟩ := Ba_7.out.cells6; have lb := Bb_8.out.lt; obtain ⟨cb0, cb1, cb2, cb3, cb4, cb5⟩ := Bb_8.out.cells6; have lo := Bo_9.out.lt; obtain ⟨co0, co1, co2, co3, co4, co5⟩ := Bo_9.out.cells6; have fo0 := Bo_9.out.free 0; have fo1 := Bo_9.out.free 1; have fo2 := Bo_9.out.free 2; have fo3 := Bo_9.out.free 3; have fo4 := Bo_9.out.free 4; have fo5 := Bo_9.out.free 5; have k_14 : SX1 (w1) := (hS1 _).2 ⟨Ba_7.out.cell 0 rfl, Ba_7.out.cell 1 rfl, Ba_7.out.cell 2 rfl, Ba_7.out.cell 3 rfl, Ba_7.out.cell 4 rfl, Ba_7.out.cell 5 rfl, Bb_8.out.cell 0 rfl, Bb_8.out.cell 1 rfl, Bb_8.out.cell 2 rfl, Bb_8.out.cell 3 rfl, Bb_8.out.cell 4 rfl, Bb_8.out.cell 5 rfl⟩)
     | (have _ := tok_6; go_at_call 38; clear tok_6; refine (sadd_any _ s p a b.neg bits E T RA_11.out RX_13.out LA.out (sneg_lim LB.out) hET hb2 hb3 (HT.out.below HB_10.out)).mono ?_; rintro e w2 ⟨⟨r, rfl, hr⟩, hb⟩; clear la ca0 ca1 ca2 ca3 ca4 ca5 lb cb0 cb1 cb2 cb3 cb4 cb5 lo co0 co1 co2 co3 co4 co5 fo0 fo1 fo2 fo3 fo4 fo5 k_14; have K := Dk.below hb; have Ba_15 := Lib.hid (show Bk _ _ _ #[.bool s.lo.b, .slice s.lo.A s.lo.n s.lo.c, .int .i64 a.lo.x, .bool s.hi.b, .slice s.hi.A s.hi.n s.hi.c, .int .i64 a.hi.x] from Ba_7.out.below hb); have Bb_16 := Lib.hid (show Bk _ _ _ #[.bool t.lo.b, .slice t.lo.A t.lo.n t.lo.c, .int .i64 b.lo.x, .bool t.hi.b, .slice t.hi.A t.hi.n t.hi.c, .int .i64 b.hi.x] from Bb_8.out.below hb); have Bo_17 := Lib.hid (show Bk _ _ _ #[.bool false, .slice none 0 0, .int .i64 0, .bool false, .slice none 0 0, .int .i64 0] from Bo_9.out.below hb); have HB_18 := Lib.hid (below_tr HB_10.out hb); clear hb; have RA_19 := Lib.hid (RA_11.out.dk K); have RB_20 := Lib.hid (RB_12.out.dk K); have RX_21 := Lib.hid (RX_13.out.dk K); clear K Ba_7 Bb_8 Bo_9 HB_10 RA_11 RB_12 RX_13; have RZ_22 := Lib.hid hr; clear hr; have la := Ba_15.out.lt; obtain ⟨ca0, ca1, ca2, ca3, ca4, ca5⟩ := Ba_15.out.cells6; have lb := Bb_16.out.lt; obtain ⟨cb0, cb1, cb2, cb3, cb4, cb5⟩ := Bb_16.out.cells6; have lo := Bo_17.out.lt; obtain ⟨co0, co1, co2, co3, co4, co5⟩ := Bo_17.out.cells6; have fo0 := Bo_17.out.free 0; have fo1 := Bo_17.out.free 1; have fo2 := Bo_17.out.free 2; have fo3 := Bo_17.out.free 3; have fo4 := Bo_17.out.free 4; have fo5 := Bo_17.out.free 5; have k_23 : SX1 (w2) := (hS1 _).2 ⟨Ba_15.out.cell 0 rfl, Ba_15.out.cell 1 rfl, Ba_15.out.cell 2 rfl, Ba_15.out.cell 3 rfl, Ba_15.out.cell 4 rfl, Ba_15.out.cell 5 rfl, Bb_16.out.cell 0 rfl, Bb_16.out.cell 1 rfl, Bb_16.out.cell 2 rfl, Bb_16.out.cell 3 rfl, Bb_16.out.cell 4 rfl, Bb_16.out.cell 5 rfl⟩; have y0 := Ba_15.out.lt; have y1 := Bb_16.out.lt; have y2 := Bo_17.out.lt; have y3 := HB_18.out.size; have k_24 : SX1 ((((((w2.setCell ⟨w.heap.size + 2, 0, none⟩ (.bool r.lo.b)).setCell ⟨w.heap.size + 2, 1, none⟩ (.slice r.lo.A r.lo.n r.lo.c)).setCell ⟨w.heap.size + 2, 2, none⟩ (.int .i64 (a.add b.neg bits).lo.x)).setCell ⟨w.heap.size + 2, 3, none⟩ (.bool r.hi.b)).setCell ⟨w.heap.size + 2, 4, none⟩ (.slice r.hi.A r.hi.n r.hi.c)).setCell ⟨w.heap.size + 2, 5, none⟩ (.int .i64 (a.add b.neg bits).hi.x)) := (hS1 _).2 ⟨((((((Ba_15.out.ne (by omega) 0 (.bool r.lo.b)).ne (by omega) 1 (.slice r.lo.A r.lo.n r.lo.c)).ne (by omega) 2 (.int .i64 (a.add b.neg bits).lo.x)).ne (by omega) 3 (.bool r.hi.b)).ne (by omega) 4 (.slice r.hi.A r.hi.n r.hi.c)).ne (by omega) 5 (.int .i64 (a.add b.neg bits).hi.x)).cell 0 rfl, ((((((Ba_15.out.ne (by omega) 0 (.bool r.lo.b)).ne (by omega) 1 (.slice r.lo.A r.lo.n r.lo.c)).ne (by omega) 2 (.int .i64 (a.add b.neg bits).lo.x)).ne (by omega) 3 (.bool r.hi.b)).ne (by omega) 4 (.slice r.hi.A r.hi.n r.hi.c)).ne (by omega) 5 (.int .i64 (a.add b.neg bits).hi.x)).cell 1 rfl, ((((((Ba_15.out.ne (by omega) 0 (.bool r.lo.b)).ne (by omega) 1 (.slice r.lo.A r.lo.n r.lo.c)).ne (by omega) 2 (.int .i64 (a.add b.neg bits).lo.x)).ne (by omega) 3 (.bool r.hi.b)).ne (by omega) 4 (.slice r.hi.A r.hi.n r.hi.c)).ne (by omega) 5 (.int .i64 (a.add b.neg bits).hi.x)).cell 2 rfl, ((((((Ba_15.out.ne (by omega) 0 (.bool r.lo.b)).ne (by omega) 1 (.slice r.lo.A r.lo.n r.lo.c)).ne (by omega) 2 (.int .i64 (a.add b.neg bits).lo.x)).ne (by omega) 3 (.bool r.hi.b)).ne (by omega) 4 (.slice r.hi.A r.hi.n r.hi.c)).ne (by omega) 5 (.int .i64 (a.add b.neg bits).hi.x)).cell 3 rfl, ((((((Ba_15.out.ne (by omega) 0 (.bool r.lo.b)).ne (by omega) 1 (.slice r.lo.A r.lo.n r.lo.c)).ne (by omega) 2 (.int .i64 (a.add b.neg bits).lo.x)).ne (by omega) 3 (.bool r.hi.b)).ne (by omega) 4 (.slice r.hi.A r.hi.n r.hi.c)).ne (by omega) 5 (.int .i64 (a.add b.neg bits).hi.x)).cell 4 rfl, ((((((Ba_15.out.ne (by omega) 0 (.bool r.lo.b)).ne (by omega) 1 (.slice r.lo.A r.lo.n r.lo.c)).ne (by omega) 2 (.int .i64 (a.add b.neg bits).lo.x)).ne (by omega) 3 (.bool r.hi.b)).ne (by omega) 4 (.slice r.hi.A r.hi.n r.hi.c)).ne (by omega) 5 (.int .i64 (a.add b.neg bits).hi.x)).cell 5 rfl, ((((((Bb_16.out.ne (by omega) 0 (.bool r.lo.b)).ne (by omega) 1 (.slice r.lo.A r.lo.n r.lo.c)).ne (by omega) 2 (.int .i64 (a.add b.neg bits).lo.x)).ne (by omega) 3 (.bool r.hi.b)).ne (by omega) 4 (.slice r.hi.A r.hi.n r.hi.c)).ne (by omega) 5 (.int .i64 (a.add b.neg bits).hi.x)).cell 0 rfl, ((((((Bb_16.out.ne (by omega) 0 (.bool r.lo.b)).ne (by omega) 1 (.slice r.lo.A r.lo.n r.lo.c)).ne (by omega) 2 (.int .i64 (a.add b.neg bits).lo.x)).ne (by omega) 3 (.bool r.hi.b)).ne (by omega) 4 (.slice r.hi.A r.hi.n r.hi.c)).ne (by omega) 5 (.int .i64 (a.add b.neg bits).hi.x)).cell 1 rfl, ((((((Bb_16.out.ne (by omega) 0 (.bool r.lo.b)).ne (by omega) 1 (.slice r.lo.A r.lo.n r.lo.c)).ne (by omega) 2 (.int .i64 (a.add b.neg bits).lo.x)).ne (by omega) 3 (.bool r.hi.b)).ne (by omega) 4 (.slice r.hi.A r.hi.n r.hi.c)).ne (by omega) 5 (.int .i64 (a.add b.neg bits).hi.x)).cell 2 rfl, ((((((Bb_16.out.ne (by omega) 0 (.bool r.lo.b)).ne (by omega) 1 (.slice r.lo.A r.lo.n r.lo.c)).ne (by omega) 2 (.int .i64 (a.add b.neg bits).lo.x)).ne (by omega) 3 (.bool r.hi.b)).ne (by omega) 4 (.slice r.hi.A r.hi.n r.hi.c)).ne (by omega) 5 (.int .i64 (a.add b.neg bits).hi.x)).cell 3 rfl, ((((((Bb_16.out.ne (by omega) 0 (.bool r.lo.b)).ne (by omega) 1 (.slice r.lo.A r.lo.n r.lo.c)).ne (by omega) 2 (.int .i64 (a.add b.neg bits).lo.x)).ne (by omega) 3 (.bool r.hi.b)).ne (by omega) 4 (.slice r.hi.A r.hi.n r.hi.c)).ne (by omega) 5 (.int .i64 (a.add b.neg bits).hi.x)).cell 4 rfl, ((((((Bb_16.out.ne (by omega) 0 (.bool r.lo.b)).ne (by omega) 1 (.slice r.lo.A r.lo.n r.lo.c)).ne (by omega) 2 (.int .i64 (a.add b.neg bits).lo.x)).ne (by omega) 3 (.bool r.hi.b)).ne (by omega) 4 (.slice r.hi.A r.hi.n r.hi.c)).ne (by omega) 5 (.int .i64 (a.add b.neg bits).hi.x)).cell 5 rfl⟩; clear y0 y1 y2 y3))
  go_wp2
  refine bodyPost_ret (v := .tuple #[.agg #[.bool r.lo.b, .slice r.lo.A r.lo.n r.lo.c, .int .i64 (a.add b.neg bits).lo.x, .bool r.hi.b, .slice r.hi.A r.hi.n r.hi.c, .int .i64 (a.add b.neg bits).hi.x], .int .i64 0]) ?_ rfl ?_
  · simp [results, Tryd.f158, go_sem, co0, co1, co2, co3, co4, co5]
  · have y0 := HB_18.out.size; exact ⟨⟨r, rfl, (RZ_22.out.dk (((((((Dk.refl _).set (cs := #[.bool false, .slice none 0 0, .int .i64 0, .bool false, .slice none 0 0, .int .i64 0]) Bo_17.out 0 (by intro _ hh; cases hh) (.bool r.lo.b)).set (cs := #[.bool r.lo.b, .slice none 0 0, .int .i64 0, .bool false, .slice none 0 0, .int .i64 0]) (Bo_17.out.set 0 (.bool r.lo.b)) 1 (by intro _ hh; cases hh) (.slice r.lo.A r.lo.n r.lo.c)).set (cs := #[.bool r.lo.b, .slice r.lo.A r.lo.n r.lo.c, .int .i64 0, .bool false, .slice none 0 0, .int .i64 0]) ((Bo_17.out.set 0 (.bool r.lo.b)).set 1 (.slice r.lo.A r.lo.n r.lo.c)) 2 (by intro _ hh; cases hh) (.int .i64 (a.add b.neg bits).lo.x)).set (cs := #[.bool r.lo.b, .slice r.lo.A r.lo.n r.lo.c, .int .i64 (a.add b.neg bits).lo.x, .bool false, .slice none 0 0, .int .i64 0]) (((Bo_17.out.set 0 (.bool r.lo.b)).set 1 (.slice r.lo.A r.lo.n r.lo.c)).set 2 (.int .i64 (a.add b.neg bits).lo.x)) 3 (by intro _ hh; cases hh) (.bool r.hi.b)).set (cs := #[.bool r.lo.b, .slice r.lo.A r.lo.n r.lo.c, .int .i64 (a.add b.neg bits).lo.x, .bool r.hi.b, .slice none 0 0, .int .i64 0]) ((((Bo_17.out.set 0 (.bool r.lo.b)).set 1 (.slice r.lo.A r.lo.n r.lo.c)).set 2 (.int .i64 (a.add b.neg bits).lo.x)).set 3 (.bool r.hi.b)) 4 (by intro _ hh; cases hh) (.slice r.hi.A r.hi.n r.hi.c)).set (cs := #[.bool r.lo.b, .slice r.lo.A r.lo.n r.lo.c, .int .i64 (a.add b.neg bits).lo.x, .bool r.hi.b, .slice r.hi.A r.hi.n r.hi.c, .int .i64 0]) (((((Bo_17.out.set 0 (.bool r.lo.b)).set 1 (.slice r.lo.A r.lo.n r.lo.c)).set 2 (.int .i64 (a.add b.neg bits).lo.x)).set 3 (.bool r.hi.b)).set 4 (.slice r.hi.A r.hi.n r.hi.c)) 5 (by intro _ hh; cases hh) (.int .i64 (a.add b.neg bits).hi.x)))⟩, (below_st (below_st (below_st (below_st (below_st (below_st HB_18.out 0 (by omega) (.bool r.lo.b)) 1 (by omega) (.slice r.lo.A r.lo.n r.lo.c)) 2 (by omega) (.int .i64 (a.add b.neg bits).lo.x)) 3 (by omega) (.bool r.hi.b)) 4 (by omega) (.slice r.hi.A r.hi.n r.hi.c)) 5 (by omega) (.int .i64 (a.add b.neg bits).hi.x))⟩

end Go.Proofs.YtgioppkggpfnoaaDoor.Nu
end
