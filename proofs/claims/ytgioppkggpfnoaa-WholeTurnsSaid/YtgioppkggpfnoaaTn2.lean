/- Texts of the seat, laid together: Long, Div, GcdM, Gcd, BigP, RCheck, RawT, RMake, RAdd, OwnB, OwnR, RSum, RMul, TurnP. -/
import Derived.Test.YtgioppkggpfnoaaTn1
import Derived.Deep.QuietTactic
import Derived.RegionTactic
import Derived.StillTailTactics
import Derived.Deep.RegionHeld3
import Derived.Deep.DeepCutAuto
import Derived.Deep.CutBlock
set_option linter.all false
set_option exponentiation.threshold 20000
section
/- The walk of limbs.long. -/
set_option linter.unusedVariables false
namespace Go.Proofs.Ytgioppkggpfnoaa.Nu
open Go.RowKit Go.Proofs

theorem or_word2 (a b : Nat) (ha : a < 4294967296) (hb : b < 4294967296) : bits .or .u64 ((b : Int) * 4294967296) (a : Int) = ((b * 4294967296 + a : Nat) : Int) := by
  rw [show ((b : Int) * 4294967296) = ((b * 4294967296 : Nat) : Int) by omega, bits_or_u64_nat _ _ (by omega) (by omega)]
  congr 1
  rw [show b * 4294967296 = b <<< 32 by rw [Nat.shiftLeft_eq], ← Nat.shiftLeft_add_eq_or_of_lt (by omega)]
theorem dg_take_lt (ys : List Nat) {n j : Nat} (h : j < n) : dg (ys.take n) j = dg ys j := by simp [dg, h]
/-- How far what is divided by is moved: it keeps its count of digits, the highest is not nought. -/
theorem long_top {y nb : Nat} (hy : (digs y).length = nb) (h2 : 2 ≤ nb) : ∃ s : Nat, (32 : Int) - (Lib.bitLen (dg (digs y) (nb - 1)) : Int) = (s : Int) ∧ s < 32 ∧ y * 2 ^ s < 4294967296 ^ nb ∧ 4294967296 ^ (nb - 1) ≤ y * 2 ^ s ∧ 0 < y ∧ dg (digs y) (nb - 1) < 4294967296 := by
  obtain ⟨hb, hd⟩ := bl_digs hy (by omega)
  have d1 := dg_lt (dig_digs y) (nb - 1)
  have hl := bl_le _ 32 d1
  rw [bl_lib _ hd d1]
  have hp : 1 ≤ bl (dg (digs y) (nb - 1)) := by unfold bl; rw [if_neg hd]; omega
  have hge : 4294967296 ^ (nb - 1) ≤ y := by
    rcases Nat.lt_or_ge y (4294967296 ^ (nb - 1)) with h0 | h0
    · have := digs_len_le.2 h0
      omega
    · exact h0
  have hpos : 0 < 4294967296 ^ (nb - 1) := Nat.pow_pos (by omega)
  have hy0 : 0 < y := by omega
  have hlt : y < 2 ^ bl y := by
    unfold bl
    rw [if_neg (by omega)]
    exact Nat.lt_log2_self
  refine ⟨32 - bl (dg (digs y) (nb - 1)), by omega, by omega, ?_, ?_, hy0, d1⟩
  · have h := Nat.mul_lt_mul_of_pos_right hlt (Nat.two_pow_pos (32 - bl (dg (digs y) (nb - 1))))
    rw [← Nat.pow_add, hb, show 32 * (nb - 1) + bl (dg (digs y) (nb - 1)) + (32 - bl (dg (digs y) (nb - 1))) = 32 * nb by omega, Nat.pow_mul] at h
    exact h
  · exact Nat.le_trans hge (Nat.le_mul_of_pos_right _ (Nat.two_pow_pos _))
/-- The row that is moved: its first digits are the value whole, the highest of them above nought. -/
theorem long_vs {ys : List Nat} {nb V : Nat} (hl : ys.length = nb + 1) (hd : Dig ys) (hv : val ys = V) (h1 : V < 4294967296 ^ nb) (h2 : 4294967296 ^ (nb - 1) ≤ V) (h3 : 2 ≤ nb) : val (ys.take nb) = V ∧ 0 < dg ys (nb - 1) ∧ (ys.take nb).length = nb ∧ Dig (ys.take nb) := by
  have e := val_take_next ys nb
  rw [List.take_of_length_le (by omega), hv] at e
  have hp : 0 < 4294967296 ^ nb := Nat.pow_pos (by omega)
  have z : dg ys nb = 0 := by
    rcases Nat.eq_zero_or_pos (dg ys nb) with h0 | h0
    · exact h0
    · have := Nat.le_mul_of_pos_right (4294967296 ^ nb) h0
      omega
  rw [z, Nat.mul_zero, Nat.add_zero] at e
  refine ⟨e.symm, ?_, by simp; omega, dig_take hd nb⟩
  have e2 := val_take_next ys (nb - 1)
  rw [show nb - 1 + 1 = nb by omega, ← e] at e2
  have l := val_lt (dig_take hd (nb - 1))
  rw [List.length_take, Nat.min_eq_left (by omega)] at l
  rcases Nat.eq_zero_or_pos (dg ys (nb - 1)) with h0 | h0
  · rw [h0] at e2; omega
  · exact h0
theorem LongRel.start {x y s na nb nw : Nat} {ysv us : List Nat} {W w : World} {gv gu gq : Nat} (hb : Below W.heap.size W w) (hv : Blk w gv ysv) (hu : Blk w gu us) (hq : Blk w gq (List.replicate nw 0)) (hnw : nw = na - nb + 1) (hul : us.length = na + 1) (hud : Dig us) (hx : x < 4294967296 ^ na) (huv : val us = x * 2 ^ s) (hy : 4294967296 ^ (nb - 1) ≤ y) (h2 : 2 ≤ nb) (hle : nb ≤ na) :
    LongRel (x * 2 ^ s) (y * 2 ^ s) nb na ysv W gv gu gq nw w := by
  subst hnw
  refine ⟨hb, hv, us, _, 0, hu, hul, hud, hq, by simp, dig_zeros _, by rw [huv]; simp, ?_, by rw [val_zeros]; simp, fun j _ => dg_zeros _ _⟩
  rw [huv]
  have h1 : 4294967296 ^ na ≤ y * 4294967296 ^ (na - nb + 1) := by
    have := Nat.mul_le_mul_right (4294967296 ^ (na - nb + 1)) hy
    rw [← Nat.pow_add, show nb - 1 + (na - nb + 1) = na by omega] at this
    exact this
  have h3 : x < y * 4294967296 ^ (na - nb + 1) := Nat.lt_of_lt_of_le hx h1
  have := Nat.mul_lt_mul_of_pos_right h3 (Nat.two_pow_pos s)
  rw [Nat.mul_right_comm] at this
  exact this
set_option maxHeartbeats 4000000 in
set_option maxRecDepth 100000 in
theorem long_any (w : World) (A B : Option Addr) (na ca nb cb x y : Nat) (hx : RN w A na x) (hy : RN w B nb y) (hca : na ≤ ca) (hcb : nb ≤ cb) (hn : na ≤ 512) (h2 : 2 ≤ nb) (hle : nb ≤ na) :
    Calls Try.prog 42 #[.slice A na ca, .slice B nb cb] w fun e w' => ∃ A1 n1 c1 A2 n2 c2, n1 ≤ c1 ∧ n2 ≤ c2 ∧ e = .returned (.tuple #[.slice A1 n1 c1, .slice A2 n2 c2]) ∧ RN w' A1 n1 (x / y) ∧ RN w' A2 n2 (x % y) ∧ Below w.heap.size w w' := by
  have HX := Lib.hid hx
  have HY := Lib.hid hy
  have HNX := Lib.hid hx.1
  have HNY := Lib.hid hy.1
  obtain ⟨s, hs, hs32, hV1, hV2, hy0, hd⟩ := long_top hy.1 h2
  obtain ⟨b2, o2, rfl, hl2, hc2⟩ := hy.2.2.2 (by omega)
  have hx1 := hc2 (nb - 1) (by omega)
  have hq : ((nb : Int) - 1).toNat = nb - 1 := by omega
  have q1 : (nb : Int) - 1 < (nb : Int) := by omega
  have q2 : 0 ≤ (nb : Int) - 1 := by omega
  obtain ⟨d, hdd⟩ : ∃ d, d = dg (digs y) (nb - 1) := ⟨_, rfl⟩
  rw [← hdd] at hx1 hs hd
  have HS := Lib.hid hs
  have HS32 := Lib.hid hs32
  have HV1 := Lib.hid hV1
  have HV2 := Lib.hid hV2
  have HY0 := Lib.hid hy0
  have HC := Lib.hid (Try.bits_LeadingZeros32 (d : Int) w (by omega) (by omega))
  clear hx hy hc2 hdd hs hs32 hV1 hV2 hy0 hd hl2
  go_enter Try.func42, Try.ntmps42
  go_wp2_with fail
  refine HC.out.mono ?_
  rintro e w' ⟨rfl, rfl⟩
  rw [Int.toNat_natCast, HS.out]
  clear HC hx1 hq q1 q2
  go_wp2_with fail
  refine (moved_any _ _ nb cb s _ HY.out hcb (by omega) HS32.out).mono ?_
  rintro e w1 ⟨⟨ysv, rfl, hyb, hyl, hyd, hyv⟩, hb1⟩
  rw [val_digs] at hyv
  have B1 := Lib.hid hb1
  have YB := Lib.hid hyb
  have YL := Lib.hid hyl
  have YD := Lib.hid hyd
  have YV := Lib.hid hyv
  have hz1 := hb1.size
  clear hyb hyl hyd hyv hb1
  have q1 : (nb : Int) ≤ (nb : Int) + 1 := by omega
  go_wp2_with fail
  clear q1
  refine (moved_any _ _ na ca s _ (HX.out.below B1.out) hca (by omega) HS32.out).mono ?_
  rintro e w2 ⟨⟨us0, rfl, hub, hul, hud, huv⟩, hb2⟩
  rw [val_digs] at huv
  obtain ⟨nw, hnw⟩ : ∃ nw, nw = na - nb + 1 := ⟨_, rfl⟩
  have EN := Lib.hid (show (na : Int) - (nb : Int) + 1 = (nw : Int) by omega)
  have hnw2 : nw + nb = na + 1 := by omega
  have hz2 := hb2.size
  have hg1 := YB.out.lt
  have hg2 := hub.lt
  have H0 := Lib.hid (LongRel.start (W := w') (w := w2.alloc (.cells (mk0 nw) 64)) (gq := w2.heap.size) (nb := nb) (y := y) ((B1.out.trans (hb2.mono hz1)).alloc (Nat.le_trans hz1 hz2) _) ((YB.out.below hb2).alloc _) (hub.alloc _) (Blk.made w2 nw) hnw hul hud (by rw [← digs_len_le, HNX.out]; exact Nat.le_refl _) huv (by
    rcases Nat.lt_or_ge y (4294967296 ^ (nb - 1)) with h0 | h0
    · have := digs_len_le.2 h0
      rw [HNY.out] at this
      omega
    · exact h0) h2 hle)
  have hgq : w1.heap.size ≠ w2.heap.size := by omega
  have hgv : w'.heap.size ≠ w2.heap.size := by omega
  have hgu : w'.heap.size ≠ w1.heap.size := by omega
  have hgw : w'.heap.size ≤ w2.heap.size := by omega
  clear hub hul hud huv hb2 hnw hg1 hg2
  go_wp2_with fail
  rw [EN.out, make_u32 nw (by omega)]
  simp only [Result.andThen]
  rw [Oper.upon_value]
  generalize w2.alloc (.cells (mk0 nw) 64) = w3 at *
  go_wp2_with fail
  go_loopw [11] (fun t wr => ∃ kk : Nat, t = .int .i64 ((kk : Int) - 1) ∧ kk ≤ nw ∧ Hid (LongRel (x * 2 ^ s) (y * 2 ^ s) nb na ysv w' w'.heap.size w1.heap.size w2.heap.size kk wr)) (fun t _ => (intOf t + 1).toNat)
  case atStart => exact ⟨nw, rfl, Nat.le_refl _, H0⟩
  case round =>
    clear H0
    obtain ⟨kk, rfl, hkk, Hr⟩ := hrel
    rcases kk with _ | k
    · obtain ⟨bel, vb, us, qs, Q, hu, hul, hud, hqb, hql, hqd, hX, hs, hqv, hz⟩ := Hr.out
      rw [Nat.pow_zero, Nat.mul_one] at hX hs hqv
      have RU : RL wr (some ⟨w1.heap.size, 0, none⟩) (na + 1) us := by
        have := hu.read hud (by omega)
        rwa [hul] at this
      have RQ : RL wr (some ⟨w2.heap.size, 0, none⟩) nw qs := by
        have := hqb.read hqd (by omega)
        rwa [show qs.length = nw by omega] at this
      obtain ⟨d1, d2⟩ := div_done (x := x) (y := y) (s := s) rfl rfl HY0.out hX hs
      have hfit : (digs (val us)).length ≤ nb := digs_len_le.2 (Nat.lt_trans hs HV1.out)
      have HU := Lib.hid RU
      have HQ := Lib.hid RQ
      have D1 := Lib.hid d1
      have D2 := Lib.hid d2
      have HB := Lib.hid bel
      have HF := Lib.hid hfit
      have HQV := Lib.hid hqv
      have m1 : (((0 : Nat) : Int) - 1) = -1 := rfl
      clear RU RQ d1 d2 bel hfit hqv vb hu hul hud hqb hql hqd hX hs hz Hr
      rw [m1]
      clear m1
      go_wp2_with fail
      refine (trim_any _ _ (na + 1) (na + 1) us HU.out (Nat.le_refl _)).mono ?_
      rintro e w4 ⟨m, rfl, hm, rfl⟩
      have hm2 : m ≤ 512 := by
        have h1 := hm.1
        have h2 := HF.out
        omega
      have HM := Lib.hid hm
      clear hm
      go_wp2_with fail
      refine (right_any _ _ m m (val us) s HM.out (Nat.le_refl _) hm2 (by have := HS32.out; omega)).mono ?_
      rintro e w5 ⟨A5, n5, c5, hkc, rfl, hrn, hb⟩
      rw [D2.out] at hrn
      have HRN := Lib.hid hrn
      have HB5 := Lib.hid hb
      clear hrn hb
      go_wp2_with fail
      refine (trim_any _ _ nw nw qs (HQ.out.below HB5.out) (Nat.le_refl _)).mono ?_
      rintro e w6 ⟨m6, rfl, hm6, rfl⟩
      rw [HQV.out, D1.out] at hm6
      have HM6 := Lib.hid hm6
      clear hm6
      go_wp2
      go_ret2
      exact ⟨_, m6, m6, A5, n5, c5, Nat.le_refl _, hkc, rfl, HM6.out, HRN.out, HB.out.trans (HB5.out.mono HB.out.size)⟩
    · obtain ⟨bel, vb, us, qs, Q, hu, hul, hud, hqb, hql, hqd, hX, hs, hqv, hz⟩ := Hr.out
      have eK : (((k + 1 : Nat) : Int) - 1) = (k : Int) := by omega
      rw [eK]
      clear eK Hr
      obtain ⟨hcut, hpl, hml⟩ := cut_row us k (nb + 1) (by omega)
      obtain ⟨dp, dm, dq⟩ := dig_cut hud k (nb + 1)
      have c0 := hu.cell (k + nb) (by omega)
      have c1 := hu.cell (k + nb - 1) (by omega)
      have c2 := hu.cell (k + nb - 2) (by omega)
      have v1 := vb.cell (nb - 1) (by rw [YL.out]; omega)
      have v2 := vb.cell (nb - 2) (by rw [YL.out]; omega)
      generalize us.take k = pre at *
      generalize (us.drop k).take (nb + 1) = mid at *
      generalize us.drop (k + (nb + 1)) = post at *
      have g0 : dg us (k + nb) = dg mid nb := by rw [hcut, ← hpl]; exact dg_mid _ _ _ _ (by omega)
      have g1 : dg us (k + nb - 1) = dg mid (nb - 1) := by rw [hcut, ← hpl, show pre.length + nb - 1 = pre.length + (nb - 1) by omega]; exact dg_mid _ _ _ _ (by omega)
      have g2 : dg us (k + nb - 2) = dg mid (nb - 2) := by rw [hcut, ← hpl, show pre.length + nb - 2 = pre.length + (nb - 2) by omega]; exact dg_mid _ _ _ _ (by omega)
      rw [g0] at c0
      rw [g1] at c1
      rw [g2] at c2
      obtain ⟨t1, t2, t3, t4⟩ := long_vs YL.out YD.out YV.out HV1.out HV2.out h2
      have hVp : 0 < y * 2 ^ s := Nat.mul_pos HY0.out (Nat.two_pow_pos s)
      subst hcut
      obtain ⟨pz, pe, pl⟩ := cut_val hpl hml HV1.out hs
      have dv1 : dg ysv (nb - 1) = dg (ysv.take nb) (nb - 1) := (dg_take_lt _ (by omega)).symm
      have dv2 : dg ysv (nb - 2) = dg (ysv.take nb) (nb - 2) := (dg_take_lt _ (by omega)).symm
      have HD := div_win hml t3 h2 dm t4 (by rw [← dv1]; exact t2) (by rw [t1]; exact pl)
      rw [← dv1, ← dv2, t1] at HD
      have dv1B := dg_lt YD.out (nb - 1)
      have dv2B := dg_lt YD.out (nb - 2)
      obtain ⟨u0, hu0⟩ : ∃ u0, dg mid nb = u0 := ⟨_, rfl⟩
      obtain ⟨u1, hu1⟩ : ∃ u1, dg mid (nb - 1) = u1 := ⟨_, rfl⟩
      obtain ⟨u2, hu2⟩ : ∃ u2, dg mid (nb - 2) = u2 := ⟨_, rfl⟩
      obtain ⟨e1, he1⟩ : ∃ e1, dg ysv (nb - 1) = e1 := ⟨_, rfl⟩
      obtain ⟨e2, he2⟩ : ∃ e2, dg ysv (nb - 2) = e2 := ⟨_, rfl⟩
      have b0 := dg_lt dm nb
      rw [hu0] at c0 HD b0
      rw [hu1] at c1 HD
      rw [hu2] at c2 HD
      rw [he1] at v1 HD dv1B
      rw [he2] at v2 HD dv2B
      have b1 := HD.u1
      have b2' := HD.u2
      have HD' := Lib.hid HD
      have HT := Lib.hid HD.top
      have hv1 := HD.v1
      have HX1 := Lib.hid hX
      have HS1 := Lib.hid hs
      have HQ1 := Lib.hid hqv
      have HZ1 := Lib.hid hz
      have HP1 := Lib.hid t1
      have HU := Lib.hid hu
      have HQ2 := Lib.hid hqb
      have HB := Lib.hid bel
      have HVB := Lib.hid vb
      have HVP := Lib.hid hVp
      have HUL := Lib.hid hul
      have HUD := Lib.hid hud
      have HQL := Lib.hid hql
      have HQD := Lib.hid hqd
      have HPL := Lib.hid hpl
      have HML := Lib.hid hml
      have HDM := Lib.hid dm
      have HT4 := Lib.hid t4
      have HT3 := Lib.hid t3
      clear HD hX hs hqv hz t1 hu hqb vb hVp hul hud hql hqd hpl hml dm dp dq t2 t3 t4 g0 g1 g2 dv1 dv2 pz pe pl hu0 hu1 hu2 he1 he2 bel
      have q3 : (k : Int) + (nb : Int) < (na : Int) + 1 := by omega
      have q4 : (k : Int) + (nb : Int) - 1 < (na : Int) + 1 := by omega
      have q5 : 0 ≤ (k : Int) + (nb : Int) - 1 := by omega
      have q6 : ((k : Int) + (nb : Int) - 1).toNat = k + nb - 1 := by omega
      have p2 : IntKind.i64.wrap ((k : Int) + (nb : Int)) = (k : Int) + (nb : Int) := by rw [IntKind.wrap_i64]; omega
      have p3 : IntKind.i64.wrap ((k : Int) + (nb : Int) - 1) = (k : Int) + (nb : Int) - 1 := by rw [IntKind.wrap_i64]; omega
      have q7 : ((nb : Int) - 1).toNat = nb - 1 := by omega
      have q8 : (nb : Int) - 1 < (nb : Int) := by omega
      have q9 : 0 ≤ (nb : Int) - 1 := by omega
      have p1 : bits .or .u64 ((u0 : Int) * 4294967296) (u1 : Int) = ((u0 * 4294967296 + u1 : Nat) : Int) := or_word2 _ _ b1 b0
      go_wp2_with fail
      go_quiet (fail)
      go_wp2_with fail
      obtain ⟨h, hh⟩ : ∃ h, h = u0 * 4294967296 + u1 := ⟨_, rfl⟩
      have E9 : (u0 : Int) * 4294967296 + (u1 : Int) = (h : Int) := by omega
      have hhB : h < 18446744073709551616 := by omega
      rw [E9]
      have HH := Lib.hid hh
      have HG : Guess 4294967296 (val mid) (y * 2 ^ s) h e1 (h / e1) (h % e1) := ⟨by rw [Nat.mul_comm]; exact Nat.div_add_mod h e1, by rw [hh]; exact HD'.out.first⟩
      have HG0 := Lib.hid HG
      have hr0 : h % e1 < 4294967296 := Nat.lt_trans (Nat.mod_lt _ hv1) dv1B
      have hg0 : h / e1 < 18446744073709551616 := Nat.lt_of_le_of_lt (Nat.div_le_self _ _) hhB
      clear E9 p1 c0 c1 HG hh
      have z1 : ¬ (e1 : Int) = 0 := by omega
      have z2 : ((e1 : Int) == 0) = false := by rw [beq_eq_false_iff_ne]; exact z1
      have z3 : 0 < (e1 : Int) := by omega
      go_quiet (fail)
      have E7 : (h : Int) / (e1 : Int) = ((h / e1 : Nat) : Int) := by simp
      have E8 : (h : Int) % (e1 : Int) = ((h % e1 : Nat) : Int) := by simp
      rw [E7, E8]
      clear E7 E8
      generalize h / e1 = g0 at *
      generalize h % e1 = r0 at *
      have wg : IntKind.u64.wrap (g0 : Int) = (g0 : Int) := by rw [wrap_u64]; omega
      have wr1 : IntKind.u64.wrap (r0 : Int) = (r0 : Int) := by rw [wrap_u64]; omega
      go_wp2_with fail
      try rw [wg]
      try rw [wr1]
      clear wg wr1
      go_loopw [13, 14] (fun a b wi => ∃ G R : Nat, a = .int .u64 G ∧ b = .int .u64 R ∧ R < 4294967296 ∧ G < 18446744073709551616 ∧ Hid (Guess 4294967296 (val mid) (y * 2 ^ s) h e1 G R) ∧ ∃ m, wi = wr.drewN m) (fun a _ _ => (intOf a).toNat)
      case atStart => exact ⟨g0, r0, rfl, rfl, hr0, hg0, HG0, _, World.drewN_drewN _ _ _⟩
      case round =>
        clear HG0 hr0 hg0
        obtain ⟨G, R, rfl, rfl, hR, hG, HG, m, rfl⟩ := hrel
        have x1 : ((nb : Int) - 2).toNat = nb - 2 := by omega
        have x2 : (nb : Int) - 2 < (nb : Int) := by omega
        have x3 : 0 ≤ (nb : Int) - 2 := by omega
        have x4 : IntKind.i64.wrap ((nb : Int) - 2) = (nb : Int) - 2 := by rw [IntKind.wrap_i64]; omega
        have x5 : IntKind.i64.wrap ((k : Int) + (nb : Int) - 2) = (k : Int) + (nb : Int) - 2 := by rw [IntKind.wrap_i64]; omega
        have x6 : (k : Int) + (nb : Int) - 2 < (na : Int) + 1 := by omega
        have x7 : 0 ≤ (k : Int) + (nb : Int) - 2 := by omega
        have x8 : ((k : Int) + (nb : Int) - 2).toNat = k + nb - 2 := by omega
        have y1 : IntKind.u64.wrap ((R : Int) + (e1 : Int)) = (R : Int) + (e1 : Int) := by rw [wrap_u64]; omega
        by_cases hB : 4294967296 ≤ G
        · have n1 : ((G : Int) / 4294967296 != 0) = true := by rw [bne_iff_ne]; omega
          have n2 : ¬ (G : Int) / 4294967296 = 0 := by omega
          have y2 : IntKind.u64.wrap ((G : Int) - 1) = ((G - 1 : Nat) : Int) := by rw [wrap_u64]; omega
          have HL := Lib.hid (HG.out.less (HG.out.big HD'.out HH.out (.inl hB)))
          by_cases hRB : 4294967296 ≤ R + e1
          · have n3 : (((R : Int) + (e1 : Int)) / 4294967296 != 0) = true := by rw [bne_iff_ne]; omega
            have n4 : ¬ ((R : Int) + (e1 : Int)) / 4294967296 = 0 := by omega
            obtain ⟨hgB, hgl⟩ := HL.out.stop HD'.out HH.out hRB
            have HF := Lib.hid (HL.out.done HD'.out HH.out hgB hgl)
            generalize G - 1 = gd at *
            go_wp2_with fail
            go_quiet (fail)
            go_wp2_with fail
            rw [show k + nb + 1 - k = nb + 1 by omega]
            have r0 : RL (wr.drewN (m + nq)) (some ⟨w'.heap.size, 0, none⟩) nb (ysv.take nb) := by
              have := (HVB.out).read YD.out (by rw [YL.out]; omega)
              exact this.take nb (by rw [YL.out]; omega)
            have HR0 := Lib.hid r0
            clear r0
            refine (less_any (wr.drewN (m + nq)) (some ⟨w'.heap.size, 0, none⟩) nb (nb + 1) (na + 1 - k) w1.heap.size gd pre mid post (ysv.take nb) HU.out HML.out HDM.out HR0.out (by intro b o s hh; cases hh; exact hgu) hgB (by omega) k HPL.out).mono ?_
            rintro e w4 ⟨os, ow, rfl, hob, hol, hod, hov, how, hon⟩
            rw [HP1.out] at hov
            have BE0 : Below w'.heap.size w' w4 := Below.only (below_drewN HB.out _) hz1 hon
            have VB0 : Blk w4 w'.heap.size ysv := Blk.only (w := wr.drewN (m + nq)) HVB.out hgu hon
            have QB0 : Blk w4 w2.heap.size qs := Blk.only (w := wr.drewN (m + nq)) HQ2.out (fun h => hgq h.symm) hon
            have z4 : (k : Int) < (nw : Int) := by omega
            rcases Nat.eq_zero_or_pos ow with h0 | h0
            · subst h0
              rw [Nat.zero_mul, Nat.add_zero] at hov
              obtain ⟨k1, k2⟩ := less_zero (P := 0) HVP.out HF.out.1 hov
              have c6 := QB0.cell k (by rw [HQL.out]; omega)
              have f6 := QB0.free k
              have BE := Lib.hid BE0
              have VB4 := Lib.hid VB0
              have QB4 := Lib.hid QB0
              have OB := Lib.hid hob
              have OL := Lib.hid hol
              have OD := Lib.hid hod
              have QE := Lib.hid k1
              have OE := Lib.hid k2
              clear BE0 VB0 QB0 hob hol hod hov k1 k2 how hon
              have HS := Lib.hid (LongRel.step (w := wr) (w' := w4) (x := ((gd : Nat) : Int)) (q := gd) (k := k) hz1 hgw hgv hgq HVP.out HV1.out BE.out VB4.out OB.out QB4.out HPL.out HML.out OL.out HUL.out HUD.out OD.out HQL.out HQD.out (by omega) HX1.out HS1.out HQ1.out HZ1.out QE.out OE.out rfl)
              clear BE VB4 OB QB4 OL OD QE OE
              go_wp2
              go_roundw
              case rel => exact ⟨k, rfl, by omega, HS⟩
              case measure => simp only [intOf]; omega
            · obtain rfl : ow = 1 := by omega
              rw [Nat.one_mul] at hov
              have HOV := Lib.hid hov
              have HON := Lib.hid hon
              have OB1 := Lib.hid hob
              have OL1 := Lib.hid hol
              have OD1 := Lib.hid hod
              have BE1 := Lib.hid BE0
              have VB1 := Lib.hid VB0
              have QB1 := Lib.hid QB0
              have hgp : 1 ≤ gd := by
                rcases Nat.eq_zero_or_pos gd with h1 | h1
                · have := val_lt hod
                  rw [hol] at this
                  rw [h1, Nat.zero_mul] at hov
                  omega
                · exact h1
              have y3 : IntKind.u64.wrap ((gd : Int) - 1) = ((gd - 1 : Nat) : Int) := by rw [wrap_u64]; omega
              clear hov hon hob hol hod BE0 VB0 QB0 how h0
              go_wp2_with fail
              rw [show k + nb + 1 - k = nb + 1 by omega]
              have r0 : RL w4 (some ⟨w'.heap.size, 0, none⟩) nb (ysv.take nb) := by
                have := (VB1.out).read YD.out (by rw [YL.out]; omega)
                exact this.take nb (by rw [YL.out]; omega)
              have HR1 := Lib.hid r0
              clear r0
              refine (back_any _ (some ⟨w'.heap.size, 0, none⟩) nb (nb + 1) (na + 1 - k) w1.heap.size pre os post (ysv.take nb) OB1.out OL1.out OD1.out HR1.out (by intro b o s hh; cases hh; exact hgu) (by omega) k HPL.out).mono ?_
              rintro e w5 ⟨os2, ow2, rfl, hob, hol, hod, hov, hon⟩
              rw [HP1.out] at hov
              have l1 := val_lt OD1.out
              have l2 := val_lt hod
              rw [OL1.out] at l1
              rw [hol] at l2
              obtain ⟨k1, k2⟩ := less_one (P := 4294967296 ^ (nb + 1)) HVP.out HF.out.2 (Nat.lt_of_lt_of_le HV1.out (Nat.pow_le_pow_right (by omega) (by omega))) l1 l2 HOV.out hov
              have QB0 : Blk w5 w2.heap.size qs := Blk.only QB1.out (fun h => hgq h.symm) hon
              have c6 := QB0.cell k (by rw [HQL.out]; omega)
              have f6 := QB0.free k
              have BE := Lib.hid (Below.only BE1.out hz1 hon)
              have VB4 := Lib.hid (Blk.only VB1.out hgu hon)
              have QB4 := Lib.hid QB0
              have OB := Lib.hid hob
              have OL := Lib.hid hol
              have OD := Lib.hid hod
              have QE := Lib.hid (show gd - 1 = val mid / (y * 2 ^ s) by omega)
              have OE := Lib.hid k2
              clear QB0 hob hol hod hov k1 k2 hon l1 l2
              have HS := Lib.hid (LongRel.step (w := wr) (w' := w5) (x := ((gd - 1 : Nat) : Int)) (q := gd - 1) (k := k) hz1 hgw hgv hgq HVP.out HV1.out BE.out VB4.out OB.out QB4.out HPL.out HML.out OL.out HUL.out HUD.out OD.out HQL.out HQD.out (by omega) HX1.out HS1.out HQ1.out HZ1.out QE.out OE.out rfl)
              clear BE VB4 OB QB4 OL OD QE OE
              go_wp2
              go_roundw
              case rel => exact ⟨k, rfl, by omega, HS⟩
              case measure => simp only [intOf]; omega
          · have n3 : (((R : Int) + (e1 : Int)) / 4294967296 != 0) = false := by rw [bne_eq_false_iff_eq]; omega
            have n4 : ((R : Int) + (e1 : Int)) / 4294967296 = 0 := by omega
            go_wp2_with fail
            go_quiet (fail)
            go_wp2_with fail
            go_roundw
            case rel => exact ⟨G - 1, R + e1, rfl, by go_num, by omega, by omega, HL, _, rfl⟩
            case measure => simp only [intOf]; omega
        · have n1 : ((G : Int) / 4294967296 != 0) = false := by rw [bne_eq_false_iff_eq]; omega
          have n2 : (G : Int) / 4294967296 = 0 := by omega
          obtain ⟨t, ht⟩ : ∃ t, t = G * e2 := ⟨_, rfl⟩
          have y4 : (G : Int) * (e2 : Int) = (t : Int) := by rw [ht]; simp
          have y5 : t ≤ 4294967295 * 4294967295 := by rw [ht]; exact Nat.mul_le_mul (by omega) (by omega)
          have y6 : IntKind.u64.wrap (t : Int) = (t : Int) := by rw [wrap_u64]; omega
          have y7 : bits .or .u64 ((R : Int) * 4294967296) (u2 : Int) = ((R * 4294967296 + u2 : Nat) : Int) := or_word2 _ _ b2' hR
          by_cases hT : R * 4294967296 + u2 < t
          · have n5 : (R : Int) * 4294967296 + (u2 : Int) < (t : Int) := by omega
            have hG0 : 0 < G := by
              rcases Nat.eq_zero_or_pos G with h0 | h0
              · rw [h0, Nat.zero_mul] at ht; omega
              · exact h0
            have y2 : IntKind.u64.wrap ((G : Int) - 1) = ((G - 1 : Nat) : Int) := by rw [wrap_u64]; omega
            have HL := Lib.hid (HG.out.less (HG.out.big HD'.out HH.out (.inr (by rw [← ht]; exact hT))))
            clear ht
            by_cases hRB : 4294967296 ≤ R + e1
            · have n3 : (((R : Int) + (e1 : Int)) / 4294967296 != 0) = true := by rw [bne_iff_ne]; omega
              have n4 : ¬ ((R : Int) + (e1 : Int)) / 4294967296 = 0 := by omega
              obtain ⟨hgB, hgl⟩ := HL.out.stop HD'.out HH.out hRB
              have HF := Lib.hid (HL.out.done HD'.out HH.out hgB hgl)
              generalize G - 1 = gd at *
              go_wp2_with fail
              go_quiet (fail)
              go_wp2_with fail
              rw [show k + nb + 1 - k = nb + 1 by omega]
              have r0 : RL (wr.drewN (m + nq)) (some ⟨w'.heap.size, 0, none⟩) nb (ysv.take nb) := by
                have := (HVB.out).read YD.out (by rw [YL.out]; omega)
                exact this.take nb (by rw [YL.out]; omega)
              have HR0 := Lib.hid r0
              clear r0
              refine (less_any (wr.drewN (m + nq)) (some ⟨w'.heap.size, 0, none⟩) nb (nb + 1) (na + 1 - k) w1.heap.size gd pre mid post (ysv.take nb) HU.out HML.out HDM.out HR0.out (by intro b o s hh; cases hh; exact hgu) hgB (by omega) k HPL.out).mono ?_
              rintro e w4 ⟨os, ow, rfl, hob, hol, hod, hov, how, hon⟩
              rw [HP1.out] at hov
              have BE0 : Below w'.heap.size w' w4 := Below.only (below_drewN HB.out _) hz1 hon
              have VB0 : Blk w4 w'.heap.size ysv := Blk.only (w := wr.drewN (m + nq)) HVB.out hgu hon
              have QB0 : Blk w4 w2.heap.size qs := Blk.only (w := wr.drewN (m + nq)) HQ2.out (fun h => hgq h.symm) hon
              have z4 : (k : Int) < (nw : Int) := by omega
              rcases Nat.eq_zero_or_pos ow with h0 | h0
              · subst h0
                rw [Nat.zero_mul, Nat.add_zero] at hov
                obtain ⟨k1, k2⟩ := less_zero (P := 0) HVP.out HF.out.1 hov
                have c6 := QB0.cell k (by rw [HQL.out]; omega)
                have f6 := QB0.free k
                have BE := Lib.hid BE0
                have VB4 := Lib.hid VB0
                have QB4 := Lib.hid QB0
                have OB := Lib.hid hob
                have OL := Lib.hid hol
                have OD := Lib.hid hod
                have QE := Lib.hid k1
                have OE := Lib.hid k2
                clear BE0 VB0 QB0 hob hol hod hov k1 k2 how hon
                have HS := Lib.hid (LongRel.step (w := wr) (w' := w4) (x := ((gd : Nat) : Int)) (q := gd) (k := k) hz1 hgw hgv hgq HVP.out HV1.out BE.out VB4.out OB.out QB4.out HPL.out HML.out OL.out HUL.out HUD.out OD.out HQL.out HQD.out (by omega) HX1.out HS1.out HQ1.out HZ1.out QE.out OE.out rfl)
                clear BE VB4 OB QB4 OL OD QE OE
                go_wp2
                go_roundw
                case rel => exact ⟨k, rfl, by omega, HS⟩
                case measure => simp only [intOf]; omega
              · obtain rfl : ow = 1 := by omega
                rw [Nat.one_mul] at hov
                have HOV := Lib.hid hov
                have HON := Lib.hid hon
                have OB1 := Lib.hid hob
                have OL1 := Lib.hid hol
                have OD1 := Lib.hid hod
                have BE1 := Lib.hid BE0
                have VB1 := Lib.hid VB0
                have QB1 := Lib.hid QB0
                have hgp : 1 ≤ gd := by
                  rcases Nat.eq_zero_or_pos gd with h1 | h1
                  · have := val_lt hod
                    rw [hol] at this
                    rw [h1, Nat.zero_mul] at hov
                    omega
                  · exact h1
                have y3 : IntKind.u64.wrap ((gd : Int) - 1) = ((gd - 1 : Nat) : Int) := by rw [wrap_u64]; omega
                clear hov hon hob hol hod BE0 VB0 QB0 how h0
                go_wp2_with fail
                rw [show k + nb + 1 - k = nb + 1 by omega]
                have r0 : RL w4 (some ⟨w'.heap.size, 0, none⟩) nb (ysv.take nb) := by
                  have := (VB1.out).read YD.out (by rw [YL.out]; omega)
                  exact this.take nb (by rw [YL.out]; omega)
                have HR1 := Lib.hid r0
                clear r0
                refine (back_any _ (some ⟨w'.heap.size, 0, none⟩) nb (nb + 1) (na + 1 - k) w1.heap.size pre os post (ysv.take nb) OB1.out OL1.out OD1.out HR1.out (by intro b o s hh; cases hh; exact hgu) (by omega) k HPL.out).mono ?_
                rintro e w5 ⟨os2, ow2, rfl, hob, hol, hod, hov, hon⟩
                rw [HP1.out] at hov
                have l1 := val_lt OD1.out
                have l2 := val_lt hod
                rw [OL1.out] at l1
                rw [hol] at l2
                obtain ⟨k1, k2⟩ := less_one (P := 4294967296 ^ (nb + 1)) HVP.out HF.out.2 (Nat.lt_of_lt_of_le HV1.out (Nat.pow_le_pow_right (by omega) (by omega))) l1 l2 HOV.out hov
                have QB0 : Blk w5 w2.heap.size qs := Blk.only QB1.out (fun h => hgq h.symm) hon
                have c6 := QB0.cell k (by rw [HQL.out]; omega)
                have f6 := QB0.free k
                have BE := Lib.hid (Below.only BE1.out hz1 hon)
                have VB4 := Lib.hid (Blk.only VB1.out hgu hon)
                have QB4 := Lib.hid QB0
                have OB := Lib.hid hob
                have OL := Lib.hid hol
                have OD := Lib.hid hod
                have QE := Lib.hid (show gd - 1 = val mid / (y * 2 ^ s) by omega)
                have OE := Lib.hid k2
                clear QB0 hob hol hod hov k1 k2 hon l1 l2
                have HS := Lib.hid (LongRel.step (w := wr) (w' := w5) (x := ((gd - 1 : Nat) : Int)) (q := gd - 1) (k := k) hz1 hgw hgv hgq HVP.out HV1.out BE.out VB4.out OB.out QB4.out HPL.out HML.out OL.out HUL.out HUD.out OD.out HQL.out HQD.out (by omega) HX1.out HS1.out HQ1.out HZ1.out QE.out OE.out rfl)
                clear BE VB4 OB QB4 OL OD QE OE
                go_wp2
                go_roundw
                case rel => exact ⟨k, rfl, by omega, HS⟩
                case measure => simp only [intOf]; omega
            · have n3 : (((R : Int) + (e1 : Int)) / 4294967296 != 0) = false := by rw [bne_eq_false_iff_eq]; omega
              have n4 : ((R : Int) + (e1 : Int)) / 4294967296 = 0 := by omega
              go_wp2_with fail
              go_quiet (fail)
              go_wp2_with fail
              go_roundw
              case rel => exact ⟨G - 1, R + e1, rfl, by go_num, by omega, by omega, HL, _, rfl⟩
              case measure => simp only [intOf]; omega
          · have n5 : ¬ (R : Int) * 4294967296 + (u2 : Int) < (t : Int) := by omega
            have HF := Lib.hid (HG.out.done HD'.out HH.out (by omega) (by rw [← ht]; omega))
            have hgB : G < 4294967296 := by omega
            clear ht HG hB hG
            go_wp2_with fail
            go_quiet (fail)
            go_wp2_with fail
            generalize G = gd at *
            rw [show k + nb + 1 - k = nb + 1 by omega]
            have r0 : RL (wr.drewN (m + nq)) (some ⟨w'.heap.size, 0, none⟩) nb (ysv.take nb) := by
              have := (HVB.out).read YD.out (by rw [YL.out]; omega)
              exact this.take nb (by rw [YL.out]; omega)
            have HR0 := Lib.hid r0
            clear r0
            refine (less_any (wr.drewN (m + nq)) (some ⟨w'.heap.size, 0, none⟩) nb (nb + 1) (na + 1 - k) w1.heap.size gd pre mid post (ysv.take nb) HU.out HML.out HDM.out HR0.out (by intro b o s hh; cases hh; exact hgu) hgB (by omega) k HPL.out).mono ?_
            rintro e w4 ⟨os, ow, rfl, hob, hol, hod, hov, how, hon⟩
            rw [HP1.out] at hov
            have BE0 : Below w'.heap.size w' w4 := Below.only (below_drewN HB.out _) hz1 hon
            have VB0 : Blk w4 w'.heap.size ysv := Blk.only (w := wr.drewN (m + nq)) HVB.out hgu hon
            have QB0 : Blk w4 w2.heap.size qs := Blk.only (w := wr.drewN (m + nq)) HQ2.out (fun h => hgq h.symm) hon
            have z4 : (k : Int) < (nw : Int) := by omega
            rcases Nat.eq_zero_or_pos ow with h0 | h0
            · subst h0
              rw [Nat.zero_mul, Nat.add_zero] at hov
              obtain ⟨k1, k2⟩ := less_zero (P := 0) HVP.out HF.out.1 hov
              have c6 := QB0.cell k (by rw [HQL.out]; omega)
              have f6 := QB0.free k
              have BE := Lib.hid BE0
              have VB4 := Lib.hid VB0
              have QB4 := Lib.hid QB0
              have OB := Lib.hid hob
              have OL := Lib.hid hol
              have OD := Lib.hid hod
              have QE := Lib.hid k1
              have OE := Lib.hid k2
              clear BE0 VB0 QB0 hob hol hod hov k1 k2 how hon
              have HS := Lib.hid (LongRel.step (w := wr) (w' := w4) (x := ((gd : Nat) : Int)) (q := gd) (k := k) hz1 hgw hgv hgq HVP.out HV1.out BE.out VB4.out OB.out QB4.out HPL.out HML.out OL.out HUL.out HUD.out OD.out HQL.out HQD.out (by omega) HX1.out HS1.out HQ1.out HZ1.out QE.out OE.out rfl)
              clear BE VB4 OB QB4 OL OD QE OE
              go_wp2
              go_roundw
              case rel => exact ⟨k, rfl, by omega, HS⟩
              case measure => simp only [intOf]; omega
            · obtain rfl : ow = 1 := by omega
              rw [Nat.one_mul] at hov
              have HOV := Lib.hid hov
              have HON := Lib.hid hon
              have OB1 := Lib.hid hob
              have OL1 := Lib.hid hol
              have OD1 := Lib.hid hod
              have BE1 := Lib.hid BE0
              have VB1 := Lib.hid VB0
              have QB1 := Lib.hid QB0
              have hgp : 1 ≤ gd := by
                rcases Nat.eq_zero_or_pos gd with h1 | h1
                · have := val_lt hod
                  rw [hol] at this
                  rw [h1, Nat.zero_mul] at hov
                  omega
                · exact h1
              have y3 : IntKind.u64.wrap ((gd : Int) - 1) = ((gd - 1 : Nat) : Int) := by rw [wrap_u64]; omega
              clear hov hon hob hol hod BE0 VB0 QB0 how h0
              go_wp2_with fail
              rw [show k + nb + 1 - k = nb + 1 by omega]
              have r0 : RL w4 (some ⟨w'.heap.size, 0, none⟩) nb (ysv.take nb) := by
                have := (VB1.out).read YD.out (by rw [YL.out]; omega)
                exact this.take nb (by rw [YL.out]; omega)
              have HR1 := Lib.hid r0
              clear r0
              refine (back_any _ (some ⟨w'.heap.size, 0, none⟩) nb (nb + 1) (na + 1 - k) w1.heap.size pre os post (ysv.take nb) OB1.out OL1.out OD1.out HR1.out (by intro b o s hh; cases hh; exact hgu) (by omega) k HPL.out).mono ?_
              rintro e w5 ⟨os2, ow2, rfl, hob, hol, hod, hov, hon⟩
              rw [HP1.out] at hov
              have l1 := val_lt OD1.out
              have l2 := val_lt hod
              rw [OL1.out] at l1
              rw [hol] at l2
              obtain ⟨k1, k2⟩ := less_one (P := 4294967296 ^ (nb + 1)) HVP.out HF.out.2 (Nat.lt_of_lt_of_le HV1.out (Nat.pow_le_pow_right (by omega) (by omega))) l1 l2 HOV.out hov
              have QB0 : Blk w5 w2.heap.size qs := Blk.only QB1.out (fun h => hgq h.symm) hon
              have c6 := QB0.cell k (by rw [HQL.out]; omega)
              have f6 := QB0.free k
              have BE := Lib.hid (Below.only BE1.out hz1 hon)
              have VB4 := Lib.hid (Blk.only VB1.out hgu hon)
              have QB4 := Lib.hid QB0
              have OB := Lib.hid hob
              have OL := Lib.hid hol
              have OD := Lib.hid hod
              have QE := Lib.hid (show gd - 1 = val mid / (y * 2 ^ s) by omega)
              have OE := Lib.hid k2
              clear QB0 hob hol hod hov k1 k2 hon l1 l2
              have HS := Lib.hid (LongRel.step (w := wr) (w' := w5) (x := ((gd - 1 : Nat) : Int)) (q := gd - 1) (k := k) hz1 hgw hgv hgq HVP.out HV1.out BE.out VB4.out OB.out QB4.out HPL.out HML.out OL.out HUL.out HUD.out OD.out HQL.out HQD.out (by omega) HX1.out HS1.out HQ1.out HZ1.out QE.out OE.out rfl)
              clear BE VB4 OB QB4 OL OD QE OE
              go_wp2
              go_roundw
              case rel => exact ⟨k, rfl, by omega, HS⟩
              case measure => simp only [intOf]; omega
end Go.Proofs.Ytgioppkggpfnoaa.Nu
end

section
/- The walk of limbs.Div. -/
set_option linter.unusedVariables false
namespace Go.Proofs.Ytgioppkggpfnoaa.Nu
open Go.RowKit Go.Proofs

theorem len_mono {x y : Nat} (h : x ≤ y) : (digs x).length ≤ (digs y).length := digs_len_le.2 (Nat.lt_of_le_of_lt h (digs_len_le.1 (Nat.le_refl _)))
theorem digs_one {y : Nat} (h : (digs y).length = 1) : y = dg (digs y) 0 := by
  have h1 : y < 4294967296 := by
    have := digs_len_le.1 (Nat.le_of_eq h)
    simpa using this
  have h2 : y ≠ 0 := by
    rintro rfl
    rw [digs_zero] at h
    simp at h
  rw [digs_pos h2]
  simp [dg]
  omega
theorem short_any (w : World) (A : Option Addr) (n c d x : Nat) (hI : RN w A n x) (hc : n ≤ c) (hn : n ≤ 1000) (h0 : 0 < d) (hd : d < 4294967296) :
    Calls Try.prog 41 #[.slice A n c, .int .u32 d] w fun e W' => ∃ A1 n1 c1, n1 ≤ c1 ∧ e = .returned (.tuple #[.slice A1 n1 c1, .int .u32 ((x % d : Nat) : Int)]) ∧ RN W' A1 n1 (x / d) ∧ Below w.heap.size w W' := by
  have h := callsIn_wide.1 (short_in w A n c d (digs x) hI hc hn h0 hd)
  rw [val_digs] at h
  exact h
set_option maxRecDepth 100000 in
set_option maxHeartbeats 4000000 in
theorem div_any (w : World) (A B : Option Addr) (n c m d x y : Nat) (hx : RN w A n x) (hy : RN w B m y) (hc : n ≤ c) (hd : m ≤ d) (hn : n ≤ 512) (h0 : y ≠ 0) :
    Calls Try.prog 31 #[.slice A n c, .slice B m d] w fun e w' => (∃ A1 n1 c1 A2 n2 c2, e = .returned (.tuple #[.slice A1 n1 c1, .slice A2 n2 c2, .int .i64 0]) ∧ RN w' A1 n1 (x / y) ∧ n1 ≤ c1 ∧ RN w' A2 n2 (x % y) ∧ n2 ≤ c2) ∧ Below w.heap.size w w' := by
  have hm : m ≠ 0 := fun e => h0 (digs_eq_nil.1 (List.length_eq_zero_iff.1 (by rw [hy.1, e])))
  have HX := Lib.hid hx
  have HY := Lib.hid hy
  have q0 : ((m : Int) == 0) = false := by rw [beq_eq_false_iff_ne]; omega
  by_cases hlt : x < y
  · have HL := Lib.hid hlt
    have hcm := cmp_lt hlt
    clear hx hy hlt h0 hm
    go_enter Try.func31, Try.ntmps31
    go_wp2_with fail
    refine (compare_any w A B n m c d x y HX.out HY.out).mono ?_
    rintro e w1 ⟨rfl, hb⟩
    rw [hcm]
    have HB := Lib.hid hb
    clear hb
    go_wp2_with fail
    refine (clone_any w1 A n c (digs x) (RL.below HX.out HB.out) (by omega)).mono ?_
    rintro e w2 ⟨⟨A', c', rfl, hcc, hr⟩, hb⟩
    have HR := Lib.hid hr
    have HB2 := Lib.hid (HB.out.trans (hb.mono HB.out.size))
    have HC := Lib.hid hcc
    clear hb hr hcc
    go_wp2
    refine bodyPost_ret (v := .tuple #[.slice none 0 0, .slice A' n c', .int .i64 0]) ?_ rfl ?_
    · simp [results, Try.f31, go_sem]
    refine ⟨⟨none, 0, 0, A', n, c', rfl, ?_, Nat.le_refl _, ?_, HC.out⟩, HB2.out⟩
    · rw [Nat.div_eq_of_lt HL.out]; exact RN.zero _ _
    · rw [Nat.mod_eq_of_lt HL.out]; exact HR.out
  · have hle : m ≤ n := by
      have := len_mono (Nat.le_of_not_lt hlt)
      rw [hx.1, hy.1] at this
      exact this
    have hcm : ∃ s : Int, cmp x y = s ∧ 0 ≤ s := by
      unfold cmp
      rw [if_neg hlt]
      split
      · exact ⟨1, rfl, by omega⟩
      · exact ⟨0, rfl, by omega⟩
    obtain ⟨s, hs, hs0⟩ := hcm
    have q1 : ¬ s < 0 := by omega
    by_cases h1 : m = 1
    · subst h1
      have hy1 := digs_one hy.1
      obtain ⟨b1, o1, rfl, hl1, hcc⟩ := hy.2.2.2 (by omega)
      have x0 : w.cell? ⟨b1, o1, none⟩ = some (.int .u32 (dg (digs y) 0 : Int)) := by simpa using hcc 0 (by omega)
      rw [← hy1] at x0
      have X0 := Lib.hid x0
      have hd32 : y < 4294967296 := by rw [hy1]; exact dg_lt (dig_digs y) 0
      have hy0 : 0 < y := by omega
      clear hx hy hlt h0 hm hcc x0 hs0 hy1
      go_enter Try.func31, Try.ntmps31
      go_wp2_with fail
      refine (compare_any w A _ n 1 c d x y HX.out HY.out).mono ?_
      rintro e w1 ⟨rfl, hb⟩
      rw [hs]
      have HB := Lib.hid hb
      have x1 := (HB.out.cell (p := ⟨b1, o1, none⟩) hl1).trans X0.out
      clear hb hs
      go_wp2_with fail
      refine (short_any w1 A n c y x (RL.below HX.out HB.out) hc (by omega) hy0 hd32).mono ?_
      rintro e w2 ⟨A1, n1, c1, hn1, rfl, hr, hb⟩
      have HR := Lib.hid hr
      have HB2 := Lib.hid (HB.out.trans (hb.mono HB.out.size))
      have HC := Lib.hid hn1
      obtain ⟨r, hr1⟩ : ∃ r, r = x % y := ⟨_, rfl⟩
      have hr2 : r < y := by rw [hr1]; exact Nat.mod_lt _ hy0
      rw [← hr1]
      have HM := Lib.hid hr1
      clear hb hr hn1 x1 hr1
      go_wp2_with fail
      refine (of_any w2 r (by omega)).mono ?_
      rintro e w3 ⟨A2, n2, rfl, hr, hb⟩
      have HR2 := Lib.hid hr
      have HR3 := Lib.hid (HR.out.below hb)
      have HB3 := Lib.hid (HB2.out.trans (hb.mono HB2.out.size))
      clear hb hr
      go_wp2
      refine bodyPost_ret (v := .tuple #[.slice A1 n1 c1, .slice A2 n2 n2, .int .i64 0]) ?_ rfl ?_
      · simp [results, Try.f31, go_sem]
      exact ⟨⟨A1, n1, c1, A2, n2, n2, rfl, HR3.out, HC.out, by rw [← HM.out]; exact HR2.out, Nat.le_refl _⟩, HB3.out⟩
    · have q2 : ((m : Int) == 1) = false := by rw [beq_eq_false_iff_ne]; omega
      have h2 : 2 ≤ m := by omega
      clear hx hy hlt h0 hm hs0
      go_enter Try.func31, Try.ntmps31
      go_wp2_with fail
      refine (compare_any w A B n m c d x y HX.out HY.out).mono ?_
      rintro e w1 ⟨rfl, hb⟩
      rw [hs]
      have HB := Lib.hid hb
      clear hb hs
      go_wp2_with fail
      refine (long_any w1 A B n c m d x y (HX.out.below HB.out) (HY.out.below HB.out) hc hd hn h2 hle).mono ?_
      rintro e w2 ⟨A1, n1, c1, A2, n2, c2, k1, k2, rfl, r1, r2, hb⟩
      have HR := Lib.hid r1
      have HR2 := Lib.hid r2
      have HB2 := Lib.hid (HB.out.trans (hb.mono HB.out.size))
      have HC := Lib.hid k1
      have HC2 := Lib.hid k2
      clear hb r1 r2 k1 k2
      go_wp2
      refine bodyPost_ret (v := .tuple #[.slice A1 n1 c1, .slice A2 n2 c2, .int .i64 0]) ?_ rfl ?_
      · simp [results, Try.f31, go_sem]
      exact ⟨⟨A1, n1, c1, A2, n2, c2, rfl, HR.out, HC.out, HR2.out, HC2.out⟩, HB2.out⟩
end Go.Proofs.Ytgioppkggpfnoaa.Nu
end

section
/- The number that a row of digits in memory stands for: what a loop over numbers is measured by. -/
set_option linter.unusedVariables false
namespace Go.Proofs.Ytgioppkggpfnoaa.Nu
open Go.RowKit Go.Proofs

theorem dig_ext {xs ys : List Nat} (hl : xs.length = ys.length) (h : ∀ j, j < xs.length → dg xs j = dg ys j) : xs = ys := by
  apply List.ext_getElem hl
  intro j h1 h2
  have := h j h1
  rw [dg_of h1, dg_of h2] at this
  exact this
theorem rn_unique {w : World} {A : Option Addr} {n x y : Nat} (h : RN w A n x) (h2 : RN w A n y) : x = y := by
  apply digs_inj
  refine dig_ext (by rw [h.1, h2.1]) fun j hj => ?_
  have hn : j < n := by rw [← h.1]; exact hj
  obtain ⟨b, o, e, _, hc⟩ := h.2.2.2 (by omega)
  obtain ⟨b2, o2, e2, _, hc2⟩ := h2.2.2.2 (by omega)
  rw [e] at e2
  injection e2 with e2
  injection e2 with e3 e4
  subst e3 e4
  have h3 := (hc j hn).symm.trans (hc2 j hn)
  injection h3 with h3
  injection h3 with _ h3
  omega
open Classical in
noncomputable def natOf (w : World) (v : Value) : Nat := if h : ∃ x, ∃ A n c, v = .slice A n c ∧ RN w A n x then h.choose else 0
theorem natOf_eq {w : World} {A : Option Addr} {n x : Nat} (c : Nat) (h : RN w A n x) : natOf w (.slice A n c) = x := by
  unfold natOf
  have he : ∃ x, ∃ A' n' c', Value.slice A n c = .slice A' n' c' ∧ RN w A' n' x := ⟨x, A, n, c, rfl, h⟩
  rw [dif_pos he]
  obtain ⟨A', n', c', e, h2⟩ := he.choose_spec
  injection e with e1 e2 e3
  subst e1 e2
  exact rn_unique h2 h
theorem gcd_step (x y : Nat) : Nat.gcd x y = Nat.gcd y (x % y) := by rw [Nat.gcd_comm, Nat.gcd_rec, Nat.gcd_comm]
end Go.Proofs.Ytgioppkggpfnoaa.Nu
end

section
/- The walk of digits.Gcd. -/
set_option linter.unusedVariables false
namespace Go.Proofs.Ytgioppkggpfnoaa.Nu
open Go.RowKit Go.Proofs

/-- Two numbers of the same greatest common divisor as those that came, both within bounds. -/
def GcdRel (x y : Nat) (w : World) (s0 s1 : Value) (wr : World) : Prop :=
  ∃ A n c B m d x' y', s0 = .slice A n c ∧ s1 = .slice B m d ∧ RN wr A n x' ∧ RN wr B m y' ∧ n ≤ c ∧ m ≤ d ∧ n ≤ 512 ∧ m ≤ 512 ∧ Nat.gcd x' y' = Nat.gcd x y ∧ Below w.heap.size w wr
set_option maxRecDepth 100000 in
set_option maxHeartbeats 4000000 in
theorem gcd_any (w : World) (A B : Option Addr) (n c m d x y : Nat) (hx : RN w A n x) (hy : RN w B m y) (hc : n ≤ c) (hd : m ≤ d) (hn : n ≤ 512) (hm : m ≤ 512) :
    Calls Try.prog 17 #[.slice A n c, .slice B m d] w fun e w' => (∃ A1 n1 c1, e = .returned (.slice A1 n1 c1) ∧ RN w' A1 n1 (Nat.gcd x y) ∧ n1 ≤ c1 ∧ n1 ≤ 512) ∧ Below w.heap.size w w' := by
  have H0 := Lib.hid (show GcdRel x y w (.slice A n c) (.slice B m d) w from ⟨A, n, c, B, m, d, x, y, rfl, rfl, hx, hy, hc, hd, hn, hm, rfl, Below.refl _ _⟩)
  clear hx hy
  go_enter Try.func17, Try.ntmps17
  go_wp2_with fail
  go_loopw [0, 1] (fun s0 s1 wr => Hid (GcdRel x y w s0 s1 wr)) (fun _ s1 wr => natOf wr s1)
  case atStart => exact H0
  case round =>
    clear H0
    obtain ⟨A, n, c, B, m, d, x', y', rfl, rfl, hx, hy, hc, hd, hn, hm, hg, hbel⟩ := hrel.out
    have HX := Lib.hid hx
    have HY := Lib.hid hy
    have HG := Lib.hid hg
    have HB := Lib.hid hbel
    have HM := Lib.hid (natOf_eq d hy)
    have hmy : m = 0 ↔ y' = 0 := by
      constructor
      · intro e
        exact digs_eq_nil.1 (List.length_eq_zero_iff.1 (by rw [hy.1, e]))
      · rintro rfl
        have := hy.1
        rw [digs_zero] at this
        simpa using this.symm
    clear hrel hx hy hg hbel
    by_cases h0 : m = 0
    · have hy0 := hmy.1 h0
      subst h0
      subst hy0
      clear hmy
      go_wp2_with fail
      refine (clone_any wr A n c (digs x') HX.out (by omega)).mono ?_
      rintro e w2 ⟨⟨A', c', rfl, hcc, hr⟩, hb⟩
      have HR := Lib.hid hr
      have HB2 := Lib.hid (HB.out.trans (hb.mono HB.out.size))
      have HC := Lib.hid hcc
      clear hb hr hcc
      go_wp2
      go_ret
      refine ⟨⟨A', n, c', rfl, ?_, HC.out, hn⟩, HB2.out⟩
      have := HG.out
      rw [Nat.gcd_zero_right] at this
      rw [← this]
      exact HR.out
    · have q0 : (0 : Int) < (m : Int) := by omega
      have hy0 : y' ≠ 0 := fun e => h0 (hmy.2 e)
      clear hmy
      go_wp2_with fail
      refine (div_any wr A B n c m d x' y' HX.out HY.out hc hd hn hy0).mono ?_
      rintro e w2 ⟨⟨A1, n1, c1, A2, n2, c2, rfl, r1, k1, r2, k2⟩, hb⟩
      have h5 : n2 ≤ 512 := by
        have := len_mono (Nat.le_of_lt (Nat.mod_lt x' (Nat.pos_of_ne_zero hy0)))
        rw [r2.1, HY.out.1] at this
        omega
      have HN := Lib.hid (show GcdRel x y w (.slice B m d) (.slice A2 n2 c2) w2 from ⟨B, m, d, A2, n2, c2, y', x' % y', rfl, rfl, HY.out.below hb, r2, hd, k2, hm, h5, (gcd_step x' y').symm.trans HG.out, HB.out.trans (hb.mono HB.out.size)⟩)
      have HM2 := Lib.hid (natOf_eq c2 r2)
      have HLT := Lib.hid (Nat.mod_lt x' (Nat.pos_of_ne_zero hy0))
      clear hb r1 r2 k1 k2 hy0
      go_wp2
      go_roundw
      case rel => exact HN
      case measure => rw [HM.out, HM2.out]; exact HLT.out
end Go.Proofs.Ytgioppkggpfnoaa.Nu
end

section
/- Rows of more digits than may be: told at once, no digit is read. -/
set_option linter.unusedVariables false
namespace Go.Proofs.Ytgioppkggpfnoaa.Nu
open Go.RowKit Go.Proofs

theorem check_big (w : World) (A : Option Addr) (n c : Nat) (hn : 512 < n) (hm : n ≤ 9223372036854775807) :
    Calls Try.prog 15 #[.slice A n c] w fun e w' => e = .returned (.int .i64 11) ∧ w' = w := by
  have q0 : (512 : Int) < (n : Int) := by omega
  go_enter Try.func15, Try.ntmps15
  go_wp2
  go_ret
  exact ⟨rfl, rfl⟩
set_option maxHeartbeats 2000000 in
theorem wcheck_big (w : World) (b : Bool) (A : Option Addr) (n c : Nat) (hn : 512 < n) (hm : n ≤ 9223372036854775807) :
    Calls Try.prog 14 #[.agg #[.bool b, .slice A n c]] w fun e w' => e = .returned (.int .i64 11) ∧ Below w.heap.size w w' := by
  have B0 := Lib.hid (Blk2.new w 30 (.bool b) (.slice A n c))
  have HW := Lib.hid (show Below w.heap.size w (w.alloc (.cells #[.bool b, .slice A n c] 30)) from (Below.refl _ w).alloc (Nat.le_refl _) _)
  go_enter Try.func14, Try.ntmps14
  go_wp2_with fail
  generalize w.alloc (.cells #[.bool b, .slice A n c] 30) = w0 at *
  refine (check_big w0 A n c hn hm).mono ?_
  rintro e w1 ⟨rfl, rfl⟩
  go_wp2
  go_ret
  exact ⟨rfl, HW.out⟩
/-- A row of digits, where it isn't too long to be one. -/
def RL2 (w : World) (A : Option Addr) (n : Nat) (xs : List Nat) : Prop := n ≤ 9223372036854775807 ∧ (n ≤ 512 → RL w A n xs)
theorem RL2.below {w w' : World} {A : Option Addr} {n : Nat} {xs : List Nat} (h : RL2 w A n xs) (hb : Below w.heap.size w w') : RL2 w' A n xs := ⟨h.1, fun e => (h.2 e).below hb⟩
theorem RL2.of {w : World} {A : Option Addr} {n : Nat} {xs : List Nat} (h : RL w A n xs) : RL2 w A n xs := ⟨by have := h.2.1; omega, fun _ => h⟩
theorem RI.back {w w0 : World} {b : Bool} {A : Option Addr} {n c : Nat} {xs : List Nat} (h : RI w0 b A n c (zv b xs)) (hl : RL w A n xs) : RI w b A n c (zv b xs) := by
  refine ⟨h.1, h.2.1, ?_⟩
  have e0 : (zv b xs).natAbs = val xs := by unfold zv; cases b <;> simp
  have h1 := h.2.2.1
  rw [e0] at h1
  have e4 : digs (val xs) = xs := by
    obtain ⟨k, hk⟩ := digs_trim hl.2.2.1
    have : k = 0 := by
      have := congrArg List.length hk
      rw [List.length_append, List.length_replicate, h1, hl.1] at this
      omega
    subst this
    rw [List.replicate_zero, List.append_nil] at hk
    exact hk.symm
  rw [e0]
  unfold RN
  rw [e4]
  exact hl
end Go.Proofs.Ytgioppkggpfnoaa.Nu
end

section
/- The walk of ratio.Check, whatever comes in. -/
set_option linter.unusedVariables false
namespace Go.Proofs.Ytgioppkggpfnoaa.Nu
open Go.RowKit Go.Proofs

theorem wcheck_raw (w : World) (b : Bool) (A : Option Addr) (n c : Nat) (xs : List Nat) (h : RL2 w A n xs) (hc : n ≤ c) :
    Calls Try.prog 14 #[.agg #[.bool b, .slice A n c]] w fun e w' => (∃ r : Int, e = .returned (.int .i64 r) ∧ (r = 0 → n ≤ 512 ∧ RI w b A n c (zv b xs))) ∧ Below w.heap.size w w' := by
  by_cases hn : n ≤ 512
  · exact (wcheck_any w b A n c xs (h.2 hn) hc).mono fun e w' ⟨⟨r, he, hr⟩, hb⟩ => ⟨⟨r, he, hr.1⟩, hb⟩
  · refine (wcheck_big w b A n c (by omega) h.1).mono ?_
    rintro e w' ⟨rfl, hb⟩
    exact ⟨⟨11, rfl, by omega⟩, hb⟩
theorem check_raw (w : World) (A : Option Addr) (n c : Nat) (xs : List Nat) (h : RL2 w A n xs) :
    Calls Try.prog 15 #[.slice A n c] w fun e w' => (∃ r : Int, e = .returned (.int .i64 r) ∧ (r = 0 → n ≤ 512 ∧ RN w A n (val xs))) ∧ Below w.heap.size w w' := by
  by_cases hn : n ≤ 512
  · refine (check_any w A n c xs (h.2 hn)).mono ?_
    rintro e w' ⟨⟨r, he, hr⟩, rfl⟩
    exact ⟨⟨r, he, hr.1⟩, Below.refl _ _⟩
  · refine (check_big w A n c (by omega) h.1).mono ?_
    rintro e w' ⟨rfl, rfl⟩
    exact ⟨⟨11, rfl, by omega⟩, Below.refl _ _⟩
/-- What the program's Check lets through is a ratio. -/
theorem rat_of_parts {w : World} {t : TQ} {z : Int} {d : Nat} (hz : RW w t.q z) (hd : RN w t.A t.n d) (hc : t.n ≤ t.c) (h0 : d ≠ 0) (hg : Nat.gcd z.natAbs d = 1) : ∃ x : Rat, RR w t x := ⟨⟨z, d, h0, hg⟩, hz, hd, hc⟩
theorem cmp_one {g : Nat} : cmp g 1 = 0 ↔ g = 1 := by
  unfold cmp
  constructor
  · intro h
    false_or_by_contra
    rcases Nat.lt_trichotomy g 1 with h1 | h1 | h1
    · rw [if_pos h1] at h; omega
    · omega
    · rw [if_neg (by omega), if_pos h1] at h; omega
  · rintro rfl
    simp

theorem rn_back {w w0 : World} {A : Option Addr} {n : Nat} {xs : List Nat} (h : RN w0 A n (val xs)) (hl : RL w A n xs) : RN w A n (val xs) := by
  have e : digs (val xs) = xs := by
    obtain ⟨k, hk⟩ := digs_trim hl.2.2.1
    have : k = 0 := by
      have h1 := congrArg List.length hk
      have h2 := h.1
      rw [List.length_append, List.length_replicate, h2, hl.1] at h1
      omega
    subst this
    rw [List.replicate_zero, List.append_nil] at hk
    exact hk.symm
  unfold RN
  rw [e]
  exact hl

set_option maxRecDepth 100000 in
set_option maxHeartbeats 4000000 in
theorem rcheck_raw (w : World) (t : TQ) (xs ys : List Nat) (hx : RL2 w t.q.A t.q.n xs) (hy : RL2 w t.A t.n ys) (hc : t.q.n ≤ t.q.c) (hc2 : t.n ≤ t.c) :
    Calls Try.prog 6 #[.agg #[.bool t.q.b, .slice t.q.A t.q.n t.q.c, .slice t.A t.n t.c]] w fun e w' => (∃ r : Int, e = .returned (.int .i64 r) ∧ (r = 0 → ∃ x : Rat, RR w t x ∧ t.q.n ≤ 512 ∧ t.n ≤ 512)) ∧ Below w.heap.size w w' := by
  have HX := Lib.hid hx
  have HY := Lib.hid hy
  clear hx hy
  have BX := Lib.hid (boxes1 w 32 #[.bool t.q.b, .slice t.q.A t.q.n t.q.c, .slice t.A t.n t.c])
  go_enter Try.func6, Try.ntmps6
  go_wp2_with fail
  generalize w.alloc (.cells #[.bool t.q.b, .slice t.q.A t.q.n t.q.c, .slice t.A t.n t.c] 32) = w0 at *
  obtain ⟨b0, hw⟩ := BX.out
  have Ba_0 := Lib.hid b0
  have HB_0 := Lib.hid hw
  have K := Dk.below (hw.mono (Nat.le_refl _))
  clear BX hw b0
  clear K
  have la := Ba_0.out.lt
  obtain ⟨ca0, ca1, ca2⟩ := Ba_0.out.cells3
  go_wp2_with fail
  refine (wcheck_raw _ t.q.b t.q.A t.q.n t.q.c xs (HX.out.below HB_0.out) hc).mono ?_
  rintro e w1 ⟨⟨r1, rfl, hr⟩, hb⟩
  clear la ca0 ca1 ca2
  have K := Dk.below hb
  have Ba_1 := Lib.hid (show Bk _ _ _ #[.bool t.q.b, .slice t.q.A t.q.n t.q.c, .slice t.A t.n t.c] from Ba_0.out.below hb)
  have HB_2 := Lib.hid (below_tr HB_0.out hb)
  clear hb
  clear K Ba_0 HB_0
  have R1 := Lib.hid hr
  clear hr
  by_cases hr1 : r1 = 0
  rotate_left
  · have qr1 : ((r1 : Int) == 0) = false := by rw [beq_eq_false_iff_ne]; exact hr1
    have pr1 : ((r1 : Int) != 0) = true := by rw [bne, qr1]; rfl
    have H9 := Lib.hid hr1
    clear hr1
    have la := Ba_1.out.lt
    obtain ⟨ca0, ca1, ca2⟩ := Ba_1.out.cells3
    go_wp2
    go_ret
    exact ⟨⟨r1, rfl, fun h => absurd h H9.out⟩, HB_2.out⟩
  subst hr1
  have g1 := (R1.out rfl).1
  have RZ := Lib.hid ((R1.out rfl).2.back (HX.out.2 g1))
  clear R1
  have la := Ba_1.out.lt
  obtain ⟨ca0, ca1, ca2⟩ := Ba_1.out.cells3
  go_wp2_with fail
  refine (check_raw _ t.A t.n t.c ys (HY.out.below HB_2.out)).mono ?_
  rintro e w2 ⟨⟨r2, rfl, hr⟩, hb⟩
  clear la ca0 ca1 ca2
  have K := Dk.below hb
  have Ba_4 := Lib.hid (show Bk _ _ _ #[.bool t.q.b, .slice t.q.A t.q.n t.q.c, .slice t.A t.n t.c] from Ba_1.out.below hb)
  have HB_5 := Lib.hid (below_tr HB_2.out hb)
  clear hb
  clear K Ba_1 HB_2
  have R2 := Lib.hid hr
  clear hr
  by_cases hr2 : r2 = 0
  rotate_left
  · have qr2 : ((r2 : Int) == 0) = false := by rw [beq_eq_false_iff_ne]; exact hr2
    have pr2 : ((r2 : Int) != 0) = true := by rw [bne, qr2]; rfl
    have H9 := Lib.hid hr2
    clear hr2
    have la := Ba_4.out.lt
    obtain ⟨ca0, ca1, ca2⟩ := Ba_4.out.cells3
    go_wp2
    go_ret
    exact ⟨⟨r2, rfl, fun h => absurd h H9.out⟩, HB_5.out⟩
  subst hr2
  have g2 := (R2.out rfl).1
  have RD := Lib.hid (rn_back (R2.out rfl).2 (HY.out.2 g2))
  clear R2
  by_cases hn0 : t.n = 0
  · have q3 : ((t.n : Int) == 0) = true := by rw [hn0]; rfl
    clear hn0
    have la := Ba_4.out.lt
    obtain ⟨ca0, ca1, ca2⟩ := Ba_4.out.cells3
    go_wp2
    go_ret
    exact ⟨⟨2, rfl, by omega⟩, HB_5.out⟩
  have q3 : ((t.n : Int) == 0) = false := by rw [beq_eq_false_iff_ne]; omega
  have d0 : val ys ≠ 0 := fun e => hn0 ((rn_pos RD.out).2 e)
  have D0 := Lib.hid d0
  clear d0 hn0
  have la := Ba_4.out.lt
  obtain ⟨ca0, ca1, ca2⟩ := Ba_4.out.cells3
  go_wp2_with fail
  refine (gcd_any _ t.q.A t.A t.q.n t.q.c t.n t.c (zv t.q.b xs).natAbs (val ys) (RL.below RZ.out.2.2 HB_5.out) (RL.below RD.out HB_5.out) hc hc2 g1 g2).mono ?_
  rintro e w3 ⟨⟨A3, n3, c3, rfl, h3, k3, _⟩, hb⟩
  clear la ca0 ca1 ca2
  have K := Dk.below hb
  have Ba_8 := Lib.hid (show Bk _ _ _ #[.bool t.q.b, .slice t.q.A t.q.n t.q.c, .slice t.A t.n t.c] from Ba_4.out.below hb)
  have HB_9 := Lib.hid (below_tr HB_5.out hb)
  clear hb
  clear K Ba_4 HB_5
  have RG_10 := Lib.hid h3
  clear h3
  have la := Ba_8.out.lt
  obtain ⟨ca0, ca1, ca2⟩ := Ba_8.out.cells3
  go_wp2_with fail
  refine (of_any _ 1 (by omega)).mono ?_
  rintro e w4 ⟨A4, n4, rfl, h4, hb⟩
  clear la ca0 ca1 ca2
  have K := Dk.below hb
  have Ba_11 := Lib.hid (show Bk _ _ _ #[.bool t.q.b, .slice t.q.A t.q.n t.q.c, .slice t.A t.n t.c] from Ba_8.out.below hb)
  have HB_12 := Lib.hid (below_tr HB_9.out hb)
  clear hb
  have RG_13 := Lib.hid (RG_10.out.dk K)
  clear K Ba_8 HB_9 RG_10
  have RO_14 := Lib.hid h4
  clear h4
  have la := Ba_11.out.lt
  obtain ⟨ca0, ca1, ca2⟩ := Ba_11.out.cells3
  go_wp2_with fail
  refine (compare_any _ A3 A4 n3 n4 c3 n4 _ 1 RG_13.out RO_14.out).mono ?_
  rintro e w5 ⟨rfl, hb⟩
  clear la ca0 ca1 ca2
  have K := Dk.below hb
  have Ba_15 := Lib.hid (show Bk _ _ _ #[.bool t.q.b, .slice t.q.A t.q.n t.q.c, .slice t.A t.n t.c] from Ba_11.out.below hb)
  have HB_16 := Lib.hid (below_tr HB_12.out hb)
  clear hb
  have RG_17 := Lib.hid (RG_13.out.dk K)
  have RO_18 := Lib.hid (RO_14.out.dk K)
  clear K Ba_11 HB_12 RG_13 RO_14
  by_cases hg : Nat.gcd (zv t.q.b xs).natAbs (val ys) = 1
  · have HG := Lib.hid hg
    rw [cmp_one.2 hg]
    clear hg
    have la := Ba_15.out.lt
    obtain ⟨ca0, ca1, ca2⟩ := Ba_15.out.cells3
    go_wp2
    go_ret
    exact ⟨⟨0, rfl, fun _ => by obtain ⟨x, hx⟩ := rat_of_parts RZ.out RD.out hc2 D0.out HG.out; exact ⟨x, hx, g1, g2⟩⟩, HB_16.out⟩
  have hs : cmp (Nat.gcd (zv t.q.b xs).natAbs (val ys)) 1 ≠ 0 := fun e => hg (cmp_one.1 e)
  generalize cmp (Nat.gcd (zv t.q.b xs).natAbs (val ys)) 1 = s at *
  have q4 : ((s : Int) == 0) = false := by rw [beq_eq_false_iff_ne]; exact hs
  have q5 : ((s : Int) != 0) = true := by rw [bne, q4]; rfl
  clear hs hg
  have la := Ba_15.out.lt
  obtain ⟨ca0, ca1, ca2⟩ := Ba_15.out.cells3
  go_wp2
  go_ret
  exact ⟨⟨2, rfl, by omega⟩, HB_16.out⟩

end Go.Proofs.Ytgioppkggpfnoaa.Nu
end

section
/- Rows of ratios that came in, of whatever form. -/
set_option linter.unusedVariables false
namespace Go.Proofs.Ytgioppkggpfnoaa.Nu
open Go.RowKit Go.Proofs

/-- The three cells of element j of a row of ratios. -/
def AtR (w : World) (b off j : Nat) (t : TQ) : Prop := w.cell? ⟨b, off + j * 3, none⟩ = some (.bool t.q.b) ∧ w.cell? ⟨b, off + j * 3 + 1, none⟩ = some (.slice t.q.A t.q.n t.q.c) ∧ w.cell? ⟨b, off + j * 3 + 2, none⟩ = some (.slice t.A t.n t.c)
/-- A row of ratios of whatever form. -/
def RawT (w : World) (A : Option Addr) (n c : Nat) : Prop :=
  n ≤ c ∧ n ≤ 9223372036854775807 ∧ (0 < n → ∃ b off, A = some ⟨b, off, none⟩ ∧ b < w.heap.size ∧ ∀ j, j < n → ∃ (t : TQ) (xs ys : List Nat), AtR w b off j t ∧ RL2 w t.q.A t.q.n xs ∧ RL2 w t.A t.n ys ∧ t.q.n ≤ t.q.c ∧ t.n ≤ t.c)
theorem RawT.take {w : World} {A : Option Addr} {n c m : Nat} (h : RawT w A n c) (hm : m ≤ n) : RawT w A m c := by
  obtain ⟨h1, h2, h3⟩ := h
  refine ⟨by omega, by omega, fun h0 => ?_⟩
  obtain ⟨b, off, e, hl, hc⟩ := h3 (by omega)
  exact ⟨b, off, e, hl, fun j hj => hc j (by omega)⟩
theorem RawT.sub {w : World} {b off n c i m : Nat} (h : RawT w (some ⟨b, off, none⟩) n c) (him : i + m ≤ n) : RawT w (some ⟨b, off + i * 3, none⟩) m (c - i) := by
  obtain ⟨h1, h2, h3⟩ := h
  refine ⟨by omega, by omega, fun h0 => ?_⟩
  obtain ⟨b', off', e, hl, hc⟩ := h3 (by omega)
  injection e with e
  injection e with e1 e2
  subst e1 e2
  refine ⟨b, off + i * 3, rfl, hl, fun j hj => ?_⟩
  obtain ⟨t, xs, ys, ⟨a0, a1, a2⟩, r⟩ := hc (i + j) (by omega)
  have e : off + (i + j) * 3 = off + i * 3 + j * 3 := by rw [Nat.add_mul]; omega
  rw [e] at a0 a1 a2
  exact ⟨t, xs, ys, ⟨a0, a1, a2⟩, r⟩
theorem RawT.below {w w' : World} {A : Option Addr} {n c : Nat} (h : RawT w A n c) (hb : Below w.heap.size w w') : RawT w' A n c := by
  obtain ⟨h1, h2, h3⟩ := h
  refine ⟨h1, h2, fun h0 => ?_⟩
  obtain ⟨b, off, e, hl, hc⟩ := h3 h0
  refine ⟨b, off, e, Nat.lt_of_lt_of_le hl hb.size, fun j hj => ?_⟩
  obtain ⟨t, xs, ys, ⟨a0, a1, a2⟩, r1, r2, r3⟩ := hc j hj
  exact ⟨t, xs, ys, ⟨(hb.cell (p := ⟨b, _, none⟩) hl).trans a0, (hb.cell (p := ⟨b, _, none⟩) hl).trans a1, (hb.cell (p := ⟨b, _, none⟩) hl).trans a2⟩, r1.below hb, r2.below hb, r3⟩
theorem rn_up {w w0 : World} {A : Option Addr} {n v : Nat} {xs : List Nat} (h : RN w0 A n v) (hl : RL w A n xs) (hb : Below w.heap.size w w0) : RN w A n v := by
  refine ⟨h.1, h.2.1, h.2.2.1, fun h0 => ?_⟩
  obtain ⟨b, o, rfl, hlt, _⟩ := hl.2.2.2 h0
  obtain ⟨b', o', e, _, hc⟩ := h.2.2.2 h0
  injection e with e
  injection e with e1 e2
  subst e1 e2
  exact ⟨b, o, rfl, hlt, fun j hj => (hb.cell (p := ⟨b, o + j, none⟩) hlt).symm.trans (hc j hj)⟩
theorem rr_back {w w0 : World} {t : TQ} {x : Rat} {xs ys : List Nat} (h : RR w0 t x) (hx : RL w t.q.A t.q.n xs) (hy : RL w t.A t.n ys) (hb : Below w.heap.size w w0) : RR w t x :=
  ⟨⟨h.1.1, h.1.2.1, rn_up h.1.2.2 hx hb⟩, rn_up h.2.1 hy hb, h.2.2⟩
end Go.Proofs.Ytgioppkggpfnoaa.Nu
end

section
/- The walks of ratio.Make, ratio.Of. -/
set_option linter.unusedVariables false
namespace Go.Proofs.Ytgioppkggpfnoaa.Nu
open Go.RowKit Go.Proofs

/-- A number divided by another one, in lowest terms, as the program lays it. -/
theorem make_rr {w : World} {a b : Int} {g : Nat} {pb qb : Bool} {A1 A3 : Option Addr} {k1 e1 k3 e3 : Nat} (h0 : b ≠ 0) (hg : g = Nat.gcd a.natAbs b.natAbs) (hp : pb = decide (a < 0)) (hq : qb = decide (b < 0)) (h1 : RN w A1 k1 (a.natAbs / g)) (f1 : k1 ≤ e1) (h3 : RN w A3 k3 (b.natAbs / g)) (f3 : k3 ≤ e3) :
    RR w ⟨⟨(pb != qb) && decide (0 < k1), A1, k1, e1⟩, A3, k3, e3⟩ (Rat.divInt a b) := by
  subst hg
  have hk : decide (0 < k1) = decide (0 < a.natAbs / Nat.gcd a.natAbs b.natAbs) := by
    rw [decide_eq_decide]
    have := rn_pos h1
    generalize a.natAbs / Nat.gcd a.natAbs b.natAbs = v at *
    omega
  refine ⟨⟨?_, f1, ?_⟩, ?_, f3⟩
  · rw [make_neg a b h0, hp, hq, hk]
  · rw [make_num a b h0]
    exact h1
  · rw [make_den a b h0]
    exact h3
set_option maxRecDepth 100000 in
set_option maxHeartbeats 4000000 in
theorem rmake_any (w : World) (p q : Q) (a b : Int) (h : RW w p a) (h2 : RW w q b) (h0 : b ≠ 0) (ha : nb a.natAbs ≤ 16384) (hb : nb b.natAbs ≤ 16384) :
    Calls Try.prog 28 #[.agg #[.bool p.b, .slice p.A p.n p.c], .agg #[.bool q.b, .slice q.A q.n q.c]] w fun e w' => (∃ t : TQ, e = .returned (.tuple #[.agg #[.bool t.q.b, .slice t.q.A t.q.n t.q.c, .slice t.A t.n t.c], .int .i64 0]) ∧ RR w' t (Rat.divInt a b)) ∧ Below w.heap.size w w' := by
  obtain ⟨pb, pA, pn, pc⟩ := p
  obtain ⟨qb, qA, qn, qc⟩ := q
  have n1 : pn ≤ 512 := h.len (k := 512) ha
  have n2 : qn ≤ 512 := h2.len (k := 512) hb
  have c1 : pn ≤ pc := h.2.1
  have c2 : qn ≤ qc := h2.2.1
  have b1 : pb = decide (a < 0) := h.1
  have b2 : qb = decide (b < 0) := h2.1
  obtain ⟨g, hg⟩ : ∃ g, g = Nat.gcd a.natAbs b.natAbs := ⟨_, rfl⟩
  have g0 : g ≠ 0 := by rw [hg]; have := Nat.gcd_pos_of_pos_right a.natAbs (show 0 < b.natAbs by omega); omega
  obtain ⟨s, hs⟩ : ∃ s, s = sgn b := ⟨_, rfl⟩
  have q0 : ((s : Int) == 0) = false := by rw [beq_eq_false_iff_ne]; have := sgn_cases b; omega
  have HA := Lib.hid h
  have HB := Lib.hid h2
  have HG := Lib.hid hg
  have HS := Lib.hid hs
  have H0 := Lib.hid h0
  have B1 := Lib.hid b1
  have B2 := Lib.hid b2
  clear h h2 hg hs h0 b1 b2 ha hb
  have BX := Lib.hid (boxes3 w 30 #[.bool pb, .slice pA pn pc] 30 #[.bool qb, .slice qA qn qc] 32 #[.bool false, .slice none 0 0, .slice none 0 0])
  go_enter Try.func28, Try.ntmps28
  go_wp2_with fail
  generalize ((w.alloc (.cells #[.bool pb, .slice pA pn pc] 30)).alloc (.cells #[.bool qb, .slice qA qn qc] 30)).alloc (.cells #[.bool false, .slice none 0 0, .slice none 0 0] 32) = w0 at *
  obtain ⟨b0, b1, b2, hw⟩ := BX.out
  have Ba_0 := Lib.hid b0
  have Bb_0 := Lib.hid b1
  have Bo_0 := Lib.hid b2
  have HB_0 := Lib.hid hw
  have K := Dk.below (hw.mono (Nat.le_refl _))
  clear BX hw b0 b1 b2
  have RA_1 := Lib.hid (HA.out.dk K)
  have RB_2 := Lib.hid (HB.out.dk K)
  clear K HA HB
  have la := Ba_0.out.lt
  obtain ⟨ca0, ca1⟩ := Ba_0.out.cells2
  have lb := Bb_0.out.lt
  obtain ⟨cb0, cb1⟩ := Bb_0.out.cells2
  have lo := Bo_0.out.lt
  obtain ⟨co0, co1, co2⟩ := Bo_0.out.cells3
  go_wp2_with fail
  refine (wsign_any _ qb qA qn qc b RB_2.out).mono ?_
  rw [← HS.out]
  rintro e w1 ⟨rfl, hb⟩
  clear la ca0 ca1 lb cb0 cb1 lo co0 co1 co2
  have K := Dk.below hb
  have Ba_3 := Lib.hid (show Bk _ _ _ #[.bool pb, .slice pA pn pc] from Ba_0.out.below hb)
  have Bb_4 := Lib.hid (show Bk _ _ _ #[.bool qb, .slice qA qn qc] from Bb_0.out.below hb)
  have Bo_5 := Lib.hid (show Bk _ _ _ #[.bool false, .slice none 0 0, .slice none 0 0] from Bo_0.out.below hb)
  have HB_6 := Lib.hid (below_tr HB_0.out hb)
  clear hb
  have RA_7 := Lib.hid (RA_1.out.dk K)
  have RB_8 := Lib.hid (RB_2.out.dk K)
  clear K Ba_0 Bb_0 Bo_0 HB_0 RA_1 RB_2
  have la := Ba_3.out.lt
  obtain ⟨ca0, ca1⟩ := Ba_3.out.cells2
  have lb := Bb_4.out.lt
  obtain ⟨cb0, cb1⟩ := Bb_4.out.cells2
  have lo := Bo_5.out.lt
  obtain ⟨co0, co1, co2⟩ := Bo_5.out.cells3
  go_wp2_with fail
  refine (gcd_any _ pA qA pn pc qn qc a.natAbs b.natAbs RA_7.out.2.2 RB_8.out.2.2 c1 c2 n1 n2).mono ?_
  rintro e w2 ⟨⟨Ag, ng, cg, rfl, hr, kg, _⟩, hb⟩
  clear la ca0 ca1 lb cb0 cb1 lo co0 co1 co2
  have K := Dk.below hb
  have Ba_9 := Lib.hid (show Bk _ _ _ #[.bool pb, .slice pA pn pc] from Ba_3.out.below hb)
  have Bb_10 := Lib.hid (show Bk _ _ _ #[.bool qb, .slice qA qn qc] from Bb_4.out.below hb)
  have Bo_11 := Lib.hid (show Bk _ _ _ #[.bool false, .slice none 0 0, .slice none 0 0] from Bo_5.out.below hb)
  have HB_12 := Lib.hid (below_tr HB_6.out hb)
  clear hb
  have RA_13 := Lib.hid (RA_7.out.dk K)
  have RB_14 := Lib.hid (RB_8.out.dk K)
  clear K Ba_3 Bb_4 Bo_5 HB_6 RA_7 RB_8
  rw [← HG.out] at hr
  have RG_15 := Lib.hid hr
  clear hr
  have la := Ba_9.out.lt
  obtain ⟨ca0, ca1⟩ := Ba_9.out.cells2
  have lb := Bb_10.out.lt
  obtain ⟨cb0, cb1⟩ := Bb_10.out.cells2
  have lo := Bo_11.out.lt
  obtain ⟨co0, co1, co2⟩ := Bo_11.out.cells3
  go_wp2_with fail
  refine (div_any _ pA Ag pn pc ng cg a.natAbs g RA_13.out.2.2 RG_15.out c1 kg n1 g0).mono ?_
  rintro e w3 ⟨⟨A1, k1, e1, A2, k2, e2, rfl, hr, f1, _, _⟩, hb⟩
  clear la ca0 ca1 lb cb0 cb1 lo co0 co1 co2
  have K := Dk.below hb
  have Ba_16 := Lib.hid (show Bk _ _ _ #[.bool pb, .slice pA pn pc] from Ba_9.out.below hb)
  have Bb_17 := Lib.hid (show Bk _ _ _ #[.bool qb, .slice qA qn qc] from Bb_10.out.below hb)
  have Bo_18 := Lib.hid (show Bk _ _ _ #[.bool false, .slice none 0 0, .slice none 0 0] from Bo_11.out.below hb)
  have HB_19 := Lib.hid (below_tr HB_12.out hb)
  clear hb
  have RA_20 := Lib.hid (RA_13.out.dk K)
  have RB_21 := Lib.hid (RB_14.out.dk K)
  have RG_22 := Lib.hid (RG_15.out.dk K)
  clear K Ba_9 Bb_10 Bo_11 HB_12 RA_13 RB_14 RG_15
  have RN1_23 := Lib.hid hr
  clear hr
  have la := Ba_16.out.lt
  obtain ⟨ca0, ca1⟩ := Ba_16.out.cells2
  have lb := Bb_17.out.lt
  obtain ⟨cb0, cb1⟩ := Bb_17.out.cells2
  have lo := Bo_18.out.lt
  obtain ⟨co0, co1, co2⟩ := Bo_18.out.cells3
  go_wp2_with fail
  refine (div_any _ qA Ag qn qc ng cg b.natAbs g RB_21.out.2.2 RG_22.out c2 kg n2 g0).mono ?_
  rintro e w4 ⟨⟨A3, k3, e3, A4, k4, e4, rfl, hr, f3, _, _⟩, hb⟩
  clear la ca0 ca1 lb cb0 cb1 lo co0 co1 co2
  have K := Dk.below hb
  have Ba_24 := Lib.hid (show Bk _ _ _ #[.bool pb, .slice pA pn pc] from Ba_16.out.below hb)
  have Bb_25 := Lib.hid (show Bk _ _ _ #[.bool qb, .slice qA qn qc] from Bb_17.out.below hb)
  have Bo_26 := Lib.hid (show Bk _ _ _ #[.bool false, .slice none 0 0, .slice none 0 0] from Bo_18.out.below hb)
  have HB_27 := Lib.hid (below_tr HB_19.out hb)
  clear hb
  have RA_28 := Lib.hid (RA_20.out.dk K)
  have RB_29 := Lib.hid (RB_21.out.dk K)
  have RG_30 := Lib.hid (RG_22.out.dk K)
  have RN1_31 := Lib.hid (RN1_23.out.dk K)
  clear K Ba_16 Bb_17 Bo_18 HB_19 RA_20 RB_21 RG_22 RN1_23
  have RN2_32 := Lib.hid hr
  clear hr
  have HFIN := Lib.hid (make_rr H0.out HG.out B1.out B2.out RN1_31.out f1 RN2_32.out f3)
  clear RN1_31 RN2_32
  clear n1 n2 c1 c2 f1 f3 kg
  obtain ⟨mb, hmb⟩ : ∃ mb, mb = ((pb != qb) && decide (0 < k1)) := ⟨_, rfl⟩
  rw [← hmb] at HFIN
  clear B1 B2
  by_cases hpq : pb = true ∧ qb = true
  · obtain ⟨rfl, rfl⟩ := hpq
    obtain rfl : mb = false := by rw [hmb]; rfl
    clear hmb
    have la := Ba_24.out.lt
    obtain ⟨ca0, ca1⟩ := Ba_24.out.cells2
    have lb := Bb_25.out.lt
    obtain ⟨cb0, cb1⟩ := Bb_25.out.cells2
    have lo := Bo_26.out.lt
    obtain ⟨co0, co1, co2⟩ := Bo_26.out.cells3
    have fo0 := Bo_26.out.free 0
    have fo1 := Bo_26.out.free 1
    have fo2 := Bo_26.out.free 2
    go_wp2
    refine bodyPost_ret (v := .tuple #[.agg #[.bool false, .slice A1 k1 e1, .slice A3 k3 e3], .int .i64 0]) ?_ rfl ?_
    · simp [results, Try.f28, go_sem, co0, co1, co2]
    · have y0 := HB_27.out.size; exact ⟨⟨⟨⟨false, A1, k1, e1⟩, A3, k3, e3⟩, rfl, (HFIN.out.dk ((((Dk.refl _).set (cs := #[.bool false, .slice none 0 0, .slice none 0 0]) Bo_26.out 0 (by intro _ hh; cases hh) (.bool false)).set (cs := #[(.bool false), .slice none 0 0, .slice none 0 0]) (Bo_26.out.set 0 (.bool false)) 1 (by intro _ hh; cases hh) (.slice A1 k1 e1)).set (cs := #[(.bool false), (.slice A1 k1 e1), .slice none 0 0]) ((Bo_26.out.set 0 (.bool false)).set 1 (.slice A1 k1 e1)) 2 (by intro _ hh; cases hh) (.slice A3 k3 e3)))⟩, (below_st (below_st (below_st HB_27.out 0 (by omega) (.bool false)) 1 (by omega) (.slice A1 k1 e1)) 2 (by omega) (.slice A3 k3 e3))⟩
  by_cases hpq2 : pb = false ∧ qb = false
  · obtain ⟨rfl, rfl⟩ := hpq2
    obtain rfl : mb = false := by rw [hmb]; rfl
    clear hmb
    have la := Ba_24.out.lt
    obtain ⟨ca0, ca1⟩ := Ba_24.out.cells2
    have lb := Bb_25.out.lt
    obtain ⟨cb0, cb1⟩ := Bb_25.out.cells2
    have lo := Bo_26.out.lt
    obtain ⟨co0, co1, co2⟩ := Bo_26.out.cells3
    have fo0 := Bo_26.out.free 0
    have fo1 := Bo_26.out.free 1
    have fo2 := Bo_26.out.free 2
    go_wp2
    refine bodyPost_ret (v := .tuple #[.agg #[.bool false, .slice A1 k1 e1, .slice A3 k3 e3], .int .i64 0]) ?_ rfl ?_
    · simp [results, Try.f28, go_sem, co0, co1, co2]
    · have y0 := HB_27.out.size; exact ⟨⟨⟨⟨false, A1, k1, e1⟩, A3, k3, e3⟩, rfl, (HFIN.out.dk ((((Dk.refl _).set (cs := #[.bool false, .slice none 0 0, .slice none 0 0]) Bo_26.out 0 (by intro _ hh; cases hh) (.bool false)).set (cs := #[(.bool false), .slice none 0 0, .slice none 0 0]) (Bo_26.out.set 0 (.bool false)) 1 (by intro _ hh; cases hh) (.slice A1 k1 e1)).set (cs := #[(.bool false), (.slice A1 k1 e1), .slice none 0 0]) ((Bo_26.out.set 0 (.bool false)).set 1 (.slice A1 k1 e1)) 2 (by intro _ hh; cases hh) (.slice A3 k3 e3)))⟩, (below_st (below_st (below_st HB_27.out 0 (by omega) (.bool false)) 1 (by omega) (.slice A1 k1 e1)) 2 (by omega) (.slice A3 k3 e3))⟩
  by_cases hpq3 : pb = true ∧ qb = false
  · obtain ⟨rfl, rfl⟩ := hpq3
    by_cases hk : 0 < k1
    · obtain rfl : mb = true := by rw [hmb]; simp [hk]
      clear hmb
      have la := Ba_24.out.lt
      obtain ⟨ca0, ca1⟩ := Ba_24.out.cells2
      have lb := Bb_25.out.lt
      obtain ⟨cb0, cb1⟩ := Bb_25.out.cells2
      have lo := Bo_26.out.lt
      obtain ⟨co0, co1, co2⟩ := Bo_26.out.cells3
      have fo0 := Bo_26.out.free 0
      have fo1 := Bo_26.out.free 1
      have fo2 := Bo_26.out.free 2
      go_wp2
      refine bodyPost_ret (v := .tuple #[.agg #[.bool true, .slice A1 k1 e1, .slice A3 k3 e3], .int .i64 0]) ?_ rfl ?_
      · simp [results, Try.f28, go_sem, co0, co1, co2]
      · have y0 := HB_27.out.size; exact ⟨⟨⟨⟨true, A1, k1, e1⟩, A3, k3, e3⟩, rfl, (HFIN.out.dk ((((Dk.refl _).set (cs := #[.bool false, .slice none 0 0, .slice none 0 0]) Bo_26.out 0 (by intro _ hh; cases hh) (.bool true)).set (cs := #[(.bool true), .slice none 0 0, .slice none 0 0]) (Bo_26.out.set 0 (.bool true)) 1 (by intro _ hh; cases hh) (.slice A1 k1 e1)).set (cs := #[(.bool true), (.slice A1 k1 e1), .slice none 0 0]) ((Bo_26.out.set 0 (.bool true)).set 1 (.slice A1 k1 e1)) 2 (by intro _ hh; cases hh) (.slice A3 k3 e3)))⟩, (below_st (below_st (below_st HB_27.out 0 (by omega) (.bool true)) 1 (by omega) (.slice A1 k1 e1)) 2 (by omega) (.slice A3 k3 e3))⟩
    · obtain rfl : mb = false := by rw [hmb]; simp [hk]
      clear hmb
      obtain rfl : k1 = 0 := by omega
      clear hk
      have la := Ba_24.out.lt
      obtain ⟨ca0, ca1⟩ := Ba_24.out.cells2
      have lb := Bb_25.out.lt
      obtain ⟨cb0, cb1⟩ := Bb_25.out.cells2
      have lo := Bo_26.out.lt
      obtain ⟨co0, co1, co2⟩ := Bo_26.out.cells3
      have fo0 := Bo_26.out.free 0
      have fo1 := Bo_26.out.free 1
      have fo2 := Bo_26.out.free 2
      go_wp2
      refine bodyPost_ret (v := .tuple #[.agg #[.bool false, .slice A1 0 e1, .slice A3 k3 e3], .int .i64 0]) ?_ rfl ?_
      · simp [results, Try.f28, go_sem, co0, co1, co2]
      · have y0 := HB_27.out.size; exact ⟨⟨⟨⟨false, A1, 0, e1⟩, A3, k3, e3⟩, rfl, (HFIN.out.dk ((((Dk.refl _).set (cs := #[.bool false, .slice none 0 0, .slice none 0 0]) Bo_26.out 0 (by intro _ hh; cases hh) (.bool false)).set (cs := #[(.bool false), .slice none 0 0, .slice none 0 0]) (Bo_26.out.set 0 (.bool false)) 1 (by intro _ hh; cases hh) (.slice A1 0 e1)).set (cs := #[(.bool false), (.slice A1 0 e1), .slice none 0 0]) ((Bo_26.out.set 0 (.bool false)).set 1 (.slice A1 0 e1)) 2 (by intro _ hh; cases hh) (.slice A3 k3 e3)))⟩, (below_st (below_st (below_st HB_27.out 0 (by omega) (.bool false)) 1 (by omega) (.slice A1 0 e1)) 2 (by omega) (.slice A3 k3 e3))⟩
  obtain ⟨rfl, rfl⟩ : pb = false ∧ qb = true := by cases pb <;> cases qb <;> simp_all
  clear hpq hpq2 hpq3
  by_cases hk : 0 < k1
  · obtain rfl : mb = true := by rw [hmb]; simp [hk]
    clear hmb
    have la := Ba_24.out.lt
    obtain ⟨ca0, ca1⟩ := Ba_24.out.cells2
    have lb := Bb_25.out.lt
    obtain ⟨cb0, cb1⟩ := Bb_25.out.cells2
    have lo := Bo_26.out.lt
    obtain ⟨co0, co1, co2⟩ := Bo_26.out.cells3
    have fo0 := Bo_26.out.free 0
    have fo1 := Bo_26.out.free 1
    have fo2 := Bo_26.out.free 2
    go_wp2
    refine bodyPost_ret (v := .tuple #[.agg #[.bool true, .slice A1 k1 e1, .slice A3 k3 e3], .int .i64 0]) ?_ rfl ?_
    · simp [results, Try.f28, go_sem, co0, co1, co2]
    · have y0 := HB_27.out.size; exact ⟨⟨⟨⟨true, A1, k1, e1⟩, A3, k3, e3⟩, rfl, (HFIN.out.dk ((((Dk.refl _).set (cs := #[.bool false, .slice none 0 0, .slice none 0 0]) Bo_26.out 0 (by intro _ hh; cases hh) (.bool true)).set (cs := #[(.bool true), .slice none 0 0, .slice none 0 0]) (Bo_26.out.set 0 (.bool true)) 1 (by intro _ hh; cases hh) (.slice A1 k1 e1)).set (cs := #[(.bool true), (.slice A1 k1 e1), .slice none 0 0]) ((Bo_26.out.set 0 (.bool true)).set 1 (.slice A1 k1 e1)) 2 (by intro _ hh; cases hh) (.slice A3 k3 e3)))⟩, (below_st (below_st (below_st HB_27.out 0 (by omega) (.bool true)) 1 (by omega) (.slice A1 k1 e1)) 2 (by omega) (.slice A3 k3 e3))⟩
  · obtain rfl : mb = false := by rw [hmb]; simp [hk]
    clear hmb
    obtain rfl : k1 = 0 := by omega
    clear hk
    have la := Ba_24.out.lt
    obtain ⟨ca0, ca1⟩ := Ba_24.out.cells2
    have lb := Bb_25.out.lt
    obtain ⟨cb0, cb1⟩ := Bb_25.out.cells2
    have lo := Bo_26.out.lt
    obtain ⟨co0, co1, co2⟩ := Bo_26.out.cells3
    have fo0 := Bo_26.out.free 0
    have fo1 := Bo_26.out.free 1
    have fo2 := Bo_26.out.free 2
    go_wp2
    refine bodyPost_ret (v := .tuple #[.agg #[.bool false, .slice A1 0 e1, .slice A3 k3 e3], .int .i64 0]) ?_ rfl ?_
    · simp [results, Try.f28, go_sem, co0, co1, co2]
    · have y0 := HB_27.out.size; exact ⟨⟨⟨⟨false, A1, 0, e1⟩, A3, k3, e3⟩, rfl, (HFIN.out.dk ((((Dk.refl _).set (cs := #[.bool false, .slice none 0 0, .slice none 0 0]) Bo_26.out 0 (by intro _ hh; cases hh) (.bool false)).set (cs := #[(.bool false), .slice none 0 0, .slice none 0 0]) (Bo_26.out.set 0 (.bool false)) 1 (by intro _ hh; cases hh) (.slice A1 0 e1)).set (cs := #[(.bool false), (.slice A1 0 e1), .slice none 0 0]) ((Bo_26.out.set 0 (.bool false)).set 1 (.slice A1 0 e1)) 2 (by intro _ hh; cases hh) (.slice A3 k3 e3)))⟩, (below_st (below_st (below_st HB_27.out 0 (by omega) (.bool false)) 1 (by omega) (.slice A1 0 e1)) 2 (by omega) (.slice A3 k3 e3))⟩

set_option maxRecDepth 100000 in
set_option maxHeartbeats 4000000 in
theorem rof_any (w : World) (a b : Int) (h0 : b ≠ 0) (ha : -1000000 ≤ a ∧ a ≤ 1000000) (hb : -1000000 ≤ b ∧ b ≤ 1000000) (na : nb a.natAbs ≤ 16384) (nb' : nb b.natAbs ≤ 16384) :
    Calls Try.prog 12 #[.int .i64 a, .int .i64 b] w fun e w' => (∃ t : TQ, e = .returned (.agg #[.bool t.q.b, .slice t.q.A t.q.n t.q.c, .slice t.A t.n t.c]) ∧ RR w' t (Rat.divInt a b)) ∧ Below w.heap.size w w' := by
  have BX := Lib.hid (boxes1 w 32 #[.bool false, .slice none 0 0, .slice none 0 0])
  go_enter Try.func12, Try.ntmps12
  go_wp2_with fail
  generalize w.alloc (.cells #[.bool false, .slice none 0 0, .slice none 0 0] 32) = w0 at *
  obtain ⟨b0, hw⟩ := BX.out
  have Bo_0 := Lib.hid b0
  have HB_0 := Lib.hid hw
  have K := Dk.below (hw.mono (Nat.le_refl _))
  clear BX hw b0
  clear K
  have lo := Bo_0.out.lt
  obtain ⟨co0, co1, co2⟩ := Bo_0.out.cells3
  go_wp2_with fail
  refine (wOf_q _ a (by omega) (by omega)).mono ?_
  rintro e w1 ⟨⟨p, rfl, hp⟩, hb⟩
  clear lo co0 co1 co2
  have K := Dk.below hb
  have Bo_1 := Lib.hid (show Bk _ _ _ #[.bool false, .slice none 0 0, .slice none 0 0] from Bo_0.out.below hb)
  have HB_2 := Lib.hid (below_tr HB_0.out hb)
  clear hb
  clear K Bo_0 HB_0
  have RP_3 := Lib.hid hp
  clear hp
  have lo := Bo_1.out.lt
  obtain ⟨co0, co1, co2⟩ := Bo_1.out.cells3
  go_wp2_with fail
  refine (wOf_q _ b (by omega) (by omega)).mono ?_
  rintro e w2 ⟨⟨q, rfl, hq⟩, hb⟩
  clear lo co0 co1 co2
  have K := Dk.below hb
  have Bo_4 := Lib.hid (show Bk _ _ _ #[.bool false, .slice none 0 0, .slice none 0 0] from Bo_1.out.below hb)
  have HB_5 := Lib.hid (below_tr HB_2.out hb)
  clear hb
  have RP_6 := Lib.hid (RP_3.out.dk K)
  clear K Bo_1 HB_2 RP_3
  have RQ_7 := Lib.hid hq
  clear hq
  have lo := Bo_4.out.lt
  obtain ⟨co0, co1, co2⟩ := Bo_4.out.cells3
  go_wp2_with fail
  refine (rmake_any _ p q a b RP_6.out RQ_7.out h0 na nb').mono ?_
  rintro e w3 ⟨⟨t, rfl, ht⟩, hb⟩
  clear lo co0 co1 co2
  have K := Dk.below hb
  have Bo_8 := Lib.hid (show Bk _ _ _ #[.bool false, .slice none 0 0, .slice none 0 0] from Bo_4.out.below hb)
  have HB_9 := Lib.hid (below_tr HB_5.out hb)
  clear hb
  have RP_10 := Lib.hid (RP_6.out.dk K)
  have RQ_11 := Lib.hid (RQ_7.out.dk K)
  clear K Bo_4 HB_5 RP_6 RQ_7
  have RT_12 := Lib.hid ht
  clear ht
  have lo := Bo_8.out.lt
  obtain ⟨co0, co1, co2⟩ := Bo_8.out.cells3
  have fo0 := Bo_8.out.free 0
  have fo1 := Bo_8.out.free 1
  have fo2 := Bo_8.out.free 2
  have n_13 := Bo_8.out.lt
  go_wp2
  clear lo co0 co1 co2 fo0 fo1 fo2
  have K : Dk w3 ((((w3.setCell ⟨w.heap.size, 0, none⟩ (.bool t.q.b)).setCell ⟨w.heap.size, 1, none⟩ (.slice t.q.A t.q.n t.q.c)).setCell ⟨w.heap.size, 2, none⟩ (.slice t.A t.n t.c)).alloc (.cells #[.bool t.q.b, .slice t.q.A t.q.n t.q.c, .slice t.A t.n t.c] 32)) := (((((Dk.refl _).set (cs := #[.bool false, .slice none 0 0, .slice none 0 0]) Bo_8.out 0 (by intro _ hh; cases hh) (.bool t.q.b)).set (cs := #[.bool t.q.b, .slice none 0 0, .slice none 0 0]) (Bo_8.out.set 0 (.bool t.q.b)) 1 (by intro _ hh; cases hh) (.slice t.q.A t.q.n t.q.c)).set (cs := #[.bool t.q.b, .slice t.q.A t.q.n t.q.c, .slice none 0 0]) ((Bo_8.out.set 0 (.bool t.q.b)).set 1 (.slice t.q.A t.q.n t.q.c)) 2 (by intro _ hh; cases hh) (.slice t.A t.n t.c)).alloc _)
  have Bo_14 := Lib.hid (show Bk ((((w3.setCell ⟨w.heap.size, 0, none⟩ (.bool t.q.b)).setCell ⟨w.heap.size, 1, none⟩ (.slice t.q.A t.q.n t.q.c)).setCell ⟨w.heap.size, 2, none⟩ (.slice t.A t.n t.c)).alloc (.cells #[.bool t.q.b, .slice t.q.A t.q.n t.q.c, .slice t.A t.n t.c] 32)) (w.heap.size) 32 #[.bool t.q.b, .slice t.q.A t.q.n t.q.c, .slice t.A t.n t.c] from ((((Bo_8.out.set 0 (.bool t.q.b)).set 1 (.slice t.q.A t.q.n t.q.c)).set 2 (.slice t.A t.n t.c)).alloc _))
  have y0 := HB_9.out.size; have HB_15 := Lib.hid (show Below w.heap.size w ((((w3.setCell ⟨w.heap.size, 0, none⟩ (.bool t.q.b)).setCell ⟨w.heap.size, 1, none⟩ (.slice t.q.A t.q.n t.q.c)).setCell ⟨w.heap.size, 2, none⟩ (.slice t.A t.n t.c)).alloc (.cells #[.bool t.q.b, .slice t.q.A t.q.n t.q.c, .slice t.A t.n t.c] 32)) from (below_al (below_st (below_st (below_st HB_9.out 0 (by omega) (.bool t.q.b)) 1 (by omega) (.slice t.q.A t.q.n t.q.c)) 2 (by omega) (.slice t.A t.n t.c)) _)); clear y0
  have RP_16 := Lib.hid (RP_10.out.dk K)
  have RQ_17 := Lib.hid (RQ_11.out.dk K)
  have RT_18 := Lib.hid (RT_12.out.dk K)
  clear K Bo_8 HB_9 RP_10 RQ_11 RT_12
  generalize (((w3.setCell ⟨w.heap.size, 0, none⟩ (.bool t.q.b)).setCell ⟨w.heap.size, 1, none⟩ (.slice t.q.A t.q.n t.q.c)).setCell ⟨w.heap.size, 2, none⟩ (.slice t.A t.n t.c)).alloc (.cells #[.bool t.q.b, .slice t.q.A t.q.n t.q.c, .slice t.A t.n t.c] 32) = w4 at *
  have lo := Bo_14.out.lt
  obtain ⟨co0, co1, co2⟩ := Bo_14.out.cells3
  refine bodyPost_ret (v := .agg #[.bool t.q.b, .slice t.q.A t.q.n t.q.c, .slice t.A t.n t.c]) ?_ rfl ?_
  · simp [results, Try.f12, go_sem, co0, co1, co2]
  · exact ⟨⟨t, rfl, RT_18.out⟩, HB_15.out⟩

end Go.Proofs.Ytgioppkggpfnoaa.Nu
end

section
/- The walk of ratio.Add. -/
set_option linter.unusedVariables false
namespace Go.Proofs.Ytgioppkggpfnoaa.Nu
open Go.RowKit Go.Proofs

set_option maxRecDepth 100000 in
set_option maxHeartbeats 4000000 in
theorem radd_any (w : World) (t u : TQ) (x y : Rat) (a b : Nat) (h : RR w t x) (h2 : RR w u y) (la : RLim a x) (lb : RLim b y) (hab : a + b ≤ 15900) :
    Calls Try.prog 35 #[.agg #[.bool t.q.b, .slice t.q.A t.q.n t.q.c, .slice t.A t.n t.c], .agg #[.bool u.q.b, .slice u.q.A u.q.n u.q.c, .slice u.A u.n u.c]] w fun e w' => (∃ t : TQ, e = .returned (.tuple #[.agg #[.bool t.q.b, .slice t.q.A t.q.n t.q.c, .slice t.A t.n t.c], .int .i64 0]) ∧ RR w' t (x + y)) ∧ Below w.heap.size w w' := by
  have LA := Lib.hid la
  have LB := Lib.hid lb
  have d1 := la.1
  have d2 := la.2
  have d3 := lb.1
  have d4 := lb.2
  have ii1 : nb ((x.den : Int)).natAbs ≤ a := d2
  have ii2 : nb ((y.den : Int)).natAbs ≤ b := d4
  have HA := Lib.hid h
  have HB := Lib.hid h2
  clear h h2 la lb
  have BX := Lib.hid (boxes3 w 32 #[.bool t.q.b, .slice t.q.A t.q.n t.q.c, .slice t.A t.n t.c] 32 #[.bool u.q.b, .slice u.q.A u.q.n u.q.c, .slice u.A u.n u.c] 32 #[.bool false, .slice none 0 0, .slice none 0 0])
  go_enter Try.func35, Try.ntmps35
  go_upto_region 1 with (fail)
  generalize ((w.alloc (.cells #[.bool t.q.b, .slice t.q.A t.q.n t.q.c, .slice t.A t.n t.c] 32)).alloc (.cells #[.bool u.q.b, .slice u.q.A u.q.n u.q.c, .slice u.A u.n u.c] 32)).alloc (.cells #[.bool false, .slice none 0 0, .slice none 0 0] 32) = w0 at *
  obtain ⟨b0, b1, b2, hw⟩ := BX.out
  have Ba_0 := Lib.hid b0
  have Bb_0 := Lib.hid b1
  have Bo_0 := Lib.hid b2
  have HB_0 := Lib.hid hw
  have K := Dk.below (hw.mono (Nat.le_refl _))
  clear BX hw b0 b1 b2
  have RA_1 := Lib.hid (HA.out.dk K)
  have RB_2 := Lib.hid (HB.out.dk K)
  clear K HA HB
  go_upto_region 1 with (fail)
  have la := Ba_0.out.lt
  obtain ⟨ca0, ca1, ca2⟩ := Ba_0.out.cells3
  have lb := Bb_0.out.lt
  obtain ⟨cb0, cb1, cb2⟩ := Bb_0.out.cells3
  have lo := Bo_0.out.lt
  obtain ⟨co0, co1, co2⟩ := Bo_0.out.cells3
  go_cut [6, 7] (fun s6 s7 wx => ∃ (g_3 : Nat) (vx : Q), s6 = .pointer (some ⟨g_3, 0, none⟩) ∧ s7 = .int .i64 0 ∧ w.heap.size < g_3 ∧ w.heap.size + 1 < g_3 ∧ w.heap.size + 2 < g_3 ∧ Bk wx g_3 30 #[.bool vx.b, .slice vx.A vx.n vx.c] ∧ Bk wx (w.heap.size) 32 #[.bool t.q.b, .slice t.q.A t.q.n t.q.c, .slice t.A t.n t.c] ∧ Bk wx (w.heap.size + 1) 32 #[.bool u.q.b, .slice u.q.A u.q.n u.q.c, .slice u.A u.n u.c] ∧ Bk wx (w.heap.size + 2) 32 #[.bool false, .slice none 0 0, .slice none 0 0] ∧ Below w.heap.size w wx ∧ RR wx t x ∧ RR wx u y ∧ RW wx vx (x.num * (y.den : Int)))
  case first =>
    obtain ⟨SX1, hS1⟩ : ∃ S : World → Prop, ∀ w', S w' ↔ (w'.cell? ⟨w.heap.size, 0, none⟩ = some (.bool t.q.b) ∧ w'.cell? ⟨w.heap.size, 1, none⟩ = some (.slice t.q.A t.q.n t.q.c) ∧ w'.cell? ⟨w.heap.size, 2, none⟩ = some (.slice t.A t.n t.c) ∧ w'.cell? ⟨w.heap.size + 1, 0, none⟩ = some (.bool u.q.b) ∧ w'.cell? ⟨w.heap.size + 1, 1, none⟩ = some (.slice u.q.A u.q.n u.q.c) ∧ w'.cell? ⟨w.heap.size + 1, 2, none⟩ = some (.slice u.A u.n u.c)) := ⟨_, fun _ => Iff.rfl⟩
    have k_4 : SX1 (w0) := (hS1 _).2 ⟨Ba_0.out.cell 0 rfl, Ba_0.out.cell 1 rfl, Ba_0.out.cell 2 rfl, Bb_0.out.cell 0 rfl, Bb_0.out.cell 1 rfl, Bb_0.out.cell 2 rfl⟩
    have k_5 : SX1 (w0.drew) := (hS1 _).2 ⟨(Ba_0.out.drew).cell 0 rfl, (Ba_0.out.drew).cell 1 rfl, (Ba_0.out.drew).cell 2 rfl, (Bb_0.out.drew).cell 0 rfl, (Bb_0.out.drew).cell 1 rfl, (Bb_0.out.drew).cell 2 rfl⟩
    have tok_6 : True := trivial
    have tok_7 : True := trivial
    have tok_8 : True := trivial
    have tok_9 : True := trivial
    have tok_10 : True := trivial
    have k_11 : SX1 ((w0.alloc (.cells #[.bool false, .slice none 0 0] 30)).drew) := (hS1 _).2 ⟨((Ba_0.out.alloc _).drew).cell 0 rfl, ((Ba_0.out.alloc _).drew).cell 1 rfl, ((Ba_0.out.alloc _).drew).cell 2 rfl, ((Bb_0.out.alloc _).drew).cell 0 rfl, ((Bb_0.out.alloc _).drew).cell 1 rfl, ((Bb_0.out.alloc _).drew).cell 2 rfl⟩
    go_region_held3 (fun w' => w'.cell? ⟨w.heap.size, 0, none⟩ = some (.bool t.q.b) ∧ w'.cell? ⟨w.heap.size, 1, none⟩ = some (.slice t.q.A t.q.n t.q.c) ∧ w'.cell? ⟨w.heap.size, 2, none⟩ = some (.slice t.A t.n t.c) ∧ w'.cell? ⟨w.heap.size + 1, 0, none⟩ = some (.bool u.q.b) ∧ w'.cell? ⟨w.heap.size + 1, 1, none⟩ = some (.slice u.q.A u.q.n u.q.c) ∧ w'.cell? ⟨w.heap.size + 1, 2, none⟩ = some (.slice u.A u.n u.c)) (first | with_reducible exact (hS1 _).1 k_4 | with_reducible exact (hS1 _).1 k_5 | with_reducible exact (hS1 _).1 k_11 | with_reducible exact (hS1 _).1 k_20 | with_reducible exact (hS1 _).1 k_21 | with_reducible exact (hS1 _).1 k_35 | with_reducible exact (hS1 _).1 k_46 | with_reducible exact (hS1 _).1 k_50 | with_reducible exact (hS1 _).1 k_51 | with_reducible exact (hS1 _).1 k_66 | with_reducible exact (hS1 _).1 k_67 | with_reducible exact (hS1 _).1 k_79 | with_reducible exact (hS1 _).1 k_80)
      (first
       | (clear tok_6; go_at_call 25; (with_reducible refine (rden_any (w0.drew) u y (RB_2.out.dk ((Dk.refl _).drew)) (by omega)).mono ?_); rintro e w_12 ⟨⟨r1, rfl, hr⟩, hb⟩; clear la ca0 ca1 ca2 lb cb0 cb1 cb2 lo co0 co1 co2 k_4 k_5 k_11; have K := Dk.trans ((Dk.refl _).drew) (.below hb); have Ba_13 := Lib.hid (show Bk _ _ _ #[.bool t.q.b, .slice t.q.A t.q.n t.q.c, .slice t.A t.n t.c] from (Ba_0.out.drew).below hb); have Bb_14 := Lib.hid (show Bk _ _ _ #[.bool u.q.b, .slice u.q.A u.q.n u.q.c, .slice u.A u.n u.c] from (Bb_0.out.drew).below hb); have Bo_15 := Lib.hid (show Bk _ _ _ #[.bool false, .slice none 0 0, .slice none 0 0] from (Bo_0.out.drew).below hb); have HB_16 := Lib.hid (below_tr (below_dr HB_0.out) hb); clear hb; have RA_17 := Lib.hid (RA_1.out.dk K); have RB_18 := Lib.hid (RB_2.out.dk K); clear K Ba_0 Bb_0 Bo_0 HB_0 RA_1 RB_2; have D1_19 := Lib.hid hr; clear hr; have la := Ba_13.out.lt; obtain ⟨ca0, ca1, ca2⟩ := Ba_13.out.cells3; have lb := Bb_14.out.lt; obtain ⟨cb0, cb1, cb2⟩ := Bb_14.out.cells3; have lo := Bo_15.out.lt; obtain ⟨co0, co1, co2⟩ := Bo_15.out.cells3; have k_20 : SX1 (w_12) := (hS1 _).2 ⟨Ba_13.out.cell 0 rfl, Ba_13.out.cell 1 rfl, Ba_13.out.cell 2 rfl, Bb_14.out.cell 0 rfl, Bb_14.out.cell 1 rfl, Bb_14.out.cell 2 rfl⟩; have k_21 : SX1 (w_12.alloc (.cells #[.bool false, .slice none 0 0] 30)) := (hS1 _).2 ⟨(Ba_13.out.alloc _).cell 0 rfl, (Ba_13.out.alloc _).cell 1 rfl, (Ba_13.out.alloc _).cell 2 rfl, (Bb_14.out.alloc _).cell 0 rfl, (Bb_14.out.alloc _).cell 1 rfl, (Bb_14.out.alloc _).cell 2 rfl⟩)
       | (clear tok_8; have n_23 := Ba_0.out.lt; have n_24 := Bb_0.out.lt; have n_25 := Bo_0.out.lt; go_at_call 25; (with_reducible refine (rden_any ((w0.alloc (.cells #[.bool false, .slice none 0 0] 30)).drew) u y (RB_2.out.dk (((Dk.refl _).alloc _).drew)) (by omega)).mono ?_); rintro e w_26 ⟨⟨r1, rfl, hr⟩, hb⟩; clear la ca0 ca1 ca2 lb cb0 cb1 cb2 lo co0 co1 co2 k_4 k_5 k_11; have K := Dk.trans (((Dk.refl _).alloc _).drew) (.below hb); have Ba_27 := Lib.hid (show Bk _ _ _ #[.bool t.q.b, .slice t.q.A t.q.n t.q.c, .slice t.A t.n t.c] from ((Ba_0.out.alloc _).drew).below hb); have Bb_28 := Lib.hid (show Bk _ _ _ #[.bool u.q.b, .slice u.q.A u.q.n u.q.c, .slice u.A u.n u.c] from ((Bb_0.out.alloc _).drew).below hb); have Bo_29 := Lib.hid (show Bk _ _ _ #[.bool false, .slice none 0 0, .slice none 0 0] from ((Bo_0.out.alloc _).drew).below hb); have Bvx_30 := Lib.hid (show Bk _ _ _ #[.bool false, .slice none 0 0] from ((Bk.new _ 30 #[.bool false, .slice none 0 0]).drew).below hb); have HB_31 := Lib.hid (below_tr (below_dr (below_al HB_0.out _)) hb); clear hb; have RA_32 := Lib.hid (RA_1.out.dk K); have RB_33 := Lib.hid (RB_2.out.dk K); clear K Ba_0 Bb_0 Bo_0 HB_0 RA_1 RB_2; have D1_34 := Lib.hid hr; clear hr; have la := Ba_27.out.lt; obtain ⟨ca0, ca1, ca2⟩ := Ba_27.out.cells3; have lb := Bb_28.out.lt; obtain ⟨cb0, cb1, cb2⟩ := Bb_28.out.cells3; have lo := Bo_29.out.lt; obtain ⟨co0, co1, co2⟩ := Bo_29.out.cells3; have lvx := Bvx_30.out.lt; obtain ⟨cvx0, cvx1⟩ := Bvx_30.out.cells2; have fvx0 := Bvx_30.out.free 0; have fvx1 := Bvx_30.out.free 1; have k_35 : SX1 (w_26) := (hS1 _).2 ⟨Ba_27.out.cell 0 rfl, Ba_27.out.cell 1 rfl, Ba_27.out.cell 2 rfl, Bb_28.out.cell 0 rfl, Bb_28.out.cell 1 rfl, Bb_28.out.cell 2 rfl⟩)
       | (clear tok_7; go_at_call 24; (with_reducible refine (wmul_q (w_12) t.q r1 x.num (y.den : Int) RA_17.out.rw D1_19.out (by omega)).mono ?_); rintro e w_37 ⟨⟨vx, rfl, hr⟩, hb⟩; clear la ca0 ca1 ca2 lb cb0 cb1 cb2 lo co0 co1 co2 k_20 k_21; have K := Dk.below hb; have Ba_38 := Lib.hid (show Bk _ _ _ #[.bool t.q.b, .slice t.q.A t.q.n t.q.c, .slice t.A t.n t.c] from Ba_13.out.below hb); have Bb_39 := Lib.hid (show Bk _ _ _ #[.bool u.q.b, .slice u.q.A u.q.n u.q.c, .slice u.A u.n u.c] from Bb_14.out.below hb); have Bo_40 := Lib.hid (show Bk _ _ _ #[.bool false, .slice none 0 0, .slice none 0 0] from Bo_15.out.below hb); have HB_41 := Lib.hid (below_tr HB_16.out hb); clear hb; have RA_42 := Lib.hid (RA_17.out.dk K); have RB_43 := Lib.hid (RB_18.out.dk K); have D1_44 := Lib.hid (D1_19.out.dk K); clear K Ba_13 Bb_14 Bo_15 HB_16 RA_17 RB_18 D1_19; have RX_45 := Lib.hid hr; clear hr; have la := Ba_38.out.lt; obtain ⟨ca0, ca1, ca2⟩ := Ba_38.out.cells3; have lb := Bb_39.out.lt; obtain ⟨cb0, cb1, cb2⟩ := Bb_39.out.cells3; have lo := Bo_40.out.lt; obtain ⟨co0, co1, co2⟩ := Bo_40.out.cells3; have k_46 : SX1 (w_37) := (hS1 _).2 ⟨Ba_38.out.cell 0 rfl, Ba_38.out.cell 1 rfl, Ba_38.out.cell 2 rfl, Bb_39.out.cell 0 rfl, Bb_39.out.cell 1 rfl, Bb_39.out.cell 2 rfl⟩; have n_47 := Ba_38.out.lt; have n_48 := Bb_39.out.lt; have n_49 := Bo_40.out.lt; have k_50 : SX1 (w_37.alloc (.cells #[.bool false, .slice none 0 0] 30)) := (hS1 _).2 ⟨(Ba_38.out.alloc _).cell 0 rfl, (Ba_38.out.alloc _).cell 1 rfl, (Ba_38.out.alloc _).cell 2 rfl, (Bb_39.out.alloc _).cell 0 rfl, (Bb_39.out.alloc _).cell 1 rfl, (Bb_39.out.alloc _).cell 2 rfl⟩; have k_51 : SX1 (w_37.alloc (.cells #[.bool vx.b, .slice vx.A vx.n vx.c] 30)) := (hS1 _).2 ⟨(Ba_38.out.alloc _).cell 0 rfl, (Ba_38.out.alloc _).cell 1 rfl, (Ba_38.out.alloc _).cell 2 rfl, (Bb_39.out.alloc _).cell 0 rfl, (Bb_39.out.alloc _).cell 1 rfl, (Bb_39.out.alloc _).cell 2 rfl⟩)
       | (clear tok_10; have n_53 := Ba_13.out.lt; have n_54 := Bb_14.out.lt; have n_55 := Bo_15.out.lt; go_at_call 24; (with_reducible refine (wmul_q (w_12.alloc (.cells #[.bool false, .slice none 0 0] 30)) t.q r1 x.num (y.den : Int) (RA_17.out.dk ((Dk.refl _).alloc _)).rw (D1_19.out.dk ((Dk.refl _).alloc _)) (by omega)).mono ?_); rintro e w_56 ⟨⟨vx, rfl, hr⟩, hb⟩; clear la ca0 ca1 ca2 lb cb0 cb1 cb2 lo co0 co1 co2 k_20 k_21; have K := Dk.trans ((Dk.refl _).alloc _) (.below hb); have Ba_57 := Lib.hid (show Bk _ _ _ #[.bool t.q.b, .slice t.q.A t.q.n t.q.c, .slice t.A t.n t.c] from (Ba_13.out.alloc _).below hb); have Bb_58 := Lib.hid (show Bk _ _ _ #[.bool u.q.b, .slice u.q.A u.q.n u.q.c, .slice u.A u.n u.c] from (Bb_14.out.alloc _).below hb); have Bo_59 := Lib.hid (show Bk _ _ _ #[.bool false, .slice none 0 0, .slice none 0 0] from (Bo_15.out.alloc _).below hb); have Bvx_60 := Lib.hid (show Bk _ _ _ #[.bool false, .slice none 0 0] from (Bk.new _ 30 #[.bool false, .slice none 0 0]).below hb); have HB_61 := Lib.hid (below_tr (below_al HB_16.out _) hb); clear hb; have RA_62 := Lib.hid (RA_17.out.dk K); have RB_63 := Lib.hid (RB_18.out.dk K); have D1_64 := Lib.hid (D1_19.out.dk K); clear K Ba_13 Bb_14 Bo_15 HB_16 RA_17 RB_18 D1_19; have RX_65 := Lib.hid hr; clear hr; have la := Ba_57.out.lt; obtain ⟨ca0, ca1, ca2⟩ := Ba_57.out.cells3; have lb := Bb_58.out.lt; obtain ⟨cb0, cb1, cb2⟩ := Bb_58.out.cells3; have lo := Bo_59.out.lt; obtain ⟨co0, co1, co2⟩ := Bo_59.out.cells3; have lvx := Bvx_60.out.lt; obtain ⟨cvx0, cvx1⟩ := Bvx_60.out.cells2; have fvx0 := Bvx_60.out.free 0; have fvx1 := Bvx_60.out.free 1; have k_66 : SX1 (w_56) := (hS1 _).2 ⟨Ba_57.out.cell 0 rfl, Ba_57.out.cell 1 rfl, Ba_57.out.cell 2 rfl, Bb_58.out.cell 0 rfl, Bb_58.out.cell 1 rfl, Bb_58.out.cell 2 rfl⟩; have y0 := Ba_57.out.lt; have y1 := Bb_58.out.lt; have y2 := Bo_59.out.lt; have y3 := Bvx_60.out.lt; have y4 := HB_61.out.size; have k_67 : SX1 ((w_56.setCell ⟨w_12.heap.size, 0, none⟩ (.bool vx.b)).setCell ⟨w_12.heap.size, 1, none⟩ (.slice vx.A vx.n vx.c)) := (hS1 _).2 ⟨((Ba_57.out.ne (by omega) 0 (.bool vx.b)).ne (by omega) 1 (.slice vx.A vx.n vx.c)).cell 0 rfl, ((Ba_57.out.ne (by omega) 0 (.bool vx.b)).ne (by omega) 1 (.slice vx.A vx.n vx.c)).cell 1 rfl, ((Ba_57.out.ne (by omega) 0 (.bool vx.b)).ne (by omega) 1 (.slice vx.A vx.n vx.c)).cell 2 rfl, ((Bb_58.out.ne (by omega) 0 (.bool vx.b)).ne (by omega) 1 (.slice vx.A vx.n vx.c)).cell 0 rfl, ((Bb_58.out.ne (by omega) 0 (.bool vx.b)).ne (by omega) 1 (.slice vx.A vx.n vx.c)).cell 1 rfl, ((Bb_58.out.ne (by omega) 0 (.bool vx.b)).ne (by omega) 1 (.slice vx.A vx.n vx.c)).cell 2 rfl⟩; clear y0 y1 y2 y3 y4)
       | (clear tok_9; go_at_call 24; (with_reducible refine (wmul_q (w_26) t.q r1 x.num (y.den : Int) RA_32.out.rw D1_34.out (by omega)).mono ?_); rintro e w_69 ⟨⟨vx, rfl, hr⟩, hb⟩; clear la ca0 ca1 ca2 lb cb0 cb1 cb2 lo co0 co1 co2 lvx cvx0 cvx1 fvx0 fvx1 k_35; have K := Dk.below hb; have Ba_70 := Lib.hid (show Bk _ _ _ #[.bool t.q.b, .slice t.q.A t.q.n t.q.c, .slice t.A t.n t.c] from Ba_27.out.below hb); have Bb_71 := Lib.hid (show Bk _ _ _ #[.bool u.q.b, .slice u.q.A u.q.n u.q.c, .slice u.A u.n u.c] from Bb_28.out.below hb); have Bo_72 := Lib.hid (show Bk _ _ _ #[.bool false, .slice none 0 0, .slice none 0 0] from Bo_29.out.below hb); have Bvx_73 := Lib.hid (show Bk _ _ _ #[.bool false, .slice none 0 0] from Bvx_30.out.below hb); have HB_74 := Lib.hid (below_tr HB_31.out hb); clear hb; have RA_75 := Lib.hid (RA_32.out.dk K); have RB_76 := Lib.hid (RB_33.out.dk K); have D1_77 := Lib.hid (D1_34.out.dk K); clear K Ba_27 Bb_28 Bo_29 Bvx_30 HB_31 RA_32 RB_33 D1_34; have RX_78 := Lib.hid hr; clear hr; have la := Ba_70.out.lt; obtain ⟨ca0, ca1, ca2⟩ := Ba_70.out.cells3; have lb := Bb_71.out.lt; obtain ⟨cb0, cb1, cb2⟩ := Bb_71.out.cells3; have lo := Bo_72.out.lt; obtain ⟨co0, co1, co2⟩ := Bo_72.out.cells3; have lvx := Bvx_73.out.lt; obtain ⟨cvx0, cvx1⟩ := Bvx_73.out.cells2; have fvx0 := Bvx_73.out.free 0; have fvx1 := Bvx_73.out.free 1; have k_79 : SX1 (w_69) := (hS1 _).2 ⟨Ba_70.out.cell 0 rfl, Ba_70.out.cell 1 rfl, Ba_70.out.cell 2 rfl, Bb_71.out.cell 0 rfl, Bb_71.out.cell 1 rfl, Bb_71.out.cell 2 rfl⟩; have y0 := Ba_70.out.lt; have y1 := Bb_71.out.lt; have y2 := Bo_72.out.lt; have y3 := Bvx_73.out.lt; have y4 := HB_74.out.size; have k_80 : SX1 ((w_69.setCell ⟨w0.heap.size, 0, none⟩ (.bool vx.b)).setCell ⟨w0.heap.size, 1, none⟩ (.slice vx.A vx.n vx.c)) := (hS1 _).2 ⟨((Ba_70.out.ne (by omega) 0 (.bool vx.b)).ne (by omega) 1 (.slice vx.A vx.n vx.c)).cell 0 rfl, ((Ba_70.out.ne (by omega) 0 (.bool vx.b)).ne (by omega) 1 (.slice vx.A vx.n vx.c)).cell 1 rfl, ((Ba_70.out.ne (by omega) 0 (.bool vx.b)).ne (by omega) 1 (.slice vx.A vx.n vx.c)).cell 2 rfl, ((Bb_71.out.ne (by omega) 0 (.bool vx.b)).ne (by omega) 1 (.slice vx.A vx.n vx.c)).cell 0 rfl, ((Bb_71.out.ne (by omega) 0 (.bool vx.b)).ne (by omega) 1 (.slice vx.A vx.n vx.c)).cell 1 rfl, ((Bb_71.out.ne (by omega) 0 (.bool vx.b)).ne (by omega) 1 (.slice vx.A vx.n vx.c)).cell 2 rfl⟩; clear y0 y1 y2 y3 y4)
       | fail)
    all_goals (go_wp2_with fail; go_meet; first | (have y0 := Ba_38.out.lt; have y1 := Bb_39.out.lt; have y2 := Bo_40.out.lt; have y3 := HB_41.out.size; exact ⟨w_37.heap.size, vx, rfl, rfl, (by omega), (by omega), (by omega), (Bk.new _ 30 #[.bool vx.b, .slice vx.A vx.n vx.c]), (Ba_38.out.alloc _), (Bb_39.out.alloc _), (Bo_40.out.alloc _), (below_al HB_41.out _), (RA_42.out.dk ((Dk.refl _).alloc _)), (RB_43.out.dk ((Dk.refl _).alloc _)), (RX_45.out.dk ((Dk.refl _).alloc _))⟩) | (have y0 := Ba_70.out.lt; have y1 := Bb_71.out.lt; have y2 := Bo_72.out.lt; have y3 := Bvx_73.out.lt; have y4 := HB_74.out.size; exact ⟨w0.heap.size, vx, rfl, rfl, (by omega), (by omega), (by omega), ((Bvx_73.out.set 0 (.bool vx.b)).set 1 (.slice vx.A vx.n vx.c)), ((Ba_70.out.ne (by omega) 0 (.bool vx.b)).ne (by omega) 1 (.slice vx.A vx.n vx.c)), ((Bb_71.out.ne (by omega) 0 (.bool vx.b)).ne (by omega) 1 (.slice vx.A vx.n vx.c)), ((Bo_72.out.ne (by omega) 0 (.bool vx.b)).ne (by omega) 1 (.slice vx.A vx.n vx.c)), (below_st (below_st HB_74.out 0 (by omega) (.bool vx.b)) 1 (by omega) (.slice vx.A vx.n vx.c)), (RA_75.out.dk (((Dk.refl _).set (cs := #[.bool false, .slice none 0 0]) Bvx_73.out 0 (by intro _ hh; cases hh) (.bool vx.b)).set (cs := #[.bool vx.b, .slice none 0 0]) (Bvx_73.out.set 0 (.bool vx.b)) 1 (by intro _ hh; cases hh) (.slice vx.A vx.n vx.c))), (RB_76.out.dk (((Dk.refl _).set (cs := #[.bool false, .slice none 0 0]) Bvx_73.out 0 (by intro _ hh; cases hh) (.bool vx.b)).set (cs := #[.bool vx.b, .slice none 0 0]) (Bvx_73.out.set 0 (.bool vx.b)) 1 (by intro _ hh; cases hh) (.slice vx.A vx.n vx.c))), (RX_78.out.dk (((Dk.refl _).set (cs := #[.bool false, .slice none 0 0]) Bvx_73.out 0 (by intro _ hh; cases hh) (.bool vx.b)).set (cs := #[.bool vx.b, .slice none 0 0]) (Bvx_73.out.set 0 (.bool vx.b)) 1 (by intro _ hh; cases hh) (.slice vx.A vx.n vx.c)))⟩) | (have y0 := Ba_57.out.lt; have y1 := Bb_58.out.lt; have y2 := Bo_59.out.lt; have y3 := Bvx_60.out.lt; have y4 := HB_61.out.size; exact ⟨w_12.heap.size, vx, rfl, rfl, (by omega), (by omega), (by omega), ((Bvx_60.out.set 0 (.bool vx.b)).set 1 (.slice vx.A vx.n vx.c)), ((Ba_57.out.ne (by omega) 0 (.bool vx.b)).ne (by omega) 1 (.slice vx.A vx.n vx.c)), ((Bb_58.out.ne (by omega) 0 (.bool vx.b)).ne (by omega) 1 (.slice vx.A vx.n vx.c)), ((Bo_59.out.ne (by omega) 0 (.bool vx.b)).ne (by omega) 1 (.slice vx.A vx.n vx.c)), (below_st (below_st HB_61.out 0 (by omega) (.bool vx.b)) 1 (by omega) (.slice vx.A vx.n vx.c)), (RA_62.out.dk (((Dk.refl _).set (cs := #[.bool false, .slice none 0 0]) Bvx_60.out 0 (by intro _ hh; cases hh) (.bool vx.b)).set (cs := #[.bool vx.b, .slice none 0 0]) (Bvx_60.out.set 0 (.bool vx.b)) 1 (by intro _ hh; cases hh) (.slice vx.A vx.n vx.c))), (RB_63.out.dk (((Dk.refl _).set (cs := #[.bool false, .slice none 0 0]) Bvx_60.out 0 (by intro _ hh; cases hh) (.bool vx.b)).set (cs := #[.bool vx.b, .slice none 0 0]) (Bvx_60.out.set 0 (.bool vx.b)) 1 (by intro _ hh; cases hh) (.slice vx.A vx.n vx.c))), (RX_65.out.dk (((Dk.refl _).set (cs := #[.bool false, .slice none 0 0]) Bvx_60.out 0 (by intro _ hh; cases hh) (.bool vx.b)).set (cs := #[.bool vx.b, .slice none 0 0]) (Bvx_60.out.set 0 (.bool vx.b)) 1 (by intro _ hh; cases hh) (.slice vx.A vx.n vx.c)))⟩))
  case rest =>
    clear la ca0 ca1 ca2 lb cb0 cb1 cb2 lo co0 co1 co2
    clear Ba_0 Bb_0 Bo_0 RA_1 RB_2 HB_0
    obtain ⟨w_83, rfl⟩ : ∃ x, x = wc := ⟨_, rfl⟩
    obtain ⟨g_3, vx, rfl, rfl, nn0, nn1, nn2, bz, bo0, bo1, bo2, hbel, hf0, hf1, hf2⟩ := hcut
    have Ba_84 := Lib.hid bo0
    have n_85 := nn0
    have Bb_86 := Lib.hid bo1
    have n_87 := nn1
    have Bo_88 := Lib.hid bo2
    have n_89 := nn2
    have Bvx_90 := Lib.hid bz
    have HB_90 := Lib.hid hbel
    have RA_92 := Lib.hid hf0
    have RB_93 := Lib.hid hf1
    have RX_94 := Lib.hid hf2
    clear nn0 nn1 nn2 bz bo0 bo1 bo2 hbel hf0 hf1 hf2
    have la := Ba_84.out.lt
    obtain ⟨ca0, ca1, ca2⟩ := Ba_84.out.cells3
    have lb := Bb_86.out.lt
    obtain ⟨cb0, cb1, cb2⟩ := Bb_86.out.cells3
    have lo := Bo_88.out.lt
    obtain ⟨co0, co1, co2⟩ := Bo_88.out.cells3
    have lvx := Bvx_90.out.lt
    obtain ⟨cvx0, cvx1⟩ := Bvx_90.out.cells2
    go_wp2_with fail
    go_upto_region 2 with (fail)
    clear la ca0 ca1 ca2 lb cb0 cb1 cb2 lo co0 co1 co2 lvx cvx0 cvx1
    have la := Ba_84.out.lt
    obtain ⟨ca0, ca1, ca2⟩ := Ba_84.out.cells3
    have lb := Bb_86.out.lt
    obtain ⟨cb0, cb1, cb2⟩ := Bb_86.out.cells3
    have lo := Bo_88.out.lt
    obtain ⟨co0, co1, co2⟩ := Bo_88.out.cells3
    have lvx := Bvx_90.out.lt
    obtain ⟨cvx0, cvx1⟩ := Bvx_90.out.cells2
    go_cut [8, 9] (fun s8 s9 wx => ∃ (g_95 : Nat) (vy : Q), s8 = .pointer (some ⟨g_95, 0, none⟩) ∧ s9 = .int .i64 0 ∧ w.heap.size < g_95 ∧ w.heap.size + 1 < g_95 ∧ w.heap.size + 2 < g_95 ∧ g_3 < g_95 ∧ Bk wx g_95 30 #[.bool vy.b, .slice vy.A vy.n vy.c] ∧ Bk wx (w.heap.size) 32 #[.bool t.q.b, .slice t.q.A t.q.n t.q.c, .slice t.A t.n t.c] ∧ Bk wx (w.heap.size + 1) 32 #[.bool u.q.b, .slice u.q.A u.q.n u.q.c, .slice u.A u.n u.c] ∧ Bk wx (w.heap.size + 2) 32 #[.bool false, .slice none 0 0, .slice none 0 0] ∧ Bk wx (g_3) 30 #[.bool vx.b, .slice vx.A vx.n vx.c] ∧ Below w.heap.size w wx ∧ RR wx t x ∧ RR wx u y ∧ RW wx vx (x.num * (y.den : Int)) ∧ RW wx vy (y.num * (x.den : Int)))
    case first =>
      obtain ⟨SX2, hS2⟩ : ∃ S : World → Prop, ∀ w', S w' ↔ (w'.cell? ⟨w.heap.size, 0, none⟩ = some (.bool t.q.b) ∧ w'.cell? ⟨w.heap.size, 1, none⟩ = some (.slice t.q.A t.q.n t.q.c) ∧ w'.cell? ⟨w.heap.size, 2, none⟩ = some (.slice t.A t.n t.c) ∧ w'.cell? ⟨w.heap.size + 1, 0, none⟩ = some (.bool u.q.b) ∧ w'.cell? ⟨w.heap.size + 1, 1, none⟩ = some (.slice u.q.A u.q.n u.q.c) ∧ w'.cell? ⟨w.heap.size + 1, 2, none⟩ = some (.slice u.A u.n u.c)) := ⟨_, fun _ => Iff.rfl⟩
      have k_96 : SX2 (w_83) := (hS2 _).2 ⟨Ba_84.out.cell 0 rfl, Ba_84.out.cell 1 rfl, Ba_84.out.cell 2 rfl, Bb_86.out.cell 0 rfl, Bb_86.out.cell 1 rfl, Bb_86.out.cell 2 rfl⟩
      have k_97 : SX2 (w_83.drew) := (hS2 _).2 ⟨(Ba_84.out.drew).cell 0 rfl, (Ba_84.out.drew).cell 1 rfl, (Ba_84.out.drew).cell 2 rfl, (Bb_86.out.drew).cell 0 rfl, (Bb_86.out.drew).cell 1 rfl, (Bb_86.out.drew).cell 2 rfl⟩
      have tok_98 : True := trivial
      have tok_99 : True := trivial
      have tok_100 : True := trivial
      have tok_101 : True := trivial
      have tok_102 : True := trivial
      have k_103 : SX2 ((w_83.alloc (.cells #[.bool false, .slice none 0 0] 30)).drew) := (hS2 _).2 ⟨((Ba_84.out.alloc _).drew).cell 0 rfl, ((Ba_84.out.alloc _).drew).cell 1 rfl, ((Ba_84.out.alloc _).drew).cell 2 rfl, ((Bb_86.out.alloc _).drew).cell 0 rfl, ((Bb_86.out.alloc _).drew).cell 1 rfl, ((Bb_86.out.alloc _).drew).cell 2 rfl⟩
      go_region_held3 (fun w' => w'.cell? ⟨w.heap.size, 0, none⟩ = some (.bool t.q.b) ∧ w'.cell? ⟨w.heap.size, 1, none⟩ = some (.slice t.q.A t.q.n t.q.c) ∧ w'.cell? ⟨w.heap.size, 2, none⟩ = some (.slice t.A t.n t.c) ∧ w'.cell? ⟨w.heap.size + 1, 0, none⟩ = some (.bool u.q.b) ∧ w'.cell? ⟨w.heap.size + 1, 1, none⟩ = some (.slice u.q.A u.q.n u.q.c) ∧ w'.cell? ⟨w.heap.size + 1, 2, none⟩ = some (.slice u.A u.n u.c)) (first | with_reducible exact (hS2 _).1 k_96 | with_reducible exact (hS2 _).1 k_97 | with_reducible exact (hS2 _).1 k_103 | with_reducible exact (hS2 _).1 k_114 | with_reducible exact (hS2 _).1 k_115 | with_reducible exact (hS2 _).1 k_132 | with_reducible exact (hS2 _).1 k_145 | with_reducible exact (hS2 _).1 k_150 | with_reducible exact (hS2 _).1 k_151 | with_reducible exact (hS2 _).1 k_169 | with_reducible exact (hS2 _).1 k_170 | with_reducible exact (hS2 _).1 k_184 | with_reducible exact (hS2 _).1 k_185)
        (first
         | (clear tok_98; go_at_call 25; (with_reducible refine (rden_any (w_83.drew) t x (RA_92.out.dk ((Dk.refl _).drew)) (by omega)).mono ?_); rintro e w_104 ⟨⟨r1, rfl, hr⟩, hb⟩; clear la ca0 ca1 ca2 lb cb0 cb1 cb2 lo co0 co1 co2 lvx cvx0 cvx1 k_96 k_97 k_103; have K := Dk.trans ((Dk.refl _).drew) (.below hb); have Ba_105 := Lib.hid (show Bk _ _ _ #[.bool t.q.b, .slice t.q.A t.q.n t.q.c, .slice t.A t.n t.c] from (Ba_84.out.drew).below hb); have Bb_106 := Lib.hid (show Bk _ _ _ #[.bool u.q.b, .slice u.q.A u.q.n u.q.c, .slice u.A u.n u.c] from (Bb_86.out.drew).below hb); have Bo_107 := Lib.hid (show Bk _ _ _ #[.bool false, .slice none 0 0, .slice none 0 0] from (Bo_88.out.drew).below hb); have Bvx_108 := Lib.hid (show Bk _ _ _ #[.bool vx.b, .slice vx.A vx.n vx.c] from (Bvx_90.out.drew).below hb); have HB_109 := Lib.hid (below_tr (below_dr HB_90.out) hb); clear hb; have RA_110 := Lib.hid (RA_92.out.dk K); have RB_111 := Lib.hid (RB_93.out.dk K); have RX_112 := Lib.hid (RX_94.out.dk K); clear K Ba_84 Bb_86 Bo_88 Bvx_90 HB_90 RA_92 RB_93 RX_94; have D1_113 := Lib.hid hr; clear hr; have la := Ba_105.out.lt; obtain ⟨ca0, ca1, ca2⟩ := Ba_105.out.cells3; have lb := Bb_106.out.lt; obtain ⟨cb0, cb1, cb2⟩ := Bb_106.out.cells3; have lo := Bo_107.out.lt; obtain ⟨co0, co1, co2⟩ := Bo_107.out.cells3; have lvx := Bvx_108.out.lt; obtain ⟨cvx0, cvx1⟩ := Bvx_108.out.cells2; have k_114 : SX2 (w_104) := (hS2 _).2 ⟨Ba_105.out.cell 0 rfl, Ba_105.out.cell 1 rfl, Ba_105.out.cell 2 rfl, Bb_106.out.cell 0 rfl, Bb_106.out.cell 1 rfl, Bb_106.out.cell 2 rfl⟩; have k_115 : SX2 (w_104.alloc (.cells #[.bool false, .slice none 0 0] 30)) := (hS2 _).2 ⟨(Ba_105.out.alloc _).cell 0 rfl, (Ba_105.out.alloc _).cell 1 rfl, (Ba_105.out.alloc _).cell 2 rfl, (Bb_106.out.alloc _).cell 0 rfl, (Bb_106.out.alloc _).cell 1 rfl, (Bb_106.out.alloc _).cell 2 rfl⟩)
         | (clear tok_100; have n_117 := Ba_84.out.lt; have n_118 := Bb_86.out.lt; have n_119 := Bo_88.out.lt; have n_120 := Bvx_90.out.lt; go_at_call 25; (with_reducible refine (rden_any ((w_83.alloc (.cells #[.bool false, .slice none 0 0] 30)).drew) t x (RA_92.out.dk (((Dk.refl _).alloc _).drew)) (by omega)).mono ?_); rintro e w_121 ⟨⟨r1, rfl, hr⟩, hb⟩; clear la ca0 ca1 ca2 lb cb0 cb1 cb2 lo co0 co1 co2 lvx cvx0 cvx1 k_96 k_97 k_103; have K := Dk.trans (((Dk.refl _).alloc _).drew) (.below hb); have Ba_122 := Lib.hid (show Bk _ _ _ #[.bool t.q.b, .slice t.q.A t.q.n t.q.c, .slice t.A t.n t.c] from ((Ba_84.out.alloc _).drew).below hb); have Bb_123 := Lib.hid (show Bk _ _ _ #[.bool u.q.b, .slice u.q.A u.q.n u.q.c, .slice u.A u.n u.c] from ((Bb_86.out.alloc _).drew).below hb); have Bo_124 := Lib.hid (show Bk _ _ _ #[.bool false, .slice none 0 0, .slice none 0 0] from ((Bo_88.out.alloc _).drew).below hb); have Bvx_125 := Lib.hid (show Bk _ _ _ #[.bool vx.b, .slice vx.A vx.n vx.c] from ((Bvx_90.out.alloc _).drew).below hb); have Bvy_126 := Lib.hid (show Bk _ _ _ #[.bool false, .slice none 0 0] from ((Bk.new _ 30 #[.bool false, .slice none 0 0]).drew).below hb); have HB_127 := Lib.hid (below_tr (below_dr (below_al HB_90.out _)) hb); clear hb; have RA_128 := Lib.hid (RA_92.out.dk K); have RB_129 := Lib.hid (RB_93.out.dk K); have RX_130 := Lib.hid (RX_94.out.dk K); clear K Ba_84 Bb_86 Bo_88 Bvx_90 HB_90 RA_92 RB_93 RX_94; have D1_131 := Lib.hid hr; clear hr; have la := Ba_122.out.lt; obtain ⟨ca0, ca1, ca2⟩ := Ba_122.out.cells3; have lb := Bb_123.out.lt; obtain ⟨cb0, cb1, cb2⟩ := Bb_123.out.cells3; have lo := Bo_124.out.lt; obtain ⟨co0, co1, co2⟩ := Bo_124.out.cells3; have lvx := Bvx_125.out.lt; obtain ⟨cvx0, cvx1⟩ := Bvx_125.out.cells2; have lvy := Bvy_126.out.lt; obtain ⟨cvy0, cvy1⟩ := Bvy_126.out.cells2; have fvy0 := Bvy_126.out.free 0; have fvy1 := Bvy_126.out.free 1; have k_132 : SX2 (w_121) := (hS2 _).2 ⟨Ba_122.out.cell 0 rfl, Ba_122.out.cell 1 rfl, Ba_122.out.cell 2 rfl, Bb_123.out.cell 0 rfl, Bb_123.out.cell 1 rfl, Bb_123.out.cell 2 rfl⟩)
         | (clear tok_99; go_at_call 24; (with_reducible refine (wmul_q (w_104) u.q r1 y.num (x.den : Int) RB_111.out.rw D1_113.out (by omega)).mono ?_); rintro e w_134 ⟨⟨vy, rfl, hr⟩, hb⟩; clear la ca0 ca1 ca2 lb cb0 cb1 cb2 lo co0 co1 co2 lvx cvx0 cvx1 k_114 k_115; have K := Dk.below hb; have Ba_135 := Lib.hid (show Bk _ _ _ #[.bool t.q.b, .slice t.q.A t.q.n t.q.c, .slice t.A t.n t.c] from Ba_105.out.below hb); have Bb_136 := Lib.hid (show Bk _ _ _ #[.bool u.q.b, .slice u.q.A u.q.n u.q.c, .slice u.A u.n u.c] from Bb_106.out.below hb); have Bo_137 := Lib.hid (show Bk _ _ _ #[.bool false, .slice none 0 0, .slice none 0 0] from Bo_107.out.below hb); have Bvx_138 := Lib.hid (show Bk _ _ _ #[.bool vx.b, .slice vx.A vx.n vx.c] from Bvx_108.out.below hb); have HB_139 := Lib.hid (below_tr HB_109.out hb); clear hb; have RA_140 := Lib.hid (RA_110.out.dk K); have RB_141 := Lib.hid (RB_111.out.dk K); have RX_142 := Lib.hid (RX_112.out.dk K); have D1_143 := Lib.hid (D1_113.out.dk K); clear K Ba_105 Bb_106 Bo_107 Bvx_108 HB_109 RA_110 RB_111 RX_112 D1_113; have RY_144 := Lib.hid hr; clear hr; have la := Ba_135.out.lt; obtain ⟨ca0, ca1, ca2⟩ := Ba_135.out.cells3; have lb := Bb_136.out.lt; obtain ⟨cb0, cb1, cb2⟩ := Bb_136.out.cells3; have lo := Bo_137.out.lt; obtain ⟨co0, co1, co2⟩ := Bo_137.out.cells3; have lvx := Bvx_138.out.lt; obtain ⟨cvx0, cvx1⟩ := Bvx_138.out.cells2; have k_145 : SX2 (w_134) := (hS2 _).2 ⟨Ba_135.out.cell 0 rfl, Ba_135.out.cell 1 rfl, Ba_135.out.cell 2 rfl, Bb_136.out.cell 0 rfl, Bb_136.out.cell 1 rfl, Bb_136.out.cell 2 rfl⟩; have n_146 := Ba_135.out.lt; have n_147 := Bb_136.out.lt; have n_148 := Bo_137.out.lt; have n_149 := Bvx_138.out.lt; have k_150 : SX2 (w_134.alloc (.cells #[.bool false, .slice none 0 0] 30)) := (hS2 _).2 ⟨(Ba_135.out.alloc _).cell 0 rfl, (Ba_135.out.alloc _).cell 1 rfl, (Ba_135.out.alloc _).cell 2 rfl, (Bb_136.out.alloc _).cell 0 rfl, (Bb_136.out.alloc _).cell 1 rfl, (Bb_136.out.alloc _).cell 2 rfl⟩; have k_151 : SX2 (w_134.alloc (.cells #[.bool vy.b, .slice vy.A vy.n vy.c] 30)) := (hS2 _).2 ⟨(Ba_135.out.alloc _).cell 0 rfl, (Ba_135.out.alloc _).cell 1 rfl, (Ba_135.out.alloc _).cell 2 rfl, (Bb_136.out.alloc _).cell 0 rfl, (Bb_136.out.alloc _).cell 1 rfl, (Bb_136.out.alloc _).cell 2 rfl⟩)
         | (clear tok_102; have n_153 := Ba_105.out.lt; have n_154 := Bb_106.out.lt; have n_155 := Bo_107.out.lt; have n_156 := Bvx_108.out.lt; go_at_call 24; (with_reducible refine (wmul_q (w_104.alloc (.cells #[.bool false, .slice none 0 0] 30)) u.q r1 y.num (x.den : Int) (RB_111.out.dk ((Dk.refl _).alloc _)).rw (D1_113.out.dk ((Dk.refl _).alloc _)) (by omega)).mono ?_); rintro e w_157 ⟨⟨vy, rfl, hr⟩, hb⟩; clear la ca0 ca1 ca2 lb cb0 cb1 cb2 lo co0 co1 co2 lvx cvx0 cvx1 k_114 k_115; have K := Dk.trans ((Dk.refl _).alloc _) (.below hb); have Ba_158 := Lib.hid (show Bk _ _ _ #[.bool t.q.b, .slice t.q.A t.q.n t.q.c, .slice t.A t.n t.c] from (Ba_105.out.alloc _).below hb); have Bb_159 := Lib.hid (show Bk _ _ _ #[.bool u.q.b, .slice u.q.A u.q.n u.q.c, .slice u.A u.n u.c] from (Bb_106.out.alloc _).below hb); have Bo_160 := Lib.hid (show Bk _ _ _ #[.bool false, .slice none 0 0, .slice none 0 0] from (Bo_107.out.alloc _).below hb); have Bvx_161 := Lib.hid (show Bk _ _ _ #[.bool vx.b, .slice vx.A vx.n vx.c] from (Bvx_108.out.alloc _).below hb); have Bvy_162 := Lib.hid (show Bk _ _ _ #[.bool false, .slice none 0 0] from (Bk.new _ 30 #[.bool false, .slice none 0 0]).below hb); have HB_163 := Lib.hid (below_tr (below_al HB_109.out _) hb); clear hb; have RA_164 := Lib.hid (RA_110.out.dk K); have RB_165 := Lib.hid (RB_111.out.dk K); have RX_166 := Lib.hid (RX_112.out.dk K); have D1_167 := Lib.hid (D1_113.out.dk K); clear K Ba_105 Bb_106 Bo_107 Bvx_108 HB_109 RA_110 RB_111 RX_112 D1_113; have RY_168 := Lib.hid hr; clear hr; have la := Ba_158.out.lt; obtain ⟨ca0, ca1, ca2⟩ := Ba_158.out.cells3; have lb := Bb_159.out.lt; obtain ⟨cb0, cb1, cb2⟩ := Bb_159.out.cells3; have lo := Bo_160.out.lt; obtain ⟨co0, co1, co2⟩ := Bo_160.out.cells3; have lvx := Bvx_161.out.lt; obtain ⟨cvx0, cvx1⟩ := Bvx_161.out.cells2; have lvy := Bvy_162.out.lt; obtain ⟨cvy0, cvy1⟩ := Bvy_162.out.cells2; have fvy0 := Bvy_162.out.free 0; have fvy1 := Bvy_162.out.free 1; have k_169 : SX2 (w_157) := (hS2 _).2 ⟨Ba_158.out.cell 0 rfl, Ba_158.out.cell 1 rfl, Ba_158.out.cell 2 rfl, Bb_159.out.cell 0 rfl, Bb_159.out.cell 1 rfl, Bb_159.out.cell 2 rfl⟩; have y0 := Ba_158.out.lt; have y1 := Bb_159.out.lt; have y2 := Bo_160.out.lt; have y3 := Bvx_161.out.lt; have y4 := Bvy_162.out.lt; have y5 := HB_163.out.size; have k_170 : SX2 ((w_157.setCell ⟨w_104.heap.size, 0, none⟩ (.bool vy.b)).setCell ⟨w_104.heap.size, 1, none⟩ (.slice vy.A vy.n vy.c)) := (hS2 _).2 ⟨((Ba_158.out.ne (by omega) 0 (.bool vy.b)).ne (by omega) 1 (.slice vy.A vy.n vy.c)).cell 0 rfl, ((Ba_158.out.ne (by omega) 0 (.bool vy.b)).ne (by omega) 1 (.slice vy.A vy.n vy.c)).cell 1 rfl, ((Ba_158.out.ne (by omega) 0 (.bool vy.b)).ne (by omega) 1 (.slice vy.A vy.n vy.c)).cell 2 rfl, ((Bb_159.out.ne (by omega) 0 (.bool vy.b)).ne (by omega) 1 (.slice vy.A vy.n vy.c)).cell 0 rfl, ((Bb_159.out.ne (by omega) 0 (.bool vy.b)).ne (by omega) 1 (.slice vy.A vy.n vy.c)).cell 1 rfl, ((Bb_159.out.ne (by omega) 0 (.bool vy.b)).ne (by omega) 1 (.slice vy.A vy.n vy.c)).cell 2 rfl⟩; clear y0 y1 y2 y3 y4 y5)
         | (clear tok_101; go_at_call 24; (with_reducible refine (wmul_q (w_121) u.q r1 y.num (x.den : Int) RB_129.out.rw D1_131.out (by omega)).mono ?_); rintro e w_172 ⟨⟨vy, rfl, hr⟩, hb⟩; clear la ca0 ca1 ca2 lb cb0 cb1 cb2 lo co0 co1 co2 lvx cvx0 cvx1 lvy cvy0 cvy1 fvy0 fvy1 k_132; have K := Dk.below hb; have Ba_173 := Lib.hid (show Bk _ _ _ #[.bool t.q.b, .slice t.q.A t.q.n t.q.c, .slice t.A t.n t.c] from Ba_122.out.below hb); have Bb_174 := Lib.hid (show Bk _ _ _ #[.bool u.q.b, .slice u.q.A u.q.n u.q.c, .slice u.A u.n u.c] from Bb_123.out.below hb); have Bo_175 := Lib.hid (show Bk _ _ _ #[.bool false, .slice none 0 0, .slice none 0 0] from Bo_124.out.below hb); have Bvx_176 := Lib.hid (show Bk _ _ _ #[.bool vx.b, .slice vx.A vx.n vx.c] from Bvx_125.out.below hb); have Bvy_177 := Lib.hid (show Bk _ _ _ #[.bool false, .slice none 0 0] from Bvy_126.out.below hb); have HB_178 := Lib.hid (below_tr HB_127.out hb); clear hb; have RA_179 := Lib.hid (RA_128.out.dk K); have RB_180 := Lib.hid (RB_129.out.dk K); have RX_181 := Lib.hid (RX_130.out.dk K); have D1_182 := Lib.hid (D1_131.out.dk K); clear K Ba_122 Bb_123 Bo_124 Bvx_125 Bvy_126 HB_127 RA_128 RB_129 RX_130 D1_131; have RY_183 := Lib.hid hr; clear hr; have la := Ba_173.out.lt; obtain ⟨ca0, ca1, ca2⟩ := Ba_173.out.cells3; have lb := Bb_174.out.lt; obtain ⟨cb0, cb1, cb2⟩ := Bb_174.out.cells3; have lo := Bo_175.out.lt; obtain ⟨co0, co1, co2⟩ := Bo_175.out.cells3; have lvx := Bvx_176.out.lt; obtain ⟨cvx0, cvx1⟩ := Bvx_176.out.cells2; have lvy := Bvy_177.out.lt; obtain ⟨cvy0, cvy1⟩ := Bvy_177.out.cells2; have fvy0 := Bvy_177.out.free 0; have fvy1 := Bvy_177.out.free 1; have k_184 : SX2 (w_172) := (hS2 _).2 ⟨Ba_173.out.cell 0 rfl, Ba_173.out.cell 1 rfl, Ba_173.out.cell 2 rfl, Bb_174.out.cell 0 rfl, Bb_174.out.cell 1 rfl, Bb_174.out.cell 2 rfl⟩; have y0 := Ba_173.out.lt; have y1 := Bb_174.out.lt; have y2 := Bo_175.out.lt; have y3 := Bvx_176.out.lt; have y4 := Bvy_177.out.lt; have y5 := HB_178.out.size; have k_185 : SX2 ((w_172.setCell ⟨w_83.heap.size, 0, none⟩ (.bool vy.b)).setCell ⟨w_83.heap.size, 1, none⟩ (.slice vy.A vy.n vy.c)) := (hS2 _).2 ⟨((Ba_173.out.ne (by omega) 0 (.bool vy.b)).ne (by omega) 1 (.slice vy.A vy.n vy.c)).cell 0 rfl, ((Ba_173.out.ne (by omega) 0 (.bool vy.b)).ne (by omega) 1 (.slice vy.A vy.n vy.c)).cell 1 rfl, ((Ba_173.out.ne (by omega) 0 (.bool vy.b)).ne (by omega) 1 (.slice vy.A vy.n vy.c)).cell 2 rfl, ((Bb_174.out.ne (by omega) 0 (.bool vy.b)).ne (by omega) 1 (.slice vy.A vy.n vy.c)).cell 0 rfl, ((Bb_174.out.ne (by omega) 0 (.bool vy.b)).ne (by omega) 1 (.slice vy.A vy.n vy.c)).cell 1 rfl, ((Bb_174.out.ne (by omega) 0 (.bool vy.b)).ne (by omega) 1 (.slice vy.A vy.n vy.c)).cell 2 rfl⟩; clear y0 y1 y2 y3 y4 y5)
         | fail)
      all_goals (go_wp2_with fail; go_meet; first | (have y0 := Ba_135.out.lt; have y1 := Bb_136.out.lt; have y2 := Bo_137.out.lt; have y3 := Bvx_138.out.lt; have y4 := HB_139.out.size; exact ⟨w_134.heap.size, vy, rfl, rfl, (by omega), (by omega), (by omega), (by omega), (Bk.new _ 30 #[.bool vy.b, .slice vy.A vy.n vy.c]), (Ba_135.out.alloc _), (Bb_136.out.alloc _), (Bo_137.out.alloc _), (Bvx_138.out.alloc _), (below_al HB_139.out _), (RA_140.out.dk ((Dk.refl _).alloc _)), (RB_141.out.dk ((Dk.refl _).alloc _)), (RX_142.out.dk ((Dk.refl _).alloc _)), (RY_144.out.dk ((Dk.refl _).alloc _))⟩) | (have y0 := Ba_173.out.lt; have y1 := Bb_174.out.lt; have y2 := Bo_175.out.lt; have y3 := Bvx_176.out.lt; have y4 := Bvy_177.out.lt; have y5 := HB_178.out.size; exact ⟨w_83.heap.size, vy, rfl, rfl, (by omega), (by omega), (by omega), (by omega), ((Bvy_177.out.set 0 (.bool vy.b)).set 1 (.slice vy.A vy.n vy.c)), ((Ba_173.out.ne (by omega) 0 (.bool vy.b)).ne (by omega) 1 (.slice vy.A vy.n vy.c)), ((Bb_174.out.ne (by omega) 0 (.bool vy.b)).ne (by omega) 1 (.slice vy.A vy.n vy.c)), ((Bo_175.out.ne (by omega) 0 (.bool vy.b)).ne (by omega) 1 (.slice vy.A vy.n vy.c)), ((Bvx_176.out.ne (by omega) 0 (.bool vy.b)).ne (by omega) 1 (.slice vy.A vy.n vy.c)), (below_st (below_st HB_178.out 0 (by omega) (.bool vy.b)) 1 (by omega) (.slice vy.A vy.n vy.c)), (RA_179.out.dk (((Dk.refl _).set (cs := #[.bool false, .slice none 0 0]) Bvy_177.out 0 (by intro _ hh; cases hh) (.bool vy.b)).set (cs := #[.bool vy.b, .slice none 0 0]) (Bvy_177.out.set 0 (.bool vy.b)) 1 (by intro _ hh; cases hh) (.slice vy.A vy.n vy.c))), (RB_180.out.dk (((Dk.refl _).set (cs := #[.bool false, .slice none 0 0]) Bvy_177.out 0 (by intro _ hh; cases hh) (.bool vy.b)).set (cs := #[.bool vy.b, .slice none 0 0]) (Bvy_177.out.set 0 (.bool vy.b)) 1 (by intro _ hh; cases hh) (.slice vy.A vy.n vy.c))), (RX_181.out.dk (((Dk.refl _).set (cs := #[.bool false, .slice none 0 0]) Bvy_177.out 0 (by intro _ hh; cases hh) (.bool vy.b)).set (cs := #[.bool vy.b, .slice none 0 0]) (Bvy_177.out.set 0 (.bool vy.b)) 1 (by intro _ hh; cases hh) (.slice vy.A vy.n vy.c))), (RY_183.out.dk (((Dk.refl _).set (cs := #[.bool false, .slice none 0 0]) Bvy_177.out 0 (by intro _ hh; cases hh) (.bool vy.b)).set (cs := #[.bool vy.b, .slice none 0 0]) (Bvy_177.out.set 0 (.bool vy.b)) 1 (by intro _ hh; cases hh) (.slice vy.A vy.n vy.c)))⟩) | (have y0 := Ba_158.out.lt; have y1 := Bb_159.out.lt; have y2 := Bo_160.out.lt; have y3 := Bvx_161.out.lt; have y4 := Bvy_162.out.lt; have y5 := HB_163.out.size; exact ⟨w_104.heap.size, vy, rfl, rfl, (by omega), (by omega), (by omega), (by omega), ((Bvy_162.out.set 0 (.bool vy.b)).set 1 (.slice vy.A vy.n vy.c)), ((Ba_158.out.ne (by omega) 0 (.bool vy.b)).ne (by omega) 1 (.slice vy.A vy.n vy.c)), ((Bb_159.out.ne (by omega) 0 (.bool vy.b)).ne (by omega) 1 (.slice vy.A vy.n vy.c)), ((Bo_160.out.ne (by omega) 0 (.bool vy.b)).ne (by omega) 1 (.slice vy.A vy.n vy.c)), ((Bvx_161.out.ne (by omega) 0 (.bool vy.b)).ne (by omega) 1 (.slice vy.A vy.n vy.c)), (below_st (below_st HB_163.out 0 (by omega) (.bool vy.b)) 1 (by omega) (.slice vy.A vy.n vy.c)), (RA_164.out.dk (((Dk.refl _).set (cs := #[.bool false, .slice none 0 0]) Bvy_162.out 0 (by intro _ hh; cases hh) (.bool vy.b)).set (cs := #[.bool vy.b, .slice none 0 0]) (Bvy_162.out.set 0 (.bool vy.b)) 1 (by intro _ hh; cases hh) (.slice vy.A vy.n vy.c))), (RB_165.out.dk (((Dk.refl _).set (cs := #[.bool false, .slice none 0 0]) Bvy_162.out 0 (by intro _ hh; cases hh) (.bool vy.b)).set (cs := #[.bool vy.b, .slice none 0 0]) (Bvy_162.out.set 0 (.bool vy.b)) 1 (by intro _ hh; cases hh) (.slice vy.A vy.n vy.c))), (RX_166.out.dk (((Dk.refl _).set (cs := #[.bool false, .slice none 0 0]) Bvy_162.out 0 (by intro _ hh; cases hh) (.bool vy.b)).set (cs := #[.bool vy.b, .slice none 0 0]) (Bvy_162.out.set 0 (.bool vy.b)) 1 (by intro _ hh; cases hh) (.slice vy.A vy.n vy.c))), (RY_168.out.dk (((Dk.refl _).set (cs := #[.bool false, .slice none 0 0]) Bvy_162.out 0 (by intro _ hh; cases hh) (.bool vy.b)).set (cs := #[.bool vy.b, .slice none 0 0]) (Bvy_162.out.set 0 (.bool vy.b)) 1 (by intro _ hh; cases hh) (.slice vy.A vy.n vy.c)))⟩))
    case rest =>
      clear la ca0 ca1 ca2 lb cb0 cb1 cb2 lo co0 co1 co2 lvx cvx0 cvx1
      clear Ba_84 Bb_86 Bo_88 Bvx_90 RA_92 RB_93 RX_94 HB_90
      obtain ⟨w_188, rfl⟩ : ∃ x, x = wc := ⟨_, rfl⟩
      obtain ⟨g_95, vy, rfl, rfl, nn0, nn1, nn2, nn3, bz, bo0, bo1, bo2, bo3, hbel, hf0, hf1, hf2, hf3⟩ := hcut
      have Ba_189 := Lib.hid bo0
      have n_190 := nn0
      have Bb_191 := Lib.hid bo1
      have n_192 := nn1
      have Bo_193 := Lib.hid bo2
      have n_194 := nn2
      have Bvx_195 := Lib.hid bo3
      have n_196 := nn3
      have Bvy_197 := Lib.hid bz
      have HB_197 := Lib.hid hbel
      have RA_199 := Lib.hid hf0
      have RB_200 := Lib.hid hf1
      have RX_201 := Lib.hid hf2
      have RY_202 := Lib.hid hf3
      clear nn0 nn1 nn2 nn3 bz bo0 bo1 bo2 bo3 hbel hf0 hf1 hf2 hf3
      have la := Ba_189.out.lt
      obtain ⟨ca0, ca1, ca2⟩ := Ba_189.out.cells3
      have lb := Bb_191.out.lt
      obtain ⟨cb0, cb1, cb2⟩ := Bb_191.out.cells3
      have lo := Bo_193.out.lt
      obtain ⟨co0, co1, co2⟩ := Bo_193.out.cells3
      have lvx := Bvx_195.out.lt
      obtain ⟨cvx0, cvx1⟩ := Bvx_195.out.cells2
      have lvy := Bvy_197.out.lt
      obtain ⟨cvy0, cvy1⟩ := Bvy_197.out.cells2
      go_wp2_with fail
      go_upto_region 3 with (fail)
      clear la ca0 ca1 ca2 lb cb0 cb1 cb2 lo co0 co1 co2 lvx cvx0 cvx1 lvy cvy0 cvy1
      have la := Ba_189.out.lt
      obtain ⟨ca0, ca1, ca2⟩ := Ba_189.out.cells3
      have lb := Bb_191.out.lt
      obtain ⟨cb0, cb1, cb2⟩ := Bb_191.out.cells3
      have lo := Bo_193.out.lt
      obtain ⟨co0, co1, co2⟩ := Bo_193.out.cells3
      have lvx := Bvx_195.out.lt
      obtain ⟨cvx0, cvx1⟩ := Bvx_195.out.cells2
      have lvy := Bvy_197.out.lt
      obtain ⟨cvy0, cvy1⟩ := Bvy_197.out.cells2
      go_cut [10, 11] (fun s10 s11 wx => ∃ (g_203 : Nat) (vd : Q), s10 = .pointer (some ⟨g_203, 0, none⟩) ∧ s11 = .int .i64 0 ∧ w.heap.size < g_203 ∧ w.heap.size + 1 < g_203 ∧ w.heap.size + 2 < g_203 ∧ g_3 < g_203 ∧ g_95 < g_203 ∧ Bk wx g_203 30 #[.bool vd.b, .slice vd.A vd.n vd.c] ∧ Bk wx (w.heap.size) 32 #[.bool t.q.b, .slice t.q.A t.q.n t.q.c, .slice t.A t.n t.c] ∧ Bk wx (w.heap.size + 1) 32 #[.bool u.q.b, .slice u.q.A u.q.n u.q.c, .slice u.A u.n u.c] ∧ Bk wx (w.heap.size + 2) 32 #[.bool false, .slice none 0 0, .slice none 0 0] ∧ Bk wx (g_3) 30 #[.bool vx.b, .slice vx.A vx.n vx.c] ∧ Bk wx (g_95) 30 #[.bool vy.b, .slice vy.A vy.n vy.c] ∧ Below w.heap.size w wx ∧ RW wx vx (x.num * (y.den : Int)) ∧ RW wx vy (y.num * (x.den : Int)) ∧ RW wx vd ((x.den : Int) * (y.den : Int)))
      case first =>
        obtain ⟨SX3, hS3⟩ : ∃ S : World → Prop, ∀ w', S w' ↔ (w'.cell? ⟨w.heap.size, 0, none⟩ = some (.bool t.q.b) ∧ w'.cell? ⟨w.heap.size, 1, none⟩ = some (.slice t.q.A t.q.n t.q.c) ∧ w'.cell? ⟨w.heap.size, 2, none⟩ = some (.slice t.A t.n t.c) ∧ w'.cell? ⟨w.heap.size + 1, 0, none⟩ = some (.bool u.q.b) ∧ w'.cell? ⟨w.heap.size + 1, 1, none⟩ = some (.slice u.q.A u.q.n u.q.c) ∧ w'.cell? ⟨w.heap.size + 1, 2, none⟩ = some (.slice u.A u.n u.c)) := ⟨_, fun _ => Iff.rfl⟩
        have k_204 : SX3 (w_188) := (hS3 _).2 ⟨Ba_189.out.cell 0 rfl, Ba_189.out.cell 1 rfl, Ba_189.out.cell 2 rfl, Bb_191.out.cell 0 rfl, Bb_191.out.cell 1 rfl, Bb_191.out.cell 2 rfl⟩
        have k_205 : SX3 (w_188.drew) := (hS3 _).2 ⟨(Ba_189.out.drew).cell 0 rfl, (Ba_189.out.drew).cell 1 rfl, (Ba_189.out.drew).cell 2 rfl, (Bb_191.out.drew).cell 0 rfl, (Bb_191.out.drew).cell 1 rfl, (Bb_191.out.drew).cell 2 rfl⟩
        have tok_206 : True := trivial
        have tok_207 : True := trivial
        have tok_208 : True := trivial
        have tok_209 : True := trivial
        have tok_210 : True := trivial
        have tok_211 : True := trivial
        have tok_212 : True := trivial
        have tok_213 : True := trivial
        have tok_214 : True := trivial
        have k_215 : SX3 ((w_188.alloc (.cells #[.bool false, .slice none 0 0] 30)).drew) := (hS3 _).2 ⟨((Ba_189.out.alloc _).drew).cell 0 rfl, ((Ba_189.out.alloc _).drew).cell 1 rfl, ((Ba_189.out.alloc _).drew).cell 2 rfl, ((Bb_191.out.alloc _).drew).cell 0 rfl, ((Bb_191.out.alloc _).drew).cell 1 rfl, ((Bb_191.out.alloc _).drew).cell 2 rfl⟩
        go_region_held3 (fun w' => w'.cell? ⟨w.heap.size, 0, none⟩ = some (.bool t.q.b) ∧ w'.cell? ⟨w.heap.size, 1, none⟩ = some (.slice t.q.A t.q.n t.q.c) ∧ w'.cell? ⟨w.heap.size, 2, none⟩ = some (.slice t.A t.n t.c) ∧ w'.cell? ⟨w.heap.size + 1, 0, none⟩ = some (.bool u.q.b) ∧ w'.cell? ⟨w.heap.size + 1, 1, none⟩ = some (.slice u.q.A u.q.n u.q.c) ∧ w'.cell? ⟨w.heap.size + 1, 2, none⟩ = some (.slice u.A u.n u.c)) (first | with_reducible exact (hS3 _).1 k_204 | with_reducible exact (hS3 _).1 k_205 | with_reducible exact (hS3 _).1 k_215 | with_reducible exact (hS3 _).1 k_228 | with_reducible exact (hS3 _).1 k_229 | with_reducible exact (hS3 _).1 k_249 | with_reducible exact (hS3 _).1 k_264 | with_reducible exact (hS3 _).1 k_265 | with_reducible exact (hS3 _).1 k_286 | with_reducible exact (hS3 _).1 k_302 | with_reducible exact (hS3 _).1 k_318 | with_reducible exact (hS3 _).1 k_324 | with_reducible exact (hS3 _).1 k_325 | with_reducible exact (hS3 _).1 k_347 | with_reducible exact (hS3 _).1 k_348 | with_reducible exact (hS3 _).1 k_365 | with_reducible exact (hS3 _).1 k_366 | with_reducible exact (hS3 _).1 k_383 | with_reducible exact (hS3 _).1 k_384)
          (first
           | (clear tok_206; go_at_call 25; (with_reducible refine (rden_any (w_188.drew) t x (RA_199.out.dk ((Dk.refl _).drew)) (by omega)).mono ?_); rintro e w_216 ⟨⟨r1, rfl, hr⟩, hb⟩; clear la ca0 ca1 ca2 lb cb0 cb1 cb2 lo co0 co1 co2 lvx cvx0 cvx1 lvy cvy0 cvy1 k_204 k_205 k_215; have K := Dk.trans ((Dk.refl _).drew) (.below hb); have Ba_217 := Lib.hid (show Bk _ _ _ #[.bool t.q.b, .slice t.q.A t.q.n t.q.c, .slice t.A t.n t.c] from (Ba_189.out.drew).below hb); have Bb_218 := Lib.hid (show Bk _ _ _ #[.bool u.q.b, .slice u.q.A u.q.n u.q.c, .slice u.A u.n u.c] from (Bb_191.out.drew).below hb); have Bo_219 := Lib.hid (show Bk _ _ _ #[.bool false, .slice none 0 0, .slice none 0 0] from (Bo_193.out.drew).below hb); have Bvx_220 := Lib.hid (show Bk _ _ _ #[.bool vx.b, .slice vx.A vx.n vx.c] from (Bvx_195.out.drew).below hb); have Bvy_221 := Lib.hid (show Bk _ _ _ #[.bool vy.b, .slice vy.A vy.n vy.c] from (Bvy_197.out.drew).below hb); have HB_222 := Lib.hid (below_tr (below_dr HB_197.out) hb); clear hb; have RA_223 := Lib.hid (RA_199.out.dk K); have RB_224 := Lib.hid (RB_200.out.dk K); have RX_225 := Lib.hid (RX_201.out.dk K); have RY_226 := Lib.hid (RY_202.out.dk K); clear K Ba_189 Bb_191 Bo_193 Bvx_195 Bvy_197 HB_197 RA_199 RB_200 RX_201 RY_202; have D1_227 := Lib.hid hr; clear hr; have la := Ba_217.out.lt; obtain ⟨ca0, ca1, ca2⟩ := Ba_217.out.cells3; have lb := Bb_218.out.lt; obtain ⟨cb0, cb1, cb2⟩ := Bb_218.out.cells3; have lo := Bo_219.out.lt; obtain ⟨co0, co1, co2⟩ := Bo_219.out.cells3; have lvx := Bvx_220.out.lt; obtain ⟨cvx0, cvx1⟩ := Bvx_220.out.cells2; have lvy := Bvy_221.out.lt; obtain ⟨cvy0, cvy1⟩ := Bvy_221.out.cells2; have k_228 : SX3 (w_216) := (hS3 _).2 ⟨Ba_217.out.cell 0 rfl, Ba_217.out.cell 1 rfl, Ba_217.out.cell 2 rfl, Bb_218.out.cell 0 rfl, Bb_218.out.cell 1 rfl, Bb_218.out.cell 2 rfl⟩; have k_229 : SX3 (w_216.alloc (.cells #[.bool false, .slice none 0 0] 30)) := (hS3 _).2 ⟨(Ba_217.out.alloc _).cell 0 rfl, (Ba_217.out.alloc _).cell 1 rfl, (Ba_217.out.alloc _).cell 2 rfl, (Bb_218.out.alloc _).cell 0 rfl, (Bb_218.out.alloc _).cell 1 rfl, (Bb_218.out.alloc _).cell 2 rfl⟩)
           | (clear tok_209; have n_231 := Ba_189.out.lt; have n_232 := Bb_191.out.lt; have n_233 := Bo_193.out.lt; have n_234 := Bvx_195.out.lt; have n_235 := Bvy_197.out.lt; go_at_call 25; (with_reducible refine (rden_any ((w_188.alloc (.cells #[.bool false, .slice none 0 0] 30)).drew) t x (RA_199.out.dk (((Dk.refl _).alloc _).drew)) (by omega)).mono ?_); rintro e w_236 ⟨⟨r1, rfl, hr⟩, hb⟩; clear la ca0 ca1 ca2 lb cb0 cb1 cb2 lo co0 co1 co2 lvx cvx0 cvx1 lvy cvy0 cvy1 k_204 k_205 k_215; have K := Dk.trans (((Dk.refl _).alloc _).drew) (.below hb); have Ba_237 := Lib.hid (show Bk _ _ _ #[.bool t.q.b, .slice t.q.A t.q.n t.q.c, .slice t.A t.n t.c] from ((Ba_189.out.alloc _).drew).below hb); have Bb_238 := Lib.hid (show Bk _ _ _ #[.bool u.q.b, .slice u.q.A u.q.n u.q.c, .slice u.A u.n u.c] from ((Bb_191.out.alloc _).drew).below hb); have Bo_239 := Lib.hid (show Bk _ _ _ #[.bool false, .slice none 0 0, .slice none 0 0] from ((Bo_193.out.alloc _).drew).below hb); have Bvx_240 := Lib.hid (show Bk _ _ _ #[.bool vx.b, .slice vx.A vx.n vx.c] from ((Bvx_195.out.alloc _).drew).below hb); have Bvy_241 := Lib.hid (show Bk _ _ _ #[.bool vy.b, .slice vy.A vy.n vy.c] from ((Bvy_197.out.alloc _).drew).below hb); have Bd_242 := Lib.hid (show Bk _ _ _ #[.bool false, .slice none 0 0] from ((Bk.new _ 30 #[.bool false, .slice none 0 0]).drew).below hb); have HB_243 := Lib.hid (below_tr (below_dr (below_al HB_197.out _)) hb); clear hb; have RA_244 := Lib.hid (RA_199.out.dk K); have RB_245 := Lib.hid (RB_200.out.dk K); have RX_246 := Lib.hid (RX_201.out.dk K); have RY_247 := Lib.hid (RY_202.out.dk K); clear K Ba_189 Bb_191 Bo_193 Bvx_195 Bvy_197 HB_197 RA_199 RB_200 RX_201 RY_202; have D1_248 := Lib.hid hr; clear hr; have la := Ba_237.out.lt; obtain ⟨ca0, ca1, ca2⟩ := Ba_237.out.cells3; have lb := Bb_238.out.lt; obtain ⟨cb0, cb1, cb2⟩ := Bb_238.out.cells3; have lo := Bo_239.out.lt; obtain ⟨co0, co1, co2⟩ := Bo_239.out.cells3; have lvx := Bvx_240.out.lt; obtain ⟨cvx0, cvx1⟩ := Bvx_240.out.cells2; have lvy := Bvy_241.out.lt; obtain ⟨cvy0, cvy1⟩ := Bvy_241.out.cells2; have ld := Bd_242.out.lt; obtain ⟨cd0, cd1⟩ := Bd_242.out.cells2; have fd0 := Bd_242.out.free 0; have fd1 := Bd_242.out.free 1; have k_249 : SX3 (w_236) := (hS3 _).2 ⟨Ba_237.out.cell 0 rfl, Ba_237.out.cell 1 rfl, Ba_237.out.cell 2 rfl, Bb_238.out.cell 0 rfl, Bb_238.out.cell 1 rfl, Bb_238.out.cell 2 rfl⟩)
           | (clear tok_207; go_at_call 25; (with_reducible refine (rden_any (w_216) u y RB_224.out (by omega)).mono ?_); rintro e w_251 ⟨⟨r2, rfl, hr⟩, hb⟩; clear la ca0 ca1 ca2 lb cb0 cb1 cb2 lo co0 co1 co2 lvx cvx0 cvx1 lvy cvy0 cvy1 k_228 k_229; have K := Dk.below hb; have Ba_252 := Lib.hid (show Bk _ _ _ #[.bool t.q.b, .slice t.q.A t.q.n t.q.c, .slice t.A t.n t.c] from Ba_217.out.below hb); have Bb_253 := Lib.hid (show Bk _ _ _ #[.bool u.q.b, .slice u.q.A u.q.n u.q.c, .slice u.A u.n u.c] from Bb_218.out.below hb); have Bo_254 := Lib.hid (show Bk _ _ _ #[.bool false, .slice none 0 0, .slice none 0 0] from Bo_219.out.below hb); have Bvx_255 := Lib.hid (show Bk _ _ _ #[.bool vx.b, .slice vx.A vx.n vx.c] from Bvx_220.out.below hb); have Bvy_256 := Lib.hid (show Bk _ _ _ #[.bool vy.b, .slice vy.A vy.n vy.c] from Bvy_221.out.below hb); have HB_257 := Lib.hid (below_tr HB_222.out hb); clear hb; have RA_258 := Lib.hid (RA_223.out.dk K); have RB_259 := Lib.hid (RB_224.out.dk K); have RX_260 := Lib.hid (RX_225.out.dk K); have RY_261 := Lib.hid (RY_226.out.dk K); have D1_262 := Lib.hid (D1_227.out.dk K); clear K Ba_217 Bb_218 Bo_219 Bvx_220 Bvy_221 HB_222 RA_223 RB_224 RX_225 RY_226 D1_227; have D2_263 := Lib.hid hr; clear hr; have la := Ba_252.out.lt; obtain ⟨ca0, ca1, ca2⟩ := Ba_252.out.cells3; have lb := Bb_253.out.lt; obtain ⟨cb0, cb1, cb2⟩ := Bb_253.out.cells3; have lo := Bo_254.out.lt; obtain ⟨co0, co1, co2⟩ := Bo_254.out.cells3; have lvx := Bvx_255.out.lt; obtain ⟨cvx0, cvx1⟩ := Bvx_255.out.cells2; have lvy := Bvy_256.out.lt; obtain ⟨cvy0, cvy1⟩ := Bvy_256.out.cells2; have k_264 : SX3 (w_251) := (hS3 _).2 ⟨Ba_252.out.cell 0 rfl, Ba_252.out.cell 1 rfl, Ba_252.out.cell 2 rfl, Bb_253.out.cell 0 rfl, Bb_253.out.cell 1 rfl, Bb_253.out.cell 2 rfl⟩; have k_265 : SX3 (w_251.alloc (.cells #[.bool false, .slice none 0 0] 30)) := (hS3 _).2 ⟨(Ba_252.out.alloc _).cell 0 rfl, (Ba_252.out.alloc _).cell 1 rfl, (Ba_252.out.alloc _).cell 2 rfl, (Bb_253.out.alloc _).cell 0 rfl, (Bb_253.out.alloc _).cell 1 rfl, (Bb_253.out.alloc _).cell 2 rfl⟩)
           | (clear tok_212; have n_267 := Ba_217.out.lt; have n_268 := Bb_218.out.lt; have n_269 := Bo_219.out.lt; have n_270 := Bvx_220.out.lt; have n_271 := Bvy_221.out.lt; go_at_call 25; (with_reducible refine (rden_any (w_216.alloc (.cells #[.bool false, .slice none 0 0] 30)) u y (RB_224.out.dk ((Dk.refl _).alloc _)) (by omega)).mono ?_); rintro e w_272 ⟨⟨r2, rfl, hr⟩, hb⟩; clear la ca0 ca1 ca2 lb cb0 cb1 cb2 lo co0 co1 co2 lvx cvx0 cvx1 lvy cvy0 cvy1 k_228 k_229; have K := Dk.trans ((Dk.refl _).alloc _) (.below hb); have Ba_273 := Lib.hid (show Bk _ _ _ #[.bool t.q.b, .slice t.q.A t.q.n t.q.c, .slice t.A t.n t.c] from (Ba_217.out.alloc _).below hb); have Bb_274 := Lib.hid (show Bk _ _ _ #[.bool u.q.b, .slice u.q.A u.q.n u.q.c, .slice u.A u.n u.c] from (Bb_218.out.alloc _).below hb); have Bo_275 := Lib.hid (show Bk _ _ _ #[.bool false, .slice none 0 0, .slice none 0 0] from (Bo_219.out.alloc _).below hb); have Bvx_276 := Lib.hid (show Bk _ _ _ #[.bool vx.b, .slice vx.A vx.n vx.c] from (Bvx_220.out.alloc _).below hb); have Bvy_277 := Lib.hid (show Bk _ _ _ #[.bool vy.b, .slice vy.A vy.n vy.c] from (Bvy_221.out.alloc _).below hb); have Bd_278 := Lib.hid (show Bk _ _ _ #[.bool false, .slice none 0 0] from (Bk.new _ 30 #[.bool false, .slice none 0 0]).below hb); have HB_279 := Lib.hid (below_tr (below_al HB_222.out _) hb); clear hb; have RA_280 := Lib.hid (RA_223.out.dk K); have RB_281 := Lib.hid (RB_224.out.dk K); have RX_282 := Lib.hid (RX_225.out.dk K); have RY_283 := Lib.hid (RY_226.out.dk K); have D1_284 := Lib.hid (D1_227.out.dk K); clear K Ba_217 Bb_218 Bo_219 Bvx_220 Bvy_221 HB_222 RA_223 RB_224 RX_225 RY_226 D1_227; have D2_285 := Lib.hid hr; clear hr; have la := Ba_273.out.lt; obtain ⟨ca0, ca1, ca2⟩ := Ba_273.out.cells3; have lb := Bb_274.out.lt; obtain ⟨cb0, cb1, cb2⟩ := Bb_274.out.cells3; have lo := Bo_275.out.lt; obtain ⟨co0, co1, co2⟩ := Bo_275.out.cells3; have lvx := Bvx_276.out.lt; obtain ⟨cvx0, cvx1⟩ := Bvx_276.out.cells2; have lvy := Bvy_277.out.lt; obtain ⟨cvy0, cvy1⟩ := Bvy_277.out.cells2; have ld := Bd_278.out.lt; obtain ⟨cd0, cd1⟩ := Bd_278.out.cells2; have fd0 := Bd_278.out.free 0; have fd1 := Bd_278.out.free 1; have k_286 : SX3 (w_272) := (hS3 _).2 ⟨Ba_273.out.cell 0 rfl, Ba_273.out.cell 1 rfl, Ba_273.out.cell 2 rfl, Bb_274.out.cell 0 rfl, Bb_274.out.cell 1 rfl, Bb_274.out.cell 2 rfl⟩)
           | (clear tok_210; go_at_call 25; (with_reducible refine (rden_any (w_236) u y RB_245.out (by omega)).mono ?_); rintro e w_288 ⟨⟨r2, rfl, hr⟩, hb⟩; clear la ca0 ca1 ca2 lb cb0 cb1 cb2 lo co0 co1 co2 lvx cvx0 cvx1 lvy cvy0 cvy1 ld cd0 cd1 fd0 fd1 k_249; have K := Dk.below hb; have Ba_289 := Lib.hid (show Bk _ _ _ #[.bool t.q.b, .slice t.q.A t.q.n t.q.c, .slice t.A t.n t.c] from Ba_237.out.below hb); have Bb_290 := Lib.hid (show Bk _ _ _ #[.bool u.q.b, .slice u.q.A u.q.n u.q.c, .slice u.A u.n u.c] from Bb_238.out.below hb); have Bo_291 := Lib.hid (show Bk _ _ _ #[.bool false, .slice none 0 0, .slice none 0 0] from Bo_239.out.below hb); have Bvx_292 := Lib.hid (show Bk _ _ _ #[.bool vx.b, .slice vx.A vx.n vx.c] from Bvx_240.out.below hb); have Bvy_293 := Lib.hid (show Bk _ _ _ #[.bool vy.b, .slice vy.A vy.n vy.c] from Bvy_241.out.below hb); have Bd_294 := Lib.hid (show Bk _ _ _ #[.bool false, .slice none 0 0] from Bd_242.out.below hb); have HB_295 := Lib.hid (below_tr HB_243.out hb); clear hb; have RA_296 := Lib.hid (RA_244.out.dk K); have RB_297 := Lib.hid (RB_245.out.dk K); have RX_298 := Lib.hid (RX_246.out.dk K); have RY_299 := Lib.hid (RY_247.out.dk K); have D1_300 := Lib.hid (D1_248.out.dk K); clear K Ba_237 Bb_238 Bo_239 Bvx_240 Bvy_241 Bd_242 HB_243 RA_244 RB_245 RX_246 RY_247 D1_248; have D2_301 := Lib.hid hr; clear hr; have la := Ba_289.out.lt; obtain ⟨ca0, ca1, ca2⟩ := Ba_289.out.cells3; have lb := Bb_290.out.lt; obtain ⟨cb0, cb1, cb2⟩ := Bb_290.out.cells3; have lo := Bo_291.out.lt; obtain ⟨co0, co1, co2⟩ := Bo_291.out.cells3; have lvx := Bvx_292.out.lt; obtain ⟨cvx0, cvx1⟩ := Bvx_292.out.cells2; have lvy := Bvy_293.out.lt; obtain ⟨cvy0, cvy1⟩ := Bvy_293.out.cells2; have ld := Bd_294.out.lt; obtain ⟨cd0, cd1⟩ := Bd_294.out.cells2; have fd0 := Bd_294.out.free 0; have fd1 := Bd_294.out.free 1; have k_302 : SX3 (w_288) := (hS3 _).2 ⟨Ba_289.out.cell 0 rfl, Ba_289.out.cell 1 rfl, Ba_289.out.cell 2 rfl, Bb_290.out.cell 0 rfl, Bb_290.out.cell 1 rfl, Bb_290.out.cell 2 rfl⟩)
           | (clear tok_208; go_at_call 24; (with_reducible refine (wmul_q (w_251) r1 r2 (x.den : Int) (y.den : Int) D1_262.out D2_263.out (by omega)).mono ?_); rintro e w_304 ⟨⟨vd, rfl, hr⟩, hb⟩; clear la ca0 ca1 ca2 lb cb0 cb1 cb2 lo co0 co1 co2 lvx cvx0 cvx1 lvy cvy0 cvy1 k_264 k_265; have K := Dk.below hb; have Ba_305 := Lib.hid (show Bk _ _ _ #[.bool t.q.b, .slice t.q.A t.q.n t.q.c, .slice t.A t.n t.c] from Ba_252.out.below hb); have Bb_306 := Lib.hid (show Bk _ _ _ #[.bool u.q.b, .slice u.q.A u.q.n u.q.c, .slice u.A u.n u.c] from Bb_253.out.below hb); have Bo_307 := Lib.hid (show Bk _ _ _ #[.bool false, .slice none 0 0, .slice none 0 0] from Bo_254.out.below hb); have Bvx_308 := Lib.hid (show Bk _ _ _ #[.bool vx.b, .slice vx.A vx.n vx.c] from Bvx_255.out.below hb); have Bvy_309 := Lib.hid (show Bk _ _ _ #[.bool vy.b, .slice vy.A vy.n vy.c] from Bvy_256.out.below hb); have HB_310 := Lib.hid (below_tr HB_257.out hb); clear hb; have RA_311 := Lib.hid (RA_258.out.dk K); have RB_312 := Lib.hid (RB_259.out.dk K); have RX_313 := Lib.hid (RX_260.out.dk K); have RY_314 := Lib.hid (RY_261.out.dk K); have D1_315 := Lib.hid (D1_262.out.dk K); have D2_316 := Lib.hid (D2_263.out.dk K); clear K Ba_252 Bb_253 Bo_254 Bvx_255 Bvy_256 HB_257 RA_258 RB_259 RX_260 RY_261 D1_262 D2_263; have RD_317 := Lib.hid hr; clear hr; have la := Ba_305.out.lt; obtain ⟨ca0, ca1, ca2⟩ := Ba_305.out.cells3; have lb := Bb_306.out.lt; obtain ⟨cb0, cb1, cb2⟩ := Bb_306.out.cells3; have lo := Bo_307.out.lt; obtain ⟨co0, co1, co2⟩ := Bo_307.out.cells3; have lvx := Bvx_308.out.lt; obtain ⟨cvx0, cvx1⟩ := Bvx_308.out.cells2; have lvy := Bvy_309.out.lt; obtain ⟨cvy0, cvy1⟩ := Bvy_309.out.cells2; have k_318 : SX3 (w_304) := (hS3 _).2 ⟨Ba_305.out.cell 0 rfl, Ba_305.out.cell 1 rfl, Ba_305.out.cell 2 rfl, Bb_306.out.cell 0 rfl, Bb_306.out.cell 1 rfl, Bb_306.out.cell 2 rfl⟩; have n_319 := Ba_305.out.lt; have n_320 := Bb_306.out.lt; have n_321 := Bo_307.out.lt; have n_322 := Bvx_308.out.lt; have n_323 := Bvy_309.out.lt; have k_324 : SX3 (w_304.alloc (.cells #[.bool false, .slice none 0 0] 30)) := (hS3 _).2 ⟨(Ba_305.out.alloc _).cell 0 rfl, (Ba_305.out.alloc _).cell 1 rfl, (Ba_305.out.alloc _).cell 2 rfl, (Bb_306.out.alloc _).cell 0 rfl, (Bb_306.out.alloc _).cell 1 rfl, (Bb_306.out.alloc _).cell 2 rfl⟩; have k_325 : SX3 (w_304.alloc (.cells #[.bool vd.b, .slice vd.A vd.n vd.c] 30)) := (hS3 _).2 ⟨(Ba_305.out.alloc _).cell 0 rfl, (Ba_305.out.alloc _).cell 1 rfl, (Ba_305.out.alloc _).cell 2 rfl, (Bb_306.out.alloc _).cell 0 rfl, (Bb_306.out.alloc _).cell 1 rfl, (Bb_306.out.alloc _).cell 2 rfl⟩)
           | (clear tok_214; have n_327 := Ba_252.out.lt; have n_328 := Bb_253.out.lt; have n_329 := Bo_254.out.lt; have n_330 := Bvx_255.out.lt; have n_331 := Bvy_256.out.lt; go_at_call 24; (with_reducible refine (wmul_q (w_251.alloc (.cells #[.bool false, .slice none 0 0] 30)) r1 r2 (x.den : Int) (y.den : Int) (D1_262.out.dk ((Dk.refl _).alloc _)) (D2_263.out.dk ((Dk.refl _).alloc _)) (by omega)).mono ?_); rintro e w_332 ⟨⟨vd, rfl, hr⟩, hb⟩; clear la ca0 ca1 ca2 lb cb0 cb1 cb2 lo co0 co1 co2 lvx cvx0 cvx1 lvy cvy0 cvy1 k_264 k_265; have K := Dk.trans ((Dk.refl _).alloc _) (.below hb); have Ba_333 := Lib.hid (show Bk _ _ _ #[.bool t.q.b, .slice t.q.A t.q.n t.q.c, .slice t.A t.n t.c] from (Ba_252.out.alloc _).below hb); have Bb_334 := Lib.hid (show Bk _ _ _ #[.bool u.q.b, .slice u.q.A u.q.n u.q.c, .slice u.A u.n u.c] from (Bb_253.out.alloc _).below hb); have Bo_335 := Lib.hid (show Bk _ _ _ #[.bool false, .slice none 0 0, .slice none 0 0] from (Bo_254.out.alloc _).below hb); have Bvx_336 := Lib.hid (show Bk _ _ _ #[.bool vx.b, .slice vx.A vx.n vx.c] from (Bvx_255.out.alloc _).below hb); have Bvy_337 := Lib.hid (show Bk _ _ _ #[.bool vy.b, .slice vy.A vy.n vy.c] from (Bvy_256.out.alloc _).below hb); have Bd_338 := Lib.hid (show Bk _ _ _ #[.bool false, .slice none 0 0] from (Bk.new _ 30 #[.bool false, .slice none 0 0]).below hb); have HB_339 := Lib.hid (below_tr (below_al HB_257.out _) hb); clear hb; have RA_340 := Lib.hid (RA_258.out.dk K); have RB_341 := Lib.hid (RB_259.out.dk K); have RX_342 := Lib.hid (RX_260.out.dk K); have RY_343 := Lib.hid (RY_261.out.dk K); have D1_344 := Lib.hid (D1_262.out.dk K); have D2_345 := Lib.hid (D2_263.out.dk K); clear K Ba_252 Bb_253 Bo_254 Bvx_255 Bvy_256 HB_257 RA_258 RB_259 RX_260 RY_261 D1_262 D2_263; have RD_346 := Lib.hid hr; clear hr; have la := Ba_333.out.lt; obtain ⟨ca0, ca1, ca2⟩ := Ba_333.out.cells3; have lb := Bb_334.out.lt; obtain ⟨cb0, cb1, cb2⟩ := Bb_334.out.cells3; have lo := Bo_335.out.lt; obtain ⟨co0, co1, co2⟩ := Bo_335.out.cells3; have lvx := Bvx_336.out.lt; obtain ⟨cvx0, cvx1⟩ := Bvx_336.out.cells2; have lvy := Bvy_337.out.lt; obtain ⟨cvy0, cvy1⟩ := Bvy_337.out.cells2; have ld := Bd_338.out.lt; obtain ⟨cd0, cd1⟩ := Bd_338.out.cells2; have fd0 := Bd_338.out.free 0; have fd1 := Bd_338.out.free 1; have k_347 : SX3 (w_332) := (hS3 _).2 ⟨Ba_333.out.cell 0 rfl, Ba_333.out.cell 1 rfl, Ba_333.out.cell 2 rfl, Bb_334.out.cell 0 rfl, Bb_334.out.cell 1 rfl, Bb_334.out.cell 2 rfl⟩; have y0 := Ba_333.out.lt; have y1 := Bb_334.out.lt; have y2 := Bo_335.out.lt; have y3 := Bvx_336.out.lt; have y4 := Bvy_337.out.lt; have y5 := Bd_338.out.lt; have y6 := HB_339.out.size; have k_348 : SX3 ((w_332.setCell ⟨w_251.heap.size, 0, none⟩ (.bool vd.b)).setCell ⟨w_251.heap.size, 1, none⟩ (.slice vd.A vd.n vd.c)) := (hS3 _).2 ⟨((Ba_333.out.ne (by omega) 0 (.bool vd.b)).ne (by omega) 1 (.slice vd.A vd.n vd.c)).cell 0 rfl, ((Ba_333.out.ne (by omega) 0 (.bool vd.b)).ne (by omega) 1 (.slice vd.A vd.n vd.c)).cell 1 rfl, ((Ba_333.out.ne (by omega) 0 (.bool vd.b)).ne (by omega) 1 (.slice vd.A vd.n vd.c)).cell 2 rfl, ((Bb_334.out.ne (by omega) 0 (.bool vd.b)).ne (by omega) 1 (.slice vd.A vd.n vd.c)).cell 0 rfl, ((Bb_334.out.ne (by omega) 0 (.bool vd.b)).ne (by omega) 1 (.slice vd.A vd.n vd.c)).cell 1 rfl, ((Bb_334.out.ne (by omega) 0 (.bool vd.b)).ne (by omega) 1 (.slice vd.A vd.n vd.c)).cell 2 rfl⟩; clear y0 y1 y2 y3 y4 y5 y6)
           | (clear tok_211; go_at_call 24; (with_reducible refine (wmul_q (w_288) r1 r2 (x.den : Int) (y.den : Int) D1_300.out D2_301.out (by omega)).mono ?_); rintro e w_350 ⟨⟨vd, rfl, hr⟩, hb⟩; clear la ca0 ca1 ca2 lb cb0 cb1 cb2 lo co0 co1 co2 lvx cvx0 cvx1 lvy cvy0 cvy1 ld cd0 cd1 fd0 fd1 k_302; have K := Dk.below hb; have Ba_351 := Lib.hid (show Bk _ _ _ #[.bool t.q.b, .slice t.q.A t.q.n t.q.c, .slice t.A t.n t.c] from Ba_289.out.below hb); have Bb_352 := Lib.hid (show Bk _ _ _ #[.bool u.q.b, .slice u.q.A u.q.n u.q.c, .slice u.A u.n u.c] from Bb_290.out.below hb); have Bo_353 := Lib.hid (show Bk _ _ _ #[.bool false, .slice none 0 0, .slice none 0 0] from Bo_291.out.below hb); have Bvx_354 := Lib.hid (show Bk _ _ _ #[.bool vx.b, .slice vx.A vx.n vx.c] from Bvx_292.out.below hb); have Bvy_355 := Lib.hid (show Bk _ _ _ #[.bool vy.b, .slice vy.A vy.n vy.c] from Bvy_293.out.below hb); have Bd_356 := Lib.hid (show Bk _ _ _ #[.bool false, .slice none 0 0] from Bd_294.out.below hb); have HB_357 := Lib.hid (below_tr HB_295.out hb); clear hb; have RA_358 := Lib.hid (RA_296.out.dk K); have RB_359 := Lib.hid (RB_297.out.dk K); have RX_360 := Lib.hid (RX_298.out.dk K); have RY_361 := Lib.hid (RY_299.out.dk K); have D1_362 := Lib.hid (D1_300.out.dk K); have D2_363 := Lib.hid (D2_301.out.dk K); clear K Ba_289 Bb_290 Bo_291 Bvx_292 Bvy_293 Bd_294 HB_295 RA_296 RB_297 RX_298 RY_299 D1_300 D2_301; have RD_364 := Lib.hid hr; clear hr; have la := Ba_351.out.lt; obtain ⟨ca0, ca1, ca2⟩ := Ba_351.out.cells3; have lb := Bb_352.out.lt; obtain ⟨cb0, cb1, cb2⟩ := Bb_352.out.cells3; have lo := Bo_353.out.lt; obtain ⟨co0, co1, co2⟩ := Bo_353.out.cells3; have lvx := Bvx_354.out.lt; obtain ⟨cvx0, cvx1⟩ := Bvx_354.out.cells2; have lvy := Bvy_355.out.lt; obtain ⟨cvy0, cvy1⟩ := Bvy_355.out.cells2; have ld := Bd_356.out.lt; obtain ⟨cd0, cd1⟩ := Bd_356.out.cells2; have fd0 := Bd_356.out.free 0; have fd1 := Bd_356.out.free 1; have k_365 : SX3 (w_350) := (hS3 _).2 ⟨Ba_351.out.cell 0 rfl, Ba_351.out.cell 1 rfl, Ba_351.out.cell 2 rfl, Bb_352.out.cell 0 rfl, Bb_352.out.cell 1 rfl, Bb_352.out.cell 2 rfl⟩; have y0 := Ba_351.out.lt; have y1 := Bb_352.out.lt; have y2 := Bo_353.out.lt; have y3 := Bvx_354.out.lt; have y4 := Bvy_355.out.lt; have y5 := Bd_356.out.lt; have y6 := HB_357.out.size; have k_366 : SX3 ((w_350.setCell ⟨w_188.heap.size, 0, none⟩ (.bool vd.b)).setCell ⟨w_188.heap.size, 1, none⟩ (.slice vd.A vd.n vd.c)) := (hS3 _).2 ⟨((Ba_351.out.ne (by omega) 0 (.bool vd.b)).ne (by omega) 1 (.slice vd.A vd.n vd.c)).cell 0 rfl, ((Ba_351.out.ne (by omega) 0 (.bool vd.b)).ne (by omega) 1 (.slice vd.A vd.n vd.c)).cell 1 rfl, ((Ba_351.out.ne (by omega) 0 (.bool vd.b)).ne (by omega) 1 (.slice vd.A vd.n vd.c)).cell 2 rfl, ((Bb_352.out.ne (by omega) 0 (.bool vd.b)).ne (by omega) 1 (.slice vd.A vd.n vd.c)).cell 0 rfl, ((Bb_352.out.ne (by omega) 0 (.bool vd.b)).ne (by omega) 1 (.slice vd.A vd.n vd.c)).cell 1 rfl, ((Bb_352.out.ne (by omega) 0 (.bool vd.b)).ne (by omega) 1 (.slice vd.A vd.n vd.c)).cell 2 rfl⟩; clear y0 y1 y2 y3 y4 y5 y6)
           | (clear tok_213; go_at_call 24; (with_reducible refine (wmul_q (w_272) r1 r2 (x.den : Int) (y.den : Int) D1_284.out D2_285.out (by omega)).mono ?_); rintro e w_368 ⟨⟨vd, rfl, hr⟩, hb⟩; clear la ca0 ca1 ca2 lb cb0 cb1 cb2 lo co0 co1 co2 lvx cvx0 cvx1 lvy cvy0 cvy1 ld cd0 cd1 fd0 fd1 k_286; have K := Dk.below hb; have Ba_369 := Lib.hid (show Bk _ _ _ #[.bool t.q.b, .slice t.q.A t.q.n t.q.c, .slice t.A t.n t.c] from Ba_273.out.below hb); have Bb_370 := Lib.hid (show Bk _ _ _ #[.bool u.q.b, .slice u.q.A u.q.n u.q.c, .slice u.A u.n u.c] from Bb_274.out.below hb); have Bo_371 := Lib.hid (show Bk _ _ _ #[.bool false, .slice none 0 0, .slice none 0 0] from Bo_275.out.below hb); have Bvx_372 := Lib.hid (show Bk _ _ _ #[.bool vx.b, .slice vx.A vx.n vx.c] from Bvx_276.out.below hb); have Bvy_373 := Lib.hid (show Bk _ _ _ #[.bool vy.b, .slice vy.A vy.n vy.c] from Bvy_277.out.below hb); have Bd_374 := Lib.hid (show Bk _ _ _ #[.bool false, .slice none 0 0] from Bd_278.out.below hb); have HB_375 := Lib.hid (below_tr HB_279.out hb); clear hb; have RA_376 := Lib.hid (RA_280.out.dk K); have RB_377 := Lib.hid (RB_281.out.dk K); have RX_378 := Lib.hid (RX_282.out.dk K); have RY_379 := Lib.hid (RY_283.out.dk K); have D1_380 := Lib.hid (D1_284.out.dk K); have D2_381 := Lib.hid (D2_285.out.dk K); clear K Ba_273 Bb_274 Bo_275 Bvx_276 Bvy_277 Bd_278 HB_279 RA_280 RB_281 RX_282 RY_283 D1_284 D2_285; have RD_382 := Lib.hid hr; clear hr; have la := Ba_369.out.lt; obtain ⟨ca0, ca1, ca2⟩ := Ba_369.out.cells3; have lb := Bb_370.out.lt; obtain ⟨cb0, cb1, cb2⟩ := Bb_370.out.cells3; have lo := Bo_371.out.lt; obtain ⟨co0, co1, co2⟩ := Bo_371.out.cells3; have lvx := Bvx_372.out.lt; obtain ⟨cvx0, cvx1⟩ := Bvx_372.out.cells2; have lvy := Bvy_373.out.lt; obtain ⟨cvy0, cvy1⟩ := Bvy_373.out.cells2; have ld := Bd_374.out.lt; obtain ⟨cd0, cd1⟩ := Bd_374.out.cells2; have fd0 := Bd_374.out.free 0; have fd1 := Bd_374.out.free 1; have k_383 : SX3 (w_368) := (hS3 _).2 ⟨Ba_369.out.cell 0 rfl, Ba_369.out.cell 1 rfl, Ba_369.out.cell 2 rfl, Bb_370.out.cell 0 rfl, Bb_370.out.cell 1 rfl, Bb_370.out.cell 2 rfl⟩; have y0 := Ba_369.out.lt; have y1 := Bb_370.out.lt; have y2 := Bo_371.out.lt; have y3 := Bvx_372.out.lt; have y4 := Bvy_373.out.lt; have y5 := Bd_374.out.lt; have y6 := HB_375.out.size; have k_384 : SX3 ((w_368.setCell ⟨w_216.heap.size, 0, none⟩ (.bool vd.b)).setCell ⟨w_216.heap.size, 1, none⟩ (.slice vd.A vd.n vd.c)) := (hS3 _).2 ⟨((Ba_369.out.ne (by omega) 0 (.bool vd.b)).ne (by omega) 1 (.slice vd.A vd.n vd.c)).cell 0 rfl, ((Ba_369.out.ne (by omega) 0 (.bool vd.b)).ne (by omega) 1 (.slice vd.A vd.n vd.c)).cell 1 rfl, ((Ba_369.out.ne (by omega) 0 (.bool vd.b)).ne (by omega) 1 (.slice vd.A vd.n vd.c)).cell 2 rfl, ((Bb_370.out.ne (by omega) 0 (.bool vd.b)).ne (by omega) 1 (.slice vd.A vd.n vd.c)).cell 0 rfl, ((Bb_370.out.ne (by omega) 0 (.bool vd.b)).ne (by omega) 1 (.slice vd.A vd.n vd.c)).cell 1 rfl, ((Bb_370.out.ne (by omega) 0 (.bool vd.b)).ne (by omega) 1 (.slice vd.A vd.n vd.c)).cell 2 rfl⟩; clear y0 y1 y2 y3 y4 y5 y6)
           | fail)
        all_goals (go_wp2_with fail; go_meet; first | (have y0 := Ba_305.out.lt; have y1 := Bb_306.out.lt; have y2 := Bo_307.out.lt; have y3 := Bvx_308.out.lt; have y4 := Bvy_309.out.lt; have y5 := HB_310.out.size; exact ⟨w_304.heap.size, vd, rfl, rfl, (by omega), (by omega), (by omega), (by omega), (by omega), (Bk.new _ 30 #[.bool vd.b, .slice vd.A vd.n vd.c]), (Ba_305.out.alloc _), (Bb_306.out.alloc _), (Bo_307.out.alloc _), (Bvx_308.out.alloc _), (Bvy_309.out.alloc _), (below_al HB_310.out _), (RX_313.out.dk ((Dk.refl _).alloc _)), (RY_314.out.dk ((Dk.refl _).alloc _)), (RD_317.out.dk ((Dk.refl _).alloc _))⟩) | (have y0 := Ba_351.out.lt; have y1 := Bb_352.out.lt; have y2 := Bo_353.out.lt; have y3 := Bvx_354.out.lt; have y4 := Bvy_355.out.lt; have y5 := Bd_356.out.lt; have y6 := HB_357.out.size; exact ⟨w_188.heap.size, vd, rfl, rfl, (by omega), (by omega), (by omega), (by omega), (by omega), ((Bd_356.out.set 0 (.bool vd.b)).set 1 (.slice vd.A vd.n vd.c)), ((Ba_351.out.ne (by omega) 0 (.bool vd.b)).ne (by omega) 1 (.slice vd.A vd.n vd.c)), ((Bb_352.out.ne (by omega) 0 (.bool vd.b)).ne (by omega) 1 (.slice vd.A vd.n vd.c)), ((Bo_353.out.ne (by omega) 0 (.bool vd.b)).ne (by omega) 1 (.slice vd.A vd.n vd.c)), ((Bvx_354.out.ne (by omega) 0 (.bool vd.b)).ne (by omega) 1 (.slice vd.A vd.n vd.c)), ((Bvy_355.out.ne (by omega) 0 (.bool vd.b)).ne (by omega) 1 (.slice vd.A vd.n vd.c)), (below_st (below_st HB_357.out 0 (by omega) (.bool vd.b)) 1 (by omega) (.slice vd.A vd.n vd.c)), (RX_360.out.dk (((Dk.refl _).set (cs := #[.bool false, .slice none 0 0]) Bd_356.out 0 (by intro _ hh; cases hh) (.bool vd.b)).set (cs := #[.bool vd.b, .slice none 0 0]) (Bd_356.out.set 0 (.bool vd.b)) 1 (by intro _ hh; cases hh) (.slice vd.A vd.n vd.c))), (RY_361.out.dk (((Dk.refl _).set (cs := #[.bool false, .slice none 0 0]) Bd_356.out 0 (by intro _ hh; cases hh) (.bool vd.b)).set (cs := #[.bool vd.b, .slice none 0 0]) (Bd_356.out.set 0 (.bool vd.b)) 1 (by intro _ hh; cases hh) (.slice vd.A vd.n vd.c))), (RD_364.out.dk (((Dk.refl _).set (cs := #[.bool false, .slice none 0 0]) Bd_356.out 0 (by intro _ hh; cases hh) (.bool vd.b)).set (cs := #[.bool vd.b, .slice none 0 0]) (Bd_356.out.set 0 (.bool vd.b)) 1 (by intro _ hh; cases hh) (.slice vd.A vd.n vd.c)))⟩) | (have y0 := Ba_369.out.lt; have y1 := Bb_370.out.lt; have y2 := Bo_371.out.lt; have y3 := Bvx_372.out.lt; have y4 := Bvy_373.out.lt; have y5 := Bd_374.out.lt; have y6 := HB_375.out.size; exact ⟨w_216.heap.size, vd, rfl, rfl, (by omega), (by omega), (by omega), (by omega), (by omega), ((Bd_374.out.set 0 (.bool vd.b)).set 1 (.slice vd.A vd.n vd.c)), ((Ba_369.out.ne (by omega) 0 (.bool vd.b)).ne (by omega) 1 (.slice vd.A vd.n vd.c)), ((Bb_370.out.ne (by omega) 0 (.bool vd.b)).ne (by omega) 1 (.slice vd.A vd.n vd.c)), ((Bo_371.out.ne (by omega) 0 (.bool vd.b)).ne (by omega) 1 (.slice vd.A vd.n vd.c)), ((Bvx_372.out.ne (by omega) 0 (.bool vd.b)).ne (by omega) 1 (.slice vd.A vd.n vd.c)), ((Bvy_373.out.ne (by omega) 0 (.bool vd.b)).ne (by omega) 1 (.slice vd.A vd.n vd.c)), (below_st (below_st HB_375.out 0 (by omega) (.bool vd.b)) 1 (by omega) (.slice vd.A vd.n vd.c)), (RX_378.out.dk (((Dk.refl _).set (cs := #[.bool false, .slice none 0 0]) Bd_374.out 0 (by intro _ hh; cases hh) (.bool vd.b)).set (cs := #[.bool vd.b, .slice none 0 0]) (Bd_374.out.set 0 (.bool vd.b)) 1 (by intro _ hh; cases hh) (.slice vd.A vd.n vd.c))), (RY_379.out.dk (((Dk.refl _).set (cs := #[.bool false, .slice none 0 0]) Bd_374.out 0 (by intro _ hh; cases hh) (.bool vd.b)).set (cs := #[.bool vd.b, .slice none 0 0]) (Bd_374.out.set 0 (.bool vd.b)) 1 (by intro _ hh; cases hh) (.slice vd.A vd.n vd.c))), (RD_382.out.dk (((Dk.refl _).set (cs := #[.bool false, .slice none 0 0]) Bd_374.out 0 (by intro _ hh; cases hh) (.bool vd.b)).set (cs := #[.bool vd.b, .slice none 0 0]) (Bd_374.out.set 0 (.bool vd.b)) 1 (by intro _ hh; cases hh) (.slice vd.A vd.n vd.c)))⟩) | (have y0 := Ba_333.out.lt; have y1 := Bb_334.out.lt; have y2 := Bo_335.out.lt; have y3 := Bvx_336.out.lt; have y4 := Bvy_337.out.lt; have y5 := Bd_338.out.lt; have y6 := HB_339.out.size; exact ⟨w_251.heap.size, vd, rfl, rfl, (by omega), (by omega), (by omega), (by omega), (by omega), ((Bd_338.out.set 0 (.bool vd.b)).set 1 (.slice vd.A vd.n vd.c)), ((Ba_333.out.ne (by omega) 0 (.bool vd.b)).ne (by omega) 1 (.slice vd.A vd.n vd.c)), ((Bb_334.out.ne (by omega) 0 (.bool vd.b)).ne (by omega) 1 (.slice vd.A vd.n vd.c)), ((Bo_335.out.ne (by omega) 0 (.bool vd.b)).ne (by omega) 1 (.slice vd.A vd.n vd.c)), ((Bvx_336.out.ne (by omega) 0 (.bool vd.b)).ne (by omega) 1 (.slice vd.A vd.n vd.c)), ((Bvy_337.out.ne (by omega) 0 (.bool vd.b)).ne (by omega) 1 (.slice vd.A vd.n vd.c)), (below_st (below_st HB_339.out 0 (by omega) (.bool vd.b)) 1 (by omega) (.slice vd.A vd.n vd.c)), (RX_342.out.dk (((Dk.refl _).set (cs := #[.bool false, .slice none 0 0]) Bd_338.out 0 (by intro _ hh; cases hh) (.bool vd.b)).set (cs := #[.bool vd.b, .slice none 0 0]) (Bd_338.out.set 0 (.bool vd.b)) 1 (by intro _ hh; cases hh) (.slice vd.A vd.n vd.c))), (RY_343.out.dk (((Dk.refl _).set (cs := #[.bool false, .slice none 0 0]) Bd_338.out 0 (by intro _ hh; cases hh) (.bool vd.b)).set (cs := #[.bool vd.b, .slice none 0 0]) (Bd_338.out.set 0 (.bool vd.b)) 1 (by intro _ hh; cases hh) (.slice vd.A vd.n vd.c))), (RD_346.out.dk (((Dk.refl _).set (cs := #[.bool false, .slice none 0 0]) Bd_338.out 0 (by intro _ hh; cases hh) (.bool vd.b)).set (cs := #[.bool vd.b, .slice none 0 0]) (Bd_338.out.set 0 (.bool vd.b)) 1 (by intro _ hh; cases hh) (.slice vd.A vd.n vd.c)))⟩))
      case rest =>
        clear la ca0 ca1 ca2 lb cb0 cb1 cb2 lo co0 co1 co2 lvx cvx0 cvx1 lvy cvy0 cvy1
        clear Ba_189 Bb_191 Bo_193 Bvx_195 Bvy_197 RA_199 RB_200 RX_201 RY_202 HB_197
        obtain ⟨w_387, rfl⟩ : ∃ x, x = wc := ⟨_, rfl⟩
        obtain ⟨g_203, vd, rfl, rfl, nn0, nn1, nn2, nn3, nn4, bz, bo0, bo1, bo2, bo3, bo4, hbel, hf0, hf1, hf2⟩ := hcut
        have Ba_388 := Lib.hid bo0
        have n_389 := nn0
        have Bb_390 := Lib.hid bo1
        have n_391 := nn1
        have Bo_392 := Lib.hid bo2
        have n_393 := nn2
        have Bvx_394 := Lib.hid bo3
        have n_395 := nn3
        have Bvy_396 := Lib.hid bo4
        have n_397 := nn4
        have Bd_398 := Lib.hid bz
        have HB_398 := Lib.hid hbel
        have RX_400 := Lib.hid hf0
        have RY_401 := Lib.hid hf1
        have RD_402 := Lib.hid hf2
        clear nn0 nn1 nn2 nn3 nn4 bz bo0 bo1 bo2 bo3 bo4 hbel hf0 hf1 hf2
        have la := Ba_388.out.lt
        obtain ⟨ca0, ca1, ca2⟩ := Ba_388.out.cells3
        have lb := Bb_390.out.lt
        obtain ⟨cb0, cb1, cb2⟩ := Bb_390.out.cells3
        have lo := Bo_392.out.lt
        obtain ⟨co0, co1, co2⟩ := Bo_392.out.cells3
        have lvx := Bvx_394.out.lt
        obtain ⟨cvx0, cvx1⟩ := Bvx_394.out.cells2
        have lvy := Bvy_396.out.lt
        obtain ⟨cvy0, cvy1⟩ := Bvy_396.out.cells2
        have ld := Bd_398.out.lt
        obtain ⟨cd0, cd1⟩ := Bd_398.out.cells2
        go_wp2_with fail
        have n_403 := Ba_388.out.lt
        have n_404 := Bb_390.out.lt
        have n_405 := Bo_392.out.lt
        have n_406 := Bvx_394.out.lt
        have n_407 := Bvy_396.out.lt
        have n_408 := Bd_398.out.lt
        go_wp2_with fail
        clear la ca0 ca1 ca2 lb cb0 cb1 cb2 lo co0 co1 co2 lvx cvx0 cvx1 lvy cvy0 cvy1 ld cd0 cd1
        have K : Dk w_387 (w_387.alloc (.cells #[.int .i64 0, .int .i64 0, .int .i64 0] 33)) := ((Dk.refl _).alloc _)
        have Ba_409 := Lib.hid (show Bk (w_387.alloc (.cells #[.int .i64 0, .int .i64 0, .int .i64 0] 33)) (w.heap.size) 32 #[.bool t.q.b, .slice t.q.A t.q.n t.q.c, .slice t.A t.n t.c] from (Ba_388.out.alloc _))
        have Bb_410 := Lib.hid (show Bk (w_387.alloc (.cells #[.int .i64 0, .int .i64 0, .int .i64 0] 33)) (w.heap.size + 1) 32 #[.bool u.q.b, .slice u.q.A u.q.n u.q.c, .slice u.A u.n u.c] from (Bb_390.out.alloc _))
        have Bo_411 := Lib.hid (show Bk (w_387.alloc (.cells #[.int .i64 0, .int .i64 0, .int .i64 0] 33)) (w.heap.size + 2) 32 #[.bool false, .slice none 0 0, .slice none 0 0] from (Bo_392.out.alloc _))
        have Bvx_412 := Lib.hid (show Bk (w_387.alloc (.cells #[.int .i64 0, .int .i64 0, .int .i64 0] 33)) (g_3) 30 #[.bool vx.b, .slice vx.A vx.n vx.c] from (Bvx_394.out.alloc _))
        have Bvy_413 := Lib.hid (show Bk (w_387.alloc (.cells #[.int .i64 0, .int .i64 0, .int .i64 0] 33)) (g_95) 30 #[.bool vy.b, .slice vy.A vy.n vy.c] from (Bvy_396.out.alloc _))
        have Bd_414 := Lib.hid (show Bk (w_387.alloc (.cells #[.int .i64 0, .int .i64 0, .int .i64 0] 33)) (g_203) 30 #[.bool vd.b, .slice vd.A vd.n vd.c] from (Bd_398.out.alloc _))
        have Bl_415 := Lib.hid (show Bk (w_387.alloc (.cells #[.int .i64 0, .int .i64 0, .int .i64 0] 33)) (w_387.heap.size) 33 #[.int .i64 0, .int .i64 0, .int .i64 0] from (Bk.new _ 33 #[.int .i64 0, .int .i64 0, .int .i64 0]))
        have HB_416 := Lib.hid (show Below w.heap.size w (w_387.alloc (.cells #[.int .i64 0, .int .i64 0, .int .i64 0] 33)) from (below_al HB_398.out _))
        have RX_417 := Lib.hid (RX_400.out.dk K)
        have RY_418 := Lib.hid (RY_401.out.dk K)
        have RD_419 := Lib.hid (RD_402.out.dk K)
        clear K Ba_388 Bb_390 Bo_392 Bvx_394 Bvy_396 Bd_398 HB_398 RX_400 RY_401 RD_402
        generalize w_387.alloc (.cells #[.int .i64 0, .int .i64 0, .int .i64 0] 33) = w1 at *
        have hz : ∀ j, j < 3 → w1.cell? ⟨w_387.heap.size, j, none⟩ = some (.int .i64 0) := fun j hj => by have h0 := Bl_415.out.cell; match j, hj with | 0, _ => exact h0 0 rfl | 1, _ => exact h0 1 rfl | 2, _ => exact h0 2 rfl
        refine (first_zero _ _ 3 hz (by omega)).mono ?_
        rintro e w2 ⟨rfl, hb⟩
        have K := Dk.below hb
        have Ba_420 := Lib.hid (show Bk _ _ _ #[.bool t.q.b, .slice t.q.A t.q.n t.q.c, .slice t.A t.n t.c] from Ba_409.out.below hb)
        have Bb_421 := Lib.hid (show Bk _ _ _ #[.bool u.q.b, .slice u.q.A u.q.n u.q.c, .slice u.A u.n u.c] from Bb_410.out.below hb)
        have Bo_422 := Lib.hid (show Bk _ _ _ #[.bool false, .slice none 0 0, .slice none 0 0] from Bo_411.out.below hb)
        have Bvx_423 := Lib.hid (show Bk _ _ _ #[.bool vx.b, .slice vx.A vx.n vx.c] from Bvx_412.out.below hb)
        have Bvy_424 := Lib.hid (show Bk _ _ _ #[.bool vy.b, .slice vy.A vy.n vy.c] from Bvy_413.out.below hb)
        have Bd_425 := Lib.hid (show Bk _ _ _ #[.bool vd.b, .slice vd.A vd.n vd.c] from Bd_414.out.below hb)
        have Bl_426 := Lib.hid (show Bk _ _ _ #[.int .i64 0, .int .i64 0, .int .i64 0] from Bl_415.out.below hb)
        have HB_427 := Lib.hid (below_tr HB_416.out hb)
        clear hb
        have RX_428 := Lib.hid (RX_417.out.dk K)
        have RY_429 := Lib.hid (RY_418.out.dk K)
        have RD_430 := Lib.hid (RD_419.out.dk K)
        clear K Ba_409 Bb_410 Bo_411 Bvx_412 Bvy_413 Bd_414 Bl_415 HB_416 RX_417 RY_418 RD_419
        clear hz
        clear Bl_426
        have lvx := Bvx_423.out.lt
        obtain ⟨cvx0, cvx1⟩ := Bvx_423.out.cells2
        have lvy := Bvy_424.out.lt
        obtain ⟨cvy0, cvy1⟩ := Bvy_424.out.cells2
        go_wp2_with fail
        refine (wadd_q _ vx vy (x.num * (y.den : Int)) (y.num * (x.den : Int)) RX_428.out RY_429.out (by have := (addn_lim LA.out LB.out).1; omega) (by have := (addn_lim LA.out LB.out).2.1; omega)).mono ?_
        rintro e w3 ⟨⟨n, rfl, hn⟩, hb⟩
        clear lvx cvx0 cvx1 lvy cvy0 cvy1
        have K := Dk.below hb
        have Ba_431 := Lib.hid (show Bk _ _ _ #[.bool t.q.b, .slice t.q.A t.q.n t.q.c, .slice t.A t.n t.c] from Ba_420.out.below hb)
        have Bb_432 := Lib.hid (show Bk _ _ _ #[.bool u.q.b, .slice u.q.A u.q.n u.q.c, .slice u.A u.n u.c] from Bb_421.out.below hb)
        have Bo_433 := Lib.hid (show Bk _ _ _ #[.bool false, .slice none 0 0, .slice none 0 0] from Bo_422.out.below hb)
        have Bvx_434 := Lib.hid (show Bk _ _ _ #[.bool vx.b, .slice vx.A vx.n vx.c] from Bvx_423.out.below hb)
        have Bvy_435 := Lib.hid (show Bk _ _ _ #[.bool vy.b, .slice vy.A vy.n vy.c] from Bvy_424.out.below hb)
        have Bd_436 := Lib.hid (show Bk _ _ _ #[.bool vd.b, .slice vd.A vd.n vd.c] from Bd_425.out.below hb)
        have HB_437 := Lib.hid (below_tr HB_427.out hb)
        clear hb
        have RX_438 := Lib.hid (RX_428.out.dk K)
        have RY_439 := Lib.hid (RY_429.out.dk K)
        have RD_440 := Lib.hid (RD_430.out.dk K)
        clear K Ba_420 Bb_421 Bo_422 Bvx_423 Bvy_424 Bd_425 HB_427 RX_428 RY_429 RD_430
        have RN_441 := Lib.hid hn
        clear hn
        have lvx := Bvx_434.out.lt
        obtain ⟨cvx0, cvx1⟩ := Bvx_434.out.cells2
        have lvy := Bvy_435.out.lt
        obtain ⟨cvy0, cvy1⟩ := Bvy_435.out.cells2
        have ld := Bd_436.out.lt
        obtain ⟨cd0, cd1⟩ := Bd_436.out.cells2
        have n_442 := Ba_431.out.lt
        have n_443 := Bb_432.out.lt
        have n_444 := Bo_433.out.lt
        have n_445 := Bvx_434.out.lt
        have n_446 := Bvy_435.out.lt
        have n_447 := Bd_436.out.lt
        go_upto_region 8 with (fail)
        clear lvx cvx0 cvx1 lvy cvy0 cvy1 ld cd0 cd1
        have K : Dk w3 (w3.alloc (.cells #[.bool n.b, .slice n.A n.n n.c] 30)) := ((Dk.refl _).alloc _)
        have Ba_448 := Lib.hid (show Bk (w3.alloc (.cells #[.bool n.b, .slice n.A n.n n.c] 30)) (w.heap.size) 32 #[.bool t.q.b, .slice t.q.A t.q.n t.q.c, .slice t.A t.n t.c] from (Ba_431.out.alloc _))
        have Bb_449 := Lib.hid (show Bk (w3.alloc (.cells #[.bool n.b, .slice n.A n.n n.c] 30)) (w.heap.size + 1) 32 #[.bool u.q.b, .slice u.q.A u.q.n u.q.c, .slice u.A u.n u.c] from (Bb_432.out.alloc _))
        have Bo_450 := Lib.hid (show Bk (w3.alloc (.cells #[.bool n.b, .slice n.A n.n n.c] 30)) (w.heap.size + 2) 32 #[.bool false, .slice none 0 0, .slice none 0 0] from (Bo_433.out.alloc _))
        have Bvx_451 := Lib.hid (show Bk (w3.alloc (.cells #[.bool n.b, .slice n.A n.n n.c] 30)) (g_3) 30 #[.bool vx.b, .slice vx.A vx.n vx.c] from (Bvx_434.out.alloc _))
        have Bvy_452 := Lib.hid (show Bk (w3.alloc (.cells #[.bool n.b, .slice n.A n.n n.c] 30)) (g_95) 30 #[.bool vy.b, .slice vy.A vy.n vy.c] from (Bvy_435.out.alloc _))
        have Bd_453 := Lib.hid (show Bk (w3.alloc (.cells #[.bool n.b, .slice n.A n.n n.c] 30)) (g_203) 30 #[.bool vd.b, .slice vd.A vd.n vd.c] from (Bd_436.out.alloc _))
        have Bn_454 := Lib.hid (show Bk (w3.alloc (.cells #[.bool n.b, .slice n.A n.n n.c] 30)) (w3.heap.size) 30 #[.bool n.b, .slice n.A n.n n.c] from (Bk.new _ 30 #[.bool n.b, .slice n.A n.n n.c]))
        have HB_455 := Lib.hid (show Below w.heap.size w (w3.alloc (.cells #[.bool n.b, .slice n.A n.n n.c] 30)) from (below_al HB_437.out _))
        have RX_456 := Lib.hid (RX_438.out.dk K)
        have RY_457 := Lib.hid (RY_439.out.dk K)
        have RD_458 := Lib.hid (RD_440.out.dk K)
        have RN_459 := Lib.hid (RN_441.out.dk K)
        clear K Ba_431 Bb_432 Bo_433 Bvx_434 Bvy_435 Bd_436 HB_437 RX_438 RY_439 RD_440 RN_441
        generalize w3.alloc (.cells #[.bool n.b, .slice n.A n.n n.c] 30) = w4 at *
        have ld := Bd_453.out.lt
        obtain ⟨cd0, cd1⟩ := Bd_453.out.cells2
        have ln := Bn_454.out.lt
        obtain ⟨cn0, cn1⟩ := Bn_454.out.cells2
        go_wp2_with fail
        refine (rmake_any _ n vd (x.num * (y.den : Int) + y.num * (x.den : Int)) ((x.den : Int) * (y.den : Int)) RN_459.out RD_458.out (den_ne x y) (by have := (addn_lim LA.out LB.out).2.2.2; omega) (by have := (addn_lim LA.out LB.out).2.2.1; omega)).mono ?_
        rintro e w5 ⟨⟨r, rfl, hr⟩, hb⟩
        clear ld cd0 cd1 ln cn0 cn1
        have K := Dk.below hb
        have Ba_460 := Lib.hid (show Bk _ _ _ #[.bool t.q.b, .slice t.q.A t.q.n t.q.c, .slice t.A t.n t.c] from Ba_448.out.below hb)
        have Bb_461 := Lib.hid (show Bk _ _ _ #[.bool u.q.b, .slice u.q.A u.q.n u.q.c, .slice u.A u.n u.c] from Bb_449.out.below hb)
        have Bo_462 := Lib.hid (show Bk _ _ _ #[.bool false, .slice none 0 0, .slice none 0 0] from Bo_450.out.below hb)
        have Bvx_463 := Lib.hid (show Bk _ _ _ #[.bool vx.b, .slice vx.A vx.n vx.c] from Bvx_451.out.below hb)
        have Bvy_464 := Lib.hid (show Bk _ _ _ #[.bool vy.b, .slice vy.A vy.n vy.c] from Bvy_452.out.below hb)
        have Bd_465 := Lib.hid (show Bk _ _ _ #[.bool vd.b, .slice vd.A vd.n vd.c] from Bd_453.out.below hb)
        have Bn_466 := Lib.hid (show Bk _ _ _ #[.bool n.b, .slice n.A n.n n.c] from Bn_454.out.below hb)
        have HB_467 := Lib.hid (below_tr HB_455.out hb)
        clear hb
        have RX_468 := Lib.hid (RX_456.out.dk K)
        have RY_469 := Lib.hid (RY_457.out.dk K)
        have RD_470 := Lib.hid (RD_458.out.dk K)
        have RN_471 := Lib.hid (RN_459.out.dk K)
        clear K Ba_448 Bb_449 Bo_450 Bvx_451 Bvy_452 Bd_453 Bn_454 HB_455 RX_456 RY_457 RD_458 RN_459
        rw [add_eq] at hr
        have RS_472 := Lib.hid hr
        clear hr
        have lo := Bo_462.out.lt
        obtain ⟨co0, co1, co2⟩ := Bo_462.out.cells3
        have fo0 := Bo_462.out.free 0
        have fo1 := Bo_462.out.free 1
        have fo2 := Bo_462.out.free 2
        go_wp2
        refine bodyPost_ret (v := .tuple #[.agg #[.bool r.q.b, .slice r.q.A r.q.n r.q.c, .slice r.A r.n r.c], .int .i64 0]) ?_ rfl ?_
        · simp [results, Try.f35, go_sem, co0, co1, co2]
        · have y0 := HB_467.out.size; exact ⟨⟨r, rfl, (RS_472.out.dk ((((Dk.refl _).set (cs := #[.bool false, .slice none 0 0, .slice none 0 0]) Bo_462.out 0 (by intro _ hh; cases hh) (.bool r.q.b)).set (cs := #[.bool r.q.b, .slice none 0 0, .slice none 0 0]) (Bo_462.out.set 0 (.bool r.q.b)) 1 (by intro _ hh; cases hh) (.slice r.q.A r.q.n r.q.c)).set (cs := #[.bool r.q.b, .slice r.q.A r.q.n r.q.c, .slice none 0 0]) ((Bo_462.out.set 0 (.bool r.q.b)).set 1 (.slice r.q.A r.q.n r.q.c)) 2 (by intro _ hh; cases hh) (.slice r.A r.n r.c)))⟩, (below_st (below_st (below_st HB_467.out 0 (by omega) (.bool r.q.b)) 1 (by omega) (.slice r.q.A r.q.n r.q.c)) 2 (by omega) (.slice r.A r.n r.c))⟩

end Go.Proofs.Ytgioppkggpfnoaa.Nu
end

section
/- Rows of elements of so many cells each, in a block of their own. -/
set_option linter.unusedVariables false
namespace Go.Proofs.Ytgioppkggpfnoaa.Nu
open Go.RowKit Go.Proofs

/-- A row of n elements of m cells each: cell c of element j is 'e j c'. -/
def rowOf (m n : Nat) (e : Nat → Nat → Value) : Array Value := Array.ofFn (n := n * m) fun j => e (j.1 / m) (j.1 % m)
theorem rowOf_size (m n : Nat) (e : Nat → Nat → Value) : (rowOf m n e).size = n * m := by simp [rowOf]
theorem rowOf_get {m n : Nat} (e : Nat → Nat → Value) {i c : Nat} (hi : i < n) (hc : c < m) : (rowOf m n e)[i * m + c]? = some (e i c) := by
  have h1 : i * m + c < n * m := by
    have : i * m + m ≤ n * m := by rw [← Nat.succ_mul]; exact Nat.mul_le_mul_right _ hi
    omega
  have hm : 0 < m := by omega
  unfold rowOf
  rw [Array.getElem?_ofFn, dif_pos h1]
  simp only
  rw [Nat.mul_comm i m, Nat.mul_add_div hm, Nat.div_eq_of_lt hc, Nat.add_zero, Nat.mul_add_mod, Nat.mod_eq_of_lt hc]
theorem rowOf_get? {m n : Nat} {e : Nat → Nat → Value} (k : Nat) : (rowOf m n e)[k]? = if k < n * m then some (e (k / m) (k % m)) else none := by
  unfold rowOf
  rw [Array.getElem?_ofFn]
  split <;> rfl
theorem rowOf_congr {m n : Nat} {e e' : Nat → Nat → Value} (h : ∀ i c, i < n → c < m → e i c = e' i c) : rowOf m n e = rowOf m n e' := by
  unfold rowOf
  congr 1
  funext j
  have hj := j.2
  have hm : 0 < m := by
    false_or_by_contra
    rename_i h0
    have : m = 0 := by omega
    subst this
    simp at hj
  exact h _ _ (Nat.div_lt_of_lt_mul (Nat.lt_of_lt_of_eq hj (Nat.mul_comm n m))) (Nat.mod_lt _ hm)
theorem rowOf_set {m n : Nat} (e : Nat → Nat → Value) {i c : Nat} (hc : c < m) (v : Value) : (rowOf m n e).setIfInBounds (i * m + c) v = rowOf m n fun j d => if j = i ∧ d = c then v else e j d := by
  have hm : 0 < m := by omega
  apply Array.ext_getElem?
  intro k
  rw [rowOf_get? (e := fun j d => if j = i ∧ d = c then v else e j d), Array.getElem?_setIfInBounds, rowOf_get?, rowOf_size]
  by_cases hk : i * m + c = k
  · subst hk
    rw [if_pos rfl]
    by_cases hl : i * m + c < n * m
    · rw [if_pos hl, if_pos hl]
      rw [Nat.mul_comm i m, Nat.mul_add_div hm, Nat.div_eq_of_lt hc, Nat.add_zero, Nat.mul_add_mod, Nat.mod_eq_of_lt hc, if_pos ⟨rfl, rfl⟩]
    · rw [if_neg hl, if_neg hl]
  · rw [if_neg hk]
    by_cases hl : k < n * m
    · rw [if_pos hl, if_pos hl]
      congr 1
      rw [if_neg]
      rintro ⟨h3, h4⟩
      have := Nat.div_add_mod k m
      rw [h3, h4, Nat.mul_comm] at this
      exact hk this
    · rw [if_neg hl, if_neg hl]
theorem rowOf_made (z : Value) (m n : Nat) (hm : z.cells.size = m) : madeCells z.cells (n * m) = rowOf m n fun _ c => z.cells[c]! := by
  apply Array.ext
  · rw [rowOf_size]; simp [size_madeCells]
  · intro i h1 h2
    simp [madeCells, rowOf, hm]
/-- The world with one element of a row of dyads written. -/
def put3 (w : World) (g i : Nat) (v0 v1 v2 : Value) : World := ((w.setCell ⟨g, i * 3, none⟩ v0).setCell ⟨g, i * 3 + 1, none⟩ v1).setCell ⟨g, i * 3 + 2, none⟩ v2
theorem same1 (w : World) {g g' : Nat} (hg : g ≠ g') (j : Nat) (v : Value) : (w.setCell ⟨g', j, none⟩ v).heap[g]? = w.heap[g]? := Below.heap_setCell _ _ _ _ hg
theorem sameA (w : World) {g : Nat} (hg : g < w.heap.size) (o : Obj) : (w.alloc o).heap[g]? = w.heap[g]? := Lib.alloc_old _ _ _ hg
theorem below_put3 {w w' : World} (h : Below w.heap.size w w') {g : Nat} (hg : w.heap.size ≤ g) (i : Nat) (v0 v1 v2 : Value) : Below w.heap.size w (put3 w' g i v0 v1 v2) := below_st (below_st (below_st h _ hg _) _ hg _) _ hg _
end Go.Proofs.Ytgioppkggpfnoaa.Nu
end

section
/- Rows of ratios: that came in, and that the call makes and writes. -/
set_option linter.unusedVariables false
namespace Go.Proofs.Ytgioppkggpfnoaa.Nu
open Go.RowKit Go.Proofs

/-- A slice of ratios, element by element. -/
def RRs (w : World) (A : Option Addr) (n c : Nat) (f : Nat → Rat) : Prop :=
  n ≤ c ∧ n ≤ 1000000 ∧ (0 < n → ∃ b off, A = some ⟨b, off, none⟩ ∧ b < w.heap.size ∧ ∀ j, j < n → ∃ t : TQ, w.cell? ⟨b, off + j * 3, none⟩ = some (.bool t.q.b) ∧ w.cell? ⟨b, off + j * 3 + 1, none⟩ = some (.slice t.q.A t.q.n t.q.c) ∧ w.cell? ⟨b, off + j * 3 + 2, none⟩ = some (.slice t.A t.n t.c) ∧ RR w t (f j))
theorem RRs.below {w w' : World} {A : Option Addr} {n c : Nat} {f : Nat → Rat} (h : RRs w A n c f) (hb : Below w.heap.size w w') : RRs w' A n c f := by
  obtain ⟨h1, h2, h3⟩ := h
  refine ⟨h1, h2, fun h0 => ?_⟩
  obtain ⟨b, off, hA, hlt, hc⟩ := h3 h0
  refine ⟨b, off, hA, Nat.lt_of_lt_of_le hlt hb.size, fun j hj => ?_⟩
  obtain ⟨q, c0, c1, c2, hr⟩ := hc j hj
  exact ⟨q, (hb.cell (p := ⟨b, _, none⟩) hlt).trans c0, (hb.cell (p := ⟨b, _, none⟩) hlt).trans c1, (hb.cell (p := ⟨b, _, none⟩) hlt).trans c2, hr.below hb⟩
theorem RRs.congr {w : World} {A : Option Addr} {n c : Nat} {f f' : Nat → Rat} (h : RRs w A n c f) (e : ∀ j, j < n → f j = f' j) : RRs w A n c f' := by
  obtain ⟨h1, h2, h3⟩ := h
  refine ⟨h1, h2, fun h0 => ?_⟩
  obtain ⟨b, off, hA, hlt, hc⟩ := h3 h0
  exact ⟨b, off, hA, hlt, fun j hj => by rw [← e j hj]; exact hc j hj⟩
/-- A slice of slices of ratios, each of n. -/
def RRss (w : World) (A : Option Addr) (m c n : Nat) (f : Nat → Nat → Rat) : Prop :=
  m ≤ c ∧ m ≤ 1000000 ∧ (0 < m → ∃ b off, A = some ⟨b, off, none⟩ ∧ b < w.heap.size ∧ ∀ k, k < m → ∃ A' c', w.cell? ⟨b, off + k, none⟩ = some (.slice A' n c') ∧ RRs w A' n c' (f k))
theorem RRss.below {w w' : World} {A : Option Addr} {m c n : Nat} {f : Nat → Nat → Rat} (h : RRss w A m c n f) (hb : Below w.heap.size w w') : RRss w' A m c n f := by
  obtain ⟨h1, h2, h3⟩ := h
  refine ⟨h1, h2, fun h0 => ?_⟩
  obtain ⟨b, off, hA, hlt, hc⟩ := h3 h0
  refine ⟨b, off, hA, Nat.lt_of_lt_of_le hlt hb.size, fun k hk => ?_⟩
  obtain ⟨A', c', e, hr⟩ := hc k hk
  exact ⟨A', c', (hb.cell (p := ⟨b, _, none⟩) hlt).trans e, hr.below hb⟩
/-- What element j of a made row is: not yet written, or so. -/
def isR (w : World) (e : Nat → Nat → Value) (j : Nat) (x : Option Rat) : Prop := ∃ t : TQ, e j 0 = .bool t.q.b ∧ e j 1 = .slice t.q.A t.q.n t.q.c ∧ e j 2 = .slice t.A t.n t.c ∧ ∀ y, x = some y → RR w t y
/-- A row of ratios that lies in a block of its own: some are written. -/
def OR (w : World) (g n : Nat) (f : Nat → Option Rat) : Prop := ∃ e, Bk w g 32 (rowOf 3 n e) ∧ ∀ j, j < n → isR w e j (f j)
theorem OR.lt {w : World} {g n : Nat} {f : Nat → Option Rat} (h : OR w g n f) : g < w.heap.size := by obtain ⟨e, hb, _⟩ := h; exact hb.lt
theorem OR.keep {w w' : World} {g n : Nat} {f : Nat → Option Rat} (h : OR w g n f) (hg : w'.heap[g]? = w.heap[g]?) (k : Dk w w') : OR w' g n f := by
  obtain ⟨e, hb, hj⟩ := h
  refine ⟨e, hg.trans hb, fun j h => ?_⟩
  obtain ⟨q, a, b, c, hr⟩ := hj j h
  exact ⟨q, a, b, c, fun y hy => (hr y hy).dk k⟩
theorem OR.below {w w' : World} {g n : Nat} {f : Nat → Option Rat} (h : OR w g n f) (hb : Below w.heap.size w w') : OR w' g n f := h.keep (hb.block g h.lt) (.below hb)
theorem OR.congr {w : World} {g n : Nat} {f f' : Nat → Option Rat} (h : OR w g n f) (e : ∀ j, j < n → f j = f' j) : OR w g n f' := by
  obtain ⟨e1, hb, hj⟩ := h
  exact ⟨e1, hb, fun j h => by rw [← e j h]; exact hj j h⟩
theorem OR.read {w : World} {g n : Nat} {f : Nat → Option Rat} {F : Nat → Rat} (h : OR w g n f) (hf : ∀ j, j < n → f j = some (F j)) (hn : n ≤ 1000000) : RRs w (some ⟨g, 0, none⟩) n n F := by
  have hl := h.lt
  obtain ⟨e, hb, hj⟩ := h
  refine ⟨Nat.le_refl _, hn, fun _ => ⟨g, 0, rfl, hl, fun j h => ?_⟩⟩
  obtain ⟨q, a, b, c, hr⟩ := hj j h
  rw [Nat.zero_add]
  exact ⟨q, hb.cell (j * 3 + 0) (by rw [rowOf_get e h (by omega), a]), hb.cell (j * 3 + 1) (by rw [rowOf_get e h (by omega), b]), hb.cell (j * 3 + 2) (by rw [rowOf_get e h (by omega), c]), hr _ (hf j h)⟩
/-- What is there to be written over. -/
theorem OR.there {w : World} {g n : Nat} {f : Nat → Option Rat} (h : OR w g n f) {i : Nat} (hi : i < n) : (∃ v, w.cell? ⟨g, i * 3, none⟩ = some v) ∧ (∃ v, w.cell? ⟨g, i * 3 + 1, none⟩ = some v) ∧ (∃ v, w.cell? ⟨g, i * 3 + 2, none⟩ = some v) ∧ w.frozen? ⟨g, i * 3, none⟩ = false ∧ w.frozen? ⟨g, i * 3 + 1, none⟩ = false ∧ w.frozen? ⟨g, i * 3 + 2, none⟩ = false := by
  obtain ⟨e, hb, hj⟩ := h
  exact ⟨⟨_, hb.cell (i * 3 + 0) (rowOf_get e hi (by omega))⟩, ⟨_, hb.cell (i * 3 + 1) (rowOf_get e hi (by omega))⟩, ⟨_, hb.cell (i * 3 + 2) (rowOf_get e hi (by omega))⟩, hb.free _, hb.free _, hb.free _⟩
/-- Element i written. -/
theorem OR.put {w : World} {g n : Nat} {f : Nat → Option Rat} (h : OR w g n f) {i : Nat} (hi : i < n) (t : TQ) (x : Rat) (hr : RR w t x) :
    OR (put3 w g i (.bool t.q.b) (.slice t.q.A t.q.n t.q.c) (.slice t.A t.n t.c)) g n (fun j => if j = i then some x else f j) ∧ Dk w (put3 w g i (.bool t.q.b) (.slice t.q.A t.q.n t.q.c) (.slice t.A t.n t.c)) := by
  obtain ⟨e, hb, hj⟩ := h
  obtain ⟨q0, a, b, c, _⟩ := hj i hi
  have b1 := hb.set (i * 3 + 0) (.bool t.q.b)
  have b2 := b1.set (i * 3 + 1) (.slice t.q.A t.q.n t.q.c)
  have b3 := b2.set (i * 3 + 2) (.slice t.A t.n t.c)
  have k : Dk w (put3 w g i (.bool t.q.b) (.slice t.q.A t.q.n t.q.c) (.slice t.A t.n t.c)) := by
    have k1 := (Dk.refl w).set hb (i * 3 + 0) (by rw [rowOf_get e hi (by omega), a]; intro v h; cases h) (.bool t.q.b)
    have k2 := k1.set b1 (i * 3 + 1) (by rw [rowOf_set e (by omega), rowOf_get _ hi (by omega), if_neg (by omega), b]; intro v h; cases h) (.slice t.q.A t.q.n t.q.c)
    exact k2.set b2 (i * 3 + 2) (by rw [rowOf_set e (by omega), rowOf_set _ (by omega), rowOf_get _ hi (by omega), if_neg (by omega), if_neg (by omega), c]; intro v h; cases h) (.slice t.A t.n t.c)
  refine ⟨⟨_, (by rw [rowOf_set e (by omega), rowOf_set _ (by omega), rowOf_set _ (by omega)] at b3; exact b3), fun j hjn => ?_⟩, k⟩
  by_cases hij : j = i
  · subst hij
    refine ⟨t, ?_, ?_, ?_, ?_⟩
    · simp
    · simp
    · simp
    · intro y hy
      simp only [if_true] at hy
      injection hy with hy
      subst hy
      exact hr.dk k
  · obtain ⟨q1, a1, b1, c1, r1⟩ := hj j hjn
    refine ⟨q1, ?_, ?_, ?_, ?_⟩
    · simp [hij, a1]
    · simp [hij, b1]
    · simp [hij, c1]
    · intro y hy
      exact (r1 y (by simpa [hij] using hy)).dk k
/-- A made row: behind a plain name. -/
def mkR (n : Nat) : Array Value := rowOf 3 n fun _ c => if c = 0 then .bool false else .slice none 0 0
theorem OR.made (w : World) (n : Nat) : OR (w.alloc (.cells (mkR n) 32)) w.heap.size n (fun _ => none) := ⟨_, alloc_top w _, fun j _ => ⟨⟨Q.nil, none, 0, 0⟩, rfl, rfl, rfl, fun y h => by cases h⟩⟩
theorem infoR : (Try.prog.info? 32).map (fun i => (i.zero, i.size, i.bytes)) = some (some (.agg #[.bool false, .slice none 0 0, .slice none 0 0]), 3, 56) := by kernel_rfl
theorem make_R (n : Nat) (hn : n ≤ 1000000) (w : World) : (Instr.makeSlice 22 (.int .i64 n) (.int .i64 n)).run Try.prog w = .ok (.slice (some ⟨w.heap.size, 0, none⟩) n n) (w.alloc (.cells (mkR n) 32)) := by
  obtain ⟨i0, hi, hz0, hz1, hz2⟩ := info_parts infoR
  have h := run_make (P := Try.prog) w 22 32 i0 _ Try.underlying22 hi hz0 .i64 .i64 n n (by omega) (Int.le_refl _) (by rw [hz2]; omega) (by omega)
  have e : madeCells (Value.agg #[.bool false, .slice none 0 0, .slice none 0 0]).cells (n * 3) = mkR n := by
    rw [rowOf_made _ 3 n rfl]
    refine rowOf_congr fun i c _ hc => ?_
    match c, hc with
    | 0, _ => rfl
    | 1, _ => rfl
    | 2, _ => rfl
  simp only [Int.toNat_natCast, hz1, e] at h
  exact h
theorem OR.al {w : World} {g n : Nat} {f : Nat → Option Rat} (h : OR w g n f) (o : Obj) : OR (w.alloc o) g n f := h.keep (sameA w h.lt o) ((Dk.refl w).alloc o)
theorem OR.dr {w : World} {g n : Nat} {f : Nat → Option Rat} (h : OR w g n f) : OR w.drew g n f := h.keep rfl ((Dk.refl w).drew)
theorem OR.st {w : World} {g n : Nat} {f : Nat → Option Rat} (h : OR w g n f) {g' : Nat} {t : TypeId} {cs : Array Value} (B : Bk w g' t cs) (hg : g ≠ g') (j : Nat) (hj : ∀ v, cs[j]? ≠ some (.int .u32 v)) (u : Value) : OR (w.setCell ⟨g', j, none⟩ u) g n f := h.keep (same1 w hg j u) ((Dk.refl w).set B j hj u)
/-- The first i are written. -/
def upR (F : Nat → Rat) (i : Nat) : Nat → Option Rat := fun j => if j < i then some (F j) else none
theorem OR.next {w : World} {g n i : Nat} {F : Nat → Rat} (h : OR w g n (fun j => if j = i then some (F i) else upR F i j)) : OR w g n (upR F (i + 1)) := h.congr fun j _ => by
  unfold upR
  by_cases hj : j = i
  · subst hj; rw [if_pos rfl, if_pos (by omega)]
  · rw [if_neg hj]
    by_cases h2 : j < i
    · rw [if_pos h2, if_pos (by omega)]
    · rw [if_neg h2, if_neg (by omega)]
theorem OR.start {w : World} {g n : Nat} {F : Nat → Rat} (h : OR w g n (fun _ => none)) : OR w g n (upR F 0) := h.congr fun j _ => by unfold upR; rw [if_neg (by omega)]
theorem OR.done {w : World} {g n : Nat} {F : Nat → Rat} (h : OR w g n (upR F n)) (hn : n ≤ 1000000) : RRs w (some ⟨g, 0, none⟩) n n F := h.read (fun j hj => by unfold upR; rw [if_pos hj]) hn
end Go.Proofs.Ytgioppkggpfnoaa.Nu
end

section
/- The walk of ratio.Sum. -/
set_option linter.unusedVariables false
namespace Go.Proofs.Ytgioppkggpfnoaa.Nu
open Go.RowKit Go.Proofs

/-- So many ratios together. -/
def sumN (f : Nat → Rat) : Nat → Rat
  | 0 => 0
  | k + 1 => sumN f k + f k
theorem sumN_lim {f : Nat → Rat} {n a : Nat} (h : ∀ i, i < n → RLim a (f i)) {k : Nat} (hk : k ≤ n) : RLim (1 + k * (a + 1)) (sumN f k) := by
  induction k with
  | zero => exact rzero_lim _ (by omega)
  | succ k ih =>
    have h2 := radd_lim (ih (by omega)) (h k (by omega))
    refine RLim.mono h2 ?_
    rw [Nat.succ_mul]
    omega

set_option maxRecDepth 100000 in
set_option maxHeartbeats 4000000 in
theorem rsum_any (w : World) (A : Option Addr) (n c : Nat) (f : Nat → Rat) (a : Nat) (h : RRs w A n c f) (lf : ∀ i, i < n → RLim a (f i)) (ha : 1 + n * (a + 1) + a ≤ 15900) :
    Calls Try.prog 23 #[.slice A n c] w fun e w' => (∃ t : TQ, e = .returned (.tuple #[.agg #[.bool t.q.b, .slice t.q.A t.q.n t.q.c, .slice t.A t.n t.c], .int .i64 0]) ∧ RR w' t (sumN f n)) ∧ Below w.heap.size w w' := by
  have n0 := h.2.1
  have HF := Lib.hid h
  have LF := Lib.hid lf
  clear h lf
  have BX := Lib.hid (boxes1 w 32 #[.bool false, .slice none 0 0, .slice none 0 0])
  go_enter Try.func23, Try.ntmps23
  go_wp2_with fail
  generalize w.alloc (.cells #[.bool false, .slice none 0 0, .slice none 0 0] 32) = w0 at *
  obtain ⟨b0, hw⟩ := BX.out
  have Bo_0 := Lib.hid b0
  have HB_0 := Lib.hid hw
  have K := Dk.below (hw.mono (Nat.le_refl _))
  clear BX hw b0
  clear K
  have lo := Bo_0.out.lt
  obtain ⟨co0, co1, co2⟩ := Bo_0.out.cells3
  go_wp2_with fail
  refine (rzero_any _).mono ?_
  rintro e w1 ⟨⟨t, rfl, ht⟩, hb⟩
  clear lo co0 co1 co2
  have K := Dk.below hb
  have Bo_1 := Lib.hid (show Bk _ _ _ #[.bool false, .slice none 0 0, .slice none 0 0] from Bo_0.out.below hb)
  have HB_2 := Lib.hid (below_tr HB_0.out hb)
  clear hb
  clear K Bo_0 HB_0
  have RS_3 := Lib.hid ht
  clear ht
  have lo := Bo_1.out.lt
  obtain ⟨co0, co1, co2⟩ := Bo_1.out.cells3
  have n_4 := Bo_1.out.lt
  go_wp2_with fail
  clear lo co0 co1 co2
  have K : Dk w1 (w1.alloc (.cells #[.bool t.q.b, .slice t.q.A t.q.n t.q.c, .slice t.A t.n t.c] 32)) := ((Dk.refl _).alloc _)
  have Bo_5 := Lib.hid (show Bk (w1.alloc (.cells #[.bool t.q.b, .slice t.q.A t.q.n t.q.c, .slice t.A t.n t.c] 32)) (w.heap.size) 32 #[.bool false, .slice none 0 0, .slice none 0 0] from (Bo_1.out.alloc _))
  have Bs_6 := Lib.hid (show Bk (w1.alloc (.cells #[.bool t.q.b, .slice t.q.A t.q.n t.q.c, .slice t.A t.n t.c] 32)) (w1.heap.size) 32 #[.bool t.q.b, .slice t.q.A t.q.n t.q.c, .slice t.A t.n t.c] from (Bk.new _ 32 #[.bool t.q.b, .slice t.q.A t.q.n t.q.c, .slice t.A t.n t.c]))
  have HB_7 := Lib.hid (show Below w.heap.size w (w1.alloc (.cells #[.bool t.q.b, .slice t.q.A t.q.n t.q.c, .slice t.A t.n t.c] 32)) from (below_al HB_2.out _))
  have RS_8 := Lib.hid (RS_3.out.dk K)
  clear K Bo_1 HB_2 RS_3
  generalize w1.alloc (.cells #[.bool t.q.b, .slice t.q.A t.q.n t.q.c, .slice t.A t.n t.c] 32) = w2 at *
  obtain ⟨gs, hgs⟩ : ∃ gs, gs = w1.heap.size := ⟨_, rfl⟩
  go_loopw [11] (fun k wr => ∃ i : Nat, k = .int .i64 i ∧ i ≤ n ∧ Hid (∃ t : TQ, Bk wr w.heap.size 32 #[.bool false, .slice none 0 0, .slice none 0 0] ∧ Bk wr (w1.heap.size) 32 #[.bool t.q.b, .slice t.q.A t.q.n t.q.c, .slice t.A t.n t.c] ∧ RR wr t (sumN f i) ∧ Below w.heap.size w wr)) (fun k _ => n - (intOf k).toNat)
  case atStart => exact ⟨0, rfl, Nat.zero_le _, Lib.hid ⟨t, Bo_5.out, Bs_6.out, RS_8.out, HB_7.out⟩⟩
  case round =>
    obtain ⟨i, rfl, hi, Hr⟩ := hrel
    clear Bo_5 Bs_6 RS_8
    obtain ⟨t1, bo, bs, hs, hbel⟩ := Hr.out
    have OB := Lib.hid bo
    have SB := Lib.hid bs
    have RS := Lib.hid hs
    have HBR := Lib.hid hbel
    clear bo bs hs hbel Hr
    by_cases hi2 : i < n
    · have q3 : (i : Int) < (n : Int) := by omega
      obtain ⟨A1, o1, rfl, hl1, hcc⟩ := HF.out.2.2 (by omega)
      obtain ⟨u, z0, z1, z2, hu⟩ := hcc i hi2
      have X0 := Lib.hid z0
      have X1 := Lib.hid z1
      have X2 := Lib.hid z2
      have RU := Lib.hid (hu.below HBR.out)
      clear hcc z0 z1 z2 hu
      have hmu : 1 + i * (a + 1) + a ≤ 15900 := by have := Nat.mul_le_mul_right (a + 1) (Nat.le_of_lt hi2); omega
      have lo := OB.out.lt
      obtain ⟨co0, co1, co2⟩ := OB.out.cells3
      have ls := SB.out.lt
      obtain ⟨cs0, cs1, cs2⟩ := SB.out.cells3
      have cr0 : wr.cell? ⟨A1, o1 + i * 3, none⟩ = some (.bool u.q.b) := (HBR.out.cell (p := ⟨A1, o1 + i * 3, none⟩) hl1).trans X0.out
      have cr1 : wr.cell? ⟨A1, o1 + i * 3 + 1, none⟩ = some (.slice u.q.A u.q.n u.q.c) := (HBR.out.cell (p := ⟨A1, o1 + i * 3 + 1, none⟩) hl1).trans X1.out
      have cr2 : wr.cell? ⟨A1, o1 + i * 3 + 2, none⟩ = some (.slice u.A u.n u.c) := (HBR.out.cell (p := ⟨A1, o1 + i * 3 + 2, none⟩) hl1).trans X2.out
      have n_109 := OB.out.lt
      have n_110 := SB.out.lt
      go_wp2_with fail
      refine (radd_any _ t1 u (sumN f i) (f i) (1 + i * (a + 1)) a (RS.out.dk ((Dk.refl _).alloc _)) (RU.out.dk ((Dk.refl _).alloc _)) (sumN_lim LF.out (Nat.le_of_lt hi2)) (LF.out i hi2) hmu).mono ?_
      rintro e w3 ⟨⟨t2, rfl, ht⟩, hb⟩
      clear lo co0 co1 co2 ls cs0 cs1 cs2 cr0 cr1 cr2
      have K := Dk.trans ((Dk.refl _).alloc _) (.below hb)
      have Bo_111 := Lib.hid (show Bk _ _ _ #[.bool false, .slice none 0 0, .slice none 0 0] from (OB.out.alloc _).below hb)
      have Bs_112 := Lib.hid (show Bk _ _ _ #[.bool t1.q.b, .slice t1.q.A t1.q.n t1.q.c, .slice t1.A t1.n t1.c] from (SB.out.alloc _).below hb)
      have Be_113 := Lib.hid (show Bk _ _ _ #[.bool u.q.b, .slice u.q.A u.q.n u.q.c, .slice u.A u.n u.c] from (Bk.new _ 32 #[.bool u.q.b, .slice u.q.A u.q.n u.q.c, .slice u.A u.n u.c]).below hb)
      have HB_114 := Lib.hid (below_tr (below_al HBR.out _) hb)
      clear hb
      have RS_115 := Lib.hid (RS.out.dk K)
      have RU_116 := Lib.hid (RU.out.dk K)
      clear K OB SB HBR RS RU
      have RN_117 := Lib.hid ht
      clear ht
      have lo := Bo_111.out.lt
      obtain ⟨co0, co1, co2⟩ := Bo_111.out.cells3
      have ls := Bs_112.out.lt
      obtain ⟨cs0, cs1, cs2⟩ := Bs_112.out.cells3
      have fs0 := Bs_112.out.free 0
      have fs1 := Bs_112.out.free 1
      have fs2 := Bs_112.out.free 2
      have le := Be_113.out.lt
      obtain ⟨ce0, ce1, ce2⟩ := Be_113.out.cells3
      have cr0 : w3.cell? ⟨A1, o1 + i * 3, none⟩ = some (.bool u.q.b) := (HB_114.out.cell (p := ⟨A1, o1 + i * 3, none⟩) hl1).trans X0.out
      have cr1 : w3.cell? ⟨A1, o1 + i * 3 + 1, none⟩ = some (.slice u.q.A u.q.n u.q.c) := (HB_114.out.cell (p := ⟨A1, o1 + i * 3 + 1, none⟩) hl1).trans X1.out
      have cr2 : w3.cell? ⟨A1, o1 + i * 3 + 2, none⟩ = some (.slice u.A u.n u.c) := (HB_114.out.cell (p := ⟨A1, o1 + i * 3 + 2, none⟩) hl1).trans X2.out
      go_wp2
      go_roundw
      case rel => exact ⟨i + 1, by go_num, hi2, Lib.hid ⟨t2, (((Bo_111.out.ne (by have := Bo_111.out.lt; have := Bs_112.out.lt; have := Be_113.out.lt; have := HB_114.out.size; omega) 0 (.bool t2.q.b)).ne (by have := Bo_111.out.lt; have := Bs_112.out.lt; have := Be_113.out.lt; have := HB_114.out.size; omega) 1 (.slice t2.q.A t2.q.n t2.q.c)).ne (by have := Bo_111.out.lt; have := Bs_112.out.lt; have := Be_113.out.lt; have := HB_114.out.size; omega) 2 (.slice t2.A t2.n t2.c)), (((Bs_112.out.set 0 (.bool t2.q.b)).set 1 (.slice t2.q.A t2.q.n t2.q.c)).set 2 (.slice t2.A t2.n t2.c)), (RN_117.out.dk ((((Dk.refl _).set (cs := #[.bool t1.q.b, .slice t1.q.A t1.q.n t1.q.c, .slice t1.A t1.n t1.c]) Bs_112.out 0 (by intro _ hh; cases hh) (.bool t2.q.b)).set (cs := #[.bool t2.q.b, .slice t1.q.A t1.q.n t1.q.c, .slice t1.A t1.n t1.c]) (Bs_112.out.set 0 (.bool t2.q.b)) 1 (by intro _ hh; cases hh) (.slice t2.q.A t2.q.n t2.q.c)).set (cs := #[.bool t2.q.b, .slice t2.q.A t2.q.n t2.q.c, .slice t1.A t1.n t1.c]) ((Bs_112.out.set 0 (.bool t2.q.b)).set 1 (.slice t2.q.A t2.q.n t2.q.c)) 2 (by intro _ hh; cases hh) (.slice t2.A t2.n t2.c))), (below_st (below_st (below_st HB_114.out 0 (by have := HB_114.out.size; omega) (.bool t2.q.b)) 1 (by have := HB_114.out.size; omega) (.slice t2.q.A t2.q.n t2.q.c)) 2 (by have := HB_114.out.size; omega) (.slice t2.A t2.n t2.c))⟩⟩
      case measure => simp only [intOf]; omega
    · obtain rfl : n = i := by omega
      clear hi2
      have lo := OB.out.lt
      obtain ⟨co0, co1, co2⟩ := OB.out.cells3
      have fo0 := OB.out.free 0
      have fo1 := OB.out.free 1
      have fo2 := OB.out.free 2
      have ls := SB.out.lt
      obtain ⟨cs0, cs1, cs2⟩ := SB.out.cells3
      go_wp2
      refine bodyPost_ret (v := .tuple #[.agg #[.bool t1.q.b, .slice t1.q.A t1.q.n t1.q.c, .slice t1.A t1.n t1.c], .int .i64 0]) ?_ rfl ?_
      · simp [results, Try.f23, go_sem, co0, co1, co2, cs0, cs1, cs2]
      · have y0 := HBR.out.size; exact ⟨⟨t1, rfl, (RS.out.dk ((((Dk.refl _).set (cs := #[.bool false, .slice none 0 0, .slice none 0 0]) OB.out 0 (by intro _ hh; cases hh) (.bool t1.q.b)).set (cs := #[.bool t1.q.b, .slice none 0 0, .slice none 0 0]) (OB.out.set 0 (.bool t1.q.b)) 1 (by intro _ hh; cases hh) (.slice t1.q.A t1.q.n t1.q.c)).set (cs := #[.bool t1.q.b, .slice t1.q.A t1.q.n t1.q.c, .slice none 0 0]) ((OB.out.set 0 (.bool t1.q.b)).set 1 (.slice t1.q.A t1.q.n t1.q.c)) 2 (by intro _ hh; cases hh) (.slice t1.A t1.n t1.c)))⟩, (below_st (below_st (below_st HBR.out 0 (by omega) (.bool t1.q.b)) 1 (by omega) (.slice t1.q.A t1.q.n t1.q.c)) 2 (by omega) (.slice t1.A t1.n t1.c))⟩

end Go.Proofs.Ytgioppkggpfnoaa.Nu
end

section
/- The walk of ratio.Mul. -/
set_option linter.unusedVariables false
namespace Go.Proofs.Ytgioppkggpfnoaa.Nu
open Go.RowKit Go.Proofs

set_option maxRecDepth 100000 in
set_option maxHeartbeats 4000000 in
theorem rmul_any (w : World) (t u : TQ) (x y : Rat) (a b : Nat) (h : RR w t x) (h2 : RR w u y) (la : RLim a x) (lb : RLim b y) (hab : a + b ≤ 15900) :
    Calls Try.prog 21 #[.agg #[.bool t.q.b, .slice t.q.A t.q.n t.q.c, .slice t.A t.n t.c], .agg #[.bool u.q.b, .slice u.q.A u.q.n u.q.c, .slice u.A u.n u.c]] w fun e w' => (∃ t : TQ, e = .returned (.tuple #[.agg #[.bool t.q.b, .slice t.q.A t.q.n t.q.c, .slice t.A t.n t.c], .int .i64 0]) ∧ RR w' t (x * y)) ∧ Below w.heap.size w w' := by
  have LA := Lib.hid la
  have LB := Lib.hid lb
  have d1 := la.1
  have d2 := la.2
  have d3 := lb.1
  have d4 := lb.2
  have ii1 : nb ((x.den : Int)).natAbs ≤ a := d2
  have ii2 : nb ((y.den : Int)).natAbs ≤ b := d4
  have HA := Lib.hid h
  have HB := Lib.hid h2
  clear h h2 la lb
  have BX := Lib.hid (boxes3 w 32 #[.bool t.q.b, .slice t.q.A t.q.n t.q.c, .slice t.A t.n t.c] 32 #[.bool u.q.b, .slice u.q.A u.q.n u.q.c, .slice u.A u.n u.c] 32 #[.bool false, .slice none 0 0, .slice none 0 0])
  go_enter Try.func21, Try.ntmps21
  go_wp2_with fail
  generalize ((w.alloc (.cells #[.bool t.q.b, .slice t.q.A t.q.n t.q.c, .slice t.A t.n t.c] 32)).alloc (.cells #[.bool u.q.b, .slice u.q.A u.q.n u.q.c, .slice u.A u.n u.c] 32)).alloc (.cells #[.bool false, .slice none 0 0, .slice none 0 0] 32) = w0 at *
  obtain ⟨b0, b1, b2, hw⟩ := BX.out
  have Ba_0 := Lib.hid b0
  have Bb_0 := Lib.hid b1
  have Bo_0 := Lib.hid b2
  have HB_0 := Lib.hid hw
  have K := Dk.below (hw.mono (Nat.le_refl _))
  clear BX hw b0 b1 b2
  have RA_1 := Lib.hid (HA.out.dk K)
  have RB_2 := Lib.hid (HB.out.dk K)
  clear K HA HB
  have la := Ba_0.out.lt
  obtain ⟨ca0, ca1, ca2⟩ := Ba_0.out.cells3
  have lb := Bb_0.out.lt
  obtain ⟨cb0, cb1, cb2⟩ := Bb_0.out.cells3
  have lo := Bo_0.out.lt
  obtain ⟨co0, co1, co2⟩ := Bo_0.out.cells3
  go_wp2_with fail
  refine (wmul_q _ t.q u.q x.num y.num RA_1.out.1 RB_2.out.1 (by omega)).mono ?_
  rintro e w1 ⟨⟨n, rfl, hn⟩, hb⟩
  clear la ca0 ca1 ca2 lb cb0 cb1 cb2 lo co0 co1 co2
  have K := Dk.below hb
  have Ba_3 := Lib.hid (show Bk _ _ _ #[.bool t.q.b, .slice t.q.A t.q.n t.q.c, .slice t.A t.n t.c] from Ba_0.out.below hb)
  have Bb_4 := Lib.hid (show Bk _ _ _ #[.bool u.q.b, .slice u.q.A u.q.n u.q.c, .slice u.A u.n u.c] from Bb_0.out.below hb)
  have Bo_5 := Lib.hid (show Bk _ _ _ #[.bool false, .slice none 0 0, .slice none 0 0] from Bo_0.out.below hb)
  have HB_6 := Lib.hid (below_tr HB_0.out hb)
  clear hb
  have RA_7 := Lib.hid (RA_1.out.dk K)
  have RB_8 := Lib.hid (RB_2.out.dk K)
  clear K Ba_0 Bb_0 Bo_0 HB_0 RA_1 RB_2
  have RN_9 := Lib.hid hn
  clear hn
  have la := Ba_3.out.lt
  obtain ⟨ca0, ca1, ca2⟩ := Ba_3.out.cells3
  have lb := Bb_4.out.lt
  obtain ⟨cb0, cb1, cb2⟩ := Bb_4.out.cells3
  have lo := Bo_5.out.lt
  obtain ⟨co0, co1, co2⟩ := Bo_5.out.cells3
  have n_10 := Ba_3.out.lt
  have n_11 := Bb_4.out.lt
  have n_12 := Bo_5.out.lt
  go_upto_region 2 with (fail)
  clear la ca0 ca1 ca2 lb cb0 cb1 cb2 lo co0 co1 co2
  have K : Dk w1 (w1.alloc (.cells #[.bool n.b, .slice n.A n.n n.c] 30)) := ((Dk.refl _).alloc _)
  have Ba_13 := Lib.hid (show Bk (w1.alloc (.cells #[.bool n.b, .slice n.A n.n n.c] 30)) (w.heap.size) 32 #[.bool t.q.b, .slice t.q.A t.q.n t.q.c, .slice t.A t.n t.c] from (Ba_3.out.alloc _))
  have Bb_14 := Lib.hid (show Bk (w1.alloc (.cells #[.bool n.b, .slice n.A n.n n.c] 30)) (w.heap.size + 1) 32 #[.bool u.q.b, .slice u.q.A u.q.n u.q.c, .slice u.A u.n u.c] from (Bb_4.out.alloc _))
  have Bo_15 := Lib.hid (show Bk (w1.alloc (.cells #[.bool n.b, .slice n.A n.n n.c] 30)) (w.heap.size + 2) 32 #[.bool false, .slice none 0 0, .slice none 0 0] from (Bo_5.out.alloc _))
  have Bn_16 := Lib.hid (show Bk (w1.alloc (.cells #[.bool n.b, .slice n.A n.n n.c] 30)) (w1.heap.size) 30 #[.bool n.b, .slice n.A n.n n.c] from (Bk.new _ 30 #[.bool n.b, .slice n.A n.n n.c]))
  have HB_17 := Lib.hid (show Below w.heap.size w (w1.alloc (.cells #[.bool n.b, .slice n.A n.n n.c] 30)) from (below_al HB_6.out _))
  have RA_18 := Lib.hid (RA_7.out.dk K)
  have RB_19 := Lib.hid (RB_8.out.dk K)
  have RN_20 := Lib.hid (RN_9.out.dk K)
  clear K Ba_3 Bb_4 Bo_5 HB_6 RA_7 RB_8 RN_9
  generalize w1.alloc (.cells #[.bool n.b, .slice n.A n.n n.c] 30) = w2 at *
  have la := Ba_13.out.lt
  obtain ⟨ca0, ca1, ca2⟩ := Ba_13.out.cells3
  have lb := Bb_14.out.lt
  obtain ⟨cb0, cb1, cb2⟩ := Bb_14.out.cells3
  have lo := Bo_15.out.lt
  obtain ⟨co0, co1, co2⟩ := Bo_15.out.cells3
  have ln := Bn_16.out.lt
  obtain ⟨cn0, cn1⟩ := Bn_16.out.cells2
  go_cut [8, 9] (fun s8 s9 wx => ∃ (g_21 : Nat) (vd : Q), s8 = .pointer (some ⟨g_21, 0, none⟩) ∧ s9 = .int .i64 0 ∧ w.heap.size < g_21 ∧ w.heap.size + 1 < g_21 ∧ w.heap.size + 2 < g_21 ∧ w1.heap.size < g_21 ∧ Bk wx g_21 30 #[.bool vd.b, .slice vd.A vd.n vd.c] ∧ Bk wx (w.heap.size) 32 #[.bool t.q.b, .slice t.q.A t.q.n t.q.c, .slice t.A t.n t.c] ∧ Bk wx (w.heap.size + 1) 32 #[.bool u.q.b, .slice u.q.A u.q.n u.q.c, .slice u.A u.n u.c] ∧ Bk wx (w.heap.size + 2) 32 #[.bool false, .slice none 0 0, .slice none 0 0] ∧ Bk wx (w1.heap.size) 30 #[.bool n.b, .slice n.A n.n n.c] ∧ Below w.heap.size w wx ∧ RW wx n (x.num * y.num) ∧ RW wx vd ((x.den : Int) * (y.den : Int)))
  case first =>
    obtain ⟨SX1, hS1⟩ : ∃ S : World → Prop, ∀ w', S w' ↔ (w'.cell? ⟨w.heap.size, 0, none⟩ = some (.bool t.q.b) ∧ w'.cell? ⟨w.heap.size, 1, none⟩ = some (.slice t.q.A t.q.n t.q.c) ∧ w'.cell? ⟨w.heap.size, 2, none⟩ = some (.slice t.A t.n t.c) ∧ w'.cell? ⟨w.heap.size + 1, 0, none⟩ = some (.bool u.q.b) ∧ w'.cell? ⟨w.heap.size + 1, 1, none⟩ = some (.slice u.q.A u.q.n u.q.c) ∧ w'.cell? ⟨w.heap.size + 1, 2, none⟩ = some (.slice u.A u.n u.c)) := ⟨_, fun _ => Iff.rfl⟩
    have k_22 : SX1 (w2) := (hS1 _).2 ⟨Ba_13.out.cell 0 rfl, Ba_13.out.cell 1 rfl, Ba_13.out.cell 2 rfl, Bb_14.out.cell 0 rfl, Bb_14.out.cell 1 rfl, Bb_14.out.cell 2 rfl⟩
    have k_23 : SX1 (w2.drew) := (hS1 _).2 ⟨(Ba_13.out.drew).cell 0 rfl, (Ba_13.out.drew).cell 1 rfl, (Ba_13.out.drew).cell 2 rfl, (Bb_14.out.drew).cell 0 rfl, (Bb_14.out.drew).cell 1 rfl, (Bb_14.out.drew).cell 2 rfl⟩
    have tok_24 : True := trivial
    have tok_25 : True := trivial
    have tok_26 : True := trivial
    have tok_27 : True := trivial
    have tok_28 : True := trivial
    have tok_29 : True := trivial
    have tok_30 : True := trivial
    have tok_31 : True := trivial
    have tok_32 : True := trivial
    have k_33 : SX1 ((w2.alloc (.cells #[.bool false, .slice none 0 0] 30)).drew) := (hS1 _).2 ⟨((Ba_13.out.alloc _).drew).cell 0 rfl, ((Ba_13.out.alloc _).drew).cell 1 rfl, ((Ba_13.out.alloc _).drew).cell 2 rfl, ((Bb_14.out.alloc _).drew).cell 0 rfl, ((Bb_14.out.alloc _).drew).cell 1 rfl, ((Bb_14.out.alloc _).drew).cell 2 rfl⟩
    go_region_held3 (fun w' => w'.cell? ⟨w.heap.size, 0, none⟩ = some (.bool t.q.b) ∧ w'.cell? ⟨w.heap.size, 1, none⟩ = some (.slice t.q.A t.q.n t.q.c) ∧ w'.cell? ⟨w.heap.size, 2, none⟩ = some (.slice t.A t.n t.c) ∧ w'.cell? ⟨w.heap.size + 1, 0, none⟩ = some (.bool u.q.b) ∧ w'.cell? ⟨w.heap.size + 1, 1, none⟩ = some (.slice u.q.A u.q.n u.q.c) ∧ w'.cell? ⟨w.heap.size + 1, 2, none⟩ = some (.slice u.A u.n u.c)) (first | with_reducible exact (hS1 _).1 k_22 | with_reducible exact (hS1 _).1 k_23 | with_reducible exact (hS1 _).1 k_33 | with_reducible exact (hS1 _).1 k_44 | with_reducible exact (hS1 _).1 k_45 | with_reducible exact (hS1 _).1 k_62 | with_reducible exact (hS1 _).1 k_75 | with_reducible exact (hS1 _).1 k_76 | with_reducible exact (hS1 _).1 k_94 | with_reducible exact (hS1 _).1 k_108 | with_reducible exact (hS1 _).1 k_122 | with_reducible exact (hS1 _).1 k_127 | with_reducible exact (hS1 _).1 k_128 | with_reducible exact (hS1 _).1 k_147 | with_reducible exact (hS1 _).1 k_148 | with_reducible exact (hS1 _).1 k_163 | with_reducible exact (hS1 _).1 k_164 | with_reducible exact (hS1 _).1 k_179 | with_reducible exact (hS1 _).1 k_180)
      (first
       | (clear tok_24; go_at_call 25; (with_reducible refine (rden_any (w2.drew) t x (RA_18.out.dk ((Dk.refl _).drew)) (by omega)).mono ?_); rintro e w_34 ⟨⟨r1, rfl, hr⟩, hb⟩; clear la ca0 ca1 ca2 lb cb0 cb1 cb2 lo co0 co1 co2 ln cn0 cn1 k_22 k_23 k_33; have K := Dk.trans ((Dk.refl _).drew) (.below hb); have Ba_35 := Lib.hid (show Bk _ _ _ #[.bool t.q.b, .slice t.q.A t.q.n t.q.c, .slice t.A t.n t.c] from (Ba_13.out.drew).below hb); have Bb_36 := Lib.hid (show Bk _ _ _ #[.bool u.q.b, .slice u.q.A u.q.n u.q.c, .slice u.A u.n u.c] from (Bb_14.out.drew).below hb); have Bo_37 := Lib.hid (show Bk _ _ _ #[.bool false, .slice none 0 0, .slice none 0 0] from (Bo_15.out.drew).below hb); have Bn_38 := Lib.hid (show Bk _ _ _ #[.bool n.b, .slice n.A n.n n.c] from (Bn_16.out.drew).below hb); have HB_39 := Lib.hid (below_tr (below_dr HB_17.out) hb); clear hb; have RA_40 := Lib.hid (RA_18.out.dk K); have RB_41 := Lib.hid (RB_19.out.dk K); have RN_42 := Lib.hid (RN_20.out.dk K); clear K Ba_13 Bb_14 Bo_15 Bn_16 HB_17 RA_18 RB_19 RN_20; have D1_43 := Lib.hid hr; clear hr; have la := Ba_35.out.lt; obtain ⟨ca0, ca1, ca2⟩ := Ba_35.out.cells3; have lb := Bb_36.out.lt; obtain ⟨cb0, cb1, cb2⟩ := Bb_36.out.cells3; have lo := Bo_37.out.lt; obtain ⟨co0, co1, co2⟩ := Bo_37.out.cells3; have ln := Bn_38.out.lt; obtain ⟨cn0, cn1⟩ := Bn_38.out.cells2; have k_44 : SX1 (w_34) := (hS1 _).2 ⟨Ba_35.out.cell 0 rfl, Ba_35.out.cell 1 rfl, Ba_35.out.cell 2 rfl, Bb_36.out.cell 0 rfl, Bb_36.out.cell 1 rfl, Bb_36.out.cell 2 rfl⟩; have k_45 : SX1 (w_34.alloc (.cells #[.bool false, .slice none 0 0] 30)) := (hS1 _).2 ⟨(Ba_35.out.alloc _).cell 0 rfl, (Ba_35.out.alloc _).cell 1 rfl, (Ba_35.out.alloc _).cell 2 rfl, (Bb_36.out.alloc _).cell 0 rfl, (Bb_36.out.alloc _).cell 1 rfl, (Bb_36.out.alloc _).cell 2 rfl⟩)
       | (clear tok_27; have n_47 := Ba_13.out.lt; have n_48 := Bb_14.out.lt; have n_49 := Bo_15.out.lt; have n_50 := Bn_16.out.lt; go_at_call 25; (with_reducible refine (rden_any ((w2.alloc (.cells #[.bool false, .slice none 0 0] 30)).drew) t x (RA_18.out.dk (((Dk.refl _).alloc _).drew)) (by omega)).mono ?_); rintro e w_51 ⟨⟨r1, rfl, hr⟩, hb⟩; clear la ca0 ca1 ca2 lb cb0 cb1 cb2 lo co0 co1 co2 ln cn0 cn1 k_22 k_23 k_33; have K := Dk.trans (((Dk.refl _).alloc _).drew) (.below hb); have Ba_52 := Lib.hid (show Bk _ _ _ #[.bool t.q.b, .slice t.q.A t.q.n t.q.c, .slice t.A t.n t.c] from ((Ba_13.out.alloc _).drew).below hb); have Bb_53 := Lib.hid (show Bk _ _ _ #[.bool u.q.b, .slice u.q.A u.q.n u.q.c, .slice u.A u.n u.c] from ((Bb_14.out.alloc _).drew).below hb); have Bo_54 := Lib.hid (show Bk _ _ _ #[.bool false, .slice none 0 0, .slice none 0 0] from ((Bo_15.out.alloc _).drew).below hb); have Bn_55 := Lib.hid (show Bk _ _ _ #[.bool n.b, .slice n.A n.n n.c] from ((Bn_16.out.alloc _).drew).below hb); have Bd_56 := Lib.hid (show Bk _ _ _ #[.bool false, .slice none 0 0] from ((Bk.new _ 30 #[.bool false, .slice none 0 0]).drew).below hb); have HB_57 := Lib.hid (below_tr (below_dr (below_al HB_17.out _)) hb); clear hb; have RA_58 := Lib.hid (RA_18.out.dk K); have RB_59 := Lib.hid (RB_19.out.dk K); have RN_60 := Lib.hid (RN_20.out.dk K); clear K Ba_13 Bb_14 Bo_15 Bn_16 HB_17 RA_18 RB_19 RN_20; have D1_61 := Lib.hid hr; clear hr; have la := Ba_52.out.lt; obtain ⟨ca0, ca1, ca2⟩ := Ba_52.out.cells3; have lb := Bb_53.out.lt; obtain ⟨cb0, cb1, cb2⟩ := Bb_53.out.cells3; have lo := Bo_54.out.lt; obtain ⟨co0, co1, co2⟩ := Bo_54.out.cells3; have ln := Bn_55.out.lt; obtain ⟨cn0, cn1⟩ := Bn_55.out.cells2; have ld := Bd_56.out.lt; obtain ⟨cd0, cd1⟩ := Bd_56.out.cells2; have fd0 := Bd_56.out.free 0; have fd1 := Bd_56.out.free 1; have k_62 : SX1 (w_51) := (hS1 _).2 ⟨Ba_52.out.cell 0 rfl, Ba_52.out.cell 1 rfl, Ba_52.out.cell 2 rfl, Bb_53.out.cell 0 rfl, Bb_53.out.cell 1 rfl, Bb_53.out.cell 2 rfl⟩)
       | (clear tok_25; go_at_call 25; (with_reducible refine (rden_any (w_34) u y RB_41.out (by omega)).mono ?_); rintro e w_64 ⟨⟨r2, rfl, hr⟩, hb⟩; clear la ca0 ca1 ca2 lb cb0 cb1 cb2 lo co0 co1 co2 ln cn0 cn1 k_44 k_45; have K := Dk.below hb; have Ba_65 := Lib.hid (show Bk _ _ _ #[.bool t.q.b, .slice t.q.A t.q.n t.q.c, .slice t.A t.n t.c] from Ba_35.out.below hb); have Bb_66 := Lib.hid (show Bk _ _ _ #[.bool u.q.b, .slice u.q.A u.q.n u.q.c, .slice u.A u.n u.c] from Bb_36.out.below hb); have Bo_67 := Lib.hid (show Bk _ _ _ #[.bool false, .slice none 0 0, .slice none 0 0] from Bo_37.out.below hb); have Bn_68 := Lib.hid (show Bk _ _ _ #[.bool n.b, .slice n.A n.n n.c] from Bn_38.out.below hb); have HB_69 := Lib.hid (below_tr HB_39.out hb); clear hb; have RA_70 := Lib.hid (RA_40.out.dk K); have RB_71 := Lib.hid (RB_41.out.dk K); have RN_72 := Lib.hid (RN_42.out.dk K); have D1_73 := Lib.hid (D1_43.out.dk K); clear K Ba_35 Bb_36 Bo_37 Bn_38 HB_39 RA_40 RB_41 RN_42 D1_43; have D2_74 := Lib.hid hr; clear hr; have la := Ba_65.out.lt; obtain ⟨ca0, ca1, ca2⟩ := Ba_65.out.cells3; have lb := Bb_66.out.lt; obtain ⟨cb0, cb1, cb2⟩ := Bb_66.out.cells3; have lo := Bo_67.out.lt; obtain ⟨co0, co1, co2⟩ := Bo_67.out.cells3; have ln := Bn_68.out.lt; obtain ⟨cn0, cn1⟩ := Bn_68.out.cells2; have k_75 : SX1 (w_64) := (hS1 _).2 ⟨Ba_65.out.cell 0 rfl, Ba_65.out.cell 1 rfl, Ba_65.out.cell 2 rfl, Bb_66.out.cell 0 rfl, Bb_66.out.cell 1 rfl, Bb_66.out.cell 2 rfl⟩; have k_76 : SX1 (w_64.alloc (.cells #[.bool false, .slice none 0 0] 30)) := (hS1 _).2 ⟨(Ba_65.out.alloc _).cell 0 rfl, (Ba_65.out.alloc _).cell 1 rfl, (Ba_65.out.alloc _).cell 2 rfl, (Bb_66.out.alloc _).cell 0 rfl, (Bb_66.out.alloc _).cell 1 rfl, (Bb_66.out.alloc _).cell 2 rfl⟩)
       | (clear tok_30; have n_78 := Ba_35.out.lt; have n_79 := Bb_36.out.lt; have n_80 := Bo_37.out.lt; have n_81 := Bn_38.out.lt; go_at_call 25; (with_reducible refine (rden_any (w_34.alloc (.cells #[.bool false, .slice none 0 0] 30)) u y (RB_41.out.dk ((Dk.refl _).alloc _)) (by omega)).mono ?_); rintro e w_82 ⟨⟨r2, rfl, hr⟩, hb⟩; clear la ca0 ca1 ca2 lb cb0 cb1 cb2 lo co0 co1 co2 ln cn0 cn1 k_44 k_45; have K := Dk.trans ((Dk.refl _).alloc _) (.below hb); have Ba_83 := Lib.hid (show Bk _ _ _ #[.bool t.q.b, .slice t.q.A t.q.n t.q.c, .slice t.A t.n t.c] from (Ba_35.out.alloc _).below hb); have Bb_84 := Lib.hid (show Bk _ _ _ #[.bool u.q.b, .slice u.q.A u.q.n u.q.c, .slice u.A u.n u.c] from (Bb_36.out.alloc _).below hb); have Bo_85 := Lib.hid (show Bk _ _ _ #[.bool false, .slice none 0 0, .slice none 0 0] from (Bo_37.out.alloc _).below hb); have Bn_86 := Lib.hid (show Bk _ _ _ #[.bool n.b, .slice n.A n.n n.c] from (Bn_38.out.alloc _).below hb); have Bd_87 := Lib.hid (show Bk _ _ _ #[.bool false, .slice none 0 0] from (Bk.new _ 30 #[.bool false, .slice none 0 0]).below hb); have HB_88 := Lib.hid (below_tr (below_al HB_39.out _) hb); clear hb; have RA_89 := Lib.hid (RA_40.out.dk K); have RB_90 := Lib.hid (RB_41.out.dk K); have RN_91 := Lib.hid (RN_42.out.dk K); have D1_92 := Lib.hid (D1_43.out.dk K); clear K Ba_35 Bb_36 Bo_37 Bn_38 HB_39 RA_40 RB_41 RN_42 D1_43; have D2_93 := Lib.hid hr; clear hr; have la := Ba_83.out.lt; obtain ⟨ca0, ca1, ca2⟩ := Ba_83.out.cells3; have lb := Bb_84.out.lt; obtain ⟨cb0, cb1, cb2⟩ := Bb_84.out.cells3; have lo := Bo_85.out.lt; obtain ⟨co0, co1, co2⟩ := Bo_85.out.cells3; have ln := Bn_86.out.lt; obtain ⟨cn0, cn1⟩ := Bn_86.out.cells2; have ld := Bd_87.out.lt; obtain ⟨cd0, cd1⟩ := Bd_87.out.cells2; have fd0 := Bd_87.out.free 0; have fd1 := Bd_87.out.free 1; have k_94 : SX1 (w_82) := (hS1 _).2 ⟨Ba_83.out.cell 0 rfl, Ba_83.out.cell 1 rfl, Ba_83.out.cell 2 rfl, Bb_84.out.cell 0 rfl, Bb_84.out.cell 1 rfl, Bb_84.out.cell 2 rfl⟩)
       | (clear tok_28; go_at_call 25; (with_reducible refine (rden_any (w_51) u y RB_59.out (by omega)).mono ?_); rintro e w_96 ⟨⟨r2, rfl, hr⟩, hb⟩; clear la ca0 ca1 ca2 lb cb0 cb1 cb2 lo co0 co1 co2 ln cn0 cn1 ld cd0 cd1 fd0 fd1 k_62; have K := Dk.below hb; have Ba_97 := Lib.hid (show Bk _ _ _ #[.bool t.q.b, .slice t.q.A t.q.n t.q.c, .slice t.A t.n t.c] from Ba_52.out.below hb); have Bb_98 := Lib.hid (show Bk _ _ _ #[.bool u.q.b, .slice u.q.A u.q.n u.q.c, .slice u.A u.n u.c] from Bb_53.out.below hb); have Bo_99 := Lib.hid (show Bk _ _ _ #[.bool false, .slice none 0 0, .slice none 0 0] from Bo_54.out.below hb); have Bn_100 := Lib.hid (show Bk _ _ _ #[.bool n.b, .slice n.A n.n n.c] from Bn_55.out.below hb); have Bd_101 := Lib.hid (show Bk _ _ _ #[.bool false, .slice none 0 0] from Bd_56.out.below hb); have HB_102 := Lib.hid (below_tr HB_57.out hb); clear hb; have RA_103 := Lib.hid (RA_58.out.dk K); have RB_104 := Lib.hid (RB_59.out.dk K); have RN_105 := Lib.hid (RN_60.out.dk K); have D1_106 := Lib.hid (D1_61.out.dk K); clear K Ba_52 Bb_53 Bo_54 Bn_55 Bd_56 HB_57 RA_58 RB_59 RN_60 D1_61; have D2_107 := Lib.hid hr; clear hr; have la := Ba_97.out.lt; obtain ⟨ca0, ca1, ca2⟩ := Ba_97.out.cells3; have lb := Bb_98.out.lt; obtain ⟨cb0, cb1, cb2⟩ := Bb_98.out.cells3; have lo := Bo_99.out.lt; obtain ⟨co0, co1, co2⟩ := Bo_99.out.cells3; have ln := Bn_100.out.lt; obtain ⟨cn0, cn1⟩ := Bn_100.out.cells2; have ld := Bd_101.out.lt; obtain ⟨cd0, cd1⟩ := Bd_101.out.cells2; have fd0 := Bd_101.out.free 0; have fd1 := Bd_101.out.free 1; have k_108 : SX1 (w_96) := (hS1 _).2 ⟨Ba_97.out.cell 0 rfl, Ba_97.out.cell 1 rfl, Ba_97.out.cell 2 rfl, Bb_98.out.cell 0 rfl, Bb_98.out.cell 1 rfl, Bb_98.out.cell 2 rfl⟩)
       | (clear tok_26; go_at_call 24; (with_reducible refine (wmul_q (w_64) r1 r2 (x.den : Int) (y.den : Int) D1_73.out D2_74.out (by omega)).mono ?_); rintro e w_110 ⟨⟨vd, rfl, hr⟩, hb⟩; clear la ca0 ca1 ca2 lb cb0 cb1 cb2 lo co0 co1 co2 ln cn0 cn1 k_75 k_76; have K := Dk.below hb; have Ba_111 := Lib.hid (show Bk _ _ _ #[.bool t.q.b, .slice t.q.A t.q.n t.q.c, .slice t.A t.n t.c] from Ba_65.out.below hb); have Bb_112 := Lib.hid (show Bk _ _ _ #[.bool u.q.b, .slice u.q.A u.q.n u.q.c, .slice u.A u.n u.c] from Bb_66.out.below hb); have Bo_113 := Lib.hid (show Bk _ _ _ #[.bool false, .slice none 0 0, .slice none 0 0] from Bo_67.out.below hb); have Bn_114 := Lib.hid (show Bk _ _ _ #[.bool n.b, .slice n.A n.n n.c] from Bn_68.out.below hb); have HB_115 := Lib.hid (below_tr HB_69.out hb); clear hb; have RA_116 := Lib.hid (RA_70.out.dk K); have RB_117 := Lib.hid (RB_71.out.dk K); have RN_118 := Lib.hid (RN_72.out.dk K); have D1_119 := Lib.hid (D1_73.out.dk K); have D2_120 := Lib.hid (D2_74.out.dk K); clear K Ba_65 Bb_66 Bo_67 Bn_68 HB_69 RA_70 RB_71 RN_72 D1_73 D2_74; have RD_121 := Lib.hid hr; clear hr; have la := Ba_111.out.lt; obtain ⟨ca0, ca1, ca2⟩ := Ba_111.out.cells3; have lb := Bb_112.out.lt; obtain ⟨cb0, cb1, cb2⟩ := Bb_112.out.cells3; have lo := Bo_113.out.lt; obtain ⟨co0, co1, co2⟩ := Bo_113.out.cells3; have ln := Bn_114.out.lt; obtain ⟨cn0, cn1⟩ := Bn_114.out.cells2; have k_122 : SX1 (w_110) := (hS1 _).2 ⟨Ba_111.out.cell 0 rfl, Ba_111.out.cell 1 rfl, Ba_111.out.cell 2 rfl, Bb_112.out.cell 0 rfl, Bb_112.out.cell 1 rfl, Bb_112.out.cell 2 rfl⟩; have n_123 := Ba_111.out.lt; have n_124 := Bb_112.out.lt; have n_125 := Bo_113.out.lt; have n_126 := Bn_114.out.lt; have k_127 : SX1 (w_110.alloc (.cells #[.bool false, .slice none 0 0] 30)) := (hS1 _).2 ⟨(Ba_111.out.alloc _).cell 0 rfl, (Ba_111.out.alloc _).cell 1 rfl, (Ba_111.out.alloc _).cell 2 rfl, (Bb_112.out.alloc _).cell 0 rfl, (Bb_112.out.alloc _).cell 1 rfl, (Bb_112.out.alloc _).cell 2 rfl⟩; have k_128 : SX1 (w_110.alloc (.cells #[.bool vd.b, .slice vd.A vd.n vd.c] 30)) := (hS1 _).2 ⟨(Ba_111.out.alloc _).cell 0 rfl, (Ba_111.out.alloc _).cell 1 rfl, (Ba_111.out.alloc _).cell 2 rfl, (Bb_112.out.alloc _).cell 0 rfl, (Bb_112.out.alloc _).cell 1 rfl, (Bb_112.out.alloc _).cell 2 rfl⟩)
       | (clear tok_32; have n_130 := Ba_65.out.lt; have n_131 := Bb_66.out.lt; have n_132 := Bo_67.out.lt; have n_133 := Bn_68.out.lt; go_at_call 24; (with_reducible refine (wmul_q (w_64.alloc (.cells #[.bool false, .slice none 0 0] 30)) r1 r2 (x.den : Int) (y.den : Int) (D1_73.out.dk ((Dk.refl _).alloc _)) (D2_74.out.dk ((Dk.refl _).alloc _)) (by omega)).mono ?_); rintro e w_134 ⟨⟨vd, rfl, hr⟩, hb⟩; clear la ca0 ca1 ca2 lb cb0 cb1 cb2 lo co0 co1 co2 ln cn0 cn1 k_75 k_76; have K := Dk.trans ((Dk.refl _).alloc _) (.below hb); have Ba_135 := Lib.hid (show Bk _ _ _ #[.bool t.q.b, .slice t.q.A t.q.n t.q.c, .slice t.A t.n t.c] from (Ba_65.out.alloc _).below hb); have Bb_136 := Lib.hid (show Bk _ _ _ #[.bool u.q.b, .slice u.q.A u.q.n u.q.c, .slice u.A u.n u.c] from (Bb_66.out.alloc _).below hb); have Bo_137 := Lib.hid (show Bk _ _ _ #[.bool false, .slice none 0 0, .slice none 0 0] from (Bo_67.out.alloc _).below hb); have Bn_138 := Lib.hid (show Bk _ _ _ #[.bool n.b, .slice n.A n.n n.c] from (Bn_68.out.alloc _).below hb); have Bd_139 := Lib.hid (show Bk _ _ _ #[.bool false, .slice none 0 0] from (Bk.new _ 30 #[.bool false, .slice none 0 0]).below hb); have HB_140 := Lib.hid (below_tr (below_al HB_69.out _) hb); clear hb; have RA_141 := Lib.hid (RA_70.out.dk K); have RB_142 := Lib.hid (RB_71.out.dk K); have RN_143 := Lib.hid (RN_72.out.dk K); have D1_144 := Lib.hid (D1_73.out.dk K); have D2_145 := Lib.hid (D2_74.out.dk K); clear K Ba_65 Bb_66 Bo_67 Bn_68 HB_69 RA_70 RB_71 RN_72 D1_73 D2_74; have RD_146 := Lib.hid hr; clear hr; have la := Ba_135.out.lt; obtain ⟨ca0, ca1, ca2⟩ := Ba_135.out.cells3; have lb := Bb_136.out.lt; obtain ⟨cb0, cb1, cb2⟩ := Bb_136.out.cells3; have lo := Bo_137.out.lt; obtain ⟨co0, co1, co2⟩ := Bo_137.out.cells3; have ln := Bn_138.out.lt; obtain ⟨cn0, cn1⟩ := Bn_138.out.cells2; have ld := Bd_139.out.lt; obtain ⟨cd0, cd1⟩ := Bd_139.out.cells2; have fd0 := Bd_139.out.free 0; have fd1 := Bd_139.out.free 1; have k_147 : SX1 (w_134) := (hS1 _).2 ⟨Ba_135.out.cell 0 rfl, Ba_135.out.cell 1 rfl, Ba_135.out.cell 2 rfl, Bb_136.out.cell 0 rfl, Bb_136.out.cell 1 rfl, Bb_136.out.cell 2 rfl⟩; have y0 := Ba_135.out.lt; have y1 := Bb_136.out.lt; have y2 := Bo_137.out.lt; have y3 := Bn_138.out.lt; have y4 := Bd_139.out.lt; have y5 := HB_140.out.size; have k_148 : SX1 ((w_134.setCell ⟨w_64.heap.size, 0, none⟩ (.bool vd.b)).setCell ⟨w_64.heap.size, 1, none⟩ (.slice vd.A vd.n vd.c)) := (hS1 _).2 ⟨((Ba_135.out.ne (by omega) 0 (.bool vd.b)).ne (by omega) 1 (.slice vd.A vd.n vd.c)).cell 0 rfl, ((Ba_135.out.ne (by omega) 0 (.bool vd.b)).ne (by omega) 1 (.slice vd.A vd.n vd.c)).cell 1 rfl, ((Ba_135.out.ne (by omega) 0 (.bool vd.b)).ne (by omega) 1 (.slice vd.A vd.n vd.c)).cell 2 rfl, ((Bb_136.out.ne (by omega) 0 (.bool vd.b)).ne (by omega) 1 (.slice vd.A vd.n vd.c)).cell 0 rfl, ((Bb_136.out.ne (by omega) 0 (.bool vd.b)).ne (by omega) 1 (.slice vd.A vd.n vd.c)).cell 1 rfl, ((Bb_136.out.ne (by omega) 0 (.bool vd.b)).ne (by omega) 1 (.slice vd.A vd.n vd.c)).cell 2 rfl⟩; clear y0 y1 y2 y3 y4 y5)
       | (clear tok_29; go_at_call 24; (with_reducible refine (wmul_q (w_96) r1 r2 (x.den : Int) (y.den : Int) D1_106.out D2_107.out (by omega)).mono ?_); rintro e w_150 ⟨⟨vd, rfl, hr⟩, hb⟩; clear la ca0 ca1 ca2 lb cb0 cb1 cb2 lo co0 co1 co2 ln cn0 cn1 ld cd0 cd1 fd0 fd1 k_108; have K := Dk.below hb; have Ba_151 := Lib.hid (show Bk _ _ _ #[.bool t.q.b, .slice t.q.A t.q.n t.q.c, .slice t.A t.n t.c] from Ba_97.out.below hb); have Bb_152 := Lib.hid (show Bk _ _ _ #[.bool u.q.b, .slice u.q.A u.q.n u.q.c, .slice u.A u.n u.c] from Bb_98.out.below hb); have Bo_153 := Lib.hid (show Bk _ _ _ #[.bool false, .slice none 0 0, .slice none 0 0] from Bo_99.out.below hb); have Bn_154 := Lib.hid (show Bk _ _ _ #[.bool n.b, .slice n.A n.n n.c] from Bn_100.out.below hb); have Bd_155 := Lib.hid (show Bk _ _ _ #[.bool false, .slice none 0 0] from Bd_101.out.below hb); have HB_156 := Lib.hid (below_tr HB_102.out hb); clear hb; have RA_157 := Lib.hid (RA_103.out.dk K); have RB_158 := Lib.hid (RB_104.out.dk K); have RN_159 := Lib.hid (RN_105.out.dk K); have D1_160 := Lib.hid (D1_106.out.dk K); have D2_161 := Lib.hid (D2_107.out.dk K); clear K Ba_97 Bb_98 Bo_99 Bn_100 Bd_101 HB_102 RA_103 RB_104 RN_105 D1_106 D2_107; have RD_162 := Lib.hid hr; clear hr; have la := Ba_151.out.lt; obtain ⟨ca0, ca1, ca2⟩ := Ba_151.out.cells3; have lb := Bb_152.out.lt; obtain ⟨cb0, cb1, cb2⟩ := Bb_152.out.cells3; have lo := Bo_153.out.lt; obtain ⟨co0, co1, co2⟩ := Bo_153.out.cells3; have ln := Bn_154.out.lt; obtain ⟨cn0, cn1⟩ := Bn_154.out.cells2; have ld := Bd_155.out.lt; obtain ⟨cd0, cd1⟩ := Bd_155.out.cells2; have fd0 := Bd_155.out.free 0; have fd1 := Bd_155.out.free 1; have k_163 : SX1 (w_150) := (hS1 _).2 ⟨Ba_151.out.cell 0 rfl, Ba_151.out.cell 1 rfl, Ba_151.out.cell 2 rfl, Bb_152.out.cell 0 rfl, Bb_152.out.cell 1 rfl, Bb_152.out.cell 2 rfl⟩; have y0 := Ba_151.out.lt; have y1 := Bb_152.out.lt; have y2 := Bo_153.out.lt; have y3 := Bn_154.out.lt; have y4 := Bd_155.out.lt; have y5 := HB_156.out.size; have k_164 : SX1 ((w_150.setCell ⟨w2.heap.size, 0, none⟩ (.bool vd.b)).setCell ⟨w2.heap.size, 1, none⟩ (.slice vd.A vd.n vd.c)) := (hS1 _).2 ⟨((Ba_151.out.ne (by omega) 0 (.bool vd.b)).ne (by omega) 1 (.slice vd.A vd.n vd.c)).cell 0 rfl, ((Ba_151.out.ne (by omega) 0 (.bool vd.b)).ne (by omega) 1 (.slice vd.A vd.n vd.c)).cell 1 rfl, ((Ba_151.out.ne (by omega) 0 (.bool vd.b)).ne (by omega) 1 (.slice vd.A vd.n vd.c)).cell 2 rfl, ((Bb_152.out.ne (by omega) 0 (.bool vd.b)).ne (by omega) 1 (.slice vd.A vd.n vd.c)).cell 0 rfl, ((Bb_152.out.ne (by omega) 0 (.bool vd.b)).ne (by omega) 1 (.slice vd.A vd.n vd.c)).cell 1 rfl, ((Bb_152.out.ne (by omega) 0 (.bool vd.b)).ne (by omega) 1 (.slice vd.A vd.n vd.c)).cell 2 rfl⟩; clear y0 y1 y2 y3 y4 y5)
       | (clear tok_31; go_at_call 24; (with_reducible refine (wmul_q (w_82) r1 r2 (x.den : Int) (y.den : Int) D1_92.out D2_93.out (by omega)).mono ?_); rintro e w_166 ⟨⟨vd, rfl, hr⟩, hb⟩; clear la ca0 ca1 ca2 lb cb0 cb1 cb2 lo co0 co1 co2 ln cn0 cn1 ld cd0 cd1 fd0 fd1 k_94; have K := Dk.below hb; have Ba_167 := Lib.hid (show Bk _ _ _ #[.bool t.q.b, .slice t.q.A t.q.n t.q.c, .slice t.A t.n t.c] from Ba_83.out.below hb); have Bb_168 := Lib.hid (show Bk _ _ _ #[.bool u.q.b, .slice u.q.A u.q.n u.q.c, .slice u.A u.n u.c] from Bb_84.out.below hb); have Bo_169 := Lib.hid (show Bk _ _ _ #[.bool false, .slice none 0 0, .slice none 0 0] from Bo_85.out.below hb); have Bn_170 := Lib.hid (show Bk _ _ _ #[.bool n.b, .slice n.A n.n n.c] from Bn_86.out.below hb); have Bd_171 := Lib.hid (show Bk _ _ _ #[.bool false, .slice none 0 0] from Bd_87.out.below hb); have HB_172 := Lib.hid (below_tr HB_88.out hb); clear hb; have RA_173 := Lib.hid (RA_89.out.dk K); have RB_174 := Lib.hid (RB_90.out.dk K); have RN_175 := Lib.hid (RN_91.out.dk K); have D1_176 := Lib.hid (D1_92.out.dk K); have D2_177 := Lib.hid (D2_93.out.dk K); clear K Ba_83 Bb_84 Bo_85 Bn_86 Bd_87 HB_88 RA_89 RB_90 RN_91 D1_92 D2_93; have RD_178 := Lib.hid hr; clear hr; have la := Ba_167.out.lt; obtain ⟨ca0, ca1, ca2⟩ := Ba_167.out.cells3; have lb := Bb_168.out.lt; obtain ⟨cb0, cb1, cb2⟩ := Bb_168.out.cells3; have lo := Bo_169.out.lt; obtain ⟨co0, co1, co2⟩ := Bo_169.out.cells3; have ln := Bn_170.out.lt; obtain ⟨cn0, cn1⟩ := Bn_170.out.cells2; have ld := Bd_171.out.lt; obtain ⟨cd0, cd1⟩ := Bd_171.out.cells2; have fd0 := Bd_171.out.free 0; have fd1 := Bd_171.out.free 1; have k_179 : SX1 (w_166) := (hS1 _).2 ⟨Ba_167.out.cell 0 rfl, Ba_167.out.cell 1 rfl, Ba_167.out.cell 2 rfl, Bb_168.out.cell 0 rfl, Bb_168.out.cell 1 rfl, Bb_168.out.cell 2 rfl⟩; have y0 := Ba_167.out.lt; have y1 := Bb_168.out.lt; have y2 := Bo_169.out.lt; have y3 := Bn_170.out.lt; have y4 := Bd_171.out.lt; have y5 := HB_172.out.size; have k_180 : SX1 ((w_166.setCell ⟨w_34.heap.size, 0, none⟩ (.bool vd.b)).setCell ⟨w_34.heap.size, 1, none⟩ (.slice vd.A vd.n vd.c)) := (hS1 _).2 ⟨((Ba_167.out.ne (by omega) 0 (.bool vd.b)).ne (by omega) 1 (.slice vd.A vd.n vd.c)).cell 0 rfl, ((Ba_167.out.ne (by omega) 0 (.bool vd.b)).ne (by omega) 1 (.slice vd.A vd.n vd.c)).cell 1 rfl, ((Ba_167.out.ne (by omega) 0 (.bool vd.b)).ne (by omega) 1 (.slice vd.A vd.n vd.c)).cell 2 rfl, ((Bb_168.out.ne (by omega) 0 (.bool vd.b)).ne (by omega) 1 (.slice vd.A vd.n vd.c)).cell 0 rfl, ((Bb_168.out.ne (by omega) 0 (.bool vd.b)).ne (by omega) 1 (.slice vd.A vd.n vd.c)).cell 1 rfl, ((Bb_168.out.ne (by omega) 0 (.bool vd.b)).ne (by omega) 1 (.slice vd.A vd.n vd.c)).cell 2 rfl⟩; clear y0 y1 y2 y3 y4 y5)
       | fail)
    all_goals (go_wp2_with fail; go_meet; first | (have y0 := Ba_111.out.lt; have y1 := Bb_112.out.lt; have y2 := Bo_113.out.lt; have y3 := Bn_114.out.lt; have y4 := HB_115.out.size; exact ⟨w_110.heap.size, vd, rfl, rfl, (by omega), (by omega), (by omega), (by omega), (Bk.new _ 30 #[.bool vd.b, .slice vd.A vd.n vd.c]), (Ba_111.out.alloc _), (Bb_112.out.alloc _), (Bo_113.out.alloc _), (Bn_114.out.alloc _), (below_al HB_115.out _), (RN_118.out.dk ((Dk.refl _).alloc _)), (RD_121.out.dk ((Dk.refl _).alloc _))⟩) | (have y0 := Ba_151.out.lt; have y1 := Bb_152.out.lt; have y2 := Bo_153.out.lt; have y3 := Bn_154.out.lt; have y4 := Bd_155.out.lt; have y5 := HB_156.out.size; exact ⟨w2.heap.size, vd, rfl, rfl, (by omega), (by omega), (by omega), (by omega), ((Bd_155.out.set 0 (.bool vd.b)).set 1 (.slice vd.A vd.n vd.c)), ((Ba_151.out.ne (by omega) 0 (.bool vd.b)).ne (by omega) 1 (.slice vd.A vd.n vd.c)), ((Bb_152.out.ne (by omega) 0 (.bool vd.b)).ne (by omega) 1 (.slice vd.A vd.n vd.c)), ((Bo_153.out.ne (by omega) 0 (.bool vd.b)).ne (by omega) 1 (.slice vd.A vd.n vd.c)), ((Bn_154.out.ne (by omega) 0 (.bool vd.b)).ne (by omega) 1 (.slice vd.A vd.n vd.c)), (below_st (below_st HB_156.out 0 (by omega) (.bool vd.b)) 1 (by omega) (.slice vd.A vd.n vd.c)), (RN_159.out.dk (((Dk.refl _).set (cs := #[.bool false, .slice none 0 0]) Bd_155.out 0 (by intro _ hh; cases hh) (.bool vd.b)).set (cs := #[.bool vd.b, .slice none 0 0]) (Bd_155.out.set 0 (.bool vd.b)) 1 (by intro _ hh; cases hh) (.slice vd.A vd.n vd.c))), (RD_162.out.dk (((Dk.refl _).set (cs := #[.bool false, .slice none 0 0]) Bd_155.out 0 (by intro _ hh; cases hh) (.bool vd.b)).set (cs := #[.bool vd.b, .slice none 0 0]) (Bd_155.out.set 0 (.bool vd.b)) 1 (by intro _ hh; cases hh) (.slice vd.A vd.n vd.c)))⟩) | (have y0 := Ba_167.out.lt; have y1 := Bb_168.out.lt; have y2 := Bo_169.out.lt; have y3 := Bn_170.out.lt; have y4 := Bd_171.out.lt; have y5 := HB_172.out.size; exact ⟨w_34.heap.size, vd, rfl, rfl, (by omega), (by omega), (by omega), (by omega), ((Bd_171.out.set 0 (.bool vd.b)).set 1 (.slice vd.A vd.n vd.c)), ((Ba_167.out.ne (by omega) 0 (.bool vd.b)).ne (by omega) 1 (.slice vd.A vd.n vd.c)), ((Bb_168.out.ne (by omega) 0 (.bool vd.b)).ne (by omega) 1 (.slice vd.A vd.n vd.c)), ((Bo_169.out.ne (by omega) 0 (.bool vd.b)).ne (by omega) 1 (.slice vd.A vd.n vd.c)), ((Bn_170.out.ne (by omega) 0 (.bool vd.b)).ne (by omega) 1 (.slice vd.A vd.n vd.c)), (below_st (below_st HB_172.out 0 (by omega) (.bool vd.b)) 1 (by omega) (.slice vd.A vd.n vd.c)), (RN_175.out.dk (((Dk.refl _).set (cs := #[.bool false, .slice none 0 0]) Bd_171.out 0 (by intro _ hh; cases hh) (.bool vd.b)).set (cs := #[.bool vd.b, .slice none 0 0]) (Bd_171.out.set 0 (.bool vd.b)) 1 (by intro _ hh; cases hh) (.slice vd.A vd.n vd.c))), (RD_178.out.dk (((Dk.refl _).set (cs := #[.bool false, .slice none 0 0]) Bd_171.out 0 (by intro _ hh; cases hh) (.bool vd.b)).set (cs := #[.bool vd.b, .slice none 0 0]) (Bd_171.out.set 0 (.bool vd.b)) 1 (by intro _ hh; cases hh) (.slice vd.A vd.n vd.c)))⟩) | (have y0 := Ba_135.out.lt; have y1 := Bb_136.out.lt; have y2 := Bo_137.out.lt; have y3 := Bn_138.out.lt; have y4 := Bd_139.out.lt; have y5 := HB_140.out.size; exact ⟨w_64.heap.size, vd, rfl, rfl, (by omega), (by omega), (by omega), (by omega), ((Bd_139.out.set 0 (.bool vd.b)).set 1 (.slice vd.A vd.n vd.c)), ((Ba_135.out.ne (by omega) 0 (.bool vd.b)).ne (by omega) 1 (.slice vd.A vd.n vd.c)), ((Bb_136.out.ne (by omega) 0 (.bool vd.b)).ne (by omega) 1 (.slice vd.A vd.n vd.c)), ((Bo_137.out.ne (by omega) 0 (.bool vd.b)).ne (by omega) 1 (.slice vd.A vd.n vd.c)), ((Bn_138.out.ne (by omega) 0 (.bool vd.b)).ne (by omega) 1 (.slice vd.A vd.n vd.c)), (below_st (below_st HB_140.out 0 (by omega) (.bool vd.b)) 1 (by omega) (.slice vd.A vd.n vd.c)), (RN_143.out.dk (((Dk.refl _).set (cs := #[.bool false, .slice none 0 0]) Bd_139.out 0 (by intro _ hh; cases hh) (.bool vd.b)).set (cs := #[.bool vd.b, .slice none 0 0]) (Bd_139.out.set 0 (.bool vd.b)) 1 (by intro _ hh; cases hh) (.slice vd.A vd.n vd.c))), (RD_146.out.dk (((Dk.refl _).set (cs := #[.bool false, .slice none 0 0]) Bd_139.out 0 (by intro _ hh; cases hh) (.bool vd.b)).set (cs := #[.bool vd.b, .slice none 0 0]) (Bd_139.out.set 0 (.bool vd.b)) 1 (by intro _ hh; cases hh) (.slice vd.A vd.n vd.c)))⟩))
  case rest =>
    clear la ca0 ca1 ca2 lb cb0 cb1 cb2 lo co0 co1 co2 ln cn0 cn1
    clear Ba_13 Bb_14 Bo_15 Bn_16 RA_18 RB_19 RN_20 HB_17
    obtain ⟨w_183, rfl⟩ : ∃ x, x = wc := ⟨_, rfl⟩
    obtain ⟨g_21, vd, rfl, rfl, nn0, nn1, nn2, nn3, bz, bo0, bo1, bo2, bo3, hbel, hf0, hf1⟩ := hcut
    have Ba_184 := Lib.hid bo0
    have n_185 := nn0
    have Bb_186 := Lib.hid bo1
    have n_187 := nn1
    have Bo_188 := Lib.hid bo2
    have n_189 := nn2
    have Bn_190 := Lib.hid bo3
    have n_191 := nn3
    have Bd_192 := Lib.hid bz
    have HB_192 := Lib.hid hbel
    have RN_194 := Lib.hid hf0
    have RD_195 := Lib.hid hf1
    clear nn0 nn1 nn2 nn3 bz bo0 bo1 bo2 bo3 hbel hf0 hf1
    have la := Ba_184.out.lt
    obtain ⟨ca0, ca1, ca2⟩ := Ba_184.out.cells3
    have lb := Bb_186.out.lt
    obtain ⟨cb0, cb1, cb2⟩ := Bb_186.out.cells3
    have lo := Bo_188.out.lt
    obtain ⟨co0, co1, co2⟩ := Bo_188.out.cells3
    have ln := Bn_190.out.lt
    obtain ⟨cn0, cn1⟩ := Bn_190.out.cells2
    have ld := Bd_192.out.lt
    obtain ⟨cd0, cd1⟩ := Bd_192.out.cells2
    go_wp2_with fail
    have n_196 := Ba_184.out.lt
    have n_197 := Bb_186.out.lt
    have n_198 := Bo_188.out.lt
    have n_199 := Bn_190.out.lt
    have n_200 := Bd_192.out.lt
    go_wp2_with fail
    clear la ca0 ca1 ca2 lb cb0 cb1 cb2 lo co0 co1 co2 ln cn0 cn1 ld cd0 cd1
    have K : Dk w_183 (w_183.alloc (.cells #[.int .i64 0, .int .i64 0] 33)) := ((Dk.refl _).alloc _)
    have Ba_201 := Lib.hid (show Bk (w_183.alloc (.cells #[.int .i64 0, .int .i64 0] 33)) (w.heap.size) 32 #[.bool t.q.b, .slice t.q.A t.q.n t.q.c, .slice t.A t.n t.c] from (Ba_184.out.alloc _))
    have Bb_202 := Lib.hid (show Bk (w_183.alloc (.cells #[.int .i64 0, .int .i64 0] 33)) (w.heap.size + 1) 32 #[.bool u.q.b, .slice u.q.A u.q.n u.q.c, .slice u.A u.n u.c] from (Bb_186.out.alloc _))
    have Bo_203 := Lib.hid (show Bk (w_183.alloc (.cells #[.int .i64 0, .int .i64 0] 33)) (w.heap.size + 2) 32 #[.bool false, .slice none 0 0, .slice none 0 0] from (Bo_188.out.alloc _))
    have Bn_204 := Lib.hid (show Bk (w_183.alloc (.cells #[.int .i64 0, .int .i64 0] 33)) (w1.heap.size) 30 #[.bool n.b, .slice n.A n.n n.c] from (Bn_190.out.alloc _))
    have Bd_205 := Lib.hid (show Bk (w_183.alloc (.cells #[.int .i64 0, .int .i64 0] 33)) (g_21) 30 #[.bool vd.b, .slice vd.A vd.n vd.c] from (Bd_192.out.alloc _))
    have Bl_206 := Lib.hid (show Bk (w_183.alloc (.cells #[.int .i64 0, .int .i64 0] 33)) (w_183.heap.size) 33 #[.int .i64 0, .int .i64 0] from (Bk.new _ 33 #[.int .i64 0, .int .i64 0]))
    have HB_207 := Lib.hid (show Below w.heap.size w (w_183.alloc (.cells #[.int .i64 0, .int .i64 0] 33)) from (below_al HB_192.out _))
    have RN_208 := Lib.hid (RN_194.out.dk K)
    have RD_209 := Lib.hid (RD_195.out.dk K)
    clear K Ba_184 Bb_186 Bo_188 Bn_190 Bd_192 HB_192 RN_194 RD_195
    generalize w_183.alloc (.cells #[.int .i64 0, .int .i64 0] 33) = w3 at *
    have hz : ∀ j, j < 2 → w3.cell? ⟨w_183.heap.size, j, none⟩ = some (.int .i64 0) := fun j hj => by have h0 := Bl_206.out.cell; match j, hj with | 0, _ => exact h0 0 rfl | 1, _ => exact h0 1 rfl
    refine (first_zero _ _ 2 hz (by omega)).mono ?_
    rintro e w4 ⟨rfl, hb⟩
    have K := Dk.below hb
    have Ba_210 := Lib.hid (show Bk _ _ _ #[.bool t.q.b, .slice t.q.A t.q.n t.q.c, .slice t.A t.n t.c] from Ba_201.out.below hb)
    have Bb_211 := Lib.hid (show Bk _ _ _ #[.bool u.q.b, .slice u.q.A u.q.n u.q.c, .slice u.A u.n u.c] from Bb_202.out.below hb)
    have Bo_212 := Lib.hid (show Bk _ _ _ #[.bool false, .slice none 0 0, .slice none 0 0] from Bo_203.out.below hb)
    have Bn_213 := Lib.hid (show Bk _ _ _ #[.bool n.b, .slice n.A n.n n.c] from Bn_204.out.below hb)
    have Bd_214 := Lib.hid (show Bk _ _ _ #[.bool vd.b, .slice vd.A vd.n vd.c] from Bd_205.out.below hb)
    have Bl_215 := Lib.hid (show Bk _ _ _ #[.int .i64 0, .int .i64 0] from Bl_206.out.below hb)
    have HB_216 := Lib.hid (below_tr HB_207.out hb)
    clear hb
    have RN_217 := Lib.hid (RN_208.out.dk K)
    have RD_218 := Lib.hid (RD_209.out.dk K)
    clear K Ba_201 Bb_202 Bo_203 Bn_204 Bd_205 Bl_206 HB_207 RN_208 RD_209
    clear hz
    clear Bl_215
    have ln := Bn_213.out.lt
    obtain ⟨cn0, cn1⟩ := Bn_213.out.cells2
    have ld := Bd_214.out.lt
    obtain ⟨cd0, cd1⟩ := Bd_214.out.cells2
    go_wp2_with fail
    refine (rmake_any _ n vd (x.num * y.num) ((x.den : Int) * (y.den : Int)) RN_217.out RD_218.out (den_ne x y) (by have := (muln_lim LA.out LB.out).1; omega) (by have := (muln_lim LA.out LB.out).2; omega)).mono ?_
    rintro e w5 ⟨⟨r, rfl, hr⟩, hb⟩
    clear ln cn0 cn1 ld cd0 cd1
    have K := Dk.below hb
    have Ba_219 := Lib.hid (show Bk _ _ _ #[.bool t.q.b, .slice t.q.A t.q.n t.q.c, .slice t.A t.n t.c] from Ba_210.out.below hb)
    have Bb_220 := Lib.hid (show Bk _ _ _ #[.bool u.q.b, .slice u.q.A u.q.n u.q.c, .slice u.A u.n u.c] from Bb_211.out.below hb)
    have Bo_221 := Lib.hid (show Bk _ _ _ #[.bool false, .slice none 0 0, .slice none 0 0] from Bo_212.out.below hb)
    have Bn_222 := Lib.hid (show Bk _ _ _ #[.bool n.b, .slice n.A n.n n.c] from Bn_213.out.below hb)
    have Bd_223 := Lib.hid (show Bk _ _ _ #[.bool vd.b, .slice vd.A vd.n vd.c] from Bd_214.out.below hb)
    have HB_224 := Lib.hid (below_tr HB_216.out hb)
    clear hb
    have RN_225 := Lib.hid (RN_217.out.dk K)
    have RD_226 := Lib.hid (RD_218.out.dk K)
    clear K Ba_210 Bb_211 Bo_212 Bn_213 Bd_214 HB_216 RN_217 RD_218
    rw [mul_eq] at hr
    have RX_227 := Lib.hid hr
    clear hr
    have lo := Bo_221.out.lt
    obtain ⟨co0, co1, co2⟩ := Bo_221.out.cells3
    have fo0 := Bo_221.out.free 0
    have fo1 := Bo_221.out.free 1
    have fo2 := Bo_221.out.free 2
    go_wp2
    refine bodyPost_ret (v := .tuple #[.agg #[.bool r.q.b, .slice r.q.A r.q.n r.q.c, .slice r.A r.n r.c], .int .i64 0]) ?_ rfl ?_
    · simp [results, Try.f21, go_sem, co0, co1, co2]
    · have y0 := HB_224.out.size; exact ⟨⟨r, rfl, (RX_227.out.dk ((((Dk.refl _).set (cs := #[.bool false, .slice none 0 0, .slice none 0 0]) Bo_221.out 0 (by intro _ hh; cases hh) (.bool r.q.b)).set (cs := #[.bool r.q.b, .slice none 0 0, .slice none 0 0]) (Bo_221.out.set 0 (.bool r.q.b)) 1 (by intro _ hh; cases hh) (.slice r.q.A r.q.n r.q.c)).set (cs := #[.bool r.q.b, .slice r.q.A r.q.n r.q.c, .slice none 0 0]) ((Bo_221.out.set 0 (.bool r.q.b)).set 1 (.slice r.q.A r.q.n r.q.c)) 2 (by intro _ hh; cases hh) (.slice r.A r.n r.c)))⟩, (below_st (below_st (below_st HB_224.out 0 (by omega) (.bool r.q.b)) 1 (by omega) (.slice r.q.A r.q.n r.q.c)) 2 (by omega) (.slice r.A r.n r.c))⟩

end Go.Proofs.Ytgioppkggpfnoaa.Nu
end

section
/- A table on one list, with another one: from both sides: plain. No program in sight. -/
set_option linter.unusedVariables false
namespace Go.Proofs.Ytgioppkggpfnoaa.Nu

theorem dot_lim {a b : Nat → Rat} {p q : Nat} (k : Nat) (ha : ∀ i, i < k → RLim p (a i)) (hb : ∀ i, i < k → RLim q (b i)) : RLim (1 + k * (p + q + 1)) (dot a b k) := by
  induction k with
  | zero => exact rzero_lim _ (by omega)
  | succ k ih =>
    have h1 := ih (fun i hi => ha i (by omega)) (fun i hi => hb i (by omega))
    have h2 := radd_lim h1 (rmul_lim (ha k (by omega)) (hb k (by omega)))
    refine RLim.mono h2 ?_
    rw [Nat.succ_mul]
    omega
theorem dot_plus (a b d : Nat → Rat) (n : Nat) : dot (fun i => a i + b i) d n = dot a d n + dot b d n := by
  induction n with
  | zero => show (0 : Rat) = 0 + 0; rw [Rat.add_zero]
  | succ n ih =>
    show dot _ d n + _ = (dot a d n + _) + (dot b d n + _)
    rw [ih]
    grind
theorem dot_times (a d : Nat → Rat) (c : Rat) (n : Nat) : dot (fun i => a i * c) d n = dot a d n * c := by
  induction n with
  | zero => show (0 : Rat) = 0 * c; rw [Rat.zero_mul]
  | succ n ih =>
    show dot _ d n + _ = (dot a d n + _) * c
    rw [ih]
    grind
/-- A table on x, with y: as the table turned on y, with x. -/
theorem turn_law (a : Nat → Nat → Rat) (x y : Nat → Rat) (m n : Nat) : dot (fun i => dot (a i) x m) y n = dot x (fun j => dot (fun i => a i j) y n) m := by
  induction m with
  | zero =>
    show dot (fun _ => (0 : Rat)) y n = 0
    induction n with
    | zero => rfl
    | succ n ih =>
      show dot _ y n + 0 * _ = 0
      rw [ih]
      grind
  | succ m ih =>
    show dot (fun i => dot (a i) x m + a i m * x m) y n = dot x _ m + x m * dot (fun i => a i m) y n
    rw [dot_plus, ih, dot_times]
    grind
end Go.Proofs.Ytgioppkggpfnoaa.Nu
end
