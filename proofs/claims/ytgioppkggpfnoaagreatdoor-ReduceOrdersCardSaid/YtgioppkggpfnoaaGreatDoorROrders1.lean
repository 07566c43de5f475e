/- Texts of the seat, laid together: Orders. -/
import Derived.Test.YtgioppkggpfnoaaGreatDoorRd6
import Derived.RegionTactic
import Derived.StillTailTactics
import Derived.Deep.RegionHeld3
import Derived.Deep.DeepCutAuto
import Derived.Deep.CutBlock
set_option linter.all false
set_option exponentiation.threshold 20000
section
/- ReduceOrders: the walk of the law. -/
set_option linter.unusedVariables false
namespace Go.Proofs.YtgioppkggpfnoaaGreatDoor.Nu
open Go.RowKit Go.Proofs

set_option maxRecDepth 100000 in
set_option maxHeartbeats 4000000 in
theorem orders_any (w : World) (Ac Ag Ar : Option Addr) (nc nr m cc cg cr : Nat) (hc : RawD w Ac nc cc) (hg : RawR w Ag m cg) (hr : RawD w Ar nr cr) (hna : Ag = none → cg = 0) (dA : Option Addr) (nd dc : Nat) (hd : RawD w dA nd dc) (oi bi : Int) (ht : BTab w) :
    Calls Tryz.prog 3 #[.agg #[.slice Ac nc cc, .slice Ag m cg, .slice Ar nr cr], .slice dA nd dc, .agg #[.int .i64 oi, .int .i64 bi]] w fun e w' => e = .returned (.bool true) ∧ Below w.heap.size w w' := by
  have HC := Lib.hid hc
  have HG := Lib.hid hg
  have HR := Lib.hid hr
  have HNA := Lib.hid hna
  have HD := Lib.hid hd
  have HT := Lib.hid ht
  have hd62 := hd.2.1
  clear hc hg hr hna hd ht
  have BX := Lib.hid (boxes2 w 25 #[.slice Ac nc cc, .slice Ag m cg, .slice Ar nr cr] 26 #[.int .i64 oi, .int .i64 bi])
  go_enter Tryz.func3, Tryz.ntmps3
  go_wp2_with fail
  generalize (w.alloc (.cells #[.slice Ac nc cc, .slice Ag m cg, .slice Ar nr cr] 25)).alloc (.cells #[.int .i64 oi, .int .i64 bi] 26) = w0 at *
  obtain ⟨b0, b1, hw⟩ := BX.out
  have Bz_0 := Lib.hid b0
  have Bp_0 := Lib.hid b1
  have HB_0 := Lib.hid hw
  have K := Dk.below (hw.mono (Nat.le_refl _))
  clear BX hw b0 b1
  clear K
  go_wp2_with fail
  refine (fewer_any _ (HT.out.below HB_0.out)).mono ?_
  rintro e w1 ⟨rfl, hb⟩
  have K := Dk.below hb
  have Bz_1 := Lib.hid (show Bk _ _ _ #[.slice Ac nc cc, .slice Ag m cg, .slice Ar nr cr] from Bz_0.out.below hb)
  have Bp_2 := Lib.hid (show Bk _ _ _ #[.int .i64 oi, .int .i64 bi] from Bp_0.out.below hb)
  have HB_3 := Lib.hid (below_tr HB_0.out hb)
  clear hb
  clear K Bz_0 Bp_0 HB_0
  have lz := Bz_1.out.lt
  obtain ⟨cz0, cz1, cz2⟩ := Bz_1.out.cells3
  have lp := Bp_2.out.lt
  obtain ⟨cp0, cp1⟩ := Bp_2.out.cells2
  go_upto_region 3 with (fail)
  go_region
  clear lz cz0 cz1 cz2 lp cp0 cp1
  have lz := Bz_1.out.lt
  obtain ⟨cz0, cz1, cz2⟩ := Bz_1.out.cells3
  have lp := Bp_2.out.lt
  obtain ⟨cp0, cp1⟩ := Bp_2.out.cells2
  go_wp2_with fail
  refine (fit_any _ Ac Ag Ar nc cc m cg nr cr nd (HC.out.below (below_dr HB_3.out)) (HG.out.below (below_dr HB_3.out)) (HR.out.below (below_dr HB_3.out)) HNA.out hd62).mono ?_
  rintro e w2 ⟨rfl | ⟨rfl, hf⟩, hb⟩
  · clear lz cz0 cz1 cz2 lp cp0 cp1
    have K := Dk.trans ((Dk.refl _).drew) (.below hb)
    have Bz_4 := Lib.hid (show Bk _ _ _ #[.slice Ac nc cc, .slice Ag m cg, .slice Ar nr cr] from (Bz_1.out.drew).below hb)
    have Bp_5 := Lib.hid (show Bk _ _ _ #[.int .i64 oi, .int .i64 bi] from (Bp_2.out.drew).below hb)
    have HB_6 := Lib.hid (below_tr (below_dr HB_3.out) hb)
    clear hb
    clear K Bz_1 Bp_2 HB_3
    have lz := Bz_4.out.lt
    obtain ⟨cz0, cz1, cz2⟩ := Bz_4.out.cells3
    have lp := Bp_5.out.lt
    obtain ⟨cp0, cp1⟩ := Bp_5.out.cells2
    go_wp2
    go_ret
    exact ⟨rfl, HB_6.out⟩
  clear lz cz0 cz1 cz2 lp cp0 cp1
  have K := Dk.trans ((Dk.refl _).drew) (.below hb)
  have Bz_8 := Lib.hid (show Bk _ _ _ #[.slice Ac nc cc, .slice Ag m cg, .slice Ar nr cr] from (Bz_1.out.drew).below hb)
  have Bp_9 := Lib.hid (show Bk _ _ _ #[.int .i64 oi, .int .i64 bi] from (Bp_2.out.drew).below hb)
  have HB_10 := Lib.hid (below_tr (below_dr HB_3.out) hb)
  clear hb
  clear K Bz_1 Bp_2 HB_3
  have FA := Lib.hid hf
  clear hf HC HG HR
  have BASE_11 := Lib.hid (HB_10.out)
  replace HD := Lib.hid (HD.out.below HB_10.out)
  replace HT := Lib.hid (HT.out.below HB_10.out)
  clear HB_10
  have HB_12 := Lib.hid (show Below w2.heap.size w2 w2 from Below.refl _ _)
  obtain ⟨z, e1, e2, e3, rfl, hz, oz, lz, k1, k4, k7⟩ := FA.out
  clear FA
  obtain rfl : nd = nc := by omega
  obtain rfl : nd = nr := by omega
  have ez : z.n = nd := e3.symm
  clear e1 e2 e3
  have ZZ := Lib.hid hz
  have OZ := Lib.hid oz
  have LZ := Lib.hid lz
  have CZ := Lib.hid (rzo_can hz oz)
  clear hz oz lz
  have lz := Bz_8.out.lt
  obtain ⟨cz0, cz1, cz2⟩ := Bz_8.out.cells3
  have lp := Bp_9.out.lt
  obtain ⟨cp0, cp1⟩ := Bp_9.out.cells2
  go_wp2_with fail
  refine (small_any _ dA nd dc HD.out (by omega)).mono ?_
  rintro e w3 ⟨rfl | ⟨rfl, hs⟩, hb⟩
  · clear lz cz0 cz1 cz2 lp cp0 cp1
    have K := Dk.below hb
    have Bz_13 := Lib.hid (show Bk _ _ _ #[.slice Ac nd cc, .slice Ag z.m cg, .slice Ar nd cr] from Bz_8.out.below hb)
    have Bp_14 := Lib.hid (show Bk _ _ _ #[.int .i64 oi, .int .i64 bi] from Bp_9.out.below hb)
    have HB_15 := Lib.hid (below_tr HB_12.out hb)
    clear hb
    clear K Bz_8 Bp_9 HB_12
    have lz := Bz_13.out.lt
    obtain ⟨cz0, cz1, cz2⟩ := Bz_13.out.cells3
    have lp := Bp_14.out.lt
    obtain ⟨cp0, cp1⟩ := Bp_14.out.cells2
    go_wp2
    go_ret
    exact ⟨rfl, below_tr BASE_11.out HB_15.out⟩
  clear lz cz0 cz1 cz2 lp cp0 cp1
  have K := Dk.below hb
  have Bz_17 := Lib.hid (show Bk _ _ _ #[.slice Ac nd cc, .slice Ag z.m cg, .slice Ar nd cr] from Bz_8.out.below hb)
  have Bp_18 := Lib.hid (show Bk _ _ _ #[.int .i64 oi, .int .i64 bi] from Bp_9.out.below hb)
  have HB_19 := Lib.hid (below_tr HB_12.out hb)
  clear hb
  clear K Bz_8 Bp_9 HB_12
  have SD := Lib.hid hs
  clear hs HD
  have BASE_20 := Lib.hid (below_tr BASE_11.out HB_19.out)
  replace ZZ := Lib.hid (ZZ.out.below HB_19.out)
  replace HT := Lib.hid (HT.out.below HB_19.out)
  replace SD := Lib.hid (SD.out.below HB_19.out)
  clear HB_19 BASE_11
  have HB_21 := Lib.hid (show Below w3.heap.size w3 w3 from Below.refl _ _)
  obtain ⟨f, hf, hl⟩ := SD.out
  have DR := Lib.hid hf
  have LD := Lib.hid (fun (i : Nat) (hi : i < nd) => (hl i hi).2)
  clear hf hl SD
  have LDz := Lib.hid (fun (i : Nat) (hi : i < z.n) => LD.out i (by rw [← ez]; exact hi))
  have lz := Bz_17.out.lt
  obtain ⟨cz0, cz1, cz2⟩ := Bz_17.out.cells3
  have lp := Bp_18.out.lt
  obtain ⟨cp0, cp1⟩ := Bp_18.out.cells2
  by_cases hb8 : bi < 8
  · go_wp2
    go_ret
    exact ⟨rfl, below_tr BASE_20.out HB_21.out⟩
  by_cases hb9 : 100 < bi
  · go_wp2
    go_ret
    exact ⟨rfl, below_tr BASE_20.out HB_21.out⟩
  obtain ⟨b, rfl⟩ : ∃ b : Nat, bi = b := ⟨bi.toNat, by omega⟩
  have bb1 : 8 ≤ b := by omega
  have bb2 : b ≤ 100 := by omega
  by_cases ha0 : oi < 0
  · have HBAD := Lib.hid (show oi < 0 ∨ 64 < oi from .inl ha0)
    go_wp2_with fail
    refine (order_bad _ _ _ _ oi b HBAD.out).mono ?_
    rintro e w4 ⟨rfl, hb⟩
    clear lz cz0 cz1 cz2 lp cp0 cp1
    have K := Dk.below hb
    have Bz_24 := Lib.hid (show Bk _ _ _ #[.slice Ac nd cc, .slice Ag z.m cg, .slice Ar nd cr] from Bz_17.out.below hb)
    have Bp_25 := Lib.hid (show Bk _ _ _ #[.int .i64 oi, .int .i64 b] from Bp_18.out.below hb)
    have HB_26 := Lib.hid (below_tr HB_21.out hb)
    clear hb
    clear K Bz_17 Bp_18 HB_21
    have lz := Bz_24.out.lt
    obtain ⟨cz0, cz1, cz2⟩ := Bz_24.out.cells3
    have lp := Bp_25.out.lt
    obtain ⟨cp0, cp1⟩ := Bp_25.out.cells2
    go_wp2
    go_ret
    exact ⟨rfl, below_al (below_tr BASE_20.out HB_26.out) _⟩
  by_cases ha6 : 64 < oi
  · have HBAD := Lib.hid (show oi < 0 ∨ 64 < oi from .inr ha6)
    go_wp2_with fail
    refine (order_bad _ _ _ _ oi b HBAD.out).mono ?_
    rintro e w4 ⟨rfl, hb⟩
    clear lz cz0 cz1 cz2 lp cp0 cp1
    have K := Dk.below hb
    have Bz_28 := Lib.hid (show Bk _ _ _ #[.slice Ac nd cc, .slice Ag z.m cg, .slice Ar nd cr] from Bz_17.out.below hb)
    have Bp_29 := Lib.hid (show Bk _ _ _ #[.int .i64 oi, .int .i64 b] from Bp_18.out.below hb)
    have HB_30 := Lib.hid (below_tr HB_21.out hb)
    clear hb
    clear K Bz_17 Bp_18 HB_21
    have lz := Bz_28.out.lt
    obtain ⟨cz0, cz1, cz2⟩ := Bz_28.out.cells3
    have lp := Bp_29.out.lt
    obtain ⟨cp0, cp1⟩ := Bp_29.out.cells2
    go_wp2
    go_ret
    exact ⟨rfl, below_al (below_tr BASE_20.out HB_30.out) _⟩
  obtain ⟨o, rfl⟩ : ∃ o : Nat, oi = o := ⟨oi.toNat, by omega⟩
  have oo : o ≤ 64 := by omega
  go_wp2_with fail
  refine (order_at _ Ac Ag Ar cc cg cr z nd o b 60 124 ez (ZZ.out.below HB_21.out) HNA.out LZ.out oo (by omega) (by omega) (by omega) (by omega) (by omega) (HT.out.below HB_21.out)).mono ?_
  rintro e w4 ⟨⟨Am, cm, Rm, rm, rfl, hz, hnm⟩, hb⟩
  clear lz cz0 cz1 cz2 lp cp0 cp1
  have K := Dk.below hb
  have Bz_32 := Lib.hid (show Bk _ _ _ #[.slice Ac nd cc, .slice Ag z.m cg, .slice Ar nd cr] from Bz_17.out.below hb)
  have Bp_33 := Lib.hid (show Bk _ _ _ #[.int .i64 o, .int .i64 b] from Bp_18.out.below hb)
  have HB_34 := Lib.hid (below_tr HB_21.out hb)
  clear hb
  clear K Bz_17 Bp_18 HB_21
  have ZM := Lib.hid hz
  have HNM := Lib.hid hnm
  clear hz hnm
  have BASE_35 := Lib.hid (below_tr BASE_20.out HB_34.out)
  replace ZZ := Lib.hid (ZZ.out.below HB_34.out)
  replace HT := Lib.hid (HT.out.below HB_34.out)
  replace DR := Lib.hid (DR.out.below HB_34.out)
  clear HB_34 BASE_20
  have HB_36 := Lib.hid (show Below w4.heap.size w4 w4 from Below.refl _ _)
  have LM := Lib.hid (show (lowZ z o b).Lim 60 160 from (lowZ_lim LZ.out o b).mono' (by omega) (by omega))
  have hmm : (lowZ z o b).m ≤ z.m := (lowZ_m z o b).1
  obtain ⟨kp, hkp⟩ : ∃ kp : Nat, kp = o * nd := ⟨_, rfl⟩
  have hmk : (lowZ z o b).m ≤ kp := by rw [hkp, ← ez]; exact (lowZ_m z o b).2
  have en : (lowZ z o b).n = nd := by rw [lowZ_n]; exact ez
  have kp6 : kp ≤ 1000000 := by rw [hkp]; exact Nat.le_trans (Nat.mul_le_mul oo k4) (by omega)
  have q20 : (o : Int) * (nd : Int) = (kp : Int) := by rw [hkp]; simp
  have q21 : IntKind.i64.wrap (kp : Int) = (kp : Int) := by rw [IntKind.wrap_i64]; omega
  have HKP := Lib.hid hkp
  clear hkp
  have OM := Lib.hid (lim_zok (z := (lowZ z o b)) (by omega) (by omega) LM.out (lowZ_can CZ.out o b) (by omega))
  have q22 : ¬ (kp : Int) < ((lowZ z o b).m : Int) := by omega
  have lz := Bz_32.out.lt
  obtain ⟨cz0, cz1, cz2⟩ := Bz_32.out.cells3
  have lp := Bp_33.out.lt
  obtain ⟨cp0, cp1⟩ := Bp_33.out.cells2
  have n_37 := Bz_32.out.lt
  have n_38 := Bp_33.out.lt
  go_wp2_with fail
  refine (far_at _ Ac Ag Ar cc cg cr z nd dA dc f 60 160 60 124 ez (ZZ.out.below (below_al HB_36.out _)) (DR.out.below (below_al HB_36.out _)) (LZ.out.mono' (by omega) (by omega)) LD.out (by omega) (HT.out.below (below_al HB_36.out _))).mono ?_
  rintro e w5 ⟨⟨p, rfl, hp⟩, hb⟩
  clear lz cz0 cz1 cz2 lp cp0 cp1
  have K := Dk.trans ((Dk.refl _).alloc _) (.below hb)
  have Bz_39 := Lib.hid (show Bk _ _ _ #[.slice Ac nd cc, .slice Ag z.m cg, .slice Ar nd cr] from (Bz_32.out.alloc _).below hb)
  have Bp_40 := Lib.hid (show Bk _ _ _ #[.int .i64 o, .int .i64 b] from (Bp_33.out.alloc _).below hb)
  have Bm_41 := Lib.hid (show Bk _ _ _ #[.slice Ac nd cc, .slice Am (lowZ z o b).m cm, .slice Rm nd rm] from (Bk.new _ 25 #[.slice Ac nd cc, .slice Am (lowZ z o b).m cm, .slice Rm nd rm]).below hb)
  have HB_42 := Lib.hid (below_tr (below_al HB_36.out _) hb)
  clear hb
  clear K Bz_32 Bp_33 HB_36
  have RP_43 := Lib.hid hp
  clear hp
  have lz := Bz_39.out.lt
  obtain ⟨cz0, cz1, cz2⟩ := Bz_39.out.cells3
  have lp := Bp_40.out.lt
  obtain ⟨cp0, cp1⟩ := Bp_40.out.cells2
  have lm := Bm_41.out.lt
  obtain ⟨cm0, cm1, cm2⟩ := Bm_41.out.cells3
  have n_44 := Bz_39.out.lt
  have n_45 := Bp_40.out.lt
  have n_46 := Bm_41.out.lt
  go_wp2_with fail
  refine (far_at _ Ac Am Rm cc cm rm (lowZ z o b) nd dA dc f 60 160 60 124 en (ZM.out.below (below_al HB_42.out _)) (DR.out.below (below_al HB_42.out _)) LM.out LD.out (by omega) (HT.out.below (below_al HB_42.out _))).mono ?_
  rintro e w6 ⟨⟨q, rfl, hq⟩, hb⟩
  clear lz cz0 cz1 cz2 lp cp0 cp1 lm cm0 cm1 cm2
  have K := Dk.trans ((Dk.refl _).alloc _) (.below hb)
  have Bz_47 := Lib.hid (show Bk _ _ _ #[.slice Ac nd cc, .slice Ag z.m cg, .slice Ar nd cr] from (Bz_39.out.alloc _).below hb)
  have Bp_48 := Lib.hid (show Bk _ _ _ #[.int .i64 o, .int .i64 b] from (Bp_40.out.alloc _).below hb)
  have Bm_49 := Lib.hid (show Bk _ _ _ #[.slice Ac nd cc, .slice Am (lowZ z o b).m cm, .slice Rm nd rm] from (Bm_41.out.alloc _).below hb)
  have Bx_50 := Lib.hid (show Bk _ _ _ #[.bool p.b, .slice p.A p.n p.c, .int .i64 (z.sup (pts f) 2000).x] from (Bk.new _ 38 #[.bool p.b, .slice p.A p.n p.c, .int .i64 (z.sup (pts f) 2000).x]).below hb)
  have HB_51 := Lib.hid (below_tr (below_al HB_42.out _) hb)
  clear hb
  have RP_52 := Lib.hid (RP_43.out.dk K)
  clear K Bz_39 Bp_40 Bm_41 HB_42 RP_43
  have RQ_53 := Lib.hid hq
  clear hq
  have lz := Bz_47.out.lt
  obtain ⟨cz0, cz1, cz2⟩ := Bz_47.out.cells3
  have lp := Bp_48.out.lt
  obtain ⟨cp0, cp1⟩ := Bp_48.out.cells2
  have lm := Bm_49.out.lt
  obtain ⟨cm0, cm1, cm2⟩ := Bm_49.out.cells3
  have lx := Bx_50.out.lt
  obtain ⟨cx0, cx1, cx2⟩ := Bx_50.out.cells3
  have n_54 := Bz_47.out.lt
  have n_55 := Bp_48.out.lt
  have n_56 := Bm_49.out.lt
  have n_57 := Bx_50.out.lt
  go_upto_region 11 with (fail)
  clear lz cz0 cz1 cz2 lp cp0 cp1 lm cm0 cm1 cm2 lx cx0 cx1 cx2
  have K : Dk w6 (w6.alloc (.cells #[.bool q.b, .slice q.A q.n q.c, .int .i64 ((lowZ z o b).sup (pts f) 2000).x] 38)) := ((Dk.refl _).alloc _)
  have Bz_58 := Lib.hid (show Bk (w6.alloc (.cells #[.bool q.b, .slice q.A q.n q.c, .int .i64 ((lowZ z o b).sup (pts f) 2000).x] 38)) (w.heap.size) 25 #[.slice Ac nd cc, .slice Ag z.m cg, .slice Ar nd cr] from (Bz_47.out.alloc _))
  have Bp_59 := Lib.hid (show Bk (w6.alloc (.cells #[.bool q.b, .slice q.A q.n q.c, .int .i64 ((lowZ z o b).sup (pts f) 2000).x] 38)) (w.heap.size + 1) 26 #[.int .i64 o, .int .i64 b] from (Bp_48.out.alloc _))
  have Bm_60 := Lib.hid (show Bk (w6.alloc (.cells #[.bool q.b, .slice q.A q.n q.c, .int .i64 ((lowZ z o b).sup (pts f) 2000).x] 38)) (w4.heap.size) 25 #[.slice Ac nd cc, .slice Am (lowZ z o b).m cm, .slice Rm nd rm] from (Bm_49.out.alloc _))
  have Bx_61 := Lib.hid (show Bk (w6.alloc (.cells #[.bool q.b, .slice q.A q.n q.c, .int .i64 ((lowZ z o b).sup (pts f) 2000).x] 38)) (w5.heap.size) 38 #[.bool p.b, .slice p.A p.n p.c, .int .i64 (z.sup (pts f) 2000).x] from (Bx_50.out.alloc _))
  have By_62 := Lib.hid (show Bk (w6.alloc (.cells #[.bool q.b, .slice q.A q.n q.c, .int .i64 ((lowZ z o b).sup (pts f) 2000).x] 38)) (w6.heap.size) 38 #[.bool q.b, .slice q.A q.n q.c, .int .i64 ((lowZ z o b).sup (pts f) 2000).x] from (Bk.new _ 38 #[.bool q.b, .slice q.A q.n q.c, .int .i64 ((lowZ z o b).sup (pts f) 2000).x]))
  have HB_63 := Lib.hid (show Below w4.heap.size w4 (w6.alloc (.cells #[.bool q.b, .slice q.A q.n q.c, .int .i64 ((lowZ z o b).sup (pts f) 2000).x] 38)) from (below_al HB_51.out _))
  have RP_64 := Lib.hid (RP_52.out.dk K)
  have RQ_65 := Lib.hid (RQ_53.out.dk K)
  clear K Bz_47 Bp_48 Bm_49 Bx_50 HB_51 RP_52 RQ_53
  generalize w6.alloc (.cells #[.bool q.b, .slice q.A q.n q.c, .int .i64 ((lowZ z o b).sup (pts f) 2000).x] 38) = w7 at *
  have lz := Bz_58.out.lt
  obtain ⟨cz0, cz1, cz2⟩ := Bz_58.out.cells3
  have lp := Bp_59.out.lt
  obtain ⟨cp0, cp1⟩ := Bp_59.out.cells2
  have lm := Bm_60.out.lt
  obtain ⟨cm0, cm1, cm2⟩ := Bm_60.out.cells3
  have lx := Bx_61.out.lt
  obtain ⟨cx0, cx1, cx2⟩ := Bx_61.out.cells3
  have ly := By_62.out.lt
  obtain ⟨cy0, cy1, cy2⟩ := By_62.out.cells3
  have LDl := Lib.hid (fun (i : Nat) (hi : i < (lowZ z o b).n) => LD.out i (by rw [← en]; exact hi))
  have LX := Lib.hid (sup_limR (LZ.out.mono' (by omega) (by omega)) (by omega) (by omega) LDz.out)
  have LY := Lib.hid (sup_limR (z := (lowZ z o b)) LM.out (by omega) (by omega) LDl.out)
  have F1 := Lib.hid (farR (LZ.out.mono' (by omega) (by omega)) (by omega) (by omega) LDz.out)
  have F2 := Lib.hid (farR (z := (lowZ z o b)) LM.out (by omega) (by omega) LDl.out)
  have N1 := Lib.hid (show decide (((lowZ z o b).sup (pts f) 2000).cmp (z.sup (pts f) 2000) < 0) = false from not_less (by rw [F1.out, F2.out]; exact lowZ_far z o b _))
  go_wp2_with fail
  refine (zcheck_at _ Ac Am Rm cc cm rm (lowZ z o b) nd en (ZM.out.below HB_63.out) OM.out HNM.out).mono ?_
  rintro e w8 ⟨rfl, hb⟩
  clear lz cz0 cz1 cz2 lp cp0 cp1 lm cm0 cm1 cm2 lx cx0 cx1 cx2 ly cy0 cy1 cy2
  have K := Dk.below hb
  have Bz_66 := Lib.hid (show Bk _ _ _ #[.slice Ac nd cc, .slice Ag z.m cg, .slice Ar nd cr] from Bz_58.out.below hb)
  have Bp_67 := Lib.hid (show Bk _ _ _ #[.int .i64 o, .int .i64 b] from Bp_59.out.below hb)
  have Bm_68 := Lib.hid (show Bk _ _ _ #[.slice Ac nd cc, .slice Am (lowZ z o b).m cm, .slice Rm nd rm] from Bm_60.out.below hb)
  have Bx_69 := Lib.hid (show Bk _ _ _ #[.bool p.b, .slice p.A p.n p.c, .int .i64 (z.sup (pts f) 2000).x] from Bx_61.out.below hb)
  have By_70 := Lib.hid (show Bk _ _ _ #[.bool q.b, .slice q.A q.n q.c, .int .i64 ((lowZ z o b).sup (pts f) 2000).x] from By_62.out.below hb)
  have HB_71 := Lib.hid (below_tr HB_63.out hb)
  clear hb
  have RP_72 := Lib.hid (RP_64.out.dk K)
  have RQ_73 := Lib.hid (RQ_65.out.dk K)
  clear K Bz_58 Bp_59 Bm_60 Bx_61 By_62 HB_63 RP_64 RQ_65
  have lz := Bz_66.out.lt
  obtain ⟨cz0, cz1, cz2⟩ := Bz_66.out.cells3
  have lp := Bp_67.out.lt
  obtain ⟨cp0, cp1⟩ := Bp_67.out.cells2
  have lm := Bm_68.out.lt
  obtain ⟨cm0, cm1, cm2⟩ := Bm_68.out.cells3
  have lx := Bx_69.out.lt
  obtain ⟨cx0, cx1, cx2⟩ := Bx_69.out.cells3
  have ly := By_70.out.lt
  obtain ⟨cy0, cy1, cy2⟩ := By_70.out.cells3
  go_wp2_with fail
  refine (dless_is _ q p ((lowZ z o b).sup (pts f) 2000) (z.sup (pts f) 2000) 121 330 false RQ_73.out RP_72.out LY.out LX.out (by omega) N1.out).mono ?_
  rintro e w9 ⟨rfl, hb⟩
  clear lz cz0 cz1 cz2 lp cp0 cp1 lm cm0 cm1 cm2 lx cx0 cx1 cx2 ly cy0 cy1 cy2
  have K := Dk.below hb
  have Bz_74 := Lib.hid (show Bk _ _ _ #[.slice Ac nd cc, .slice Ag z.m cg, .slice Ar nd cr] from Bz_66.out.below hb)
  have Bp_75 := Lib.hid (show Bk _ _ _ #[.int .i64 o, .int .i64 b] from Bp_67.out.below hb)
  have Bm_76 := Lib.hid (show Bk _ _ _ #[.slice Ac nd cc, .slice Am (lowZ z o b).m cm, .slice Rm nd rm] from Bm_68.out.below hb)
  have Bx_77 := Lib.hid (show Bk _ _ _ #[.bool p.b, .slice p.A p.n p.c, .int .i64 (z.sup (pts f) 2000).x] from Bx_69.out.below hb)
  have By_78 := Lib.hid (show Bk _ _ _ #[.bool q.b, .slice q.A q.n q.c, .int .i64 ((lowZ z o b).sup (pts f) 2000).x] from By_70.out.below hb)
  have HB_79 := Lib.hid (below_tr HB_71.out hb)
  clear hb
  have RP_80 := Lib.hid (RP_72.out.dk K)
  have RQ_81 := Lib.hid (RQ_73.out.dk K)
  clear K Bz_66 Bp_67 Bm_68 Bx_69 By_70 HB_71 RP_72 RQ_73
  have lz := Bz_74.out.lt
  obtain ⟨cz0, cz1, cz2⟩ := Bz_74.out.cells3
  have lp := Bp_75.out.lt
  obtain ⟨cp0, cp1⟩ := Bp_75.out.cells2
  have lm := Bm_76.out.lt
  obtain ⟨cm0, cm1, cm2⟩ := Bm_76.out.cells3
  have lx := Bx_77.out.lt
  obtain ⟨cx0, cx1, cx2⟩ := Bx_77.out.cells3
  have ly := By_78.out.lt
  obtain ⟨cy0, cy1, cy2⟩ := By_78.out.cells3
  by_cases hkm : kp < z.m
  · have q23 : (kp : Int) < (z.m : Int) := by omega
    go_wp2
    go_ret
    exact ⟨rfl, below_tr BASE_35.out HB_79.out⟩
  · have q23 : ¬ (kp : Int) < (z.m : Int) := by omega
    have es : (lowZ z o b) = z := lowZ_same b (by rw [ez, ← HKP.out]; omega)
    have q24 : (((lowZ z o b).m : Int) == (z.m : Int)) = true := by rw [es]; exact beq_self_eq_true _
    have N2 := Lib.hid (show (z.sup (pts f) 2000).cmp ((lowZ z o b).sup (pts f) 2000) = 0 from cmp_zero_iff.2 (by rw [es]))
    clear es
    go_wp2_with fail
    refine (dcompare_is _ p q (z.sup (pts f) 2000) ((lowZ z o b).sup (pts f) 2000) 121 330 0 RP_80.out RQ_81.out LX.out LY.out (by omega) N2.out).mono ?_
    rintro e w10 ⟨rfl, hb⟩
    clear lz cz0 cz1 cz2 lp cp0 cp1 lm cm0 cm1 cm2 lx cx0 cx1 cx2 ly cy0 cy1 cy2
    have K := Dk.below hb
    have Bz_132 := Lib.hid (show Bk _ _ _ #[.slice Ac nd cc, .slice Ag z.m cg, .slice Ar nd cr] from Bz_74.out.below hb)
    have Bp_133 := Lib.hid (show Bk _ _ _ #[.int .i64 o, .int .i64 b] from Bp_75.out.below hb)
    have Bm_134 := Lib.hid (show Bk _ _ _ #[.slice Ac nd cc, .slice Am (lowZ z o b).m cm, .slice Rm nd rm] from Bm_76.out.below hb)
    have Bx_135 := Lib.hid (show Bk _ _ _ #[.bool p.b, .slice p.A p.n p.c, .int .i64 (z.sup (pts f) 2000).x] from Bx_77.out.below hb)
    have By_136 := Lib.hid (show Bk _ _ _ #[.bool q.b, .slice q.A q.n q.c, .int .i64 ((lowZ z o b).sup (pts f) 2000).x] from By_78.out.below hb)
    have HB_137 := Lib.hid (below_tr HB_79.out hb)
    clear hb
    have RP_138 := Lib.hid (RP_80.out.dk K)
    have RQ_139 := Lib.hid (RQ_81.out.dk K)
    clear K Bz_74 Bp_75 Bm_76 Bx_77 By_78 HB_79 RP_80 RQ_81
    go_wp2
    go_ret
    exact ⟨rfl, below_tr BASE_35.out HB_137.out⟩

end Go.Proofs.YtgioppkggpfnoaaGreatDoor.Nu
end
