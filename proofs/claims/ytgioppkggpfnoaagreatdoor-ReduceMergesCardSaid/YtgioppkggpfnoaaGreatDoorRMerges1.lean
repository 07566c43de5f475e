/- Texts of the seat, laid together: Merges. -/
import Derived.Test.YtgioppkggpfnoaaGreatDoorRd6
import Derived.RegionTactic
import Derived.StillTailTactics
import Derived.Deep.RegionHeld3
import Derived.Deep.DeepCutAuto
import Derived.Deep.CutBlock
set_option linter.all false
set_option exponentiation.threshold 20000
section
/- ReduceMerges: the walk of the law. -/
set_option linter.unusedVariables false
namespace Go.Proofs.YtgioppkggpfnoaaGreatDoor.Nu
open Go.RowKit Go.Proofs

set_option maxRecDepth 100000 in
set_option maxHeartbeats 4000000 in
theorem merges_any (w : World) (Ac Ag Ar : Option Addr) (nc nr m cc cg cr : Nat) (hc : RawD w Ac nc cc) (hg : RawR w Ag m cg) (hr : RawD w Ar nr cr) (hna : Ag = none → cg = 0) (dA : Option Addr) (nd dc : Nat) (hd : RawD w dA nd dc) (ht : BTab w) :
    Calls Tryz.prog 4 #[.agg #[.slice Ac nc cc, .slice Ag m cg, .slice Ar nr cr], .slice dA nd dc] w fun e w' => e = .returned (.bool true) ∧ Below w.heap.size w w' := by
  have HC := Lib.hid hc
  have HG := Lib.hid hg
  have HR := Lib.hid hr
  have HNA := Lib.hid hna
  have HD := Lib.hid hd
  have HT := Lib.hid ht
  have hd62 := hd.2.1
  clear hc hg hr hna hd ht
  have BX := Lib.hid (boxes1 w 25 #[.slice Ac nc cc, .slice Ag m cg, .slice Ar nr cr])
  go_enter Tryz.func4, Tryz.ntmps4
  go_wp2_with fail
  generalize w.alloc (.cells #[.slice Ac nc cc, .slice Ag m cg, .slice Ar nr cr] 25) = w0 at *
  obtain ⟨b0, hw⟩ := BX.out
  have Bz_0 := Lib.hid b0
  have HB_0 := Lib.hid hw
  have K := Dk.below (hw.mono (Nat.le_refl _))
  clear BX hw b0
  clear K
  go_wp2_with fail
  refine (fewer_any _ (HT.out.below HB_0.out)).mono ?_
  rintro e w1 ⟨rfl, hb⟩
  have K := Dk.below hb
  have Bz_1 := Lib.hid (show Bk _ _ _ #[.slice Ac nc cc, .slice Ag m cg, .slice Ar nr cr] from Bz_0.out.below hb)
  have HB_2 := Lib.hid (below_tr HB_0.out hb)
  clear hb
  clear K Bz_0 HB_0
  have lz := Bz_1.out.lt
  obtain ⟨cz0, cz1, cz2⟩ := Bz_1.out.cells3
  go_wp2_with fail
  refine (fit_any _ Ac Ag Ar nc cc m cg nr cr nd (HC.out.below HB_2.out) (HG.out.below HB_2.out) (HR.out.below HB_2.out) HNA.out hd62).mono ?_
  rintro e w2 ⟨rfl | ⟨rfl, hf⟩, hb⟩
  · clear lz cz0 cz1 cz2
    have K := Dk.below hb
    have Bz_3 := Lib.hid (show Bk _ _ _ #[.slice Ac nc cc, .slice Ag m cg, .slice Ar nr cr] from Bz_1.out.below hb)
    have HB_4 := Lib.hid (below_tr HB_2.out hb)
    clear hb
    clear K Bz_1 HB_2
    have lz := Bz_3.out.lt
    obtain ⟨cz0, cz1, cz2⟩ := Bz_3.out.cells3
    go_wp2
    go_ret
    exact ⟨rfl, HB_4.out⟩
  clear lz cz0 cz1 cz2
  have K := Dk.below hb
  have Bz_6 := Lib.hid (show Bk _ _ _ #[.slice Ac nc cc, .slice Ag m cg, .slice Ar nr cr] from Bz_1.out.below hb)
  have HB_7 := Lib.hid (below_tr HB_2.out hb)
  clear hb
  clear K Bz_1 HB_2
  have FA := Lib.hid hf
  clear hf HC HG HR
  have BASE_8 := Lib.hid (HB_7.out)
  replace HD := Lib.hid (HD.out.below HB_7.out)
  replace HT := Lib.hid (HT.out.below HB_7.out)
  clear HB_7
  have HB_9 := Lib.hid (show Below w2.heap.size w2 w2 from Below.refl _ _)
  obtain ⟨z, e1, e2, e3, rfl, hz, oz, lz, k1, k4, k7⟩ := FA.out
  clear FA
  obtain rfl : nd = nc := by omega
  obtain rfl : nd = nr := by omega
  have ez : z.n = nd := e3.symm
  clear e1 e2 e3
  have ZZ := Lib.hid hz
  have OZ := Lib.hid oz
  have LZ := Lib.hid lz
  have CZ := Lib.hid (rzo_can hz oz)
  clear hz oz lz
  have lz := Bz_6.out.lt
  obtain ⟨cz0, cz1, cz2⟩ := Bz_6.out.cells3
  go_wp2_with fail
  refine (small_any _ dA nd dc HD.out (by omega)).mono ?_
  rintro e w3 ⟨rfl | ⟨rfl, hs⟩, hb⟩
  · clear lz cz0 cz1 cz2
    have K := Dk.below hb
    have Bz_10 := Lib.hid (show Bk _ _ _ #[.slice Ac nd cc, .slice Ag z.m cg, .slice Ar nd cr] from Bz_6.out.below hb)
    have HB_11 := Lib.hid (below_tr HB_9.out hb)
    clear hb
    clear K Bz_6 HB_9
    have lz := Bz_10.out.lt
    obtain ⟨cz0, cz1, cz2⟩ := Bz_10.out.cells3
    go_wp2
    go_ret
    exact ⟨rfl, below_tr BASE_8.out HB_11.out⟩
  clear lz cz0 cz1 cz2
  have K := Dk.below hb
  have Bz_13 := Lib.hid (show Bk _ _ _ #[.slice Ac nd cc, .slice Ag z.m cg, .slice Ar nd cr] from Bz_6.out.below hb)
  have HB_14 := Lib.hid (below_tr HB_9.out hb)
  clear hb
  clear K Bz_6 HB_9
  have SD := Lib.hid hs
  clear hs HD
  have BASE_15 := Lib.hid (below_tr BASE_8.out HB_14.out)
  replace ZZ := Lib.hid (ZZ.out.below HB_14.out)
  replace HT := Lib.hid (HT.out.below HB_14.out)
  replace SD := Lib.hid (SD.out.below HB_14.out)
  clear HB_14 BASE_8
  have HB_16 := Lib.hid (show Below w3.heap.size w3 w3 from Below.refl _ _)
  obtain ⟨f, hf, hl⟩ := SD.out
  have DR := Lib.hid hf
  have LD := Lib.hid (fun (i : Nat) (hi : i < nd) => (hl i hi).2)
  clear hf hl SD
  have LDz := Lib.hid (fun (i : Nat) (hi : i < z.n) => LD.out i (by rw [← ez]; exact hi))
  have lz := Bz_13.out.lt
  obtain ⟨cz0, cz1, cz2⟩ := Bz_13.out.cells3
  go_wp2_with fail
  refine (merge_at _ Ac Ag Ar cc cg cr z nd 500 60 124 ez (ZZ.out.below HB_16.out) LZ.out (by omega) (by omega) (by omega) (by omega) (HT.out.below HB_16.out)).mono ?_
  rintro e w4 ⟨⟨Am, cm, Rm, rm, rfl, hz, hnm⟩, hb⟩
  clear lz cz0 cz1 cz2
  have K := Dk.below hb
  have Bz_17 := Lib.hid (show Bk _ _ _ #[.slice Ac nd cc, .slice Ag z.m cg, .slice Ar nd cr] from Bz_13.out.below hb)
  have HB_18 := Lib.hid (below_tr HB_16.out hb)
  clear hb
  clear K Bz_13 HB_16
  have ZM := Lib.hid hz
  have HNM := Lib.hid hnm
  clear hz hnm
  have BASE_19 := Lib.hid (below_tr BASE_15.out HB_18.out)
  replace ZZ := Lib.hid (ZZ.out.below HB_18.out)
  replace HT := Lib.hid (HT.out.below HB_18.out)
  replace DR := Lib.hid (DR.out.below HB_18.out)
  clear HB_18 BASE_15
  have HB_20 := Lib.hid (show Below w4.heap.size w4 w4 from Below.refl _ _)
  have LM := Lib.hid (show (mergeZ z 500).Lim 60 160 from (mergeZ_lim LZ.out 500).mono' (by omega) (by omega))
  have hmm : (mergeZ z 500).m ≤ z.m := merge_le z 500 z.m
  have en : (mergeZ z 500).n = nd := ez
  have OM := Lib.hid (lim_zok (z := (mergeZ z 500)) (by omega) (by omega) LM.out (mergeZ_can CZ.out 500) (by omega))
  have q20 : ¬ (z.m : Int) < ((mergeZ z 500).m : Int) := by omega
  have lz := Bz_17.out.lt
  obtain ⟨cz0, cz1, cz2⟩ := Bz_17.out.cells3
  have n_21 := Bz_17.out.lt
  go_wp2_with fail
  refine (far_at _ Ac Ag Ar cc cg cr z nd dA dc f 60 160 60 124 ez (ZZ.out.below (below_al HB_20.out _)) (DR.out.below (below_al HB_20.out _)) (LZ.out.mono' (by omega) (by omega)) LD.out (by omega) (HT.out.below (below_al HB_20.out _))).mono ?_
  rintro e w5 ⟨⟨p, rfl, hp⟩, hb⟩
  clear lz cz0 cz1 cz2
  have K := Dk.trans ((Dk.refl _).alloc _) (.below hb)
  have Bz_22 := Lib.hid (show Bk _ _ _ #[.slice Ac nd cc, .slice Ag z.m cg, .slice Ar nd cr] from (Bz_17.out.alloc _).below hb)
  have Bm_23 := Lib.hid (show Bk _ _ _ #[.slice Ac nd cc, .slice Am (mergeZ z 500).m cm, .slice Rm nd rm] from (Bk.new _ 25 #[.slice Ac nd cc, .slice Am (mergeZ z 500).m cm, .slice Rm nd rm]).below hb)
  have HB_24 := Lib.hid (below_tr (below_al HB_20.out _) hb)
  clear hb
  clear K Bz_17 HB_20
  have RP_25 := Lib.hid hp
  clear hp
  have lz := Bz_22.out.lt
  obtain ⟨cz0, cz1, cz2⟩ := Bz_22.out.cells3
  have lm := Bm_23.out.lt
  obtain ⟨cm0, cm1, cm2⟩ := Bm_23.out.cells3
  have n_26 := Bz_22.out.lt
  have n_27 := Bm_23.out.lt
  go_wp2_with fail
  refine (far_at _ Ac Am Rm cc cm rm (mergeZ z 500) nd dA dc f 60 160 60 124 en (ZM.out.below (below_al HB_24.out _)) (DR.out.below (below_al HB_24.out _)) LM.out LD.out (by omega) (HT.out.below (below_al HB_24.out _))).mono ?_
  rintro e w6 ⟨⟨q, rfl, hq⟩, hb⟩
  clear lz cz0 cz1 cz2 lm cm0 cm1 cm2
  have K := Dk.trans ((Dk.refl _).alloc _) (.below hb)
  have Bz_28 := Lib.hid (show Bk _ _ _ #[.slice Ac nd cc, .slice Ag z.m cg, .slice Ar nd cr] from (Bz_22.out.alloc _).below hb)
  have Bm_29 := Lib.hid (show Bk _ _ _ #[.slice Ac nd cc, .slice Am (mergeZ z 500).m cm, .slice Rm nd rm] from (Bm_23.out.alloc _).below hb)
  have Bx_30 := Lib.hid (show Bk _ _ _ #[.bool p.b, .slice p.A p.n p.c, .int .i64 (z.sup (pts f) 2000).x] from (Bk.new _ 38 #[.bool p.b, .slice p.A p.n p.c, .int .i64 (z.sup (pts f) 2000).x]).below hb)
  have HB_31 := Lib.hid (below_tr (below_al HB_24.out _) hb)
  clear hb
  have RP_32 := Lib.hid (RP_25.out.dk K)
  clear K Bz_22 Bm_23 HB_24 RP_25
  have RQ_33 := Lib.hid hq
  clear hq
  have lz := Bz_28.out.lt
  obtain ⟨cz0, cz1, cz2⟩ := Bz_28.out.cells3
  have lm := Bm_29.out.lt
  obtain ⟨cm0, cm1, cm2⟩ := Bm_29.out.cells3
  have lx := Bx_30.out.lt
  obtain ⟨cx0, cx1, cx2⟩ := Bx_30.out.cells3
  have n_34 := Bz_28.out.lt
  have n_35 := Bm_29.out.lt
  have n_36 := Bx_30.out.lt
  go_upto_region 9 with (fail)
  clear lz cz0 cz1 cz2 lm cm0 cm1 cm2 lx cx0 cx1 cx2
  have K : Dk w6 (w6.alloc (.cells #[.bool q.b, .slice q.A q.n q.c, .int .i64 ((mergeZ z 500).sup (pts f) 2000).x] 38)) := ((Dk.refl _).alloc _)
  have Bz_37 := Lib.hid (show Bk (w6.alloc (.cells #[.bool q.b, .slice q.A q.n q.c, .int .i64 ((mergeZ z 500).sup (pts f) 2000).x] 38)) (w.heap.size) 25 #[.slice Ac nd cc, .slice Ag z.m cg, .slice Ar nd cr] from (Bz_28.out.alloc _))
  have Bm_38 := Lib.hid (show Bk (w6.alloc (.cells #[.bool q.b, .slice q.A q.n q.c, .int .i64 ((mergeZ z 500).sup (pts f) 2000).x] 38)) (w4.heap.size) 25 #[.slice Ac nd cc, .slice Am (mergeZ z 500).m cm, .slice Rm nd rm] from (Bm_29.out.alloc _))
  have Bx_39 := Lib.hid (show Bk (w6.alloc (.cells #[.bool q.b, .slice q.A q.n q.c, .int .i64 ((mergeZ z 500).sup (pts f) 2000).x] 38)) (w5.heap.size) 38 #[.bool p.b, .slice p.A p.n p.c, .int .i64 (z.sup (pts f) 2000).x] from (Bx_30.out.alloc _))
  have By_40 := Lib.hid (show Bk (w6.alloc (.cells #[.bool q.b, .slice q.A q.n q.c, .int .i64 ((mergeZ z 500).sup (pts f) 2000).x] 38)) (w6.heap.size) 38 #[.bool q.b, .slice q.A q.n q.c, .int .i64 ((mergeZ z 500).sup (pts f) 2000).x] from (Bk.new _ 38 #[.bool q.b, .slice q.A q.n q.c, .int .i64 ((mergeZ z 500).sup (pts f) 2000).x]))
  have HB_41 := Lib.hid (show Below w4.heap.size w4 (w6.alloc (.cells #[.bool q.b, .slice q.A q.n q.c, .int .i64 ((mergeZ z 500).sup (pts f) 2000).x] 38)) from (below_al HB_31.out _))
  have RP_42 := Lib.hid (RP_32.out.dk K)
  have RQ_43 := Lib.hid (RQ_33.out.dk K)
  clear K Bz_28 Bm_29 Bx_30 HB_31 RP_32 RQ_33
  generalize w6.alloc (.cells #[.bool q.b, .slice q.A q.n q.c, .int .i64 ((mergeZ z 500).sup (pts f) 2000).x] 38) = w7 at *
  have lz := Bz_37.out.lt
  obtain ⟨cz0, cz1, cz2⟩ := Bz_37.out.cells3
  have lm := Bm_38.out.lt
  obtain ⟨cm0, cm1, cm2⟩ := Bm_38.out.cells3
  have lx := Bx_39.out.lt
  obtain ⟨cx0, cx1, cx2⟩ := Bx_39.out.cells3
  have ly := By_40.out.lt
  obtain ⟨cy0, cy1, cy2⟩ := By_40.out.cells3
  have LX := Lib.hid (sup_limR (LZ.out.mono' (by omega) (by omega)) (by omega) (by omega) LDz.out)
  have LY := Lib.hid (sup_limR (z := (mergeZ z 500)) LM.out (by omega) (by omega) LDz.out)
  have N1 := Lib.hid (show (z.sup (pts f) 2000).cmp ((mergeZ z 500).sup (pts f) 2000) = 0 from cmp_zero_iff.2 (by rw [farR (LZ.out.mono' (by omega) (by omega)) (by omega) (by omega) LDz.out, farR (z := (mergeZ z 500)) LM.out (by omega) (by omega) LDz.out, mergeZ_far LZ.out (by omega)]))
  go_wp2_with fail
  refine (zcheck_at _ Ac Am Rm cc cm rm (mergeZ z 500) nd en (ZM.out.below HB_41.out) OM.out HNM.out).mono ?_
  rintro e w8 ⟨rfl, hb⟩
  clear lz cz0 cz1 cz2 lm cm0 cm1 cm2 lx cx0 cx1 cx2 ly cy0 cy1 cy2
  have K := Dk.below hb
  have Bz_44 := Lib.hid (show Bk _ _ _ #[.slice Ac nd cc, .slice Ag z.m cg, .slice Ar nd cr] from Bz_37.out.below hb)
  have Bm_45 := Lib.hid (show Bk _ _ _ #[.slice Ac nd cc, .slice Am (mergeZ z 500).m cm, .slice Rm nd rm] from Bm_38.out.below hb)
  have Bx_46 := Lib.hid (show Bk _ _ _ #[.bool p.b, .slice p.A p.n p.c, .int .i64 (z.sup (pts f) 2000).x] from Bx_39.out.below hb)
  have By_47 := Lib.hid (show Bk _ _ _ #[.bool q.b, .slice q.A q.n q.c, .int .i64 ((mergeZ z 500).sup (pts f) 2000).x] from By_40.out.below hb)
  have HB_48 := Lib.hid (below_tr HB_41.out hb)
  clear hb
  have RP_49 := Lib.hid (RP_42.out.dk K)
  have RQ_50 := Lib.hid (RQ_43.out.dk K)
  clear K Bz_37 Bm_38 Bx_39 By_40 HB_41 RP_42 RQ_43
  have lz := Bz_44.out.lt
  obtain ⟨cz0, cz1, cz2⟩ := Bz_44.out.cells3
  have lm := Bm_45.out.lt
  obtain ⟨cm0, cm1, cm2⟩ := Bm_45.out.cells3
  have lx := Bx_46.out.lt
  obtain ⟨cx0, cx1, cx2⟩ := Bx_46.out.cells3
  have ly := By_47.out.lt
  obtain ⟨cy0, cy1, cy2⟩ := By_47.out.cells3
  go_wp2_with fail
  refine (dcompare_is _ p q (z.sup (pts f) 2000) ((mergeZ z 500).sup (pts f) 2000) 121 330 0 RP_49.out RQ_50.out LX.out LY.out (by omega) N1.out).mono ?_
  rintro e w9 ⟨rfl, hb⟩
  clear lz cz0 cz1 cz2 lm cm0 cm1 cm2 lx cx0 cx1 cx2 ly cy0 cy1 cy2
  have K := Dk.below hb
  have Bz_51 := Lib.hid (show Bk _ _ _ #[.slice Ac nd cc, .slice Ag z.m cg, .slice Ar nd cr] from Bz_44.out.below hb)
  have Bm_52 := Lib.hid (show Bk _ _ _ #[.slice Ac nd cc, .slice Am (mergeZ z 500).m cm, .slice Rm nd rm] from Bm_45.out.below hb)
  have Bx_53 := Lib.hid (show Bk _ _ _ #[.bool p.b, .slice p.A p.n p.c, .int .i64 (z.sup (pts f) 2000).x] from Bx_46.out.below hb)
  have By_54 := Lib.hid (show Bk _ _ _ #[.bool q.b, .slice q.A q.n q.c, .int .i64 ((mergeZ z 500).sup (pts f) 2000).x] from By_47.out.below hb)
  have HB_55 := Lib.hid (below_tr HB_48.out hb)
  clear hb
  have RP_56 := Lib.hid (RP_49.out.dk K)
  have RQ_57 := Lib.hid (RQ_50.out.dk K)
  clear K Bz_44 Bm_45 Bx_46 By_47 HB_48 RP_49 RQ_50
  go_wp2
  go_ret
  exact ⟨rfl, below_tr BASE_19.out HB_55.out⟩

end Go.Proofs.YtgioppkggpfnoaaGreatDoor.Nu
end
