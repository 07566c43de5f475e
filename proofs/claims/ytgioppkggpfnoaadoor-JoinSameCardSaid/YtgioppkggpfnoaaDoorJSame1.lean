/- Texts of the seat, laid together: Same. -/
import Derived.Test.YtgioppkggpfnoaaDoorJn7
import Derived.RegionTactic
import Derived.StillTailTactics
import Derived.Deep.RegionHeld3
import Derived.Deep.DeepCutAuto
import Derived.Deep.CutBlock
set_option linter.all false
set_option exponentiation.threshold 20000
section
/- JoinSame: the walk of the law. -/
set_option linter.unusedVariables false
namespace Go.Proofs.YtgioppkggpfnoaaDoor.Nu
open Go.RowKit Go.Proofs

set_option maxRecDepth 100000 in
set_option maxHeartbeats 4000000 in
theorem same_any (w : World) (Aac Aag Aar Abc Abg Abr dA : Option Addr) (na ra ma nb rb mb nd cac cag car cbc cbg cbr dc : Nat) (hac : RawD w Aac na cac) (hag : RawR w Aag ma cag) (har : RawD w Aar ra car) (hna : Aag = none → cag = 0) (hbc : RawD w Abc nb cbc) (hbg : RawR w Abg mb cbg) (hbr : RawD w Abr rb cbr) (hnb : Abg = none → cbg = 0) (hd : RawD w dA nd dc) (ht : BTab w) :
    Calls Tryd.prog 6 #[.agg #[.slice Aac na cac, .slice Aag ma cag, .slice Aar ra car], .agg #[.slice Abc nb cbc, .slice Abg mb cbg, .slice Abr rb cbr], .slice dA nd dc] w fun e w' => e = .returned (.bool true) ∧ Below w.heap.size w w' := by
  have HAC := Lib.hid hac
  have HAG := Lib.hid hag
  have HAR := Lib.hid har
  have HNA := Lib.hid hna
  have HBC := Lib.hid hbc
  have HBG := Lib.hid hbg
  have HBR := Lib.hid hbr
  have HNB := Lib.hid hnb
  have HD := Lib.hid hd
  have HT := Lib.hid ht
  have hd62 := hd.2.1
  clear hac hag har hna hbc hbg hbr hnb hd ht
  have BX := Lib.hid (boxes2 w 42 #[.slice Aac na cac, .slice Aag ma cag, .slice Aar ra car] 42 #[.slice Abc nb cbc, .slice Abg mb cbg, .slice Abr rb cbr])
  go_enter Tryd.func6, Tryd.ntmps6
  go_wp2_with fail
  generalize (w.alloc (.cells #[.slice Aac na cac, .slice Aag ma cag, .slice Aar ra car] 42)).alloc (.cells #[.slice Abc nb cbc, .slice Abg mb cbg, .slice Abr rb cbr] 42) = w0 at *
  obtain ⟨b0, b1, hw⟩ := BX.out
  have Ba_0 := Lib.hid b0
  have Bb_0 := Lib.hid b1
  have HB_0 := Lib.hid hw
  have K := Dk.below (hw.mono (Nat.le_refl _))
  clear BX hw b0 b1
  clear K
  go_wp2_with fail
  refine (joins_any _ (HT.out.below HB_0.out)).mono ?_
  rintro e w1 ⟨rfl, hb⟩
  have K := Dk.below hb
  have Ba_1 := Lib.hid (show Bk _ _ _ #[.slice Aac na cac, .slice Aag ma cag, .slice Aar ra car] from Ba_0.out.below hb)
  have Bb_2 := Lib.hid (show Bk _ _ _ #[.slice Abc nb cbc, .slice Abg mb cbg, .slice Abr rb cbr] from Bb_0.out.below hb)
  have HB_3 := Lib.hid (below_tr HB_0.out hb)
  clear hb
  clear K Ba_0 Bb_0 HB_0
  have la := Ba_1.out.lt
  obtain ⟨ca0, ca1, ca2⟩ := Ba_1.out.cells3
  have lb := Bb_2.out.lt
  obtain ⟨cb0, cb1, cb2⟩ := Bb_2.out.cells3
  go_wp2_with fail
  refine (fit_any _ Aac Aag Aar na cac ma cag ra car nd (HAC.out.below HB_3.out) (HAG.out.below HB_3.out) (HAR.out.below HB_3.out) HNA.out hd62).mono ?_
  rintro e w2 ⟨rfl | ⟨rfl, hf⟩, hb⟩
  · clear la ca0 ca1 ca2 lb cb0 cb1 cb2
    have K := Dk.below hb
    have Ba_4 := Lib.hid (show Bk _ _ _ #[.slice Aac na cac, .slice Aag ma cag, .slice Aar ra car] from Ba_1.out.below hb)
    have Bb_5 := Lib.hid (show Bk _ _ _ #[.slice Abc nb cbc, .slice Abg mb cbg, .slice Abr rb cbr] from Bb_2.out.below hb)
    have HB_6 := Lib.hid (below_tr HB_3.out hb)
    clear hb
    clear K Ba_1 Bb_2 HB_3
    have la := Ba_4.out.lt
    obtain ⟨ca0, ca1, ca2⟩ := Ba_4.out.cells3
    have lb := Bb_5.out.lt
    obtain ⟨cb0, cb1, cb2⟩ := Bb_5.out.cells3
    go_wp2
    go_ret
    exact ⟨rfl, HB_6.out⟩
  clear la ca0 ca1 ca2 lb cb0 cb1 cb2
  have K := Dk.below hb
  have Ba_8 := Lib.hid (show Bk _ _ _ #[.slice Aac na cac, .slice Aag ma cag, .slice Aar ra car] from Ba_1.out.below hb)
  have Bb_9 := Lib.hid (show Bk _ _ _ #[.slice Abc nb cbc, .slice Abg mb cbg, .slice Abr rb cbr] from Bb_2.out.below hb)
  have HB_10 := Lib.hid (below_tr HB_3.out hb)
  clear hb
  clear K Ba_1 Bb_2 HB_3
  have FA := Lib.hid hf
  clear hf HAC HAG HAR
  have BASE_11 := Lib.hid (HB_10.out)
  replace HBC := Lib.hid (HBC.out.below HB_10.out)
  replace HBG := Lib.hid (HBG.out.below HB_10.out)
  replace HBR := Lib.hid (HBR.out.below HB_10.out)
  replace HD := Lib.hid (HD.out.below HB_10.out)
  replace HT := Lib.hid (HT.out.below HB_10.out)
  clear HB_10
  have HB_12 := Lib.hid (show Below w2.heap.size w2 w2 from Below.refl _ _)
  have la := Ba_8.out.lt
  obtain ⟨ca0, ca1, ca2⟩ := Ba_8.out.cells3
  have lb := Bb_9.out.lt
  obtain ⟨cb0, cb1, cb2⟩ := Bb_9.out.cells3
  go_wp2_with fail
  refine (fit_any _ Abc Abg Abr nb cbc mb cbg rb cbr nd HBC.out HBG.out HBR.out HNB.out hd62).mono ?_
  rintro e w3 ⟨rfl | ⟨rfl, hf⟩, hb⟩
  · clear la ca0 ca1 ca2 lb cb0 cb1 cb2
    have K := Dk.below hb
    have Ba_13 := Lib.hid (show Bk _ _ _ #[.slice Aac na cac, .slice Aag ma cag, .slice Aar ra car] from Ba_8.out.below hb)
    have Bb_14 := Lib.hid (show Bk _ _ _ #[.slice Abc nb cbc, .slice Abg mb cbg, .slice Abr rb cbr] from Bb_9.out.below hb)
    have HB_15 := Lib.hid (below_tr HB_12.out hb)
    clear hb
    clear K Ba_8 Bb_9 HB_12
    have la := Ba_13.out.lt
    obtain ⟨ca0, ca1, ca2⟩ := Ba_13.out.cells3
    have lb := Bb_14.out.lt
    obtain ⟨cb0, cb1, cb2⟩ := Bb_14.out.cells3
    go_wp2
    go_ret
    exact ⟨rfl, below_tr BASE_11.out HB_15.out⟩
  clear la ca0 ca1 ca2 lb cb0 cb1 cb2
  have K := Dk.below hb
  have Ba_17 := Lib.hid (show Bk _ _ _ #[.slice Aac na cac, .slice Aag ma cag, .slice Aar ra car] from Ba_8.out.below hb)
  have Bb_18 := Lib.hid (show Bk _ _ _ #[.slice Abc nb cbc, .slice Abg mb cbg, .slice Abr rb cbr] from Bb_9.out.below hb)
  have HB_19 := Lib.hid (below_tr HB_12.out hb)
  clear hb
  clear K Ba_8 Bb_9 HB_12
  have FB := Lib.hid hf
  clear hf HBC HBG HBR
  have BASE_20 := Lib.hid (below_tr BASE_11.out HB_19.out)
  replace FA := Lib.hid (FA.out.below HB_19.out)
  replace HD := Lib.hid (HD.out.below HB_19.out)
  replace HT := Lib.hid (HT.out.below HB_19.out)
  clear HB_19 BASE_11
  have HB_21 := Lib.hid (show Below w3.heap.size w3 w3 from Below.refl _ _)
  obtain ⟨za, e1, e2, e3, rfl, hza, oza, lza, k1, k4, k5⟩ := FA.out
  obtain ⟨zb, e4, e5, e6, rfl, hzb, ozb, lzb, _, _, k6⟩ := FB.out
  clear FA FB
  obtain rfl : nd = na := by omega
  obtain rfl : nd = ra := by omega
  obtain rfl : nd = nb := by omega
  obtain rfl : nd = rb := by omega
  have eza : za.n = nd := e3.symm
  have ezb : zb.n = nd := e6.symm
  clear e1 e2 e3 e4 e5 e6
  have ZA := Lib.hid hza
  have ZB := Lib.hid hzb
  have OA := Lib.hid oza
  have OB := Lib.hid ozb
  have LA := Lib.hid lza
  have LB := Lib.hid lzb
  clear hza hzb oza ozb lza lzb
  have la := Ba_17.out.lt
  obtain ⟨ca0, ca1, ca2⟩ := Ba_17.out.cells3
  have lb := Bb_18.out.lt
  obtain ⟨cb0, cb1, cb2⟩ := Bb_18.out.cells3
  go_wp2_with fail
  refine (small_any _ dA nd dc HD.out (by omega)).mono ?_
  rintro e w4 ⟨rfl | ⟨rfl, hs⟩, hb⟩
  · clear la ca0 ca1 ca2 lb cb0 cb1 cb2
    have K := Dk.below hb
    have Ba_22 := Lib.hid (show Bk _ _ _ #[.slice Aac nd cac, .slice Aag za.m cag, .slice Aar nd car] from Ba_17.out.below hb)
    have Bb_23 := Lib.hid (show Bk _ _ _ #[.slice Abc nd cbc, .slice Abg zb.m cbg, .slice Abr nd cbr] from Bb_18.out.below hb)
    have HB_24 := Lib.hid (below_tr HB_21.out hb)
    clear hb
    clear K Ba_17 Bb_18 HB_21
    have la := Ba_22.out.lt
    obtain ⟨ca0, ca1, ca2⟩ := Ba_22.out.cells3
    have lb := Bb_23.out.lt
    obtain ⟨cb0, cb1, cb2⟩ := Bb_23.out.cells3
    go_wp2
    go_ret
    exact ⟨rfl, below_tr BASE_20.out HB_24.out⟩
  clear la ca0 ca1 ca2 lb cb0 cb1 cb2
  have K := Dk.below hb
  have Ba_26 := Lib.hid (show Bk _ _ _ #[.slice Aac nd cac, .slice Aag za.m cag, .slice Aar nd car] from Ba_17.out.below hb)
  have Bb_27 := Lib.hid (show Bk _ _ _ #[.slice Abc nd cbc, .slice Abg zb.m cbg, .slice Abr nd cbr] from Bb_18.out.below hb)
  have HB_28 := Lib.hid (below_tr HB_21.out hb)
  clear hb
  clear K Ba_17 Bb_18 HB_21
  have SD := Lib.hid hs
  clear hs HD
  have BASE_29 := Lib.hid (below_tr BASE_20.out HB_28.out)
  replace ZA := Lib.hid (ZA.out.below HB_28.out)
  replace ZB := Lib.hid (ZB.out.below HB_28.out)
  replace HT := Lib.hid (HT.out.below HB_28.out)
  replace SD := Lib.hid (SD.out.below HB_28.out)
  clear HB_28 BASE_20
  have HB_30 := Lib.hid (show Below w4.heap.size w4 w4 from Below.refl _ _)
  obtain ⟨f, hf, hl⟩ := SD.out
  have DR := Lib.hid hf
  have LD := Lib.hid (fun (i : Nat) (hi : i < nd) => (hl i hi).2)
  clear hf hl SD
  have mm : max za.m zb.m ≤ 5 := by omega
  have en : za.n = zb.n := by omega
  have la := Ba_26.out.lt
  obtain ⟨ca0, ca1, ca2⟩ := Ba_26.out.cells3
  have lb := Bb_27.out.lt
  obtain ⟨cb0, cb1, cb2⟩ := Bb_27.out.cells3
  go_wp2_with fail
  refine (hull_at _ Aac Aag Aar Aac Aag Aar cac cag car cac cag car za za nd 500 60 124 eza eza (ZA.out.below HB_30.out) (ZA.out.below HB_30.out) OA.out OA.out LA.out LA.out HNA.out HNA.out (by omega) (by omega) (by omega) (by omega) (HT.out.below HB_30.out)).mono ?_
  rintro e w5 ⟨⟨gc0, gg0, gr0, cg0, rfl, hz⟩, hb⟩
  clear la ca0 ca1 ca2 lb cb0 cb1 cb2
  have K := Dk.below hb
  have Ba_31 := Lib.hid (show Bk _ _ _ #[.slice Aac nd cac, .slice Aag za.m cag, .slice Aar nd car] from Ba_26.out.below hb)
  have Bb_32 := Lib.hid (show Bk _ _ _ #[.slice Abc nd cbc, .slice Abg zb.m cbg, .slice Abr nd cbr] from Bb_27.out.below hb)
  have HB_33 := Lib.hid (below_tr HB_30.out hb)
  clear hb
  clear K Ba_26 Bb_27 HB_30
  have ZH0 := Lib.hid hz
  clear hz
  have BASE_34 := Lib.hid (below_tr BASE_29.out HB_33.out)
  replace ZA := Lib.hid (ZA.out.below HB_33.out)
  replace ZB := Lib.hid (ZB.out.below HB_33.out)
  replace DR := Lib.hid (DR.out.below HB_33.out)
  replace HT := Lib.hid (HT.out.below HB_33.out)
  clear HB_33 BASE_29
  have HB_35 := Lib.hid (show Below w5.heap.size w5 w5 from Below.refl _ _)
  have la := Ba_31.out.lt
  obtain ⟨ca0, ca1, ca2⟩ := Ba_31.out.cells3
  have lb := Bb_32.out.lt
  obtain ⟨cb0, cb1, cb2⟩ := Bb_32.out.cells3
  have n_36 := Ba_31.out.lt
  have n_37 := Bb_32.out.lt
  go_wp2_with fail
  refine (hull_at _ Aac Aag Aar Abc Abg Abr cac cag car cbc cbg cbr za zb nd 500 60 124 eza ezb (ZA.out.below (below_al HB_35.out _)) (ZB.out.below (below_al HB_35.out _)) OA.out OB.out LA.out LB.out HNA.out HNB.out (by omega) (by omega) (by omega) (by omega) (HT.out.below (below_al HB_35.out _))).mono ?_
  rintro e w6 ⟨⟨gc1, gg1, gr1, cg1, rfl, hz⟩, hb⟩
  clear la ca0 ca1 ca2 lb cb0 cb1 cb2
  have K := Dk.trans ((Dk.refl _).alloc _) (.below hb)
  have Ba_38 := Lib.hid (show Bk _ _ _ #[.slice Aac nd cac, .slice Aag za.m cag, .slice Aar nd car] from (Ba_31.out.alloc _).below hb)
  have Bb_39 := Lib.hid (show Bk _ _ _ #[.slice Abc nd cbc, .slice Abg zb.m cbg, .slice Abr nd cbr] from (Bb_32.out.alloc _).below hb)
  have Bh0_40 := Lib.hid (show Bk _ _ _ #[.slice (some ⟨gc0, 0, none⟩) nd nd, .slice (some ⟨gg0, 0, none⟩) (hull za za 500).m cg0, .slice (some ⟨gr0, 0, none⟩) nd nd] from (Bk.new _ 42 #[.slice (some ⟨gc0, 0, none⟩) nd nd, .slice (some ⟨gg0, 0, none⟩) (hull za za 500).m cg0, .slice (some ⟨gr0, 0, none⟩) nd nd]).below hb)
  have HB_41 := Lib.hid (below_tr (below_al HB_35.out _) hb)
  clear hb
  clear K Ba_31 Bb_32 HB_35
  have ZH1 := Lib.hid hz
  clear hz
  have BASE_42 := Lib.hid (below_tr BASE_34.out HB_41.out)
  replace ZA := Lib.hid (ZA.out.below HB_41.out)
  replace ZB := Lib.hid (ZB.out.below HB_41.out)
  replace DR := Lib.hid (DR.out.below HB_41.out)
  replace HT := Lib.hid (HT.out.below HB_41.out)
  replace ZH0 := Lib.hid (ZH0.out.below HB_41.out)
  clear HB_41 BASE_34
  have HB_43 := Lib.hid (show Below w6.heap.size w6 w6 from Below.refl _ _)
  have la := Ba_38.out.lt
  obtain ⟨ca0, ca1, ca2⟩ := Ba_38.out.cells3
  have lb := Bb_39.out.lt
  obtain ⟨cb0, cb1, cb2⟩ := Bb_39.out.cells3
  have lh0 := Bh0_40.out.lt
  obtain ⟨ch00, ch01, ch02⟩ := Bh0_40.out.cells3
  have n_44 := Ba_38.out.lt
  have n_45 := Bb_39.out.lt
  have n_46 := Bh0_40.out.lt
  go_wp2_with fail
  refine (hull_at _ Abc Abg Abr Aac Aag Aar cbc cbg cbr cac cag car zb za nd 500 60 124 ezb eza (ZB.out.below (below_al HB_43.out _)) (ZA.out.below (below_al HB_43.out _)) OB.out OA.out LB.out LA.out HNB.out HNA.out (by omega) (by omega) (by omega) (by omega) (HT.out.below (below_al HB_43.out _))).mono ?_
  rintro e w7 ⟨⟨gc2, gg2, gr2, cg2, rfl, hz⟩, hb⟩
  clear la ca0 ca1 ca2 lb cb0 cb1 cb2 lh0 ch00 ch01 ch02
  have K := Dk.trans ((Dk.refl _).alloc _) (.below hb)
  have Ba_47 := Lib.hid (show Bk _ _ _ #[.slice Aac nd cac, .slice Aag za.m cag, .slice Aar nd car] from (Ba_38.out.alloc _).below hb)
  have Bb_48 := Lib.hid (show Bk _ _ _ #[.slice Abc nd cbc, .slice Abg zb.m cbg, .slice Abr nd cbr] from (Bb_39.out.alloc _).below hb)
  have Bh0_49 := Lib.hid (show Bk _ _ _ #[.slice (some ⟨gc0, 0, none⟩) nd nd, .slice (some ⟨gg0, 0, none⟩) (hull za za 500).m cg0, .slice (some ⟨gr0, 0, none⟩) nd nd] from (Bh0_40.out.alloc _).below hb)
  have Bh1_50 := Lib.hid (show Bk _ _ _ #[.slice (some ⟨gc1, 0, none⟩) nd nd, .slice (some ⟨gg1, 0, none⟩) (hull za zb 500).m cg1, .slice (some ⟨gr1, 0, none⟩) nd nd] from (Bk.new _ 42 #[.slice (some ⟨gc1, 0, none⟩) nd nd, .slice (some ⟨gg1, 0, none⟩) (hull za zb 500).m cg1, .slice (some ⟨gr1, 0, none⟩) nd nd]).below hb)
  have HB_51 := Lib.hid (below_tr (below_al HB_43.out _) hb)
  clear hb
  clear K Ba_38 Bb_39 Bh0_40 HB_43
  have ZH2 := Lib.hid hz
  clear hz
  have BASE_52 := Lib.hid (below_tr BASE_42.out HB_51.out)
  replace ZA := Lib.hid (ZA.out.below HB_51.out)
  replace ZB := Lib.hid (ZB.out.below HB_51.out)
  replace DR := Lib.hid (DR.out.below HB_51.out)
  replace HT := Lib.hid (HT.out.below HB_51.out)
  replace ZH0 := Lib.hid (ZH0.out.below HB_51.out)
  replace ZH1 := Lib.hid (ZH1.out.below HB_51.out)
  clear HB_51 BASE_42
  have HB_53 := Lib.hid (show Below w7.heap.size w7 w7 from Below.refl _ _)
  have la := Ba_47.out.lt
  obtain ⟨ca0, ca1, ca2⟩ := Ba_47.out.cells3
  have lb := Bb_48.out.lt
  obtain ⟨cb0, cb1, cb2⟩ := Bb_48.out.cells3
  have lh0 := Bh0_49.out.lt
  obtain ⟨ch00, ch01, ch02⟩ := Bh0_49.out.cells3
  have lh1 := Bh1_50.out.lt
  obtain ⟨ch10, ch11, ch12⟩ := Bh1_50.out.cells3
  have n_54 := Ba_47.out.lt
  have n_55 := Bb_48.out.lt
  have n_56 := Bh0_49.out.lt
  have n_57 := Bh1_50.out.lt
  have LH0 := Lib.hid (hull_lim5 LA.out LA.out rfl k5 k5 500)
  have LH1 := Lib.hid (hull_lim5 LA.out LB.out en k5 k6 500)
  have LH2 := Lib.hid (hull_lim5 LB.out LA.out en.symm k6 k5 500)
  have hm0 : (hull za za 500).m ≤ 11 := by show 2 * max za.m za.m + 1 ≤ 11; omega
  have hm1 : (hull za zb 500).m ≤ 11 := by show 2 * max za.m zb.m + 1 ≤ 11; omega
  have hm2 : (hull zb za 500).m ≤ 11 := by show 2 * max zb.m za.m + 1 ≤ 11; omega
  go_wp2_with fail
  refine (far_at _ Aac Aag Aar cac cag car za nd dA dc f 61 151 60 124 eza (ZA.out.below (below_al HB_53.out _)) (DR.out.below (below_al HB_53.out _)) (LA.out.mono' (by omega) (by omega)) LD.out (by omega) (HT.out.below (below_al HB_53.out _))).mono ?_
  rintro e w8 ⟨⟨x, rfl, hp⟩, hb⟩
  clear la ca0 ca1 ca2 lb cb0 cb1 cb2 lh0 ch00 ch01 ch02 lh1 ch10 ch11 ch12
  have K := Dk.trans ((Dk.refl _).alloc _) (.below hb)
  have Ba_58 := Lib.hid (show Bk _ _ _ #[.slice Aac nd cac, .slice Aag za.m cag, .slice Aar nd car] from (Ba_47.out.alloc _).below hb)
  have Bb_59 := Lib.hid (show Bk _ _ _ #[.slice Abc nd cbc, .slice Abg zb.m cbg, .slice Abr nd cbr] from (Bb_48.out.alloc _).below hb)
  have Bh0_60 := Lib.hid (show Bk _ _ _ #[.slice (some ⟨gc0, 0, none⟩) nd nd, .slice (some ⟨gg0, 0, none⟩) (hull za za 500).m cg0, .slice (some ⟨gr0, 0, none⟩) nd nd] from (Bh0_49.out.alloc _).below hb)
  have Bh1_61 := Lib.hid (show Bk _ _ _ #[.slice (some ⟨gc1, 0, none⟩) nd nd, .slice (some ⟨gg1, 0, none⟩) (hull za zb 500).m cg1, .slice (some ⟨gr1, 0, none⟩) nd nd] from (Bh1_50.out.alloc _).below hb)
  have Bh2_62 := Lib.hid (show Bk _ _ _ #[.slice (some ⟨gc2, 0, none⟩) nd nd, .slice (some ⟨gg2, 0, none⟩) (hull zb za 500).m cg2, .slice (some ⟨gr2, 0, none⟩) nd nd] from (Bk.new _ 42 #[.slice (some ⟨gc2, 0, none⟩) nd nd, .slice (some ⟨gg2, 0, none⟩) (hull zb za 500).m cg2, .slice (some ⟨gr2, 0, none⟩) nd nd]).below hb)
  have HB_63 := Lib.hid (below_tr (below_al HB_53.out _) hb)
  clear hb
  clear K Ba_47 Bb_48 Bh0_49 Bh1_50 HB_53
  have Rx_64 := Lib.hid hp
  clear hp
  have la := Ba_58.out.lt
  obtain ⟨ca0, ca1, ca2⟩ := Ba_58.out.cells3
  have lb := Bb_59.out.lt
  obtain ⟨cb0, cb1, cb2⟩ := Bb_59.out.cells3
  have lh0 := Bh0_60.out.lt
  obtain ⟨ch00, ch01, ch02⟩ := Bh0_60.out.cells3
  have lh1 := Bh1_61.out.lt
  obtain ⟨ch10, ch11, ch12⟩ := Bh1_61.out.cells3
  have lh2 := Bh2_62.out.lt
  obtain ⟨ch20, ch21, ch22⟩ := Bh2_62.out.cells3
  have n_65 := Ba_58.out.lt
  have n_66 := Bb_59.out.lt
  have n_67 := Bh0_60.out.lt
  have n_68 := Bh1_61.out.lt
  have n_69 := Bh2_62.out.lt
  go_wp2_with fail
  refine (far_at _ (some ⟨gc0, 0, none⟩) (some ⟨gg0, 0, none⟩) (some ⟨gr0, 0, none⟩) nd cg0 nd (hull za za 500) nd dA dc f 61 151 60 124 eza (ZH0.out.below (below_al HB_63.out _)) (DR.out.below (below_al HB_63.out _)) LH0.out LD.out (by omega) (HT.out.below (below_al HB_63.out _))).mono ?_
  rintro e w9 ⟨⟨y, rfl, hp⟩, hb⟩
  clear la ca0 ca1 ca2 lb cb0 cb1 cb2 lh0 ch00 ch01 ch02 lh1 ch10 ch11 ch12 lh2 ch20 ch21 ch22
  have K := Dk.trans ((Dk.refl _).alloc _) (.below hb)
  have Ba_70 := Lib.hid (show Bk _ _ _ #[.slice Aac nd cac, .slice Aag za.m cag, .slice Aar nd car] from (Ba_58.out.alloc _).below hb)
  have Bb_71 := Lib.hid (show Bk _ _ _ #[.slice Abc nd cbc, .slice Abg zb.m cbg, .slice Abr nd cbr] from (Bb_59.out.alloc _).below hb)
  have Bh0_72 := Lib.hid (show Bk _ _ _ #[.slice (some ⟨gc0, 0, none⟩) nd nd, .slice (some ⟨gg0, 0, none⟩) (hull za za 500).m cg0, .slice (some ⟨gr0, 0, none⟩) nd nd] from (Bh0_60.out.alloc _).below hb)
  have Bh1_73 := Lib.hid (show Bk _ _ _ #[.slice (some ⟨gc1, 0, none⟩) nd nd, .slice (some ⟨gg1, 0, none⟩) (hull za zb 500).m cg1, .slice (some ⟨gr1, 0, none⟩) nd nd] from (Bh1_61.out.alloc _).below hb)
  have Bh2_74 := Lib.hid (show Bk _ _ _ #[.slice (some ⟨gc2, 0, none⟩) nd nd, .slice (some ⟨gg2, 0, none⟩) (hull zb za 500).m cg2, .slice (some ⟨gr2, 0, none⟩) nd nd] from (Bh2_62.out.alloc _).below hb)
  have Bx_75 := Lib.hid (show Bk _ _ _ #[.bool x.b, .slice x.A x.n x.c, .int .i64 (za.sup (pts f) 2000).x] from (Bk.new _ 53 #[.bool x.b, .slice x.A x.n x.c, .int .i64 (za.sup (pts f) 2000).x]).below hb)
  have HB_76 := Lib.hid (below_tr (below_al HB_63.out _) hb)
  clear hb
  have Rx_77 := Lib.hid (Rx_64.out.dk K)
  clear K Ba_58 Bb_59 Bh0_60 Bh1_61 Bh2_62 HB_63 Rx_64
  have Ry_78 := Lib.hid hp
  clear hp
  have la := Ba_70.out.lt
  obtain ⟨ca0, ca1, ca2⟩ := Ba_70.out.cells3
  have lb := Bb_71.out.lt
  obtain ⟨cb0, cb1, cb2⟩ := Bb_71.out.cells3
  have lh0 := Bh0_72.out.lt
  obtain ⟨ch00, ch01, ch02⟩ := Bh0_72.out.cells3
  have lh1 := Bh1_73.out.lt
  obtain ⟨ch10, ch11, ch12⟩ := Bh1_73.out.cells3
  have lh2 := Bh2_74.out.lt
  obtain ⟨ch20, ch21, ch22⟩ := Bh2_74.out.cells3
  have lx := Bx_75.out.lt
  obtain ⟨cx0, cx1, cx2⟩ := Bx_75.out.cells3
  have n_79 := Ba_70.out.lt
  have n_80 := Bb_71.out.lt
  have n_81 := Bh0_72.out.lt
  have n_82 := Bh1_73.out.lt
  have n_83 := Bh2_74.out.lt
  have n_84 := Bx_75.out.lt
  go_wp2_with fail
  refine (far_at _ (some ⟨gc1, 0, none⟩) (some ⟨gg1, 0, none⟩) (some ⟨gr1, 0, none⟩) nd cg1 nd (hull za zb 500) nd dA dc f 61 151 60 124 eza (ZH1.out.below (below_al HB_76.out _)) (DR.out.below (below_al HB_76.out _)) LH1.out LD.out (by omega) (HT.out.below (below_al HB_76.out _))).mono ?_
  rintro e w10 ⟨⟨u, rfl, hp⟩, hb⟩
  clear la ca0 ca1 ca2 lb cb0 cb1 cb2 lh0 ch00 ch01 ch02 lh1 ch10 ch11 ch12 lh2 ch20 ch21 ch22 lx cx0 cx1 cx2
  have K := Dk.trans ((Dk.refl _).alloc _) (.below hb)
  have Ba_85 := Lib.hid (show Bk _ _ _ #[.slice Aac nd cac, .slice Aag za.m cag, .slice Aar nd car] from (Ba_70.out.alloc _).below hb)
  have Bb_86 := Lib.hid (show Bk _ _ _ #[.slice Abc nd cbc, .slice Abg zb.m cbg, .slice Abr nd cbr] from (Bb_71.out.alloc _).below hb)
  have Bh0_87 := Lib.hid (show Bk _ _ _ #[.slice (some ⟨gc0, 0, none⟩) nd nd, .slice (some ⟨gg0, 0, none⟩) (hull za za 500).m cg0, .slice (some ⟨gr0, 0, none⟩) nd nd] from (Bh0_72.out.alloc _).below hb)
  have Bh1_88 := Lib.hid (show Bk _ _ _ #[.slice (some ⟨gc1, 0, none⟩) nd nd, .slice (some ⟨gg1, 0, none⟩) (hull za zb 500).m cg1, .slice (some ⟨gr1, 0, none⟩) nd nd] from (Bh1_73.out.alloc _).below hb)
  have Bh2_89 := Lib.hid (show Bk _ _ _ #[.slice (some ⟨gc2, 0, none⟩) nd nd, .slice (some ⟨gg2, 0, none⟩) (hull zb za 500).m cg2, .slice (some ⟨gr2, 0, none⟩) nd nd] from (Bh2_74.out.alloc _).below hb)
  have Bx_90 := Lib.hid (show Bk _ _ _ #[.bool x.b, .slice x.A x.n x.c, .int .i64 (za.sup (pts f) 2000).x] from (Bx_75.out.alloc _).below hb)
  have By_91 := Lib.hid (show Bk _ _ _ #[.bool y.b, .slice y.A y.n y.c, .int .i64 ((hull za za 500).sup (pts f) 2000).x] from (Bk.new _ 53 #[.bool y.b, .slice y.A y.n y.c, .int .i64 ((hull za za 500).sup (pts f) 2000).x]).below hb)
  have HB_92 := Lib.hid (below_tr (below_al HB_76.out _) hb)
  clear hb
  have Rx_93 := Lib.hid (Rx_77.out.dk K)
  have Ry_94 := Lib.hid (Ry_78.out.dk K)
  clear K Ba_70 Bb_71 Bh0_72 Bh1_73 Bh2_74 Bx_75 HB_76 Rx_77 Ry_78
  have Ru_95 := Lib.hid hp
  clear hp
  have la := Ba_85.out.lt
  obtain ⟨ca0, ca1, ca2⟩ := Ba_85.out.cells3
  have lb := Bb_86.out.lt
  obtain ⟨cb0, cb1, cb2⟩ := Bb_86.out.cells3
  have lh0 := Bh0_87.out.lt
  obtain ⟨ch00, ch01, ch02⟩ := Bh0_87.out.cells3
  have lh1 := Bh1_88.out.lt
  obtain ⟨ch10, ch11, ch12⟩ := Bh1_88.out.cells3
  have lh2 := Bh2_89.out.lt
  obtain ⟨ch20, ch21, ch22⟩ := Bh2_89.out.cells3
  have lx := Bx_90.out.lt
  obtain ⟨cx0, cx1, cx2⟩ := Bx_90.out.cells3
  have ly := By_91.out.lt
  obtain ⟨cy0, cy1, cy2⟩ := By_91.out.cells3
  have n_96 := Ba_85.out.lt
  have n_97 := Bb_86.out.lt
  have n_98 := Bh0_87.out.lt
  have n_99 := Bh1_88.out.lt
  have n_100 := Bh2_89.out.lt
  have n_101 := Bx_90.out.lt
  have n_102 := By_91.out.lt
  go_wp2_with fail
  refine (far_at _ (some ⟨gc2, 0, none⟩) (some ⟨gg2, 0, none⟩) (some ⟨gr2, 0, none⟩) nd cg2 nd (hull zb za 500) nd dA dc f 61 151 60 124 ezb (ZH2.out.below (below_al HB_92.out _)) (DR.out.below (below_al HB_92.out _)) LH2.out LD.out (by omega) (HT.out.below (below_al HB_92.out _))).mono ?_
  rintro e w11 ⟨⟨v, rfl, hp⟩, hb⟩
  clear la ca0 ca1 ca2 lb cb0 cb1 cb2 lh0 ch00 ch01 ch02 lh1 ch10 ch11 ch12 lh2 ch20 ch21 ch22 lx cx0 cx1 cx2 ly cy0 cy1 cy2
  have K := Dk.trans ((Dk.refl _).alloc _) (.below hb)
  have Ba_103 := Lib.hid (show Bk _ _ _ #[.slice Aac nd cac, .slice Aag za.m cag, .slice Aar nd car] from (Ba_85.out.alloc _).below hb)
  have Bb_104 := Lib.hid (show Bk _ _ _ #[.slice Abc nd cbc, .slice Abg zb.m cbg, .slice Abr nd cbr] from (Bb_86.out.alloc _).below hb)
  have Bh0_105 := Lib.hid (show Bk _ _ _ #[.slice (some ⟨gc0, 0, none⟩) nd nd, .slice (some ⟨gg0, 0, none⟩) (hull za za 500).m cg0, .slice (some ⟨gr0, 0, none⟩) nd nd] from (Bh0_87.out.alloc _).below hb)
  have Bh1_106 := Lib.hid (show Bk _ _ _ #[.slice (some ⟨gc1, 0, none⟩) nd nd, .slice (some ⟨gg1, 0, none⟩) (hull za zb 500).m cg1, .slice (some ⟨gr1, 0, none⟩) nd nd] from (Bh1_88.out.alloc _).below hb)
  have Bh2_107 := Lib.hid (show Bk _ _ _ #[.slice (some ⟨gc2, 0, none⟩) nd nd, .slice (some ⟨gg2, 0, none⟩) (hull zb za 500).m cg2, .slice (some ⟨gr2, 0, none⟩) nd nd] from (Bh2_89.out.alloc _).below hb)
  have Bx_108 := Lib.hid (show Bk _ _ _ #[.bool x.b, .slice x.A x.n x.c, .int .i64 (za.sup (pts f) 2000).x] from (Bx_90.out.alloc _).below hb)
  have By_109 := Lib.hid (show Bk _ _ _ #[.bool y.b, .slice y.A y.n y.c, .int .i64 ((hull za za 500).sup (pts f) 2000).x] from (By_91.out.alloc _).below hb)
  have Bu_110 := Lib.hid (show Bk _ _ _ #[.bool u.b, .slice u.A u.n u.c, .int .i64 ((hull za zb 500).sup (pts f) 2000).x] from (Bk.new _ 53 #[.bool u.b, .slice u.A u.n u.c, .int .i64 ((hull za zb 500).sup (pts f) 2000).x]).below hb)
  have HB_111 := Lib.hid (below_tr (below_al HB_92.out _) hb)
  clear hb
  have Rx_112 := Lib.hid (Rx_93.out.dk K)
  have Ry_113 := Lib.hid (Ry_94.out.dk K)
  have Ru_114 := Lib.hid (Ru_95.out.dk K)
  clear K Ba_85 Bb_86 Bh0_87 Bh1_88 Bh2_89 Bx_90 By_91 HB_92 Rx_93 Ry_94 Ru_95
  have Rv_115 := Lib.hid hp
  clear hp
  have la := Ba_103.out.lt
  obtain ⟨ca0, ca1, ca2⟩ := Ba_103.out.cells3
  have lb := Bb_104.out.lt
  obtain ⟨cb0, cb1, cb2⟩ := Bb_104.out.cells3
  have lh0 := Bh0_105.out.lt
  obtain ⟨ch00, ch01, ch02⟩ := Bh0_105.out.cells3
  have lh1 := Bh1_106.out.lt
  obtain ⟨ch10, ch11, ch12⟩ := Bh1_106.out.cells3
  have lh2 := Bh2_107.out.lt
  obtain ⟨ch20, ch21, ch22⟩ := Bh2_107.out.cells3
  have lx := Bx_108.out.lt
  obtain ⟨cx0, cx1, cx2⟩ := Bx_108.out.cells3
  have ly := By_109.out.lt
  obtain ⟨cy0, cy1, cy2⟩ := By_109.out.cells3
  have lu := Bu_110.out.lt
  obtain ⟨cu0, cu1, cu2⟩ := Bu_110.out.cells3
  have n_116 := Ba_103.out.lt
  have n_117 := Bb_104.out.lt
  have n_118 := Bh0_105.out.lt
  have n_119 := Bh1_106.out.lt
  have n_120 := Bh2_107.out.lt
  have n_121 := Bx_108.out.lt
  have n_122 := By_109.out.lt
  have n_123 := Bu_110.out.lt
  go_upto_region 13 with (fail)
  clear la ca0 ca1 ca2 lb cb0 cb1 cb2 lh0 ch00 ch01 ch02 lh1 ch10 ch11 ch12 lh2 ch20 ch21 ch22 lx cx0 cx1 cx2 ly cy0 cy1 cy2 lu cu0 cu1 cu2
  have K : Dk w11 (w11.alloc (.cells #[.bool v.b, .slice v.A v.n v.c, .int .i64 ((hull zb za 500).sup (pts f) 2000).x] 53)) := ((Dk.refl _).alloc _)
  have Ba_124 := Lib.hid (show Bk (w11.alloc (.cells #[.bool v.b, .slice v.A v.n v.c, .int .i64 ((hull zb za 500).sup (pts f) 2000).x] 53)) (w.heap.size) 42 #[.slice Aac nd cac, .slice Aag za.m cag, .slice Aar nd car] from (Ba_103.out.alloc _))
  have Bb_125 := Lib.hid (show Bk (w11.alloc (.cells #[.bool v.b, .slice v.A v.n v.c, .int .i64 ((hull zb za 500).sup (pts f) 2000).x] 53)) (w.heap.size + 1) 42 #[.slice Abc nd cbc, .slice Abg zb.m cbg, .slice Abr nd cbr] from (Bb_104.out.alloc _))
  have Bh0_126 := Lib.hid (show Bk (w11.alloc (.cells #[.bool v.b, .slice v.A v.n v.c, .int .i64 ((hull zb za 500).sup (pts f) 2000).x] 53)) (w5.heap.size) 42 #[.slice (some ⟨gc0, 0, none⟩) nd nd, .slice (some ⟨gg0, 0, none⟩) (hull za za 500).m cg0, .slice (some ⟨gr0, 0, none⟩) nd nd] from (Bh0_105.out.alloc _))
  have Bh1_127 := Lib.hid (show Bk (w11.alloc (.cells #[.bool v.b, .slice v.A v.n v.c, .int .i64 ((hull zb za 500).sup (pts f) 2000).x] 53)) (w6.heap.size) 42 #[.slice (some ⟨gc1, 0, none⟩) nd nd, .slice (some ⟨gg1, 0, none⟩) (hull za zb 500).m cg1, .slice (some ⟨gr1, 0, none⟩) nd nd] from (Bh1_106.out.alloc _))
  have Bh2_128 := Lib.hid (show Bk (w11.alloc (.cells #[.bool v.b, .slice v.A v.n v.c, .int .i64 ((hull zb za 500).sup (pts f) 2000).x] 53)) (w7.heap.size) 42 #[.slice (some ⟨gc2, 0, none⟩) nd nd, .slice (some ⟨gg2, 0, none⟩) (hull zb za 500).m cg2, .slice (some ⟨gr2, 0, none⟩) nd nd] from (Bh2_107.out.alloc _))
  have Bx_129 := Lib.hid (show Bk (w11.alloc (.cells #[.bool v.b, .slice v.A v.n v.c, .int .i64 ((hull zb za 500).sup (pts f) 2000).x] 53)) (w8.heap.size) 53 #[.bool x.b, .slice x.A x.n x.c, .int .i64 (za.sup (pts f) 2000).x] from (Bx_108.out.alloc _))
  have By_130 := Lib.hid (show Bk (w11.alloc (.cells #[.bool v.b, .slice v.A v.n v.c, .int .i64 ((hull zb za 500).sup (pts f) 2000).x] 53)) (w9.heap.size) 53 #[.bool y.b, .slice y.A y.n y.c, .int .i64 ((hull za za 500).sup (pts f) 2000).x] from (By_109.out.alloc _))
  have Bu_131 := Lib.hid (show Bk (w11.alloc (.cells #[.bool v.b, .slice v.A v.n v.c, .int .i64 ((hull zb za 500).sup (pts f) 2000).x] 53)) (w10.heap.size) 53 #[.bool u.b, .slice u.A u.n u.c, .int .i64 ((hull za zb 500).sup (pts f) 2000).x] from (Bu_110.out.alloc _))
  have Bv_132 := Lib.hid (show Bk (w11.alloc (.cells #[.bool v.b, .slice v.A v.n v.c, .int .i64 ((hull zb za 500).sup (pts f) 2000).x] 53)) (w11.heap.size) 53 #[.bool v.b, .slice v.A v.n v.c, .int .i64 ((hull zb za 500).sup (pts f) 2000).x] from (Bk.new _ 53 #[.bool v.b, .slice v.A v.n v.c, .int .i64 ((hull zb za 500).sup (pts f) 2000).x]))
  have HB_133 := Lib.hid (show Below w7.heap.size w7 (w11.alloc (.cells #[.bool v.b, .slice v.A v.n v.c, .int .i64 ((hull zb za 500).sup (pts f) 2000).x] 53)) from (below_al HB_111.out _))
  have Rx_134 := Lib.hid (Rx_112.out.dk K)
  have Ry_135 := Lib.hid (Ry_113.out.dk K)
  have Ru_136 := Lib.hid (Ru_114.out.dk K)
  have Rv_137 := Lib.hid (Rv_115.out.dk K)
  clear K Ba_103 Bb_104 Bh0_105 Bh1_106 Bh2_107 Bx_108 By_109 Bu_110 HB_111 Rx_112 Ry_113 Ru_114 Rv_115
  generalize w11.alloc (.cells #[.bool v.b, .slice v.A v.n v.c, .int .i64 ((hull zb za 500).sup (pts f) 2000).x] 53) = w12 at *
  have la := Ba_124.out.lt
  obtain ⟨ca0, ca1, ca2⟩ := Ba_124.out.cells3
  have lb := Bb_125.out.lt
  obtain ⟨cb0, cb1, cb2⟩ := Bb_125.out.cells3
  have lh0 := Bh0_126.out.lt
  obtain ⟨ch00, ch01, ch02⟩ := Bh0_126.out.cells3
  have lh1 := Bh1_127.out.lt
  obtain ⟨ch10, ch11, ch12⟩ := Bh1_127.out.cells3
  have lh2 := Bh2_128.out.lt
  obtain ⟨ch20, ch21, ch22⟩ := Bh2_128.out.cells3
  have lx := Bx_129.out.lt
  obtain ⟨cx0, cx1, cx2⟩ := Bx_129.out.cells3
  have ly := By_130.out.lt
  obtain ⟨cy0, cy1, cy2⟩ := By_130.out.cells3
  have lu := Bu_131.out.lt
  obtain ⟨cu0, cu1, cu2⟩ := Bu_131.out.cells3
  have lv := Bv_132.out.lt
  obtain ⟨cv0, cv1, cv2⟩ := Bv_132.out.cells3
  have LDa := Lib.hid (fun (i : Nat) (hi : i < za.n) => LD.out i (by rw [← eza]; exact hi))
  have LDb := Lib.hid (fun (i : Nat) (hi : i < zb.n) => LD.out i (by rw [← ezb]; exact hi))
  have nh2 : (hull zb za 500).n ≤ 4 := by show zb.n ≤ 4; omega
  have nh0 : (hull za za 500).n ≤ 4 := by show za.n ≤ 4; omega
  have nh1 : (hull za zb 500).n ≤ 4 := by show za.n ≤ 4; omega
  have Lx := Lib.hid (sup_lim5 (LA.out.mono' (by omega) (by omega)) (by omega) (by omega) LDa.out)
  have Fx := Lib.hid (far5 (LA.out.mono' (by omega) (by omega)) (by omega) (by omega) LDa.out)
  have Ly := Lib.hid (sup_lim5 LH0.out nh0 hm0 LDa.out)
  have Fy := Lib.hid (far5 LH0.out nh0 hm0 LDa.out)
  have Lu := Lib.hid (sup_lim5 LH1.out nh1 hm1 LDa.out)
  have Fu := Lib.hid (far5 LH1.out nh1 hm1 LDa.out)
  have Lv := Lib.hid (sup_lim5 LH2.out nh2 hm2 LDb.out)
  have Fv := Lib.hid (far5 LH2.out nh2 hm2 LDb.out)
  have N1 := Lib.hid (show (za.sup (pts f) 2000).cmp ((hull za za 500).sup (pts f) 2000) = 0 from cmp_zero_iff.2 (by rw [Fx.out, Fy.out, hull_exact LA.out LA.out rfl _ (by omega), low_self]))
  have N2 := Lib.hid (show ((hull za zb 500).sup (pts f) 2000).cmp ((hull zb za 500).sup (pts f) 2000) = 0 from cmp_zero_iff.2 (by rw [Fu.out, Fv.out, hull_exact LA.out LB.out en _ (by omega), hull_exact LB.out LA.out en.symm _ (by omega), low_comm za zb _ en]))
  go_wp2_with fail
  refine (dcompare_is _ x y (za.sup (pts f) 2000) ((hull za za 500).sup (pts f) 2000) 121 330 0 Rx_134.out Ry_135.out Lx.out Ly.out (by omega) N1.out).mono ?_
  rintro e w13 ⟨rfl, hb⟩
  clear la ca0 ca1 ca2 lb cb0 cb1 cb2 lh0 ch00 ch01 ch02 lh1 ch10 ch11 ch12 lh2 ch20 ch21 ch22 lx cx0 cx1 cx2 ly cy0 cy1 cy2 lu cu0 cu1 cu2 lv cv0 cv1 cv2
  have K := Dk.below hb
  have Ba_138 := Lib.hid (show Bk _ _ _ #[.slice Aac nd cac, .slice Aag za.m cag, .slice Aar nd car] from Ba_124.out.below hb)
  have Bb_139 := Lib.hid (show Bk _ _ _ #[.slice Abc nd cbc, .slice Abg zb.m cbg, .slice Abr nd cbr] from Bb_125.out.below hb)
  have Bh0_140 := Lib.hid (show Bk _ _ _ #[.slice (some ⟨gc0, 0, none⟩) nd nd, .slice (some ⟨gg0, 0, none⟩) (hull za za 500).m cg0, .slice (some ⟨gr0, 0, none⟩) nd nd] from Bh0_126.out.below hb)
  have Bh1_141 := Lib.hid (show Bk _ _ _ #[.slice (some ⟨gc1, 0, none⟩) nd nd, .slice (some ⟨gg1, 0, none⟩) (hull za zb 500).m cg1, .slice (some ⟨gr1, 0, none⟩) nd nd] from Bh1_127.out.below hb)
  have Bh2_142 := Lib.hid (show Bk _ _ _ #[.slice (some ⟨gc2, 0, none⟩) nd nd, .slice (some ⟨gg2, 0, none⟩) (hull zb za 500).m cg2, .slice (some ⟨gr2, 0, none⟩) nd nd] from Bh2_128.out.below hb)
  have Bx_143 := Lib.hid (show Bk _ _ _ #[.bool x.b, .slice x.A x.n x.c, .int .i64 (za.sup (pts f) 2000).x] from Bx_129.out.below hb)
  have By_144 := Lib.hid (show Bk _ _ _ #[.bool y.b, .slice y.A y.n y.c, .int .i64 ((hull za za 500).sup (pts f) 2000).x] from By_130.out.below hb)
  have Bu_145 := Lib.hid (show Bk _ _ _ #[.bool u.b, .slice u.A u.n u.c, .int .i64 ((hull za zb 500).sup (pts f) 2000).x] from Bu_131.out.below hb)
  have Bv_146 := Lib.hid (show Bk _ _ _ #[.bool v.b, .slice v.A v.n v.c, .int .i64 ((hull zb za 500).sup (pts f) 2000).x] from Bv_132.out.below hb)
  have HB_147 := Lib.hid (below_tr HB_133.out hb)
  clear hb
  have Rx_148 := Lib.hid (Rx_134.out.dk K)
  have Ry_149 := Lib.hid (Ry_135.out.dk K)
  have Ru_150 := Lib.hid (Ru_136.out.dk K)
  have Rv_151 := Lib.hid (Rv_137.out.dk K)
  clear K Ba_124 Bb_125 Bh0_126 Bh1_127 Bh2_128 Bx_129 By_130 Bu_131 Bv_132 HB_133 Rx_134 Ry_135 Ru_136 Rv_137
  have la := Ba_138.out.lt
  obtain ⟨ca0, ca1, ca2⟩ := Ba_138.out.cells3
  have lb := Bb_139.out.lt
  obtain ⟨cb0, cb1, cb2⟩ := Bb_139.out.cells3
  have lh0 := Bh0_140.out.lt
  obtain ⟨ch00, ch01, ch02⟩ := Bh0_140.out.cells3
  have lh1 := Bh1_141.out.lt
  obtain ⟨ch10, ch11, ch12⟩ := Bh1_141.out.cells3
  have lh2 := Bh2_142.out.lt
  obtain ⟨ch20, ch21, ch22⟩ := Bh2_142.out.cells3
  have lx := Bx_143.out.lt
  obtain ⟨cx0, cx1, cx2⟩ := Bx_143.out.cells3
  have ly := By_144.out.lt
  obtain ⟨cy0, cy1, cy2⟩ := By_144.out.cells3
  have lu := Bu_145.out.lt
  obtain ⟨cu0, cu1, cu2⟩ := Bu_145.out.cells3
  have lv := Bv_146.out.lt
  obtain ⟨cv0, cv1, cv2⟩ := Bv_146.out.cells3
  go_wp2_with fail
  refine (dcompare_is _ u v ((hull za zb 500).sup (pts f) 2000) ((hull zb za 500).sup (pts f) 2000) 121 330 0 Ru_150.out Rv_151.out Lu.out Lv.out (by omega) N2.out).mono ?_
  rintro e w14 ⟨rfl, hb⟩
  clear la ca0 ca1 ca2 lb cb0 cb1 cb2 lh0 ch00 ch01 ch02 lh1 ch10 ch11 ch12 lh2 ch20 ch21 ch22 lx cx0 cx1 cx2 ly cy0 cy1 cy2 lu cu0 cu1 cu2 lv cv0 cv1 cv2
  have K := Dk.below hb
  have Ba_152 := Lib.hid (show Bk _ _ _ #[.slice Aac nd cac, .slice Aag za.m cag, .slice Aar nd car] from Ba_138.out.below hb)
  have Bb_153 := Lib.hid (show Bk _ _ _ #[.slice Abc nd cbc, .slice Abg zb.m cbg, .slice Abr nd cbr] from Bb_139.out.below hb)
  have Bh0_154 := Lib.hid (show Bk _ _ _ #[.slice (some ⟨gc0, 0, none⟩) nd nd, .slice (some ⟨gg0, 0, none⟩) (hull za za 500).m cg0, .slice (some ⟨gr0, 0, none⟩) nd nd] from Bh0_140.out.below hb)
  have Bh1_155 := Lib.hid (show Bk _ _ _ #[.slice (some ⟨gc1, 0, none⟩) nd nd, .slice (some ⟨gg1, 0, none⟩) (hull za zb 500).m cg1, .slice (some ⟨gr1, 0, none⟩) nd nd] from Bh1_141.out.below hb)
  have Bh2_156 := Lib.hid (show Bk _ _ _ #[.slice (some ⟨gc2, 0, none⟩) nd nd, .slice (some ⟨gg2, 0, none⟩) (hull zb za 500).m cg2, .slice (some ⟨gr2, 0, none⟩) nd nd] from Bh2_142.out.below hb)
  have Bx_157 := Lib.hid (show Bk _ _ _ #[.bool x.b, .slice x.A x.n x.c, .int .i64 (za.sup (pts f) 2000).x] from Bx_143.out.below hb)
  have By_158 := Lib.hid (show Bk _ _ _ #[.bool y.b, .slice y.A y.n y.c, .int .i64 ((hull za za 500).sup (pts f) 2000).x] from By_144.out.below hb)
  have Bu_159 := Lib.hid (show Bk _ _ _ #[.bool u.b, .slice u.A u.n u.c, .int .i64 ((hull za zb 500).sup (pts f) 2000).x] from Bu_145.out.below hb)
  have Bv_160 := Lib.hid (show Bk _ _ _ #[.bool v.b, .slice v.A v.n v.c, .int .i64 ((hull zb za 500).sup (pts f) 2000).x] from Bv_146.out.below hb)
  have HB_161 := Lib.hid (below_tr HB_147.out hb)
  clear hb
  have Rx_162 := Lib.hid (Rx_148.out.dk K)
  have Ry_163 := Lib.hid (Ry_149.out.dk K)
  have Ru_164 := Lib.hid (Ru_150.out.dk K)
  have Rv_165 := Lib.hid (Rv_151.out.dk K)
  clear K Ba_138 Bb_139 Bh0_140 Bh1_141 Bh2_142 Bx_143 By_144 Bu_145 Bv_146 HB_147 Rx_148 Ry_149 Ru_150 Rv_151
  have la := Ba_152.out.lt
  obtain ⟨ca0, ca1, ca2⟩ := Ba_152.out.cells3
  have lb := Bb_153.out.lt
  obtain ⟨cb0, cb1, cb2⟩ := Bb_153.out.cells3
  have lh0 := Bh0_154.out.lt
  obtain ⟨ch00, ch01, ch02⟩ := Bh0_154.out.cells3
  have lh1 := Bh1_155.out.lt
  obtain ⟨ch10, ch11, ch12⟩ := Bh1_155.out.cells3
  have lh2 := Bh2_156.out.lt
  obtain ⟨ch20, ch21, ch22⟩ := Bh2_156.out.cells3
  have lx := Bx_157.out.lt
  obtain ⟨cx0, cx1, cx2⟩ := Bx_157.out.cells3
  have ly := By_158.out.lt
  obtain ⟨cy0, cy1, cy2⟩ := By_158.out.cells3
  have lu := Bu_159.out.lt
  obtain ⟨cu0, cu1, cu2⟩ := Bu_159.out.cells3
  have lv := Bv_160.out.lt
  obtain ⟨cv0, cv1, cv2⟩ := Bv_160.out.cells3
  go_wp2
  go_ret
  exact ⟨rfl, below_tr BASE_52.out HB_161.out⟩

end Go.Proofs.YtgioppkggpfnoaaDoor.Nu
end
