/- Texts of the seat, laid together: Holds. -/
import Derived.Test.YtgioppkggpfnoaaDoorJn7
import Derived.RegionTactic
import Derived.StillTailTactics
import Derived.Deep.RegionHeld3
import Derived.Deep.DeepCutAuto
import Derived.Deep.CutBlock
set_option linter.all false
set_option exponentiation.threshold 20000
section
/- JoinHolds: the walk of the law. -/
set_option linter.unusedVariables false
namespace Go.Proofs.YtgioppkggpfnoaaDoor.Nu
open Go.RowKit Go.Proofs

set_option maxRecDepth 100000 in
set_option maxHeartbeats 4000000 in
theorem holds_any (w : World) (Aac Aag Aar Abc Abg Abr dA : Option Addr) (na ra ma nb rb mb nd cac cag car cbc cbg cbr dc : Nat) (hac : RawD w Aac na cac) (hag : RawR w Aag ma cag) (har : RawD w Aar ra car) (hna : Aag = none → cag = 0) (hbc : RawD w Abc nb cbc) (hbg : RawR w Abg mb cbg) (hbr : RawD w Abr rb cbr) (hnb : Abg = none → cbg = 0) (hd : RawD w dA nd dc) (ht : BTab w) :
    Calls Tryd.prog 4 #[.agg #[.slice Aac na cac, .slice Aag ma cag, .slice Aar ra car], .agg #[.slice Abc nb cbc, .slice Abg mb cbg, .slice Abr rb cbr], .slice dA nd dc] w fun e w' => e = .returned (.bool true) ∧ Below w.heap.size w w' := by
  have HAC := Lib.hid hac
  have HAG := Lib.hid hag
  have HAR := Lib.hid har
  have HNA := Lib.hid hna
  have HBC := Lib.hid hbc
  have HBG := Lib.hid hbg
  have HBR := Lib.hid hbr
  have HNB := Lib.hid hnb
  have HD := Lib.hid hd
  have HT := Lib.hid ht
  have hd62 := hd.2.1
  clear hac hag har hna hbc hbg hbr hnb hd ht
  have BX := Lib.hid (boxes2 w 42 #[.slice Aac na cac, .slice Aag ma cag, .slice Aar ra car] 42 #[.slice Abc nb cbc, .slice Abg mb cbg, .slice Abr rb cbr])
  go_enter Tryd.func4, Tryd.ntmps4
  go_wp2_with fail
  generalize (w.alloc (.cells #[.slice Aac na cac, .slice Aag ma cag, .slice Aar ra car] 42)).alloc (.cells #[.slice Abc nb cbc, .slice Abg mb cbg, .slice Abr rb cbr] 42) = w0 at *
  obtain ⟨b0, b1, hw⟩ := BX.out
  have Ba_0 := Lib.hid b0
  have Bb_0 := Lib.hid b1
  have HB_0 := Lib.hid hw
  have K := Dk.below (hw.mono (Nat.le_refl _))
  clear BX hw b0 b1
  clear K
  go_wp2_with fail
  refine (joins_any _ (HT.out.below HB_0.out)).mono ?_
  rintro e w1 ⟨rfl, hb⟩
  have K := Dk.below hb
  have Ba_1 := Lib.hid (show Bk _ _ _ #[.slice Aac na cac, .slice Aag ma cag, .slice Aar ra car] from Ba_0.out.below hb)
  have Bb_2 := Lib.hid (show Bk _ _ _ #[.slice Abc nb cbc, .slice Abg mb cbg, .slice Abr rb cbr] from Bb_0.out.below hb)
  have HB_3 := Lib.hid (below_tr HB_0.out hb)
  clear hb
  clear K Ba_0 Bb_0 HB_0
  have la := Ba_1.out.lt
  obtain ⟨ca0, ca1, ca2⟩ := Ba_1.out.cells3
  have lb := Bb_2.out.lt
  obtain ⟨cb0, cb1, cb2⟩ := Bb_2.out.cells3
  go_wp2_with fail
  refine (fit_any _ Aac Aag Aar na cac ma cag ra car nd (HAC.out.below HB_3.out) (HAG.out.below HB_3.out) (HAR.out.below HB_3.out) HNA.out hd62).mono ?_
  rintro e w2 ⟨rfl | ⟨rfl, hf⟩, hb⟩
  · clear la ca0 ca1 ca2 lb cb0 cb1 cb2
    have K := Dk.below hb
    have Ba_4 := Lib.hid (show Bk _ _ _ #[.slice Aac na cac, .slice Aag ma cag, .slice Aar ra car] from Ba_1.out.below hb)
    have Bb_5 := Lib.hid (show Bk _ _ _ #[.slice Abc nb cbc, .slice Abg mb cbg, .slice Abr rb cbr] from Bb_2.out.below hb)
    have HB_6 := Lib.hid (below_tr HB_3.out hb)
    clear hb
    clear K Ba_1 Bb_2 HB_3
    have la := Ba_4.out.lt
    obtain ⟨ca0, ca1, ca2⟩ := Ba_4.out.cells3
    have lb := Bb_5.out.lt
    obtain ⟨cb0, cb1, cb2⟩ := Bb_5.out.cells3
    go_wp2
    go_ret
    exact ⟨rfl, HB_6.out⟩
  clear la ca0 ca1 ca2 lb cb0 cb1 cb2
  have K := Dk.below hb
  have Ba_8 := Lib.hid (show Bk _ _ _ #[.slice Aac na cac, .slice Aag ma cag, .slice Aar ra car] from Ba_1.out.below hb)
  have Bb_9 := Lib.hid (show Bk _ _ _ #[.slice Abc nb cbc, .slice Abg mb cbg, .slice Abr rb cbr] from Bb_2.out.below hb)
  have HB_10 := Lib.hid (below_tr HB_3.out hb)
  clear hb
  clear K Ba_1 Bb_2 HB_3
  have FA := Lib.hid hf
  clear hf HAC HAG HAR
  have BASE_11 := Lib.hid (HB_10.out)
  replace HBC := Lib.hid (HBC.out.below HB_10.out)
  replace HBG := Lib.hid (HBG.out.below HB_10.out)
  replace HBR := Lib.hid (HBR.out.below HB_10.out)
  replace HD := Lib.hid (HD.out.below HB_10.out)
  replace HT := Lib.hid (HT.out.below HB_10.out)
  clear HB_10
  have HB_12 := Lib.hid (show Below w2.heap.size w2 w2 from Below.refl _ _)
  have la := Ba_8.out.lt
  obtain ⟨ca0, ca1, ca2⟩ := Ba_8.out.cells3
  have lb := Bb_9.out.lt
  obtain ⟨cb0, cb1, cb2⟩ := Bb_9.out.cells3
  go_wp2_with fail
  refine (fit_any _ Abc Abg Abr nb cbc mb cbg rb cbr nd HBC.out HBG.out HBR.out HNB.out hd62).mono ?_
  rintro e w3 ⟨rfl | ⟨rfl, hf⟩, hb⟩
  · clear la ca0 ca1 ca2 lb cb0 cb1 cb2
    have K := Dk.below hb
    have Ba_13 := Lib.hid (show Bk _ _ _ #[.slice Aac na cac, .slice Aag ma cag, .slice Aar ra car] from Ba_8.out.below hb)
    have Bb_14 := Lib.hid (show Bk _ _ _ #[.slice Abc nb cbc, .slice Abg mb cbg, .slice Abr rb cbr] from Bb_9.out.below hb)
    have HB_15 := Lib.hid (below_tr HB_12.out hb)
    clear hb
    clear K Ba_8 Bb_9 HB_12
    have la := Ba_13.out.lt
    obtain ⟨ca0, ca1, ca2⟩ := Ba_13.out.cells3
    have lb := Bb_14.out.lt
    obtain ⟨cb0, cb1, cb2⟩ := Bb_14.out.cells3
    go_wp2
    go_ret
    exact ⟨rfl, below_tr BASE_11.out HB_15.out⟩
  clear la ca0 ca1 ca2 lb cb0 cb1 cb2
  have K := Dk.below hb
  have Ba_17 := Lib.hid (show Bk _ _ _ #[.slice Aac na cac, .slice Aag ma cag, .slice Aar ra car] from Ba_8.out.below hb)
  have Bb_18 := Lib.hid (show Bk _ _ _ #[.slice Abc nb cbc, .slice Abg mb cbg, .slice Abr rb cbr] from Bb_9.out.below hb)
  have HB_19 := Lib.hid (below_tr HB_12.out hb)
  clear hb
  clear K Ba_8 Bb_9 HB_12
  have FB := Lib.hid hf
  clear hf HBC HBG HBR
  have BASE_20 := Lib.hid (below_tr BASE_11.out HB_19.out)
  replace FA := Lib.hid (FA.out.below HB_19.out)
  replace HD := Lib.hid (HD.out.below HB_19.out)
  replace HT := Lib.hid (HT.out.below HB_19.out)
  clear HB_19 BASE_11
  have HB_21 := Lib.hid (show Below w3.heap.size w3 w3 from Below.refl _ _)
  obtain ⟨za, e1, e2, e3, rfl, hza, oza, lza, k1, k4, k5⟩ := FA.out
  obtain ⟨zb, e4, e5, e6, rfl, hzb, ozb, lzb, _, _, k6⟩ := FB.out
  clear FA FB
  obtain rfl : nd = na := by omega
  obtain rfl : nd = ra := by omega
  obtain rfl : nd = nb := by omega
  obtain rfl : nd = rb := by omega
  have eza : za.n = nd := e3.symm
  have ezb : zb.n = nd := e6.symm
  clear e1 e2 e3 e4 e5 e6
  have ZA := Lib.hid hza
  have ZB := Lib.hid hzb
  have OA := Lib.hid oza
  have OB := Lib.hid ozb
  have LA := Lib.hid lza
  have LB := Lib.hid lzb
  clear hza hzb oza ozb lza lzb
  have la := Ba_17.out.lt
  obtain ⟨ca0, ca1, ca2⟩ := Ba_17.out.cells3
  have lb := Bb_18.out.lt
  obtain ⟨cb0, cb1, cb2⟩ := Bb_18.out.cells3
  go_wp2_with fail
  refine (small_any _ dA nd dc HD.out (by omega)).mono ?_
  rintro e w4 ⟨rfl | ⟨rfl, hs⟩, hb⟩
  · clear la ca0 ca1 ca2 lb cb0 cb1 cb2
    have K := Dk.below hb
    have Ba_22 := Lib.hid (show Bk _ _ _ #[.slice Aac nd cac, .slice Aag za.m cag, .slice Aar nd car] from Ba_17.out.below hb)
    have Bb_23 := Lib.hid (show Bk _ _ _ #[.slice Abc nd cbc, .slice Abg zb.m cbg, .slice Abr nd cbr] from Bb_18.out.below hb)
    have HB_24 := Lib.hid (below_tr HB_21.out hb)
    clear hb
    clear K Ba_17 Bb_18 HB_21
    have la := Ba_22.out.lt
    obtain ⟨ca0, ca1, ca2⟩ := Ba_22.out.cells3
    have lb := Bb_23.out.lt
    obtain ⟨cb0, cb1, cb2⟩ := Bb_23.out.cells3
    go_wp2
    go_ret
    exact ⟨rfl, below_tr BASE_20.out HB_24.out⟩
  clear la ca0 ca1 ca2 lb cb0 cb1 cb2
  have K := Dk.below hb
  have Ba_26 := Lib.hid (show Bk _ _ _ #[.slice Aac nd cac, .slice Aag za.m cag, .slice Aar nd car] from Ba_17.out.below hb)
  have Bb_27 := Lib.hid (show Bk _ _ _ #[.slice Abc nd cbc, .slice Abg zb.m cbg, .slice Abr nd cbr] from Bb_18.out.below hb)
  have HB_28 := Lib.hid (below_tr HB_21.out hb)
  clear hb
  clear K Ba_17 Bb_18 HB_21
  have SD := Lib.hid hs
  clear hs HD
  have BASE_29 := Lib.hid (below_tr BASE_20.out HB_28.out)
  replace ZA := Lib.hid (ZA.out.below HB_28.out)
  replace ZB := Lib.hid (ZB.out.below HB_28.out)
  replace HT := Lib.hid (HT.out.below HB_28.out)
  replace SD := Lib.hid (SD.out.below HB_28.out)
  clear HB_28 BASE_20
  have HB_30 := Lib.hid (show Below w4.heap.size w4 w4 from Below.refl _ _)
  obtain ⟨f, hf, hl⟩ := SD.out
  have DR := Lib.hid hf
  have LD := Lib.hid (fun (i : Nat) (hi : i < nd) => (hl i hi).2)
  clear hf hl SD
  have mm : max za.m zb.m ≤ 5 := by omega
  have la := Ba_26.out.lt
  obtain ⟨ca0, ca1, ca2⟩ := Ba_26.out.cells3
  have lb := Bb_27.out.lt
  obtain ⟨cb0, cb1, cb2⟩ := Bb_27.out.cells3
  have n_31 := Ba_26.out.lt
  have n_32 := Bb_27.out.lt
  go_wp2_with fail
  clear la ca0 ca1 ca2 lb cb0 cb1 cb2
  have K : Dk w4 (w4.alloc (.cells #[.int .i64 8, .int .i64 20, .int .i64 300] 3)) := ((Dk.refl _).alloc _)
  have Ba_33 := Lib.hid (show Bk (w4.alloc (.cells #[.int .i64 8, .int .i64 20, .int .i64 300] 3)) (w.heap.size) 42 #[.slice Aac nd cac, .slice Aag za.m cag, .slice Aar nd car] from (Ba_26.out.alloc _))
  have Bb_34 := Lib.hid (show Bk (w4.alloc (.cells #[.int .i64 8, .int .i64 20, .int .i64 300] 3)) (w.heap.size + 1) 42 #[.slice Abc nd cbc, .slice Abg zb.m cbg, .slice Abr nd cbr] from (Bb_27.out.alloc _))
  have Bq_35 := Lib.hid (show Bk (w4.alloc (.cells #[.int .i64 8, .int .i64 20, .int .i64 300] 3)) (w4.heap.size) 3 #[.int .i64 8, .int .i64 20, .int .i64 300] from (Bk.new _ 3 #[.int .i64 8, .int .i64 20, .int .i64 300]))
  have HB_36 := Lib.hid (show Below w4.heap.size w4 (w4.alloc (.cells #[.int .i64 8, .int .i64 20, .int .i64 300] 3)) from (below_al HB_30.out _))
  clear K Ba_26 Bb_27 HB_30
  generalize w4.alloc (.cells #[.int .i64 8, .int .i64 20, .int .i64 300] 3) = w5 at *
  have BASE_37 := Lib.hid (below_tr BASE_29.out HB_36.out)
  replace ZA := Lib.hid (ZA.out.below HB_36.out)
  replace ZB := Lib.hid (ZB.out.below HB_36.out)
  replace DR := Lib.hid (DR.out.below HB_36.out)
  replace HT := Lib.hid (HT.out.below HB_36.out)
  clear HB_36 BASE_29
  have HB_38 := Lib.hid (show Below w5.heap.size w5 w5 from Below.refl _ _)
  go_loopw [39] (fun k wr => ∃ i : Nat, k = .int .i64 i ∧ i ≤ 3 ∧ Hid (Below w5.heap.size w5 wr)) (fun k _ => 3 - (intOf k).toNat)
  case atStart => exact ⟨0, rfl, Nat.zero_le _, HB_38⟩
  case round =>
    obtain ⟨i, rfl, hi, Hr⟩ := hrel
    by_cases hi2 : i < 3
    · have q3 : (i : Int) < 3 := by omega
      have B9a := Lib.hid (Ba_33.out.below Hr.out)
      have B9b := Lib.hid (Bb_34.out.below Hr.out)
      have B9q := Lib.hid (Bq_35.out.below Hr.out)
      have hcell : ∃ B : Nat, 8 ≤ B ∧ B ≤ 300 ∧ wr.cell? ⟨w4.heap.size, i, none⟩ = some (.int .i64 B) := by
        obtain rfl | rfl | rfl : i = 0 ∨ i = 1 ∨ i = 2 := by omega
        · exact ⟨8, by omega, by omega, B9q.out.cell 0 rfl⟩
        · exact ⟨20, by omega, by omega, B9q.out.cell 1 rfl⟩
        · exact ⟨300, by omega, by omega, B9q.out.cell 2 rfl⟩
      obtain ⟨B, b8, b3, x0⟩ := hcell
      clear B9q
      have la := B9a.out.lt
      obtain ⟨ca0, ca1, ca2⟩ := B9a.out.cells3
      have lb := B9b.out.lt
      obtain ⟨cb0, cb1, cb2⟩ := B9b.out.cells3
      go_wp2_with fail
      refine (hull_at _ Aac Aag Aar Abc Abg Abr cac cag car cbc cbg cbr za zb nd B 60 124 eza ezb (ZA.out.below Hr.out) (ZB.out.below Hr.out) OA.out OB.out LA.out LB.out HNA.out HNB.out (by omega) (by omega) (by omega) (by omega) (HT.out.below Hr.out)).mono ?_
      rintro e w6 ⟨⟨gc, gg, gr, cg, rfl, hz⟩, hb⟩
      clear la ca0 ca1 ca2 lb cb0 cb1 cb2
      have K := Dk.below hb
      have Ba_39 := Lib.hid (show Bk _ _ _ #[.slice Aac nd cac, .slice Aag za.m cag, .slice Aar nd car] from B9a.out.below hb)
      have Bb_40 := Lib.hid (show Bk _ _ _ #[.slice Abc nd cbc, .slice Abg zb.m cbg, .slice Abr nd cbr] from B9b.out.below hb)
      have HB_41 := Lib.hid (below_tr Hr.out hb)
      clear hb
      clear K B9a B9b Hr
      clear x0
      have ZH := Lib.hid hz
      clear hz
      have BASE_42 := Lib.hid (HB_41.out)
      replace ZA := Lib.hid (ZA.out.below HB_41.out)
      replace ZB := Lib.hid (ZB.out.below HB_41.out)
      replace DR := Lib.hid (DR.out.below HB_41.out)
      replace HT := Lib.hid (HT.out.below HB_41.out)
      clear HB_41
      have HB_43 := Lib.hid (show Below w6.heap.size w6 w6 from Below.refl _ _)
      have en : za.n = zb.n := by omega
      have LH := Lib.hid (hull_lim5 LA.out LB.out en k5 k6 B)
      have OH := Lib.hid (hull_ok LA.out LB.out en OA.out B (by omega) (by omega))
      have hm : (hull za zb B).m ≤ 11 := by show 2 * max za.m zb.m + 1 ≤ 11; omega
      have n_44 := Ba_39.out.lt
      have n_45 := Bb_40.out.lt
      go_upto_region 10 with (fail)
      have K : Dk w6 (w6.alloc (.cells #[.slice (some ⟨gc, 0, none⟩) nd nd, .slice (some ⟨gg, 0, none⟩) (hull za zb B).m cg, .slice (some ⟨gr, 0, none⟩) nd nd] 42)) := ((Dk.refl _).alloc _)
      have Ba_46 := Lib.hid (show Bk (w6.alloc (.cells #[.slice (some ⟨gc, 0, none⟩) nd nd, .slice (some ⟨gg, 0, none⟩) (hull za zb B).m cg, .slice (some ⟨gr, 0, none⟩) nd nd] 42)) (w.heap.size) 42 #[.slice Aac nd cac, .slice Aag za.m cag, .slice Aar nd car] from (Ba_39.out.alloc _))
      have Bb_47 := Lib.hid (show Bk (w6.alloc (.cells #[.slice (some ⟨gc, 0, none⟩) nd nd, .slice (some ⟨gg, 0, none⟩) (hull za zb B).m cg, .slice (some ⟨gr, 0, none⟩) nd nd] 42)) (w.heap.size + 1) 42 #[.slice Abc nd cbc, .slice Abg zb.m cbg, .slice Abr nd cbr] from (Bb_40.out.alloc _))
      have Bh_48 := Lib.hid (show Bk (w6.alloc (.cells #[.slice (some ⟨gc, 0, none⟩) nd nd, .slice (some ⟨gg, 0, none⟩) (hull za zb B).m cg, .slice (some ⟨gr, 0, none⟩) nd nd] 42)) (w6.heap.size) 42 #[.slice (some ⟨gc, 0, none⟩) nd nd, .slice (some ⟨gg, 0, none⟩) (hull za zb B).m cg, .slice (some ⟨gr, 0, none⟩) nd nd] from (Bk.new _ 42 #[.slice (some ⟨gc, 0, none⟩) nd nd, .slice (some ⟨gg, 0, none⟩) (hull za zb B).m cg, .slice (some ⟨gr, 0, none⟩) nd nd]))
      have HB_49 := Lib.hid (show Below w6.heap.size w6 (w6.alloc (.cells #[.slice (some ⟨gc, 0, none⟩) nd nd, .slice (some ⟨gg, 0, none⟩) (hull za zb B).m cg, .slice (some ⟨gr, 0, none⟩) nd nd] 42)) from (below_al HB_43.out _))
      clear K Ba_39 Bb_40 HB_43
      generalize w6.alloc (.cells #[.slice (some ⟨gc, 0, none⟩) nd nd, .slice (some ⟨gg, 0, none⟩) (hull za zb B).m cg, .slice (some ⟨gr, 0, none⟩) nd nd] 42) = w7 at *
      have la := Ba_46.out.lt
      obtain ⟨ca0, ca1, ca2⟩ := Ba_46.out.cells3
      have lb := Bb_47.out.lt
      obtain ⟨cb0, cb1, cb2⟩ := Bb_47.out.cells3
      have lh := Bh_48.out.lt
      obtain ⟨ch0, ch1, ch2⟩ := Bh_48.out.cells3
      go_wp2_with fail
      refine (zcheck_at _ (some ⟨gc, 0, none⟩) (some ⟨gg, 0, none⟩) (some ⟨gr, 0, none⟩) nd cg nd (hull za zb B) nd eza (ZH.out.below HB_49.out) OH.out (fun e => by cases e)).mono ?_
      rintro e w8 ⟨rfl, hb⟩
      clear la ca0 ca1 ca2 lb cb0 cb1 cb2 lh ch0 ch1 ch2
      have K := Dk.below hb
      have Ba_50 := Lib.hid (show Bk _ _ _ #[.slice Aac nd cac, .slice Aag za.m cag, .slice Aar nd car] from Ba_46.out.below hb)
      have Bb_51 := Lib.hid (show Bk _ _ _ #[.slice Abc nd cbc, .slice Abg zb.m cbg, .slice Abr nd cbr] from Bb_47.out.below hb)
      have Bh_52 := Lib.hid (show Bk _ _ _ #[.slice (some ⟨gc, 0, none⟩) nd nd, .slice (some ⟨gg, 0, none⟩) (hull za zb B).m cg, .slice (some ⟨gr, 0, none⟩) nd nd] from Bh_48.out.below hb)
      have HB_53 := Lib.hid (below_tr HB_49.out hb)
      clear hb
      clear K Ba_46 Bb_47 Bh_48 HB_49
      have la := Ba_50.out.lt
      obtain ⟨ca0, ca1, ca2⟩ := Ba_50.out.cells3
      have lb := Bb_51.out.lt
      obtain ⟨cb0, cb1, cb2⟩ := Bb_51.out.cells3
      have lh := Bh_52.out.lt
      obtain ⟨ch0, ch1, ch2⟩ := Bh_52.out.cells3
      go_wp2_with fail
      refine (far_at _ Aac Aag Aar cac cag car za nd dA dc f 61 151 60 124 eza (ZA.out.below HB_53.out) (DR.out.below HB_53.out) (LA.out.mono' (by omega) (by omega)) LD.out (by omega) (HT.out.below HB_53.out)).mono ?_
      rintro e w9 ⟨⟨p, rfl, hp⟩, hb⟩
      clear la ca0 ca1 ca2 lb cb0 cb1 cb2 lh ch0 ch1 ch2
      have K := Dk.below hb
      have Ba_54 := Lib.hid (show Bk _ _ _ #[.slice Aac nd cac, .slice Aag za.m cag, .slice Aar nd car] from Ba_50.out.below hb)
      have Bb_55 := Lib.hid (show Bk _ _ _ #[.slice Abc nd cbc, .slice Abg zb.m cbg, .slice Abr nd cbr] from Bb_51.out.below hb)
      have Bh_56 := Lib.hid (show Bk _ _ _ #[.slice (some ⟨gc, 0, none⟩) nd nd, .slice (some ⟨gg, 0, none⟩) (hull za zb B).m cg, .slice (some ⟨gr, 0, none⟩) nd nd] from Bh_52.out.below hb)
      have HB_57 := Lib.hid (below_tr HB_53.out hb)
      clear hb
      clear K Ba_50 Bb_51 Bh_52 HB_53
      have RP_58 := Lib.hid hp
      clear hp
      have la := Ba_54.out.lt
      obtain ⟨ca0, ca1, ca2⟩ := Ba_54.out.cells3
      have lb := Bb_55.out.lt
      obtain ⟨cb0, cb1, cb2⟩ := Bb_55.out.cells3
      have lh := Bh_56.out.lt
      obtain ⟨ch0, ch1, ch2⟩ := Bh_56.out.cells3
      have n_59 := Ba_54.out.lt
      have n_60 := Bb_55.out.lt
      have n_61 := Bh_56.out.lt
      go_wp2_with fail
      refine (far_at _ Abc Abg Abr cbc cbg cbr zb nd dA dc f 61 151 60 124 ezb (ZB.out.below (below_al HB_57.out _)) (DR.out.below (below_al HB_57.out _)) (LB.out.mono' (by omega) (by omega)) LD.out (by omega) (HT.out.below (below_al HB_57.out _))).mono ?_
      rintro e w10 ⟨⟨q, rfl, hq⟩, hb⟩
      clear la ca0 ca1 ca2 lb cb0 cb1 cb2 lh ch0 ch1 ch2
      have K := Dk.trans ((Dk.refl _).alloc _) (.below hb)
      have Ba_62 := Lib.hid (show Bk _ _ _ #[.slice Aac nd cac, .slice Aag za.m cag, .slice Aar nd car] from (Ba_54.out.alloc _).below hb)
      have Bb_63 := Lib.hid (show Bk _ _ _ #[.slice Abc nd cbc, .slice Abg zb.m cbg, .slice Abr nd cbr] from (Bb_55.out.alloc _).below hb)
      have Bh_64 := Lib.hid (show Bk _ _ _ #[.slice (some ⟨gc, 0, none⟩) nd nd, .slice (some ⟨gg, 0, none⟩) (hull za zb B).m cg, .slice (some ⟨gr, 0, none⟩) nd nd] from (Bh_56.out.alloc _).below hb)
      have Bx_65 := Lib.hid (show Bk _ _ _ #[.bool p.b, .slice p.A p.n p.c, .int .i64 (za.sup (pts f) 2000).x] from (Bk.new _ 53 #[.bool p.b, .slice p.A p.n p.c, .int .i64 (za.sup (pts f) 2000).x]).below hb)
      have HB_66 := Lib.hid (below_tr (below_al HB_57.out _) hb)
      clear hb
      have RP_67 := Lib.hid (RP_58.out.dk K)
      clear K Ba_54 Bb_55 Bh_56 HB_57 RP_58
      have RQ_68 := Lib.hid hq
      clear hq
      have la := Ba_62.out.lt
      obtain ⟨ca0, ca1, ca2⟩ := Ba_62.out.cells3
      have lb := Bb_63.out.lt
      obtain ⟨cb0, cb1, cb2⟩ := Bb_63.out.cells3
      have lh := Bh_64.out.lt
      obtain ⟨ch0, ch1, ch2⟩ := Bh_64.out.cells3
      have lx := Bx_65.out.lt
      obtain ⟨cx0, cx1, cx2⟩ := Bx_65.out.cells3
      have n_69 := Ba_62.out.lt
      have n_70 := Bb_63.out.lt
      have n_71 := Bh_64.out.lt
      have n_72 := Bx_65.out.lt
      go_wp2_with fail
      refine (far_at _ (some ⟨gc, 0, none⟩) (some ⟨gg, 0, none⟩) (some ⟨gr, 0, none⟩) nd cg nd (hull za zb B) nd dA dc f 61 151 60 124 eza (ZH.out.below (below_al HB_66.out _)) (DR.out.below (below_al HB_66.out _)) LH.out LD.out (by omega) (HT.out.below (below_al HB_66.out _))).mono ?_
      rintro e w11 ⟨⟨r, rfl, hr⟩, hb⟩
      clear la ca0 ca1 ca2 lb cb0 cb1 cb2 lh ch0 ch1 ch2 lx cx0 cx1 cx2
      have K := Dk.trans ((Dk.refl _).alloc _) (.below hb)
      have Ba_73 := Lib.hid (show Bk _ _ _ #[.slice Aac nd cac, .slice Aag za.m cag, .slice Aar nd car] from (Ba_62.out.alloc _).below hb)
      have Bb_74 := Lib.hid (show Bk _ _ _ #[.slice Abc nd cbc, .slice Abg zb.m cbg, .slice Abr nd cbr] from (Bb_63.out.alloc _).below hb)
      have Bh_75 := Lib.hid (show Bk _ _ _ #[.slice (some ⟨gc, 0, none⟩) nd nd, .slice (some ⟨gg, 0, none⟩) (hull za zb B).m cg, .slice (some ⟨gr, 0, none⟩) nd nd] from (Bh_64.out.alloc _).below hb)
      have Bx_76 := Lib.hid (show Bk _ _ _ #[.bool p.b, .slice p.A p.n p.c, .int .i64 (za.sup (pts f) 2000).x] from (Bx_65.out.alloc _).below hb)
      have By_77 := Lib.hid (show Bk _ _ _ #[.bool q.b, .slice q.A q.n q.c, .int .i64 (zb.sup (pts f) 2000).x] from (Bk.new _ 53 #[.bool q.b, .slice q.A q.n q.c, .int .i64 (zb.sup (pts f) 2000).x]).below hb)
      have HB_78 := Lib.hid (below_tr (below_al HB_66.out _) hb)
      clear hb
      have RP_79 := Lib.hid (RP_67.out.dk K)
      have RQ_80 := Lib.hid (RQ_68.out.dk K)
      clear K Ba_62 Bb_63 Bh_64 Bx_65 HB_66 RP_67 RQ_68
      have RR_81 := Lib.hid hr
      clear hr
      have la := Ba_73.out.lt
      obtain ⟨ca0, ca1, ca2⟩ := Ba_73.out.cells3
      have lb := Bb_74.out.lt
      obtain ⟨cb0, cb1, cb2⟩ := Bb_74.out.cells3
      have lh := Bh_75.out.lt
      obtain ⟨ch0, ch1, ch2⟩ := Bh_75.out.cells3
      have lx := Bx_76.out.lt
      obtain ⟨cx0, cx1, cx2⟩ := Bx_76.out.cells3
      have ly := By_77.out.lt
      obtain ⟨cy0, cy1, cy2⟩ := By_77.out.cells3
      have n_82 := Ba_73.out.lt
      have n_83 := Bb_74.out.lt
      have n_84 := Bh_75.out.lt
      have n_85 := Bx_76.out.lt
      have n_86 := By_77.out.lt
      go_upto_region 15 with (fail)
      clear la ca0 ca1 ca2 lb cb0 cb1 cb2 lh ch0 ch1 ch2 lx cx0 cx1 cx2 ly cy0 cy1 cy2
      have K : Dk w11 (w11.alloc (.cells #[.bool r.b, .slice r.A r.n r.c, .int .i64 ((hull za zb B).sup (pts f) 2000).x] 53)) := ((Dk.refl _).alloc _)
      have Ba_87 := Lib.hid (show Bk (w11.alloc (.cells #[.bool r.b, .slice r.A r.n r.c, .int .i64 ((hull za zb B).sup (pts f) 2000).x] 53)) (w.heap.size) 42 #[.slice Aac nd cac, .slice Aag za.m cag, .slice Aar nd car] from (Ba_73.out.alloc _))
      have Bb_88 := Lib.hid (show Bk (w11.alloc (.cells #[.bool r.b, .slice r.A r.n r.c, .int .i64 ((hull za zb B).sup (pts f) 2000).x] 53)) (w.heap.size + 1) 42 #[.slice Abc nd cbc, .slice Abg zb.m cbg, .slice Abr nd cbr] from (Bb_74.out.alloc _))
      have Bh_89 := Lib.hid (show Bk (w11.alloc (.cells #[.bool r.b, .slice r.A r.n r.c, .int .i64 ((hull za zb B).sup (pts f) 2000).x] 53)) (w6.heap.size) 42 #[.slice (some ⟨gc, 0, none⟩) nd nd, .slice (some ⟨gg, 0, none⟩) (hull za zb B).m cg, .slice (some ⟨gr, 0, none⟩) nd nd] from (Bh_75.out.alloc _))
      have Bx_90 := Lib.hid (show Bk (w11.alloc (.cells #[.bool r.b, .slice r.A r.n r.c, .int .i64 ((hull za zb B).sup (pts f) 2000).x] 53)) (w9.heap.size) 53 #[.bool p.b, .slice p.A p.n p.c, .int .i64 (za.sup (pts f) 2000).x] from (Bx_76.out.alloc _))
      have By_91 := Lib.hid (show Bk (w11.alloc (.cells #[.bool r.b, .slice r.A r.n r.c, .int .i64 ((hull za zb B).sup (pts f) 2000).x] 53)) (w10.heap.size) 53 #[.bool q.b, .slice q.A q.n q.c, .int .i64 (zb.sup (pts f) 2000).x] from (By_77.out.alloc _))
      have Bz_92 := Lib.hid (show Bk (w11.alloc (.cells #[.bool r.b, .slice r.A r.n r.c, .int .i64 ((hull za zb B).sup (pts f) 2000).x] 53)) (w11.heap.size) 53 #[.bool r.b, .slice r.A r.n r.c, .int .i64 ((hull za zb B).sup (pts f) 2000).x] from (Bk.new _ 53 #[.bool r.b, .slice r.A r.n r.c, .int .i64 ((hull za zb B).sup (pts f) 2000).x]))
      have HB_93 := Lib.hid (show Below w6.heap.size w6 (w11.alloc (.cells #[.bool r.b, .slice r.A r.n r.c, .int .i64 ((hull za zb B).sup (pts f) 2000).x] 53)) from (below_al HB_78.out _))
      have RP_94 := Lib.hid (RP_79.out.dk K)
      have RQ_95 := Lib.hid (RQ_80.out.dk K)
      have RR_96 := Lib.hid (RR_81.out.dk K)
      clear K Ba_73 Bb_74 Bh_75 Bx_76 By_77 HB_78 RP_79 RQ_80 RR_81
      generalize w11.alloc (.cells #[.bool r.b, .slice r.A r.n r.c, .int .i64 ((hull za zb B).sup (pts f) 2000).x] 53) = w12 at *
      have la := Ba_87.out.lt
      obtain ⟨ca0, ca1, ca2⟩ := Ba_87.out.cells3
      have lb := Bb_88.out.lt
      obtain ⟨cb0, cb1, cb2⟩ := Bb_88.out.cells3
      have lh := Bh_89.out.lt
      obtain ⟨ch0, ch1, ch2⟩ := Bh_89.out.cells3
      have lx := Bx_90.out.lt
      obtain ⟨cx0, cx1, cx2⟩ := Bx_90.out.cells3
      have ly := By_91.out.lt
      obtain ⟨cy0, cy1, cy2⟩ := By_91.out.cells3
      have lz := Bz_92.out.lt
      obtain ⟨cz0, cz1, cz2⟩ := Bz_92.out.cells3
      have nh : (hull za zb B).n = nd := eza
      have LDa := Lib.hid (fun (i : Nat) (hi : i < za.n) => LD.out i (by rw [← eza]; exact hi))
      have LDb := Lib.hid (fun (i : Nat) (hi : i < zb.n) => LD.out i (by rw [← ezb]; exact hi))
      have LX := Lib.hid (sup_lim5 (LA.out.mono' (by omega) (by omega)) (by omega) (by omega) LDa.out)
      have LY := Lib.hid (sup_lim5 (LB.out.mono' (by omega) (by omega)) (by omega) (by omega) LDb.out)
      have LZ := Lib.hid (sup_lim5 LH.out (by omega) hm LDa.out)
      have F1 := Lib.hid (far5 (LA.out.mono' (by omega) (by omega)) (by omega) (by omega) LDa.out)
      have F2 := Lib.hid (far5 (LB.out.mono' (by omega) (by omega)) (by omega) (by omega) LDb.out)
      have F3 := Lib.hid (far5 LH.out (by omega) hm LDa.out)
      have N1 := Lib.hid (show decide (((hull za zb B).sup (pts f) 2000).cmp (za.sup (pts f) 2000) < 0) = false from not_less (by rw [F1.out, F3.out]; exact hull_a za zb B _))
      have N2 := Lib.hid (show decide (((hull za zb B).sup (pts f) 2000).cmp (zb.sup (pts f) 2000) < 0) = false from not_less (by rw [F2.out, F3.out]; exact hull_b za zb B _ en))
      go_wp2_with fail
      refine (dless_is _ r p ((hull za zb B).sup (pts f) 2000) (za.sup (pts f) 2000) 121 330 false RR_96.out RP_94.out LZ.out LX.out (by omega) N1.out).mono ?_
      rintro e w13 ⟨rfl, hb⟩
      clear la ca0 ca1 ca2 lb cb0 cb1 cb2 lh ch0 ch1 ch2 lx cx0 cx1 cx2 ly cy0 cy1 cy2 lz cz0 cz1 cz2
      have K := Dk.below hb
      have Ba_97 := Lib.hid (show Bk _ _ _ #[.slice Aac nd cac, .slice Aag za.m cag, .slice Aar nd car] from Ba_87.out.below hb)
      have Bb_98 := Lib.hid (show Bk _ _ _ #[.slice Abc nd cbc, .slice Abg zb.m cbg, .slice Abr nd cbr] from Bb_88.out.below hb)
      have Bh_99 := Lib.hid (show Bk _ _ _ #[.slice (some ⟨gc, 0, none⟩) nd nd, .slice (some ⟨gg, 0, none⟩) (hull za zb B).m cg, .slice (some ⟨gr, 0, none⟩) nd nd] from Bh_89.out.below hb)
      have Bx_100 := Lib.hid (show Bk _ _ _ #[.bool p.b, .slice p.A p.n p.c, .int .i64 (za.sup (pts f) 2000).x] from Bx_90.out.below hb)
      have By_101 := Lib.hid (show Bk _ _ _ #[.bool q.b, .slice q.A q.n q.c, .int .i64 (zb.sup (pts f) 2000).x] from By_91.out.below hb)
      have Bz_102 := Lib.hid (show Bk _ _ _ #[.bool r.b, .slice r.A r.n r.c, .int .i64 ((hull za zb B).sup (pts f) 2000).x] from Bz_92.out.below hb)
      have HB_103 := Lib.hid (below_tr HB_93.out hb)
      clear hb
      have RP_104 := Lib.hid (RP_94.out.dk K)
      have RQ_105 := Lib.hid (RQ_95.out.dk K)
      have RR_106 := Lib.hid (RR_96.out.dk K)
      clear K Ba_87 Bb_88 Bh_89 Bx_90 By_91 Bz_92 HB_93 RP_94 RQ_95 RR_96
      have la := Ba_97.out.lt
      obtain ⟨ca0, ca1, ca2⟩ := Ba_97.out.cells3
      have lb := Bb_98.out.lt
      obtain ⟨cb0, cb1, cb2⟩ := Bb_98.out.cells3
      have lh := Bh_99.out.lt
      obtain ⟨ch0, ch1, ch2⟩ := Bh_99.out.cells3
      have lx := Bx_100.out.lt
      obtain ⟨cx0, cx1, cx2⟩ := Bx_100.out.cells3
      have ly := By_101.out.lt
      obtain ⟨cy0, cy1, cy2⟩ := By_101.out.cells3
      have lz := Bz_102.out.lt
      obtain ⟨cz0, cz1, cz2⟩ := Bz_102.out.cells3
      go_wp2_with fail
      refine (dless_is _ r q ((hull za zb B).sup (pts f) 2000) (zb.sup (pts f) 2000) 121 330 false RR_106.out RQ_105.out LZ.out LY.out (by omega) N2.out).mono ?_
      rintro e w14 ⟨rfl, hb⟩
      clear la ca0 ca1 ca2 lb cb0 cb1 cb2 lh ch0 ch1 ch2 lx cx0 cx1 cx2 ly cy0 cy1 cy2 lz cz0 cz1 cz2
      have K := Dk.below hb
      have Ba_107 := Lib.hid (show Bk _ _ _ #[.slice Aac nd cac, .slice Aag za.m cag, .slice Aar nd car] from Ba_97.out.below hb)
      have Bb_108 := Lib.hid (show Bk _ _ _ #[.slice Abc nd cbc, .slice Abg zb.m cbg, .slice Abr nd cbr] from Bb_98.out.below hb)
      have Bh_109 := Lib.hid (show Bk _ _ _ #[.slice (some ⟨gc, 0, none⟩) nd nd, .slice (some ⟨gg, 0, none⟩) (hull za zb B).m cg, .slice (some ⟨gr, 0, none⟩) nd nd] from Bh_99.out.below hb)
      have Bx_110 := Lib.hid (show Bk _ _ _ #[.bool p.b, .slice p.A p.n p.c, .int .i64 (za.sup (pts f) 2000).x] from Bx_100.out.below hb)
      have By_111 := Lib.hid (show Bk _ _ _ #[.bool q.b, .slice q.A q.n q.c, .int .i64 (zb.sup (pts f) 2000).x] from By_101.out.below hb)
      have Bz_112 := Lib.hid (show Bk _ _ _ #[.bool r.b, .slice r.A r.n r.c, .int .i64 ((hull za zb B).sup (pts f) 2000).x] from Bz_102.out.below hb)
      have HB_113 := Lib.hid (below_tr HB_103.out hb)
      clear hb
      have RP_114 := Lib.hid (RP_104.out.dk K)
      have RQ_115 := Lib.hid (RQ_105.out.dk K)
      have RR_116 := Lib.hid (RR_106.out.dk K)
      clear K Ba_97 Bb_98 Bh_99 Bx_100 By_101 Bz_102 HB_103 RP_104 RQ_105 RR_106
      go_wp2
      go_roundw
      case rel => exact ⟨i + 1, by go_num, hi2, Lib.hid (below_tr BASE_42.out HB_113.out)⟩
      case measure => simp only [intOf]; omega
    · obtain rfl : i = 3 := by omega
      go_wp2
      go_ret
      exact ⟨rfl, below_tr BASE_37.out Hr.out⟩

end Go.Proofs.YtgioppkggpfnoaaDoor.Nu
end
