/- Texts of the seat, laid together: Hull, Point, HullBad, JnP, JnC, JnS, JnT, Joins, Small, Fit, Far, JnU, RowKit. -/
import Derived.Test.YtgioppkggpfnoaaDoorJn5
import Derived.RegionTactic
import Derived.StillTailTactics
import Derived.Deep.RegionHeld3
import Derived.Deep.DeepCutAuto
import Derived.Deep.CutBlock
import Derived.Maps.AppendAt
import Derived.Laws.OwnMore
import Derived.Test.YtgioppkggpfnoaaDoorCards
import Derived.Test.YtgioppkggpfnoaaDoorTie
import Derived.WalkKit
import Derived.ProofKit
import Derived.OpenShut
import Derived.Below
import Derived.ChangeSame
import Derived.Deep.DeepHandedRow
import Derived.Deep.DeepWitnessRowRef
import Derived.Lib.LaidTab
set_option linter.all false
set_option exponentiation.threshold 20000
section
/- The walk of join.Hull. -/
set_option linter.unusedVariables false
namespace Go.Proofs.YtgioppkggpfnoaaDoor.Nu
open Go.RowKit Go.Proofs

set_option maxRecDepth 100000 in
set_option maxHeartbeats 4000000 in
theorem hull_any (w : World) (Aac Aag Aar Abc Abg Abr : Option Addr) (cac cag car cbc cbg cbr : Nat) (a b : Zo) (bits : Nat) (E T : Nat) (ha : RZo w ⟨Aac, cac, Aag, cag, Aar, car⟩ a) (hb : RZo w ⟨Abc, cbc, Abg, cbg, Abr, cbr⟩ b) (hn : a.n = b.n) (oa : a.Ok) (ob : b.Ok) (la : a.Lim E T) (lb : b.Lim E T) (hna : Aag = none → cag = 0) (hnb : Abg = none → cbg = 0) (hm : max a.m b.m ≤ 2047) (hET : E + T + 4 * max a.m b.m + 20 ≤ 16000) (hb2 : 2 ≤ bits) (hb3 : bits ≤ 4096) (ht : BTab w) :
    Calls Tryd.prog 26 #[.agg #[.slice Aac a.n cac, .slice Aag a.m cag, .slice Aar a.n car], .agg #[.slice Abc b.n cbc, .slice Abg b.m cbg, .slice Abr b.n cbr], .int .i64 bits] w fun e w' => (∃ (gc gg gr cg : Nat), e = .returned (.tuple #[.agg #[.slice (some ⟨gc, 0, none⟩) a.n a.n, .slice (some ⟨gg, 0, none⟩) (hull a b bits).m cg, .slice (some ⟨gr, 0, none⟩) a.n a.n], .int .i64 0]) ∧ RZo w' ⟨some ⟨gc, 0, none⟩, a.n, some ⟨gg, 0, none⟩, cg, some ⟨gr, 0, none⟩, a.n⟩ (hull a b bits)) ∧ Below w.heap.size w w' := by
  have HA := Lib.hid ha
  have HB := Lib.hid hb
  have OA := Lib.hid oa
  have OB := Lib.hid ob
  have LA := Lib.hid la
  have LB := Lib.hid lb
  have HT := Lib.hid ht
  have HNA := Lib.hid hna
  have HNB := Lib.hid hnb
  have n16 := oa.n
  have n0 : a.n ≤ 1000000 := by omega
  clear ha hb oa ob la lb ht hna hnb
  have hmk := fun W => make_D a.n n0 W
  have HMK := Lib.hid hmk
  clear hmk
  have m1 : (0 : Int) ≤ max (a.m : Int) (b.m : Int) := by omega
  have m2 : max (a.m : Int) (b.m : Int) ≤ 2047 := by omega
  have eH : E + T + 4 ≤ 16000 := by omega
  have HBC := Lib.hid (show RDs w Abc a.n cbc b.c by rw [hn]; exact HB.out.c)
  have HBR := Lib.hid (show RDs w Abr a.n cbr b.r by rw [hn]; exact HB.out.r)
  have HBG := Lib.hid (show RDss w Abg b.m cbg a.n b.g by rw [hn]; exact HB.out.g)
  have HAC := Lib.hid (show RDs w Aac a.n cac a.c from HA.out.c)
  have HAR := Lib.hid (show RDs w Aar a.n car a.r from HA.out.r)
  have HAG := Lib.hid (show RDss w Aag a.m cag a.n a.g from HA.out.g)
  have ZB := Lib.hid (fun (W : World) (h : RZo W ⟨Abc, cbc, Abg, cbg, Abr, cbr⟩ b) => zcheck_good W Abc Abg Abr cbc cbg cbr b h OB.out HNB.out)
  have ATB := Lib.hid (fun (W : World) (i gt gN : Nat) (h : RDss W Abg b.m cbg b.n b.g) (h2 : OD W gN b.n (fun _ => D.zero)) (h3 : Bk W gt 39 #[.slice (some ⟨gN, 0, none⟩) b.n b.n]) (hi : i ≤ 1000000) (n0 : b.n ≤ 1000000) => at_any W Abc Abg Abr cbc cbg cbr b i gt gN h h2 h3 hi n0)
  rw [← hn] at ZB ATB ⊢
  have HN := Lib.hid hn
  clear hn
  have BX := Lib.hid (boxes3 w 42 #[.slice Aac a.n cac, .slice Aag a.m cag, .slice Aar a.n car] 42 #[.slice Abc a.n cbc, .slice Abg b.m cbg, .slice Abr a.n cbr] 42 #[.slice none 0 0, .slice none 0 0, .slice none 0 0])
  go_enter Tryd.func26, Tryd.ntmps26
  go_wp2_with fail
  generalize ((w.alloc (.cells #[.slice Aac a.n cac, .slice Aag a.m cag, .slice Aar a.n car] 42)).alloc (.cells #[.slice Abc a.n cbc, .slice Abg b.m cbg, .slice Abr a.n cbr] 42)).alloc (.cells #[.slice none 0 0, .slice none 0 0, .slice none 0 0] 42) = w0 at *
  obtain ⟨b0, b1, b2, hw⟩ := BX.out
  have Ba_0 := Lib.hid b0
  have Bb_0 := Lib.hid b1
  have Bo_0 := Lib.hid b2
  have HB_0 := Lib.hid hw
  have K := Dk.below (hw.mono (Nat.le_refl _))
  clear BX hw b0 b1 b2
  clear K
  have la := Ba_0.out.lt
  obtain ⟨ca0, ca1, ca2⟩ := Ba_0.out.cells3
  have lb := Bb_0.out.lt
  obtain ⟨cb0, cb1, cb2⟩ := Bb_0.out.cells3
  have lo := Bo_0.out.lt
  obtain ⟨co0, co1, co2⟩ := Bo_0.out.cells3
  go_wp2_with fail
  refine (zcheck_good _ Aac Aag Aar cac cag car a (HA.out.below HB_0.out) OA.out HNA.out).mono ?_
  rintro e w1 ⟨rfl, hb⟩
  clear la ca0 ca1 ca2 lb cb0 cb1 cb2 lo co0 co1 co2
  have K := Dk.below hb
  have Ba_1 := Lib.hid (show Bk _ _ _ #[.slice Aac a.n cac, .slice Aag a.m cag, .slice Aar a.n car] from Ba_0.out.below hb)
  have Bb_2 := Lib.hid (show Bk _ _ _ #[.slice Abc a.n cbc, .slice Abg b.m cbg, .slice Abr a.n cbr] from Bb_0.out.below hb)
  have Bo_3 := Lib.hid (show Bk _ _ _ #[.slice none 0 0, .slice none 0 0, .slice none 0 0] from Bo_0.out.below hb)
  have HB_4 := Lib.hid (below_tr HB_0.out hb)
  clear hb
  clear K Ba_0 Bb_0 Bo_0 HB_0
  have la := Ba_1.out.lt
  obtain ⟨ca0, ca1, ca2⟩ := Ba_1.out.cells3
  have lb := Bb_2.out.lt
  obtain ⟨cb0, cb1, cb2⟩ := Bb_2.out.cells3
  have lo := Bo_3.out.lt
  obtain ⟨co0, co1, co2⟩ := Bo_3.out.cells3
  go_wp2_with fail
  refine (ZB.out _ (HB.out.below HB_4.out)).mono ?_
  rintro e w2 ⟨rfl, hb⟩
  clear la ca0 ca1 ca2 lb cb0 cb1 cb2 lo co0 co1 co2
  have K := Dk.below hb
  have Ba_5 := Lib.hid (show Bk _ _ _ #[.slice Aac a.n cac, .slice Aag a.m cag, .slice Aar a.n car] from Ba_1.out.below hb)
  have Bb_6 := Lib.hid (show Bk _ _ _ #[.slice Abc a.n cbc, .slice Abg b.m cbg, .slice Abr a.n cbr] from Bb_2.out.below hb)
  have Bo_7 := Lib.hid (show Bk _ _ _ #[.slice none 0 0, .slice none 0 0, .slice none 0 0] from Bo_3.out.below hb)
  have HB_8 := Lib.hid (below_tr HB_4.out hb)
  clear hb
  clear K Ba_1 Bb_2 Bo_3 HB_4
  have la := Ba_5.out.lt
  obtain ⟨ca0, ca1, ca2⟩ := Ba_5.out.cells3
  have lb := Bb_6.out.lt
  obtain ⟨cb0, cb1, cb2⟩ := Bb_6.out.cells3
  have lo := Bo_7.out.lt
  obtain ⟨co0, co1, co2⟩ := Bo_7.out.cells3
  go_wp2_with fail
  refine (halves_plain _ Aac Abc a.n cac cbc a.c b.c bits E T (HAC.out.below HB_8.out) (HBC.out.below HB_8.out) LA.out.c (fun i hi => LB.out.c i (by rw [← HN.out]; exact hi)) eH hb2 hb3 (HT.out.below HB_8.out)).mono ?_
  rintro e w3 ⟨⟨g1, g2, rfl, hg1, hg2, ho1, ho2⟩, hb⟩
  clear la ca0 ca1 ca2 lb cb0 cb1 cb2 lo co0 co1 co2
  have K := Dk.below hb
  have Ba_9 := Lib.hid (show Bk _ _ _ #[.slice Aac a.n cac, .slice Aag a.m cag, .slice Aar a.n car] from Ba_5.out.below hb)
  have Bb_10 := Lib.hid (show Bk _ _ _ #[.slice Abc a.n cbc, .slice Abg b.m cbg, .slice Abr a.n cbr] from Bb_6.out.below hb)
  have Bo_11 := Lib.hid (show Bk _ _ _ #[.slice none 0 0, .slice none 0 0, .slice none 0 0] from Bo_7.out.below hb)
  have HB_12 := Lib.hid (below_tr HB_8.out hb)
  clear hb
  clear K Ba_5 Bb_6 Bo_7 HB_8
  have O1 := Lib.hid ho1
  have O2 := Lib.hid ho2
  clear ho1 ho2
  have la := Ba_9.out.lt
  obtain ⟨ca0, ca1, ca2⟩ := Ba_9.out.cells3
  have lb := Bb_10.out.lt
  obtain ⟨cb0, cb1, cb2⟩ := Bb_10.out.cells3
  have lo := Bo_11.out.lt
  obtain ⟨co0, co1, co2⟩ := Bo_11.out.cells3
  have hmk := HMK.out
  have n62 : a.n ≤ 16 := n16
  have n_13 := Ba_9.out.lt
  have n_14 := Bb_10.out.lt
  have n_15 := Bo_11.out.lt
  have n_16 := O1.out.lt
  have n_17 := O2.out.lt
  go_wp2_with fail
  clear la ca0 ca1 ca2 lb cb0 cb1 cb2 lo co0 co1 co2
  have K : Dk w3 ((w3.alloc (.cells #[.slice (some ⟨g1, 0, none⟩) a.n a.n, .slice none 0 0, .slice none 0 0, .int .i64 bits] 146)).alloc (.cells (mkD a.n) 53)) := (((Dk.refl _).alloc _).alloc _)
  have Ba_18 := Lib.hid (show Bk ((w3.alloc (.cells #[.slice (some ⟨g1, 0, none⟩) a.n a.n, .slice none 0 0, .slice none 0 0, .int .i64 bits] 146)).alloc (.cells (mkD a.n) 53)) (w.heap.size) 42 #[.slice Aac a.n cac, .slice Aag a.m cag, .slice Aar a.n car] from ((Ba_9.out.alloc _).alloc _))
  have Bb_19 := Lib.hid (show Bk ((w3.alloc (.cells #[.slice (some ⟨g1, 0, none⟩) a.n a.n, .slice none 0 0, .slice none 0 0, .int .i64 bits] 146)).alloc (.cells (mkD a.n) 53)) (w.heap.size + 1) 42 #[.slice Abc a.n cbc, .slice Abg b.m cbg, .slice Abr a.n cbr] from ((Bb_10.out.alloc _).alloc _))
  have Bo_20 := Lib.hid (show Bk ((w3.alloc (.cells #[.slice (some ⟨g1, 0, none⟩) a.n a.n, .slice none 0 0, .slice none 0 0, .int .i64 bits] 146)).alloc (.cells (mkD a.n) 53)) (w.heap.size + 2) 42 #[.slice none 0 0, .slice none 0 0, .slice none 0 0] from ((Bo_11.out.alloc _).alloc _))
  have Bj_21 := Lib.hid (show Bk ((w3.alloc (.cells #[.slice (some ⟨g1, 0, none⟩) a.n a.n, .slice none 0 0, .slice none 0 0, .int .i64 bits] 146)).alloc (.cells (mkD a.n) 53)) (w3.heap.size) 146 #[.slice (some ⟨g1, 0, none⟩) a.n a.n, .slice none 0 0, .slice none 0 0, .int .i64 bits] from ((Bk.new _ 146 #[.slice (some ⟨g1, 0, none⟩) a.n a.n, .slice none 0 0, .slice none 0 0, .int .i64 bits]).alloc _))
  have Oc_22 := Lib.hid (show OD ((w3.alloc (.cells #[.slice (some ⟨g1, 0, none⟩) a.n a.n, .slice none 0 0, .slice none 0 0, .int .i64 bits] 146)).alloc (.cells (mkD a.n) 53)) (g1) a.n (fun j => halfM (a.c j) (b.c j) bits) from ((O1.out.al _).al _))
  have Of_23 := Lib.hid (show OD ((w3.alloc (.cells #[.slice (some ⟨g1, 0, none⟩) a.n a.n, .slice none 0 0, .slice none 0 0, .int .i64 bits] 146)).alloc (.cells (mkD a.n) 53)) (g2) a.n (fun j => halfO (a.c j) (b.c j) bits) from ((O2.out.al _).al _))
  have Ou_24 := Lib.hid (show OD ((w3.alloc (.cells #[.slice (some ⟨g1, 0, none⟩) a.n a.n, .slice none 0 0, .slice none 0 0, .int .i64 bits] 146)).alloc (.cells (mkD a.n) 53)) (w3.heap.size + 1) a.n (fun _ => D.zero) from (OD.made1 _ _ a.n))
  have HB_25 := Lib.hid (show Below w.heap.size w ((w3.alloc (.cells #[.slice (some ⟨g1, 0, none⟩) a.n a.n, .slice none 0 0, .slice none 0 0, .int .i64 bits] 146)).alloc (.cells (mkD a.n) 53)) from (below_al (below_al HB_12.out _) _))
  clear K Ba_9 Bb_10 Bo_11 O1 O2 HB_12
  generalize (w3.alloc (.cells #[.slice (some ⟨g1, 0, none⟩) a.n a.n, .slice none 0 0, .slice none 0 0, .int .i64 bits] 146)).alloc (.cells (mkD a.n) 53) = w4 at *
  clear hmk
  have H0 := Lib.hid (show Bk w4 (w.heap.size) 42 #[.slice Aac a.n cac, .slice Aag a.m cag, .slice Aar a.n car] ∧ Bk w4 (w.heap.size + 1) 42 #[.slice Abc a.n cbc, .slice Abg b.m cbg, .slice Abr a.n cbr] ∧ Bk w4 (w.heap.size + 2) 42 #[.slice none 0 0, .slice none 0 0, .slice none 0 0] ∧ Bk w4 (w3.heap.size) 146 #[.slice (some ⟨g1, 0, none⟩) a.n a.n, .slice none 0 0, .slice none 0 0, .int .i64 bits] ∧ OD w4 (g1) a.n (fun j => halfM (a.c j) (b.c j) bits) ∧ OD w4 (g2) a.n (fun j => halfO (a.c j) (b.c j) bits) ∧ OD w4 (w3.heap.size + 1) a.n (fun j => if j < 0 then (a.r j).mx (b.r j) else D.zero) ∧ Below w.heap.size w w4 from ⟨Ba_18.out, Bb_19.out, Bo_20.out, Bj_21.out, Oc_22.out, Of_23.out, OD.start (F := fun j => (a.r j).mx (b.r j)) Ou_24.out, HB_25.out⟩)
  clear Ba_18 Bb_19 Bo_20 Bj_21 Oc_22 Of_23 Ou_24 HB_25
  go_loopw [70] (fun k wr => ∃ i : Nat, k = .int .i64 i ∧ i ≤ a.n ∧ Hid (Bk wr (w.heap.size) 42 #[.slice Aac a.n cac, .slice Aag a.m cag, .slice Aar a.n car] ∧ Bk wr (w.heap.size + 1) 42 #[.slice Abc a.n cbc, .slice Abg b.m cbg, .slice Abr a.n cbr] ∧ Bk wr (w.heap.size + 2) 42 #[.slice none 0 0, .slice none 0 0, .slice none 0 0] ∧ Bk wr (w3.heap.size) 146 #[.slice (some ⟨g1, 0, none⟩) a.n a.n, .slice none 0 0, .slice none 0 0, .int .i64 bits] ∧ OD wr (g1) a.n (fun j => halfM (a.c j) (b.c j) bits) ∧ OD wr (g2) a.n (fun j => halfO (a.c j) (b.c j) bits) ∧ OD wr (w3.heap.size + 1) a.n (fun j => if j < i then (a.r j).mx (b.r j) else D.zero) ∧ Below w.heap.size w wr)) (fun k _ => a.n - (intOf k).toNat)
  case atStart => exact ⟨0, rfl, Nat.zero_le _, H0⟩
  case round =>
    clear H0
    obtain ⟨i, rfl, hi, Hr⟩ := hrel
    by_cases hi2 : i < a.n
    · have q3 : (i : Int) < (a.n : Int) := by omega
      obtain ⟨tb0, tb1, tb2, tb3, tr0, tr1, tr2, tz⟩ := Hr.out
      have Ba_27 := Lib.hid tb0
      have Bb_28 := Lib.hid tb1
      have Bo_29 := Lib.hid tb2
      have Bj_30 := Lib.hid tb3
      have Oc_31 := Lib.hid tr0
      have Of_32 := Lib.hid tr1
      have Ou_33 := Lib.hid tr2
      have HB_34 := Lib.hid tz
      clear tb0 tb1 tb2 tb3 tr0 tr1 tr2 tz
      clear Hr
      obtain ⟨A1, o1, rfl, hl1, hcc⟩ := HAR.out.2.2 (by omega)
      obtain ⟨q, z0, z1, z2, hq⟩ := hcc i hi2
      obtain ⟨A2, o2, rfl, hl2, hc2⟩ := HBR.out.2.2 (by omega)
      obtain ⟨t, y0, y1, y2, ht⟩ := hc2 i hi2
      have X0 := Lib.hid z0
      have Y0 := Lib.hid y0
      have X1 := Lib.hid z1
      have Y1 := Lib.hid y1
      have X2 := Lib.hid z2
      have Y2 := Lib.hid y2
      have RQ := Lib.hid (hq.below HB_34.out)
      have RT := Lib.hid (ht.below HB_34.out)
      clear hcc z0 z1 z2 hq hc2 y0 y1 y2 ht
      have Lra := Lib.hid (LA.out.r i hi2)
      have Lrb := Lib.hid (LB.out.r i (by rw [← HN.out]; exact hi2))
      have eT : E + T ≤ 16000 := by omega
      have la := Ba_27.out.lt
      obtain ⟨ca0, ca1, ca2⟩ := Ba_27.out.cells3
      have lb := Bb_28.out.lt
      obtain ⟨cb0, cb1, cb2⟩ := Bb_28.out.cells3
      have lo := Bo_29.out.lt
      obtain ⟨co0, co1, co2⟩ := Bo_29.out.cells3
      have lj := Bj_30.out.lt
      obtain ⟨cj0, cj1, cj2, cj3⟩ := Bj_30.out.cells4
      have cr10 : wr.cell? ⟨A1, o1 + i * 3, none⟩ = some (.bool q.b) := (HB_34.out.cell (p := ⟨A1, o1 + i * 3, none⟩) hl1).trans X0.out
      have cr11 : wr.cell? ⟨A1, o1 + i * 3 + 1, none⟩ = some (.slice q.A q.n q.c) := (HB_34.out.cell (p := ⟨A1, o1 + i * 3 + 1, none⟩) hl1).trans X1.out
      have cr12 : wr.cell? ⟨A1, o1 + i * 3 + 2, none⟩ = some (.int .i64 (a.r i).x) := (HB_34.out.cell (p := ⟨A1, o1 + i * 3 + 2, none⟩) hl1).trans X2.out
      have cr20 : wr.cell? ⟨A2, o2 + i * 3, none⟩ = some (.bool t.b) := (HB_34.out.cell (p := ⟨A2, o2 + i * 3, none⟩) hl2).trans Y0.out
      have cr21 : wr.cell? ⟨A2, o2 + i * 3 + 1, none⟩ = some (.slice t.A t.n t.c) := (HB_34.out.cell (p := ⟨A2, o2 + i * 3 + 1, none⟩) hl2).trans Y1.out
      have cr22 : wr.cell? ⟨A2, o2 + i * 3 + 2, none⟩ = some (.int .i64 (b.r i).x) := (HB_34.out.cell (p := ⟨A2, o2 + i * 3 + 2, none⟩) hl2).trans Y2.out
      obtain ⟨⟨_, pu0⟩, ⟨_, pu1⟩, ⟨_, pu2⟩, ru0, ru1, ru2⟩ := Ou_33.out.there hi2
      have lu := Ou_33.out.lt
      go_wp2_with fail
      obtain ⟨SX1, hS1⟩ : ∃ S : World → Prop, ∀ w', S w' ↔ (w'.cell? ⟨w.heap.size, 0, none⟩ = some (.slice Aac a.n cac) ∧ w'.cell? ⟨w.heap.size, 1, none⟩ = some (.slice Aag a.m cag) ∧ w'.cell? ⟨w.heap.size, 2, none⟩ = some (.slice (some ⟨A1, o1, none⟩) a.n car) ∧ w'.cell? ⟨w.heap.size + 1, 0, none⟩ = some (.slice Abc a.n cbc) ∧ w'.cell? ⟨w.heap.size + 1, 1, none⟩ = some (.slice Abg b.m cbg) ∧ w'.cell? ⟨w.heap.size + 1, 2, none⟩ = some (.slice (some ⟨A2, o2, none⟩) a.n cbr) ∧ w'.cell? ⟨A1, o1 + i * 3, none⟩ = some (.bool q.b) ∧ w'.cell? ⟨A1, o1 + i * 3 + 1, none⟩ = some (.slice q.A q.n q.c) ∧ w'.cell? ⟨A1, o1 + i * 3 + 2, none⟩ = some (.int .i64 (a.r i).x) ∧ w'.cell? ⟨A2, o2 + i * 3, none⟩ = some (.bool t.b) ∧ w'.cell? ⟨A2, o2 + i * 3 + 1, none⟩ = some (.slice t.A t.n t.c) ∧ w'.cell? ⟨A2, o2 + i * 3 + 2, none⟩ = some (.int .i64 (b.r i).x)) := ⟨_, fun _ => Iff.rfl⟩
      have k_35 : SX1 (wr) := (hS1 _).2 ⟨Ba_27.out.cell 0 rfl, Ba_27.out.cell 1 rfl, Ba_27.out.cell 2 rfl, Bb_28.out.cell 0 rfl, Bb_28.out.cell 1 rfl, Bb_28.out.cell 2 rfl, (Below.cell (p := ⟨A1, o1 + i * 3, none⟩) HB_34.out hl1).trans X0.out, (Below.cell (p := ⟨A1, o1 + i * 3 + 1, none⟩) HB_34.out hl1).trans X1.out, (Below.cell (p := ⟨A1, o1 + i * 3 + 2, none⟩) HB_34.out hl1).trans X2.out, (Below.cell (p := ⟨A2, o2 + i * 3, none⟩) HB_34.out hl2).trans Y0.out, (Below.cell (p := ⟨A2, o2 + i * 3 + 1, none⟩) HB_34.out hl2).trans Y1.out, (Below.cell (p := ⟨A2, o2 + i * 3 + 2, none⟩) HB_34.out hl2).trans Y2.out⟩
      have k_36 : SX1 (wr.drew) := (hS1 _).2 ⟨(Ba_27.out.drew).cell 0 rfl, (Ba_27.out.drew).cell 1 rfl, (Ba_27.out.drew).cell 2 rfl, (Bb_28.out.drew).cell 0 rfl, (Bb_28.out.drew).cell 1 rfl, (Bb_28.out.drew).cell 2 rfl, (Below.cell (p := ⟨A1, o1 + i * 3, none⟩) (below_dr HB_34.out) hl1).trans X0.out, (Below.cell (p := ⟨A1, o1 + i * 3 + 1, none⟩) (below_dr HB_34.out) hl1).trans X1.out, (Below.cell (p := ⟨A1, o1 + i * 3 + 2, none⟩) (below_dr HB_34.out) hl1).trans X2.out, (Below.cell (p := ⟨A2, o2 + i * 3, none⟩) (below_dr HB_34.out) hl2).trans Y0.out, (Below.cell (p := ⟨A2, o2 + i * 3 + 1, none⟩) (below_dr HB_34.out) hl2).trans Y1.out, (Below.cell (p := ⟨A2, o2 + i * 3 + 2, none⟩) (below_dr HB_34.out) hl2).trans Y2.out⟩
      have tok_37 : True := trivial
      go_region_held3 (fun w' => w'.cell? ⟨w.heap.size, 0, none⟩ = some (.slice Aac a.n cac) ∧ w'.cell? ⟨w.heap.size, 1, none⟩ = some (.slice Aag a.m cag) ∧ w'.cell? ⟨w.heap.size, 2, none⟩ = some (.slice (some ⟨A1, o1, none⟩) a.n car) ∧ w'.cell? ⟨w.heap.size + 1, 0, none⟩ = some (.slice Abc a.n cbc) ∧ w'.cell? ⟨w.heap.size + 1, 1, none⟩ = some (.slice Abg b.m cbg) ∧ w'.cell? ⟨w.heap.size + 1, 2, none⟩ = some (.slice (some ⟨A2, o2, none⟩) a.n cbr) ∧ w'.cell? ⟨A1, o1 + i * 3, none⟩ = some (.bool q.b) ∧ w'.cell? ⟨A1, o1 + i * 3 + 1, none⟩ = some (.slice q.A q.n q.c) ∧ w'.cell? ⟨A1, o1 + i * 3 + 2, none⟩ = some (.int .i64 (a.r i).x) ∧ w'.cell? ⟨A2, o2 + i * 3, none⟩ = some (.bool t.b) ∧ w'.cell? ⟨A2, o2 + i * 3 + 1, none⟩ = some (.slice t.A t.n t.c) ∧ w'.cell? ⟨A2, o2 + i * 3 + 2, none⟩ = some (.int .i64 (b.r i).x)) (first | with_reducible exact (hS1 _).1 k_35 | with_reducible exact (hS1 _).1 k_36 | with_reducible exact (hS1 _).1 k_49 | with_reducible exact (hS1 _).1 k_50)
        (first
         | (have _ := tok_37; go_at_call 87; clear tok_37; refine (dmax_any _ q t (a.r i) (b.r i) E T (RQ.out.dk ((Dk.refl _).drew)) (RT.out.dk ((Dk.refl _).drew)) Lra.out Lrb.out eT).mono ?_; rintro e w5 ⟨⟨m, rfl, hm⟩, hb⟩; clear la ca0 ca1 ca2 lb cb0 cb1 cb2 lo co0 co1 co2 lj cj0 cj1 cj2 cj3 cr10 cr11 cr12 cr20 cr21 cr22 pu0 pu1 pu2 ru0 ru1 ru2 lu k_35 k_36; have K := Dk.trans ((Dk.refl _).drew) (.below hb); have Ba_38 := Lib.hid (show Bk _ _ _ #[.slice Aac a.n cac, .slice Aag a.m cag, .slice (some ⟨A1, o1, none⟩) a.n car] from (Ba_27.out.drew).below hb); have Bb_39 := Lib.hid (show Bk _ _ _ #[.slice Abc a.n cbc, .slice Abg b.m cbg, .slice (some ⟨A2, o2, none⟩) a.n cbr] from (Bb_28.out.drew).below hb); have Bo_40 := Lib.hid (show Bk _ _ _ #[.slice none 0 0, .slice none 0 0, .slice none 0 0] from (Bo_29.out.drew).below hb); have Bj_41 := Lib.hid (show Bk _ _ _ #[.slice (some ⟨g1, 0, none⟩) a.n a.n, .slice none 0 0, .slice none 0 0, .int .i64 bits] from (Bj_30.out.drew).below hb); have Oc_42 := Lib.hid (show OD _ (g1) a.n (fun j => halfM (a.c j) (b.c j) bits) from (Oc_31.out.dr).below hb); have Of_43 := Lib.hid (show OD _ (g2) a.n (fun j => halfO (a.c j) (b.c j) bits) from (Of_32.out.dr).below hb); have Ou_44 := Lib.hid (show OD _ (w3.heap.size + 1) a.n (fun j => if j < i then (a.r j).mx (b.r j) else D.zero) from (Ou_33.out.dr).below hb); have HB_45 := Lib.hid (below_tr (below_dr HB_34.out) hb); clear hb; have RQ_46 := Lib.hid (RQ.out.dk K); have RT_47 := Lib.hid (RT.out.dk K); clear K Ba_27 Bb_28 Bo_29 Bj_30 Oc_31 Of_32 Ou_33 HB_34 RQ RT; have RM_48 := Lib.hid hm; clear hm; have la := Ba_38.out.lt; obtain ⟨ca0, ca1, ca2⟩ := Ba_38.out.cells3; have lb := Bb_39.out.lt; obtain ⟨cb0, cb1, cb2⟩ := Bb_39.out.cells3; have lo := Bo_40.out.lt; obtain ⟨co0, co1, co2⟩ := Bo_40.out.cells3; have lj := Bj_41.out.lt; obtain ⟨cj0, cj1, cj2, cj3⟩ := Bj_41.out.cells4; have cr10 : w5.cell? ⟨A1, o1 + i * 3, none⟩ = some (.bool q.b) := (HB_45.out.cell (p := ⟨A1, o1 + i * 3, none⟩) hl1).trans X0.out; have cr11 : w5.cell? ⟨A1, o1 + i * 3 + 1, none⟩ = some (.slice q.A q.n q.c) := (HB_45.out.cell (p := ⟨A1, o1 + i * 3 + 1, none⟩) hl1).trans X1.out; have cr12 : w5.cell? ⟨A1, o1 + i * 3 + 2, none⟩ = some (.int .i64 (a.r i).x) := (HB_45.out.cell (p := ⟨A1, o1 + i * 3 + 2, none⟩) hl1).trans X2.out; have cr20 : w5.cell? ⟨A2, o2 + i * 3, none⟩ = some (.bool t.b) := (HB_45.out.cell (p := ⟨A2, o2 + i * 3, none⟩) hl2).trans Y0.out; have cr21 : w5.cell? ⟨A2, o2 + i * 3 + 1, none⟩ = some (.slice t.A t.n t.c) := (HB_45.out.cell (p := ⟨A2, o2 + i * 3 + 1, none⟩) hl2).trans Y1.out; have cr22 : w5.cell? ⟨A2, o2 + i * 3 + 2, none⟩ = some (.int .i64 (b.r i).x) := (HB_45.out.cell (p := ⟨A2, o2 + i * 3 + 2, none⟩) hl2).trans Y2.out; obtain ⟨⟨_, pu0⟩, ⟨_, pu1⟩, ⟨_, pu2⟩, ru0, ru1, ru2⟩ := Ou_44.out.there hi2; have lu := Ou_44.out.lt; have k_49 : SX1 (w5) := (hS1 _).2 ⟨Ba_38.out.cell 0 rfl, Ba_38.out.cell 1 rfl, Ba_38.out.cell 2 rfl, Bb_39.out.cell 0 rfl, Bb_39.out.cell 1 rfl, Bb_39.out.cell 2 rfl, (Below.cell (p := ⟨A1, o1 + i * 3, none⟩) HB_45.out hl1).trans X0.out, (Below.cell (p := ⟨A1, o1 + i * 3 + 1, none⟩) HB_45.out hl1).trans X1.out, (Below.cell (p := ⟨A1, o1 + i * 3 + 2, none⟩) HB_45.out hl1).trans X2.out, (Below.cell (p := ⟨A2, o2 + i * 3, none⟩) HB_45.out hl2).trans Y0.out, (Below.cell (p := ⟨A2, o2 + i * 3 + 1, none⟩) HB_45.out hl2).trans Y1.out, (Below.cell (p := ⟨A2, o2 + i * 3 + 2, none⟩) HB_45.out hl2).trans Y2.out⟩; have y0 := Ba_38.out.lt; have y1 := Bb_39.out.lt; have y2 := Bo_40.out.lt; have y3 := Bj_41.out.lt; have y4 := Oc_42.out.lt; have y5 := Of_43.out.lt; have y6 := Ou_44.out.lt; have y7 := HB_45.out.size; have k_50 : SX1 (((w5.setCell ⟨w3.heap.size + 1, i * 3, none⟩ (.bool m.b)).setCell ⟨w3.heap.size + 1, i * 3 + 1, none⟩ (.slice m.A m.n m.c)).setCell ⟨w3.heap.size + 1, i * 3 + 2, none⟩ (.int .i64 ((a.r i).mx (b.r i)).x)) := (hS1 _).2 ⟨(Ba_38.out.ne3 (by omega) i (.bool m.b) (.slice m.A m.n m.c) (.int .i64 ((a.r i).mx (b.r i)).x)).cell 0 rfl, (Ba_38.out.ne3 (by omega) i (.bool m.b) (.slice m.A m.n m.c) (.int .i64 ((a.r i).mx (b.r i)).x)).cell 1 rfl, (Ba_38.out.ne3 (by omega) i (.bool m.b) (.slice m.A m.n m.c) (.int .i64 ((a.r i).mx (b.r i)).x)).cell 2 rfl, (Bb_39.out.ne3 (by omega) i (.bool m.b) (.slice m.A m.n m.c) (.int .i64 ((a.r i).mx (b.r i)).x)).cell 0 rfl, (Bb_39.out.ne3 (by omega) i (.bool m.b) (.slice m.A m.n m.c) (.int .i64 ((a.r i).mx (b.r i)).x)).cell 1 rfl, (Bb_39.out.ne3 (by omega) i (.bool m.b) (.slice m.A m.n m.c) (.int .i64 ((a.r i).mx (b.r i)).x)).cell 2 rfl, (Below.cell (p := ⟨A1, o1 + i * 3, none⟩) (below_put3 HB_45.out (by omega) i (.bool m.b) (.slice m.A m.n m.c) (.int .i64 ((a.r i).mx (b.r i)).x)) hl1).trans X0.out, (Below.cell (p := ⟨A1, o1 + i * 3 + 1, none⟩) (below_put3 HB_45.out (by omega) i (.bool m.b) (.slice m.A m.n m.c) (.int .i64 ((a.r i).mx (b.r i)).x)) hl1).trans X1.out, (Below.cell (p := ⟨A1, o1 + i * 3 + 2, none⟩) (below_put3 HB_45.out (by omega) i (.bool m.b) (.slice m.A m.n m.c) (.int .i64 ((a.r i).mx (b.r i)).x)) hl1).trans X2.out, (Below.cell (p := ⟨A2, o2 + i * 3, none⟩) (below_put3 HB_45.out (by omega) i (.bool m.b) (.slice m.A m.n m.c) (.int .i64 ((a.r i).mx (b.r i)).x)) hl2).trans Y0.out, (Below.cell (p := ⟨A2, o2 + i * 3 + 1, none⟩) (below_put3 HB_45.out (by omega) i (.bool m.b) (.slice m.A m.n m.c) (.int .i64 ((a.r i).mx (b.r i)).x)) hl2).trans Y1.out, (Below.cell (p := ⟨A2, o2 + i * 3 + 2, none⟩) (below_put3 HB_45.out (by omega) i (.bool m.b) (.slice m.A m.n m.c) (.int .i64 ((a.r i).mx (b.r i)).x)) hl2).trans Y2.out⟩; clear y0 y1 y2 y3 y4 y5 y6 y7))
      go_wp2
      go_roundw
      case rel => exact ⟨i + 1, by go_num, hi2, Lib.hid ⟨(Ba_38.out.ne3 (by have := Ba_38.out.lt; have := Bb_39.out.lt; have := Bo_40.out.lt; have := Bj_41.out.lt; have := Oc_42.out.lt; have := Of_43.out.lt; have := Ou_44.out.lt; have := HB_45.out.size; omega) i (.bool m.b) (.slice m.A m.n m.c) (.int .i64 ((a.r i).mx (b.r i)).x)), (Bb_39.out.ne3 (by have := Ba_38.out.lt; have := Bb_39.out.lt; have := Bo_40.out.lt; have := Bj_41.out.lt; have := Oc_42.out.lt; have := Of_43.out.lt; have := Ou_44.out.lt; have := HB_45.out.size; omega) i (.bool m.b) (.slice m.A m.n m.c) (.int .i64 ((a.r i).mx (b.r i)).x)), (Bo_40.out.ne3 (by have := Ba_38.out.lt; have := Bb_39.out.lt; have := Bo_40.out.lt; have := Bj_41.out.lt; have := Oc_42.out.lt; have := Of_43.out.lt; have := Ou_44.out.lt; have := HB_45.out.size; omega) i (.bool m.b) (.slice m.A m.n m.c) (.int .i64 ((a.r i).mx (b.r i)).x)), (Bj_41.out.ne3 (by have := Ba_38.out.lt; have := Bb_39.out.lt; have := Bo_40.out.lt; have := Bj_41.out.lt; have := Oc_42.out.lt; have := Of_43.out.lt; have := Ou_44.out.lt; have := HB_45.out.size; omega) i (.bool m.b) (.slice m.A m.n m.c) (.int .i64 ((a.r i).mx (b.r i)).x)), (Oc_42.out.rp3 (by have := Ba_38.out.lt; have := Bb_39.out.lt; have := Bo_40.out.lt; have := Bj_41.out.lt; have := Oc_42.out.lt; have := Of_43.out.lt; have := Ou_44.out.lt; have := HB_45.out.size; omega) i (.bool m.b) (.slice m.A m.n m.c) (.int .i64 ((a.r i).mx (b.r i)).x) (Ou_44.out.put hi2 m ((a.r i).mx (b.r i)) RM_48.out).2), (Of_43.out.rp3 (by have := Ba_38.out.lt; have := Bb_39.out.lt; have := Bo_40.out.lt; have := Bj_41.out.lt; have := Oc_42.out.lt; have := Of_43.out.lt; have := Ou_44.out.lt; have := HB_45.out.size; omega) i (.bool m.b) (.slice m.A m.n m.c) (.int .i64 ((a.r i).mx (b.r i)).x) (Ou_44.out.put hi2 m ((a.r i).mx (b.r i)) RM_48.out).2), OD.next (F := fun j => (a.r j).mx (b.r j)) (Ou_44.out.put hi2 m ((a.r i).mx (b.r i)) RM_48.out).1, (below_put3 HB_45.out (by have := HB_45.out.size; omega) i (.bool m.b) (.slice m.A m.n m.c) (.int .i64 ((a.r i).mx (b.r i)).x))⟩⟩
      case measure => simp only [intOf]; omega
    · obtain rfl : i = a.n := by omega
      clear hi2
      obtain ⟨tb0, tb1, tb2, tb3, tr0, tr1, tr2, tz⟩ := Hr.out
      have Ba_27 := Lib.hid tb0
      have Bb_28 := Lib.hid tb1
      have Bo_29 := Lib.hid tb2
      have Bj_30 := Lib.hid tb3
      have Oc_31 := Lib.hid tr0
      have Of_32 := Lib.hid tr1
      have Ou_33 := Lib.hid tr2
      have HB_34 := Lib.hid tz
      clear tb0 tb1 tb2 tb3 tr0 tr1 tr2 tz
      clear Hr
      have la := Ba_27.out.lt
      obtain ⟨ca0, ca1, ca2⟩ := Ba_27.out.cells3
      have lb := Bb_28.out.lt
      obtain ⟨cb0, cb1, cb2⟩ := Bb_28.out.cells3
      have lo := Bo_29.out.lt
      obtain ⟨co0, co1, co2⟩ := Bo_29.out.cells3
      have lj := Bj_30.out.lt
      obtain ⟨cj0, cj1, cj2, cj3⟩ := Bj_30.out.cells4
      go_wp2_with fail
      have OuD := Lib.hid (Ou_33.out.done (F := fun j => (a.r j).mx (b.r j)))
      have LBC := Lib.hid (fun (i : Nat) (hi : i < a.n) => LB.out.c i (by rw [← HN.out]; exact hi))
      have LU := Lib.hid (fun (i : Nat) (hi : i < a.n) => ((mx_lim (LA.out.r i hi) (LB.out.r i (by rw [← HN.out]; exact hi))).mono (show E ≤ E + 1 by omega) (show T ≤ T + 3 by omega)))
      have LF := Lib.hid (fun (i : Nat) (hi : i < a.n) => halfO_lim (LA.out.c i hi) (LBC.out i hi) bits)
      have LR := Lib.hid (fun (k i : Nat) (hi : i < a.n) => hullR_lim LA.out LB.out HN.out bits k i hi)
      have eM : E + 1 + (T + 3) + 1 ≤ 16000 := by omega
      have nj : w3.heap.size < wr.heap.size := Bj_30.out.lt
      refine (more_any _ (some ⟨w3.heap.size + 1, 0, none⟩) (some ⟨g2, 0, none⟩) a.n a.n a.n (fun j => (a.r j).mx (b.r j)) (fun j => halfO (a.c j) (b.c j) bits) bits (E + 1) (T + 3) (OuD.out.read n0) (Of_32.out.read n0) LU.out LF.out eM hb2 hb3 (HT.out.below HB_34.out)).mono ?_
      rintro e w5 ⟨⟨g3, rfl, hg3, ho3⟩, hb⟩
      clear la ca0 ca1 ca2 lb cb0 cb1 cb2 lo co0 co1 co2 lj cj0 cj1 cj2 cj3
      have K := Dk.below hb
      have Ba_35 := Lib.hid (show Bk _ _ _ #[.slice Aac a.n cac, .slice Aag a.m cag, .slice Aar a.n car] from Ba_27.out.below hb)
      have Bb_36 := Lib.hid (show Bk _ _ _ #[.slice Abc a.n cbc, .slice Abg b.m cbg, .slice Abr a.n cbr] from Bb_28.out.below hb)
      have Bo_37 := Lib.hid (show Bk _ _ _ #[.slice none 0 0, .slice none 0 0, .slice none 0 0] from Bo_29.out.below hb)
      have Bj_38 := Lib.hid (show Bk _ _ _ #[.slice (some ⟨g1, 0, none⟩) a.n a.n, .slice none 0 0, .slice none 0 0, .int .i64 bits] from Bj_30.out.below hb)
      have Oc_39 := Lib.hid (show OD _ (g1) a.n (fun j => halfM (a.c j) (b.c j) bits) from Oc_31.out.below hb)
      have Of_40 := Lib.hid (show OD _ (g2) a.n (fun j => halfO (a.c j) (b.c j) bits) from Of_32.out.below hb)
      have Ou_41 := Lib.hid (show OD _ (w3.heap.size + 1) a.n (fun j => (a.r j).mx (b.r j)) from OuD.out.below hb)
      have HB_42 := Lib.hid (below_tr HB_34.out hb)
      clear hb
      clear K Ba_27 Bb_28 Bo_29 Bj_30 Oc_31 Of_32 OuD HB_34
      have O3 := Lib.hid (show OD _ g3 a.n (hullR a b bits 0) from ho3)
      clear ho3
      have la := Ba_35.out.lt
      obtain ⟨ca0, ca1, ca2⟩ := Ba_35.out.cells3
      have lb := Bb_36.out.lt
      obtain ⟨cb0, cb1, cb2⟩ := Bb_36.out.cells3
      have lo := Bo_37.out.lt
      obtain ⟨co0, co1, co2⟩ := Bo_37.out.cells3
      have lj := Bj_38.out.lt
      obtain ⟨cj0, cj1, cj2, cj3⟩ := Bj_38.out.cells4
      have fj0 := Bj_38.out.free 0
      have fj1 := Bj_38.out.free 1
      have fj2 := Bj_38.out.free 2
      have fj3 := Bj_38.out.free 3
      go_wp2_with fail
      clear la ca0 ca1 ca2 lb cb0 cb1 cb2 lo co0 co1 co2 lj cj0 cj1 cj2 cj3 fj0 fj1 fj2 fj3
      have K : Dk w5 (w5.setCell ⟨w3.heap.size, 2, none⟩ (.slice (some ⟨g3, 0, none⟩) a.n a.n)) := ((Dk.refl _).set (cs := #[.slice (some ⟨g1, 0, none⟩) a.n a.n, .slice none 0 0, .slice none 0 0, .int .i64 bits]) Bj_38.out 2 (by intro _ hh; cases hh) (.slice (some ⟨g3, 0, none⟩) a.n a.n))
      have Ba_43 := Lib.hid (show Bk (w5.setCell ⟨w3.heap.size, 2, none⟩ (.slice (some ⟨g3, 0, none⟩) a.n a.n)) (w.heap.size) 42 #[.slice Aac a.n cac, .slice Aag a.m cag, .slice Aar a.n car] from (Ba_35.out.ne (by have := Ba_35.out.lt; have := Bb_36.out.lt; have := Bo_37.out.lt; have := Bj_38.out.lt; have := Oc_39.out.lt; have := O3.out.lt; have := HB_42.out.size; omega) 2 (.slice (some ⟨g3, 0, none⟩) a.n a.n)))
      have Bb_44 := Lib.hid (show Bk (w5.setCell ⟨w3.heap.size, 2, none⟩ (.slice (some ⟨g3, 0, none⟩) a.n a.n)) (w.heap.size + 1) 42 #[.slice Abc a.n cbc, .slice Abg b.m cbg, .slice Abr a.n cbr] from (Bb_36.out.ne (by have := Ba_35.out.lt; have := Bb_36.out.lt; have := Bo_37.out.lt; have := Bj_38.out.lt; have := Oc_39.out.lt; have := O3.out.lt; have := HB_42.out.size; omega) 2 (.slice (some ⟨g3, 0, none⟩) a.n a.n)))
      have Bo_45 := Lib.hid (show Bk (w5.setCell ⟨w3.heap.size, 2, none⟩ (.slice (some ⟨g3, 0, none⟩) a.n a.n)) (w.heap.size + 2) 42 #[.slice none 0 0, .slice none 0 0, .slice none 0 0] from (Bo_37.out.ne (by have := Ba_35.out.lt; have := Bb_36.out.lt; have := Bo_37.out.lt; have := Bj_38.out.lt; have := Oc_39.out.lt; have := O3.out.lt; have := HB_42.out.size; omega) 2 (.slice (some ⟨g3, 0, none⟩) a.n a.n)))
      have Bj_46 := Lib.hid (show Bk (w5.setCell ⟨w3.heap.size, 2, none⟩ (.slice (some ⟨g3, 0, none⟩) a.n a.n)) (w3.heap.size) 146 #[.slice (some ⟨g1, 0, none⟩) a.n a.n, .slice none 0 0, .slice (some ⟨g3, 0, none⟩) a.n a.n, .int .i64 bits] from (Bj_38.out.set 2 (.slice (some ⟨g3, 0, none⟩) a.n a.n)))
      have Oc_47 := Lib.hid (show OD (w5.setCell ⟨w3.heap.size, 2, none⟩ (.slice (some ⟨g3, 0, none⟩) a.n a.n)) (g1) a.n (fun j => halfM (a.c j) (b.c j) bits) from (Oc_39.out.st (cs := #[.slice (some ⟨g1, 0, none⟩) a.n a.n, .slice none 0 0, .slice none 0 0, .int .i64 bits]) Bj_38.out (by have := Ba_35.out.lt; have := Bb_36.out.lt; have := Bo_37.out.lt; have := Bj_38.out.lt; have := Oc_39.out.lt; have := O3.out.lt; have := HB_42.out.size; omega) 2 (by intro _ hh; cases hh) (.slice (some ⟨g3, 0, none⟩) a.n a.n)))
      have Or_48 := Lib.hid (show OD (w5.setCell ⟨w3.heap.size, 2, none⟩ (.slice (some ⟨g3, 0, none⟩) a.n a.n)) (g3) a.n (hullR a b bits 0) from (O3.out.st (cs := #[.slice (some ⟨g1, 0, none⟩) a.n a.n, .slice none 0 0, .slice none 0 0, .int .i64 bits]) Bj_38.out (by have := Ba_35.out.lt; have := Bb_36.out.lt; have := Bo_37.out.lt; have := Bj_38.out.lt; have := Oc_39.out.lt; have := O3.out.lt; have := HB_42.out.size; omega) 2 (by intro _ hh; cases hh) (.slice (some ⟨g3, 0, none⟩) a.n a.n)))
      have HB_49 := Lib.hid (show Below w.heap.size w (w5.setCell ⟨w3.heap.size, 2, none⟩ (.slice (some ⟨g3, 0, none⟩) a.n a.n)) from (below_st HB_42.out 2 (by have := HB_42.out.size; omega) (.slice (some ⟨g3, 0, none⟩) a.n a.n)))
      clear K Ba_35 Bb_36 Bo_37 Bj_38 Oc_39 O3 HB_42
      generalize w5.setCell ⟨w3.heap.size, 2, none⟩ (.slice (some ⟨g3, 0, none⟩) a.n a.n) = w6 at *
      have S0 := Lib.hid (show HS w w6 w3.heap.size g1 #[.slice Aac a.n cac, .slice Aag a.m cag, .slice Aar a.n car] #[.slice Abc a.n cbc, .slice Abg b.m cbg, .slice Abr a.n cbr] #[.slice none 0 0, .slice none 0 0, .slice none 0 0] a.n bits (fun j => halfM (a.c j) (b.c j) bits) (hull a b bits).g (hullR a b bits) 0 (.slice none 0 0) g3 from ⟨Ba_43.out, Bb_44.out, Bo_45.out, Bj_46.out, Oc_47.out, Or_48.out, OG.nil _ _ _, (fun z h => by cases h), (fun k h => by cases h), Nat.le_of_lt n_13, HB_49.out⟩)
      have la := Ba_43.out.lt
      obtain ⟨ca0, ca1, ca2⟩ := Ba_43.out.cells3
      have lb := Bb_44.out.lt
      obtain ⟨cb0, cb1, cb2⟩ := Bb_44.out.cells3
      have lo := Bo_45.out.lt
      obtain ⟨co0, co1, co2⟩ := Bo_45.out.cells3
      have lj := Bj_46.out.lt
      obtain ⟨cj0, cj1, cj2, cj3⟩ := Bj_46.out.cells4
      go_wp2_with fail
      refine (way_turn _ w3.heap.size g1 g3 (.slice none 0 0) Aac Abc 0 a.n cac cbc a.c b.c (hull a b bits).g (hullR a b bits 0) bits E T (T + 5 + 2 * 0) S0.out.vv (by omega) S0.out.bj S0.out.og S0.out.or (HAC.out.below S0.out.be) (HBC.out.below S0.out.be) LA.out.c LBC.out (LR.out 0) (by omega) (by omega) hb2 hb3 (HT.out.below S0.out.be)).mono ?_
      rintro e w7 P
      obtain ⟨rfl, v1, g4, s1, _, _, _⟩ := S0.out.step P (hull_g0 a b bits) (hull_r0 a b bits)
      have S1 := Lib.hid s1
      clear s1 P S0
      clear la ca0 ca1 ca2 lb cb0 cb1 cb2 lo co0 co1 co2 lj cj0 cj1 cj2 cj3
      clear Ba_43 Bb_44 Bo_45 Bj_46 Oc_47 Or_48 HB_49
      have HB7 := Lib.hid S1.out.be
      have S7a := Lib.hid S1.out.ba
      have S7b := Lib.hid S1.out.bb
      have S7o := Lib.hid S1.out.bo
      have la := S7a.out.lt
      obtain ⟨ca0, ca1, ca2⟩ := S7a.out.cells3
      have lb := S7b.out.lt
      obtain ⟨cb0, cb1, cb2⟩ := S7b.out.cells3
      have lo := S7o.out.lt
      obtain ⟨co0, co1, co2⟩ := S7o.out.cells3
      have hmk := HMK.out
      have hmf : ∀ fn first cap W, (Instr.makeFunc fn first cap).run Tryd.prog W = .ok (.func fn first cap) W := fun _ _ _ _ => rfl
      have c7 := S1.out.be.size
      have n_50 := S7a.out.lt
      have n_51 := S7b.out.lt
      have n_52 := S7o.out.lt
      go_wp2_with fail
      have T1 := Lib.hid (show HC w ((w7.alloc (.cells (mkD a.n) 53)).alloc (.cells #[.slice (some ⟨w7.heap.size, 0, none⟩) a.n a.n] 39)) w3.heap.size g1 (w7.heap.size + 1) w7.heap.size #[.slice Aac a.n cac, .slice Aag a.m cag, .slice Aar a.n car] #[.slice Abc a.n cbc, .slice Abg b.m cbg, .slice Abr a.n cbr] #[.slice none 0 0, .slice none 0 0, .slice none 0 0] a.n bits (fun j => halfM (a.c j) (b.c j) bits) (hull a b bits).g (hullR a b bits) 1 v1 g4 from S1.out.made (below_al (below_al (Below.refl _ w7) _) _) (Nat.le_succ _) (Bk.new_1 _ _ 39 #[.slice (some ⟨w7.heap.size, 0, none⟩) a.n a.n]) ((OD.made _ a.n).al _))
      clear la ca0 ca1 ca2 lb cb0 cb1 cb2 lo co0 co1 co2
      clear S7a S7b S7o HB7
      generalize (w7.alloc (.cells (mkD a.n) 53)).alloc (.cells #[.slice (some ⟨w7.heap.size, 0, none⟩) a.n a.n] 39) = w8 at *
      clear hmk hmf S1
      obtain ⟨gt, hgt⟩ : ∃ x, x = w7.heap.size + 1 := ⟨_, rfl⟩
      obtain ⟨gN, hgN⟩ : ∃ x, x = w7.heap.size := ⟨_, rfl⟩
      rw [← hgt] at T1 ⊢
      rw [← hgN] at T1
      clear hgt hgN
      have T2 := Lib.hid (show ∃ v gr, HC w w8 w3.heap.size g1 gt gN #[.slice Aac a.n cac, .slice Aag a.m cag, .slice Aar a.n car] #[.slice Abc a.n cbc, .slice Abg b.m cbg, .slice Abr a.n cbr] #[.slice none 0 0, .slice none 0 0, .slice none 0 0] a.n bits (fun j => halfM (a.c j) (b.c j) bits) (hull a b bits).g (hullR a b bits) (1 + 2 * 0) v gr from ⟨v1, g4, T1.out⟩)
      clear T1
      go_loopw [123] (fun k wr => ∃ i : Nat, k = .int .i64 i ∧ i ≤ max a.m b.m ∧ Hid (∃ v gr, HC w wr w3.heap.size g1 gt gN #[.slice Aac a.n cac, .slice Aag a.m cag, .slice Aar a.n car] #[.slice Abc a.n cbc, .slice Abg b.m cbg, .slice Abr a.n cbr] #[.slice none 0 0, .slice none 0 0, .slice none 0 0] a.n bits (fun j => halfM (a.c j) (b.c j) bits) (hull a b bits).g (hullR a b bits) (1 + 2 * i) v gr)) (fun k _ => max a.m b.m - (intOf k).toNat)
      case atStart => exact ⟨0, rfl, Nat.zero_le _, T2⟩
      case round =>
        clear T2
        obtain ⟨i, rfl, hi, Hr⟩ := hrel
        by_cases hi2 : i < max a.m b.m
        · have q3 : (i : Int) < max (a.m : Int) (b.m : Int) := by omega
          go_wp2_with fail
          have T3 := Lib.hid (show ∃ v gr, HC w wr w3.heap.size g1 gt gN #[.slice Aac a.n cac, .slice Aag a.m cag, .slice Aar a.n car] #[.slice Abc a.n cbc, .slice Abg b.m cbg, .slice Abr a.n cbr] #[.slice none 0 0, .slice none 0 0, .slice none 0 0] a.n bits (fun j => halfM (a.c j) (b.c j) bits) (hull a b bits).g (hullR a b bits) (1 + 2 * i + 0) v gr from Hr.out)
          clear Hr
          have hs : i + 1 ≤ max a.m b.m := hi2
          have hi0 : i ≤ 1000000 := by omega
          go_loopw [127] (fun k wr => ∃ t : Nat, k = .int .i64 t ∧ t ≤ 2 ∧ Hid (∃ v gr, HC w wr w3.heap.size g1 gt gN #[.slice Aac a.n cac, .slice Aag a.m cag, .slice Aar a.n car] #[.slice Abc a.n cbc, .slice Abg b.m cbg, .slice Abr a.n cbr] #[.slice none 0 0, .slice none 0 0, .slice none 0 0] a.n bits (fun j => halfM (a.c j) (b.c j) bits) (hull a b bits).g (hullR a b bits) (1 + 2 * i + t) v gr)) (fun k _ => 2 - (intOf k).toNat)
          case atStart => exact ⟨0, rfl, by omega, T3⟩
          case round =>
            clear T3
            obtain ⟨t, rfl, ht0, Hr⟩ := hrel
            by_cases ht2 : t < 2
            · have q4 : (t : Int) < 2 := by omega
              obtain ⟨v, gr, T⟩ := Hr.out
              have T4 := Lib.hid T
              clear T Hr
              obtain rfl | rfl : t = 0 ∨ t = 1 := by omega
              · have T5 := Lib.hid (show HC w wr.drew w3.heap.size g1 gt gN #[.slice Aac a.n cac, .slice Aag a.m cag, .slice Aar a.n car] #[.slice Abc a.n cbc, .slice Abg b.m cbg, .slice Abr a.n cbr] #[.slice none 0 0, .slice none 0 0, .slice none 0 0] a.n bits (fun j => halfM (a.c j) (b.c j) bits) (hull a b bits).g (hullR a b bits) (1 + 2 * i + 0) v gr from T4.out.below (Below.drew (Below.refl _ wr)))
                have kc0 := T4.out.s.ba.lt
                have kc1 := T4.out.s.bb.lt
                have k_0 : (wr).cell? ⟨w.heap.size, 0, none⟩ = some (.slice Aac a.n cac) ∧ (wr).cell? ⟨w.heap.size, 1, none⟩ = some (.slice Aag a.m cag) ∧ (wr).cell? ⟨w.heap.size, 2, none⟩ = some (.slice Aar a.n car) ∧ (wr).cell? ⟨w.heap.size + 1, 0, none⟩ = some (.slice Abc a.n cbc) ∧ (wr).cell? ⟨w.heap.size + 1, 1, none⟩ = some (.slice Abg b.m cbg) ∧ (wr).cell? ⟨w.heap.size + 1, 2, none⟩ = some (.slice Abr a.n cbr) := ⟨T4.out.s.ba.cell 0 rfl, T4.out.s.ba.cell 1 rfl, T4.out.s.ba.cell 2 rfl, T4.out.s.bb.cell 0 rfl, T4.out.s.bb.cell 1 rfl, T4.out.s.bb.cell 2 rfl⟩
                have k_1 : (wr.drew).cell? ⟨w.heap.size, 0, none⟩ = some (.slice Aac a.n cac) ∧ (wr.drew).cell? ⟨w.heap.size, 1, none⟩ = some (.slice Aag a.m cag) ∧ (wr.drew).cell? ⟨w.heap.size, 2, none⟩ = some (.slice Aar a.n car) ∧ (wr.drew).cell? ⟨w.heap.size + 1, 0, none⟩ = some (.slice Abc a.n cbc) ∧ (wr.drew).cell? ⟨w.heap.size + 1, 1, none⟩ = some (.slice Abg b.m cbg) ∧ (wr.drew).cell? ⟨w.heap.size + 1, 2, none⟩ = some (.slice Abr a.n cbr) := ⟨T5.out.s.ba.cell 0 rfl, T5.out.s.ba.cell 1 rfl, T5.out.s.ba.cell 2 rfl, T5.out.s.bb.cell 0 rfl, T5.out.s.bb.cell 1 rfl, T5.out.s.bb.cell 2 rfl⟩
                have tok0 : True := trivial
                have tok1 : True := trivial
                have tok2 : True := trivial
                have qR : E + (T + 5 + 2 * (1 + 2 * i + 0)) + 4 ≤ 16000 := by omega
                have qT : T + 3 ≤ T + 5 + 2 * (1 + 2 * i + 0) := by omega
                have qm : 1 + 2 * i + 0 ≤ 1000000 := by omega
                have LAT := Lib.hid (fun (j : Nat) (hj : j < a.n) => at_lim LA.out i j hj)
                have LBT := Lib.hid (fun (j : Nat) (hj : j < a.n) => at_lim LB.out i j (by rw [← HN.out]; exact hj))
                have hix : ∀ W, (Instr.index 150 (.agg #[.bool false, .bool true]) (.int .i64 0)).run Tryd.prog W = .ok (.bool false) W := fun _ => rfl
                go_wp2_with fail
                go_region_held3 (fun w' => (w').cell? ⟨w.heap.size, 0, none⟩ = some (.slice Aac a.n cac) ∧ (w').cell? ⟨w.heap.size, 1, none⟩ = some (.slice Aag a.m cag) ∧ (w').cell? ⟨w.heap.size, 2, none⟩ = some (.slice Aar a.n car) ∧ (w').cell? ⟨w.heap.size + 1, 0, none⟩ = some (.slice Abc a.n cbc) ∧ (w').cell? ⟨w.heap.size + 1, 1, none⟩ = some (.slice Abg b.m cbg) ∧ (w').cell? ⟨w.heap.size + 1, 2, none⟩ = some (.slice Abr a.n cbr)) (first | with_reducible exact k_0 | with_reducible exact k_1 | with_reducible exact k_2 | with_reducible exact k_3 | with_reducible exact k_4)
                  (first
                   | (have _ := tok0; go_at_call 90; clear tok0; (with_reducible refine (at_any wr.drew Aac Aag Aar cac cag car a i gt gN (HAG.out.below T5.out.s.be) T5.out.on T5.out.bt hi0 n0).mono ?_); rintro e w9 ⟨⟨A1, c1, rfl, hr1⟩, hb⟩; have T9 := Lib.hid (T5.out.below hb); have R1 := Lib.hid hr1; clear hr1 hb k_0 k_1; have lz0 := T9.out.s.ba.lt; have k_2 : (w9).cell? ⟨w.heap.size, 0, none⟩ = some (.slice Aac a.n cac) ∧ (w9).cell? ⟨w.heap.size, 1, none⟩ = some (.slice Aag a.m cag) ∧ (w9).cell? ⟨w.heap.size, 2, none⟩ = some (.slice Aar a.n car) ∧ (w9).cell? ⟨w.heap.size + 1, 0, none⟩ = some (.slice Abc a.n cbc) ∧ (w9).cell? ⟨w.heap.size + 1, 1, none⟩ = some (.slice Abg b.m cbg) ∧ (w9).cell? ⟨w.heap.size + 1, 2, none⟩ = some (.slice Abr a.n cbr) := ⟨T9.out.s.ba.cell 0 rfl, T9.out.s.ba.cell 1 rfl, T9.out.s.ba.cell 2 rfl, T9.out.s.bb.cell 0 rfl, T9.out.s.bb.cell 1 rfl, T9.out.s.bb.cell 2 rfl⟩)
                   | (have _ := tok1; go_at_call 90; clear tok1; (with_reducible refine (ATB.out w9 i gt gN (HBG.out.below T9.out.s.be) T9.out.on T9.out.bt hi0 n0).mono ?_); rintro e w10 ⟨⟨A2, c2, rfl, hr2⟩, hb⟩; have T10 := Lib.hid (T9.out.below hb); have R2 := Lib.hid hr2; have R3 := Lib.hid (R1.out.below hb); clear hr2 hb k_2; have k_3 : (w10).cell? ⟨w.heap.size, 0, none⟩ = some (.slice Aac a.n cac) ∧ (w10).cell? ⟨w.heap.size, 1, none⟩ = some (.slice Aag a.m cag) ∧ (w10).cell? ⟨w.heap.size, 2, none⟩ = some (.slice Aar a.n car) ∧ (w10).cell? ⟨w.heap.size + 1, 0, none⟩ = some (.slice Abc a.n cbc) ∧ (w10).cell? ⟨w.heap.size + 1, 1, none⟩ = some (.slice Abg b.m cbg) ∧ (w10).cell? ⟨w.heap.size + 1, 2, none⟩ = some (.slice Abr a.n cbr) := ⟨T10.out.s.ba.cell 0 rfl, T10.out.s.ba.cell 1 rfl, T10.out.s.ba.cell 2 rfl, T10.out.s.bb.cell 0 rfl, T10.out.s.bb.cell 1 rfl, T10.out.s.bb.cell 2 rfl⟩)
                   | (have _ := tok2; go_at_call 89; clear tok2; (with_reducible refine (way_plain w10 w3.heap.size g1 gr v A1 A2 (1 + 2 * i + 0) a.n c1 c2 (a.at i) (b.at i) (hull a b bits).g (hullR a b bits (1 + 2 * i + 0)) bits E T (T + 5 + 2 * (1 + 2 * i + 0)) T10.out.s.vv qm T10.out.s.bj T10.out.s.og T10.out.s.or R3.out R2.out LAT.out LBT.out (LR.out (1 + 2 * i + 0)) qT qR hb2 hb3 (HT.out.below T10.out.s.be)).mono ?_); rintro e w11 P; obtain ⟨rfl, v', gr', hst⟩ := T10.out.step P (hull_g1 a b bits i) (hull_r1 a b bits i); have T11 := Lib.hid hst; clear hst P k_3; have k_4 : (w11).cell? ⟨w.heap.size, 0, none⟩ = some (.slice Aac a.n cac) ∧ (w11).cell? ⟨w.heap.size, 1, none⟩ = some (.slice Aag a.m cag) ∧ (w11).cell? ⟨w.heap.size, 2, none⟩ = some (.slice Aar a.n car) ∧ (w11).cell? ⟨w.heap.size + 1, 0, none⟩ = some (.slice Abc a.n cbc) ∧ (w11).cell? ⟨w.heap.size + 1, 1, none⟩ = some (.slice Abg b.m cbg) ∧ (w11).cell? ⟨w.heap.size + 1, 2, none⟩ = some (.slice Abr a.n cbr) := ⟨T11.out.s.ba.cell 0 rfl, T11.out.s.ba.cell 1 rfl, T11.out.s.ba.cell 2 rfl, T11.out.s.bb.cell 0 rfl, T11.out.s.bb.cell 1 rfl, T11.out.s.bb.cell 2 rfl⟩))
                go_wp2
                go_roundw
                case rel => exact ⟨1, by go_num, by omega, Lib.hid ⟨v', gr', T11.out⟩⟩
                case measure => simp [intOf]
              · have T5 := Lib.hid (show HC w wr.drew w3.heap.size g1 gt gN #[.slice Aac a.n cac, .slice Aag a.m cag, .slice Aar a.n car] #[.slice Abc a.n cbc, .slice Abg b.m cbg, .slice Abr a.n cbr] #[.slice none 0 0, .slice none 0 0, .slice none 0 0] a.n bits (fun j => halfM (a.c j) (b.c j) bits) (hull a b bits).g (hullR a b bits) (1 + 2 * i + 1) v gr from T4.out.below (Below.drew (Below.refl _ wr)))
                have kc0 := T4.out.s.ba.lt
                have kc1 := T4.out.s.bb.lt
                have k_0 : (wr).cell? ⟨w.heap.size, 0, none⟩ = some (.slice Aac a.n cac) ∧ (wr).cell? ⟨w.heap.size, 1, none⟩ = some (.slice Aag a.m cag) ∧ (wr).cell? ⟨w.heap.size, 2, none⟩ = some (.slice Aar a.n car) ∧ (wr).cell? ⟨w.heap.size + 1, 0, none⟩ = some (.slice Abc a.n cbc) ∧ (wr).cell? ⟨w.heap.size + 1, 1, none⟩ = some (.slice Abg b.m cbg) ∧ (wr).cell? ⟨w.heap.size + 1, 2, none⟩ = some (.slice Abr a.n cbr) := ⟨T4.out.s.ba.cell 0 rfl, T4.out.s.ba.cell 1 rfl, T4.out.s.ba.cell 2 rfl, T4.out.s.bb.cell 0 rfl, T4.out.s.bb.cell 1 rfl, T4.out.s.bb.cell 2 rfl⟩
                have k_1 : (wr.drew).cell? ⟨w.heap.size, 0, none⟩ = some (.slice Aac a.n cac) ∧ (wr.drew).cell? ⟨w.heap.size, 1, none⟩ = some (.slice Aag a.m cag) ∧ (wr.drew).cell? ⟨w.heap.size, 2, none⟩ = some (.slice Aar a.n car) ∧ (wr.drew).cell? ⟨w.heap.size + 1, 0, none⟩ = some (.slice Abc a.n cbc) ∧ (wr.drew).cell? ⟨w.heap.size + 1, 1, none⟩ = some (.slice Abg b.m cbg) ∧ (wr.drew).cell? ⟨w.heap.size + 1, 2, none⟩ = some (.slice Abr a.n cbr) := ⟨T5.out.s.ba.cell 0 rfl, T5.out.s.ba.cell 1 rfl, T5.out.s.ba.cell 2 rfl, T5.out.s.bb.cell 0 rfl, T5.out.s.bb.cell 1 rfl, T5.out.s.bb.cell 2 rfl⟩
                have tok0 : True := trivial
                have tok1 : True := trivial
                have tok2 : True := trivial
                have qR : E + (T + 5 + 2 * (1 + 2 * i + 1)) + 4 ≤ 16000 := by omega
                have qT : T + 3 ≤ T + 5 + 2 * (1 + 2 * i + 1) := by omega
                have qm : 1 + 2 * i + 1 ≤ 1000000 := by omega
                have LAT := Lib.hid (fun (j : Nat) (hj : j < a.n) => at_lim LA.out i j hj)
                have LBT := Lib.hid (fun (j : Nat) (hj : j < a.n) => at_lim LB.out i j (by rw [← HN.out]; exact hj))
                have hix : ∀ W, (Instr.index 150 (.agg #[.bool false, .bool true]) (.int .i64 1)).run Tryd.prog W = .ok (.bool true) W := fun _ => rfl
                go_wp2_with fail
                go_region_held3 (fun w' => (w').cell? ⟨w.heap.size, 0, none⟩ = some (.slice Aac a.n cac) ∧ (w').cell? ⟨w.heap.size, 1, none⟩ = some (.slice Aag a.m cag) ∧ (w').cell? ⟨w.heap.size, 2, none⟩ = some (.slice Aar a.n car) ∧ (w').cell? ⟨w.heap.size + 1, 0, none⟩ = some (.slice Abc a.n cbc) ∧ (w').cell? ⟨w.heap.size + 1, 1, none⟩ = some (.slice Abg b.m cbg) ∧ (w').cell? ⟨w.heap.size + 1, 2, none⟩ = some (.slice Abr a.n cbr)) (first | with_reducible exact k_0 | with_reducible exact k_1 | with_reducible exact k_2 | with_reducible exact k_3 | with_reducible exact k_4)
                  (first
                   | (have _ := tok0; go_at_call 90; clear tok0; (with_reducible refine (at_any wr.drew Aac Aag Aar cac cag car a i gt gN (HAG.out.below T5.out.s.be) T5.out.on T5.out.bt hi0 n0).mono ?_); rintro e w9 ⟨⟨A1, c1, rfl, hr1⟩, hb⟩; have T9 := Lib.hid (T5.out.below hb); have R1 := Lib.hid hr1; clear hr1 hb k_0 k_1; have lz0 := T9.out.s.ba.lt; have k_2 : (w9).cell? ⟨w.heap.size, 0, none⟩ = some (.slice Aac a.n cac) ∧ (w9).cell? ⟨w.heap.size, 1, none⟩ = some (.slice Aag a.m cag) ∧ (w9).cell? ⟨w.heap.size, 2, none⟩ = some (.slice Aar a.n car) ∧ (w9).cell? ⟨w.heap.size + 1, 0, none⟩ = some (.slice Abc a.n cbc) ∧ (w9).cell? ⟨w.heap.size + 1, 1, none⟩ = some (.slice Abg b.m cbg) ∧ (w9).cell? ⟨w.heap.size + 1, 2, none⟩ = some (.slice Abr a.n cbr) := ⟨T9.out.s.ba.cell 0 rfl, T9.out.s.ba.cell 1 rfl, T9.out.s.ba.cell 2 rfl, T9.out.s.bb.cell 0 rfl, T9.out.s.bb.cell 1 rfl, T9.out.s.bb.cell 2 rfl⟩)
                   | (have _ := tok1; go_at_call 90; clear tok1; (with_reducible refine (ATB.out w9 i gt gN (HBG.out.below T9.out.s.be) T9.out.on T9.out.bt hi0 n0).mono ?_); rintro e w10 ⟨⟨A2, c2, rfl, hr2⟩, hb⟩; have T10 := Lib.hid (T9.out.below hb); have R2 := Lib.hid hr2; have R3 := Lib.hid (R1.out.below hb); clear hr2 hb k_2; have k_3 : (w10).cell? ⟨w.heap.size, 0, none⟩ = some (.slice Aac a.n cac) ∧ (w10).cell? ⟨w.heap.size, 1, none⟩ = some (.slice Aag a.m cag) ∧ (w10).cell? ⟨w.heap.size, 2, none⟩ = some (.slice Aar a.n car) ∧ (w10).cell? ⟨w.heap.size + 1, 0, none⟩ = some (.slice Abc a.n cbc) ∧ (w10).cell? ⟨w.heap.size + 1, 1, none⟩ = some (.slice Abg b.m cbg) ∧ (w10).cell? ⟨w.heap.size + 1, 2, none⟩ = some (.slice Abr a.n cbr) := ⟨T10.out.s.ba.cell 0 rfl, T10.out.s.ba.cell 1 rfl, T10.out.s.ba.cell 2 rfl, T10.out.s.bb.cell 0 rfl, T10.out.s.bb.cell 1 rfl, T10.out.s.bb.cell 2 rfl⟩)
                   | (have _ := tok2; go_at_call 89; clear tok2; (with_reducible refine (way_turn w10 w3.heap.size g1 gr v A1 A2 (1 + 2 * i + 1) a.n c1 c2 (a.at i) (b.at i) (hull a b bits).g (hullR a b bits (1 + 2 * i + 1)) bits E T (T + 5 + 2 * (1 + 2 * i + 1)) T10.out.s.vv qm T10.out.s.bj T10.out.s.og T10.out.s.or R3.out R2.out LAT.out LBT.out (LR.out (1 + 2 * i + 1)) qT qR hb2 hb3 (HT.out.below T10.out.s.be)).mono ?_); rintro e w11 P; obtain ⟨rfl, v', gr', hst⟩ := T10.out.step P (hull_g2 a b bits i) (hull_r2 a b bits i); have T11 := Lib.hid hst; clear hst P k_3; have k_4 : (w11).cell? ⟨w.heap.size, 0, none⟩ = some (.slice Aac a.n cac) ∧ (w11).cell? ⟨w.heap.size, 1, none⟩ = some (.slice Aag a.m cag) ∧ (w11).cell? ⟨w.heap.size, 2, none⟩ = some (.slice Aar a.n car) ∧ (w11).cell? ⟨w.heap.size + 1, 0, none⟩ = some (.slice Abc a.n cbc) ∧ (w11).cell? ⟨w.heap.size + 1, 1, none⟩ = some (.slice Abg b.m cbg) ∧ (w11).cell? ⟨w.heap.size + 1, 2, none⟩ = some (.slice Abr a.n cbr) := ⟨T11.out.s.ba.cell 0 rfl, T11.out.s.ba.cell 1 rfl, T11.out.s.ba.cell 2 rfl, T11.out.s.bb.cell 0 rfl, T11.out.s.bb.cell 1 rfl, T11.out.s.bb.cell 2 rfl⟩))
                go_wp2
                go_roundw
                case rel => exact ⟨2, by go_num, by omega, Lib.hid ⟨v', gr', T11.out⟩⟩
                case measure => simp [intOf]
            · obtain rfl : t = 2 := by omega
              have T12 := Lib.hid (show ∃ v gr, HC w wr w3.heap.size g1 gt gN #[.slice Aac a.n cac, .slice Aag a.m cag, .slice Aar a.n car] #[.slice Abc a.n cbc, .slice Abg b.m cbg, .slice Abr a.n cbr] #[.slice none 0 0, .slice none 0 0, .slice none 0 0] a.n bits (fun j => halfM (a.c j) (b.c j) bits) (hull a b bits).g (hullR a b bits) (1 + 2 * (i + 1)) v gr from by rw [show 1 + 2 * (i + 1) = 1 + 2 * i + 2 from by omega]; exact Hr.out)
              clear Hr
              go_wp2
              go_roundw
              case rel => exact ⟨i + 1, by go_num, hs, T12⟩
              case measure => simp only [intOf]; omega
        · obtain rfl : i = max a.m b.m := by omega
          clear hi2
          obtain ⟨v, gr, T⟩ := Hr.out
          clear Hr
          have eg : OG wr v (2 * max a.m b.m + 1) a.n (hull a b bits).g := by rw [show 2 * max a.m b.m + 1 = 1 + 2 * max a.m b.m from by omega]; exact T.s.og
          obtain ⟨gg, cg, rfl, _⟩ := OG.read eg n0 (by omega)
          have hss := eg
          have RR := Lib.hid (show OD wr gr a.n (hullR a b bits (2 * max a.m b.m + 1)) by rw [show 2 * max a.m b.m + 1 = 1 + 2 * max a.m b.m from by omega]; exact T.s.or)
          have RG := Lib.hid hss
          have RC := Lib.hid T.s.oc
          have BO := Lib.hid T.s.bo
          have BJ := Lib.hid T.s.bj
          have HB9 := Lib.hid T.s.be
          clear hss T
          have lo := BO.out.lt
          obtain ⟨co0, co1, co2⟩ := BO.out.cells3
          have fo0 := BO.out.free 0
          have fo1 := BO.out.free 1
          have fo2 := BO.out.free 2
          have lj := BJ.out.lt
          obtain ⟨cj0, cj1, cj2, cj3⟩ := BJ.out.cells4
          have qj : w3.heap.size ≠ w.heap.size + 2 := by omega
          have zr : (42 : TypeId) ≠ 39 := by decide
          have zd : (42 : TypeId) ≠ 53 := by decide
          have ng1 := RC.out.neb BO.out zd
          have ngr := RR.out.neb BO.out zd
          have RZ := Lib.hid (OG.rd (((RG.out.set BO.out zr zd 0 (by intro _ hh; cases hh) (.slice (some ⟨g1, 0, none⟩) a.n a.n)).set (BO.out.set 0 (.slice (some ⟨g1, 0, none⟩) a.n a.n)) zr zd 1 (by intro _ hh; cases hh) (.slice (some ⟨gg, 0, none⟩) (2 * max a.m b.m + 1) cg)).set ((BO.out.set 0 (.slice (some ⟨g1, 0, none⟩) a.n a.n)).set 1 (.slice (some ⟨gg, 0, none⟩) (2 * max a.m b.m + 1) cg)) zr zd 2 (by intro _ hh; cases hh) (.slice (some ⟨gr, 0, none⟩) a.n a.n)) n0 (by omega))
          go_wp2
          refine bodyPost_ret (v := .tuple #[.agg #[.slice (some ⟨g1, 0, none⟩) a.n a.n, .slice (some ⟨gg, 0, none⟩) (2 * max a.m b.m + 1) cg, .slice (some ⟨gr, 0, none⟩) a.n a.n], .int .i64 0]) ?_ rfl ?_
          · simp [results, Tryd.f26, go_sem, co0, co1, co2]
          · have y0 := BO.out.lt; have y1 := BJ.out.lt; have y2 := RC.out.lt; have y3 := RR.out.lt; have y4 := HB9.out.size; exact ⟨⟨g1, gg, gr, cg, rfl, ⟨(((RC.out.st (cs := #[.slice none 0 0, .slice none 0 0, .slice none 0 0]) BO.out (by omega) 0 (by intro _ hh; cases hh) (.slice (some ⟨g1, 0, none⟩) a.n a.n)).st (cs := #[.slice (some ⟨g1, 0, none⟩) a.n a.n, .slice none 0 0, .slice none 0 0]) (BO.out.set 0 (.slice (some ⟨g1, 0, none⟩) a.n a.n)) (by omega) 1 (by intro _ hh; cases hh) (.slice (some ⟨gg, 0, none⟩) (2 * max a.m b.m + 1) cg)).st (cs := #[.slice (some ⟨g1, 0, none⟩) a.n a.n, .slice (some ⟨gg, 0, none⟩) (2 * max a.m b.m + 1) cg, .slice none 0 0]) ((BO.out.set 0 (.slice (some ⟨g1, 0, none⟩) a.n a.n)).set 1 (.slice (some ⟨gg, 0, none⟩) (2 * max a.m b.m + 1) cg)) (by omega) 2 (by intro _ hh; cases hh) (.slice (some ⟨gr, 0, none⟩) a.n a.n)).read n0, RZ.out, (((RR.out.st (cs := #[.slice none 0 0, .slice none 0 0, .slice none 0 0]) BO.out (by omega) 0 (by intro _ hh; cases hh) (.slice (some ⟨g1, 0, none⟩) a.n a.n)).st (cs := #[.slice (some ⟨g1, 0, none⟩) a.n a.n, .slice none 0 0, .slice none 0 0]) (BO.out.set 0 (.slice (some ⟨g1, 0, none⟩) a.n a.n)) (by omega) 1 (by intro _ hh; cases hh) (.slice (some ⟨gg, 0, none⟩) (2 * max a.m b.m + 1) cg)).st (cs := #[.slice (some ⟨g1, 0, none⟩) a.n a.n, .slice (some ⟨gg, 0, none⟩) (2 * max a.m b.m + 1) cg, .slice none 0 0]) ((BO.out.set 0 (.slice (some ⟨g1, 0, none⟩) a.n a.n)).set 1 (.slice (some ⟨gg, 0, none⟩) (2 * max a.m b.m + 1) cg)) (by omega) 2 (by intro _ hh; cases hh) (.slice (some ⟨gr, 0, none⟩) a.n a.n)).read n0⟩⟩, (below_st (below_st (below_st HB9.out 0 (by omega) (.slice (some ⟨g1, 0, none⟩) a.n a.n)) 1 (by omega) (.slice (some ⟨gg, 0, none⟩) (2 * max a.m b.m + 1) cg)) 2 (by omega) (.slice (some ⟨gr, 0, none⟩) a.n a.n))⟩

end Go.Proofs.YtgioppkggpfnoaaDoor.Nu
end

section
/- The walk of zono.Point. -/
set_option linter.unusedVariables false
namespace Go.Proofs.YtgioppkggpfnoaaDoor.Nu
open Go.RowKit Go.Proofs

theorem point_mem {w w0 w3 : World} {g n : Nat} {t : TypeId} {cs : Array Value} (B : Bk w3 g t cs) (hs : w3.heap.size = w0.heap.size) (hb : Below w.heap.size w w3) :
    Bk ((w3.alloc (.cells (mkD n) 53)).alloc (.cells (mkD n) 53)).drew g t cs ∧ OD ((w3.alloc (.cells (mkD n) 53)).alloc (.cells (mkD n) 53)).drew w0.heap.size n (fun _ => D.zero) ∧ OD ((w3.alloc (.cells (mkD n) 53)).alloc (.cells (mkD n) 53)).drew (w0.heap.size + 1) n (fun _ => D.zero) ∧ Below w.heap.size w ((w3.alloc (.cells (mkD n) 53)).alloc (.cells (mkD n) 53)).drew := by
  rw [← hs]
  exact ⟨((B.alloc _).alloc _).drew, ((OD.made w3 n).al _).dr, (OD.made1 w3 _ n).dr, below_dr (below_al (below_al hb _) _)⟩

set_option maxRecDepth 100000 in
set_option maxHeartbeats 4000000 in
theorem point_any (w : World) (n : Nat) (hn : n ≤ 16) :
    Calls Tryd.prog 49 #[.int .i64 n] w fun e w' => (∃ g1 g2 : Nat, e = .returned (.agg #[.slice (some ⟨g1, 0, none⟩) n n, .slice none 0 0, .slice (some ⟨g2, 0, none⟩) n n]) ∧ w.heap.size ≤ g1 ∧ w.heap.size ≤ g2 ∧ g1 ≠ g2 ∧ OD w' g1 n (fun _ => D.zero) ∧ OD w' g2 n (fun _ => D.zero)) ∧ Below w.heap.size w w' := by
  have n0 : n ≤ 1000000 := by omega
  have hmk := fun W => make_D n n0 W
  have HMK := Lib.hid hmk
  clear hmk
  have e1 : max (n : Int) 0 = (n : Int) := by omega
  have e2 : min (n : Int) 16 = (n : Int) := by omega
  have BX := Lib.hid (boxes1 w 42 #[.slice none 0 0, .slice none 0 0, .slice none 0 0])
  go_enter Tryd.func49, Tryd.ntmps49
  go_wp2_with fail
  generalize w.alloc (.cells #[.slice none 0 0, .slice none 0 0, .slice none 0 0] 42) = w0 at *
  obtain ⟨b0, hw⟩ := BX.out
  have Bo_0 := Lib.hid b0
  have HB_0 := Lib.hid hw
  have K := Dk.below (hw.mono (Nat.le_refl _))
  clear BX hw b0
  clear K
  have lo := Bo_0.out.lt
  obtain ⟨co0, co1, co2⟩ := Bo_0.out.cells3
  have fo0 := Bo_0.out.free 0
  have fo1 := Bo_0.out.free 1
  have fo2 := Bo_0.out.free 2
  have hmk := HMK.out
  have n62 : n ≤ 16 := hn
  go_wp2_with fail
  go_region_held3 (fun w' => True) (trivial)
    (fail)
  all_goals go_wp2
  · have lw := HB_0.out.size
    have M := Lib.hid (point_mem (w0 := w0) (n := n) (((Bo_0.out.set 0 (.slice (some ⟨w0.heap.size, 0, none⟩) n n)).set 1 (.slice none 0 0)).set 2 (.slice (some ⟨w0.heap.size + 1, 0, none⟩) n n)) (by simp [World.setCell]) (below_st (below_st (below_st HB_0.out 0 (Nat.le_refl _) (.slice (some ⟨w0.heap.size, 0, none⟩) n n)) 1 (Nat.le_refl _) (.slice none 0 0)) 2 (Nat.le_refl _) (.slice (some ⟨w0.heap.size + 1, 0, none⟩) n n)))
    clear co0 co1 co2 fo0 fo1 fo2 lo hmk HMK
    generalize (((((w0.setCell ⟨w.heap.size, 0, none⟩ (.slice (some ⟨w0.heap.size, 0, none⟩) n n)).setCell ⟨w.heap.size, 1, none⟩ (.slice none 0 0)).setCell ⟨w.heap.size, 2, none⟩ (.slice (some ⟨w0.heap.size + 1, 0, none⟩) n n)).alloc (.cells (mkD n) 53)).alloc (.cells (mkD n) 53)).drew = w9 at *
    obtain ⟨m1, m2, m3, m4⟩ := M.out
    have co0 : w9.cell? ⟨w.heap.size, 0, none⟩ = some (.slice (some ⟨w0.heap.size, 0, none⟩) n n) := m1.cell 0 rfl
    have co1 : w9.cell? ⟨w.heap.size, 1, none⟩ = some (.slice none 0 0) := m1.cell 1 rfl
    have co2 : w9.cell? ⟨w.heap.size, 2, none⟩ = some (.slice (some ⟨w0.heap.size + 1, 0, none⟩) n n) := m1.cell 2 rfl
    refine bodyPost_ret (v := .agg #[.slice (some ⟨w0.heap.size, 0, none⟩) n n, .slice none 0 0, .slice (some ⟨w0.heap.size + 1, 0, none⟩) n n]) ?_ rfl ?_
    · simp [results, Tryd.f49, go_sem, co0, co1, co2]
    · exact ⟨⟨w0.heap.size, w0.heap.size + 1, rfl, by omega, by omega, by omega, m2, m3⟩, m4⟩
  · have lw := HB_0.out.size
    have M := Lib.hid (point_mem (w0 := w0) (n := n) (((Bo_0.out.set 0 (.slice (some ⟨w0.heap.size + 1, 0, none⟩) n n)).set 1 (.slice none 0 0)).set 2 (.slice (some ⟨w0.heap.size, 0, none⟩) n n)) (by simp [World.setCell]) (below_st (below_st (below_st HB_0.out 0 (Nat.le_refl _) (.slice (some ⟨w0.heap.size + 1, 0, none⟩) n n)) 1 (Nat.le_refl _) (.slice none 0 0)) 2 (Nat.le_refl _) (.slice (some ⟨w0.heap.size, 0, none⟩) n n)))
    clear co0 co1 co2 fo0 fo1 fo2 lo hmk HMK
    generalize (((((w0.setCell ⟨w.heap.size, 0, none⟩ (.slice (some ⟨w0.heap.size + 1, 0, none⟩) n n)).setCell ⟨w.heap.size, 1, none⟩ (.slice none 0 0)).setCell ⟨w.heap.size, 2, none⟩ (.slice (some ⟨w0.heap.size, 0, none⟩) n n)).alloc (.cells (mkD n) 53)).alloc (.cells (mkD n) 53)).drew = w9 at *
    obtain ⟨m1, m2, m3, m4⟩ := M.out
    have co0 : w9.cell? ⟨w.heap.size, 0, none⟩ = some (.slice (some ⟨w0.heap.size + 1, 0, none⟩) n n) := m1.cell 0 rfl
    have co1 : w9.cell? ⟨w.heap.size, 1, none⟩ = some (.slice none 0 0) := m1.cell 1 rfl
    have co2 : w9.cell? ⟨w.heap.size, 2, none⟩ = some (.slice (some ⟨w0.heap.size, 0, none⟩) n n) := m1.cell 2 rfl
    refine bodyPost_ret (v := .agg #[.slice (some ⟨w0.heap.size + 1, 0, none⟩) n n, .slice none 0 0, .slice (some ⟨w0.heap.size, 0, none⟩) n n]) ?_ rfl ?_
    · simp [results, Tryd.f49, go_sem, co0, co1, co2]
    · exact ⟨⟨w0.heap.size + 1, w0.heap.size, rfl, by omega, by omega, by omega, m3, m2⟩, m4⟩

end Go.Proofs.YtgioppkggpfnoaaDoor.Nu
end

section
/- join.Hull of sets of unlike places. -/
set_option linter.unusedVariables false
namespace Go.Proofs.YtgioppkggpfnoaaDoor.Nu
open Go.RowKit Go.Proofs

set_option maxRecDepth 100000 in
set_option maxHeartbeats 4000000 in
theorem hull_bad (w : World) (Aac Aag Aar Abc Abg Abr : Option Addr) (cac cag car cbc cbg cbr : Nat) (a b : Zo) (bits : Int) (ha : RZo w ⟨Aac, cac, Aag, cag, Aar, car⟩ a) (hb : RZo w ⟨Abc, cbc, Abg, cbg, Abr, cbr⟩ b) (hn : b.n ≠ a.n) (oa : a.Ok) (hna : Aag = none → cag = 0) (hnb : Abg = none → cbg = 0) :
    Calls Tryd.prog 26 #[.agg #[.slice Aac a.n cac, .slice Aag a.m cag, .slice Aar a.n car], .agg #[.slice Abc b.n cbc, .slice Abg b.m cbg, .slice Abr b.n cbr], .int .i64 bits] w fun e w' => e = .returned (.tuple #[.agg #[.slice none 0 0, .slice none 0 0, .slice none 0 0], .int .i64 20]) ∧ Below w.heap.size w w' := by
  have HA := Lib.hid ha
  have HB := Lib.hid hb
  have OA := Lib.hid oa
  have HNA := Lib.hid hna
  have HNB := Lib.hid hnb
  have HN := Lib.hid hn
  have n16 := oa.n
  clear ha hb oa hna hnb hn
  have BX := Lib.hid (boxes3 w 42 #[.slice Aac a.n cac, .slice Aag a.m cag, .slice Aar a.n car] 42 #[.slice Abc b.n cbc, .slice Abg b.m cbg, .slice Abr b.n cbr] 42 #[.slice none 0 0, .slice none 0 0, .slice none 0 0])
  go_enter Tryd.func26, Tryd.ntmps26
  go_wp2_with fail
  generalize ((w.alloc (.cells #[.slice Aac a.n cac, .slice Aag a.m cag, .slice Aar a.n car] 42)).alloc (.cells #[.slice Abc b.n cbc, .slice Abg b.m cbg, .slice Abr b.n cbr] 42)).alloc (.cells #[.slice none 0 0, .slice none 0 0, .slice none 0 0] 42) = w0 at *
  obtain ⟨b0, b1, b2, hw⟩ := BX.out
  have Ba_0 := Lib.hid b0
  have Bb_0 := Lib.hid b1
  have Bo_0 := Lib.hid b2
  have HB_0 := Lib.hid hw
  have K := Dk.below (hw.mono (Nat.le_refl _))
  clear BX hw b0 b1 b2
  clear K
  have la := Ba_0.out.lt
  obtain ⟨ca0, ca1, ca2⟩ := Ba_0.out.cells3
  have lb := Bb_0.out.lt
  obtain ⟨cb0, cb1, cb2⟩ := Bb_0.out.cells3
  have lo := Bo_0.out.lt
  obtain ⟨co0, co1, co2⟩ := Bo_0.out.cells3
  go_wp2_with fail
  refine (zcheck_good _ Aac Aag Aar cac cag car a (HA.out.below HB_0.out) OA.out HNA.out).mono ?_
  rintro e w1 ⟨rfl, hb⟩
  clear la ca0 ca1 ca2 lb cb0 cb1 cb2 lo co0 co1 co2
  have K := Dk.below hb
  have Ba_1 := Lib.hid (show Bk _ _ _ #[.slice Aac a.n cac, .slice Aag a.m cag, .slice Aar a.n car] from Ba_0.out.below hb)
  have Bb_2 := Lib.hid (show Bk _ _ _ #[.slice Abc b.n cbc, .slice Abg b.m cbg, .slice Abr b.n cbr] from Bb_0.out.below hb)
  have Bo_3 := Lib.hid (show Bk _ _ _ #[.slice none 0 0, .slice none 0 0, .slice none 0 0] from Bo_0.out.below hb)
  have HB_4 := Lib.hid (below_tr HB_0.out hb)
  clear hb
  clear K Ba_0 Bb_0 Bo_0 HB_0
  have la := Ba_1.out.lt
  obtain ⟨ca0, ca1, ca2⟩ := Ba_1.out.cells3
  have lb := Bb_2.out.lt
  obtain ⟨cb0, cb1, cb2⟩ := Bb_2.out.cells3
  have lo := Bo_3.out.lt
  obtain ⟨co0, co1, co2⟩ := Bo_3.out.cells3
  go_wp2_with fail
  refine (zcheck_any _ Abc Abg Abr b.n cbc b.m cbg b.n cbr a.n (RDs.raw (HB.out.below HB_4.out).c) (RDss.raw (HB.out.below HB_4.out).g) (RDs.raw (HB.out.below HB_4.out).r) HNB.out (by omega)).mono ?_
  rintro e w2 ⟨⟨r, rfl, hr⟩, hb⟩
  clear la ca0 ca1 ca2 lb cb0 cb1 cb2 lo co0 co1 co2
  have K := Dk.below hb
  have Ba_5 := Lib.hid (show Bk _ _ _ #[.slice Aac a.n cac, .slice Aag a.m cag, .slice Aar a.n car] from Ba_1.out.below hb)
  have Bb_6 := Lib.hid (show Bk _ _ _ #[.slice Abc b.n cbc, .slice Abg b.m cbg, .slice Abr b.n cbr] from Bb_2.out.below hb)
  have Bo_7 := Lib.hid (show Bk _ _ _ #[.slice none 0 0, .slice none 0 0, .slice none 0 0] from Bo_3.out.below hb)
  have HB_8 := Lib.hid (below_tr HB_4.out hb)
  clear hb
  clear K Ba_1 Bb_2 Bo_3 HB_4
  have q9 : ¬ r = 0 := fun e => HN.out (hr.1 e).1
  clear hr
  have la := Ba_5.out.lt
  obtain ⟨ca0, ca1, ca2⟩ := Ba_5.out.cells3
  have lb := Bb_6.out.lt
  obtain ⟨cb0, cb1, cb2⟩ := Bb_6.out.cells3
  have lo := Bo_7.out.lt
  obtain ⟨co0, co1, co2⟩ := Bo_7.out.cells3
  have fo0 := Bo_7.out.free 0
  have fo1 := Bo_7.out.free 1
  have fo2 := Bo_7.out.free 2
  go_wp2
  refine bodyPost_ret (v := .tuple #[.agg #[.slice none 0 0, .slice none 0 0, .slice none 0 0], .int .i64 20]) ?_ rfl ?_
  · simp [results, Tryd.f26, go_sem, co0, co1, co2]
  · have y0 := HB_8.out.size; exact ⟨rfl, (below_st (below_st (below_st HB_8.out 0 (by omega) (.slice none 0 0)) 1 (by omega) (.slice none 0 0)) 2 (by omega) (.slice none 0 0))⟩

end Go.Proofs.YtgioppkggpfnoaaDoor.Nu
end

section
/- The two points that layer 18's statements join ahead of all else: what comes of it. And how near the set that holds two lies. No program in sight. -/
namespace Go.Proofs.YtgioppkggpfnoaaDoor.Nu

/-- The middle alone, of so many noughts. -/
def ptZo (n : Nat) : Zo := ⟨n, fun _ => D.zero, 0, fun _ _ => D.zero, fun _ => D.zero⟩
/-- One place, and noughts behind it. -/
def fst1 (e : D) : Nat → D := fun j => if j = 0 then e else D.zero
def ptZo1 (e : D) : Zo := ⟨2, fst1 e, 0, fun _ _ => D.zero, fun _ => D.zero⟩
theorem mk_int (z : Int) : (D.mk' z 0).val = z := by
  rw [mk_val, show (0 : Int) = ((0 : Nat) : Int) from rfl, Rat.zpow_natCast, show (2 : Rat) ^ (0 : Nat) = 1 from rfl, Rat.mul_one]
theorem small_lim {z : Int} {T : Nat} (h : z.natAbs < 2 ^ T) : (D.mk' z 0).Lim 0 T := mk_lim (by omega) (by have := nb_le.2 h; omega)
theorem ptZo_lim (n E T : Nat) : (ptZo n).Lim E T := ⟨fun _ _ => zero_lim _ _, fun _ _ h _ => absurd h (Nat.not_lt_zero _), fun _ _ => zero_lim _ _⟩
theorem fst1_lim {e : D} {E T : Nat} (h : e.Lim E T) (i : Nat) : (fst1 e i).Lim E T := by
  unfold fst1
  split
  · exact h
  · exact zero_lim _ _
theorem ptZo1_lim {e : D} {E T : Nat} (h : e.Lim E T) : (ptZo1 e).Lim E T := ⟨fun i _ => fst1_lim h i, fun _ _ h _ => absurd h (Nat.not_lt_zero _), fun _ _ => zero_lim _ _⟩
theorem fst1_val (e : D) : (fst1 e 0).val = e.val ∧ (fst1 e 1).val = 0 := ⟨rfl, zero_val⟩
theorem jn_low (u e : D) : lowQ (ptZo 2) (ptZo1 u) (fun i => (fst1 e i).val) = u.val * e.val / 2 + qabs (u.val * e.val / 2) := by
  rw [lowQ_eq]
  have h1 : (ptZo 2).cd (fun i => (fst1 e i).val) (ptZo 2).n = 0 := dot_zero _ (fun _ _ => zero_val)
  have h2 : (ptZo1 u).cd (fun i => (fst1 e i).val) (ptZo 2).n = u.val * e.val := by
    show dot (fun j => (fst1 u j).val) (fun i => (fst1 e i).val) 2 = _
    simp only [dot]
    rw [(fst1_val u).1, (fst1_val e).1, (fst1_val u).2]
    grind
  have h3 : dot (fun i => maxQ ((ptZo 2).r i).val ((ptZo1 u).r i).val) (fun i => qabs (fst1 e i).val) (ptZo 2).n = 0 := dot_zero _ (fun _ _ => by
    show maxQ D.zero.val D.zero.val = 0
    rw [show D.zero.val = 0 from zero_val]; rfl)
  rw [h1, h2, h3]
  show (0 + u.val * e.val) / 2 + (qabs ((0 - u.val * e.val) / 2) + 0) + 0 = _
  rw [show (0 - u.val * e.val) / 2 = -(u.val * e.val / 2) by grind, qabs_neg]
  grind
theorem jn_sup {u e : D} (hu : u.Lim 0 3) (he : e.Lim 0 1) : ((hull (ptZo 2) (ptZo1 u) 30).sup (pts (fst1 e)) 30).val = u.val * e.val / 2 + qabs (u.val * e.val / 2) := by
  have hl := hull_lim (ptZo_lim 2 0 3) (ptZo1_lim hu) rfl 30
  rw [sup_far hl (fun i _ => fst1_lim he i) (by show 1 + 0 + (3 + 7 + 4 * max 0 0) + 1 + 2 + (2 * max 0 0 + 1) + 2 ≤ 30; omega)]
  rw [hull_exact (ptZo_lim 2 0 3) (ptZo1_lim hu) rfl _ (by show 0 + 3 + 9 + 4 * max 0 0 ≤ 30; omega)]
  exact jn_low u e
theorem four_lim : (D.mk' 4 0).Lim 0 3 := small_lim (by decide)
theorem one_lim : (D.mk' 1 0).Lim 0 1 := small_lim (by decide)
theorem jn_s : ((hull (ptZo 2) (ptZo1 (D.mk' 4 0)) 30).sup (pts (fst1 (D.mk' 1 0))) 30).cmp (D.mk' 4 0) = 0 := by
  refine cmp_zero_iff.2 ?_
  rw [jn_sup four_lim one_lim, mk_int, mk_int]
  decide +kernel
theorem jn_l : ((hull (ptZo 2) (ptZo1 (D.mk' 4 0)) 30).sup (pts (fst1 (D.mk' 1 0).neg)) 30).z = 0 := by
  refine val_zero.1 ?_
  rw [jn_sup four_lim (neg_lim one_lim), neg_val, mk_int, mk_int]
  decide +kernel
theorem jn_c : ((hull (ptZo 2) (ptZo1 (D.mk' 4 0)) 30).c 0).cmp (D.mk' 2 0) = 0 := by
  refine cmp_zero_iff.2 ?_
  have h := (half_exact (x := D.zero) (y := D.mk' 4 0) (bits := 30) (zero_lim 0 3) four_lim (by omega)).1
  show (halfM D.zero (D.mk' 4 0) 30).val = _
  rw [h, show D.zero.val = 0 from zero_val, mk_int, mk_int]
  decide +kernel
/-! ### What holds two may be -/
theorem sumQ_nonneg {f : Nat → Rat} (n : Nat) (h : ∀ i, i < n → 0 ≤ f i) : 0 ≤ sumQ f n := by
  have := sumQ_mono (p := fun _ => 0) (q := f) n h
  rw [sumQ_zero n (fun _ _ => rfl)] at this
  exact this
theorem hullR_nonneg {a b : Zo} (bits k i : Nat) (ha : 0 ≤ (a.r i).z) : 0 ≤ (hullR a b bits k i).z := by
  have h1 := hullR_ge a b bits k i
  have h2 : 0 ≤ (a.r i).val := Rat.not_lt.1 fun e => by have := val_neg.1 e; omega
  have h3 : (a.r i).val ≤ maxQ (a.r i).val (b.r i).val := by unfold maxQ; split <;> grind
  have h4 : 0 ≤ offQ a b bits k i := by
    unfold offQ
    have := sumQ_nonneg (f := fun j => (halfO (wayA a j i) (wayB b j i) bits).val) k (fun _ _ => halfO_nonneg _ _ _)
    have := halfO_nonneg (a.c i) (b.c i) bits
    grind
  have h5 : 0 ≤ (hullR a b bits k i).val := by grind
  false_or_by_contra
  rename_i h6
  exact absurd h5 (Rat.not_le.2 (val_neg.2 (by omega)))
end Go.Proofs.YtgioppkggpfnoaaDoor.Nu
end

section
/- A corner of a set, and what lies between corners of two: no further than what holds both. No program in sight. -/
namespace Go.Proofs.YtgioppkggpfnoaaDoor.Nu

/-- Nothing but at one place. -/
def uniD (i : Nat) (e : D) : Nat → D := fun j => if j = i then e else D.zero
def uniQ (i : Nat) (s : Rat) : Nat → Rat := fun j => if j = i then s else 0
theorem uni_val (i : Nat) (e : D) : (fun j => (uniD i e j).val) = uniQ i e.val := by
  funext j
  unfold uniD uniQ
  split
  · rfl
  · exact zero_val
theorem uni_abs (i : Nat) (s : Rat) : (fun j => qabs (uniQ i s j)) = uniQ i (qabs s) := by
  funext j
  unfold uniQ
  split <;> rfl
theorem dot_uni0 (f : Nat → Rat) (i : Nat) (s : Rat) (n : Nat) (h : n ≤ i) : dot f (uniQ i s) n = 0 := by
  induction n with
  | zero => rfl
  | succ n ih =>
    simp only [dot]
    rw [ih (by omega), show uniQ i s n = 0 from if_neg (by omega)]
    grind
theorem dot_uni (f : Nat → Rat) {i : Nat} (s : Rat) {n : Nat} (h : i < n) : dot f (uniQ i s) n = f i * s := by
  induction n with
  | zero => omega
  | succ n ih =>
    simp only [dot]
    by_cases e : i = n
    · subst e
      rw [dot_uni0 f i s i (Nat.le_refl _), show uniQ i s i = s from if_pos rfl]
      grind
    · rw [ih (by omega), show uniQ i s n = 0 from if_neg (by omega)]
      grind
theorem far_uni (z : Zo) {i : Nat} (s : Rat) (h : i < z.n) : z.far (uniQ i s) = (z.c i).val * s + sumQ (fun k => qabs ((z.g k i).val * s)) z.m + (z.r i).val * qabs s := by
  unfold Zo.far
  rw [dot_uni _ s h, uni_abs, dot_uni _ _ h]
  congr 2
  exact sumQ_congr _ fun k _ => by rw [dot_uni _ s h]
/-- The corner that some signs tell, after so many ways. -/
def cornF (z : Zo) (σ : Nat → Bool) : Nat → Nat → D
  | 0 => z.c
  | k + 1 => fun i => (cornF z σ k i).add (if σ k then (z.g k i).neg else z.g k i)
theorem sig_lim {d : D} {E T : Nat} (h : d.Lim E T) (b : Bool) : (if b then d.neg else d).Lim E T := by
  cases b
  · exact h
  · exact neg_lim h
theorem corn_lim {z : Zo} {E T : Nat} (h : z.Lim E T) (σ : Nat → Bool) (k i : Nat) (hk : k ≤ z.m) (hi : i < z.n) : (cornF z σ k i).Lim E (T + k) := by
  induction k with
  | zero => exact h.c i hi
  | succ k ih => exact add_lim (ih (by omega)) ((sig_lim (h.g k i (by omega) hi) (σ k)).mono (Nat.le_refl _) (Nat.le_add_right _ _))
theorem corn_le (z : Zo) (σ : Nat → Bool) (s : Rat) (k i : Nat) : (cornF z σ k i).val * s ≤ (z.c i).val * s + sumQ (fun k => qabs ((z.g k i).val * s)) k := by
  induction k with
  | zero => simp only [cornF, sumQ]; grind
  | succ k ih =>
    have h1 := qabs_le ((z.g k i).val * s)
    have h2 := qabs_neg_le ((z.g k i).val * s)
    simp only [cornF, sumQ]
    rw [add_val]
    cases σ k
    · rw [if_neg (by decide)]; grind
    · rw [if_pos rfl, neg_val]; grind
theorem corn_far {z : Zo} (σ : Nat → Bool) (s : Rat) {i : Nat} (hi : i < z.n) (hr : 0 ≤ (z.r i).z) : (cornF z σ z.m i).val * s ≤ z.far (uniQ i s) := by
  rw [far_uni z s hi]
  have h1 := corn_le z σ s z.m i
  have h2 : 0 ≤ (z.r i).val := Rat.not_lt.1 fun e => by have := val_neg.1 e; omega
  have h3 := Rat.mul_nonneg h2 (qabs_nonneg s)
  grind
theorem eighth (z : Int) : (D.mk' z (-3)).val = z / 8 := by
  rw [mk_val]
  have h := zpow_add' 3 (-3)
  rw [show (3 : Int) + -3 = ((0 : Nat) : Int) from rfl, Rat.zpow_natCast, show (3 : Int) = ((3 : Nat) : Int) from rfl, Rat.zpow_natCast, show (2 : Rat) ^ (0 : Nat) = 1 from rfl, show (2 : Rat) ^ (3 : Nat) = 8 from by decide +kernel] at h
  have h2 : (2 : Rat) ^ (-((3 : Nat) : Int)) = 1 / 8 := by grind
  rw [show (-3 : Int) = -((3 : Nat) : Int) from rfl, h2]
  grind
/-- Between the two: no further. -/
theorem between {x y F s : Rat} {p : Int} (h0 : 0 ≤ p) (h8 : p ≤ 8) (hx : x * s ≤ F) (hy : y * s ≤ F) : x * (p * s / 8) + y * ((8 - p) * s / 8) ≤ F := by
  have k0 : (0 : Rat) ≤ (p : Rat) := by rw [show (0 : Rat) = ((0 : Int) : Rat) from rfl, Rat.intCast_le_intCast]; exact h0
  have k8 : (p : Rat) ≤ 8 := by rw [show (8 : Rat) = ((8 : Int) : Rat) from rfl, Rat.intCast_le_intCast]; exact h8
  have h1 := Rat.mul_le_mul_of_nonneg_right hx k0
  have h2 := Rat.mul_le_mul_of_nonneg_right hy (show (0 : Rat) ≤ 8 - p by grind)
  grind
/-- What is reckoned there, and how far what holds both goes. -/
theorem between_hull {a b : Zo} (bits : Nat) (σ τ : Nat → Bool) {i : Nat} {p s : Int} (hn : a.n = b.n) (hi : i < a.n) (ra : 0 ≤ (a.r i).z) (rb : 0 ≤ (b.r i).z) (h0 : 0 ≤ p) (h8 : p ≤ 8) :
    (((cornF a σ a.m i).mul (D.mk' (p * s) (-3))).add ((cornF b τ b.m i).mul (D.mk' ((8 - p) * s) (-3)))).val ≤ (hull a b bits).far (uniQ i s) := by
  rw [add_val, mul_val, mul_val, eighth, eighth]
  have h1 := Rat.le_trans (corn_far σ (s : Rat) hi ra) (hull_a a b bits (uniQ i s))
  have h2 := Rat.le_trans (corn_far τ (s : Rat) (by omega) rb) (hull_b a b bits (uniQ i s) hn)
  have h3 := between h0 h8 h1 h2
  rw [Rat.intCast_mul, Rat.intCast_mul, Rat.intCast_sub]
  exact h3
end Go.Proofs.YtgioppkggpfnoaaDoor.Nu
end

section
/- Points as sets in memory; what holds two may be; a direction of two spans; comparisons whose answer is known. -/
set_option linter.unusedVariables false
namespace Go.Proofs.YtgioppkggpfnoaaDoor.Nu
open Go.RowKit Go.Proofs

theorem lim_ok {d : D} {E T : Nat} (h : d.Lim E T) (hET : E + T ≤ 16384) : OkD d := ⟨by have := h.1; omega, by have := h.2; omega, Nat.le_trans h.nb hET⟩
theorem ptZo_ok {n : Nat} (hn : n ≤ 16) : (ptZo n).Ok := ⟨hn, Nat.zero_le _, fun _ _ => lim_ok (zero_lim 0 0) (by omega), fun _ _ h _ => absurd h (Nat.not_lt_zero _), fun _ _ => lim_ok (zero_lim 0 0) (by omega), fun _ _ => Int.le_refl _⟩
theorem ptZo1_ok {e : D} {E T : Nat} (h : e.Lim E T) (hET : E + T ≤ 16384) : (ptZo1 e).Ok := ⟨by show 2 ≤ 16; omega, Nat.zero_le _, fun i _ => lim_ok (fst1_lim h i) hET, fun _ _ h _ => absurd h (Nat.not_lt_zero _), fun _ _ => lim_ok (zero_lim 0 0) (by omega), fun _ _ => Int.le_refl _⟩
theorem rzo_pt {w : World} {g1 g2 n : Nat} (h1 : OD w g1 n (fun _ => D.zero)) (h2 : OD w g2 n (fun _ => D.zero)) (hn : n ≤ 16) : RZo w ⟨some ⟨g1, 0, none⟩, n, none, 0, some ⟨g2, 0, none⟩, n⟩ (ptZo n) :=
  ⟨h1.read (by omega), ⟨Nat.le_refl _, Nat.zero_le _, fun h => absurd h (Nat.lt_irrefl _)⟩, h2.read (by omega)⟩
theorem rzo_pt1 {w : World} {g1 g2 : Nat} {e : D} (h1 : OD w g1 2 (fst1 e)) (h2 : OD w g2 2 (fun _ => D.zero)) : RZo w ⟨some ⟨g1, 0, none⟩, 2, none, 0, some ⟨g2, 0, none⟩, 2⟩ (ptZo1 e) :=
  ⟨h1.read (by omega), ⟨Nat.le_refl _, Nat.zero_le _, fun h => absurd h (Nat.lt_irrefl _)⟩, h2.read (by omega)⟩
theorem hull_ok {a b : Zo} {E T : Nat} (la : a.Lim E T) (lb : b.Lim E T) (hn : a.n = b.n) (oa : a.Ok) (bits : Nat) (hm : max a.m b.m ≤ 2047) (hET : E + T + 8 + 4 * max a.m b.m ≤ 16384) : (hull a b bits).Ok := by
  have hl := hull_lim la lb hn bits
  exact ⟨oa.n, by show 2 * max a.m b.m + 1 ≤ 4096; omega, fun i hi => lim_ok (hl.c i hi) (by omega), fun k i hk hi => lim_ok (hl.g k i hk hi) (by omega), fun i hi => lim_ok (hl.r i hi) (by omega), fun i hi => hullR_nonneg bits _ i (oa.p i hi)⟩
/-- A direction of two: one number and none. -/
theorem lit2 {w : World} {g : Nat} {s : SQ} {e : D} (hb : Bk w g 62 #[.bool s.lo.b, .slice s.lo.A s.lo.n s.lo.c, .int .i64 e.x, .bool s.hi.b, .slice s.hi.A s.hi.n s.hi.c, .int .i64 e.x, .bool false, .slice none 0 0, .int .i64 0, .bool false, .slice none 0 0, .int .i64 0]) (hr : RS w s (Sp.pt e)) : RSs w (some ⟨g, 0, none⟩) 2 2 (pts (fst1 e)) := by
  refine ⟨Nat.le_refl _, by omega, fun _ => ⟨g, 0, rfl, hb.lt, fun j hj => ?_⟩⟩
  obtain rfl | rfl : j = 0 ∨ j = 1 := by omega
  · exact ⟨s, hb.cell 0 rfl, hb.cell 1 rfl, hb.cell 2 rfl, hb.cell 3 rfl, hb.cell 4 rfl, hb.cell 5 rfl, hr⟩
  · exact ⟨⟨Q.nil, Q.nil⟩, hb.cell 6 rfl, hb.cell 7 rfl, hb.cell 8 rfl, hb.cell 9 rfl, hb.cell 10 rfl, hb.cell 11 rfl, RS.zero w⟩
theorem dcompare_is (w : World) (p q : Q) (a b : D) (E T : Nat) (z : Int) (h : RD w p a) (h2 : RD w q b) (la : a.Lim E T) (lb : b.Lim E T) (hET : E + T ≤ 16000) (hz : a.cmp b = z) :
    Calls Tryd.prog 48 #[.agg #[.bool p.b, .slice p.A p.n p.c, .int .i64 a.x], .agg #[.bool q.b, .slice q.A q.n q.c, .int .i64 b.x]] w fun e w' => e = .returned (.int .i64 z) ∧ Below w.heap.size w w' := by
  rw [← hz]; exact dcompare_any w p q a b E T h h2 la lb hET
theorem dless_is (w : World) (p q : Q) (a b : D) (E T : Nat) (z : Bool) (h : RD w p a) (h2 : RD w q b) (la : a.Lim E T) (lb : b.Lim E T) (hET : E + T ≤ 16000) (hz : decide (a.cmp b < 0) = z) :
    Calls Tryd.prog 29 #[.agg #[.bool p.b, .slice p.A p.n p.c, .int .i64 a.x], .agg #[.bool q.b, .slice q.A q.n q.c, .int .i64 b.x]] w fun e w' => e = .returned (.bool z) ∧ Below w.heap.size w w' := by
  rw [← hz]; exact dless_any w p q a b E T h h2 la lb hET
theorem dsign_zero (w : World) (q : Q) (d : D) (h : RD w q d) (hz : d.z = 0) :
    Calls Tryd.prog 34 #[.agg #[.bool q.b, .slice q.A q.n q.c, .int .i64 d.x]] w fun e w' => e = .returned (.int .i64 0) ∧ Below w.heap.size w w' := by
  have h1 := dsign_any w q.b q.A q.n q.c d.z d.x h.1
  rw [hz] at h1
  exact h1
end Go.Proofs.YtgioppkggpfnoaaDoor.Nu
end

section
/- What layer 18's 'joins' calls, at its own inputs. -/
set_option linter.unusedVariables false
namespace Go.Proofs.YtgioppkggpfnoaaDoor.Nu
open Go.RowKit Go.Proofs

/-- A contract at a world that is named ahead: where it is another one, that is told at once. -/
theorem calls_at {P : Program} {f : FuncId} {args : Array Value} {W W' : World} {post : Ending → World → Prop} (h : Calls P f args W post) (e : W = W') : Calls P f args W' post := e ▸ h
theorem sup_lim {z : Zo} {dir : Nat → Sp} {E T E2 T2 : Nat} (bits : Nat) (lz : z.Lim E T) (ld : ∀ i, i < z.n → (dir i).Lim E2 T2) : (z.sup dir bits).Lim (E + E2) (T + T2 + 1 + (2 * z.n + 2 * z.m) + 2 * z.n) := by
  have h1 := inner_lim (a := pts z.c) bits z.n (fun i hi => pt_lim (lz.c i hi)) ld
  have h2 := supG_lim (bits := bits) lz.g ld h1 z.m (Nat.le_refl _)
  exact (supR_lim (q := 2 * z.n + 2 * z.m) (bits := bits) lz.r ld (h2.mono (Nat.le_refl _) (by omega)) z.n (Nat.le_refl _)).2
def jnH : Zo := hull (ptZo 2) (ptZo1 (D.mk' 4 0)) 30
theorem jnH_lim : jnH.Lim 1 10 := hull_lim (ptZo_lim 2 0 3) (ptZo1_lim four_lim) rfl 30
def jnS (e : D) : D := jnH.sup (pts (fst1 e)) 30
theorem jnS_lim {e : D} (he : e.Lim 0 1) : (jnS e).Lim 1 30 := (sup_lim (E2 := 0) (T2 := 1) 30 jnH_lim (fun i _ => pt_lim (fst1_lim he i))).mono (by omega) (by show 10 + 1 + 1 + (2 * 2 + 2 * (2 * max 0 0 + 1)) + 2 * 2 ≤ 30; omega)
theorem sneg_pt (w : World) (s : SQ) (d : D) (E T : Nat) (h : RS w s (Sp.pt d)) (ld : d.Lim E T) (hET : E + T ≤ 16000) :
    Calls Tryd.prog 85 #[.agg #[.bool s.lo.b, .slice s.lo.A s.lo.n s.lo.c, .int .i64 d.x, .bool s.hi.b, .slice s.hi.A s.hi.n s.hi.c, .int .i64 d.x]] w fun e w' => (∃ r : SQ, e = .returned (.agg #[.bool r.lo.b, .slice r.lo.A r.lo.n r.lo.c, .int .i64 d.neg.x, .bool r.hi.b, .slice r.hi.A r.hi.n r.hi.c, .int .i64 d.neg.x]) ∧ RS w' r (Sp.pt d.neg)) ∧ Below w.heap.size w w' :=
  sneg_any w s (Sp.pt d) E T h (pt_lim ld) hET
theorem point_1 (w : World) : Calls Tryd.prog 49 #[.int .i64 1] w fun e w' => (∃ g1 g2 : Nat, e = .returned (.agg #[.slice (some ⟨g1, 0, none⟩) 1 1, .slice none 0 0, .slice (some ⟨g2, 0, none⟩) 1 1]) ∧ w.heap.size ≤ g1 ∧ w.heap.size ≤ g2 ∧ g1 ≠ g2 ∧ OD w' g1 1 (fun _ => D.zero) ∧ OD w' g2 1 (fun _ => D.zero)) ∧ Below w.heap.size w w' := point_any w 1 (by omega)
theorem hull_jn (w : World) (g1 g2 g3 g4 : Nat) (hA : RZo w ⟨some ⟨g1, 0, none⟩, 2, none, 0, some ⟨g2, 0, none⟩, 2⟩ (ptZo 2)) (hB : RZo w ⟨some ⟨g3, 0, none⟩, 2, none, 0, some ⟨g4, 0, none⟩, 2⟩ (ptZo1 (D.mk' 4 0))) (ht : BTab w) :
    Calls Tryd.prog 26 #[.agg #[.slice (some ⟨g1, 0, none⟩) 2 2, .slice none 0 0, .slice (some ⟨g2, 0, none⟩) 2 2], .agg #[.slice (some ⟨g3, 0, none⟩) 2 2, .slice none 0 0, .slice (some ⟨g4, 0, none⟩) 2 2], .int .i64 30] w fun e w' => (∃ gc gg gr cg : Nat, e = .returned (.tuple #[.agg #[.slice (some ⟨gc, 0, none⟩) 2 2, .slice (some ⟨gg, 0, none⟩) 1 cg, .slice (some ⟨gr, 0, none⟩) 2 2], .int .i64 0]) ∧ RZo w' ⟨some ⟨gc, 0, none⟩, 2, some ⟨gg, 0, none⟩, cg, some ⟨gr, 0, none⟩, 2⟩ jnH) ∧ Below w.heap.size w w' :=
  hull_any w (some ⟨g1, 0, none⟩) none (some ⟨g2, 0, none⟩) (some ⟨g3, 0, none⟩) none (some ⟨g4, 0, none⟩) 2 0 2 2 0 2 (ptZo 2) (ptZo1 (D.mk' 4 0)) 30 0 3 hA hB rfl (ptZo_ok (by omega)) (ptZo1_ok four_lim (by omega)) (ptZo_lim 2 0 3) (ptZo1_lim four_lim) (fun _ => rfl) (fun _ => rfl) (by show max 0 0 ≤ 2047; omega) (by show 0 + 3 + 4 * max 0 0 + 20 ≤ 16000; omega) (by omega) (by omega) ht
theorem hull_jbad (w : World) (g1 g2 g3 g4 : Nat) (hA : RZo w ⟨some ⟨g1, 0, none⟩, 2, none, 0, some ⟨g2, 0, none⟩, 2⟩ (ptZo 2)) (hB : RZo w ⟨some ⟨g3, 0, none⟩, 1, none, 0, some ⟨g4, 0, none⟩, 1⟩ (ptZo 1)) :
    Calls Tryd.prog 26 #[.agg #[.slice (some ⟨g1, 0, none⟩) 2 2, .slice none 0 0, .slice (some ⟨g2, 0, none⟩) 2 2], .agg #[.slice (some ⟨g3, 0, none⟩) 1 1, .slice none 0 0, .slice (some ⟨g4, 0, none⟩) 1 1], .int .i64 30] w fun e w' => e = .returned (.tuple #[.agg #[.slice none 0 0, .slice none 0 0, .slice none 0 0], .int .i64 20]) ∧ Below w.heap.size w w' :=
  hull_bad w (some ⟨g1, 0, none⟩) none (some ⟨g2, 0, none⟩) (some ⟨g3, 0, none⟩) none (some ⟨g4, 0, none⟩) 2 0 2 1 0 1 (ptZo 2) (ptZo 1) 30 hA hB (by show ¬ 1 = 2; omega) (ptZo_ok (by omega)) (fun _ => rfl) (fun _ => rfl)
theorem support_jn (w : World) (e : D) (gc gg gr cg gd : Nat) (h : RZo w ⟨some ⟨gc, 0, none⟩, 2, some ⟨gg, 0, none⟩, cg, some ⟨gr, 0, none⟩, 2⟩ jnH) (hd : RSs w (some ⟨gd, 0, none⟩) 2 2 (pts (fst1 e))) (he : e.Lim 0 1) (ht : BTab w) :
    Calls Tryd.prog 60 #[.agg #[.slice (some ⟨gc, 0, none⟩) 2 2, .slice (some ⟨gg, 0, none⟩) 1 cg, .slice (some ⟨gr, 0, none⟩) 2 2], .slice (some ⟨gd, 0, none⟩) 2 2, .int .i64 30] w fun e' w' => (∃ r : Q, e' = .returned (.tuple #[.agg #[.bool r.b, .slice r.A r.n r.c, .int .i64 (jnS e).x], .int .i64 0]) ∧ RD w' r (jnS e)) ∧ Below w.heap.size w w' :=
  support_any w (some ⟨gc, 0, none⟩) (some ⟨gg, 0, none⟩) (some ⟨gr, 0, none⟩) 2 cg 2 jnH (some ⟨gd, 0, none⟩) 2 (pts (fst1 e)) 30 1 10 0 1 h hd jnH_lim (fun i _ => pt_lim (fst1_lim he i)) (by show 1 + 0 + 10 + 1 + 4 * 2 + 2 * (2 * max 0 0 + 1) + 10 ≤ 16000; omega) (by omega) (by omega) ht
end Go.Proofs.YtgioppkggpfnoaaDoor.Nu
end

section
/- The walk of layer 18's first look: two points, joined. -/
set_option linter.unusedVariables false
namespace Go.Proofs.YtgioppkggpfnoaaDoor.Nu
open Go.RowKit Go.Proofs

theorem two_lim : (D.mk' 2 0).Lim 0 2 := small_lim (by decide)

set_option maxRecDepth 100000 in
set_option maxHeartbeats 4000000 in
theorem joins_any (w : World) (ht : BTab w) :
    Calls Tryd.prog 23 #[] w fun e w' => e = .returned (.bool true) ∧ Below w.heap.size w w' := by
  have HT := Lib.hid ht
  clear ht
  go_enter Tryd.func23, Tryd.ntmps23
  have HB_0 := Lib.hid (show Below w.heap.size w w from Below.refl _ _)
  go_wp2_with fail
  refine (point_any _ 2 (by omega)).mono ?_
  rintro e w1 ⟨⟨g1, g2, rfl, p1, p2, p3, ho1, ho2⟩, hb⟩
  have K := Dk.below hb
  have HB_1 := Lib.hid (below_tr HB_0.out hb)
  clear hb
  clear K HB_0
  have O1 := Lib.hid ho1
  have O2 := Lib.hid ho2
  clear ho1 ho2
  have l1 := O1.out.lt
  have l2 := O2.out.lt
  go_wp2_with fail
  refine (point_any _ 2 (by omega)).mono ?_
  rintro e w2 ⟨⟨g3, g4, rfl, p4, p5, p6, ho1, ho2⟩, hb⟩
  have K := Dk.below hb
  have Oa1_2 := Lib.hid (show OD _ (g1) 2 (fun _ => D.zero) from O1.out.below hb)
  have Oa2_3 := Lib.hid (show OD _ (g2) 2 (fun _ => D.zero) from O2.out.below hb)
  have HB_4 := Lib.hid (below_tr HB_1.out hb)
  clear hb
  clear K O1 O2 HB_1
  have O3 := Lib.hid ho1
  have O4 := Lib.hid ho2
  clear ho1 ho2
  have n_5 := Oa1_2.out.lt
  have n_6 := Oa2_3.out.lt
  have n_7 := O3.out.lt
  have n_8 := O4.out.lt
  go_wp2_with fail
  have K : Dk w2 ((w2.alloc (.cells #[.slice (some ⟨g1, 0, none⟩) 2 2, .slice none 0 0, .slice (some ⟨g2, 0, none⟩) 2 2] 42)).alloc (.cells #[.slice (some ⟨g3, 0, none⟩) 2 2, .slice none 0 0, .slice (some ⟨g4, 0, none⟩) 2 2] 42)) := (((Dk.refl _).alloc _).alloc _)
  have Ba_9 := Lib.hid (show Bk ((w2.alloc (.cells #[.slice (some ⟨g1, 0, none⟩) 2 2, .slice none 0 0, .slice (some ⟨g2, 0, none⟩) 2 2] 42)).alloc (.cells #[.slice (some ⟨g3, 0, none⟩) 2 2, .slice none 0 0, .slice (some ⟨g4, 0, none⟩) 2 2] 42)) (w2.heap.size) 42 #[.slice (some ⟨g1, 0, none⟩) 2 2, .slice none 0 0, .slice (some ⟨g2, 0, none⟩) 2 2] from ((Bk.new _ 42 #[.slice (some ⟨g1, 0, none⟩) 2 2, .slice none 0 0, .slice (some ⟨g2, 0, none⟩) 2 2]).alloc _))
  have Bb_10 := Lib.hid (show Bk ((w2.alloc (.cells #[.slice (some ⟨g1, 0, none⟩) 2 2, .slice none 0 0, .slice (some ⟨g2, 0, none⟩) 2 2] 42)).alloc (.cells #[.slice (some ⟨g3, 0, none⟩) 2 2, .slice none 0 0, .slice (some ⟨g4, 0, none⟩) 2 2] 42)) (w2.heap.size + 1) 42 #[.slice (some ⟨g3, 0, none⟩) 2 2, .slice none 0 0, .slice (some ⟨g4, 0, none⟩) 2 2] from (Bk.new_1 _ _ 42 #[.slice (some ⟨g3, 0, none⟩) 2 2, .slice none 0 0, .slice (some ⟨g4, 0, none⟩) 2 2]))
  have Oa1_11 := Lib.hid (show OD ((w2.alloc (.cells #[.slice (some ⟨g1, 0, none⟩) 2 2, .slice none 0 0, .slice (some ⟨g2, 0, none⟩) 2 2] 42)).alloc (.cells #[.slice (some ⟨g3, 0, none⟩) 2 2, .slice none 0 0, .slice (some ⟨g4, 0, none⟩) 2 2] 42)) (g1) 2 (fun _ => D.zero) from ((Oa1_2.out.al _).al _))
  have Oa2_12 := Lib.hid (show OD ((w2.alloc (.cells #[.slice (some ⟨g1, 0, none⟩) 2 2, .slice none 0 0, .slice (some ⟨g2, 0, none⟩) 2 2] 42)).alloc (.cells #[.slice (some ⟨g3, 0, none⟩) 2 2, .slice none 0 0, .slice (some ⟨g4, 0, none⟩) 2 2] 42)) (g2) 2 (fun _ => D.zero) from ((Oa2_3.out.al _).al _))
  have Ob1_13 := Lib.hid (show OD ((w2.alloc (.cells #[.slice (some ⟨g1, 0, none⟩) 2 2, .slice none 0 0, .slice (some ⟨g2, 0, none⟩) 2 2] 42)).alloc (.cells #[.slice (some ⟨g3, 0, none⟩) 2 2, .slice none 0 0, .slice (some ⟨g4, 0, none⟩) 2 2] 42)) (g3) 2 (fun _ => D.zero) from ((O3.out.al _).al _))
  have Ob2_14 := Lib.hid (show OD ((w2.alloc (.cells #[.slice (some ⟨g1, 0, none⟩) 2 2, .slice none 0 0, .slice (some ⟨g2, 0, none⟩) 2 2] 42)).alloc (.cells #[.slice (some ⟨g3, 0, none⟩) 2 2, .slice none 0 0, .slice (some ⟨g4, 0, none⟩) 2 2] 42)) (g4) 2 (fun _ => D.zero) from ((O4.out.al _).al _))
  have HB_15 := Lib.hid (show Below w.heap.size w ((w2.alloc (.cells #[.slice (some ⟨g1, 0, none⟩) 2 2, .slice none 0 0, .slice (some ⟨g2, 0, none⟩) 2 2] 42)).alloc (.cells #[.slice (some ⟨g3, 0, none⟩) 2 2, .slice none 0 0, .slice (some ⟨g4, 0, none⟩) 2 2] 42)) from (below_al (below_al HB_4.out _) _))
  clear K Oa1_2 Oa2_3 O3 O4 HB_4
  generalize (w2.alloc (.cells #[.slice (some ⟨g1, 0, none⟩) 2 2, .slice none 0 0, .slice (some ⟨g2, 0, none⟩) 2 2] 42)).alloc (.cells #[.slice (some ⟨g3, 0, none⟩) 2 2, .slice none 0 0, .slice (some ⟨g4, 0, none⟩) 2 2] 42) = w3 at *
  have nb0 : g3 ≠ g1 ∧ g3 ≠ g2 := ⟨by omega, by omega⟩
  have la := Ba_9.out.lt
  obtain ⟨ca0, ca1, ca2⟩ := Ba_9.out.cells3
  have lb := Bb_10.out.lt
  obtain ⟨cb0, cb1, cb2⟩ := Bb_10.out.cells3
  obtain ⟨⟨_, pb10⟩, ⟨_, pb11⟩, ⟨_, pb12⟩, rb10, rb11, rb12⟩ := Ob1_13.out.there (show 0 < 2 by omega)
  have lb1 := Ob1_13.out.lt
  replace pb10 : w3.cell? ⟨g3, 0, none⟩ = some _ := pb10
  replace rb10 : w3.frozen? ⟨g3, 0, none⟩ = false := rb10
  replace pb11 : w3.cell? ⟨g3, 1, none⟩ = some _ := pb11
  replace rb11 : w3.frozen? ⟨g3, 1, none⟩ = false := rb11
  replace pb12 : w3.cell? ⟨g3, 2, none⟩ = some _ := pb12
  replace rb12 : w3.frozen? ⟨g3, 2, none⟩ = false := rb12
  go_wp2_with fail
  obtain ⟨SX1, hS1⟩ : ∃ S : World → Prop, ∀ w', S w' ↔ (w'.cell? ⟨w2.heap.size + 1, 0, none⟩ = some (.slice (some ⟨g3, 0, none⟩) 2 2) ∧ w'.cell? ⟨w2.heap.size + 1, 1, none⟩ = some (.slice none 0 0) ∧ w'.cell? ⟨w2.heap.size + 1, 2, none⟩ = some (.slice (some ⟨g4, 0, none⟩) 2 2)) := ⟨_, fun _ => Iff.rfl⟩
  have k_16 : SX1 (w3) := (hS1 _).2 ⟨Bb_10.out.cell 0 rfl, Bb_10.out.cell 1 rfl, Bb_10.out.cell 2 rfl⟩
  have k_17 : SX1 (w3.drew) := (hS1 _).2 ⟨(Bb_10.out.drew).cell 0 rfl, (Bb_10.out.drew).cell 1 rfl, (Bb_10.out.drew).cell 2 rfl⟩
  have tok_18 : True := trivial
  go_region_held3 (fun w' => w'.cell? ⟨w2.heap.size + 1, 0, none⟩ = some (.slice (some ⟨g3, 0, none⟩) 2 2) ∧ w'.cell? ⟨w2.heap.size + 1, 1, none⟩ = some (.slice none 0 0) ∧ w'.cell? ⟨w2.heap.size + 1, 2, none⟩ = some (.slice (some ⟨g4, 0, none⟩) 2 2)) (first | with_reducible exact (hS1 _).1 k_16 | with_reducible exact (hS1 _).1 k_17 | with_reducible exact (hS1 _).1 k_27 | with_reducible exact (hS1 _).1 k_28)
    (first
     | (clear tok_18; go_at_call 33; refine (dOf_any _ 4 0 (by omega) (by omega) (by omega) (by omega) (HT.out.below (below_dr HB_15.out))).mono ?_; rintro e w4 ⟨⟨m, rfl, hm⟩, hb⟩; clear la ca0 ca1 ca2 lb cb0 cb1 cb2 pb10 pb11 pb12 rb10 rb11 rb12 lb1 k_16 k_17; have K := Dk.trans ((Dk.refl _).drew) (.below hb); have Ba_19 := Lib.hid (show Bk _ _ _ #[.slice (some ⟨g1, 0, none⟩) 2 2, .slice none 0 0, .slice (some ⟨g2, 0, none⟩) 2 2] from (Ba_9.out.drew).below hb); have Bb_20 := Lib.hid (show Bk _ _ _ #[.slice (some ⟨g3, 0, none⟩) 2 2, .slice none 0 0, .slice (some ⟨g4, 0, none⟩) 2 2] from (Bb_10.out.drew).below hb); have Oa1_21 := Lib.hid (show OD _ (g1) 2 (fun _ => D.zero) from (Oa1_11.out.dr).below hb); have Oa2_22 := Lib.hid (show OD _ (g2) 2 (fun _ => D.zero) from (Oa2_12.out.dr).below hb); have Ob1_23 := Lib.hid (show OD _ (g3) 2 (fun _ => D.zero) from (Ob1_13.out.dr).below hb); have Ob2_24 := Lib.hid (show OD _ (g4) 2 (fun _ => D.zero) from (Ob2_14.out.dr).below hb); have HB_25 := Lib.hid (below_tr (below_dr HB_15.out) hb); clear hb; clear K Ba_9 Bb_10 Oa1_11 Oa2_12 Ob1_13 Ob2_14 HB_15; have RM_26 := Lib.hid hm; clear hm; have la := Ba_19.out.lt; obtain ⟨ca0, ca1, ca2⟩ := Ba_19.out.cells3; have lb := Bb_20.out.lt; obtain ⟨cb0, cb1, cb2⟩ := Bb_20.out.cells3; obtain ⟨⟨_, pb10⟩, ⟨_, pb11⟩, ⟨_, pb12⟩, rb10, rb11, rb12⟩ := Ob1_23.out.there (show 0 < 2 by omega); have lb1 := Ob1_23.out.lt; replace pb10 : w4.cell? ⟨g3, 0, none⟩ = some _ := pb10; replace rb10 : w4.frozen? ⟨g3, 0, none⟩ = false := rb10; replace pb11 : w4.cell? ⟨g3, 1, none⟩ = some _ := pb11; replace rb11 : w4.frozen? ⟨g3, 1, none⟩ = false := rb11; replace pb12 : w4.cell? ⟨g3, 2, none⟩ = some _ := pb12; replace rb12 : w4.frozen? ⟨g3, 2, none⟩ = false := rb12; have k_27 : SX1 (w4) := (hS1 _).2 ⟨Bb_20.out.cell 0 rfl, Bb_20.out.cell 1 rfl, Bb_20.out.cell 2 rfl⟩; have y0 := Ba_19.out.lt; have y1 := Bb_20.out.lt; have y2 := Oa1_21.out.lt; have y3 := Oa2_22.out.lt; have y4 := Ob1_23.out.lt; have y5 := Ob2_24.out.lt; have y6 := HB_25.out.size; have k_28 : SX1 (((w4.setCell ⟨g3, 0, none⟩ (.bool m.b)).setCell ⟨g3, 1, none⟩ (.slice m.A m.n m.c)).setCell ⟨g3, 2, none⟩ (.int .i64 (D.mk' 4 0).x)) := (hS1 _).2 ⟨(Bb_20.out.ne3 (by omega) 0 (.bool m.b) (.slice m.A m.n m.c) (.int .i64 (D.mk' 4 0).x)).cell 0 rfl, (Bb_20.out.ne3 (by omega) 0 (.bool m.b) (.slice m.A m.n m.c) (.int .i64 (D.mk' 4 0).x)).cell 1 rfl, (Bb_20.out.ne3 (by omega) 0 (.bool m.b) (.slice m.A m.n m.c) (.int .i64 (D.mk' 4 0).x)).cell 2 rfl⟩; clear y0 y1 y2 y3 y4 y5 y6))
  go_wp2_with fail
  clear la ca0 ca1 ca2 lb cb0 cb1 cb2 pb10 pb11 pb12 rb10 rb11 rb12 lb1 k_27 k_28
  have K : Dk w4 (((w4.setCell ⟨g3, 0, none⟩ (.bool m.b)).setCell ⟨g3, 1, none⟩ (.slice m.A m.n m.c)).setCell ⟨g3, 2, none⟩ (.int .i64 (D.mk' 4 0).x)) := (Dk.trans (Dk.refl _) (Ob1_23.out.put (show 0 < 2 by omega) m (D.mk' 4 0) RM_26.out).2)
  have Ba_29 := Lib.hid (show Bk (((w4.setCell ⟨g3, 0, none⟩ (.bool m.b)).setCell ⟨g3, 1, none⟩ (.slice m.A m.n m.c)).setCell ⟨g3, 2, none⟩ (.int .i64 (D.mk' 4 0).x)) (w2.heap.size) 42 #[.slice (some ⟨g1, 0, none⟩) 2 2, .slice none 0 0, .slice (some ⟨g2, 0, none⟩) 2 2] from (Ba_19.out.ne3 (by have := Ba_19.out.lt; have := Bb_20.out.lt; have := Oa1_21.out.lt; have := Oa2_22.out.lt; have := Ob1_23.out.lt; have := Ob2_24.out.lt; have := HB_25.out.size; omega) 0 (.bool m.b) (.slice m.A m.n m.c) (.int .i64 (D.mk' 4 0).x)))
  have Bb_30 := Lib.hid (show Bk (((w4.setCell ⟨g3, 0, none⟩ (.bool m.b)).setCell ⟨g3, 1, none⟩ (.slice m.A m.n m.c)).setCell ⟨g3, 2, none⟩ (.int .i64 (D.mk' 4 0).x)) (w2.heap.size + 1) 42 #[.slice (some ⟨g3, 0, none⟩) 2 2, .slice none 0 0, .slice (some ⟨g4, 0, none⟩) 2 2] from (Bb_20.out.ne3 (by have := Ba_19.out.lt; have := Bb_20.out.lt; have := Oa1_21.out.lt; have := Oa2_22.out.lt; have := Ob1_23.out.lt; have := Ob2_24.out.lt; have := HB_25.out.size; omega) 0 (.bool m.b) (.slice m.A m.n m.c) (.int .i64 (D.mk' 4 0).x)))
  have Oa1_31 := Lib.hid (show OD (((w4.setCell ⟨g3, 0, none⟩ (.bool m.b)).setCell ⟨g3, 1, none⟩ (.slice m.A m.n m.c)).setCell ⟨g3, 2, none⟩ (.int .i64 (D.mk' 4 0).x)) (g1) 2 (fun _ => D.zero) from (Oa1_21.out.rp3 (by have := Ba_19.out.lt; have := Bb_20.out.lt; have := Oa1_21.out.lt; have := Oa2_22.out.lt; have := Ob1_23.out.lt; have := Ob2_24.out.lt; have := HB_25.out.size; omega) 0 (.bool m.b) (.slice m.A m.n m.c) (.int .i64 (D.mk' 4 0).x) (Ob1_23.out.put (show 0 < 2 by omega) m (D.mk' 4 0) RM_26.out).2))
  have Oa2_32 := Lib.hid (show OD (((w4.setCell ⟨g3, 0, none⟩ (.bool m.b)).setCell ⟨g3, 1, none⟩ (.slice m.A m.n m.c)).setCell ⟨g3, 2, none⟩ (.int .i64 (D.mk' 4 0).x)) (g2) 2 (fun _ => D.zero) from (Oa2_22.out.rp3 (by have := Ba_19.out.lt; have := Bb_20.out.lt; have := Oa1_21.out.lt; have := Oa2_22.out.lt; have := Ob1_23.out.lt; have := Ob2_24.out.lt; have := HB_25.out.size; omega) 0 (.bool m.b) (.slice m.A m.n m.c) (.int .i64 (D.mk' 4 0).x) (Ob1_23.out.put (show 0 < 2 by omega) m (D.mk' 4 0) RM_26.out).2))
  have Ob1_33 := Lib.hid (show OD (((w4.setCell ⟨g3, 0, none⟩ (.bool m.b)).setCell ⟨g3, 1, none⟩ (.slice m.A m.n m.c)).setCell ⟨g3, 2, none⟩ (.int .i64 (D.mk' 4 0).x)) (g3) 2 (fun j => if j = 0 then (D.mk' 4 0) else D.zero) from (Ob1_23.out.put (show 0 < 2 by omega) m (D.mk' 4 0) RM_26.out).1)
  have Ob2_34 := Lib.hid (show OD (((w4.setCell ⟨g3, 0, none⟩ (.bool m.b)).setCell ⟨g3, 1, none⟩ (.slice m.A m.n m.c)).setCell ⟨g3, 2, none⟩ (.int .i64 (D.mk' 4 0).x)) (g4) 2 (fun _ => D.zero) from (Ob2_24.out.rp3 (by have := Ba_19.out.lt; have := Bb_20.out.lt; have := Oa1_21.out.lt; have := Oa2_22.out.lt; have := Ob1_23.out.lt; have := Ob2_24.out.lt; have := HB_25.out.size; omega) 0 (.bool m.b) (.slice m.A m.n m.c) (.int .i64 (D.mk' 4 0).x) (Ob1_23.out.put (show 0 < 2 by omega) m (D.mk' 4 0) RM_26.out).2))
  have HB_35 := Lib.hid (show Below w.heap.size w (((w4.setCell ⟨g3, 0, none⟩ (.bool m.b)).setCell ⟨g3, 1, none⟩ (.slice m.A m.n m.c)).setCell ⟨g3, 2, none⟩ (.int .i64 (D.mk' 4 0).x)) from (below_put3 HB_25.out (by have := HB_25.out.size; omega) 0 (.bool m.b) (.slice m.A m.n m.c) (.int .i64 (D.mk' 4 0).x)))
  have RM_36 := Lib.hid (RM_26.out.dk K)
  clear K Ba_19 Bb_20 Oa1_21 Oa2_22 Ob1_23 Ob2_24 HB_25 RM_26
  generalize ((w4.setCell ⟨g3, 0, none⟩ (.bool m.b)).setCell ⟨g3, 1, none⟩ (.slice m.A m.n m.c)).setCell ⟨g3, 2, none⟩ (.int .i64 (D.mk' 4 0).x) = w5 at *
  have ZA := Lib.hid (rzo_pt Oa1_31.out Oa2_32.out (by omega))
  have ZB := Lib.hid (rzo_pt1 (e := (D.mk' 4 0)) Ob1_33.out Ob2_34.out)
  clear Oa1_31 Oa2_32 Ob1_33 Ob2_34
  replace HT := Lib.hid (HT.out.below HB_35.out)
  have BASE_37 := Lib.hid (HB_35.out)
  clear HB_35
  have HB_38 := Lib.hid (show Below w5.heap.size w5 w5 from Below.refl _ _)
  have la := Ba_29.out.lt
  obtain ⟨ca0, ca1, ca2⟩ := Ba_29.out.cells3
  have lb := Bb_30.out.lt
  obtain ⟨cb0, cb1, cb2⟩ := Bb_30.out.cells3
  go_wp2_with fail
  refine (hull_jn _ g1 g2 g3 g4 (ZA.out.below HB_38.out) (ZB.out.below HB_38.out) (HT.out.below HB_38.out)).mono ?_
  rintro e w6 ⟨⟨gc, gg, gr, cg, rfl, hz⟩, hb⟩
  clear la ca0 ca1 ca2 lb cb0 cb1 cb2
  have K := Dk.below hb
  have Ba_39 := Lib.hid (show Bk _ _ _ #[.slice (some ⟨g1, 0, none⟩) 2 2, .slice none 0 0, .slice (some ⟨g2, 0, none⟩) 2 2] from Ba_29.out.below hb)
  have Bb_40 := Lib.hid (show Bk _ _ _ #[.slice (some ⟨g3, 0, none⟩) 2 2, .slice none 0 0, .slice (some ⟨g4, 0, none⟩) 2 2] from Bb_30.out.below hb)
  have HB_41 := Lib.hid (below_tr HB_38.out hb)
  clear hb
  clear K Ba_29 Bb_30 HB_38
  have ZH := Lib.hid hz
  clear hz ZB
  have BASE_42 := Lib.hid (below_tr BASE_37.out HB_41.out)
  replace ZA := Lib.hid (ZA.out.below HB_41.out)
  replace HT := Lib.hid (HT.out.below HB_41.out)
  clear HB_41 BASE_37
  have HB_43 := Lib.hid (show Below w6.heap.size w6 w6 from Below.refl _ _)
  obtain ⟨A1, o1, e1, hl1, hcc⟩ := ZH.out.c.2.2 (show 0 < 2 by omega)
  obtain ⟨q, z0, z1, z2, hq⟩ := hcc 0 (show 0 < 2 by omega)
  injection e1 with e1
  injection e1 with e1 e2
  subst e1 e2
  have X0 := Lib.hid (show w6.cell? ⟨gc, 0, none⟩ = some (.bool q.b) from z0)
  have X1 := Lib.hid (show w6.cell? ⟨gc, 1, none⟩ = some (.slice q.A q.n q.c) from z1)
  have X2 := Lib.hid (show w6.cell? ⟨gc, 2, none⟩ = some (.int .i64 (jnH.c 0).x) from z2)
  have RQ := Lib.hid hq
  clear z0 z1 z2 hq hcc
  have n_44 := Ba_39.out.lt
  have n_45 := Bb_40.out.lt
  go_upto_region 6 with (fail)
  have K : Dk w6 (w6.alloc (.cells #[.slice (some ⟨gc, 0, none⟩) 2 2, .slice (some ⟨gg, 0, none⟩) 1 cg, .slice (some ⟨gr, 0, none⟩) 2 2] 42)) := ((Dk.refl _).alloc _)
  have Ba_46 := Lib.hid (show Bk (w6.alloc (.cells #[.slice (some ⟨gc, 0, none⟩) 2 2, .slice (some ⟨gg, 0, none⟩) 1 cg, .slice (some ⟨gr, 0, none⟩) 2 2] 42)) (w2.heap.size) 42 #[.slice (some ⟨g1, 0, none⟩) 2 2, .slice none 0 0, .slice (some ⟨g2, 0, none⟩) 2 2] from (Ba_39.out.alloc _))
  have Bb_47 := Lib.hid (show Bk (w6.alloc (.cells #[.slice (some ⟨gc, 0, none⟩) 2 2, .slice (some ⟨gg, 0, none⟩) 1 cg, .slice (some ⟨gr, 0, none⟩) 2 2] 42)) (w2.heap.size + 1) 42 #[.slice (some ⟨g3, 0, none⟩) 2 2, .slice none 0 0, .slice (some ⟨g4, 0, none⟩) 2 2] from (Bb_40.out.alloc _))
  have Bh_48 := Lib.hid (show Bk (w6.alloc (.cells #[.slice (some ⟨gc, 0, none⟩) 2 2, .slice (some ⟨gg, 0, none⟩) 1 cg, .slice (some ⟨gr, 0, none⟩) 2 2] 42)) (w6.heap.size) 42 #[.slice (some ⟨gc, 0, none⟩) 2 2, .slice (some ⟨gg, 0, none⟩) 1 cg, .slice (some ⟨gr, 0, none⟩) 2 2] from (Bk.new _ 42 #[.slice (some ⟨gc, 0, none⟩) 2 2, .slice (some ⟨gg, 0, none⟩) 1 cg, .slice (some ⟨gr, 0, none⟩) 2 2]))
  have HB_49 := Lib.hid (show Below w6.heap.size w6 (w6.alloc (.cells #[.slice (some ⟨gc, 0, none⟩) 2 2, .slice (some ⟨gg, 0, none⟩) 1 cg, .slice (some ⟨gr, 0, none⟩) 2 2] 42)) from (below_al HB_43.out _))
  have RQ_50 := Lib.hid (RQ.out.dk K)
  clear K Ba_39 Bb_40 HB_43 RQ
  generalize w6.alloc (.cells #[.slice (some ⟨gc, 0, none⟩) 2 2, .slice (some ⟨gg, 0, none⟩) 1 cg, .slice (some ⟨gr, 0, none⟩) 2 2] 42) = w7 at *
  have la := Ba_46.out.lt
  obtain ⟨ca0, ca1, ca2⟩ := Ba_46.out.cells3
  have lb := Bb_47.out.lt
  obtain ⟨cb0, cb1, cb2⟩ := Bb_47.out.cells3
  have lh := Bh_48.out.lt
  obtain ⟨ch0, ch1, ch2⟩ := Bh_48.out.cells3
  go_cut [5, 6] (fun s5 s6 wx => ∃ (g_51 : Nat), s5 = .pointer (some ⟨g_51, 0, none⟩) ∧ s6 = .int .i64 20 ∧ w2.heap.size < g_51 ∧ w2.heap.size + 1 < g_51 ∧ w6.heap.size < g_51 ∧ Bk wx g_51 42 #[.slice none 0 0, .slice none 0 0, .slice none 0 0] ∧ Bk wx (w2.heap.size) 42 #[.slice (some ⟨g1, 0, none⟩) 2 2, .slice none 0 0, .slice (some ⟨g2, 0, none⟩) 2 2] ∧ Bk wx (w2.heap.size + 1) 42 #[.slice (some ⟨g3, 0, none⟩) 2 2, .slice none 0 0, .slice (some ⟨g4, 0, none⟩) 2 2] ∧ Bk wx (w6.heap.size) 42 #[.slice (some ⟨gc, 0, none⟩) 2 2, .slice (some ⟨gg, 0, none⟩) 1 cg, .slice (some ⟨gr, 0, none⟩) 2 2] ∧ Below w6.heap.size w6 wx ∧ RD wx q (jnH.c 0))
  case first =>
    obtain ⟨SX2, hS2⟩ : ∃ S : World → Prop, ∀ w', S w' ↔ (w'.cell? ⟨w2.heap.size, 0, none⟩ = some (.slice (some ⟨g1, 0, none⟩) 2 2) ∧ w'.cell? ⟨w2.heap.size, 1, none⟩ = some (.slice none 0 0) ∧ w'.cell? ⟨w2.heap.size, 2, none⟩ = some (.slice (some ⟨g2, 0, none⟩) 2 2)) := ⟨_, fun _ => Iff.rfl⟩
    have k_52 : SX2 (w7) := (hS2 _).2 ⟨Ba_46.out.cell 0 rfl, Ba_46.out.cell 1 rfl, Ba_46.out.cell 2 rfl⟩
    have k_53 : SX2 (w7.drew) := (hS2 _).2 ⟨(Ba_46.out.drew).cell 0 rfl, (Ba_46.out.drew).cell 1 rfl, (Ba_46.out.drew).cell 2 rfl⟩
    have k_54 : SX2 ((w7.alloc (.cells #[.slice none 0 0, .slice none 0 0, .slice none 0 0] 42)).drew) := (hS2 _).2 ⟨((Ba_46.out.alloc _).drew).cell 0 rfl, ((Ba_46.out.alloc _).drew).cell 1 rfl, ((Ba_46.out.alloc _).drew).cell 2 rfl⟩
    have tok_55 : True := trivial
    have tok_65 : True := trivial
    have tok_78 : True := trivial
    have tok_92 : True := trivial
    have tok_106 : True := trivial
    go_region_held3 (fun w' => w'.cell? ⟨w2.heap.size, 0, none⟩ = some (.slice (some ⟨g1, 0, none⟩) 2 2) ∧ w'.cell? ⟨w2.heap.size, 1, none⟩ = some (.slice none 0 0) ∧ w'.cell? ⟨w2.heap.size, 2, none⟩ = some (.slice (some ⟨g2, 0, none⟩) 2 2)) (first | with_reducible exact (hS2 _).1 k_52 | with_reducible exact (hS2 _).1 k_53 | with_reducible exact (hS2 _).1 k_54 | with_reducible exact (hS2 _).1 k_62 | with_reducible exact (hS2 _).1 k_63 | with_reducible exact (hS2 _).1 k_76 | with_reducible exact (hS2 _).1 k_85 | with_reducible exact (hS2 _).1 k_89 | with_reducible exact (hS2 _).1 k_90 | with_reducible exact (hS2 _).1 k_103 | with_reducible exact (hS2 _).1 k_104 | with_reducible exact (hS2 _).1 k_114 | with_reducible exact (hS2 _).1 k_115)
      (first
       | (clear tok_55; go_at_call 49; refine calls_at (W := w7.drew) ?_ (by with_reducible rfl); refine (point_1 _).mono ?_; rintro e w_56 ⟨⟨g5, g6, rfl, p7, p8, p9, ho1, ho2⟩, hb⟩; clear la ca0 ca1 ca2 lb cb0 cb1 cb2 lh ch0 ch1 ch2 k_52 k_53 k_54; have K := Dk.trans ((Dk.refl _).drew) (.below hb); have Ba_57 := Lib.hid (show Bk _ _ _ #[.slice (some ⟨g1, 0, none⟩) 2 2, .slice none 0 0, .slice (some ⟨g2, 0, none⟩) 2 2] from (Ba_46.out.drew).below hb); have Bb_58 := Lib.hid (show Bk _ _ _ #[.slice (some ⟨g3, 0, none⟩) 2 2, .slice none 0 0, .slice (some ⟨g4, 0, none⟩) 2 2] from (Bb_47.out.drew).below hb); have Bh_59 := Lib.hid (show Bk _ _ _ #[.slice (some ⟨gc, 0, none⟩) 2 2, .slice (some ⟨gg, 0, none⟩) 1 cg, .slice (some ⟨gr, 0, none⟩) 2 2] from (Bh_48.out.drew).below hb); have HB_60 := Lib.hid (below_tr (below_dr HB_49.out) hb); clear hb; have RQ_61 := Lib.hid (RQ_50.out.dk K); clear K Ba_46 Bb_47 Bh_48 HB_49 RQ_50; have ZP := Lib.hid (rzo_pt ho1 ho2 (by omega)); clear ho1 ho2; have la := Ba_57.out.lt; obtain ⟨ca0, ca1, ca2⟩ := Ba_57.out.cells3; have lb := Bb_58.out.lt; obtain ⟨cb0, cb1, cb2⟩ := Bb_58.out.cells3; have lh := Bh_59.out.lt; obtain ⟨ch0, ch1, ch2⟩ := Bh_59.out.cells3; have k_62 : SX2 (w_56) := (hS2 _).2 ⟨Ba_57.out.cell 0 rfl, Ba_57.out.cell 1 rfl, Ba_57.out.cell 2 rfl⟩; have k_63 : SX2 (w_56.alloc (.cells #[.slice none 0 0, .slice none 0 0, .slice none 0 0] 42)) := (hS2 _).2 ⟨(Ba_57.out.alloc _).cell 0 rfl, (Ba_57.out.alloc _).cell 1 rfl, (Ba_57.out.alloc _).cell 2 rfl⟩)
       | (clear tok_65; go_at_call 49; refine calls_at (W := (w7.alloc (.cells #[.slice none 0 0, .slice none 0 0, .slice none 0 0] 42)).drew) ?_ (by with_reducible rfl); have n_66 := Ba_46.out.lt; have n_67 := Bb_47.out.lt; have n_68 := Bh_48.out.lt; refine (point_1 _).mono ?_; rintro e w_69 ⟨⟨g5, g6, rfl, p7, p8, p9, ho1, ho2⟩, hb⟩; clear la ca0 ca1 ca2 lb cb0 cb1 cb2 lh ch0 ch1 ch2 k_52 k_53 k_54; have K := Dk.trans (((Dk.refl _).alloc _).drew) (.below hb); have Ba_70 := Lib.hid (show Bk _ _ _ #[.slice (some ⟨g1, 0, none⟩) 2 2, .slice none 0 0, .slice (some ⟨g2, 0, none⟩) 2 2] from ((Ba_46.out.alloc _).drew).below hb); have Bb_71 := Lib.hid (show Bk _ _ _ #[.slice (some ⟨g3, 0, none⟩) 2 2, .slice none 0 0, .slice (some ⟨g4, 0, none⟩) 2 2] from ((Bb_47.out.alloc _).drew).below hb); have Bh_72 := Lib.hid (show Bk _ _ _ #[.slice (some ⟨gc, 0, none⟩) 2 2, .slice (some ⟨gg, 0, none⟩) 1 cg, .slice (some ⟨gr, 0, none⟩) 2 2] from ((Bh_48.out.alloc _).drew).below hb); have Bf_73 := Lib.hid (show Bk _ _ _ #[.slice none 0 0, .slice none 0 0, .slice none 0 0] from ((Bk.new _ 42 #[.slice none 0 0, .slice none 0 0, .slice none 0 0]).drew).below hb); have HB_74 := Lib.hid (below_tr (below_dr (below_al HB_49.out _)) hb); clear hb; have RQ_75 := Lib.hid (RQ_50.out.dk K); clear K Ba_46 Bb_47 Bh_48 HB_49 RQ_50; have ZP := Lib.hid (rzo_pt ho1 ho2 (by omega)); clear ho1 ho2; have la := Ba_70.out.lt; obtain ⟨ca0, ca1, ca2⟩ := Ba_70.out.cells3; have lb := Bb_71.out.lt; obtain ⟨cb0, cb1, cb2⟩ := Bb_71.out.cells3; have lh := Bh_72.out.lt; obtain ⟨ch0, ch1, ch2⟩ := Bh_72.out.cells3; have lf := Bf_73.out.lt; obtain ⟨cf0, cf1, cf2⟩ := Bf_73.out.cells3; have ff0 := Bf_73.out.free 0; have ff1 := Bf_73.out.free 1; have ff2 := Bf_73.out.free 2; have k_76 : SX2 (w_69) := (hS2 _).2 ⟨Ba_70.out.cell 0 rfl, Ba_70.out.cell 1 rfl, Ba_70.out.cell 2 rfl⟩)
       | (clear tok_78; go_at_call 26; refine calls_at (W := w_56) ?_ (by with_reducible rfl); refine (hull_jbad _ g1 g2 g5 g6 (ZA.out.below HB_60.out) (ZP.out.below (Below.refl _ _))).mono ?_; rintro e w_79 ⟨rfl, hb⟩; clear la ca0 ca1 ca2 lb cb0 cb1 cb2 lh ch0 ch1 ch2 k_62 k_63; have K := Dk.below hb; have Ba_80 := Lib.hid (show Bk _ _ _ #[.slice (some ⟨g1, 0, none⟩) 2 2, .slice none 0 0, .slice (some ⟨g2, 0, none⟩) 2 2] from Ba_57.out.below hb); have Bb_81 := Lib.hid (show Bk _ _ _ #[.slice (some ⟨g3, 0, none⟩) 2 2, .slice none 0 0, .slice (some ⟨g4, 0, none⟩) 2 2] from Bb_58.out.below hb); have Bh_82 := Lib.hid (show Bk _ _ _ #[.slice (some ⟨gc, 0, none⟩) 2 2, .slice (some ⟨gg, 0, none⟩) 1 cg, .slice (some ⟨gr, 0, none⟩) 2 2] from Bh_59.out.below hb); have HB_83 := Lib.hid (below_tr HB_60.out hb); clear hb; have RQ_84 := Lib.hid (RQ_61.out.dk K); clear K Ba_57 Bb_58 Bh_59 HB_60 RQ_61; clear ZP; have la := Ba_80.out.lt; obtain ⟨ca0, ca1, ca2⟩ := Ba_80.out.cells3; have lb := Bb_81.out.lt; obtain ⟨cb0, cb1, cb2⟩ := Bb_81.out.cells3; have lh := Bh_82.out.lt; obtain ⟨ch0, ch1, ch2⟩ := Bh_82.out.cells3; have k_85 : SX2 (w_79) := (hS2 _).2 ⟨Ba_80.out.cell 0 rfl, Ba_80.out.cell 1 rfl, Ba_80.out.cell 2 rfl⟩; have n_86 := Ba_80.out.lt; have n_87 := Bb_81.out.lt; have n_88 := Bh_82.out.lt; have k_89 : SX2 (w_79.alloc (.cells #[.slice none 0 0, .slice none 0 0, .slice none 0 0] 42)) := (hS2 _).2 ⟨(Ba_80.out.alloc _).cell 0 rfl, (Ba_80.out.alloc _).cell 1 rfl, (Ba_80.out.alloc _).cell 2 rfl⟩; have k_90 : SX2 (w_79.alloc (.cells #[.slice none 0 0, .slice none 0 0, .slice none 0 0] 42)) := (hS2 _).2 ⟨(Ba_80.out.alloc _).cell 0 rfl, (Ba_80.out.alloc _).cell 1 rfl, (Ba_80.out.alloc _).cell 2 rfl⟩)
       | (clear tok_92; go_at_call 26; refine calls_at (W := w_56.alloc (.cells #[.slice none 0 0, .slice none 0 0, .slice none 0 0] 42)) ?_ (by with_reducible rfl); have n_93 := Ba_57.out.lt; have n_94 := Bb_58.out.lt; have n_95 := Bh_59.out.lt; refine (hull_jbad _ g1 g2 g5 g6 (ZA.out.below (below_al HB_60.out _)) (ZP.out.below (below_al (Below.refl _ _) _))).mono ?_; rintro e w_96 ⟨rfl, hb⟩; clear la ca0 ca1 ca2 lb cb0 cb1 cb2 lh ch0 ch1 ch2 k_62 k_63; have K := Dk.trans ((Dk.refl _).alloc _) (.below hb); have Ba_97 := Lib.hid (show Bk _ _ _ #[.slice (some ⟨g1, 0, none⟩) 2 2, .slice none 0 0, .slice (some ⟨g2, 0, none⟩) 2 2] from (Ba_57.out.alloc _).below hb); have Bb_98 := Lib.hid (show Bk _ _ _ #[.slice (some ⟨g3, 0, none⟩) 2 2, .slice none 0 0, .slice (some ⟨g4, 0, none⟩) 2 2] from (Bb_58.out.alloc _).below hb); have Bh_99 := Lib.hid (show Bk _ _ _ #[.slice (some ⟨gc, 0, none⟩) 2 2, .slice (some ⟨gg, 0, none⟩) 1 cg, .slice (some ⟨gr, 0, none⟩) 2 2] from (Bh_59.out.alloc _).below hb); have Bf_100 := Lib.hid (show Bk _ _ _ #[.slice none 0 0, .slice none 0 0, .slice none 0 0] from (Bk.new _ 42 #[.slice none 0 0, .slice none 0 0, .slice none 0 0]).below hb); have HB_101 := Lib.hid (below_tr (below_al HB_60.out _) hb); clear hb; have RQ_102 := Lib.hid (RQ_61.out.dk K); clear K Ba_57 Bb_58 Bh_59 HB_60 RQ_61; clear ZP; have la := Ba_97.out.lt; obtain ⟨ca0, ca1, ca2⟩ := Ba_97.out.cells3; have lb := Bb_98.out.lt; obtain ⟨cb0, cb1, cb2⟩ := Bb_98.out.cells3; have lh := Bh_99.out.lt; obtain ⟨ch0, ch1, ch2⟩ := Bh_99.out.cells3; have lf := Bf_100.out.lt; obtain ⟨cf0, cf1, cf2⟩ := Bf_100.out.cells3; have ff0 := Bf_100.out.free 0; have ff1 := Bf_100.out.free 1; have ff2 := Bf_100.out.free 2; have k_103 : SX2 (w_96) := (hS2 _).2 ⟨Ba_97.out.cell 0 rfl, Ba_97.out.cell 1 rfl, Ba_97.out.cell 2 rfl⟩; have y0 := Ba_97.out.lt; have y1 := Bb_98.out.lt; have y2 := Bh_99.out.lt; have y3 := Bf_100.out.lt; have y4 := HB_101.out.size; have k_104 : SX2 (((w_96.setCell ⟨w_56.heap.size, 0, none⟩ (.slice none 0 0)).setCell ⟨w_56.heap.size, 1, none⟩ (.slice none 0 0)).setCell ⟨w_56.heap.size, 2, none⟩ (.slice none 0 0)) := (hS2 _).2 ⟨(((Ba_97.out.ne (by omega) 0 (.slice none 0 0)).ne (by omega) 1 (.slice none 0 0)).ne (by omega) 2 (.slice none 0 0)).cell 0 rfl, (((Ba_97.out.ne (by omega) 0 (.slice none 0 0)).ne (by omega) 1 (.slice none 0 0)).ne (by omega) 2 (.slice none 0 0)).cell 1 rfl, (((Ba_97.out.ne (by omega) 0 (.slice none 0 0)).ne (by omega) 1 (.slice none 0 0)).ne (by omega) 2 (.slice none 0 0)).cell 2 rfl⟩; clear y0 y1 y2 y3 y4)
       | (clear tok_106; go_at_call 26; refine calls_at (W := w_69) ?_ (by with_reducible rfl); refine (hull_jbad _ g1 g2 g5 g6 (ZA.out.below HB_74.out) (ZP.out.below (Below.refl _ _))).mono ?_; rintro e w_107 ⟨rfl, hb⟩; clear la ca0 ca1 ca2 lb cb0 cb1 cb2 lh ch0 ch1 ch2 lf cf0 cf1 cf2 ff0 ff1 ff2 k_76; have K := Dk.below hb; have Ba_108 := Lib.hid (show Bk _ _ _ #[.slice (some ⟨g1, 0, none⟩) 2 2, .slice none 0 0, .slice (some ⟨g2, 0, none⟩) 2 2] from Ba_70.out.below hb); have Bb_109 := Lib.hid (show Bk _ _ _ #[.slice (some ⟨g3, 0, none⟩) 2 2, .slice none 0 0, .slice (some ⟨g4, 0, none⟩) 2 2] from Bb_71.out.below hb); have Bh_110 := Lib.hid (show Bk _ _ _ #[.slice (some ⟨gc, 0, none⟩) 2 2, .slice (some ⟨gg, 0, none⟩) 1 cg, .slice (some ⟨gr, 0, none⟩) 2 2] from Bh_72.out.below hb); have Bf_111 := Lib.hid (show Bk _ _ _ #[.slice none 0 0, .slice none 0 0, .slice none 0 0] from Bf_73.out.below hb); have HB_112 := Lib.hid (below_tr HB_74.out hb); clear hb; have RQ_113 := Lib.hid (RQ_75.out.dk K); clear K Ba_70 Bb_71 Bh_72 Bf_73 HB_74 RQ_75; clear ZP; have la := Ba_108.out.lt; obtain ⟨ca0, ca1, ca2⟩ := Ba_108.out.cells3; have lb := Bb_109.out.lt; obtain ⟨cb0, cb1, cb2⟩ := Bb_109.out.cells3; have lh := Bh_110.out.lt; obtain ⟨ch0, ch1, ch2⟩ := Bh_110.out.cells3; have lf := Bf_111.out.lt; obtain ⟨cf0, cf1, cf2⟩ := Bf_111.out.cells3; have ff0 := Bf_111.out.free 0; have ff1 := Bf_111.out.free 1; have ff2 := Bf_111.out.free 2; have k_114 : SX2 (w_107) := (hS2 _).2 ⟨Ba_108.out.cell 0 rfl, Ba_108.out.cell 1 rfl, Ba_108.out.cell 2 rfl⟩; have y0 := Ba_108.out.lt; have y1 := Bb_109.out.lt; have y2 := Bh_110.out.lt; have y3 := Bf_111.out.lt; have y4 := HB_112.out.size; have k_115 : SX2 (((w_107.setCell ⟨w7.heap.size, 0, none⟩ (.slice none 0 0)).setCell ⟨w7.heap.size, 1, none⟩ (.slice none 0 0)).setCell ⟨w7.heap.size, 2, none⟩ (.slice none 0 0)) := (hS2 _).2 ⟨(((Ba_108.out.ne (by omega) 0 (.slice none 0 0)).ne (by omega) 1 (.slice none 0 0)).ne (by omega) 2 (.slice none 0 0)).cell 0 rfl, (((Ba_108.out.ne (by omega) 0 (.slice none 0 0)).ne (by omega) 1 (.slice none 0 0)).ne (by omega) 2 (.slice none 0 0)).cell 1 rfl, (((Ba_108.out.ne (by omega) 0 (.slice none 0 0)).ne (by omega) 1 (.slice none 0 0)).ne (by omega) 2 (.slice none 0 0)).cell 2 rfl⟩; clear y0 y1 y2 y3 y4))
    all_goals (go_wp2_with fail; go_meet; first | (have y0 := Ba_80.out.lt; have y1 := Bb_81.out.lt; have y2 := Bh_82.out.lt; have y3 := HB_83.out.size; exact ⟨w_79.heap.size, rfl, rfl, (by omega), (by omega), (by omega), (Bk.new _ 42 #[.slice none 0 0, .slice none 0 0, .slice none 0 0]), (Ba_80.out.alloc _), (Bb_81.out.alloc _), (Bh_82.out.alloc _), (below_al HB_83.out _), (RQ_84.out.dk ((Dk.refl _).alloc _))⟩) | (have y0 := Ba_97.out.lt; have y1 := Bb_98.out.lt; have y2 := Bh_99.out.lt; have y3 := Bf_100.out.lt; have y4 := HB_101.out.size; exact ⟨w_56.heap.size, rfl, rfl, (by omega), (by omega), (by omega), (((Bf_100.out.set 0 (.slice none 0 0)).set 1 (.slice none 0 0)).set 2 (.slice none 0 0)), (((Ba_97.out.ne (by omega) 0 (.slice none 0 0)).ne (by omega) 1 (.slice none 0 0)).ne (by omega) 2 (.slice none 0 0)), (((Bb_98.out.ne (by omega) 0 (.slice none 0 0)).ne (by omega) 1 (.slice none 0 0)).ne (by omega) 2 (.slice none 0 0)), (((Bh_99.out.ne (by omega) 0 (.slice none 0 0)).ne (by omega) 1 (.slice none 0 0)).ne (by omega) 2 (.slice none 0 0)), (below_st (below_st (below_st HB_101.out 0 (by omega) (.slice none 0 0)) 1 (by omega) (.slice none 0 0)) 2 (by omega) (.slice none 0 0)), (RQ_102.out.dk ((((Dk.refl _).set (cs := #[.slice none 0 0, .slice none 0 0, .slice none 0 0]) Bf_100.out 0 (by intro _ hh; cases hh) (.slice none 0 0)).set (cs := #[.slice none 0 0, .slice none 0 0, .slice none 0 0]) (Bf_100.out.set 0 (.slice none 0 0)) 1 (by intro _ hh; cases hh) (.slice none 0 0)).set (cs := #[.slice none 0 0, .slice none 0 0, .slice none 0 0]) ((Bf_100.out.set 0 (.slice none 0 0)).set 1 (.slice none 0 0)) 2 (by intro _ hh; cases hh) (.slice none 0 0)))⟩) | (have y0 := Ba_108.out.lt; have y1 := Bb_109.out.lt; have y2 := Bh_110.out.lt; have y3 := Bf_111.out.lt; have y4 := HB_112.out.size; exact ⟨w7.heap.size, rfl, rfl, (by omega), (by omega), (by omega), (((Bf_111.out.set 0 (.slice none 0 0)).set 1 (.slice none 0 0)).set 2 (.slice none 0 0)), (((Ba_108.out.ne (by omega) 0 (.slice none 0 0)).ne (by omega) 1 (.slice none 0 0)).ne (by omega) 2 (.slice none 0 0)), (((Bb_109.out.ne (by omega) 0 (.slice none 0 0)).ne (by omega) 1 (.slice none 0 0)).ne (by omega) 2 (.slice none 0 0)), (((Bh_110.out.ne (by omega) 0 (.slice none 0 0)).ne (by omega) 1 (.slice none 0 0)).ne (by omega) 2 (.slice none 0 0)), (below_st (below_st (below_st HB_112.out 0 (by omega) (.slice none 0 0)) 1 (by omega) (.slice none 0 0)) 2 (by omega) (.slice none 0 0)), (RQ_113.out.dk ((((Dk.refl _).set (cs := #[.slice none 0 0, .slice none 0 0, .slice none 0 0]) Bf_111.out 0 (by intro _ hh; cases hh) (.slice none 0 0)).set (cs := #[.slice none 0 0, .slice none 0 0, .slice none 0 0]) (Bf_111.out.set 0 (.slice none 0 0)) 1 (by intro _ hh; cases hh) (.slice none 0 0)).set (cs := #[.slice none 0 0, .slice none 0 0, .slice none 0 0]) ((Bf_111.out.set 0 (.slice none 0 0)).set 1 (.slice none 0 0)) 2 (by intro _ hh; cases hh) (.slice none 0 0)))⟩))
  case rest =>
    clear la ca0 ca1 ca2 lb cb0 cb1 cb2 lh ch0 ch1 ch2
    clear Ba_46 Bb_47 Bh_48 RQ_50 HB_49
    obtain ⟨w_118, rfl⟩ : ∃ x, x = wc := ⟨_, rfl⟩
    obtain ⟨g_51, rfl, rfl, nn0, nn1, nn2, bz, bo0, bo1, bo2, hbel, hf0⟩ := hcut
    have Ba_119 := Lib.hid bo0
    have n_120 := nn0
    have Bb_121 := Lib.hid bo1
    have n_122 := nn1
    have Bh_123 := Lib.hid bo2
    have n_124 := nn2
    have Bf_125 := Lib.hid bz
    have HB_125 := Lib.hid hbel
    have RQ_127 := Lib.hid hf0
    clear nn0 nn1 nn2 bz bo0 bo1 bo2 hbel hf0
    have la := Ba_119.out.lt
    obtain ⟨ca0, ca1, ca2⟩ := Ba_119.out.cells3
    have lb := Bb_121.out.lt
    obtain ⟨cb0, cb1, cb2⟩ := Bb_121.out.cells3
    have lh := Bh_123.out.lt
    obtain ⟨ch0, ch1, ch2⟩ := Bh_123.out.cells3
    have lf := Bf_125.out.lt
    obtain ⟨cf0, cf1, cf2⟩ := Bf_125.out.cells3
    go_wp2_with fail
    clear la ca0 ca1 ca2 lb cb0 cb1 cb2 lh ch0 ch1 ch2 lf cf0 cf1 cf2
    clear Ba_119 Bb_121 Bf_125
    have lh := Bh_123.out.lt
    obtain ⟨ch0, ch1, ch2⟩ := Bh_123.out.cells3
    refine (dOf_any _ 1 0 (by omega) (by omega) (by omega) (by omega) (HT.out.below HB_125.out)).mono ?_
    rintro e w8 ⟨⟨m, rfl, hm⟩, hb⟩
    clear lh ch0 ch1 ch2
    have K := Dk.below hb
    have Bh_128 := Lib.hid (show Bk _ _ _ #[.slice (some ⟨gc, 0, none⟩) 2 2, .slice (some ⟨gg, 0, none⟩) 1 cg, .slice (some ⟨gr, 0, none⟩) 2 2] from Bh_123.out.below hb)
    have HB_129 := Lib.hid (below_tr HB_125.out hb)
    clear hb
    have RQ_130 := Lib.hid (RQ_127.out.dk K)
    clear K Bh_123 HB_125 RQ_127
    have RM_131 := Lib.hid hm
    clear hm
    go_wp2_with fail
    refine (spoint_any _ m (D.mk' 1 0) RM_131.out).mono ?_
    rintro e w9 ⟨⟨s, rfl, hs⟩, hb⟩
    have K := Dk.below hb
    have Bh_132 := Lib.hid (show Bk _ _ _ #[.slice (some ⟨gc, 0, none⟩) 2 2, .slice (some ⟨gg, 0, none⟩) 1 cg, .slice (some ⟨gr, 0, none⟩) 2 2] from Bh_128.out.below hb)
    have HB_133 := Lib.hid (below_tr HB_129.out hb)
    clear hb
    have RQ_134 := Lib.hid (RQ_130.out.dk K)
    have RM_135 := Lib.hid (RM_131.out.dk K)
    clear K Bh_128 HB_129 RQ_130 RM_131
    have RS_136 := Lib.hid hs
    clear hs
    have lh := Bh_132.out.lt
    obtain ⟨ch0, ch1, ch2⟩ := Bh_132.out.cells3
    have n_137 := Bh_132.out.lt
    go_wp2_with fail
    refine (support_jn _ (D.mk' 1 0) gc gg gr cg w9.heap.size (ZH.out.below (below_al HB_133.out _)) (lit2 (Bk.new _ 62 #[.bool s.lo.b, .slice s.lo.A s.lo.n s.lo.c, .int .i64 (D.mk' 1 0).x, .bool s.hi.b, .slice s.hi.A s.hi.n s.hi.c, .int .i64 (D.mk' 1 0).x, .bool false, .slice none 0 0, .int .i64 0, .bool false, .slice none 0 0, .int .i64 0]) (RS_136.out.dk ((Dk.refl _).alloc _))) one_lim (HT.out.below (below_al HB_133.out _))).mono ?_
    rintro e w10 ⟨⟨r, rfl, hr⟩, hb⟩
    clear lh ch0 ch1 ch2
    have K := Dk.trans ((Dk.refl _).alloc _) (.below hb)
    have Bh_138 := Lib.hid (show Bk _ _ _ #[.slice (some ⟨gc, 0, none⟩) 2 2, .slice (some ⟨gg, 0, none⟩) 1 cg, .slice (some ⟨gr, 0, none⟩) 2 2] from (Bh_132.out.alloc _).below hb)
    have Bd_139 := Lib.hid (show Bk _ _ _ #[.bool s.lo.b, .slice s.lo.A s.lo.n s.lo.c, .int .i64 (D.mk' 1 0).x, .bool s.hi.b, .slice s.hi.A s.hi.n s.hi.c, .int .i64 (D.mk' 1 0).x, .bool false, .slice none 0 0, .int .i64 0, .bool false, .slice none 0 0, .int .i64 0] from (Bk.new _ 62 #[.bool s.lo.b, .slice s.lo.A s.lo.n s.lo.c, .int .i64 (D.mk' 1 0).x, .bool s.hi.b, .slice s.hi.A s.hi.n s.hi.c, .int .i64 (D.mk' 1 0).x, .bool false, .slice none 0 0, .int .i64 0, .bool false, .slice none 0 0, .int .i64 0]).below hb)
    have HB_140 := Lib.hid (below_tr (below_al HB_133.out _) hb)
    clear hb
    have RQ_141 := Lib.hid (RQ_134.out.dk K)
    have RM_142 := Lib.hid (RM_135.out.dk K)
    have RS_143 := Lib.hid (RS_136.out.dk K)
    clear K Bh_132 HB_133 RQ_134 RM_135 RS_136
    have RR_144 := Lib.hid hr
    clear hr
    have n_145 := Bh_138.out.lt
    have n_146 := Bd_139.out.lt
    go_upto_region 9 with (fail)
    have K : Dk w10 (w10.alloc (.cells #[.bool r.b, .slice r.A r.n r.c, .int .i64 (jnS (D.mk' 1 0)).x] 53)) := ((Dk.refl _).alloc _)
    have Bh_147 := Lib.hid (show Bk (w10.alloc (.cells #[.bool r.b, .slice r.A r.n r.c, .int .i64 (jnS (D.mk' 1 0)).x] 53)) (w6.heap.size) 42 #[.slice (some ⟨gc, 0, none⟩) 2 2, .slice (some ⟨gg, 0, none⟩) 1 cg, .slice (some ⟨gr, 0, none⟩) 2 2] from (Bh_138.out.alloc _))
    have Bd_148 := Lib.hid (show Bk (w10.alloc (.cells #[.bool r.b, .slice r.A r.n r.c, .int .i64 (jnS (D.mk' 1 0)).x] 53)) (w9.heap.size) 62 #[.bool s.lo.b, .slice s.lo.A s.lo.n s.lo.c, .int .i64 (D.mk' 1 0).x, .bool s.hi.b, .slice s.hi.A s.hi.n s.hi.c, .int .i64 (D.mk' 1 0).x, .bool false, .slice none 0 0, .int .i64 0, .bool false, .slice none 0 0, .int .i64 0] from (Bd_139.out.alloc _))
    have Bs_149 := Lib.hid (show Bk (w10.alloc (.cells #[.bool r.b, .slice r.A r.n r.c, .int .i64 (jnS (D.mk' 1 0)).x] 53)) (w10.heap.size) 53 #[.bool r.b, .slice r.A r.n r.c, .int .i64 (jnS (D.mk' 1 0)).x] from (Bk.new _ 53 #[.bool r.b, .slice r.A r.n r.c, .int .i64 (jnS (D.mk' 1 0)).x]))
    have HB_150 := Lib.hid (show Below w6.heap.size w6 (w10.alloc (.cells #[.bool r.b, .slice r.A r.n r.c, .int .i64 (jnS (D.mk' 1 0)).x] 53)) from (below_al HB_140.out _))
    have RQ_151 := Lib.hid (RQ_141.out.dk K)
    have RM_152 := Lib.hid (RM_142.out.dk K)
    have RS_153 := Lib.hid (RS_143.out.dk K)
    have RR_154 := Lib.hid (RR_144.out.dk K)
    clear K Bh_138 Bd_139 HB_140 RQ_141 RM_142 RS_143 RR_144
    generalize w10.alloc (.cells #[.bool r.b, .slice r.A r.n r.c, .int .i64 (jnS (D.mk' 1 0)).x] 53) = w11 at *
    have lh := Bh_147.out.lt
    obtain ⟨ch0, ch1, ch2⟩ := Bh_147.out.cells3
    have ld := Bd_148.out.lt
    obtain ⟨cd0, cd1, cd2, cd3, cd4, cd5, cd6, cd7, cd8, cd9, cd10, cd11⟩ := Bd_148.out.cells12
    have ls := Bs_149.out.lt
    obtain ⟨cs0, cs1, cs2⟩ := Bs_149.out.cells3
    go_cut [10, 11] (fun s10 s11 wx => ∃ (g_155 : Nat) (l : Q), s10 = .pointer (some ⟨g_155, 0, none⟩) ∧ s11 = .int .i64 0 ∧ w6.heap.size < g_155 ∧ w9.heap.size < g_155 ∧ w10.heap.size < g_155 ∧ Bk wx g_155 53 #[.bool l.b, .slice l.A l.n l.c, .int .i64 (jnS (D.mk' 1 0).neg).x] ∧ Bk wx (w6.heap.size) 42 #[.slice (some ⟨gc, 0, none⟩) 2 2, .slice (some ⟨gg, 0, none⟩) 1 cg, .slice (some ⟨gr, 0, none⟩) 2 2] ∧ Bk wx (w9.heap.size) 62 #[.bool s.lo.b, .slice s.lo.A s.lo.n s.lo.c, .int .i64 (D.mk' 1 0).x, .bool s.hi.b, .slice s.hi.A s.hi.n s.hi.c, .int .i64 (D.mk' 1 0).x, .bool false, .slice none 0 0, .int .i64 0, .bool false, .slice none 0 0, .int .i64 0] ∧ Bk wx (w10.heap.size) 53 #[.bool r.b, .slice r.A r.n r.c, .int .i64 (jnS (D.mk' 1 0)).x] ∧ Below w6.heap.size w6 wx ∧ RD wx q (jnH.c 0) ∧ RD wx r (jnS (D.mk' 1 0)) ∧ RD wx l (jnS (D.mk' 1 0).neg))
    case first =>
      obtain ⟨SX3, hS3⟩ : ∃ S : World → Prop, ∀ w', S w' ↔ (w'.cell? ⟨w6.heap.size, 0, none⟩ = some (.slice (some ⟨gc, 0, none⟩) 2 2) ∧ w'.cell? ⟨w6.heap.size, 1, none⟩ = some (.slice (some ⟨gg, 0, none⟩) 1 cg) ∧ w'.cell? ⟨w6.heap.size, 2, none⟩ = some (.slice (some ⟨gr, 0, none⟩) 2 2) ∧ w'.cell? ⟨w9.heap.size, 0, none⟩ = some (.bool s.lo.b) ∧ w'.cell? ⟨w9.heap.size, 1, none⟩ = some (.slice s.lo.A s.lo.n s.lo.c) ∧ w'.cell? ⟨w9.heap.size, 2, none⟩ = some (.int .i64 (D.mk' 1 0).x) ∧ w'.cell? ⟨w9.heap.size, 3, none⟩ = some (.bool s.hi.b) ∧ w'.cell? ⟨w9.heap.size, 4, none⟩ = some (.slice s.hi.A s.hi.n s.hi.c) ∧ w'.cell? ⟨w9.heap.size, 5, none⟩ = some (.int .i64 (D.mk' 1 0).x) ∧ w'.cell? ⟨w9.heap.size, 6, none⟩ = some (.bool false) ∧ w'.cell? ⟨w9.heap.size, 7, none⟩ = some (.slice none 0 0) ∧ w'.cell? ⟨w9.heap.size, 8, none⟩ = some (.int .i64 0) ∧ w'.cell? ⟨w9.heap.size, 9, none⟩ = some (.bool false) ∧ w'.cell? ⟨w9.heap.size, 10, none⟩ = some (.slice none 0 0) ∧ w'.cell? ⟨w9.heap.size, 11, none⟩ = some (.int .i64 0)) := ⟨_, fun _ => Iff.rfl⟩
      have k_156 : SX3 (w11) := (hS3 _).2 ⟨Bh_147.out.cell 0 rfl, Bh_147.out.cell 1 rfl, Bh_147.out.cell 2 rfl, Bd_148.out.cell 0 rfl, Bd_148.out.cell 1 rfl, Bd_148.out.cell 2 rfl, Bd_148.out.cell 3 rfl, Bd_148.out.cell 4 rfl, Bd_148.out.cell 5 rfl, Bd_148.out.cell 6 rfl, Bd_148.out.cell 7 rfl, Bd_148.out.cell 8 rfl, Bd_148.out.cell 9 rfl, Bd_148.out.cell 10 rfl, Bd_148.out.cell 11 rfl⟩
      have k_157 : SX3 (w11.drew) := (hS3 _).2 ⟨(Bh_147.out.drew).cell 0 rfl, (Bh_147.out.drew).cell 1 rfl, (Bh_147.out.drew).cell 2 rfl, (Bd_148.out.drew).cell 0 rfl, (Bd_148.out.drew).cell 1 rfl, (Bd_148.out.drew).cell 2 rfl, (Bd_148.out.drew).cell 3 rfl, (Bd_148.out.drew).cell 4 rfl, (Bd_148.out.drew).cell 5 rfl, (Bd_148.out.drew).cell 6 rfl, (Bd_148.out.drew).cell 7 rfl, (Bd_148.out.drew).cell 8 rfl, (Bd_148.out.drew).cell 9 rfl, (Bd_148.out.drew).cell 10 rfl, (Bd_148.out.drew).cell 11 rfl⟩
      have k_158 : SX3 ((w11.alloc (.cells #[.bool false, .slice none 0 0, .int .i64 0] 53)).drew) := (hS3 _).2 ⟨((Bh_147.out.alloc _).drew).cell 0 rfl, ((Bh_147.out.alloc _).drew).cell 1 rfl, ((Bh_147.out.alloc _).drew).cell 2 rfl, ((Bd_148.out.alloc _).drew).cell 0 rfl, ((Bd_148.out.alloc _).drew).cell 1 rfl, ((Bd_148.out.alloc _).drew).cell 2 rfl, ((Bd_148.out.alloc _).drew).cell 3 rfl, ((Bd_148.out.alloc _).drew).cell 4 rfl, ((Bd_148.out.alloc _).drew).cell 5 rfl, ((Bd_148.out.alloc _).drew).cell 6 rfl, ((Bd_148.out.alloc _).drew).cell 7 rfl, ((Bd_148.out.alloc _).drew).cell 8 rfl, ((Bd_148.out.alloc _).drew).cell 9 rfl, ((Bd_148.out.alloc _).drew).cell 10 rfl, ((Bd_148.out.alloc _).drew).cell 11 rfl⟩
      have tok_159 : True := trivial
      have tok_176 : True := trivial
      have tok_194 : True := trivial
      have tok_218 : True := trivial
      have tok_238 : True := trivial
      have tok_258 : True := trivial
      go_region_held3 (fun w' => w'.cell? ⟨w6.heap.size, 0, none⟩ = some (.slice (some ⟨gc, 0, none⟩) 2 2) ∧ w'.cell? ⟨w6.heap.size, 1, none⟩ = some (.slice (some ⟨gg, 0, none⟩) 1 cg) ∧ w'.cell? ⟨w6.heap.size, 2, none⟩ = some (.slice (some ⟨gr, 0, none⟩) 2 2) ∧ w'.cell? ⟨w9.heap.size, 0, none⟩ = some (.bool s.lo.b) ∧ w'.cell? ⟨w9.heap.size, 1, none⟩ = some (.slice s.lo.A s.lo.n s.lo.c) ∧ w'.cell? ⟨w9.heap.size, 2, none⟩ = some (.int .i64 (D.mk' 1 0).x) ∧ w'.cell? ⟨w9.heap.size, 3, none⟩ = some (.bool s.hi.b) ∧ w'.cell? ⟨w9.heap.size, 4, none⟩ = some (.slice s.hi.A s.hi.n s.hi.c) ∧ w'.cell? ⟨w9.heap.size, 5, none⟩ = some (.int .i64 (D.mk' 1 0).x) ∧ w'.cell? ⟨w9.heap.size, 6, none⟩ = some (.bool false) ∧ w'.cell? ⟨w9.heap.size, 7, none⟩ = some (.slice none 0 0) ∧ w'.cell? ⟨w9.heap.size, 8, none⟩ = some (.int .i64 0) ∧ w'.cell? ⟨w9.heap.size, 9, none⟩ = some (.bool false) ∧ w'.cell? ⟨w9.heap.size, 10, none⟩ = some (.slice none 0 0) ∧ w'.cell? ⟨w9.heap.size, 11, none⟩ = some (.int .i64 0)) (first | with_reducible exact (hS3 _).1 k_156 | with_reducible exact (hS3 _).1 k_157 | with_reducible exact (hS3 _).1 k_158 | with_reducible exact (hS3 _).1 k_170 | with_reducible exact (hS3 _).1 k_171 | with_reducible exact (hS3 _).1 k_172 | with_reducible exact (hS3 _).1 k_173 | with_reducible exact (hS3 _).1 k_174 | with_reducible exact (hS3 _).1 k_191 | with_reducible exact (hS3 _).1 k_192 | with_reducible exact (hS3 _).1 k_210 | with_reducible exact (hS3 _).1 k_215 | with_reducible exact (hS3 _).1 k_216 | with_reducible exact (hS3 _).1 k_235 | with_reducible exact (hS3 _).1 k_236 | with_reducible exact (hS3 _).1 k_255 | with_reducible exact (hS3 _).1 k_256 | with_reducible exact (hS3 _).1 k_276 | with_reducible exact (hS3 _).1 k_277)
        (first
         | (clear tok_159; go_at_call 85; refine calls_at (W := w11.drew) ?_ (by with_reducible rfl); refine (sneg_pt _ s (D.mk' 1 0) 0 1 (RS_153.out.dk ((Dk.refl _).drew)) one_lim (by omega)).mono ?_; rintro e w_160 ⟨⟨t, rfl, ht⟩, hb⟩; clear lh ch0 ch1 ch2 ld cd0 cd1 cd2 cd3 cd4 cd5 cd6 cd7 cd8 cd9 cd10 cd11 ls cs0 cs1 cs2 k_156 k_157 k_158; have K := Dk.trans ((Dk.refl _).drew) (.below hb); have Bh_161 := Lib.hid (show Bk _ _ _ #[.slice (some ⟨gc, 0, none⟩) 2 2, .slice (some ⟨gg, 0, none⟩) 1 cg, .slice (some ⟨gr, 0, none⟩) 2 2] from (Bh_147.out.drew).below hb); have Bd_162 := Lib.hid (show Bk _ _ _ #[.bool s.lo.b, .slice s.lo.A s.lo.n s.lo.c, .int .i64 (D.mk' 1 0).x, .bool s.hi.b, .slice s.hi.A s.hi.n s.hi.c, .int .i64 (D.mk' 1 0).x, .bool false, .slice none 0 0, .int .i64 0, .bool false, .slice none 0 0, .int .i64 0] from (Bd_148.out.drew).below hb); have Bs_163 := Lib.hid (show Bk _ _ _ #[.bool r.b, .slice r.A r.n r.c, .int .i64 (jnS (D.mk' 1 0)).x] from (Bs_149.out.drew).below hb); have HB_164 := Lib.hid (below_tr (below_dr HB_150.out) hb); clear hb; have RQ_165 := Lib.hid (RQ_151.out.dk K); have RM_166 := Lib.hid (RM_152.out.dk K); have RS_167 := Lib.hid (RS_153.out.dk K); have RR_168 := Lib.hid (RR_154.out.dk K); clear K Bh_147 Bd_148 Bs_149 HB_150 RQ_151 RM_152 RS_153 RR_154; have RT_169 := Lib.hid ht; clear ht; have lh := Bh_161.out.lt; obtain ⟨ch0, ch1, ch2⟩ := Bh_161.out.cells3; have ld := Bd_162.out.lt; obtain ⟨cd0, cd1, cd2, cd3, cd4, cd5, cd6, cd7, cd8, cd9, cd10, cd11⟩ := Bd_162.out.cells12; have ls := Bs_163.out.lt; obtain ⟨cs0, cs1, cs2⟩ := Bs_163.out.cells3; have k_170 : SX3 (w_160) := (hS3 _).2 ⟨Bh_161.out.cell 0 rfl, Bh_161.out.cell 1 rfl, Bh_161.out.cell 2 rfl, Bd_162.out.cell 0 rfl, Bd_162.out.cell 1 rfl, Bd_162.out.cell 2 rfl, Bd_162.out.cell 3 rfl, Bd_162.out.cell 4 rfl, Bd_162.out.cell 5 rfl, Bd_162.out.cell 6 rfl, Bd_162.out.cell 7 rfl, Bd_162.out.cell 8 rfl, Bd_162.out.cell 9 rfl, Bd_162.out.cell 10 rfl, Bd_162.out.cell 11 rfl⟩; have k_171 : SX3 (w_160.alloc (.cells #[.bool t.lo.b, .slice t.lo.A t.lo.n t.lo.c, .int .i64 (D.mk' 1 0).neg.x, .bool t.hi.b, .slice t.hi.A t.hi.n t.hi.c, .int .i64 (D.mk' 1 0).neg.x, .bool false, .slice none 0 0, .int .i64 0, .bool false, .slice none 0 0, .int .i64 0] 62)) := (hS3 _).2 ⟨(Bh_161.out.alloc _).cell 0 rfl, (Bh_161.out.alloc _).cell 1 rfl, (Bh_161.out.alloc _).cell 2 rfl, (Bd_162.out.alloc _).cell 0 rfl, (Bd_162.out.alloc _).cell 1 rfl, (Bd_162.out.alloc _).cell 2 rfl, (Bd_162.out.alloc _).cell 3 rfl, (Bd_162.out.alloc _).cell 4 rfl, (Bd_162.out.alloc _).cell 5 rfl, (Bd_162.out.alloc _).cell 6 rfl, (Bd_162.out.alloc _).cell 7 rfl, (Bd_162.out.alloc _).cell 8 rfl, (Bd_162.out.alloc _).cell 9 rfl, (Bd_162.out.alloc _).cell 10 rfl, (Bd_162.out.alloc _).cell 11 rfl⟩; have k_172 : SX3 (w_160.alloc (.cells #[.bool false, .slice none 0 0, .int .i64 0] 53)) := (hS3 _).2 ⟨(Bh_161.out.alloc _).cell 0 rfl, (Bh_161.out.alloc _).cell 1 rfl, (Bh_161.out.alloc _).cell 2 rfl, (Bd_162.out.alloc _).cell 0 rfl, (Bd_162.out.alloc _).cell 1 rfl, (Bd_162.out.alloc _).cell 2 rfl, (Bd_162.out.alloc _).cell 3 rfl, (Bd_162.out.alloc _).cell 4 rfl, (Bd_162.out.alloc _).cell 5 rfl, (Bd_162.out.alloc _).cell 6 rfl, (Bd_162.out.alloc _).cell 7 rfl, (Bd_162.out.alloc _).cell 8 rfl, (Bd_162.out.alloc _).cell 9 rfl, (Bd_162.out.alloc _).cell 10 rfl, (Bd_162.out.alloc _).cell 11 rfl⟩; have k_173 : SX3 ((w_160.alloc (.cells #[.bool false, .slice none 0 0, .int .i64 0] 53)).alloc (.cells #[.bool t.lo.b, .slice t.lo.A t.lo.n t.lo.c, .int .i64 (D.mk' 1 0).neg.x, .bool t.hi.b, .slice t.hi.A t.hi.n t.hi.c, .int .i64 (D.mk' 1 0).neg.x, .bool false, .slice none 0 0, .int .i64 0, .bool false, .slice none 0 0, .int .i64 0] 62)) := (hS3 _).2 ⟨((Bh_161.out.alloc _).alloc _).cell 0 rfl, ((Bh_161.out.alloc _).alloc _).cell 1 rfl, ((Bh_161.out.alloc _).alloc _).cell 2 rfl, ((Bd_162.out.alloc _).alloc _).cell 0 rfl, ((Bd_162.out.alloc _).alloc _).cell 1 rfl, ((Bd_162.out.alloc _).alloc _).cell 2 rfl, ((Bd_162.out.alloc _).alloc _).cell 3 rfl, ((Bd_162.out.alloc _).alloc _).cell 4 rfl, ((Bd_162.out.alloc _).alloc _).cell 5 rfl, ((Bd_162.out.alloc _).alloc _).cell 6 rfl, ((Bd_162.out.alloc _).alloc _).cell 7 rfl, ((Bd_162.out.alloc _).alloc _).cell 8 rfl, ((Bd_162.out.alloc _).alloc _).cell 9 rfl, ((Bd_162.out.alloc _).alloc _).cell 10 rfl, ((Bd_162.out.alloc _).alloc _).cell 11 rfl⟩; have k_174 : SX3 ((w_160.alloc (.cells #[.bool t.lo.b, .slice t.lo.A t.lo.n t.lo.c, .int .i64 (D.mk' 1 0).neg.x, .bool t.hi.b, .slice t.hi.A t.hi.n t.hi.c, .int .i64 (D.mk' 1 0).neg.x, .bool false, .slice none 0 0, .int .i64 0, .bool false, .slice none 0 0, .int .i64 0] 62)).alloc (.cells #[.bool false, .slice none 0 0, .int .i64 0] 53)) := (hS3 _).2 ⟨((Bh_161.out.alloc _).alloc _).cell 0 rfl, ((Bh_161.out.alloc _).alloc _).cell 1 rfl, ((Bh_161.out.alloc _).alloc _).cell 2 rfl, ((Bd_162.out.alloc _).alloc _).cell 0 rfl, ((Bd_162.out.alloc _).alloc _).cell 1 rfl, ((Bd_162.out.alloc _).alloc _).cell 2 rfl, ((Bd_162.out.alloc _).alloc _).cell 3 rfl, ((Bd_162.out.alloc _).alloc _).cell 4 rfl, ((Bd_162.out.alloc _).alloc _).cell 5 rfl, ((Bd_162.out.alloc _).alloc _).cell 6 rfl, ((Bd_162.out.alloc _).alloc _).cell 7 rfl, ((Bd_162.out.alloc _).alloc _).cell 8 rfl, ((Bd_162.out.alloc _).alloc _).cell 9 rfl, ((Bd_162.out.alloc _).alloc _).cell 10 rfl, ((Bd_162.out.alloc _).alloc _).cell 11 rfl⟩)
         | (clear tok_176; go_at_call 85; refine calls_at (W := (w11.alloc (.cells #[.bool false, .slice none 0 0, .int .i64 0] 53)).drew) ?_ (by with_reducible rfl); have n_177 := Bh_147.out.lt; have n_178 := Bd_148.out.lt; have n_179 := Bs_149.out.lt; refine (sneg_pt _ s (D.mk' 1 0) 0 1 (RS_153.out.dk (((Dk.refl _).alloc _).drew)) one_lim (by omega)).mono ?_; rintro e w_180 ⟨⟨t, rfl, ht⟩, hb⟩; clear lh ch0 ch1 ch2 ld cd0 cd1 cd2 cd3 cd4 cd5 cd6 cd7 cd8 cd9 cd10 cd11 ls cs0 cs1 cs2 k_156 k_157 k_158; have K := Dk.trans (((Dk.refl _).alloc _).drew) (.below hb); have Bh_181 := Lib.hid (show Bk _ _ _ #[.slice (some ⟨gc, 0, none⟩) 2 2, .slice (some ⟨gg, 0, none⟩) 1 cg, .slice (some ⟨gr, 0, none⟩) 2 2] from ((Bh_147.out.alloc _).drew).below hb); have Bd_182 := Lib.hid (show Bk _ _ _ #[.bool s.lo.b, .slice s.lo.A s.lo.n s.lo.c, .int .i64 (D.mk' 1 0).x, .bool s.hi.b, .slice s.hi.A s.hi.n s.hi.c, .int .i64 (D.mk' 1 0).x, .bool false, .slice none 0 0, .int .i64 0, .bool false, .slice none 0 0, .int .i64 0] from ((Bd_148.out.alloc _).drew).below hb); have Bs_183 := Lib.hid (show Bk _ _ _ #[.bool r.b, .slice r.A r.n r.c, .int .i64 (jnS (D.mk' 1 0)).x] from ((Bs_149.out.alloc _).drew).below hb); have Bl_184 := Lib.hid (show Bk _ _ _ #[.bool false, .slice none 0 0, .int .i64 0] from ((Bk.new _ 53 #[.bool false, .slice none 0 0, .int .i64 0]).drew).below hb); have HB_185 := Lib.hid (below_tr (below_dr (below_al HB_150.out _)) hb); clear hb; have RQ_186 := Lib.hid (RQ_151.out.dk K); have RM_187 := Lib.hid (RM_152.out.dk K); have RS_188 := Lib.hid (RS_153.out.dk K); have RR_189 := Lib.hid (RR_154.out.dk K); clear K Bh_147 Bd_148 Bs_149 HB_150 RQ_151 RM_152 RS_153 RR_154; have RT_190 := Lib.hid ht; clear ht; have lh := Bh_181.out.lt; obtain ⟨ch0, ch1, ch2⟩ := Bh_181.out.cells3; have ld := Bd_182.out.lt; obtain ⟨cd0, cd1, cd2, cd3, cd4, cd5, cd6, cd7, cd8, cd9, cd10, cd11⟩ := Bd_182.out.cells12; have ls := Bs_183.out.lt; obtain ⟨cs0, cs1, cs2⟩ := Bs_183.out.cells3; have ll := Bl_184.out.lt; obtain ⟨cl0, cl1, cl2⟩ := Bl_184.out.cells3; have fl0 := Bl_184.out.free 0; have fl1 := Bl_184.out.free 1; have fl2 := Bl_184.out.free 2; have k_191 : SX3 (w_180) := (hS3 _).2 ⟨Bh_181.out.cell 0 rfl, Bh_181.out.cell 1 rfl, Bh_181.out.cell 2 rfl, Bd_182.out.cell 0 rfl, Bd_182.out.cell 1 rfl, Bd_182.out.cell 2 rfl, Bd_182.out.cell 3 rfl, Bd_182.out.cell 4 rfl, Bd_182.out.cell 5 rfl, Bd_182.out.cell 6 rfl, Bd_182.out.cell 7 rfl, Bd_182.out.cell 8 rfl, Bd_182.out.cell 9 rfl, Bd_182.out.cell 10 rfl, Bd_182.out.cell 11 rfl⟩; have k_192 : SX3 (w_180.alloc (.cells #[.bool t.lo.b, .slice t.lo.A t.lo.n t.lo.c, .int .i64 (D.mk' 1 0).neg.x, .bool t.hi.b, .slice t.hi.A t.hi.n t.hi.c, .int .i64 (D.mk' 1 0).neg.x, .bool false, .slice none 0 0, .int .i64 0, .bool false, .slice none 0 0, .int .i64 0] 62)) := (hS3 _).2 ⟨(Bh_181.out.alloc _).cell 0 rfl, (Bh_181.out.alloc _).cell 1 rfl, (Bh_181.out.alloc _).cell 2 rfl, (Bd_182.out.alloc _).cell 0 rfl, (Bd_182.out.alloc _).cell 1 rfl, (Bd_182.out.alloc _).cell 2 rfl, (Bd_182.out.alloc _).cell 3 rfl, (Bd_182.out.alloc _).cell 4 rfl, (Bd_182.out.alloc _).cell 5 rfl, (Bd_182.out.alloc _).cell 6 rfl, (Bd_182.out.alloc _).cell 7 rfl, (Bd_182.out.alloc _).cell 8 rfl, (Bd_182.out.alloc _).cell 9 rfl, (Bd_182.out.alloc _).cell 10 rfl, (Bd_182.out.alloc _).cell 11 rfl⟩)
         | (clear tok_194; go_at_call 60; refine calls_at (W := w_160.alloc (.cells #[.bool t.lo.b, .slice t.lo.A t.lo.n t.lo.c, .int .i64 (D.mk' 1 0).neg.x, .bool t.hi.b, .slice t.hi.A t.hi.n t.hi.c, .int .i64 (D.mk' 1 0).neg.x, .bool false, .slice none 0 0, .int .i64 0, .bool false, .slice none 0 0, .int .i64 0] 62)) ?_ (by with_reducible rfl); have n_195 := Bh_161.out.lt; have n_196 := Bd_162.out.lt; have n_197 := Bs_163.out.lt; refine (support_jn _ (D.mk' 1 0).neg gc gg gr cg _ (ZH.out.below (below_al HB_164.out _)) (lit2 (Bk.new _ 62 #[.bool t.lo.b, .slice t.lo.A t.lo.n t.lo.c, .int .i64 (D.mk' 1 0).neg.x, .bool t.hi.b, .slice t.hi.A t.hi.n t.hi.c, .int .i64 (D.mk' 1 0).neg.x, .bool false, .slice none 0 0, .int .i64 0, .bool false, .slice none 0 0, .int .i64 0]) (RT_169.out.dk ((Dk.refl _).alloc _))) (neg_lim one_lim) (HT.out.below (below_al HB_164.out _))).mono ?_; rintro e w_198 ⟨⟨l, rfl, hl⟩, hb⟩; clear lh ch0 ch1 ch2 ld cd0 cd1 cd2 cd3 cd4 cd5 cd6 cd7 cd8 cd9 cd10 cd11 ls cs0 cs1 cs2 k_170 k_171 k_172 k_173 k_174; have K := Dk.trans ((Dk.refl _).alloc _) (.below hb); have Bh_199 := Lib.hid (show Bk _ _ _ #[.slice (some ⟨gc, 0, none⟩) 2 2, .slice (some ⟨gg, 0, none⟩) 1 cg, .slice (some ⟨gr, 0, none⟩) 2 2] from (Bh_161.out.alloc _).below hb); have Bd_200 := Lib.hid (show Bk _ _ _ #[.bool s.lo.b, .slice s.lo.A s.lo.n s.lo.c, .int .i64 (D.mk' 1 0).x, .bool s.hi.b, .slice s.hi.A s.hi.n s.hi.c, .int .i64 (D.mk' 1 0).x, .bool false, .slice none 0 0, .int .i64 0, .bool false, .slice none 0 0, .int .i64 0] from (Bd_162.out.alloc _).below hb); have Bs_201 := Lib.hid (show Bk _ _ _ #[.bool r.b, .slice r.A r.n r.c, .int .i64 (jnS (D.mk' 1 0)).x] from (Bs_163.out.alloc _).below hb); have Bd2_202 := Lib.hid (show Bk _ _ _ #[.bool t.lo.b, .slice t.lo.A t.lo.n t.lo.c, .int .i64 (D.mk' 1 0).neg.x, .bool t.hi.b, .slice t.hi.A t.hi.n t.hi.c, .int .i64 (D.mk' 1 0).neg.x, .bool false, .slice none 0 0, .int .i64 0, .bool false, .slice none 0 0, .int .i64 0] from (Bk.new _ 62 #[.bool t.lo.b, .slice t.lo.A t.lo.n t.lo.c, .int .i64 (D.mk' 1 0).neg.x, .bool t.hi.b, .slice t.hi.A t.hi.n t.hi.c, .int .i64 (D.mk' 1 0).neg.x, .bool false, .slice none 0 0, .int .i64 0, .bool false, .slice none 0 0, .int .i64 0]).below hb); have HB_203 := Lib.hid (below_tr (below_al HB_164.out _) hb); clear hb; have RQ_204 := Lib.hid (RQ_165.out.dk K); have RM_205 := Lib.hid (RM_166.out.dk K); have RS_206 := Lib.hid (RS_167.out.dk K); have RR_207 := Lib.hid (RR_168.out.dk K); have RT_208 := Lib.hid (RT_169.out.dk K); clear K Bh_161 Bd_162 Bs_163 HB_164 RQ_165 RM_166 RS_167 RR_168 RT_169; have RL_209 := Lib.hid hl; clear hl; have lh := Bh_199.out.lt; obtain ⟨ch0, ch1, ch2⟩ := Bh_199.out.cells3; have ld := Bd_200.out.lt; obtain ⟨cd0, cd1, cd2, cd3, cd4, cd5, cd6, cd7, cd8, cd9, cd10, cd11⟩ := Bd_200.out.cells12; have ls := Bs_201.out.lt; obtain ⟨cs0, cs1, cs2⟩ := Bs_201.out.cells3; have ld2 := Bd2_202.out.lt; obtain ⟨cd20, cd21, cd22, cd23, cd24, cd25, cd26, cd27, cd28, cd29, cd210, cd211⟩ := Bd2_202.out.cells12; have k_210 : SX3 (w_198) := (hS3 _).2 ⟨Bh_199.out.cell 0 rfl, Bh_199.out.cell 1 rfl, Bh_199.out.cell 2 rfl, Bd_200.out.cell 0 rfl, Bd_200.out.cell 1 rfl, Bd_200.out.cell 2 rfl, Bd_200.out.cell 3 rfl, Bd_200.out.cell 4 rfl, Bd_200.out.cell 5 rfl, Bd_200.out.cell 6 rfl, Bd_200.out.cell 7 rfl, Bd_200.out.cell 8 rfl, Bd_200.out.cell 9 rfl, Bd_200.out.cell 10 rfl, Bd_200.out.cell 11 rfl⟩; have n_211 := Bh_199.out.lt; have n_212 := Bd_200.out.lt; have n_213 := Bs_201.out.lt; have n_214 := Bd2_202.out.lt; have k_215 : SX3 (w_198.alloc (.cells #[.bool false, .slice none 0 0, .int .i64 0] 53)) := (hS3 _).2 ⟨(Bh_199.out.alloc _).cell 0 rfl, (Bh_199.out.alloc _).cell 1 rfl, (Bh_199.out.alloc _).cell 2 rfl, (Bd_200.out.alloc _).cell 0 rfl, (Bd_200.out.alloc _).cell 1 rfl, (Bd_200.out.alloc _).cell 2 rfl, (Bd_200.out.alloc _).cell 3 rfl, (Bd_200.out.alloc _).cell 4 rfl, (Bd_200.out.alloc _).cell 5 rfl, (Bd_200.out.alloc _).cell 6 rfl, (Bd_200.out.alloc _).cell 7 rfl, (Bd_200.out.alloc _).cell 8 rfl, (Bd_200.out.alloc _).cell 9 rfl, (Bd_200.out.alloc _).cell 10 rfl, (Bd_200.out.alloc _).cell 11 rfl⟩; have k_216 : SX3 (w_198.alloc (.cells #[.bool l.b, .slice l.A l.n l.c, .int .i64 (jnS (D.mk' 1 0).neg).x] 53)) := (hS3 _).2 ⟨(Bh_199.out.alloc _).cell 0 rfl, (Bh_199.out.alloc _).cell 1 rfl, (Bh_199.out.alloc _).cell 2 rfl, (Bd_200.out.alloc _).cell 0 rfl, (Bd_200.out.alloc _).cell 1 rfl, (Bd_200.out.alloc _).cell 2 rfl, (Bd_200.out.alloc _).cell 3 rfl, (Bd_200.out.alloc _).cell 4 rfl, (Bd_200.out.alloc _).cell 5 rfl, (Bd_200.out.alloc _).cell 6 rfl, (Bd_200.out.alloc _).cell 7 rfl, (Bd_200.out.alloc _).cell 8 rfl, (Bd_200.out.alloc _).cell 9 rfl, (Bd_200.out.alloc _).cell 10 rfl, (Bd_200.out.alloc _).cell 11 rfl⟩)
         | (clear tok_218; go_at_call 60; refine calls_at (W := (w_160.alloc (.cells #[.bool false, .slice none 0 0, .int .i64 0] 53)).alloc (.cells #[.bool t.lo.b, .slice t.lo.A t.lo.n t.lo.c, .int .i64 (D.mk' 1 0).neg.x, .bool t.hi.b, .slice t.hi.A t.hi.n t.hi.c, .int .i64 (D.mk' 1 0).neg.x, .bool false, .slice none 0 0, .int .i64 0, .bool false, .slice none 0 0, .int .i64 0] 62)) ?_ (by with_reducible rfl); have n_219 := Bh_161.out.lt; have n_220 := Bd_162.out.lt; have n_221 := Bs_163.out.lt; refine (support_jn _ (D.mk' 1 0).neg gc gg gr cg _ (ZH.out.below (below_al (below_al HB_164.out _) _)) (lit2 (Bk.new_1 _ _ 62 #[.bool t.lo.b, .slice t.lo.A t.lo.n t.lo.c, .int .i64 (D.mk' 1 0).neg.x, .bool t.hi.b, .slice t.hi.A t.hi.n t.hi.c, .int .i64 (D.mk' 1 0).neg.x, .bool false, .slice none 0 0, .int .i64 0, .bool false, .slice none 0 0, .int .i64 0]) (RT_169.out.dk (((Dk.refl _).alloc _).alloc _))) (neg_lim one_lim) (HT.out.below (below_al (below_al HB_164.out _) _))).mono ?_; rintro e w_222 ⟨⟨l, rfl, hl⟩, hb⟩; clear lh ch0 ch1 ch2 ld cd0 cd1 cd2 cd3 cd4 cd5 cd6 cd7 cd8 cd9 cd10 cd11 ls cs0 cs1 cs2 k_170 k_171 k_172 k_173 k_174; have K := Dk.trans (((Dk.refl _).alloc _).alloc _) (.below hb); have Bh_223 := Lib.hid (show Bk _ _ _ #[.slice (some ⟨gc, 0, none⟩) 2 2, .slice (some ⟨gg, 0, none⟩) 1 cg, .slice (some ⟨gr, 0, none⟩) 2 2] from ((Bh_161.out.alloc _).alloc _).below hb); have Bd_224 := Lib.hid (show Bk _ _ _ #[.bool s.lo.b, .slice s.lo.A s.lo.n s.lo.c, .int .i64 (D.mk' 1 0).x, .bool s.hi.b, .slice s.hi.A s.hi.n s.hi.c, .int .i64 (D.mk' 1 0).x, .bool false, .slice none 0 0, .int .i64 0, .bool false, .slice none 0 0, .int .i64 0] from ((Bd_162.out.alloc _).alloc _).below hb); have Bs_225 := Lib.hid (show Bk _ _ _ #[.bool r.b, .slice r.A r.n r.c, .int .i64 (jnS (D.mk' 1 0)).x] from ((Bs_163.out.alloc _).alloc _).below hb); have Bl_226 := Lib.hid (show Bk _ _ _ #[.bool false, .slice none 0 0, .int .i64 0] from ((Bk.new _ 53 #[.bool false, .slice none 0 0, .int .i64 0]).alloc _).below hb); have Bd2_227 := Lib.hid (show Bk _ _ _ #[.bool t.lo.b, .slice t.lo.A t.lo.n t.lo.c, .int .i64 (D.mk' 1 0).neg.x, .bool t.hi.b, .slice t.hi.A t.hi.n t.hi.c, .int .i64 (D.mk' 1 0).neg.x, .bool false, .slice none 0 0, .int .i64 0, .bool false, .slice none 0 0, .int .i64 0] from (Bk.new_1 _ _ 62 #[.bool t.lo.b, .slice t.lo.A t.lo.n t.lo.c, .int .i64 (D.mk' 1 0).neg.x, .bool t.hi.b, .slice t.hi.A t.hi.n t.hi.c, .int .i64 (D.mk' 1 0).neg.x, .bool false, .slice none 0 0, .int .i64 0, .bool false, .slice none 0 0, .int .i64 0]).below hb); have HB_228 := Lib.hid (below_tr (below_al (below_al HB_164.out _) _) hb); clear hb; have RQ_229 := Lib.hid (RQ_165.out.dk K); have RM_230 := Lib.hid (RM_166.out.dk K); have RS_231 := Lib.hid (RS_167.out.dk K); have RR_232 := Lib.hid (RR_168.out.dk K); have RT_233 := Lib.hid (RT_169.out.dk K); clear K Bh_161 Bd_162 Bs_163 HB_164 RQ_165 RM_166 RS_167 RR_168 RT_169; have RL_234 := Lib.hid hl; clear hl; have lh := Bh_223.out.lt; obtain ⟨ch0, ch1, ch2⟩ := Bh_223.out.cells3; have ld := Bd_224.out.lt; obtain ⟨cd0, cd1, cd2, cd3, cd4, cd5, cd6, cd7, cd8, cd9, cd10, cd11⟩ := Bd_224.out.cells12; have ls := Bs_225.out.lt; obtain ⟨cs0, cs1, cs2⟩ := Bs_225.out.cells3; have ll := Bl_226.out.lt; obtain ⟨cl0, cl1, cl2⟩ := Bl_226.out.cells3; have fl0 := Bl_226.out.free 0; have fl1 := Bl_226.out.free 1; have fl2 := Bl_226.out.free 2; have ld2 := Bd2_227.out.lt; obtain ⟨cd20, cd21, cd22, cd23, cd24, cd25, cd26, cd27, cd28, cd29, cd210, cd211⟩ := Bd2_227.out.cells12; have k_235 : SX3 (w_222) := (hS3 _).2 ⟨Bh_223.out.cell 0 rfl, Bh_223.out.cell 1 rfl, Bh_223.out.cell 2 rfl, Bd_224.out.cell 0 rfl, Bd_224.out.cell 1 rfl, Bd_224.out.cell 2 rfl, Bd_224.out.cell 3 rfl, Bd_224.out.cell 4 rfl, Bd_224.out.cell 5 rfl, Bd_224.out.cell 6 rfl, Bd_224.out.cell 7 rfl, Bd_224.out.cell 8 rfl, Bd_224.out.cell 9 rfl, Bd_224.out.cell 10 rfl, Bd_224.out.cell 11 rfl⟩; have y0 := Bh_223.out.lt; have y1 := Bd_224.out.lt; have y2 := Bs_225.out.lt; have y3 := Bl_226.out.lt; have y4 := Bd2_227.out.lt; have y5 := HB_228.out.size; have k_236 : SX3 (((w_222.setCell ⟨w_160.heap.size, 0, none⟩ (.bool l.b)).setCell ⟨w_160.heap.size, 1, none⟩ (.slice l.A l.n l.c)).setCell ⟨w_160.heap.size, 2, none⟩ (.int .i64 (jnS (D.mk' 1 0).neg).x)) := (hS3 _).2 ⟨(((Bh_223.out.ne (by omega) 0 (.bool l.b)).ne (by omega) 1 (.slice l.A l.n l.c)).ne (by omega) 2 (.int .i64 (jnS (D.mk' 1 0).neg).x)).cell 0 rfl, (((Bh_223.out.ne (by omega) 0 (.bool l.b)).ne (by omega) 1 (.slice l.A l.n l.c)).ne (by omega) 2 (.int .i64 (jnS (D.mk' 1 0).neg).x)).cell 1 rfl, (((Bh_223.out.ne (by omega) 0 (.bool l.b)).ne (by omega) 1 (.slice l.A l.n l.c)).ne (by omega) 2 (.int .i64 (jnS (D.mk' 1 0).neg).x)).cell 2 rfl, (((Bd_224.out.ne (by omega) 0 (.bool l.b)).ne (by omega) 1 (.slice l.A l.n l.c)).ne (by omega) 2 (.int .i64 (jnS (D.mk' 1 0).neg).x)).cell 0 rfl, (((Bd_224.out.ne (by omega) 0 (.bool l.b)).ne (by omega) 1 (.slice l.A l.n l.c)).ne (by omega) 2 (.int .i64 (jnS (D.mk' 1 0).neg).x)).cell 1 rfl, (((Bd_224.out.ne (by omega) 0 (.bool l.b)).ne (by omega) 1 (.slice l.A l.n l.c)).ne (by omega) 2 (.int .i64 (jnS (D.mk' 1 0).neg).x)).cell 2 rfl, (((Bd_224.out.ne (by omega) 0 (.bool l.b)).ne (by omega) 1 (.slice l.A l.n l.c)).ne (by omega) 2 (.int .i64 (jnS (D.mk' 1 0).neg).x)).cell 3 rfl, (((Bd_224.out.ne (by omega) 0 (.bool l.b)).ne (by omega) 1 (.slice l.A l.n l.c)).ne (by omega) 2 (.int .i64 (jnS (D.mk' 1 0).neg).x)).cell 4 rfl, (((Bd_224.out.ne (by omega) 0 (.bool l.b)).ne (by omega) 1 (.slice l.A l.n l.c)).ne (by omega) 2 (.int .i64 (jnS (D.mk' 1 0).neg).x)).cell 5 rfl, (((Bd_224.out.ne (by omega) 0 (.bool l.b)).ne (by omega) 1 (.slice l.A l.n l.c)).ne (by omega) 2 (.int .i64 (jnS (D.mk' 1 0).neg).x)).cell 6 rfl, (((Bd_224.out.ne (by omega) 0 (.bool l.b)).ne (by omega) 1 (.slice l.A l.n l.c)).ne (by omega) 2 (.int .i64 (jnS (D.mk' 1 0).neg).x)).cell 7 rfl, (((Bd_224.out.ne (by omega) 0 (.bool l.b)).ne (by omega) 1 (.slice l.A l.n l.c)).ne (by omega) 2 (.int .i64 (jnS (D.mk' 1 0).neg).x)).cell 8 rfl, (((Bd_224.out.ne (by omega) 0 (.bool l.b)).ne (by omega) 1 (.slice l.A l.n l.c)).ne (by omega) 2 (.int .i64 (jnS (D.mk' 1 0).neg).x)).cell 9 rfl, (((Bd_224.out.ne (by omega) 0 (.bool l.b)).ne (by omega) 1 (.slice l.A l.n l.c)).ne (by omega) 2 (.int .i64 (jnS (D.mk' 1 0).neg).x)).cell 10 rfl, (((Bd_224.out.ne (by omega) 0 (.bool l.b)).ne (by omega) 1 (.slice l.A l.n l.c)).ne (by omega) 2 (.int .i64 (jnS (D.mk' 1 0).neg).x)).cell 11 rfl⟩; clear y0 y1 y2 y3 y4 y5)
         | (clear tok_238; go_at_call 60; refine calls_at (W := (w_160.alloc (.cells #[.bool t.lo.b, .slice t.lo.A t.lo.n t.lo.c, .int .i64 (D.mk' 1 0).neg.x, .bool t.hi.b, .slice t.hi.A t.hi.n t.hi.c, .int .i64 (D.mk' 1 0).neg.x, .bool false, .slice none 0 0, .int .i64 0, .bool false, .slice none 0 0, .int .i64 0] 62)).alloc (.cells #[.bool false, .slice none 0 0, .int .i64 0] 53)) ?_ (by with_reducible rfl); have n_239 := Bh_161.out.lt; have n_240 := Bd_162.out.lt; have n_241 := Bs_163.out.lt; refine (support_jn _ (D.mk' 1 0).neg gc gg gr cg _ (ZH.out.below (below_al (below_al HB_164.out _) _)) (lit2 ((Bk.new _ 62 #[.bool t.lo.b, .slice t.lo.A t.lo.n t.lo.c, .int .i64 (D.mk' 1 0).neg.x, .bool t.hi.b, .slice t.hi.A t.hi.n t.hi.c, .int .i64 (D.mk' 1 0).neg.x, .bool false, .slice none 0 0, .int .i64 0, .bool false, .slice none 0 0, .int .i64 0]).alloc _) (RT_169.out.dk (((Dk.refl _).alloc _).alloc _))) (neg_lim one_lim) (HT.out.below (below_al (below_al HB_164.out _) _))).mono ?_; rintro e w_242 ⟨⟨l, rfl, hl⟩, hb⟩; clear lh ch0 ch1 ch2 ld cd0 cd1 cd2 cd3 cd4 cd5 cd6 cd7 cd8 cd9 cd10 cd11 ls cs0 cs1 cs2 k_170 k_171 k_172 k_173 k_174; have K := Dk.trans (((Dk.refl _).alloc _).alloc _) (.below hb); have Bh_243 := Lib.hid (show Bk _ _ _ #[.slice (some ⟨gc, 0, none⟩) 2 2, .slice (some ⟨gg, 0, none⟩) 1 cg, .slice (some ⟨gr, 0, none⟩) 2 2] from ((Bh_161.out.alloc _).alloc _).below hb); have Bd_244 := Lib.hid (show Bk _ _ _ #[.bool s.lo.b, .slice s.lo.A s.lo.n s.lo.c, .int .i64 (D.mk' 1 0).x, .bool s.hi.b, .slice s.hi.A s.hi.n s.hi.c, .int .i64 (D.mk' 1 0).x, .bool false, .slice none 0 0, .int .i64 0, .bool false, .slice none 0 0, .int .i64 0] from ((Bd_162.out.alloc _).alloc _).below hb); have Bs_245 := Lib.hid (show Bk _ _ _ #[.bool r.b, .slice r.A r.n r.c, .int .i64 (jnS (D.mk' 1 0)).x] from ((Bs_163.out.alloc _).alloc _).below hb); have Bd2_246 := Lib.hid (show Bk _ _ _ #[.bool t.lo.b, .slice t.lo.A t.lo.n t.lo.c, .int .i64 (D.mk' 1 0).neg.x, .bool t.hi.b, .slice t.hi.A t.hi.n t.hi.c, .int .i64 (D.mk' 1 0).neg.x, .bool false, .slice none 0 0, .int .i64 0, .bool false, .slice none 0 0, .int .i64 0] from ((Bk.new _ 62 #[.bool t.lo.b, .slice t.lo.A t.lo.n t.lo.c, .int .i64 (D.mk' 1 0).neg.x, .bool t.hi.b, .slice t.hi.A t.hi.n t.hi.c, .int .i64 (D.mk' 1 0).neg.x, .bool false, .slice none 0 0, .int .i64 0, .bool false, .slice none 0 0, .int .i64 0]).alloc _).below hb); have Bl_247 := Lib.hid (show Bk _ _ _ #[.bool false, .slice none 0 0, .int .i64 0] from (Bk.new_1 _ _ 53 #[.bool false, .slice none 0 0, .int .i64 0]).below hb); have HB_248 := Lib.hid (below_tr (below_al (below_al HB_164.out _) _) hb); clear hb; have RQ_249 := Lib.hid (RQ_165.out.dk K); have RM_250 := Lib.hid (RM_166.out.dk K); have RS_251 := Lib.hid (RS_167.out.dk K); have RR_252 := Lib.hid (RR_168.out.dk K); have RT_253 := Lib.hid (RT_169.out.dk K); clear K Bh_161 Bd_162 Bs_163 HB_164 RQ_165 RM_166 RS_167 RR_168 RT_169; have RL_254 := Lib.hid hl; clear hl; have lh := Bh_243.out.lt; obtain ⟨ch0, ch1, ch2⟩ := Bh_243.out.cells3; have ld := Bd_244.out.lt; obtain ⟨cd0, cd1, cd2, cd3, cd4, cd5, cd6, cd7, cd8, cd9, cd10, cd11⟩ := Bd_244.out.cells12; have ls := Bs_245.out.lt; obtain ⟨cs0, cs1, cs2⟩ := Bs_245.out.cells3; have ld2 := Bd2_246.out.lt; obtain ⟨cd20, cd21, cd22, cd23, cd24, cd25, cd26, cd27, cd28, cd29, cd210, cd211⟩ := Bd2_246.out.cells12; have ll := Bl_247.out.lt; obtain ⟨cl0, cl1, cl2⟩ := Bl_247.out.cells3; have fl0 := Bl_247.out.free 0; have fl1 := Bl_247.out.free 1; have fl2 := Bl_247.out.free 2; have k_255 : SX3 (w_242) := (hS3 _).2 ⟨Bh_243.out.cell 0 rfl, Bh_243.out.cell 1 rfl, Bh_243.out.cell 2 rfl, Bd_244.out.cell 0 rfl, Bd_244.out.cell 1 rfl, Bd_244.out.cell 2 rfl, Bd_244.out.cell 3 rfl, Bd_244.out.cell 4 rfl, Bd_244.out.cell 5 rfl, Bd_244.out.cell 6 rfl, Bd_244.out.cell 7 rfl, Bd_244.out.cell 8 rfl, Bd_244.out.cell 9 rfl, Bd_244.out.cell 10 rfl, Bd_244.out.cell 11 rfl⟩; have y0 := Bh_243.out.lt; have y1 := Bd_244.out.lt; have y2 := Bs_245.out.lt; have y3 := Bd2_246.out.lt; have y4 := Bl_247.out.lt; have y5 := HB_248.out.size; have k_256 : SX3 (((w_242.setCell ⟨w_160.heap.size + 1, 0, none⟩ (.bool l.b)).setCell ⟨w_160.heap.size + 1, 1, none⟩ (.slice l.A l.n l.c)).setCell ⟨w_160.heap.size + 1, 2, none⟩ (.int .i64 (jnS (D.mk' 1 0).neg).x)) := (hS3 _).2 ⟨(((Bh_243.out.ne (by omega) 0 (.bool l.b)).ne (by omega) 1 (.slice l.A l.n l.c)).ne (by omega) 2 (.int .i64 (jnS (D.mk' 1 0).neg).x)).cell 0 rfl, (((Bh_243.out.ne (by omega) 0 (.bool l.b)).ne (by omega) 1 (.slice l.A l.n l.c)).ne (by omega) 2 (.int .i64 (jnS (D.mk' 1 0).neg).x)).cell 1 rfl, (((Bh_243.out.ne (by omega) 0 (.bool l.b)).ne (by omega) 1 (.slice l.A l.n l.c)).ne (by omega) 2 (.int .i64 (jnS (D.mk' 1 0).neg).x)).cell 2 rfl, (((Bd_244.out.ne (by omega) 0 (.bool l.b)).ne (by omega) 1 (.slice l.A l.n l.c)).ne (by omega) 2 (.int .i64 (jnS (D.mk' 1 0).neg).x)).cell 0 rfl, (((Bd_244.out.ne (by omega) 0 (.bool l.b)).ne (by omega) 1 (.slice l.A l.n l.c)).ne (by omega) 2 (.int .i64 (jnS (D.mk' 1 0).neg).x)).cell 1 rfl, (((Bd_244.out.ne (by omega) 0 (.bool l.b)).ne (by omega) 1 (.slice l.A l.n l.c)).ne (by omega) 2 (.int .i64 (jnS (D.mk' 1 0).neg).x)).cell 2 rfl, (((Bd_244.out.ne (by omega) 0 (.bool l.b)).ne (by omega) 1 (.slice l.A l.n l.c)).ne (by omega) 2 (.int .i64 (jnS (D.mk' 1 0).neg).x)).cell 3 rfl, (((Bd_244.out.ne (by omega) 0 (.bool l.b)).ne (by omega) 1 (.slice l.A l.n l.c)).ne (by omega) 2 (.int .i64 (jnS (D.mk' 1 0).neg).x)).cell 4 rfl, (((Bd_244.out.ne (by omega) 0 (.bool l.b)).ne (by omega) 1 (.slice l.A l.n l.c)).ne (by omega) 2 (.int .i64 (jnS (D.mk' 1 0).neg).x)).cell 5 rfl, (((Bd_244.out.ne (by omega) 0 (.bool l.b)).ne (by omega) 1 (.slice l.A l.n l.c)).ne (by omega) 2 (.int .i64 (jnS (D.mk' 1 0).neg).x)).cell 6 rfl, (((Bd_244.out.ne (by omega) 0 (.bool l.b)).ne (by omega) 1 (.slice l.A l.n l.c)).ne (by omega) 2 (.int .i64 (jnS (D.mk' 1 0).neg).x)).cell 7 rfl, (((Bd_244.out.ne (by omega) 0 (.bool l.b)).ne (by omega) 1 (.slice l.A l.n l.c)).ne (by omega) 2 (.int .i64 (jnS (D.mk' 1 0).neg).x)).cell 8 rfl, (((Bd_244.out.ne (by omega) 0 (.bool l.b)).ne (by omega) 1 (.slice l.A l.n l.c)).ne (by omega) 2 (.int .i64 (jnS (D.mk' 1 0).neg).x)).cell 9 rfl, (((Bd_244.out.ne (by omega) 0 (.bool l.b)).ne (by omega) 1 (.slice l.A l.n l.c)).ne (by omega) 2 (.int .i64 (jnS (D.mk' 1 0).neg).x)).cell 10 rfl, (((Bd_244.out.ne (by omega) 0 (.bool l.b)).ne (by omega) 1 (.slice l.A l.n l.c)).ne (by omega) 2 (.int .i64 (jnS (D.mk' 1 0).neg).x)).cell 11 rfl⟩; clear y0 y1 y2 y3 y4 y5)
         | (clear tok_258; go_at_call 60; refine calls_at (W := w_180.alloc (.cells #[.bool t.lo.b, .slice t.lo.A t.lo.n t.lo.c, .int .i64 (D.mk' 1 0).neg.x, .bool t.hi.b, .slice t.hi.A t.hi.n t.hi.c, .int .i64 (D.mk' 1 0).neg.x, .bool false, .slice none 0 0, .int .i64 0, .bool false, .slice none 0 0, .int .i64 0] 62)) ?_ (by with_reducible rfl); have n_259 := Bh_181.out.lt; have n_260 := Bd_182.out.lt; have n_261 := Bs_183.out.lt; have n_262 := Bl_184.out.lt; refine (support_jn _ (D.mk' 1 0).neg gc gg gr cg _ (ZH.out.below (below_al HB_185.out _)) (lit2 (Bk.new _ 62 #[.bool t.lo.b, .slice t.lo.A t.lo.n t.lo.c, .int .i64 (D.mk' 1 0).neg.x, .bool t.hi.b, .slice t.hi.A t.hi.n t.hi.c, .int .i64 (D.mk' 1 0).neg.x, .bool false, .slice none 0 0, .int .i64 0, .bool false, .slice none 0 0, .int .i64 0]) (RT_190.out.dk ((Dk.refl _).alloc _))) (neg_lim one_lim) (HT.out.below (below_al HB_185.out _))).mono ?_; rintro e w_263 ⟨⟨l, rfl, hl⟩, hb⟩; clear lh ch0 ch1 ch2 ld cd0 cd1 cd2 cd3 cd4 cd5 cd6 cd7 cd8 cd9 cd10 cd11 ls cs0 cs1 cs2 ll cl0 cl1 cl2 fl0 fl1 fl2 k_191 k_192; have K := Dk.trans ((Dk.refl _).alloc _) (.below hb); have Bh_264 := Lib.hid (show Bk _ _ _ #[.slice (some ⟨gc, 0, none⟩) 2 2, .slice (some ⟨gg, 0, none⟩) 1 cg, .slice (some ⟨gr, 0, none⟩) 2 2] from (Bh_181.out.alloc _).below hb); have Bd_265 := Lib.hid (show Bk _ _ _ #[.bool s.lo.b, .slice s.lo.A s.lo.n s.lo.c, .int .i64 (D.mk' 1 0).x, .bool s.hi.b, .slice s.hi.A s.hi.n s.hi.c, .int .i64 (D.mk' 1 0).x, .bool false, .slice none 0 0, .int .i64 0, .bool false, .slice none 0 0, .int .i64 0] from (Bd_182.out.alloc _).below hb); have Bs_266 := Lib.hid (show Bk _ _ _ #[.bool r.b, .slice r.A r.n r.c, .int .i64 (jnS (D.mk' 1 0)).x] from (Bs_183.out.alloc _).below hb); have Bl_267 := Lib.hid (show Bk _ _ _ #[.bool false, .slice none 0 0, .int .i64 0] from (Bl_184.out.alloc _).below hb); have Bd2_268 := Lib.hid (show Bk _ _ _ #[.bool t.lo.b, .slice t.lo.A t.lo.n t.lo.c, .int .i64 (D.mk' 1 0).neg.x, .bool t.hi.b, .slice t.hi.A t.hi.n t.hi.c, .int .i64 (D.mk' 1 0).neg.x, .bool false, .slice none 0 0, .int .i64 0, .bool false, .slice none 0 0, .int .i64 0] from (Bk.new _ 62 #[.bool t.lo.b, .slice t.lo.A t.lo.n t.lo.c, .int .i64 (D.mk' 1 0).neg.x, .bool t.hi.b, .slice t.hi.A t.hi.n t.hi.c, .int .i64 (D.mk' 1 0).neg.x, .bool false, .slice none 0 0, .int .i64 0, .bool false, .slice none 0 0, .int .i64 0]).below hb); have HB_269 := Lib.hid (below_tr (below_al HB_185.out _) hb); clear hb; have RQ_270 := Lib.hid (RQ_186.out.dk K); have RM_271 := Lib.hid (RM_187.out.dk K); have RS_272 := Lib.hid (RS_188.out.dk K); have RR_273 := Lib.hid (RR_189.out.dk K); have RT_274 := Lib.hid (RT_190.out.dk K); clear K Bh_181 Bd_182 Bs_183 Bl_184 HB_185 RQ_186 RM_187 RS_188 RR_189 RT_190; have RL_275 := Lib.hid hl; clear hl; have lh := Bh_264.out.lt; obtain ⟨ch0, ch1, ch2⟩ := Bh_264.out.cells3; have ld := Bd_265.out.lt; obtain ⟨cd0, cd1, cd2, cd3, cd4, cd5, cd6, cd7, cd8, cd9, cd10, cd11⟩ := Bd_265.out.cells12; have ls := Bs_266.out.lt; obtain ⟨cs0, cs1, cs2⟩ := Bs_266.out.cells3; have ll := Bl_267.out.lt; obtain ⟨cl0, cl1, cl2⟩ := Bl_267.out.cells3; have fl0 := Bl_267.out.free 0; have fl1 := Bl_267.out.free 1; have fl2 := Bl_267.out.free 2; have ld2 := Bd2_268.out.lt; obtain ⟨cd20, cd21, cd22, cd23, cd24, cd25, cd26, cd27, cd28, cd29, cd210, cd211⟩ := Bd2_268.out.cells12; have k_276 : SX3 (w_263) := (hS3 _).2 ⟨Bh_264.out.cell 0 rfl, Bh_264.out.cell 1 rfl, Bh_264.out.cell 2 rfl, Bd_265.out.cell 0 rfl, Bd_265.out.cell 1 rfl, Bd_265.out.cell 2 rfl, Bd_265.out.cell 3 rfl, Bd_265.out.cell 4 rfl, Bd_265.out.cell 5 rfl, Bd_265.out.cell 6 rfl, Bd_265.out.cell 7 rfl, Bd_265.out.cell 8 rfl, Bd_265.out.cell 9 rfl, Bd_265.out.cell 10 rfl, Bd_265.out.cell 11 rfl⟩; have y0 := Bh_264.out.lt; have y1 := Bd_265.out.lt; have y2 := Bs_266.out.lt; have y3 := Bl_267.out.lt; have y4 := Bd2_268.out.lt; have y5 := HB_269.out.size; have k_277 : SX3 (((w_263.setCell ⟨w11.heap.size, 0, none⟩ (.bool l.b)).setCell ⟨w11.heap.size, 1, none⟩ (.slice l.A l.n l.c)).setCell ⟨w11.heap.size, 2, none⟩ (.int .i64 (jnS (D.mk' 1 0).neg).x)) := (hS3 _).2 ⟨(((Bh_264.out.ne (by omega) 0 (.bool l.b)).ne (by omega) 1 (.slice l.A l.n l.c)).ne (by omega) 2 (.int .i64 (jnS (D.mk' 1 0).neg).x)).cell 0 rfl, (((Bh_264.out.ne (by omega) 0 (.bool l.b)).ne (by omega) 1 (.slice l.A l.n l.c)).ne (by omega) 2 (.int .i64 (jnS (D.mk' 1 0).neg).x)).cell 1 rfl, (((Bh_264.out.ne (by omega) 0 (.bool l.b)).ne (by omega) 1 (.slice l.A l.n l.c)).ne (by omega) 2 (.int .i64 (jnS (D.mk' 1 0).neg).x)).cell 2 rfl, (((Bd_265.out.ne (by omega) 0 (.bool l.b)).ne (by omega) 1 (.slice l.A l.n l.c)).ne (by omega) 2 (.int .i64 (jnS (D.mk' 1 0).neg).x)).cell 0 rfl, (((Bd_265.out.ne (by omega) 0 (.bool l.b)).ne (by omega) 1 (.slice l.A l.n l.c)).ne (by omega) 2 (.int .i64 (jnS (D.mk' 1 0).neg).x)).cell 1 rfl, (((Bd_265.out.ne (by omega) 0 (.bool l.b)).ne (by omega) 1 (.slice l.A l.n l.c)).ne (by omega) 2 (.int .i64 (jnS (D.mk' 1 0).neg).x)).cell 2 rfl, (((Bd_265.out.ne (by omega) 0 (.bool l.b)).ne (by omega) 1 (.slice l.A l.n l.c)).ne (by omega) 2 (.int .i64 (jnS (D.mk' 1 0).neg).x)).cell 3 rfl, (((Bd_265.out.ne (by omega) 0 (.bool l.b)).ne (by omega) 1 (.slice l.A l.n l.c)).ne (by omega) 2 (.int .i64 (jnS (D.mk' 1 0).neg).x)).cell 4 rfl, (((Bd_265.out.ne (by omega) 0 (.bool l.b)).ne (by omega) 1 (.slice l.A l.n l.c)).ne (by omega) 2 (.int .i64 (jnS (D.mk' 1 0).neg).x)).cell 5 rfl, (((Bd_265.out.ne (by omega) 0 (.bool l.b)).ne (by omega) 1 (.slice l.A l.n l.c)).ne (by omega) 2 (.int .i64 (jnS (D.mk' 1 0).neg).x)).cell 6 rfl, (((Bd_265.out.ne (by omega) 0 (.bool l.b)).ne (by omega) 1 (.slice l.A l.n l.c)).ne (by omega) 2 (.int .i64 (jnS (D.mk' 1 0).neg).x)).cell 7 rfl, (((Bd_265.out.ne (by omega) 0 (.bool l.b)).ne (by omega) 1 (.slice l.A l.n l.c)).ne (by omega) 2 (.int .i64 (jnS (D.mk' 1 0).neg).x)).cell 8 rfl, (((Bd_265.out.ne (by omega) 0 (.bool l.b)).ne (by omega) 1 (.slice l.A l.n l.c)).ne (by omega) 2 (.int .i64 (jnS (D.mk' 1 0).neg).x)).cell 9 rfl, (((Bd_265.out.ne (by omega) 0 (.bool l.b)).ne (by omega) 1 (.slice l.A l.n l.c)).ne (by omega) 2 (.int .i64 (jnS (D.mk' 1 0).neg).x)).cell 10 rfl, (((Bd_265.out.ne (by omega) 0 (.bool l.b)).ne (by omega) 1 (.slice l.A l.n l.c)).ne (by omega) 2 (.int .i64 (jnS (D.mk' 1 0).neg).x)).cell 11 rfl⟩; clear y0 y1 y2 y3 y4 y5))
      all_goals (go_wp2_with fail; go_meet; first | (have y0 := Bh_199.out.lt; have y1 := Bd_200.out.lt; have y2 := Bs_201.out.lt; have y3 := Bd2_202.out.lt; have y4 := HB_203.out.size; exact ⟨w_198.heap.size, l, rfl, rfl, (by omega), (by omega), (by omega), (Bk.new _ 53 #[.bool l.b, .slice l.A l.n l.c, .int .i64 (jnS (D.mk' 1 0).neg).x]), (Bh_199.out.alloc _), (Bd_200.out.alloc _), (Bs_201.out.alloc _), (below_al HB_203.out _), (RQ_204.out.dk ((Dk.refl _).alloc _)), (RR_207.out.dk ((Dk.refl _).alloc _)), (RL_209.out.dk ((Dk.refl _).alloc _))⟩) | (have y0 := Bh_223.out.lt; have y1 := Bd_224.out.lt; have y2 := Bs_225.out.lt; have y3 := Bl_226.out.lt; have y4 := Bd2_227.out.lt; have y5 := HB_228.out.size; exact ⟨w_160.heap.size, l, rfl, rfl, (by omega), (by omega), (by omega), (((Bl_226.out.set 0 (.bool l.b)).set 1 (.slice l.A l.n l.c)).set 2 (.int .i64 (jnS (D.mk' 1 0).neg).x)), (((Bh_223.out.ne (by omega) 0 (.bool l.b)).ne (by omega) 1 (.slice l.A l.n l.c)).ne (by omega) 2 (.int .i64 (jnS (D.mk' 1 0).neg).x)), (((Bd_224.out.ne (by omega) 0 (.bool l.b)).ne (by omega) 1 (.slice l.A l.n l.c)).ne (by omega) 2 (.int .i64 (jnS (D.mk' 1 0).neg).x)), (((Bs_225.out.ne (by omega) 0 (.bool l.b)).ne (by omega) 1 (.slice l.A l.n l.c)).ne (by omega) 2 (.int .i64 (jnS (D.mk' 1 0).neg).x)), (below_st (below_st (below_st HB_228.out 0 (by omega) (.bool l.b)) 1 (by omega) (.slice l.A l.n l.c)) 2 (by omega) (.int .i64 (jnS (D.mk' 1 0).neg).x)), (RQ_229.out.dk ((((Dk.refl _).set (cs := #[.bool false, .slice none 0 0, .int .i64 0]) Bl_226.out 0 (by intro _ hh; cases hh) (.bool l.b)).set (cs := #[.bool l.b, .slice none 0 0, .int .i64 0]) (Bl_226.out.set 0 (.bool l.b)) 1 (by intro _ hh; cases hh) (.slice l.A l.n l.c)).set (cs := #[.bool l.b, .slice l.A l.n l.c, .int .i64 0]) ((Bl_226.out.set 0 (.bool l.b)).set 1 (.slice l.A l.n l.c)) 2 (by intro _ hh; cases hh) (.int .i64 (jnS (D.mk' 1 0).neg).x))), (RR_232.out.dk ((((Dk.refl _).set (cs := #[.bool false, .slice none 0 0, .int .i64 0]) Bl_226.out 0 (by intro _ hh; cases hh) (.bool l.b)).set (cs := #[.bool l.b, .slice none 0 0, .int .i64 0]) (Bl_226.out.set 0 (.bool l.b)) 1 (by intro _ hh; cases hh) (.slice l.A l.n l.c)).set (cs := #[.bool l.b, .slice l.A l.n l.c, .int .i64 0]) ((Bl_226.out.set 0 (.bool l.b)).set 1 (.slice l.A l.n l.c)) 2 (by intro _ hh; cases hh) (.int .i64 (jnS (D.mk' 1 0).neg).x))), (RL_234.out.dk ((((Dk.refl _).set (cs := #[.bool false, .slice none 0 0, .int .i64 0]) Bl_226.out 0 (by intro _ hh; cases hh) (.bool l.b)).set (cs := #[.bool l.b, .slice none 0 0, .int .i64 0]) (Bl_226.out.set 0 (.bool l.b)) 1 (by intro _ hh; cases hh) (.slice l.A l.n l.c)).set (cs := #[.bool l.b, .slice l.A l.n l.c, .int .i64 0]) ((Bl_226.out.set 0 (.bool l.b)).set 1 (.slice l.A l.n l.c)) 2 (by intro _ hh; cases hh) (.int .i64 (jnS (D.mk' 1 0).neg).x)))⟩) | (have y0 := Bh_243.out.lt; have y1 := Bd_244.out.lt; have y2 := Bs_245.out.lt; have y3 := Bd2_246.out.lt; have y4 := Bl_247.out.lt; have y5 := HB_248.out.size; exact ⟨w_160.heap.size + 1, l, rfl, rfl, (by omega), (by omega), (by omega), (((Bl_247.out.set 0 (.bool l.b)).set 1 (.slice l.A l.n l.c)).set 2 (.int .i64 (jnS (D.mk' 1 0).neg).x)), (((Bh_243.out.ne (by omega) 0 (.bool l.b)).ne (by omega) 1 (.slice l.A l.n l.c)).ne (by omega) 2 (.int .i64 (jnS (D.mk' 1 0).neg).x)), (((Bd_244.out.ne (by omega) 0 (.bool l.b)).ne (by omega) 1 (.slice l.A l.n l.c)).ne (by omega) 2 (.int .i64 (jnS (D.mk' 1 0).neg).x)), (((Bs_245.out.ne (by omega) 0 (.bool l.b)).ne (by omega) 1 (.slice l.A l.n l.c)).ne (by omega) 2 (.int .i64 (jnS (D.mk' 1 0).neg).x)), (below_st (below_st (below_st HB_248.out 0 (by omega) (.bool l.b)) 1 (by omega) (.slice l.A l.n l.c)) 2 (by omega) (.int .i64 (jnS (D.mk' 1 0).neg).x)), (RQ_249.out.dk ((((Dk.refl _).set (cs := #[.bool false, .slice none 0 0, .int .i64 0]) Bl_247.out 0 (by intro _ hh; cases hh) (.bool l.b)).set (cs := #[.bool l.b, .slice none 0 0, .int .i64 0]) (Bl_247.out.set 0 (.bool l.b)) 1 (by intro _ hh; cases hh) (.slice l.A l.n l.c)).set (cs := #[.bool l.b, .slice l.A l.n l.c, .int .i64 0]) ((Bl_247.out.set 0 (.bool l.b)).set 1 (.slice l.A l.n l.c)) 2 (by intro _ hh; cases hh) (.int .i64 (jnS (D.mk' 1 0).neg).x))), (RR_252.out.dk ((((Dk.refl _).set (cs := #[.bool false, .slice none 0 0, .int .i64 0]) Bl_247.out 0 (by intro _ hh; cases hh) (.bool l.b)).set (cs := #[.bool l.b, .slice none 0 0, .int .i64 0]) (Bl_247.out.set 0 (.bool l.b)) 1 (by intro _ hh; cases hh) (.slice l.A l.n l.c)).set (cs := #[.bool l.b, .slice l.A l.n l.c, .int .i64 0]) ((Bl_247.out.set 0 (.bool l.b)).set 1 (.slice l.A l.n l.c)) 2 (by intro _ hh; cases hh) (.int .i64 (jnS (D.mk' 1 0).neg).x))), (RL_254.out.dk ((((Dk.refl _).set (cs := #[.bool false, .slice none 0 0, .int .i64 0]) Bl_247.out 0 (by intro _ hh; cases hh) (.bool l.b)).set (cs := #[.bool l.b, .slice none 0 0, .int .i64 0]) (Bl_247.out.set 0 (.bool l.b)) 1 (by intro _ hh; cases hh) (.slice l.A l.n l.c)).set (cs := #[.bool l.b, .slice l.A l.n l.c, .int .i64 0]) ((Bl_247.out.set 0 (.bool l.b)).set 1 (.slice l.A l.n l.c)) 2 (by intro _ hh; cases hh) (.int .i64 (jnS (D.mk' 1 0).neg).x)))⟩) | (have y0 := Bh_264.out.lt; have y1 := Bd_265.out.lt; have y2 := Bs_266.out.lt; have y3 := Bl_267.out.lt; have y4 := Bd2_268.out.lt; have y5 := HB_269.out.size; exact ⟨w11.heap.size, l, rfl, rfl, (by omega), (by omega), (by omega), (((Bl_267.out.set 0 (.bool l.b)).set 1 (.slice l.A l.n l.c)).set 2 (.int .i64 (jnS (D.mk' 1 0).neg).x)), (((Bh_264.out.ne (by omega) 0 (.bool l.b)).ne (by omega) 1 (.slice l.A l.n l.c)).ne (by omega) 2 (.int .i64 (jnS (D.mk' 1 0).neg).x)), (((Bd_265.out.ne (by omega) 0 (.bool l.b)).ne (by omega) 1 (.slice l.A l.n l.c)).ne (by omega) 2 (.int .i64 (jnS (D.mk' 1 0).neg).x)), (((Bs_266.out.ne (by omega) 0 (.bool l.b)).ne (by omega) 1 (.slice l.A l.n l.c)).ne (by omega) 2 (.int .i64 (jnS (D.mk' 1 0).neg).x)), (below_st (below_st (below_st HB_269.out 0 (by omega) (.bool l.b)) 1 (by omega) (.slice l.A l.n l.c)) 2 (by omega) (.int .i64 (jnS (D.mk' 1 0).neg).x)), (RQ_270.out.dk ((((Dk.refl _).set (cs := #[.bool false, .slice none 0 0, .int .i64 0]) Bl_267.out 0 (by intro _ hh; cases hh) (.bool l.b)).set (cs := #[.bool l.b, .slice none 0 0, .int .i64 0]) (Bl_267.out.set 0 (.bool l.b)) 1 (by intro _ hh; cases hh) (.slice l.A l.n l.c)).set (cs := #[.bool l.b, .slice l.A l.n l.c, .int .i64 0]) ((Bl_267.out.set 0 (.bool l.b)).set 1 (.slice l.A l.n l.c)) 2 (by intro _ hh; cases hh) (.int .i64 (jnS (D.mk' 1 0).neg).x))), (RR_273.out.dk ((((Dk.refl _).set (cs := #[.bool false, .slice none 0 0, .int .i64 0]) Bl_267.out 0 (by intro _ hh; cases hh) (.bool l.b)).set (cs := #[.bool l.b, .slice none 0 0, .int .i64 0]) (Bl_267.out.set 0 (.bool l.b)) 1 (by intro _ hh; cases hh) (.slice l.A l.n l.c)).set (cs := #[.bool l.b, .slice l.A l.n l.c, .int .i64 0]) ((Bl_267.out.set 0 (.bool l.b)).set 1 (.slice l.A l.n l.c)) 2 (by intro _ hh; cases hh) (.int .i64 (jnS (D.mk' 1 0).neg).x))), (RL_275.out.dk ((((Dk.refl _).set (cs := #[.bool false, .slice none 0 0, .int .i64 0]) Bl_267.out 0 (by intro _ hh; cases hh) (.bool l.b)).set (cs := #[.bool l.b, .slice none 0 0, .int .i64 0]) (Bl_267.out.set 0 (.bool l.b)) 1 (by intro _ hh; cases hh) (.slice l.A l.n l.c)).set (cs := #[.bool l.b, .slice l.A l.n l.c, .int .i64 0]) ((Bl_267.out.set 0 (.bool l.b)).set 1 (.slice l.A l.n l.c)) 2 (by intro _ hh; cases hh) (.int .i64 (jnS (D.mk' 1 0).neg).x)))⟩))
    case rest =>
      clear lh ch0 ch1 ch2 ld cd0 cd1 cd2 cd3 cd4 cd5 cd6 cd7 cd8 cd9 cd10 cd11 ls cs0 cs1 cs2
      clear Bh_147 Bd_148 Bs_149 RQ_151 RM_152 RS_153 RR_154 HB_150
      obtain ⟨w_280, rfl⟩ : ∃ x, x = wc := ⟨_, rfl⟩
      obtain ⟨g_155, l, rfl, rfl, nn0, nn1, nn2, bz, bo0, bo1, bo2, hbel, hf0, hf1, hf2⟩ := hcut
      have Bh_281 := Lib.hid bo0
      have n_282 := nn0
      have Bd_283 := Lib.hid bo1
      have n_284 := nn1
      have Bs_285 := Lib.hid bo2
      have n_286 := nn2
      have Bl_287 := Lib.hid bz
      have HB_287 := Lib.hid hbel
      have RQ_289 := Lib.hid hf0
      have RR_290 := Lib.hid hf1
      have RL_291 := Lib.hid hf2
      clear nn0 nn1 nn2 bz bo0 bo1 bo2 hbel hf0 hf1 hf2
      have lh := Bh_281.out.lt
      obtain ⟨ch0, ch1, ch2⟩ := Bh_281.out.cells3
      have ld := Bd_283.out.lt
      obtain ⟨cd0, cd1, cd2, cd3, cd4, cd5, cd6, cd7, cd8, cd9, cd10, cd11⟩ := Bd_283.out.cells12
      have ls := Bs_285.out.lt
      obtain ⟨cs0, cs1, cs2⟩ := Bs_285.out.cells3
      have ll := Bl_287.out.lt
      obtain ⟨cl0, cl1, cl2⟩ := Bl_287.out.cells3
      go_wp2_with fail
      clear lh ch0 ch1 ch2 ld cd0 cd1 cd2 cd3 cd4 cd5 cd6 cd7 cd8 cd9 cd10 cd11 ls cs0 cs1 cs2 ll cl0 cl1 cl2
      have lh := Bh_281.out.lt
      obtain ⟨ch0, ch1, ch2⟩ := Bh_281.out.cells3
      have ld := Bd_283.out.lt
      obtain ⟨cd0, cd1, cd2, cd3, cd4, cd5, cd6, cd7, cd8, cd9, cd10, cd11⟩ := Bd_283.out.cells12
      have ls := Bs_285.out.lt
      obtain ⟨cs0, cs1, cs2⟩ := Bs_285.out.cells3
      have ll := Bl_287.out.lt
      obtain ⟨cl0, cl1, cl2⟩ := Bl_287.out.cells3
      have cc0 : w_280.cell? ⟨gc, 0, none⟩ = some (.bool q.b) := (HB_287.out.cell (p := ⟨gc, 0, none⟩) hl1).trans X0.out
      have cc1 : w_280.cell? ⟨gc, 1, none⟩ = some (.slice q.A q.n q.c) := (HB_287.out.cell (p := ⟨gc, 1, none⟩) hl1).trans X1.out
      have cc2 : w_280.cell? ⟨gc, 2, none⟩ = some (.int .i64 (jnH.c 0).x) := (HB_287.out.cell (p := ⟨gc, 2, none⟩) hl1).trans X2.out
      obtain ⟨SX4, hS4⟩ : ∃ S : World → Prop, ∀ w', S w' ↔ (w'.cell? ⟨w6.heap.size, 0, none⟩ = some (.slice (some ⟨gc, 0, none⟩) 2 2) ∧ w'.cell? ⟨w6.heap.size, 1, none⟩ = some (.slice (some ⟨gg, 0, none⟩) 1 cg) ∧ w'.cell? ⟨w6.heap.size, 2, none⟩ = some (.slice (some ⟨gr, 0, none⟩) 2 2) ∧ w'.cell? ⟨w10.heap.size, 0, none⟩ = some (.bool r.b) ∧ w'.cell? ⟨w10.heap.size, 1, none⟩ = some (.slice r.A r.n r.c) ∧ w'.cell? ⟨w10.heap.size, 2, none⟩ = some (.int .i64 (jnS (D.mk' 1 0)).x) ∧ w'.cell? ⟨g_155, 0, none⟩ = some (.bool l.b) ∧ w'.cell? ⟨g_155, 1, none⟩ = some (.slice l.A l.n l.c) ∧ w'.cell? ⟨g_155, 2, none⟩ = some (.int .i64 (jnS (D.mk' 1 0).neg).x) ∧ w'.cell? ⟨gc, 0, none⟩ = some (.bool q.b) ∧ w'.cell? ⟨gc, 1, none⟩ = some (.slice q.A q.n q.c) ∧ w'.cell? ⟨gc, 2, none⟩ = some (.int .i64 (jnH.c 0).x)) := ⟨_, fun _ => Iff.rfl⟩
      have k_292 : SX4 (w_280) := (hS4 _).2 ⟨Bh_281.out.cell 0 rfl, Bh_281.out.cell 1 rfl, Bh_281.out.cell 2 rfl, Bs_285.out.cell 0 rfl, Bs_285.out.cell 1 rfl, Bs_285.out.cell 2 rfl, Bl_287.out.cell 0 rfl, Bl_287.out.cell 1 rfl, Bl_287.out.cell 2 rfl, (Below.cell (p := ⟨gc, 0, none⟩) HB_287.out hl1).trans X0.out, (Below.cell (p := ⟨gc, 1, none⟩) HB_287.out hl1).trans X1.out, (Below.cell (p := ⟨gc, 2, none⟩) HB_287.out hl1).trans X2.out⟩
      have k_293 : SX4 (w_280.drew) := (hS4 _).2 ⟨(Bh_281.out.drew).cell 0 rfl, (Bh_281.out.drew).cell 1 rfl, (Bh_281.out.drew).cell 2 rfl, (Bs_285.out.drew).cell 0 rfl, (Bs_285.out.drew).cell 1 rfl, (Bs_285.out.drew).cell 2 rfl, (Bl_287.out.drew).cell 0 rfl, (Bl_287.out.drew).cell 1 rfl, (Bl_287.out.drew).cell 2 rfl, (Below.cell (p := ⟨gc, 0, none⟩) (below_dr HB_287.out) hl1).trans X0.out, (Below.cell (p := ⟨gc, 1, none⟩) (below_dr HB_287.out) hl1).trans X1.out, (Below.cell (p := ⟨gc, 2, none⟩) (below_dr HB_287.out) hl1).trans X2.out⟩
      have tok_294 : True := trivial
      have tok_295 : True := trivial
      have tok_296 : True := trivial
      have tok_297 : True := trivial
      have tok_298 : True := trivial
      go_region_held3 (fun w' => w'.cell? ⟨w6.heap.size, 0, none⟩ = some (.slice (some ⟨gc, 0, none⟩) 2 2) ∧ w'.cell? ⟨w6.heap.size, 1, none⟩ = some (.slice (some ⟨gg, 0, none⟩) 1 cg) ∧ w'.cell? ⟨w6.heap.size, 2, none⟩ = some (.slice (some ⟨gr, 0, none⟩) 2 2) ∧ w'.cell? ⟨w10.heap.size, 0, none⟩ = some (.bool r.b) ∧ w'.cell? ⟨w10.heap.size, 1, none⟩ = some (.slice r.A r.n r.c) ∧ w'.cell? ⟨w10.heap.size, 2, none⟩ = some (.int .i64 (jnS (D.mk' 1 0)).x) ∧ w'.cell? ⟨g_155, 0, none⟩ = some (.bool l.b) ∧ w'.cell? ⟨g_155, 1, none⟩ = some (.slice l.A l.n l.c) ∧ w'.cell? ⟨g_155, 2, none⟩ = some (.int .i64 (jnS (D.mk' 1 0).neg).x) ∧ w'.cell? ⟨gc, 0, none⟩ = some (.bool q.b) ∧ w'.cell? ⟨gc, 1, none⟩ = some (.slice q.A q.n q.c) ∧ w'.cell? ⟨gc, 2, none⟩ = some (.int .i64 (jnH.c 0).x)) (first | with_reducible exact (hS4 _).1 k_292 | with_reducible exact (hS4 _).1 k_293 | with_reducible exact (hS4 _).1 k_308 | with_reducible exact (hS4 _).1 k_318 | with_reducible exact (hS4 _).1 k_328 | with_reducible exact (hS4 _).1 k_339 | with_reducible exact (hS4 _).1 k_350)
        (first
         | (clear tok_294; go_at_call 33; refine (dOf_any _ 4 0 (by omega) (by omega) (by omega) (by omega) (HT.out.below (below_dr HB_287.out))).mono ?_; rintro e w12 ⟨⟨u4, rfl, hu⟩, hb⟩; clear lh ch0 ch1 ch2 ld cd0 cd1 cd2 cd3 cd4 cd5 cd6 cd7 cd8 cd9 cd10 cd11 ls cs0 cs1 cs2 ll cl0 cl1 cl2 cc0 cc1 cc2 k_292 k_293; have K := Dk.trans ((Dk.refl _).drew) (.below hb); have Bh_299 := Lib.hid (show Bk _ _ _ #[.slice (some ⟨gc, 0, none⟩) 2 2, .slice (some ⟨gg, 0, none⟩) 1 cg, .slice (some ⟨gr, 0, none⟩) 2 2] from (Bh_281.out.drew).below hb); have Bd_300 := Lib.hid (show Bk _ _ _ #[.bool s.lo.b, .slice s.lo.A s.lo.n s.lo.c, .int .i64 (D.mk' 1 0).x, .bool s.hi.b, .slice s.hi.A s.hi.n s.hi.c, .int .i64 (D.mk' 1 0).x, .bool false, .slice none 0 0, .int .i64 0, .bool false, .slice none 0 0, .int .i64 0] from (Bd_283.out.drew).below hb); have Bs_301 := Lib.hid (show Bk _ _ _ #[.bool r.b, .slice r.A r.n r.c, .int .i64 (jnS (D.mk' 1 0)).x] from (Bs_285.out.drew).below hb); have Bl_302 := Lib.hid (show Bk _ _ _ #[.bool l.b, .slice l.A l.n l.c, .int .i64 (jnS (D.mk' 1 0).neg).x] from (Bl_287.out.drew).below hb); have HB_303 := Lib.hid (below_tr (below_dr HB_287.out) hb); clear hb; have RQ_304 := Lib.hid (RQ_289.out.dk K); have RR_305 := Lib.hid (RR_290.out.dk K); have RL_306 := Lib.hid (RL_291.out.dk K); clear K Bh_281 Bd_283 Bs_285 Bl_287 HB_287 RQ_289 RR_290 RL_291; have RU_307 := Lib.hid hu; clear hu; have lh := Bh_299.out.lt; obtain ⟨ch0, ch1, ch2⟩ := Bh_299.out.cells3; have ld := Bd_300.out.lt; obtain ⟨cd0, cd1, cd2, cd3, cd4, cd5, cd6, cd7, cd8, cd9, cd10, cd11⟩ := Bd_300.out.cells12; have ls := Bs_301.out.lt; obtain ⟨cs0, cs1, cs2⟩ := Bs_301.out.cells3; have ll := Bl_302.out.lt; obtain ⟨cl0, cl1, cl2⟩ := Bl_302.out.cells3; have cc0 : w12.cell? ⟨gc, 0, none⟩ = some (.bool q.b) := (HB_303.out.cell (p := ⟨gc, 0, none⟩) hl1).trans X0.out; have cc1 : w12.cell? ⟨gc, 1, none⟩ = some (.slice q.A q.n q.c) := (HB_303.out.cell (p := ⟨gc, 1, none⟩) hl1).trans X1.out; have cc2 : w12.cell? ⟨gc, 2, none⟩ = some (.int .i64 (jnH.c 0).x) := (HB_303.out.cell (p := ⟨gc, 2, none⟩) hl1).trans X2.out; have k_308 : SX4 (w12) := (hS4 _).2 ⟨Bh_299.out.cell 0 rfl, Bh_299.out.cell 1 rfl, Bh_299.out.cell 2 rfl, Bs_301.out.cell 0 rfl, Bs_301.out.cell 1 rfl, Bs_301.out.cell 2 rfl, Bl_302.out.cell 0 rfl, Bl_302.out.cell 1 rfl, Bl_302.out.cell 2 rfl, (Below.cell (p := ⟨gc, 0, none⟩) HB_303.out hl1).trans X0.out, (Below.cell (p := ⟨gc, 1, none⟩) HB_303.out hl1).trans X1.out, (Below.cell (p := ⟨gc, 2, none⟩) HB_303.out hl1).trans X2.out⟩)
         | (clear tok_295; go_at_call 48; refine (dcompare_is _ r u4 (jnS (D.mk' 1 0)) (D.mk' 4 0) 1 30 0 RR_305.out RU_307.out (jnS_lim one_lim) (four_lim.mono (by omega) (by omega)) (by omega) jn_s).mono ?_; rintro e w13 ⟨rfl, hb⟩; clear lh ch0 ch1 ch2 ld cd0 cd1 cd2 cd3 cd4 cd5 cd6 cd7 cd8 cd9 cd10 cd11 ls cs0 cs1 cs2 ll cl0 cl1 cl2 cc0 cc1 cc2 k_308; have K := Dk.below hb; have Bh_309 := Lib.hid (show Bk _ _ _ #[.slice (some ⟨gc, 0, none⟩) 2 2, .slice (some ⟨gg, 0, none⟩) 1 cg, .slice (some ⟨gr, 0, none⟩) 2 2] from Bh_299.out.below hb); have Bd_310 := Lib.hid (show Bk _ _ _ #[.bool s.lo.b, .slice s.lo.A s.lo.n s.lo.c, .int .i64 (D.mk' 1 0).x, .bool s.hi.b, .slice s.hi.A s.hi.n s.hi.c, .int .i64 (D.mk' 1 0).x, .bool false, .slice none 0 0, .int .i64 0, .bool false, .slice none 0 0, .int .i64 0] from Bd_300.out.below hb); have Bs_311 := Lib.hid (show Bk _ _ _ #[.bool r.b, .slice r.A r.n r.c, .int .i64 (jnS (D.mk' 1 0)).x] from Bs_301.out.below hb); have Bl_312 := Lib.hid (show Bk _ _ _ #[.bool l.b, .slice l.A l.n l.c, .int .i64 (jnS (D.mk' 1 0).neg).x] from Bl_302.out.below hb); have HB_313 := Lib.hid (below_tr HB_303.out hb); clear hb; have RQ_314 := Lib.hid (RQ_304.out.dk K); have RR_315 := Lib.hid (RR_305.out.dk K); have RL_316 := Lib.hid (RL_306.out.dk K); have RU_317 := Lib.hid (RU_307.out.dk K); clear K Bh_299 Bd_300 Bs_301 Bl_302 HB_303 RQ_304 RR_305 RL_306 RU_307; have lh := Bh_309.out.lt; obtain ⟨ch0, ch1, ch2⟩ := Bh_309.out.cells3; have ld := Bd_310.out.lt; obtain ⟨cd0, cd1, cd2, cd3, cd4, cd5, cd6, cd7, cd8, cd9, cd10, cd11⟩ := Bd_310.out.cells12; have ls := Bs_311.out.lt; obtain ⟨cs0, cs1, cs2⟩ := Bs_311.out.cells3; have ll := Bl_312.out.lt; obtain ⟨cl0, cl1, cl2⟩ := Bl_312.out.cells3; have cc0 : w13.cell? ⟨gc, 0, none⟩ = some (.bool q.b) := (HB_313.out.cell (p := ⟨gc, 0, none⟩) hl1).trans X0.out; have cc1 : w13.cell? ⟨gc, 1, none⟩ = some (.slice q.A q.n q.c) := (HB_313.out.cell (p := ⟨gc, 1, none⟩) hl1).trans X1.out; have cc2 : w13.cell? ⟨gc, 2, none⟩ = some (.int .i64 (jnH.c 0).x) := (HB_313.out.cell (p := ⟨gc, 2, none⟩) hl1).trans X2.out; have k_318 : SX4 (w13) := (hS4 _).2 ⟨Bh_309.out.cell 0 rfl, Bh_309.out.cell 1 rfl, Bh_309.out.cell 2 rfl, Bs_311.out.cell 0 rfl, Bs_311.out.cell 1 rfl, Bs_311.out.cell 2 rfl, Bl_312.out.cell 0 rfl, Bl_312.out.cell 1 rfl, Bl_312.out.cell 2 rfl, (Below.cell (p := ⟨gc, 0, none⟩) HB_313.out hl1).trans X0.out, (Below.cell (p := ⟨gc, 1, none⟩) HB_313.out hl1).trans X1.out, (Below.cell (p := ⟨gc, 2, none⟩) HB_313.out hl1).trans X2.out⟩)
         | (clear tok_296; go_at_call 34; refine (dsign_zero _ l (jnS (D.mk' 1 0).neg) RL_316.out jn_l).mono ?_; rintro e w14 ⟨rfl, hb⟩; clear lh ch0 ch1 ch2 ld cd0 cd1 cd2 cd3 cd4 cd5 cd6 cd7 cd8 cd9 cd10 cd11 ls cs0 cs1 cs2 ll cl0 cl1 cl2 cc0 cc1 cc2 k_318; have K := Dk.below hb; have Bh_319 := Lib.hid (show Bk _ _ _ #[.slice (some ⟨gc, 0, none⟩) 2 2, .slice (some ⟨gg, 0, none⟩) 1 cg, .slice (some ⟨gr, 0, none⟩) 2 2] from Bh_309.out.below hb); have Bd_320 := Lib.hid (show Bk _ _ _ #[.bool s.lo.b, .slice s.lo.A s.lo.n s.lo.c, .int .i64 (D.mk' 1 0).x, .bool s.hi.b, .slice s.hi.A s.hi.n s.hi.c, .int .i64 (D.mk' 1 0).x, .bool false, .slice none 0 0, .int .i64 0, .bool false, .slice none 0 0, .int .i64 0] from Bd_310.out.below hb); have Bs_321 := Lib.hid (show Bk _ _ _ #[.bool r.b, .slice r.A r.n r.c, .int .i64 (jnS (D.mk' 1 0)).x] from Bs_311.out.below hb); have Bl_322 := Lib.hid (show Bk _ _ _ #[.bool l.b, .slice l.A l.n l.c, .int .i64 (jnS (D.mk' 1 0).neg).x] from Bl_312.out.below hb); have HB_323 := Lib.hid (below_tr HB_313.out hb); clear hb; have RQ_324 := Lib.hid (RQ_314.out.dk K); have RR_325 := Lib.hid (RR_315.out.dk K); have RL_326 := Lib.hid (RL_316.out.dk K); have RU_327 := Lib.hid (RU_317.out.dk K); clear K Bh_309 Bd_310 Bs_311 Bl_312 HB_313 RQ_314 RR_315 RL_316 RU_317; have lh := Bh_319.out.lt; obtain ⟨ch0, ch1, ch2⟩ := Bh_319.out.cells3; have ld := Bd_320.out.lt; obtain ⟨cd0, cd1, cd2, cd3, cd4, cd5, cd6, cd7, cd8, cd9, cd10, cd11⟩ := Bd_320.out.cells12; have ls := Bs_321.out.lt; obtain ⟨cs0, cs1, cs2⟩ := Bs_321.out.cells3; have ll := Bl_322.out.lt; obtain ⟨cl0, cl1, cl2⟩ := Bl_322.out.cells3; have cc0 : w14.cell? ⟨gc, 0, none⟩ = some (.bool q.b) := (HB_323.out.cell (p := ⟨gc, 0, none⟩) hl1).trans X0.out; have cc1 : w14.cell? ⟨gc, 1, none⟩ = some (.slice q.A q.n q.c) := (HB_323.out.cell (p := ⟨gc, 1, none⟩) hl1).trans X1.out; have cc2 : w14.cell? ⟨gc, 2, none⟩ = some (.int .i64 (jnH.c 0).x) := (HB_323.out.cell (p := ⟨gc, 2, none⟩) hl1).trans X2.out; have k_328 : SX4 (w14) := (hS4 _).2 ⟨Bh_319.out.cell 0 rfl, Bh_319.out.cell 1 rfl, Bh_319.out.cell 2 rfl, Bs_321.out.cell 0 rfl, Bs_321.out.cell 1 rfl, Bs_321.out.cell 2 rfl, Bl_322.out.cell 0 rfl, Bl_322.out.cell 1 rfl, Bl_322.out.cell 2 rfl, (Below.cell (p := ⟨gc, 0, none⟩) HB_323.out hl1).trans X0.out, (Below.cell (p := ⟨gc, 1, none⟩) HB_323.out hl1).trans X1.out, (Below.cell (p := ⟨gc, 2, none⟩) HB_323.out hl1).trans X2.out⟩)
         | (clear tok_297; go_at_call 33; refine (dOf_any _ 2 0 (by omega) (by omega) (by omega) (by omega) (HT.out.below HB_323.out)).mono ?_; rintro e w15 ⟨⟨u2, rfl, hu⟩, hb⟩; clear lh ch0 ch1 ch2 ld cd0 cd1 cd2 cd3 cd4 cd5 cd6 cd7 cd8 cd9 cd10 cd11 ls cs0 cs1 cs2 ll cl0 cl1 cl2 cc0 cc1 cc2 k_328; have K := Dk.below hb; have Bh_329 := Lib.hid (show Bk _ _ _ #[.slice (some ⟨gc, 0, none⟩) 2 2, .slice (some ⟨gg, 0, none⟩) 1 cg, .slice (some ⟨gr, 0, none⟩) 2 2] from Bh_319.out.below hb); have Bd_330 := Lib.hid (show Bk _ _ _ #[.bool s.lo.b, .slice s.lo.A s.lo.n s.lo.c, .int .i64 (D.mk' 1 0).x, .bool s.hi.b, .slice s.hi.A s.hi.n s.hi.c, .int .i64 (D.mk' 1 0).x, .bool false, .slice none 0 0, .int .i64 0, .bool false, .slice none 0 0, .int .i64 0] from Bd_320.out.below hb); have Bs_331 := Lib.hid (show Bk _ _ _ #[.bool r.b, .slice r.A r.n r.c, .int .i64 (jnS (D.mk' 1 0)).x] from Bs_321.out.below hb); have Bl_332 := Lib.hid (show Bk _ _ _ #[.bool l.b, .slice l.A l.n l.c, .int .i64 (jnS (D.mk' 1 0).neg).x] from Bl_322.out.below hb); have HB_333 := Lib.hid (below_tr HB_323.out hb); clear hb; have RQ_334 := Lib.hid (RQ_324.out.dk K); have RR_335 := Lib.hid (RR_325.out.dk K); have RL_336 := Lib.hid (RL_326.out.dk K); have RU_337 := Lib.hid (RU_327.out.dk K); clear K Bh_319 Bd_320 Bs_321 Bl_322 HB_323 RQ_324 RR_325 RL_326 RU_327; have RV_338 := Lib.hid hu; clear hu; have lh := Bh_329.out.lt; obtain ⟨ch0, ch1, ch2⟩ := Bh_329.out.cells3; have ld := Bd_330.out.lt; obtain ⟨cd0, cd1, cd2, cd3, cd4, cd5, cd6, cd7, cd8, cd9, cd10, cd11⟩ := Bd_330.out.cells12; have ls := Bs_331.out.lt; obtain ⟨cs0, cs1, cs2⟩ := Bs_331.out.cells3; have ll := Bl_332.out.lt; obtain ⟨cl0, cl1, cl2⟩ := Bl_332.out.cells3; have cc0 : w15.cell? ⟨gc, 0, none⟩ = some (.bool q.b) := (HB_333.out.cell (p := ⟨gc, 0, none⟩) hl1).trans X0.out; have cc1 : w15.cell? ⟨gc, 1, none⟩ = some (.slice q.A q.n q.c) := (HB_333.out.cell (p := ⟨gc, 1, none⟩) hl1).trans X1.out; have cc2 : w15.cell? ⟨gc, 2, none⟩ = some (.int .i64 (jnH.c 0).x) := (HB_333.out.cell (p := ⟨gc, 2, none⟩) hl1).trans X2.out; have k_339 : SX4 (w15) := (hS4 _).2 ⟨Bh_329.out.cell 0 rfl, Bh_329.out.cell 1 rfl, Bh_329.out.cell 2 rfl, Bs_331.out.cell 0 rfl, Bs_331.out.cell 1 rfl, Bs_331.out.cell 2 rfl, Bl_332.out.cell 0 rfl, Bl_332.out.cell 1 rfl, Bl_332.out.cell 2 rfl, (Below.cell (p := ⟨gc, 0, none⟩) HB_333.out hl1).trans X0.out, (Below.cell (p := ⟨gc, 1, none⟩) HB_333.out hl1).trans X1.out, (Below.cell (p := ⟨gc, 2, none⟩) HB_333.out hl1).trans X2.out⟩)
         | (clear tok_298; go_at_call 48; refine (dcompare_is _ q u2 (jnH.c 0) (D.mk' 2 0) 1 10 0 RQ_334.out RV_338.out (jnH_lim.c 0 (by show 0 < 2; omega)) (two_lim.mono (by omega) (by omega)) (by omega) jn_c).mono ?_; rintro e w16 ⟨rfl, hb⟩; clear lh ch0 ch1 ch2 ld cd0 cd1 cd2 cd3 cd4 cd5 cd6 cd7 cd8 cd9 cd10 cd11 ls cs0 cs1 cs2 ll cl0 cl1 cl2 cc0 cc1 cc2 k_339; have K := Dk.below hb; have Bh_340 := Lib.hid (show Bk _ _ _ #[.slice (some ⟨gc, 0, none⟩) 2 2, .slice (some ⟨gg, 0, none⟩) 1 cg, .slice (some ⟨gr, 0, none⟩) 2 2] from Bh_329.out.below hb); have Bd_341 := Lib.hid (show Bk _ _ _ #[.bool s.lo.b, .slice s.lo.A s.lo.n s.lo.c, .int .i64 (D.mk' 1 0).x, .bool s.hi.b, .slice s.hi.A s.hi.n s.hi.c, .int .i64 (D.mk' 1 0).x, .bool false, .slice none 0 0, .int .i64 0, .bool false, .slice none 0 0, .int .i64 0] from Bd_330.out.below hb); have Bs_342 := Lib.hid (show Bk _ _ _ #[.bool r.b, .slice r.A r.n r.c, .int .i64 (jnS (D.mk' 1 0)).x] from Bs_331.out.below hb); have Bl_343 := Lib.hid (show Bk _ _ _ #[.bool l.b, .slice l.A l.n l.c, .int .i64 (jnS (D.mk' 1 0).neg).x] from Bl_332.out.below hb); have HB_344 := Lib.hid (below_tr HB_333.out hb); clear hb; have RQ_345 := Lib.hid (RQ_334.out.dk K); have RR_346 := Lib.hid (RR_335.out.dk K); have RL_347 := Lib.hid (RL_336.out.dk K); have RU_348 := Lib.hid (RU_337.out.dk K); have RV_349 := Lib.hid (RV_338.out.dk K); clear K Bh_329 Bd_330 Bs_331 Bl_332 HB_333 RQ_334 RR_335 RL_336 RU_337 RV_338; have lh := Bh_340.out.lt; obtain ⟨ch0, ch1, ch2⟩ := Bh_340.out.cells3; have ld := Bd_341.out.lt; obtain ⟨cd0, cd1, cd2, cd3, cd4, cd5, cd6, cd7, cd8, cd9, cd10, cd11⟩ := Bd_341.out.cells12; have ls := Bs_342.out.lt; obtain ⟨cs0, cs1, cs2⟩ := Bs_342.out.cells3; have ll := Bl_343.out.lt; obtain ⟨cl0, cl1, cl2⟩ := Bl_343.out.cells3; have cc0 : w16.cell? ⟨gc, 0, none⟩ = some (.bool q.b) := (HB_344.out.cell (p := ⟨gc, 0, none⟩) hl1).trans X0.out; have cc1 : w16.cell? ⟨gc, 1, none⟩ = some (.slice q.A q.n q.c) := (HB_344.out.cell (p := ⟨gc, 1, none⟩) hl1).trans X1.out; have cc2 : w16.cell? ⟨gc, 2, none⟩ = some (.int .i64 (jnH.c 0).x) := (HB_344.out.cell (p := ⟨gc, 2, none⟩) hl1).trans X2.out; have k_350 : SX4 (w16) := (hS4 _).2 ⟨Bh_340.out.cell 0 rfl, Bh_340.out.cell 1 rfl, Bh_340.out.cell 2 rfl, Bs_342.out.cell 0 rfl, Bs_342.out.cell 1 rfl, Bs_342.out.cell 2 rfl, Bl_343.out.cell 0 rfl, Bl_343.out.cell 1 rfl, Bl_343.out.cell 2 rfl, (Below.cell (p := ⟨gc, 0, none⟩) HB_344.out hl1).trans X0.out, (Below.cell (p := ⟨gc, 1, none⟩) HB_344.out hl1).trans X1.out, (Below.cell (p := ⟨gc, 2, none⟩) HB_344.out hl1).trans X2.out⟩))
      go_wp2
      refine bodyPost_ret (v := .bool true) ?_ rfl ?_
      · simp [results, Tryd.f23, go_sem]
      · exact ⟨rfl, below_tr BASE_42.out HB_344.out⟩

end Go.Proofs.YtgioppkggpfnoaaDoor.Nu
end

section
/- Layer 18's small: whatever it says yes to may be, and is of few digits. -/
set_option linter.unusedVariables false
namespace Go.Proofs.YtgioppkggpfnoaaDoor.Nu
open Go.RowKit Go.Proofs

/-- A row of numbers that may be, each of a size with which this is tried. -/
def SmRow (w : World) (A : Option Addr) (n c : Nat) : Prop := ∃ f : Nat → D, RDs w A n c f ∧ ∀ j, j < n → OkD (f j) ∧ (f j).Lim 60 124
def SmRel (w : World) (A : Option Addr) (i : Nat) (wi : World) : Prop := Below w.heap.size w wi ∧ ∀ j, j < i → ∃ b off d, A = some ⟨b, off, none⟩ ∧ b < w.heap.size ∧ Elt w b off j d ∧ OkD d ∧ d.Lim 60 124
theorem SmRel.row {w wi : World} {A : Option Addr} {n c : Nat} (h : SmRel w A n wi) (hc : n ≤ c) (hn : n ≤ 1000000) : SmRow w A n c := by
  by_cases h0 : n = 0
  · subst h0
    exact ⟨fun _ => D.zero, ⟨Nat.zero_le _, Nat.zero_le _, fun e => absurd e (by omega)⟩, fun j hj => absurd hj (by omega)⟩
  · obtain ⟨b, off, d0, rfl, hb, _⟩ := h.2 0 (by omega)
    have h2 : ∀ j, ∃ d, j < n → Elt w b off j d ∧ OkD d ∧ d.Lim 60 124 := fun j => by
      by_cases hj : j < n
      · obtain ⟨b', off', d, e, _, he, ho, hl⟩ := h.2 j hj
        injection e with e
        injection e with e1 e2
        subst e1 e2
        exact ⟨d, fun _ => ⟨he, ho, hl⟩⟩
      · exact ⟨D.zero, fun e => absurd e hj⟩
    refine ⟨fun j => Classical.choose (h2 j), ⟨hc, hn, fun _ => ⟨b, off, rfl, hb, fun j hj => ?_⟩⟩, fun j hj => ⟨(Classical.choose_spec (h2 j) hj).2.1, (Classical.choose_spec (h2 j) hj).2.2⟩⟩
    obtain ⟨⟨q, ⟨c0, c1, c2⟩, hr⟩, _⟩ := Classical.choose_spec (h2 j) hj
    exact ⟨q, c0, c1, c2, hr⟩
theorem RDs.uniq {w : World} {A : Option Addr} {n c c' : Nat} {f f' : Nat → D} (h : RDs w A n c f) (h' : RDs w A n c' f') {j : Nat} (hj : j < n) : f j = f' j := by
  obtain ⟨b, off, rfl, _⟩ := h.2.2 (by omega)
  exact (h.elt hj).uniq (h'.elt hj)
/-- Two digits at most, and so high at most. -/
theorem sm_lim {w : World} {q : Q} {d : D} (h : RD w q d) (hn : q.n ≤ 2) (h0 : -60 ≤ d.x) (h1 : d.x ≤ 60) : d.Lim 60 124 := by
  have h2 := (digs_len_le (n := d.z.natAbs) (k := q.n)).1 (Nat.le_of_eq h.1.2.2.1)
  have h3 : d.z.natAbs < 2 ^ 64 := Nat.lt_of_lt_of_le h2 (by
    rw [show (4294967296 : Nat) = 2 ^ 32 from rfl, ← Nat.pow_mul]
    exact Nat.pow_le_pow_right (by omega) (by omega))
  have h4 := nb_le.2 h3
  exact ⟨by omega, by omega⟩
theorem sm_of_check {w w0 : World} {b off j : Nat} {q : Q} {xs : List Nat} {x : Int} (a : At3 w b off j q x) (hl2 : RL2 w q.A q.n xs) (h2 : q.n ≤ 2) (hr : RI w0 q.b q.A q.n q.c (zv q.b xs)) (hcan : D.Can ⟨zv q.b xs, x⟩) (h0 : -60 ≤ x) (h1 : x ≤ 60) : ∃ d, Elt w b off j d ∧ OkD d ∧ d.Lim 60 124 := by
  have hl := hl2.2 (by omega)
  have hri := hr.back hl
  have hrd : RD w q ⟨zv q.b xs, x⟩ := ⟨hri, hcan⟩
  have hlim := sm_lim hrd h2 h0 h1
  exact ⟨⟨zv q.b xs, x⟩, ⟨q, a, hrd⟩, lim_ok hlim (by omega), hlim⟩

set_option maxRecDepth 100000 in
set_option maxHeartbeats 4000000 in
theorem small_any (w : World) (A : Option Addr) (n c : Nat) (h : RawD w A n c) (hn : n ≤ 1000000) :
    Calls Tryd.prog 25 #[.slice A n c] w fun e w' => (e = .returned (.bool false) ∨ e = .returned (.bool true) ∧ SmRow w A n c) ∧ Below w.heap.size w w' := by
  have HA := Lib.hid h
  clear h
  have hc := HA.out.1
  go_enter Tryd.func25, Tryd.ntmps25
  go_wp2_with fail
  have H0 := Lib.hid (show SmRel w A 0 w from ⟨Below.refl _ _, fun j hj => absurd hj (by omega)⟩)
  go_loopw [7] (fun k wr => ∃ i : Nat, k = .int .i64 i ∧ i ≤ n ∧ Hid (SmRel w A i wr)) (fun k _ => n - (intOf k).toNat)
  case atStart => exact ⟨0, rfl, Nat.zero_le _, H0⟩
  case round =>
    clear H0
    obtain ⟨j, rfl, hj, Hi⟩ := hrel
    by_cases hj2 : j < n
    · obtain ⟨b1, o1, rfl, hl1, hcc⟩ := HA.out.2.2 (by omega)
      obtain ⟨q, xs, x, hat, hrl, hqc⟩ := hcc j hj2
      obtain ⟨hbi, hels⟩ := Hi.out
      have HBI := Lib.hid hbi
      have x1 := (HBI.out.cell (p := ⟨b1, _, none⟩) hl1).trans hat.1
      have x2 := (HBI.out.cell (p := ⟨b1, _, none⟩) hl1).trans hat.2.1
      have x3 := (HBI.out.cell (p := ⟨b1, _, none⟩) hl1).trans hat.2.2
      have HAT := Lib.hid hat
      have HRL := Lib.hid hrl
      have HQC := Lib.hid hqc
      have HELS := Lib.hid hels
      clear hat hrl hqc hbi hels hcc Hi
      have q8 : (j : Int) < (n : Int) := by omega
      have F := Lib.hid (below_al HBI.out (.cells #[.bool q.b, .slice q.A q.n q.c, .int .i64 x] 53))
      by_cases h2 : q.n ≤ 2
      · have q9 : ¬ (2 : Int) < (q.n : Int) := by omega
        by_cases hx : x ≤ 60
        · have q10 : ¬ (60 : Int) < x := by omega
          by_cases hx' : -60 ≤ x
          · have q11 : ¬ x < -60 := by omega
            go_wp2_with fail
            refine (dcheck_raw _ q.b q.A q.n q.c xs x (HRL.out.below F.out) HQC.out).mono ?_
            rintro e w5 ⟨⟨r, rfl, hr⟩, hb⟩
            have HR5 := Lib.hid hr
            have HB5 := Lib.hid (below_tr F.out hb)
            clear hb x1 x2 x3 hr
            by_cases hr0 : r = 0
            · subst hr0
              have hq := HR5.out.1 rfl
              have HE := Lib.hid (sm_of_check HAT.out HRL.out h2 hq.2.1 hq.2.2.1 hx' hx)
              clear hq
              go_wp2
              go_roundw
              case rel =>
                refine ⟨j + 1, by go_num, hj2, Lib.hid ⟨HB5.out, fun j' hj' => ?_⟩⟩
                by_cases e : j' = j
                · subst e
                  obtain ⟨d, h1, h2⟩ := HE.out
                  exact ⟨b1, o1, d, rfl, hl1, h1, h2⟩
                · exact HELS.out j' (by omega)
              case measure => simp only [intOf]; omega
            · have q12 : ((r : Int) == 0) = false := by rw [beq_eq_false_iff_ne]; exact hr0
              have q13 : ((r : Int) != 0) = true := by rw [bne, q12]; rfl
              clear hr0
              go_wp2
              go_ret
              exact ⟨.inl rfl, HB5.out⟩
          · have q11 : x < -60 := by omega
            go_wp2
            go_ret
            exact ⟨.inl rfl, F.out⟩
        · have q10 : (60 : Int) < x := by omega
          go_wp2
          go_ret
          exact ⟨.inl rfl, F.out⟩
      · have q9 : (2 : Int) < (q.n : Int) := by omega
        go_wp2
        go_ret
        exact ⟨.inl rfl, F.out⟩
    · obtain rfl : j = n := by omega
      have HRO := Lib.hid (SmRel.row Hi.out hc hn)
      have HBI := Lib.hid Hi.out.1
      clear Hi hj2
      go_wp2
      go_ret
      exact ⟨.inr ⟨rfl, HRO.out⟩, HBI.out⟩
end Go.Proofs.YtgioppkggpfnoaaDoor.Nu
end

section
/- Layer 18's fit: whatever set it says yes to may be, is of few places and ways, and of numbers of few digits. -/
set_option linter.unusedVariables false
namespace Go.Proofs.YtgioppkggpfnoaaDoor.Nu
open Go.RowKit Go.Proofs

theorem RawD.below {w w' : World} {A : Option Addr} {n c : Nat} (h : RawD w A n c) (hb : Below w.heap.size w w') : RawD w' A n c := by
  refine ⟨h.1, h.2.1, fun h0 => ?_⟩
  obtain ⟨b, off, e, hlt, hc⟩ := h.2.2 h0
  refine ⟨b, off, e, Nat.lt_of_lt_of_le hlt hb.size, fun j hj => ?_⟩
  obtain ⟨q, xs, x, ⟨c0, c1, c2⟩, hr, hq⟩ := hc j hj
  exact ⟨q, xs, x, ⟨(hb.cell (p := ⟨b, _, none⟩) hlt).trans c0, (hb.cell (p := ⟨b, _, none⟩) hlt).trans c1, (hb.cell (p := ⟨b, _, none⟩) hlt).trans c2⟩, hr.below hb, hq⟩
theorem RawR.below {w w' : World} {A : Option Addr} {m c : Nat} (h : RawR w A m c) (hb : Below w.heap.size w w') : RawR w' A m c := by
  refine ⟨h.1, h.2.1, fun h0 => ?_⟩
  obtain ⟨b, off, e, hlt, hc⟩ := h.2.2 h0
  refine ⟨b, off, e, Nat.lt_of_lt_of_le hlt hb.size, fun k hk => ?_⟩
  obtain ⟨A', n', c', e1, hr⟩ := hc k hk
  exact ⟨A', n', c', (hb.cell (p := ⟨b, _, none⟩) hlt).trans e1, hr.below hb⟩
theorem SmRow.below {w w' : World} {A : Option Addr} {n c : Nat} (h : SmRow w A n c) (hb : Below w.heap.size w w') : SmRow w' A n c := by
  obtain ⟨f, hf, h2⟩ := h
  exact ⟨f, hf.below hb, h2⟩
/-- What is said yes to. -/
def Fits (w : World) (Ac Ag Ar : Option Addr) (nc cc m cg nr cr n : Nat) : Prop :=
  ∃ z : Zo, nc = z.n ∧ nr = z.n ∧ n = z.n ∧ m = z.m ∧ RZo w ⟨Ac, cc, Ag, cg, Ar, cr⟩ z ∧ z.Ok ∧ z.Lim 60 124 ∧ 1 ≤ n ∧ n ≤ 4 ∧ m ≤ 5
theorem Fits.below {w w' : World} {Ac Ag Ar : Option Addr} {nc cc m cg nr cr n : Nat} (h : Fits w Ac Ag Ar nc cc m cg nr cr n) (hb : Below w.heap.size w w') : Fits w' Ac Ag Ar nc cc m cg nr cr n := by
  obtain ⟨z, h1, h2, h3, h4, h5, h6⟩ := h
  exact ⟨z, h1, h2, h3, h4, h5.below hb, h6⟩
/-- The state ahead of row k. -/
def FitRel (Ac Ag Ar : Option Addr) (nc cc m cg nr cr : Nat) (w w2 : World) (k : Nat) (wr : World) : Prop :=
  Below w2.heap.size w2 wr ∧ ∀ k', k' < k → ∀ A' n' c', Rk w Ac Ag Ar nc cc m cg nr cr k' A' n' c' → SmRow wr A' n' c'
theorem sm_uniq {w : World} {A : Option Addr} {n c c' : Nat} {f : Nat → D} (h : SmRow w A n c) (h' : RDs w A n c' f) (j : Nat) (hj : j < n) : (f j).Lim 60 124 := by
  obtain ⟨f', hf, h2⟩ := h
  rw [← hf.uniq h' hj]
  exact (h2 j hj).2
theorem fits_of {w w0 wr : World} {Ac Ag Ar : Option Addr} {nc cc m cg nr cr n : Nat} (hw : Below w.heap.size w wr) (h0 : Below w0.heap.size w0 wr) (hG : RawR w Ag m cg) (hG0 : RawR w0 Ag m cg) (hz : ZOK Ac Ag Ar nc cc m cg nr cr w0 n)
    (hs : ∀ k', k' < 2 + m → ∀ A' n' c', Rk w Ac Ag Ar nc cc m cg nr cr k' A' n' c' → SmRow wr A' n' c') (h1 : 1 ≤ n) (h4 : n ≤ 4) (h5 : m ≤ 5) : Fits wr Ac Ag Ar nc cc m cg nr cr n := by
  obtain ⟨z, e1, e2, e3, e4, hr, ho⟩ := set_of_zok hz hG0
  have hrr := hr.below h0
  refine ⟨z, e1, e2, e3, e4, hrr, ho, ⟨fun i hi => ?_, fun k i hk hi => ?_, fun i hi => ?_⟩, h1, h4, h5⟩
  · exact sm_uniq (hs 0 (by omega) Ac nc cc (.inl ⟨rfl, rfl, rfl, rfl⟩)) (by rw [e1]; exact hrr.c) i (by omega)
  · obtain ⟨b, off, rfl, hb, hc⟩ := hG.2.2 (by omega)
    obtain ⟨A', n', c', h2, _⟩ := hc k (by omega)
    have hg : RDss wr (some ⟨b, off, none⟩) z.m cg z.n z.g := hrr.g
    obtain ⟨b', off', e, _, hcc⟩ := hg.2.2 (by omega)
    injection e with e
    injection e with e5 e6
    subst e5 e6
    obtain ⟨A2, c2, h3, hrow⟩ := hcc k hk
    rw [(hw.cell (p := ⟨b, _, none⟩) hb).trans h2] at h3
    injection h3 with h3
    injection h3 with e7 e8 e9
    subst e7 e9
    rw [← e8] at hrow
    exact sm_uniq (hs (k + 2) (by omega) A' n' c' (.inr (.inr ⟨by omega, b, off, rfl, by rw [Nat.add_sub_cancel]; exact h2⟩))) hrow i (by omega)
  · exact sm_uniq (hs 1 (by omega) Ar nr cr (.inr (.inl ⟨rfl, rfl, rfl, rfl⟩))) (by rw [e2]; exact hrr.r) i (by omega)
theorem zok_len {w : World} {Ac Ag Ar : Option Addr} {nc cc m cg nr cr n k : Nat} {A' : Option Addr} {n' c' : Nat} {w0 : World} (hw : Below w.heap.size w w0) (hz : ZOK Ac Ag Ar nc cc m cg nr cr w0 n) (hG : RawR w Ag m cg) (hk : k < 2 + m) (h : Rk w Ac Ag Ar nc cc m cg nr cr k A' n' c') : n' ≤ 1000000 := by
  have h16 := hz.2.2.1
  have key : n' = n := by
    rcases h with ⟨e, rfl, rfl, rfl⟩ | ⟨e, rfl, rfl, rfl⟩ | ⟨e, b, off, hA, hc⟩
    · exact hz.1
    · exact hz.2.1
    · obtain ⟨b', off', e', hb, _⟩ := hG.2.2 (by omega)
      rw [hA] at e'
      injection e' with e'
      injection e' with e1 e2
      subst e1 e2
      exact (hz.2.2.2.2.1 k A' n' c' hk (.inr (.inr ⟨e, b, off, hA, (hw.cell (p := ⟨b, _, none⟩) hb).trans hc⟩))).1
  omega

set_option maxRecDepth 100000 in
set_option maxHeartbeats 4000000 in
theorem fit_any (w : World) (Ac Ag Ar : Option Addr) (nc cc m cg nr cr n : Nat) (hC : RawD w Ac nc cc) (hG : RawR w Ag m cg) (hR : RawD w Ar nr cr) (hnil : Ag = none → cg = 0) (hn : n ≤ 9223372036854775807) :
    Calls Tryd.prog 24 #[.agg #[.slice Ac nc cc, .slice Ag m cg, .slice Ar nr cr], .int .i64 n] w fun e w' => (e = .returned (.bool false) ∨ e = .returned (.bool true) ∧ Fits w' Ac Ag Ar nc cc m cg nr cr n) ∧ Below w.heap.size w w' := by
  have HC := Lib.hid hC
  have HG := Lib.hid hG
  have HR := Lib.hid hR
  have HNL := Lib.hid hnil
  have hm2 := hG.2.1
  clear hC hG hR hnil
  have hnc := HC.out.2.1
  have hnr := HR.out.2.1
  have BX := Lib.hid (boxes1 w 42 #[.slice Ac nc cc, .slice Ag m cg, .slice Ar nr cr])
  by_cases h1 : n < 1
  · have q0 : (n : Int) < 1 := by omega
    clear h1
    go_enter Tryd.func24, Tryd.ntmps24
    go_wp2
    go_ret
    exact ⟨.inl rfl, BX.out.2⟩
  have q0 : ¬ (n : Int) < 1 := by omega
  by_cases h4 : 4 < n
  · have q1 : (4 : Int) < (n : Int) := by omega
    clear h1
    go_enter Tryd.func24, Tryd.ntmps24
    go_wp2
    go_ret
    exact ⟨.inl rfl, BX.out.2⟩
  have q1 : ¬ (4 : Int) < (n : Int) := by omega
  by_cases h5 : 5 < m
  · have q2 : (5 : Int) < (m : Int) := by omega
    clear h1 h4
    go_enter Tryd.func24, Tryd.ntmps24
    go_wp2
    go_ret
    exact ⟨.inl rfl, BX.out.2⟩
  have q2 : ¬ (5 : Int) < (m : Int) := by omega
  have k1 : 1 ≤ n := by omega
  have k4 : n ≤ 4 := by omega
  have k5 : m ≤ 5 := by omega
  clear h1 h4 h5
  go_enter Tryd.func24, Tryd.ntmps24
  go_wp2_with fail
  generalize w.alloc (.cells #[.slice Ac nc cc, .slice Ag m cg, .slice Ar nr cr] 42) = w0 at *
  obtain ⟨b0, hw⟩ := BX.out
  have BZ := Lib.hid b0
  have HW := Lib.hid hw
  clear b0 hw BX
  refine (zcheck_any _ Ac Ag Ar nc cc m cg nr cr n (HC.out.below HW.out) (HG.out.below HW.out) (HR.out.below HW.out) HNL.out hn).mono ?_
  rintro e w1 ⟨⟨r, rfl, hr⟩, hb⟩
  have HB := Lib.hid (below_tr HW.out hb)
  have H01 := Lib.hid hb
  have BY := Lib.hid (BZ.out.below hb)
  have HRR := Lib.hid hr
  clear hb hr BZ
  by_cases hr0 : r = 0
  rotate_left
  · have q12 : ((r : Int) == 0) = false := by rw [beq_eq_false_iff_ne]; exact hr0
    have q13 : ((r : Int) != 0) = true := by rw [bne, q12]; rfl
    clear hr0
    go_wp2
    go_ret
    exact ⟨.inl rfl, HB.out⟩
  subst hr0
  have HZ := Lib.hid (HRR.out.1 rfl)
  clear HRR
  have ec : nc = n := HZ.out.1
  have er : nr = n := HZ.out.2.1
  subst ec er
  have cz0 := BY.out.cell 0 rfl
  have cz1 := BY.out.cell 1 rfl
  have cz2 := BY.out.cell 2 rfl
  have lz := BY.out.lt
  go_upto_region 3 with (fail)
  go_cut [32, 33, 34] (fun s43 s44 s45 wx => ∃ (g cap : Nat), s43 = .slice (some ⟨g, 0, none⟩) (2 + m) cap ∧ s44 = .int .i64 (2 + (m : Int)) ∧ s45 = .int .i64 0 ∧ CRows Ac Ag Ar nr cc m cg nr cr w g wx ∧ Bk wx w.heap.size 42 #[.slice Ac nr cc, .slice Ag m cg, .slice Ar nr cr] ∧ Below w.heap.size w wx ∧ Below w0.heap.size w0 wx)
  case first =>
    obtain ⟨i0, hi, hz0, hz1, hz2⟩ := info_parts infoL
    have HOW := Lib.hid (own_two w1 (.slice Ac nr cc) (.slice Ar nr cr))
    cases Ag with
    | none =>
      obtain rfl : cg = 0 := HNL.out rfl
      obtain rfl : m = 0 := by have := HG.out.1; omega
      have HX := Lib.hid (crows_end (Ag := none) (cg := 0) (m := 0) (g := w1.heap.size) (cap := 2) (news := []) HB.out HOW.out (World.grownBy.refl _ _) HC.out HR.out rfl (fun k hk => absurd hk (by omega)) BY.out)
      have HX2 := Lib.hid (below_al H01.out (.cells #[.slice Ac nr cc, .slice Ar nr cr] 39))
      go_wp2_with fail
      go_meet
      exact ⟨w1.heap.size, 2, rfl, rfl, rfl, HX.out.1, HX.out.2.1, HX.out.2.2, HX2.out⟩
    | some ad =>
      obtain ⟨news, hnl, hnw, hnc1⟩ := raw_news HG.out
      have HNW := Lib.hid hnw
      have HNC := Lib.hid hnc1
      have HLN := Lib.hid hnl
      clear hnl hnw hnc1
      go_wp2_with (at_builtin; refine wpList_append_own_at _ rfl _ _ 40 rfl 0 39 i0 (.slice none 0 0) 1 24 Tryd.underlying40 hi hz0 hz1 hz2 rfl (by decide) (.slice (some ⟨w1.heap.size, 0, none⟩) 2 2) 2 [.slice Ac nr cc, .slice Ar nr cr] rfl HOW.out ad m cg news rfl ?n1 ?n2 ?n3 ?n4 ?n5 ?n6 ?_)
      case n1 => rw [HLN.out, Nat.mul_one]
      case n2 => intro j u hj; exact Lib.cell?_alloc_some _ ((HB.out.cell (HNC.out.2 j u hj).1).trans (HNC.out.2 j u hj).2)
      case n3 => exact HNC.out.1
      case n4 => unfold maxLen; omega
      case n5 => omega
      case n6 => exact Nat.zero_le _
      intro v' w2 hown hgr hnn hob
      obtain ⟨g, cap, rfl⟩ := own_form hown (by omega)
      have HX := Lib.hid (crows_end (cg := cg) (g := g) (cap := cap) HB.out hown hgr HC.out HR.out HLN.out HNW.out BY.out)
      have HX2 := Lib.hid (show Below w0.heap.size w0 w2 from (below_al H01.out _).grown hgr (by rw [World.size_alloc]; have := H01.out.size; omega) (by intro k hk; have hrow : (Value.ownBlock (.slice (some ⟨w1.heap.size, 0, none⟩) 2 2)) = some w1.heap.size := rfl; rw [hrow] at hk; injection hk with hk; have := H01.out.size; omega))
      clear hown hgr cz0 cz1 cz2 hnn hob
      go_wp2_with fail
      go_meet
      exact ⟨g, cap, rfl, rfl, rfl, HX.out.1, HX.out.2.1, HX.out.2.2, HX2.out⟩
  case rest =>
    obtain ⟨w2, rfl⟩ : ∃ x, x = wc := ⟨_, rfl⟩
    obtain ⟨g, cap, rfl, rfl, rfl, hcr, hbz, hbel, hbel0⟩ := hcut
    have CR := Lib.hid hcr
    have HB2 := Lib.hid hbel
    have HB0 := Lib.hid hbel0
    clear hcr hbz hbel hbel0 cz0 cz1 cz2 lz BY HB H01
    have H0 := Lib.hid (show FitRel Ac Ag Ar nr cc m cg nr cr w w2 0 w2 from ⟨Below.refl _ _, fun k hk => absurd hk (by omega)⟩)
    go_wp2_with fail
    go_loopw [34] (fun k wr => ∃ i : Nat, k = .int .i64 i ∧ i ≤ 2 + m ∧ Hid (FitRel Ac Ag Ar nr cc m cg nr cr w w2 i wr)) (fun k _ => 2 + m - (intOf k).toNat)
    case atStart => exact ⟨0, rfl, Nat.zero_le _, H0⟩
    case round =>
      clear H0
      obtain ⟨k, rfl, hk, Hr⟩ := hrel
      by_cases hk2 : k < 2 + m
      · obtain ⟨A', n', c', e1, hrk, hraw⟩ := CR.out.2 k hk2
        obtain ⟨hbel, hgood⟩ := Hr.out
        have x0 : wr.cell? ⟨g, k, none⟩ = some (.slice A' n' c') := (hbel.cell (p := ⟨g, k, none⟩) CR.out.1).trans e1
        have HRK := Lib.hid hrk
        have HRAW := Lib.hid hraw
        have HGOOD := Lib.hid hgood
        have HBR := Lib.hid hbel
        have hn62 := hraw.2.1
        clear hrk hraw hgood hbel e1 Hr
        have q7 : (k : Int) < 2 + (m : Int) := by omega
        have q7' : (k : Int) < ((2 + m : Nat) : Int) := by omega
        have q7'' : k < 2 + m := hk2
        have hle := zok_len HW.out HZ.out HG.out hk2 HRK.out
        have HBW := Lib.hid (HB2.out.trans (HBR.out.mono HB2.out.size))
        go_wp2_with fail
        refine (small_any _ A' n' c' (HRAW.out.below HBW.out) hle).mono ?_
        rintro e w5 ⟨rfl | ⟨rfl, hs5⟩, hb⟩
        · have HB5 := Lib.hid hb
          clear hb x0
          have HBE := Lib.hid (below_tr HBW.out HB5.out)
          go_wp2
          go_ret
          exact ⟨.inl rfl, HBE.out⟩
        · have HB5 := Lib.hid hb
          have HS5 := Lib.hid hs5
          clear hb hs5 x0
          go_wp2
          go_roundw
          case rel =>
            refine ⟨k + 1, by go_num, hk2, Lib.hid ⟨below_tr HBR.out HB5.out, fun k' hk' A'' n'' c'' h'' => ?_⟩⟩
            by_cases e : k' = k
            · subst e
              obtain ⟨rfl, rfl, rfl⟩ := h''.uniq HRK.out
              exact HS5.out.below HB5.out
            · exact (HGOOD.out k' (by omega) _ _ _ h'').below HB5.out
          case measure => simp only [intOf]; omega
      · obtain rfl : k = 2 + m := by omega
        have HBW := Lib.hid (HB2.out.trans (Hr.out.1.mono HB2.out.size))
        have HF := Lib.hid (fits_of HBW.out (HB0.out.trans (Hr.out.1.mono HB0.out.size)) HG.out (HG.out.below HW.out) HZ.out Hr.out.2 k1 k4 k5)
        clear Hr hk2
        go_wp2
        go_ret
        exact ⟨.inr ⟨rfl, HF.out⟩, HBW.out⟩
end Go.Proofs.YtgioppkggpfnoaaDoor.Nu
end

section
/- Layer 18's far: how far a set goes in a direction, reckoned with 2000 bits. -/
set_option linter.unusedVariables false
namespace Go.Proofs.YtgioppkggpfnoaaDoor.Nu
open Go.RowKit Go.Proofs

set_option maxRecDepth 100000 in
set_option maxHeartbeats 4000000 in
theorem spoint_copy (w : World) (b : Bool) (A : Option Addr) (n c : Nat) (x : Int) :
    Calls Tryd.prog 59 #[.agg #[.bool b, .slice A n c, .int .i64 x]] w fun e w' => e = .returned (.agg #[.bool b, .slice A n c, .int .i64 x, .bool b, .slice A n c, .int .i64 x]) ∧ Below w.heap.size w w' := by
  have BX := Lib.hid (boxes2 w 53 #[.bool b, .slice A n c, .int .i64 x] 62 #[.bool b, .slice A n c, .int .i64 x, .bool b, .slice A n c, .int .i64 x])
  go_enter Tryd.func59, Tryd.ntmps59
  go_wp2
  refine bodyPost_ret (v := .agg #[.bool b, .slice A n c, .int .i64 x, .bool b, .slice A n c, .int .i64 x]) ?_ rfl ?_
  · simp [results, Tryd.f59, go_sem]
  · exact ⟨rfl, BX.out.2.2⟩
theorem own_below {w w' : World} {base : Nat} {e : TypeId} {size : Nat} {v : Value} {n : Nat} {xs : List Value} (h : w.ownsRow base e size v n xs) (hb : Below w.heap.size w w') : w'.ownsRow base e size v n xs := by
  refine ⟨h.1, ?_⟩
  rcases h.2 with hn | ⟨g, cap, cur, rfl, h1, hg, rest⟩
  · exact .inl hn
  · exact .inr ⟨g, cap, cur, rfl, h1, (hb.block g (Array.getElem?_eq_some_iff.1 hg).1).trans hg, rest⟩
theorem new_row (w : World) (xs : List Value) (t : TypeId) (j : Nat) (u : Value) (h : xs[j]? = some u) : (w.alloc (.cells xs.toArray t)).cell? ((⟨w.heap.size, 0, none⟩ : Addr).add j) = some u := by
  rw [Addr.add_lit, Nat.zero_add]
  exact (Bk.new w t xs.toArray).cell j (by simpa using h)
theorem one6 {a b c d e f : Value} (ha : a.oneCell' = true) (hb : b.oneCell' = true) (hc : c.oneCell' = true) (hd : d.oneCell' = true) (he : e.oneCell' = true) (hf : f.oneCell' = true) : ∀ u ∈ [a, b, c, d, e, f], u.oneCell' = true := by
  intro u hu
  rcases List.mem_cons.1 hu with rfl | hu
  · exact ha
  rcases List.mem_cons.1 hu with rfl | hu
  · exact hb
  rcases List.mem_cons.1 hu with rfl | hu
  · exact hc
  rcases List.mem_cons.1 hu with rfl | hu
  · exact hd
  rcases List.mem_cons.1 hu with rfl | hu
  · exact he
  rcases List.mem_cons.1 hu with rfl | hu
  · exact hf
  cases hu
/-- Element j of a row of points. -/
def PtAt (xs : List Value) (j : Nat) (q : Q) (x : Int) : Prop := xs[j * 6]? = some (.bool q.b) ∧ xs[j * 6 + 1]? = some (.slice q.A q.n q.c) ∧ xs[j * 6 + 2]? = some (.int .i64 x) ∧ xs[j * 6 + 3]? = some (.bool q.b) ∧ xs[j * 6 + 4]? = some (.slice q.A q.n q.c) ∧ xs[j * 6 + 5]? = some (.int .i64 x)
theorem PtAt.app {xs ys : List Value} {j i : Nat} {q : Q} {x : Int} (h : PtAt xs j q x) (hl : xs.length = i * 6) (hj : j < i) : PtAt (xs ++ ys) j q x := by
  have hlt : ∀ c, c < 6 → (xs ++ ys)[j * 6 + c]? = xs[j * 6 + c]? := fun c hc => List.getElem?_append_left (by omega)
  obtain ⟨a0, a1, a2, a3, a4, a5⟩ := h
  exact ⟨(hlt 0 (by omega)).trans a0, (hlt 1 (by omega)).trans a1, (hlt 2 (by omega)).trans a2, (hlt 3 (by omega)).trans a3, (hlt 4 (by omega)).trans a4, (hlt 5 (by omega)).trans a5⟩
theorem PtAt.last {xs : List Value} {i : Nat} (q : Q) (x : Int) (hl : xs.length = i * 6) : PtAt (xs ++ [.bool q.b, .slice q.A q.n q.c, .int .i64 x, .bool q.b, .slice q.A q.n q.c, .int .i64 x]) i q x := by
  have hlt : ∀ c, (xs ++ [Value.bool q.b, .slice q.A q.n q.c, .int .i64 x, .bool q.b, .slice q.A q.n q.c, .int .i64 x])[i * 6 + c]? = [Value.bool q.b, .slice q.A q.n q.c, .int .i64 x, .bool q.b, .slice q.A q.n q.c, .int .i64 x][c]? := fun c => by
    rw [List.getElem?_append_right (by omega), show i * 6 + c - xs.length = c by omega]
  exact ⟨hlt 0, hlt 1, hlt 2, hlt 3, hlt 4, hlt 5⟩
/-- The state ahead of a direction's place: so many spans are laid. -/
def FarRel (w : World) (f : Nat → D) (w0 : World) (i : Nat) (v : Value) (wr : World) : Prop :=
  Below w0.heap.size w0 wr ∧ ∃ xs, wr.ownsRow w0.heap.size 62 6 v i xs ∧ ∀ j, j < i → ∃ q, PtAt xs j q (f j).x ∧ RD w q (f j)
theorem far_next {w w0 w5 w6 : World} {f : Nat → D} {i : Nat} {v v' : Value} {xs : List Value} {q : Q} (hb : Below w0.heap.size w0 w5) (ho : w5.ownsRow w0.heap.size 62 6 v i xs)
    (hn : w6.ownsRow w0.heap.size 62 6 v' (i + 1) (xs ++ [.bool q.b, .slice q.A q.n q.c, .int .i64 (f i).x, .bool q.b, .slice q.A q.n q.c, .int .i64 (f i).x])) (hg : w5.grownBy w6 v.ownBlock) (he : ∀ j, j < i → ∃ q, PtAt xs j q (f j).x ∧ RD w q (f j)) (hq : RD w q (f i)) : FarRel w f w0 (i + 1) v' w6 := by
  refine ⟨hb.grown hg hb.size fun k hk => (ho.lt k hk).1, _, hn, fun j hj => ?_⟩
  by_cases e : j = i
  · subst e
    exact ⟨q, PtAt.last q _ ho.1, hq⟩
  · obtain ⟨q', h1, h2⟩ := he j (by omega)
    exact ⟨q', h1.app ho.1 (by omega), h2⟩
theorem far_end {w w0 wr : World} {f : Nat → D} {n c : Nat} {A : Option Addr} {v : Value} (hd : RDs w A n c f) (h0 : Below w.heap.size w w0) (h : FarRel w f w0 n v wr) : ∃ dA dc, v = .slice dA n dc ∧ RSs wr dA n dc (pts f) := by
  obtain ⟨hb, xs, ho, he⟩ := h
  have hbw := below_tr h0 hb
  rcases ho.2 with ⟨rfl, hx⟩ | ⟨g, cap, cur, rfl, _, hg, hnc, _⟩
  · have hn : n = 0 := by have := ho.1; rw [hx] at this; simp at this; omega
    subst hn
    exact ⟨none, 0, rfl, Nat.le_refl _, Nat.zero_le _, fun h => absurd h (by omega)⟩
  · refine ⟨_, _, rfl, hnc, hd.2.1, fun _ => ⟨g, 0, rfl, (Array.getElem?_eq_some_iff.1 hg).1, fun j hj => ?_⟩⟩
    obtain ⟨q, ⟨a0, a1, a2, a3, a4, a5⟩, hr⟩ := he j hj
    have hc : ∀ k u, xs[k]? = some u → wr.cell? ⟨g, 0 + k, none⟩ = some u := fun k u hu => by
      have := ho.cells (g := g) rfl k u hu
      rw [Addr.add_lit] at this
      exact this
    exact ⟨⟨q, q⟩, hc _ _ a0, hc _ _ a1, hc _ _ a2, hc _ _ a3, hc _ _ a4, hc _ _ a5, hr.below hbw, hr.below hbw⟩

set_option maxRecDepth 100000 in
set_option maxHeartbeats 4000000 in
theorem far_any (w : World) (Ac Ag Ar : Option Addr) (cc cg cr : Nat) (z : Zo) (dA : Option Addr) (dc : Nat) (f : Nat → D) (E T E2 T2 : Nat) (h : RZo w ⟨Ac, cc, Ag, cg, Ar, cr⟩ z) (h2 : RDs w dA z.n dc f) (lz : z.Lim E T) (ld : ∀ i, i < z.n → (f i).Lim E2 T2) (hET : E + E2 + T + T2 + 4 * z.n + 2 * z.m + 10 ≤ 16000) (ht : BTab w) :
    Calls Tryd.prog 28 #[.agg #[.slice Ac z.n cc, .slice Ag z.m cg, .slice Ar z.n cr], .slice dA z.n dc] w fun e w' => (∃ r : Q, e = .returned (.tuple #[.agg #[.bool r.b, .slice r.A r.n r.c, .int .i64 (z.sup (pts f) 2000).x], .bool true]) ∧ RD w' r (z.sup (pts f) 2000)) ∧ Below w.heap.size w w' := by
  have HZ := Lib.hid h
  have HD := Lib.hid h2
  have LZ := Lib.hid lz
  have LD := Lib.hid ld
  have HT := Lib.hid ht
  have n0 := h2.2.1
  clear h h2 lz ld ht
  have BX := Lib.hid (boxes2 w 42 #[.slice Ac z.n cc, .slice Ag z.m cg, .slice Ar z.n cr] 53 #[.bool false, .slice none 0 0, .int .i64 0])
  go_enter Tryd.func28, Tryd.ntmps28
  go_wp2_with fail
  generalize (w.alloc (.cells #[.slice Ac z.n cc, .slice Ag z.m cg, .slice Ar z.n cr] 42)).alloc (.cells #[.bool false, .slice none 0 0, .int .i64 0] 53) = w0 at *
  obtain ⟨b0, b1, hw⟩ := BX.out
  have Bz_0 := Lib.hid b0
  have Bo_0 := Lib.hid b1
  have HB_0 := Lib.hid hw
  have K := Dk.below (hw.mono (Nat.le_refl _))
  clear BX hw b0 b1
  clear K
  have hs0 := HB_0.out.size
  have H0 := Lib.hid (show FarRel w f w0 0 (.slice none 0 0) w0 from ⟨Below.refl _ _, [], World.ownsRow_nil _ _ _ _, fun j hj => absurd hj (by omega)⟩)
  obtain ⟨i0, hi0, hz0, hz1, hz2⟩ := info_parts infoS
  go_loopw [6, 13] (fun s6 k wr => ∃ (i : Nat) (v : Value), k = .int .i64 i ∧ v = s6 ∧ i ≤ z.n ∧ Hid (FarRel w f w0 i v wr)) (fun _ k _ => z.n - (intOf k).toNat)
  case atStart => exact ⟨0, _, rfl, rfl, Nat.zero_le _, H0⟩
  case round =>
    clear H0
    obtain ⟨i, v, rfl, rfl, hi, Hr⟩ := hrel
    by_cases hi2 : i < z.n
    · have q3 : (i : Int) < (z.n : Int) := by omega
      obtain ⟨hbel, xs, hown, hels⟩ := Hr.out
      have HBR := Lib.hid hbel
      have HOW := Lib.hid hown
      have HEL := Lib.hid hels
      clear hbel hown hels Hr
      have HBW := Lib.hid (below_tr HB_0.out HBR.out)
      obtain ⟨A1, o1, rfl, hl1, hcc⟩ := HD.out.2.2 (by omega)
      obtain ⟨q, z0, z1, z2, hq⟩ := hcc i hi2
      have x0 := (HBW.out.cell (p := ⟨A1, o1 + i * 3, none⟩) hl1).trans z0
      have x1 := (HBW.out.cell (p := ⟨A1, o1 + i * 3 + 1, none⟩) hl1).trans z1
      have x2 := (HBW.out.cell (p := ⟨A1, o1 + i * 3 + 2, none⟩) hl1).trans z2
      have RQ := Lib.hid hq
      clear hcc z0 z1 z2 hq
      go_wp2_with fail
      refine (spoint_copy _ q.b q.A q.n q.c (f i).x).mono ?_
      rintro e w5 ⟨rfl, hb⟩
      have HB5 := Lib.hid (below_tr (below_al (Below.refl _ wr) _) hb)
      clear hb x0 x1 x2
      have HOW5 := Lib.hid ((own_below HOW.out HB5.out).alloc (.cells #[.bool q.b, .slice q.A q.n q.c, .int .i64 (f i).x, .bool q.b, .slice q.A q.n q.c, .int .i64 (f i).x] 62))
      have HNW := Lib.hid (new_row w5 [.bool q.b, .slice q.A q.n q.c, .int .i64 (f i).x, .bool q.b, .slice q.A q.n q.c, .int .i64 (f i).x] 62)
      have HBA := Lib.hid (below_al (HBR.out.trans (HB5.out.mono HBR.out.size)) (.cells #[.bool q.b, .slice q.A q.n q.c, .int .i64 (f i).x, .bool q.b, .slice q.A q.n q.c, .int .i64 (f i).x] 62))
      have hsz := HBA.out.size
      clear HOW
      go_wp2_with (at_builtin; refine wpList_append_own_at _ rfl _ _ 95 rfl w0.heap.size 62 i0 (.agg #[.bool false, .slice none 0 0, .int .i64 0, .bool false, .slice none 0 0, .int .i64 0]) 6 80 Tryd.underlying95 hi0 hz0 hz1 hz2 rfl (by decide) v i xs rfl HOW5.out ⟨w5.heap.size, 0, none⟩ 1 1 [.bool q.b, .slice q.A q.n q.c, .int .i64 (f i).x, .bool q.b, .slice q.A q.n q.c, .int .i64 (f i).x] rfl rfl HNW.out (one6 rfl rfl rfl rfl rfl rfl) ?n4 ?n5 hsz ?_)
      case n4 => unfold maxLen; omega
      case n5 => omega
      intro v' w6 hown hgr _ _
      have HN := Lib.hid (show FarRel w f w0 (i + 1) v' w6 from far_next HBA.out HOW5.out hown hgr HEL.out RQ.out)
      clear hown hgr HOW5 HBA HNW hsz
      go_wp2
      go_roundw
      case rel => exact ⟨i + 1, v', by go_num, rfl, hi2, HN⟩
      case measure => simp only [intOf]; omega
    · obtain rfl : i = z.n := by omega
      obtain ⟨dA, dc, rfl, hds⟩ := far_end HD.out HB_0.out Hr.out
      have HS := Lib.hid hds
      have HBR := Lib.hid Hr.out.1
      clear hds Hr hi2
      have HBZ := Lib.hid (below_tr HB_0.out HBR.out)
      have B9z := Lib.hid (Bz_0.out.below HBR.out)
      have B9o := Lib.hid (Bo_0.out.below HBR.out)
      have lz := B9z.out.lt
      obtain ⟨cz0, cz1, cz2⟩ := B9z.out.cells3
      have lo := B9o.out.lt
      obtain ⟨co0, co1, co2⟩ := B9o.out.cells3
      have fo0 := B9o.out.free 0
      have fo1 := B9o.out.free 1
      have fo2 := B9o.out.free 2
      go_wp2_with fail
      refine (support_any _ Ac Ag Ar cc cg cr z dA dc (pts f) 2000 E T E2 T2 (HZ.out.below HBZ.out) HS.out LZ.out (fun i hi => pt_lim (LD.out i hi)) hET (by omega) (by omega) (HT.out.below HBZ.out)).mono ?_
      rintro e w1 ⟨⟨r, rfl, hr⟩, hb⟩
      clear lz cz0 cz1 cz2 lo co0 co1 co2 fo0 fo1 fo2
      have K := Dk.below hb
      have Bz_1 := Lib.hid (show Bk _ _ _ #[.slice Ac z.n cc, .slice Ag z.m cg, .slice Ar z.n cr] from B9z.out.below hb)
      have Bo_2 := Lib.hid (show Bk _ _ _ #[.bool false, .slice none 0 0, .int .i64 0] from B9o.out.below hb)
      have HB_3 := Lib.hid (below_tr HBZ.out hb)
      clear hb
      clear K B9z B9o HBZ
      have RR_4 := Lib.hid hr
      clear hr
      have lz := Bz_1.out.lt
      obtain ⟨cz0, cz1, cz2⟩ := Bz_1.out.cells3
      have lo := Bo_2.out.lt
      obtain ⟨co0, co1, co2⟩ := Bo_2.out.cells3
      have fo0 := Bo_2.out.free 0
      have fo1 := Bo_2.out.free 1
      have fo2 := Bo_2.out.free 2
      have n_5 := Bz_1.out.lt
      have n_6 := Bo_2.out.lt
      go_wp2
      clear lz cz0 cz1 cz2 lo co0 co1 co2 fo0 fo1 fo2
      have K : Dk w1 ((((w1.setCell ⟨w.heap.size + 1, 0, none⟩ (.bool r.b)).setCell ⟨w.heap.size + 1, 1, none⟩ (.slice r.A r.n r.c)).setCell ⟨w.heap.size + 1, 2, none⟩ (.int .i64 (z.sup (pts f) 2000).x)).alloc (.cells #[.bool r.b, .slice r.A r.n r.c, .int .i64 (z.sup (pts f) 2000).x] 53)) := (((((Dk.refl _).set (cs := #[.bool false, .slice none 0 0, .int .i64 0]) Bo_2.out 0 (by intro _ hh; cases hh) (.bool r.b)).set (cs := #[.bool r.b, .slice none 0 0, .int .i64 0]) (Bo_2.out.set 0 (.bool r.b)) 1 (by intro _ hh; cases hh) (.slice r.A r.n r.c)).set (cs := #[.bool r.b, .slice r.A r.n r.c, .int .i64 0]) ((Bo_2.out.set 0 (.bool r.b)).set 1 (.slice r.A r.n r.c)) 2 (by intro _ hh; cases hh) (.int .i64 (z.sup (pts f) 2000).x)).alloc _)
      have y0 := Bz_1.out.lt; have y1 := Bo_2.out.lt; have y2 := HB_3.out.size; have Bz_7 := Lib.hid (show Bk ((((w1.setCell ⟨w.heap.size + 1, 0, none⟩ (.bool r.b)).setCell ⟨w.heap.size + 1, 1, none⟩ (.slice r.A r.n r.c)).setCell ⟨w.heap.size + 1, 2, none⟩ (.int .i64 (z.sup (pts f) 2000).x)).alloc (.cells #[.bool r.b, .slice r.A r.n r.c, .int .i64 (z.sup (pts f) 2000).x] 53)) (w.heap.size) 42 #[.slice Ac z.n cc, .slice Ag z.m cg, .slice Ar z.n cr] from ((((Bz_1.out.ne (by omega) 0 (.bool r.b)).ne (by omega) 1 (.slice r.A r.n r.c)).ne (by omega) 2 (.int .i64 (z.sup (pts f) 2000).x)).alloc _)); clear y0 y1 y2
      have Bo_8 := Lib.hid (show Bk ((((w1.setCell ⟨w.heap.size + 1, 0, none⟩ (.bool r.b)).setCell ⟨w.heap.size + 1, 1, none⟩ (.slice r.A r.n r.c)).setCell ⟨w.heap.size + 1, 2, none⟩ (.int .i64 (z.sup (pts f) 2000).x)).alloc (.cells #[.bool r.b, .slice r.A r.n r.c, .int .i64 (z.sup (pts f) 2000).x] 53)) (w.heap.size + 1) 53 #[.bool r.b, .slice r.A r.n r.c, .int .i64 (z.sup (pts f) 2000).x] from ((((Bo_2.out.set 0 (.bool r.b)).set 1 (.slice r.A r.n r.c)).set 2 (.int .i64 (z.sup (pts f) 2000).x)).alloc _))
      have y0 := HB_3.out.size; have HB_9 := Lib.hid (show Below w.heap.size w ((((w1.setCell ⟨w.heap.size + 1, 0, none⟩ (.bool r.b)).setCell ⟨w.heap.size + 1, 1, none⟩ (.slice r.A r.n r.c)).setCell ⟨w.heap.size + 1, 2, none⟩ (.int .i64 (z.sup (pts f) 2000).x)).alloc (.cells #[.bool r.b, .slice r.A r.n r.c, .int .i64 (z.sup (pts f) 2000).x] 53)) from (below_al (below_st (below_st (below_st HB_3.out 0 (by omega) (.bool r.b)) 1 (by omega) (.slice r.A r.n r.c)) 2 (by omega) (.int .i64 (z.sup (pts f) 2000).x)) _)); clear y0
      have RR_10 := Lib.hid (RR_4.out.dk K)
      clear K Bz_1 Bo_2 HB_3 RR_4
      generalize (((w1.setCell ⟨w.heap.size + 1, 0, none⟩ (.bool r.b)).setCell ⟨w.heap.size + 1, 1, none⟩ (.slice r.A r.n r.c)).setCell ⟨w.heap.size + 1, 2, none⟩ (.int .i64 (z.sup (pts f) 2000).x)).alloc (.cells #[.bool r.b, .slice r.A r.n r.c, .int .i64 (z.sup (pts f) 2000).x] 53) = w2 at *
      have lo := Bo_8.out.lt
      obtain ⟨co0, co1, co2⟩ := Bo_8.out.cells3
      refine bodyPost_ret (v := .tuple #[.agg #[.bool r.b, .slice r.A r.n r.c, .int .i64 (z.sup (pts f) 2000).x], .bool true]) ?_ rfl ?_
      · simp [results, Tryd.f28, go_sem, co0, co1, co2]
      · exact ⟨⟨r, rfl, RR_10.out⟩, HB_9.out⟩

end Go.Proofs.YtgioppkggpfnoaaDoor.Nu
end

section
/- What layer 18's laws on two sets call, the places said once; and how the answers stand. -/
set_option linter.unusedVariables false
namespace Go.Proofs.YtgioppkggpfnoaaDoor.Nu
open Go.RowKit Go.Proofs

theorem hull_at (w : World) (Aac Aag Aar Abc Abg Abr : Option Addr) (cac cag car cbc cbg cbr : Nat) (a b : Zo) (n bits : Nat) (E T : Nat) (ea : a.n = n) (eb : b.n = n) (ha : RZo w ⟨Aac, cac, Aag, cag, Aar, car⟩ a) (hb : RZo w ⟨Abc, cbc, Abg, cbg, Abr, cbr⟩ b) (oa : a.Ok) (ob : b.Ok) (la : a.Lim E T) (lb : b.Lim E T) (hna : Aag = none → cag = 0) (hnb : Abg = none → cbg = 0) (hm : max a.m b.m ≤ 2047) (hET : E + T + 4 * max a.m b.m + 20 ≤ 16000) (hb2 : 2 ≤ bits) (hb3 : bits ≤ 4096) (ht : BTab w) :
    Calls Tryd.prog 26 #[.agg #[.slice Aac n cac, .slice Aag a.m cag, .slice Aar n car], .agg #[.slice Abc n cbc, .slice Abg b.m cbg, .slice Abr n cbr], .int .i64 bits] w fun e w' => (∃ (gc gg gr cg : Nat), e = .returned (.tuple #[.agg #[.slice (some ⟨gc, 0, none⟩) n n, .slice (some ⟨gg, 0, none⟩) (hull a b bits).m cg, .slice (some ⟨gr, 0, none⟩) n n], .int .i64 0]) ∧ RZo w' ⟨some ⟨gc, 0, none⟩, n, some ⟨gg, 0, none⟩, cg, some ⟨gr, 0, none⟩, n⟩ (hull a b bits)) ∧ Below w.heap.size w w' := by
  subst ea
  have H := hull_any w Aac Aag Aar Abc Abg Abr cac cag car cbc cbg cbr a b bits E T ha hb eb.symm oa ob la lb hna hnb hm hET hb2 hb3 ht
  rw [eb] at H
  exact H
theorem far_at (w : World) (Ac Ag Ar : Option Addr) (cc cg cr : Nat) (z : Zo) (n : Nat) (dA : Option Addr) (dc : Nat) (f : Nat → D) (E T E2 T2 : Nat) (ez : z.n = n) (h : RZo w ⟨Ac, cc, Ag, cg, Ar, cr⟩ z) (h2 : RDs w dA n dc f) (lz : z.Lim E T) (ld : ∀ i, i < n → (f i).Lim E2 T2) (hET : E + E2 + T + T2 + 4 * n + 2 * z.m + 10 ≤ 16000) (ht : BTab w) :
    Calls Tryd.prog 28 #[.agg #[.slice Ac n cc, .slice Ag z.m cg, .slice Ar n cr], .slice dA n dc] w fun e w' => (∃ r : Q, e = .returned (.tuple #[.agg #[.bool r.b, .slice r.A r.n r.c, .int .i64 (z.sup (pts f) 2000).x], .bool true]) ∧ RD w' r (z.sup (pts f) 2000)) ∧ Below w.heap.size w w' := by
  subst ez
  exact far_any w Ac Ag Ar cc cg cr z dA dc f E T E2 T2 h h2 lz ld hET ht
theorem zcheck_at (w : World) (Ac Ag Ar : Option Addr) (cc cg cr : Nat) (z : Zo) (n : Nat) (ez : z.n = n) (h : RZo w ⟨Ac, cc, Ag, cg, Ar, cr⟩ z) (ho : z.Ok) (hnil : Ag = none → cg = 0) :
    Calls Tryd.prog 27 #[.agg #[.slice Ac n cc, .slice Ag z.m cg, .slice Ar n cr], .int .i64 n] w fun e w' => e = .returned (.int .i64 0) ∧ Below w.heap.size w w' := by
  subst ez
  exact zcheck_good w Ac Ag Ar cc cg cr z h ho hnil
/-- What holds both: its numbers. -/
theorem Zo.Lim.mono' {z : Zo} {E T E2 T2 : Nat} (h : z.Lim E T) (h1 : E ≤ E2) (h2 : T ≤ T2) : z.Lim E2 T2 := ⟨fun i hi => (h.c i hi).mono h1 h2, fun k i hk hi => (h.g k i hk hi).mono h1 h2, fun i hi => (h.r i hi).mono h1 h2⟩
theorem hull_lim5 {a b : Zo} (la : a.Lim 60 124) (lb : b.Lim 60 124) (hn : a.n = b.n) (ma : a.m ≤ 5) (mb : b.m ≤ 5) (bits : Nat) : (hull a b bits).Lim 61 151 := (hull_lim la lb hn bits).mono' (by omega) (by omega)
theorem sup_lim5 {z : Zo} {f : Nat → D} (lz : z.Lim 61 151) (hn : z.n ≤ 4) (hm : z.m ≤ 11) (lf : ∀ i, i < z.n → (f i).Lim 60 124) : (z.sup (pts f) 2000).Lim 121 330 := (sup_lim 2000 lz (fun i hi => pt_lim (lf i hi))).mono (by omega) (by omega)
theorem far5 {z : Zo} {f : Nat → D} (lz : z.Lim 61 151) (hn : z.n ≤ 4) (hm : z.m ≤ 11) (lf : ∀ i, i < z.n → (f i).Lim 60 124) : (z.sup (pts f) 2000).val = z.far (fun i => (f i).val) := sup_far lz lf (by omega)
theorem not_less {p q : D} (h : q.val ≤ p.val) : decide (p.cmp q < 0) = false := decide_eq_false fun e => absurd (cmp_neg_iff.1 e) (Rat.not_lt.2 h)
end Go.Proofs.YtgioppkggpfnoaaDoor.Nu
end

section
/- What the join and reduce rows of this seat share: the listed table as the walks read it, a world for the witness, the call's end. -/
namespace Go.Proofs.YtgioppkggpfnoaaDoor.Nu
open Go.ChangeShapes Go.WideShapes Go.ChangeAt Go.RowKit Go.Proofs

section
variable {H : Type} {enc : TypeId × Value → H} {P : Program}
theorem post_of_below {f : Func} {s : ChangeSpec} {apart fresh handsOn again : Bool} {W W' : World} {args : Array Value} {v : Value} {ds gs : List (DataW H)} {before pa pv : List MemPlace}
    (hW : DataW.Whole enc P f.params.toList s.vars apart W args.toList ds gs before)
    (hres : ∀ (b : Nat) (sp : Nat → Bool) (hd : Bool), DataW.TrodAll enc P W' b sp hd f.resultTypes.toList (v.resultList f.resultTypes.size) (s.fn H (ds ++ gs)).results [])
    (hargs : ∀ sp : Nat → Bool, (∀ p ∈ before, sp p.block = true) → DataW.TrodAll enc P W' 0 sp true f.params.toList args.toList (s.fn H (ds ++ gs)).args pa)
    (hvars : ∀ sp : Nat → Bool, (∀ p ∈ before, sp p.block = true) → DataW.TrodVars enc P W' sp s.vars (s.fn H (ds ++ gs)).vars pv)
    (hps : before = pa ++ pv) (hb : Below W.heap.size W W')
    (hok : ∀ (j : Nat) (t : TypeId) (r : Value), f.resultTypes[j]? = some t → (v.resultList f.resultTypes.size)[j]? = some r → Value.okWide P W' .any 0 t r) :
    s.post enc P f apart fresh handsOn again W args v W' := by
  have hlt : ∀ p ∈ before, p.block < W.heap.size := fun p hp => hW.lt p hp
  have hold : ∀ p ∈ before, (fun b => decide (b < W.heap.size)) p.block = true := fun p hp => by simpa using hlt p hp
  refine ⟨ds, gs, before, [], pa, pv, hW, hres _ _ _, hargs _ hold, hvars _ hold, World.keptBut_mono (fun p hp => ⟨hp, ?_⟩) (hb.frame (· ∈ before)), fun _ => ?_⟩
  · rw [hps, List.mem_append] at hp
    exact Or.inr hp
  · obtain ⟨_, _, _, _, _, hz, hn⟩ := hW
    refine ⟨hok, _, _, ([] ++ pa) ++ pv, ⟨[] ++ pa, pv, trodAll_append (hargs _ (fun _ _ => rfl)) (hres _ _ _), hvars _ (fun _ _ => rfl), rfl, ?_, ?_⟩, ?_⟩
    · intro b off hp
      have hin : MemPlace.cell b off ∈ before := by rw [hps]; simpa using hp
      rw [hb.frozen (hlt _ hin)]
      exact hz b off hin
    · intro ha
      have := hn ha
      rw [hps] at this
      simpa using this
    · intro p hp _
      rw [hps]
      simpa using hp
end

theorem own : ownKnob Tryd.prog.godebug = none := by kernel_rfl
theorem gBru : Tryd.prog.globalNamed "math/bits.deBruijn32tab" = some 1 := by kernel_rfl
theorem gBruType : (Tryd.prog.globals[1]?).map (·.type) = some 243 := by kernel_rfl
theorem cellsU8 : Tryd.prog.cellsOf 5 = 1 := by kernel_rfl
theorem cellsBru : Tryd.prog.cellsOf 243 = 32 := by kernel_rfl
/-- What the rows list. -/
def laidList {H : Type} : List (String × DataW H) := [("math/bits.deBruijn32tab", Rows.laid_math_bits_deBruijn32tab)]
theorem bruData : (Rows.laid_math_bits_deBruijn32tab : DataW Unit) = Lib.tabData .u8 bruijn := by kernel_rfl
theorem btab {W : World} (h : laidMetH Tryd.prog laidList W) : BTab W := by
  have h' : laidMet Tryd.prog [("math/bits.deBruijn32tab", Rows.laid_math_bits_deBruijn32tab)] W := h
  rw [bruData] at h'
  have hT := Lib.tabIs_of_head (rest := []) gBru gBruType Tryd.underlying243 Tryd.underlying5 cellsU8 cellsBru h'
  have hc : ∀ j v, bruijn[j]? = some v → W.cell? ⟨1, j, none⟩ = some (.int .u8 v) := fun j v hj => by
    have hlt : j < bruijn.length := (List.getElem?_eq_some_iff.1 hj).1
    rw [hT.cell gBru j hlt]
    simp [List.getD, hj]
  exact ⟨cell_lt (hc 0 0 rfl), hc⟩
/-- A world for the witness: the settled one, the listed table as its initialiser laid it. -/
noncomputable def laidWorld (os : Os) : World :=
  let w0 := World.holding Tryd.prog os ⟨#[], #[], []⟩
  { w0 with heap := w0.heap.modify 1 fun
    | .cells _ t frozen => .cells (bruijn.map fun z => Value.int .u8 z).toArray t frozen
    | o => o }
theorem laid_met (os : Os) (args : Array Value) : laidMet Tryd.prog laidList ((laidWorld os).forCall (fun _ _ => 0) ⟨#[], args, []⟩).memory :=
  laidMet_of_run' 10 (by kernel_rfl) (by kernel_rfl)
end Go.Proofs.YtgioppkggpfnoaaDoor.Nu
end
