/- Texts of the seat, laid together: Norms. -/
import Derived.Test.YtgioppkggpfnoaaDoorRd7
import Derived.RegionTactic
import Derived.StillTailTactics
import Derived.Deep.RegionHeld3
import Derived.Deep.DeepCutAuto
import Derived.Deep.CutBlock
set_option linter.all false
set_option exponentiation.threshold 20000
section
/- ReduceNorms: the walk of the law. -/
set_option linter.unusedVariables false
namespace Go.Proofs.YtgioppkggpfnoaaDoor.Nu
open Go.RowKit Go.Proofs

theorem dsign_s (w : World) (q : Q) (d : D) (s : Int) (h : RD w q d) (hs : sgn d.z = s) : Calls Tryd.prog 34 #[.agg #[.bool q.b, .slice q.A q.n q.c, .int .i64 d.x]] w fun e w' => e = .returned (.int .i64 s) ∧ Below w.heap.size w w' := by
  rw [← hs]; exact dsign_q w q d h

set_option maxRecDepth 100000 in
set_option maxHeartbeats 4000000 in
theorem norms_any (w : World) (Ac Ag Ar : Option Addr) (nc nr m cc cg cr : Nat) (hc : RawD w Ac nc cc) (hg : RawR w Ag m cg) (hr : RawD w Ar nr cr) (hna : Ag = none → cg = 0) (ht : BTab w) :
    Calls Tryd.prog 9 #[.agg #[.slice Ac nc cc, .slice Ag m cg, .slice Ar nr cr]] w fun e w' => e = .returned (.bool true) ∧ Below w.heap.size w w' := by
  have HC := Lib.hid hc
  have HG := Lib.hid hg
  have HR := Lib.hid hr
  have HNA := Lib.hid hna
  have HT := Lib.hid ht
  have hd62 := hc.2.1
  clear hc hg hr hna ht
  have BX := Lib.hid (boxes1 w 42 #[.slice Ac nc cc, .slice Ag m cg, .slice Ar nr cr])
  go_enter Tryd.func9, Tryd.ntmps9
  go_wp2_with fail
  generalize w.alloc (.cells #[.slice Ac nc cc, .slice Ag m cg, .slice Ar nr cr] 42) = w0 at *
  obtain ⟨b0, hw⟩ := BX.out
  have Bz_0 := Lib.hid b0
  have HB_0 := Lib.hid hw
  have K := Dk.below (hw.mono (Nat.le_refl _))
  clear BX hw b0
  clear K
  go_wp2_with fail
  refine (fewer_any _ (HT.out.below HB_0.out)).mono ?_
  rintro e w1 ⟨rfl, hb⟩
  have K := Dk.below hb
  have Bz_1 := Lib.hid (show Bk _ _ _ #[.slice Ac nc cc, .slice Ag m cg, .slice Ar nr cr] from Bz_0.out.below hb)
  have HB_2 := Lib.hid (below_tr HB_0.out hb)
  clear hb
  clear K Bz_0 HB_0
  have lz := Bz_1.out.lt
  obtain ⟨cz0, cz1, cz2⟩ := Bz_1.out.cells3
  go_wp2_with fail
  refine (fit_any _ Ac Ag Ar nc cc m cg nr cr nc (HC.out.below HB_2.out) (HG.out.below HB_2.out) (HR.out.below HB_2.out) HNA.out hd62).mono ?_
  rintro e w2 ⟨rfl | ⟨rfl, hf⟩, hb⟩
  · clear lz cz0 cz1 cz2
    have K := Dk.below hb
    have Bz_3 := Lib.hid (show Bk _ _ _ #[.slice Ac nc cc, .slice Ag m cg, .slice Ar nr cr] from Bz_1.out.below hb)
    have HB_4 := Lib.hid (below_tr HB_2.out hb)
    clear hb
    clear K Bz_1 HB_2
    have lz := Bz_3.out.lt
    obtain ⟨cz0, cz1, cz2⟩ := Bz_3.out.cells3
    go_wp2
    go_ret
    exact ⟨rfl, HB_4.out⟩
  clear lz cz0 cz1 cz2
  have K := Dk.below hb
  have Bz_6 := Lib.hid (show Bk _ _ _ #[.slice Ac nc cc, .slice Ag m cg, .slice Ar nr cr] from Bz_1.out.below hb)
  have HB_7 := Lib.hid (below_tr HB_2.out hb)
  clear hb
  clear K Bz_1 HB_2
  have FA := Lib.hid hf
  clear hf HC HG HR
  have BASE_8 := Lib.hid (HB_7.out)
  replace HT := Lib.hid (HT.out.below HB_7.out)
  clear HB_7
  have HB_9 := Lib.hid (show Below w2.heap.size w2 w2 from Below.refl _ _)
  obtain ⟨z, e1, e2, e3, rfl, hz, oz, lz, k1, k4, k7⟩ := FA.out
  clear FA
  obtain rfl : nc = nr := by omega
  have ez : z.n = nc := e3.symm
  clear e1 e2 e3
  have ZZ := Lib.hid hz
  have OZ := Lib.hid oz
  have LZ := Lib.hid lz
  have CZ := Lib.hid (rzo_can hz oz)
  clear hz oz lz
  have lz := Bz_6.out.lt
  obtain ⟨cz0, cz1, cz2⟩ := Bz_6.out.cells3
  go_wp2_with fail
  refine (norm_at _ Ac Ag Ar cc cg cr z nc 200 60 124 ez (ZZ.out.below HB_9.out) LZ.out (by omega) (by omega) (by omega) (by omega) (HT.out.below HB_9.out)).mono ?_
  rintro e w3 ⟨⟨An, cn, rfl, hl⟩, hb⟩
  clear lz cz0 cz1 cz2
  have K := Dk.below hb
  have Bz_10 := Lib.hid (show Bk _ _ _ #[.slice Ac nc cc, .slice Ag z.m cg, .slice Ar nc cr] from Bz_6.out.below hb)
  have HB_11 := Lib.hid (below_tr HB_9.out hb)
  clear hb
  clear K Bz_6 HB_9
  have LN := Lib.hid hl
  clear hl
  have BASE_12 := Lib.hid (below_tr BASE_8.out HB_11.out)
  replace HT := Lib.hid (HT.out.below HB_11.out)
  clear HB_11 BASE_8
  have HB_13 := Lib.hid (show Below w3.heap.size w3 w3 from Below.refl _ _)
  have LS := Lib.hid (fun (k : Nat) (hk : k < z.m) => show (spr z 200 (sigD z 200 k)).Lim 60 140 from (spread_lim z.n 200 (fun i hi => LZ.out.g _ i (sigD_lt z 200 hk) hi)).mono (by omega) (by omega))
  have q20 : ((z.m : Int) != (z.m : Int)) = false := by simp
  have lz := Bz_10.out.lt
  obtain ⟨cz0, cz1, cz2⟩ := Bz_10.out.cells3
  go_wp2_with fail
  go_loopw [34] (fun k wr => ∃ i : Nat, k = .int .i64 i ∧ i ≤ z.m ∧ Hid (Below w3.heap.size w3 wr)) (fun k _ => z.m - (intOf k).toNat)
  case atStart => exact ⟨0, rfl, Nat.zero_le _, HB_13⟩
  case round =>
    obtain ⟨i, rfl, hi, Hr⟩ := hrel
    by_cases hi2 : i < z.m
    · have q3 : (i : Int) < (z.m : Int) := by omega
      obtain ⟨A1, o1, rfl, hl1, hcc⟩ := LN.out.2.2 (by omega)
      obtain ⟨q, z0, z1, z2, hq⟩ := hcc i hi2
      have X0 := Lib.hid z0
      have X1 := Lib.hid z1
      have X2 := Lib.hid z2
      have RQ := Lib.hid (hq.below Hr.out)
      clear z0 z1 z2 hq
      obtain ⟨sg, hsg⟩ : ∃ sg, sg = sgn (spr z 200 (sigD z 200 i)).z := ⟨_, rfl⟩
      have q9 : ¬ sg < 0 := by have h1 := spread_nonneg (z.g (sigD z 200 i)) z.n 200; have h2 : ¬ (spr z 200 (sigD z 200 i)).z < 0 := fun h => absurd h1 (Rat.not_le.2 (val_neg.2 h)); have := sgn_cases (spr z 200 (sigD z 200 i)).z; omega
      have SG := Lib.hid hsg.symm
      clear hsg
      have q9b : (sg < 0) = False := eq_false q9
      clear q9
      by_cases hi0 : i = 0
      · subst hi0
        replace X0 := Lib.hid (show w3.cell? ⟨A1, o1, none⟩ = some (.bool q.b) from X0.out)
        replace X1 := Lib.hid (show w3.cell? ⟨A1, o1 + 1, none⟩ = some (.slice q.A q.n q.c) from X1.out)
        replace X2 := Lib.hid (show w3.cell? ⟨A1, o1 + 2, none⟩ = some (.int .i64 (spr z 200 (sigD z 200 0)).x) from X2.out)
        clear hcc
        have hsg01 : sg = 0 ∨ sg = 1 := by have h1 := spread_nonneg (z.g (sigD z 200 0)) z.n 200; have h2 : ¬ (spr z 200 (sigD z 200 0)).z < 0 := fun h => absurd h1 (Rat.not_le.2 (val_neg.2 h)); have := sgn_cases (spr z 200 (sigD z 200 0)).z; have := SG.out; omega
        clear q9b
        have cc0 : wr.cell? ⟨A1, o1, none⟩ = some (.bool q.b) := (Hr.out.cell (p := ⟨A1, o1, none⟩) hl1).trans X0.out
        have cc1 : wr.cell? ⟨A1, o1 + 1, none⟩ = some (.slice q.A q.n q.c) := (Hr.out.cell (p := ⟨A1, o1 + 1, none⟩) hl1).trans X1.out
        have cc2 : wr.cell? ⟨A1, o1 + 2, none⟩ = some (.int .i64 (spr z 200 (sigD z 200 0)).x) := (Hr.out.cell (p := ⟨A1, o1 + 2, none⟩) hl1).trans X2.out
        rcases hsg01 with hs | hs
        · subst hs
          go_upto_region 12 with (fail)
          clear cc0 cc1 cc2
          have K : Dk wr (wr.alloc (.cells #[.bool q.b, .slice q.A q.n q.c, .int .i64 (spr z 200 (sigD z 200 0)).x] 53)) := ((Dk.refl _).alloc _)
          have Bx_15 := Lib.hid (show Bk (wr.alloc (.cells #[.bool q.b, .slice q.A q.n q.c, .int .i64 (spr z 200 (sigD z 200 0)).x] 53)) (wr.heap.size) 53 #[.bool q.b, .slice q.A q.n q.c, .int .i64 (spr z 200 (sigD z 200 0)).x] from (Bk.new _ 53 #[.bool q.b, .slice q.A q.n q.c, .int .i64 (spr z 200 (sigD z 200 0)).x]))
          have HB_16 := Lib.hid (show Below w3.heap.size w3 (wr.alloc (.cells #[.bool q.b, .slice q.A q.n q.c, .int .i64 (spr z 200 (sigD z 200 0)).x] 53)) from (below_al Hr.out _))
          have RQ_17 := Lib.hid (RQ.out.dk K)
          clear K Hr RQ
          generalize wr.alloc (.cells #[.bool q.b, .slice q.A q.n q.c, .int .i64 (spr z 200 (sigD z 200 0)).x] 53) = w4 at *
          have lx := Bx_15.out.lt
          obtain ⟨cx0, cx1, cx2⟩ := Bx_15.out.cells3
          have cc0 : w4.cell? ⟨A1, o1, none⟩ = some (.bool q.b) := (HB_16.out.cell (p := ⟨A1, o1, none⟩) hl1).trans X0.out
          have cc1 : w4.cell? ⟨A1, o1 + 1, none⟩ = some (.slice q.A q.n q.c) := (HB_16.out.cell (p := ⟨A1, o1 + 1, none⟩) hl1).trans X1.out
          have cc2 : w4.cell? ⟨A1, o1 + 2, none⟩ = some (.int .i64 (spr z 200 (sigD z 200 0)).x) := (HB_16.out.cell (p := ⟨A1, o1 + 2, none⟩) hl1).trans X2.out
          have tok_18 : True := trivial
          first
          | go_region_with
              (first
               | (clear tok_18; go_at_call 34; refine (dsign_s _ q (spr z 200 (sigD z 200 0)) 0 (RQ_17.out.dk ((Dk.refl _).drew)) SG.out).mono ?_; rintro e w5 ⟨rfl, hb⟩; clear lx cx0 cx1 cx2 cc0 cc1 cc2; have K := Dk.trans ((Dk.refl _).drew) (.below hb); have Bx_19 := Lib.hid (show Bk _ _ _ #[.bool q.b, .slice q.A q.n q.c, .int .i64 (spr z 200 (sigD z 200 0)).x] from (Bx_15.out.drew).below hb); have HB_20 := Lib.hid (below_tr (below_dr HB_16.out) hb); clear hb; have RQ_21 := Lib.hid (RQ_17.out.dk K); clear K Bx_15 HB_16 RQ_17; have lx := Bx_19.out.lt; obtain ⟨cx0, cx1, cx2⟩ := Bx_19.out.cells3; have cc0 : w5.cell? ⟨A1, o1, none⟩ = some (.bool q.b) := (HB_20.out.cell (p := ⟨A1, o1, none⟩) hl1).trans X0.out; have cc1 : w5.cell? ⟨A1, o1 + 1, none⟩ = some (.slice q.A q.n q.c) := (HB_20.out.cell (p := ⟨A1, o1 + 1, none⟩) hl1).trans X1.out; have cc2 : w5.cell? ⟨A1, o1 + 2, none⟩ = some (.int .i64 (spr z 200 (sigD z 200 0)).x) := (HB_20.out.cell (p := ⟨A1, o1 + 2, none⟩) hl1).trans X2.out))
          | fail
          all_goals (go_wp2_with fail; go_roundw)
          all_goals first | (exact ⟨1, by go_num, by omega, Lib.hid (HB_20.out)⟩) | (simp only [intOf]; omega)
        · subst hs
          go_upto_region 12 with (fail)
          clear cc0 cc1 cc2
          have K : Dk wr (wr.alloc (.cells #[.bool q.b, .slice q.A q.n q.c, .int .i64 (spr z 200 (sigD z 200 0)).x] 53)) := ((Dk.refl _).alloc _)
          have Bx_215 := Lib.hid (show Bk (wr.alloc (.cells #[.bool q.b, .slice q.A q.n q.c, .int .i64 (spr z 200 (sigD z 200 0)).x] 53)) (wr.heap.size) 53 #[.bool q.b, .slice q.A q.n q.c, .int .i64 (spr z 200 (sigD z 200 0)).x] from (Bk.new _ 53 #[.bool q.b, .slice q.A q.n q.c, .int .i64 (spr z 200 (sigD z 200 0)).x]))
          have HB_216 := Lib.hid (show Below w3.heap.size w3 (wr.alloc (.cells #[.bool q.b, .slice q.A q.n q.c, .int .i64 (spr z 200 (sigD z 200 0)).x] 53)) from (below_al Hr.out _))
          have RQ_217 := Lib.hid (RQ.out.dk K)
          clear K Hr RQ
          generalize wr.alloc (.cells #[.bool q.b, .slice q.A q.n q.c, .int .i64 (spr z 200 (sigD z 200 0)).x] 53) = w4 at *
          have lx := Bx_215.out.lt
          obtain ⟨cx0, cx1, cx2⟩ := Bx_215.out.cells3
          have cc0 : w4.cell? ⟨A1, o1, none⟩ = some (.bool q.b) := (HB_216.out.cell (p := ⟨A1, o1, none⟩) hl1).trans X0.out
          have cc1 : w4.cell? ⟨A1, o1 + 1, none⟩ = some (.slice q.A q.n q.c) := (HB_216.out.cell (p := ⟨A1, o1 + 1, none⟩) hl1).trans X1.out
          have cc2 : w4.cell? ⟨A1, o1 + 2, none⟩ = some (.int .i64 (spr z 200 (sigD z 200 0)).x) := (HB_216.out.cell (p := ⟨A1, o1 + 2, none⟩) hl1).trans X2.out
          have tok_218 : True := trivial
          first
          | go_region_with
              (first
               | (clear tok_218; go_at_call 34; refine (dsign_s _ q (spr z 200 (sigD z 200 0)) 1 (RQ_217.out.dk ((Dk.refl _).drew)) SG.out).mono ?_; rintro e w5 ⟨rfl, hb⟩; clear lx cx0 cx1 cx2 cc0 cc1 cc2; have K := Dk.trans ((Dk.refl _).drew) (.below hb); have Bx_219 := Lib.hid (show Bk _ _ _ #[.bool q.b, .slice q.A q.n q.c, .int .i64 (spr z 200 (sigD z 200 0)).x] from (Bx_215.out.drew).below hb); have HB_220 := Lib.hid (below_tr (below_dr HB_216.out) hb); clear hb; have RQ_221 := Lib.hid (RQ_217.out.dk K); clear K Bx_215 HB_216 RQ_217; have lx := Bx_219.out.lt; obtain ⟨cx0, cx1, cx2⟩ := Bx_219.out.cells3; have cc0 : w5.cell? ⟨A1, o1, none⟩ = some (.bool q.b) := (HB_220.out.cell (p := ⟨A1, o1, none⟩) hl1).trans X0.out; have cc1 : w5.cell? ⟨A1, o1 + 1, none⟩ = some (.slice q.A q.n q.c) := (HB_220.out.cell (p := ⟨A1, o1 + 1, none⟩) hl1).trans X1.out; have cc2 : w5.cell? ⟨A1, o1 + 2, none⟩ = some (.int .i64 (spr z 200 (sigD z 200 0)).x) := (HB_220.out.cell (p := ⟨A1, o1 + 2, none⟩) hl1).trans X2.out))
          | fail
          all_goals (go_wp2_with fail; go_roundw)
          all_goals first | (exact ⟨1, by go_num, by omega, Lib.hid (HB_220.out)⟩) | (simp only [intOf]; omega)
      · obtain ⟨k, hk⟩ : ∃ k, i = k + 1 := ⟨i - 1, by omega⟩
        have e1 : (i : Int) - 1 = (k : Int) := by omega
        have w1e : IntKind.i64.wrap (k : Int) = (k : Int) := by rw [IntKind.wrap_i64]; omega
        have q5 : (0 : Int) < (i : Int) := by omega
        have q6 : 0 < i := by omega
        have q7 : (k : Int) < (z.m : Int) := by omega
        have q8 : k < z.m := by omega
        have EK := Lib.hid hk
        clear hk hi0
        obtain ⟨p, y0, y1, y2, hp⟩ := hcc k q8
        have Y0 := Lib.hid y0
        have Y1 := Lib.hid y1
        have Y2 := Lib.hid y2
        have RP := Lib.hid (hp.below Hr.out)
        clear y0 y1 y2 hp hcc
        have NL := Lib.hid (show decide ((spr z 200 (sigD z 200 k)).cmp (spr z 200 (sigD z 200 i)) < 0) = false from not_less (sigD_sorted z 200 (by have := EK.out; omega) hi2))
        have cc0 : wr.cell? ⟨A1, o1 + i * 3, none⟩ = some (.bool q.b) := (Hr.out.cell (p := ⟨A1, o1 + i * 3, none⟩) hl1).trans X0.out
        have cc1 : wr.cell? ⟨A1, o1 + i * 3 + 1, none⟩ = some (.slice q.A q.n q.c) := (Hr.out.cell (p := ⟨A1, o1 + i * 3 + 1, none⟩) hl1).trans X1.out
        have cc2 : wr.cell? ⟨A1, o1 + i * 3 + 2, none⟩ = some (.int .i64 (spr z 200 (sigD z 200 i)).x) := (Hr.out.cell (p := ⟨A1, o1 + i * 3 + 2, none⟩) hl1).trans X2.out
        have cd0 : wr.cell? ⟨A1, o1 + k * 3, none⟩ = some (.bool p.b) := (Hr.out.cell (p := ⟨A1, o1 + k * 3, none⟩) hl1).trans Y0.out
        have cd1 : wr.cell? ⟨A1, o1 + k * 3 + 1, none⟩ = some (.slice p.A p.n p.c) := (Hr.out.cell (p := ⟨A1, o1 + k * 3 + 1, none⟩) hl1).trans Y1.out
        have cd2 : wr.cell? ⟨A1, o1 + k * 3 + 2, none⟩ = some (.int .i64 (spr z 200 (sigD z 200 k)).x) := (Hr.out.cell (p := ⟨A1, o1 + k * 3 + 2, none⟩) hl1).trans Y2.out
        go_upto_region 12 with (fail)
        clear cc0 cc1 cc2 cd0 cd1 cd2
        have K : Dk wr (wr.alloc (.cells #[.bool q.b, .slice q.A q.n q.c, .int .i64 (spr z 200 (sigD z 200 i)).x] 53)) := ((Dk.refl _).alloc _)
        have Bx_116 := Lib.hid (show Bk (wr.alloc (.cells #[.bool q.b, .slice q.A q.n q.c, .int .i64 (spr z 200 (sigD z 200 i)).x] 53)) (wr.heap.size) 53 #[.bool q.b, .slice q.A q.n q.c, .int .i64 (spr z 200 (sigD z 200 i)).x] from (Bk.new _ 53 #[.bool q.b, .slice q.A q.n q.c, .int .i64 (spr z 200 (sigD z 200 i)).x]))
        have HB_117 := Lib.hid (show Below w3.heap.size w3 (wr.alloc (.cells #[.bool q.b, .slice q.A q.n q.c, .int .i64 (spr z 200 (sigD z 200 i)).x] 53)) from (below_al Hr.out _))
        have RQ_118 := Lib.hid (RQ.out.dk K)
        have RP_119 := Lib.hid (RP.out.dk K)
        clear K Hr RQ RP
        generalize wr.alloc (.cells #[.bool q.b, .slice q.A q.n q.c, .int .i64 (spr z 200 (sigD z 200 i)).x] 53) = w4 at *
        have lx := Bx_116.out.lt
        obtain ⟨cx0, cx1, cx2⟩ := Bx_116.out.cells3
        have cd0 : w4.cell? ⟨A1, o1 + k * 3, none⟩ = some (.bool p.b) := (HB_117.out.cell (p := ⟨A1, o1 + k * 3, none⟩) hl1).trans Y0.out
        have cd1 : w4.cell? ⟨A1, o1 + k * 3 + 1, none⟩ = some (.slice p.A p.n p.c) := (HB_117.out.cell (p := ⟨A1, o1 + k * 3 + 1, none⟩) hl1).trans Y1.out
        have cd2 : w4.cell? ⟨A1, o1 + k * 3 + 2, none⟩ = some (.int .i64 (spr z 200 (sigD z 200 k)).x) := (HB_117.out.cell (p := ⟨A1, o1 + k * 3 + 2, none⟩) hl1).trans Y2.out
        obtain ⟨SX1, hS1⟩ : ∃ S : World → Prop, ∀ w', S w' ↔ (w'.cell? ⟨wr.heap.size, 0, none⟩ = some (.bool q.b) ∧ w'.cell? ⟨wr.heap.size, 1, none⟩ = some (.slice q.A q.n q.c) ∧ w'.cell? ⟨wr.heap.size, 2, none⟩ = some (.int .i64 (spr z 200 (sigD z 200 i)).x) ∧ w'.cell? ⟨A1, o1 + k * 3, none⟩ = some (.bool p.b) ∧ w'.cell? ⟨A1, o1 + k * 3 + 1, none⟩ = some (.slice p.A p.n p.c) ∧ w'.cell? ⟨A1, o1 + k * 3 + 2, none⟩ = some (.int .i64 (spr z 200 (sigD z 200 k)).x)) := ⟨_, fun _ => Iff.rfl⟩
        have k_120 : SX1 (w4) := (hS1 _).2 ⟨Bx_116.out.cell 0 rfl, Bx_116.out.cell 1 rfl, Bx_116.out.cell 2 rfl, (Below.cell (p := ⟨A1, o1 + k * 3, none⟩) HB_117.out hl1).trans Y0.out, (Below.cell (p := ⟨A1, o1 + k * 3 + 1, none⟩) HB_117.out hl1).trans Y1.out, (Below.cell (p := ⟨A1, o1 + k * 3 + 2, none⟩) HB_117.out hl1).trans Y2.out⟩
        have k_121 : SX1 (w4.drew) := (hS1 _).2 ⟨(Bx_116.out.drew).cell 0 rfl, (Bx_116.out.drew).cell 1 rfl, (Bx_116.out.drew).cell 2 rfl, (Below.cell (p := ⟨A1, o1 + k * 3, none⟩) (below_dr HB_117.out) hl1).trans Y0.out, (Below.cell (p := ⟨A1, o1 + k * 3 + 1, none⟩) (below_dr HB_117.out) hl1).trans Y1.out, (Below.cell (p := ⟨A1, o1 + k * 3 + 2, none⟩) (below_dr HB_117.out) hl1).trans Y2.out⟩
        have tok_122 : True := trivial
        have tok_123 : True := trivial
        go_region_held3 (fun w' => w'.cell? ⟨wr.heap.size, 0, none⟩ = some (.bool q.b) ∧ w'.cell? ⟨wr.heap.size, 1, none⟩ = some (.slice q.A q.n q.c) ∧ w'.cell? ⟨wr.heap.size, 2, none⟩ = some (.int .i64 (spr z 200 (sigD z 200 i)).x) ∧ w'.cell? ⟨A1, o1 + k * 3, none⟩ = some (.bool p.b) ∧ w'.cell? ⟨A1, o1 + k * 3 + 1, none⟩ = some (.slice p.A p.n p.c) ∧ w'.cell? ⟨A1, o1 + k * 3 + 2, none⟩ = some (.int .i64 (spr z 200 (sigD z 200 k)).x)) (first | with_reducible exact (hS1 _).1 k_120 | with_reducible exact (hS1 _).1 k_121 | with_reducible exact (hS1 _).1 k_128 | with_reducible exact (hS1 _).1 k_133)
          (first
           | (clear tok_122; go_at_call 34; refine (dsign_s _ q (spr z 200 (sigD z 200 i)) sg (RQ_118.out.dk ((Dk.refl _).drew)) SG.out).mono ?_; rintro e w5 ⟨rfl, hb⟩; clear lx cx0 cx1 cx2 cd0 cd1 cd2 k_120 k_121; have K := Dk.trans ((Dk.refl _).drew) (.below hb); have Bx_124 := Lib.hid (show Bk _ _ _ #[.bool q.b, .slice q.A q.n q.c, .int .i64 (spr z 200 (sigD z 200 i)).x] from (Bx_116.out.drew).below hb); have HB_125 := Lib.hid (below_tr (below_dr HB_117.out) hb); clear hb; have RQ_126 := Lib.hid (RQ_118.out.dk K); have RP_127 := Lib.hid (RP_119.out.dk K); clear K Bx_116 HB_117 RQ_118 RP_119; have lx := Bx_124.out.lt; obtain ⟨cx0, cx1, cx2⟩ := Bx_124.out.cells3; have cd0 : w5.cell? ⟨A1, o1 + k * 3, none⟩ = some (.bool p.b) := (HB_125.out.cell (p := ⟨A1, o1 + k * 3, none⟩) hl1).trans Y0.out; have cd1 : w5.cell? ⟨A1, o1 + k * 3 + 1, none⟩ = some (.slice p.A p.n p.c) := (HB_125.out.cell (p := ⟨A1, o1 + k * 3 + 1, none⟩) hl1).trans Y1.out; have cd2 : w5.cell? ⟨A1, o1 + k * 3 + 2, none⟩ = some (.int .i64 (spr z 200 (sigD z 200 k)).x) := (HB_125.out.cell (p := ⟨A1, o1 + k * 3 + 2, none⟩) hl1).trans Y2.out; have k_128 : SX1 (w5) := (hS1 _).2 ⟨Bx_124.out.cell 0 rfl, Bx_124.out.cell 1 rfl, Bx_124.out.cell 2 rfl, (Below.cell (p := ⟨A1, o1 + k * 3, none⟩) HB_125.out hl1).trans Y0.out, (Below.cell (p := ⟨A1, o1 + k * 3 + 1, none⟩) HB_125.out hl1).trans Y1.out, (Below.cell (p := ⟨A1, o1 + k * 3 + 2, none⟩) HB_125.out hl1).trans Y2.out⟩)
           | (clear tok_123; go_at_call 29; refine (dless_is _ p q (spr z 200 (sigD z 200 k)) (spr z 200 (sigD z 200 i)) 60 140 false RP_127.out RQ_126.out (LS.out k q8) (LS.out i hi2) (by omega) NL.out).mono ?_; rintro e w6 ⟨rfl, hb⟩; clear lx cx0 cx1 cx2 cd0 cd1 cd2 k_128; have K := Dk.below hb; have Bx_129 := Lib.hid (show Bk _ _ _ #[.bool q.b, .slice q.A q.n q.c, .int .i64 (spr z 200 (sigD z 200 i)).x] from Bx_124.out.below hb); have HB_130 := Lib.hid (below_tr HB_125.out hb); clear hb; have RQ_131 := Lib.hid (RQ_126.out.dk K); have RP_132 := Lib.hid (RP_127.out.dk K); clear K Bx_124 HB_125 RQ_126 RP_127; have lx := Bx_129.out.lt; obtain ⟨cx0, cx1, cx2⟩ := Bx_129.out.cells3; have cd0 : w6.cell? ⟨A1, o1 + k * 3, none⟩ = some (.bool p.b) := (HB_130.out.cell (p := ⟨A1, o1 + k * 3, none⟩) hl1).trans Y0.out; have cd1 : w6.cell? ⟨A1, o1 + k * 3 + 1, none⟩ = some (.slice p.A p.n p.c) := (HB_130.out.cell (p := ⟨A1, o1 + k * 3 + 1, none⟩) hl1).trans Y1.out; have cd2 : w6.cell? ⟨A1, o1 + k * 3 + 2, none⟩ = some (.int .i64 (spr z 200 (sigD z 200 k)).x) := (HB_130.out.cell (p := ⟨A1, o1 + k * 3 + 2, none⟩) hl1).trans Y2.out; have k_133 : SX1 (w6) := (hS1 _).2 ⟨Bx_129.out.cell 0 rfl, Bx_129.out.cell 1 rfl, Bx_129.out.cell 2 rfl, (Below.cell (p := ⟨A1, o1 + k * 3, none⟩) HB_130.out hl1).trans Y0.out, (Below.cell (p := ⟨A1, o1 + k * 3 + 1, none⟩) HB_130.out hl1).trans Y1.out, (Below.cell (p := ⟨A1, o1 + k * 3 + 2, none⟩) HB_130.out hl1).trans Y2.out⟩))
        go_wp2_with fail
        go_roundw
        case rel => exact ⟨i + 1, by go_num, hi2, Lib.hid (HB_130.out)⟩
        case measure => simp only [intOf]; omega
    · obtain rfl : i = z.m := by omega
      go_wp2
      go_ret
      exact ⟨rfl, below_tr BASE_12.out Hr.out⟩

end Go.Proofs.YtgioppkggpfnoaaDoor.Nu
end
