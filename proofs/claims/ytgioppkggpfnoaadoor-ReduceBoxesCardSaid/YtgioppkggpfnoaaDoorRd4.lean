/- Texts of the seat, laid together: Norm, Rounder, Order, Doubled, Along, Merge, FewP, FewM. -/
import Derived.Test.YtgioppkggpfnoaaDoorRd3
import Derived.RegionTactic
import Derived.StillTailTactics
import Derived.Deep.RegionHeld3
import Derived.Deep.DeepCutAuto
import Derived.Deep.CutBlock
set_option linter.all false
set_option exponentiation.threshold 20000
section
/- The walk of reduce.Norm. -/
set_option linter.unusedVariables false
namespace Go.Proofs.YtgioppkggpfnoaaDoor.Nu
open Go.RowKit Go.Proofs

theorem new_row1 (w : World) (o : Obj) (xs : List Value) (t : TypeId) (j : Nat) (u : Value) (h : xs[j]? = some u) : ((w.alloc o).alloc (.cells xs.toArray t)).cell? ((⟨w.heap.size + 1, 0, none⟩ : Addr).add j) = some u := by
  rw [Addr.add_lit, Nat.zero_add]
  exact (Bk.new_1 w o t xs.toArray).cell j (by simpa using h)
theorem one3 {b : Bool} {A : Option Addr} {n c : Nat} {x : Int} : ∀ u ∈ ([Value.bool b, .slice A n c, .int .i64 x] : List Value), u.oneCell' = true := by
  intro u hu
  simp only [List.mem_cons, List.not_mem_nil, or_false] at hu
  rcases hu with rfl | rfl | rfl <;> rfl
theorem no3 {b : Bool} {A : Option Addr} {n c : Nat} {x : Int} : ∀ u ∈ ([Value.bool b, .slice A n c, .int .i64 x] : List Value), ∀ y : Int, u ≠ .int .u32 y := by
  intro u hu y
  simp only [List.mem_cons, List.not_mem_nil, or_false] at hu
  rcases hu with rfl | rfl | rfl <;> intro h <;> cases h
theorem no_dyad : NoU (Value.agg #[.bool false, .slice none 0 0, .int .i64 0]).cells := by
  intro u hu
  have hu' : u ∈ [Value.bool false, .slice none 0 0, .int .i64 0] := by simpa [Value.cells] using hu
  exact no3 u hu'
/-- The state ahead of a way: so many spreads are told. -/
def NormRel (f : Nat → D) (w0 : World) (i : Nat) (v : Value) (wr : World) : Prop :=
  Below w0.heap.size w0 wr ∧ ∃ xs, OW wr 53 3 v i xs ∧ (∀ g, v.ownBlock = some g → w0.heap.size ≤ g) ∧ (∀ j, j < i → inD wr xs.toArray j (f j)) ∧ (i = 0 → v = .slice none 0 0)
theorem inD.app {w : World} {xs ys : List Value} {j i : Nat} {d : D} (h : inD w xs.toArray j d) (hl : xs.length = i * 3) (hj : j < i) : inD w (xs ++ ys).toArray j d := by
  have hlt : ∀ c, c < 3 → (xs ++ ys).toArray[j * 3 + c]? = xs.toArray[j * 3 + c]? := fun c hc => by
    simp only [List.getElem?_toArray]
    exact List.getElem?_append_left (by omega)
  obtain ⟨q, a0, a1, a2, hr⟩ := h
  exact ⟨q, (hlt 0 (by omega)).trans a0, (hlt 1 (by omega)).trans a1, (hlt 2 (by omega)).trans a2, hr⟩
theorem inD.last {w : World} {xs : List Value} {i : Nat} {q : Q} {d : D} (hl : xs.length = i * 3) (hr : RD w q d) : inD w (xs ++ ([Value.bool q.b, .slice q.A q.n q.c, .int .i64 d.x] : List Value)).toArray i d := by
  have hlt : ∀ c, (xs ++ ([Value.bool q.b, .slice q.A q.n q.c, .int .i64 d.x] : List Value)).toArray[i * 3 + c]? = ([Value.bool q.b, .slice q.A q.n q.c, .int .i64 d.x] : List Value)[c]? := fun c => by
    simp only [List.getElem?_toArray]
    rw [List.getElem?_append_right (by omega), show i * 3 + c - xs.length = c by omega]
  exact ⟨q, hlt 0, hlt 1, hlt 2, hr⟩
theorem norm_next {w0 wr wb w6 : World} {f : Nat → D} {i : Nat} {v v' : Value} {xs : List Value} {q : Q} (hb : Below w0.heap.size w0 wb) (ho : OW wb 53 3 v i xs) (hg0 : ∀ g, v.ownBlock = some g → w0.heap.size ≤ g)
    (hn : OW w6 53 3 v' (i + 1) (xs ++ [.bool q.b, .slice q.A q.n q.c, .int .i64 (f i).x])) (hg : wb.grownBy w6 v.ownBlock) (hk : Dk wb w6) (hob : v'.ownBlock = v.ownBlock ∨ v'.ownBlock = some wb.heap.size) (hd : Dk wr wb)
    (he : ∀ j, j < i → inD wr xs.toArray j (f j)) (hq : RD wb q (f i)) : NormRel f w0 (i + 1) v' w6 := by
  refine ⟨hb.grown hg hb.size hg0, _, hn, fun g h => ?_, fun j hj => ?_, fun h => by omega⟩
  · rcases hob with e | e
    · exact hg0 g (e ▸ h)
    · rw [h] at e
      injection e with e
      have := hb.size
      omega
  · by_cases e : j = i
    · subst e
      exact inD.last ho.1 (hq.dk hk)
    · exact (((he j (by omega)).dk hd).dk hk).app ho.1 (by omega)
theorem norm_nil {f : Nat → D} {w0 wr : World} {n : Nat} {v : Value} (h : NormRel f w0 n v wr) (h0 : n = 0) : v = .slice none 0 0 := by
  obtain ⟨_, xs, _, _, _, h1⟩ := h
  exact h1 h0
theorem norm_rows {F : Nat → D} {w0 wr : World} {n : Nat} {v : Value} (h : NormRel F w0 n v wr) (h0 : 0 < n) : ∃ (g cap : Nat) (q : Nat → Q), v = .slice (some ⟨g, 0, none⟩) n cap ∧ n ≤ cap ∧ w0.heap.size ≤ g ∧
    CR wr g 53 3 n (fun i c => [.bool (q i).b, .slice (q i).A (q i).n (q i).c, .int .i64 (F i).x].getD c undef) ∧ ∀ j, j < n → RD wr (q j) (F j) := by
  obtain ⟨_, xs, ho, hg, he, _⟩ := h
  have h2 : ∀ j, ∃ q : Q, j < n → xs.toArray[j * 3]? = some (.bool q.b) ∧ xs.toArray[j * 3 + 1]? = some (.slice q.A q.n q.c) ∧ xs.toArray[j * 3 + 2]? = some (.int .i64 (F j).x) ∧ RD wr q (F j) := fun j => by
    by_cases hj : j < n
    · obtain ⟨q, a, b, c, d⟩ := he j hj
      exact ⟨q, fun _ => ⟨a, b, c, d⟩⟩
    · exact ⟨Q.nil, fun e => absurd e hj⟩
  obtain ⟨g, cap, rfl, hc, hcr⟩ := ho.cr (e := fun i c => [.bool (Classical.choose (h2 i)).b, .slice (Classical.choose (h2 i)).A (Classical.choose (h2 i)).n (Classical.choose (h2 i)).c, .int .i64 (F i).x].getD c undef) h0 (fun j c hj hc => by
    obtain ⟨a0, a1, a2, _⟩ := Classical.choose_spec (h2 j) hj
    match c, hc with
    | 0, _ => simpa using a0
    | 1, _ => simpa using a1
    | 2, _ => simpa using a2)
  exact ⟨g, cap, fun j => Classical.choose (h2 j), rfl, hc, hg g rfl, hcr, fun j hj => (Classical.choose_spec (h2 j) hj).2.2.2⟩
theorem norm_sorted {F : Nat → D} {w w' : World} {g n cap : Nat} {q : Nat → Q} (hcap : n ≤ cap) (hn : n ≤ 12) (hr : ∀ j, j < n → RD w (q j) (F j)) (h : IsRel w g 53 3 n (fun i c => [.bool (q i).b, .slice (q i).A (q i).n (q i).c, .int .i64 (F i).x].getD c undef) (Sort.insertionSort (fun x y => decide ((F y).cmp (F x) < 0)) (Array.range n) 0 n) w') :
    RDs w' (some ⟨g, 0, none⟩) n cap (fun k => F (srt (fun x y => decide ((F y).cmp (F x) < 0)) n k)) := by
  refine ⟨hcap, by omega, fun _ => ⟨g, 0, rfl, h.row.lt, fun j hj => ?_⟩⟩
  have hl := h.lt j hj
  rw [Nat.zero_add]
  exact ⟨q (srt (fun x y => decide ((F y).cmp (F x) < 0)) n j), h.row.cell (i := j) (c := 0) hj (by omega), h.row.cell (i := j) (c := 1) hj (by omega), h.row.cell (i := j) (c := 2) hj (by omega), (hr _ hl).dk h.dk⟩

set_option maxRecDepth 100000 in
set_option maxHeartbeats 4000000 in
theorem norm_any (w : World) (Ac Ag Ar : Option Addr) (cc cg cr : Nat) (z : Zo) (bits : Nat) (E T : Nat) (h : RZo w ⟨Ac, cc, Ag, cg, Ar, cr⟩ z) (lz : z.Lim E T) (hm : z.m ≤ 12) (hET : E + T + 2 * z.n + 4 ≤ 16000) (hb2 : 2 ≤ bits) (hb3 : bits ≤ 4096) (ht : BTab w) :
    Calls Tryd.prog 55 #[.agg #[.slice Ac z.n cc, .slice Ag z.m cg, .slice Ar z.n cr], .int .i64 bits] w fun e w' => (∃ (A : Option Addr) (c : Nat), e = .returned (.tuple #[.slice A z.m c, .int .i64 0]) ∧ RDs w' A z.m c (fun k => spr z bits (sigD z bits k))) ∧ Below w.heap.size w w' := by
  have HZ := Lib.hid h
  have LZ := Lib.hid lz
  have HT := Lib.hid ht
  have HGG := Lib.hid (show RDss w Ag z.m cg z.n z.g from h.g)
  have n0 := h.c.2.1
  clear h lz ht
  have BX := Lib.hid (boxes1 w 42 #[.slice Ac z.n cc, .slice Ag z.m cg, .slice Ar z.n cr])
  go_enter Tryd.func55, Tryd.ntmps55
  go_wp2_with fail
  generalize w.alloc (.cells #[.slice Ac z.n cc, .slice Ag z.m cg, .slice Ar z.n cr] 42) = w0 at *
  obtain ⟨b0, hw⟩ := BX.out
  have Bz_0 := Lib.hid b0
  have HB_0 := Lib.hid hw
  have K := Dk.below (hw.mono (Nat.le_refl _))
  clear BX hw b0
  clear K
  have hs0 := HB_0.out.size
  have H0 := Lib.hid (show NormRel (spr z bits) w0 0 (.slice none 0 0) w0 from ⟨Below.refl _ _, [], OW.nil _ _ _, (fun g hg => by cases hg), (fun j hj => absurd hj (by omega)), fun _ => rfl⟩)
  obtain ⟨i0, hi0, hz0, hz1, hz2⟩ := info_parts infoD
  have lz := Bz_0.out.lt
  obtain ⟨cz0, cz1, cz2⟩ := Bz_0.out.cells3
  go_wp2_with fail
  clear lz cz0 cz1 cz2
  go_loopw [6, 14] (fun s6 k wr => ∃ (i : Nat) (v : Value), k = .int .i64 i ∧ v = s6 ∧ i ≤ z.m ∧ Hid (NormRel (spr z bits) w0 i v wr)) (fun _ k _ => z.m - (intOf k).toNat)
  case atStart => exact ⟨0, _, rfl, rfl, Nat.zero_le _, H0⟩
  case round =>
    clear H0
    obtain ⟨i, v, rfl, rfl, hi, Hr⟩ := hrel
    by_cases hi2 : i < z.m
    · have q3 : (i : Int) < (z.m : Int) := by omega
      obtain ⟨hbel, xs, hown, hgb, hels, _⟩ := Hr.out
      have HBR := Lib.hid hbel
      have HOW := Lib.hid hown
      have HGB := Lib.hid hgb
      have HEL := Lib.hid hels
      clear hbel hown hgb hels Hr
      have HBW := Lib.hid (below_tr HB_0.out HBR.out)
      obtain ⟨A1, o1, rfl, hl1, hcc⟩ := HGG.out.2.2 (by omega)
      obtain ⟨A2, c2, z0, hrow⟩ := hcc i hi2
      have x0 := (HBW.out.cell (p := ⟨A1, o1 + i, none⟩) hl1).trans z0
      have RO := Lib.hid hrow
      clear hcc z0 hrow
      go_wp2_with fail
      refine (spread_any _ A2 z.n c2 (z.g i) bits E T (RO.out.below HBW.out) (fun j hj => LZ.out.g i j hi2 hj) hET hb2 hb3 (HT.out.below HBW.out)).mono ?_
      rintro e w5 ⟨⟨r, rfl, hr⟩, hb⟩
      have RR := Lib.hid (show RD w5 r (spr z bits i) from hr)
      have HB5 := Lib.hid hb
      clear hb hr x0
      rw [show (spread (z.g i) z.n bits) = (spr z bits i) from rfl]
      have HOW5 := Lib.hid (((HOW.out.below HB5.out).al (.cells #[.bool r.b, .slice r.A r.n r.c, .int .i64 (spr z bits i).x] 53)).al (.cells #[.bool r.b, .slice r.A r.n r.c, .int .i64 (spr z bits i).x] 53))
      have HNW := Lib.hid (new_row1 w5 (.cells #[.bool r.b, .slice r.A r.n r.c, .int .i64 (spr z bits i).x] 53) [.bool r.b, .slice r.A r.n r.c, .int .i64 (spr z bits i).x] 53)
      have HBA := Lib.hid (below_al (below_al (HBR.out.trans (HB5.out.mono HBR.out.size)) (.cells #[.bool r.b, .slice r.A r.n r.c, .int .i64 (spr z bits i).x] 53)) (.cells #[.bool r.b, .slice r.A r.n r.c, .int .i64 (spr z bits i).x] 53))
      have HDK := Lib.hid (((Dk.below HB5.out).alloc (.cells #[.bool r.b, .slice r.A r.n r.c, .int .i64 (spr z bits i).x] 53)).alloc (.cells #[.bool r.b, .slice r.A r.n r.c, .int .i64 (spr z bits i).x] 53))
      have HD2 := Lib.hid (((Dk.refl w5).alloc (.cells #[.bool r.b, .slice r.A r.n r.c, .int .i64 (spr z bits i).x] 53)).alloc (.cells #[.bool r.b, .slice r.A r.n r.c, .int .i64 (spr z bits i).x] 53))
      clear HOW
      go_wp2_with (at_builtin; refine wpList_append_ow rfl _ _ 39 rfl 53 3 40 (.agg #[.bool false, .slice none 0 0, .int .i64 0]) i0 Tryd.underlying39 hi0 hz0 hz1 hz2 rfl no_dyad (by decide) (by decide) v i xs rfl HOW5.out ⟨w5.heap.size + 1, 0, none⟩ 1 1 [.bool r.b, .slice r.A r.n r.c, .int .i64 (spr z bits i).x] rfl rfl HNW.out one3 no3 (fun _ => by decide) (by omega) ?_)
      intro v' w6 hown hgr hdk hob
      have HN := Lib.hid (show NormRel (spr z bits) w0 (i + 1) v' w6 from norm_next HBA.out HOW5.out HGB.out hown hgr hdk (by rw [World.size_alloc, World.size_alloc]; exact hob) HDK.out HEL.out (RR.out.dk HD2.out))
      clear hown hgr hdk hob HOW5 HBA HNW HDK HD2
      go_wp2
      go_roundw
      case rel => exact ⟨i + 1, v', by go_num, rfl, hi2, HN⟩
      case measure => simp only [intOf]; omega
    · obtain rfl : i = z.m := by omega
      clear hi2
      by_cases hm0 : z.m = 0
      · have e0 := norm_nil Hr.out hm0
        subst e0
        have HB := Lib.hid Hr.out.1
        have HM := Lib.hid hm0
        clear hm0 Hr
        go_wp2_with fail
        refine (sortD_nil _).mono ?_
        rintro e w6 ⟨rfl, rfl⟩
        go_wp2
        go_ret2
        exact ⟨⟨none, 0, by rw [HM.out]; rfl, by rw [HM.out]; exact ⟨Nat.le_refl _, Nat.zero_le _, fun h => absurd h (by omega)⟩⟩, below_tr HB_0.out HB.out⟩
      · obtain ⟨g, cap, q, rfl, hcap, hg0, hcr, hrd⟩ := norm_rows Hr.out (by omega)
        have HB := Lib.hid Hr.out.1
        have HCR := Lib.hid hcr
        have HRD := Lib.hid hrd
        have HSL := Lib.hid (fun k (hk : k < z.m) => spread_lim z.n bits (fun i hi => LZ.out.g k i hk hi))
        clear hm0 Hr hcr hrd
        go_wp2_with fail
        refine (sortD_any _ g z.m cap q (spr z bits) E (T + 2 * z.n + 2) hm HCR.out HRD.out HSL.out (by omega)).mono ?_
        rintro e w6 ⟨rfl, hs⟩
        have HS := Lib.hid hs
        clear hs
        go_wp2
        go_ret2
        exact ⟨⟨some ⟨g, 0, none⟩, cap, rfl, norm_sorted hcap hm HRD.out HS.out⟩, below_tr HB_0.out (HB.out.grown HS.out.gr HB.out.size (by intro k hk; injection hk with hk; omega))⟩

end Go.Proofs.YtgioppkggpfnoaaDoor.Nu
end

section
/- The walk of reduce.rounder. -/
set_option linter.unusedVariables false
namespace Go.Proofs.YtgioppkggpfnoaaDoor.Nu
open Go.RowKit Go.Proofs

def RndRel (a b : Nat → D) (bits n : Nat) (W : World) (i : Nat) (w : World) : Prop :=
  OD w W.heap.size n (fun j => if j < i then (fun j => mor (a j) (b j) bits) j else D.zero) ∧ Below W.heap.size W w

set_option maxRecDepth 100000 in
set_option maxHeartbeats 4000000 in
theorem rounder_any (w : World) (A B : Option Addr) (n c d : Nat) (a b : Nat → D) (bits : Nat) (E T : Nat) (h : RDs w A n c a) (h2 : RDs w B n d b) (la : ∀ i, i < n → (a i).Lim E T) (lb : ∀ i, i < n → (b i).Lim E T) (hET : E + T + 1 ≤ 16000) (hb2 : 2 ≤ bits) (hb3 : bits ≤ 4096) (ht : BTab w) :
    Calls Tryd.prog 119 #[.slice A n c, .slice B n d, .int .i64 bits] w fun e w' => (∃ g1 : Nat, e = .returned (.tuple #[.slice (some ⟨g1, 0, none⟩) n n, .int .i64 0]) ∧ w.heap.size ≤ g1 ∧ OD w' g1 n (fun j => mor (a j) (b j) bits)) ∧ Below w.heap.size w w' := by
  have HA := Lib.hid h
  have HB := Lib.hid h2
  have LA := Lib.hid la
  have LB := Lib.hid lb
  have HT := Lib.hid ht
  have n0 := h.2.1
  clear h h2 la lb ht
  have hmk := fun W => make_D n n0 W
  go_enter Tryd.func119, Tryd.ntmps119
  go_wp2_with fail
  have H0 := Lib.hid (show RndRel a b bits n w 0 _ from ⟨OD.start (F := (fun j => mor (a j) (b j) bits)) (OD.made w n), below_al (Below.refl _ w) _⟩)
  clear hmk
  generalize w.alloc (.cells (mkD n) 53) = w0 at *
  go_loopw [17] (fun k wr => ∃ i : Nat, k = .int .i64 i ∧ i ≤ n ∧ Hid (RndRel a b bits n w i wr)) (fun k _ => n - (intOf k).toNat)
  case atStart => exact ⟨0, rfl, Nat.zero_le _, H0⟩
  case round =>
    clear H0
    obtain ⟨i, rfl, hi, Hr⟩ := hrel
    by_cases hi2 : i < n
    · have q3 : (i : Int) < (n : Int) := by omega
      have q5 : ¬ (n : Int) ≤ (i : Int) := by omega
      obtain ⟨hx, hbel⟩ := Hr.out
      have OX := Lib.hid hx
      have HB_0 := Lib.hid hbel
      clear hx hbel Hr
      obtain ⟨A1, o1, rfl, hl1, hcc⟩ := HA.out.2.2 (by omega)
      obtain ⟨q, z0, z1, z2, hq⟩ := hcc i hi2
      obtain ⟨A2, o2, rfl, hl2, hc2⟩ := HB.out.2.2 (by omega)
      obtain ⟨t, y0, y1, y2, ht⟩ := hc2 i hi2
      have X0 := Lib.hid z0
      have Y0 := Lib.hid y0
      have X1 := Lib.hid z1
      have Y1 := Lib.hid y1
      have X2 := Lib.hid z2
      have Y2 := Lib.hid y2
      have RQ := Lib.hid (hq.below HB_0.out)
      have RT := Lib.hid (ht.below HB_0.out)
      clear hcc z0 z1 z2 hq hc2 y0 y1 y2 ht
      have La := Lib.hid (pt_lim (LA.out i hi2))
      have Lb := Lib.hid (pt_lim (abs_lim (LB.out i hi2)))
      have nb0 : nb (b i).z.natAbs ≤ 16384 := by have := (LB.out i hi2).nb; omega
      go_upto_region 7 with (fail)
      have cr10 : wr.cell? ⟨A1, o1 + i * 3, none⟩ = some (.bool q.b) := (HB_0.out.cell (p := ⟨A1, o1 + i * 3, none⟩) hl1).trans X0.out
      have cr11 : wr.cell? ⟨A1, o1 + i * 3 + 1, none⟩ = some (.slice q.A q.n q.c) := (HB_0.out.cell (p := ⟨A1, o1 + i * 3 + 1, none⟩) hl1).trans X1.out
      have cr12 : wr.cell? ⟨A1, o1 + i * 3 + 2, none⟩ = some (.int .i64 (a i).x) := (HB_0.out.cell (p := ⟨A1, o1 + i * 3 + 2, none⟩) hl1).trans X2.out
      have cr20 : wr.cell? ⟨A2, o2 + i * 3, none⟩ = some (.bool t.b) := (HB_0.out.cell (p := ⟨A2, o2 + i * 3, none⟩) hl2).trans Y0.out
      have cr21 : wr.cell? ⟨A2, o2 + i * 3 + 1, none⟩ = some (.slice t.A t.n t.c) := (HB_0.out.cell (p := ⟨A2, o2 + i * 3 + 1, none⟩) hl2).trans Y1.out
      have cr22 : wr.cell? ⟨A2, o2 + i * 3 + 2, none⟩ = some (.int .i64 (b i).x) := (HB_0.out.cell (p := ⟨A2, o2 + i * 3 + 2, none⟩) hl2).trans Y2.out
      obtain ⟨⟨_, px0⟩, ⟨_, px1⟩, ⟨_, px2⟩, rx0, rx1, rx2⟩ := OX.out.there hi2
      have lx := OX.out.lt
      go_cut [10, 11] (fun s10 s11 wx => ∃ (g_101 : Nat) (p : SQ), s10 = .pointer (some ⟨g_101, 0, none⟩) ∧ s11 = .int .i64 0 ∧ w.heap.size < g_101 ∧ Bk wx g_101 62 #[.bool p.lo.b, .slice p.lo.A p.lo.n p.lo.c, .int .i64 (Sp.add (Sp.pt (a i)) (Sp.pt (b i).abs) bits).lo.x, .bool p.hi.b, .slice p.hi.A p.hi.n p.hi.c, .int .i64 (Sp.add (Sp.pt (a i)) (Sp.pt (b i).abs) bits).hi.x] ∧ OD wx (w.heap.size) n (fun j => if j < i then (fun j => mor (a j) (b j) bits) j else D.zero) ∧ Below w.heap.size w wx ∧ RS wx p (Sp.add (Sp.pt (a i)) (Sp.pt (b i).abs) bits))
      case first =>
        obtain ⟨SX1, hS1⟩ : ∃ S : World → Prop, ∀ w', S w' ↔ (w'.cell? ⟨A1, o1 + i * 3, none⟩ = some (.bool q.b) ∧ w'.cell? ⟨A1, o1 + i * 3 + 1, none⟩ = some (.slice q.A q.n q.c) ∧ w'.cell? ⟨A1, o1 + i * 3 + 2, none⟩ = some (.int .i64 (a i).x) ∧ w'.cell? ⟨A2, o2 + i * 3, none⟩ = some (.bool t.b) ∧ w'.cell? ⟨A2, o2 + i * 3 + 1, none⟩ = some (.slice t.A t.n t.c) ∧ w'.cell? ⟨A2, o2 + i * 3 + 2, none⟩ = some (.int .i64 (b i).x)) := ⟨_, fun _ => Iff.rfl⟩
        have k_102 : SX1 (wr) := (hS1 _).2 ⟨(Below.cell (p := ⟨A1, o1 + i * 3, none⟩) HB_0.out hl1).trans X0.out, (Below.cell (p := ⟨A1, o1 + i * 3 + 1, none⟩) HB_0.out hl1).trans X1.out, (Below.cell (p := ⟨A1, o1 + i * 3 + 2, none⟩) HB_0.out hl1).trans X2.out, (Below.cell (p := ⟨A2, o2 + i * 3, none⟩) HB_0.out hl2).trans Y0.out, (Below.cell (p := ⟨A2, o2 + i * 3 + 1, none⟩) HB_0.out hl2).trans Y1.out, (Below.cell (p := ⟨A2, o2 + i * 3 + 2, none⟩) HB_0.out hl2).trans Y2.out⟩
        have k_103 : SX1 (wr.drew) := (hS1 _).2 ⟨(Below.cell (p := ⟨A1, o1 + i * 3, none⟩) (below_dr HB_0.out) hl1).trans X0.out, (Below.cell (p := ⟨A1, o1 + i * 3 + 1, none⟩) (below_dr HB_0.out) hl1).trans X1.out, (Below.cell (p := ⟨A1, o1 + i * 3 + 2, none⟩) (below_dr HB_0.out) hl1).trans X2.out, (Below.cell (p := ⟨A2, o2 + i * 3, none⟩) (below_dr HB_0.out) hl2).trans Y0.out, (Below.cell (p := ⟨A2, o2 + i * 3 + 1, none⟩) (below_dr HB_0.out) hl2).trans Y1.out, (Below.cell (p := ⟨A2, o2 + i * 3 + 2, none⟩) (below_dr HB_0.out) hl2).trans Y2.out⟩
        have tok_104 : True := trivial
        have tok_105 : True := trivial
        have tok_106 : True := trivial
        have tok_107 : True := trivial
        have tok_108 : True := trivial
        have tok_109 : True := trivial
        have tok_110 : True := trivial
        have tok_111 : True := trivial
        have tok_112 : True := trivial
        have tok_113 : True := trivial
        have tok_114 : True := trivial
        have tok_115 : True := trivial
        have tok_116 : True := trivial
        have tok_117 : True := trivial
        have k_118 : SX1 ((wr.alloc (.cells #[.bool false, .slice none 0 0, .int .i64 0, .bool false, .slice none 0 0, .int .i64 0] 62)).drew) := (hS1 _).2 ⟨(Below.cell (p := ⟨A1, o1 + i * 3, none⟩) (below_dr (below_al HB_0.out _)) hl1).trans X0.out, (Below.cell (p := ⟨A1, o1 + i * 3 + 1, none⟩) (below_dr (below_al HB_0.out _)) hl1).trans X1.out, (Below.cell (p := ⟨A1, o1 + i * 3 + 2, none⟩) (below_dr (below_al HB_0.out _)) hl1).trans X2.out, (Below.cell (p := ⟨A2, o2 + i * 3, none⟩) (below_dr (below_al HB_0.out _)) hl2).trans Y0.out, (Below.cell (p := ⟨A2, o2 + i * 3 + 1, none⟩) (below_dr (below_al HB_0.out _)) hl2).trans Y1.out, (Below.cell (p := ⟨A2, o2 + i * 3 + 2, none⟩) (below_dr (below_al HB_0.out _)) hl2).trans Y2.out⟩
        go_region_held3 (fun w' => w'.cell? ⟨A1, o1 + i * 3, none⟩ = some (.bool q.b) ∧ w'.cell? ⟨A1, o1 + i * 3 + 1, none⟩ = some (.slice q.A q.n q.c) ∧ w'.cell? ⟨A1, o1 + i * 3 + 2, none⟩ = some (.int .i64 (a i).x) ∧ w'.cell? ⟨A2, o2 + i * 3, none⟩ = some (.bool t.b) ∧ w'.cell? ⟨A2, o2 + i * 3 + 1, none⟩ = some (.slice t.A t.n t.c) ∧ w'.cell? ⟨A2, o2 + i * 3 + 2, none⟩ = some (.int .i64 (b i).x)) (first | with_reducible exact (hS1 _).1 k_102 | with_reducible exact (hS1 _).1 k_103 | with_reducible exact (hS1 _).1 k_118 | with_reducible exact (hS1 _).1 k_125 | with_reducible exact (hS1 _).1 k_126 | with_reducible exact (hS1 _).1 k_136 | with_reducible exact (hS1 _).1 k_145 | with_reducible exact (hS1 _).1 k_146 | with_reducible exact (hS1 _).1 k_157 | with_reducible exact (hS1 _).1 k_167 | with_reducible exact (hS1 _).1 k_177 | with_reducible exact (hS1 _).1 k_178 | with_reducible exact (hS1 _).1 k_190 | with_reducible exact (hS1 _).1 k_201 | with_reducible exact (hS1 _).1 k_212 | with_reducible exact (hS1 _).1 k_223 | with_reducible exact (hS1 _).1 k_225 | with_reducible exact (hS1 _).1 k_226 | with_reducible exact (hS1 _).1 k_239 | with_reducible exact (hS1 _).1 k_240 | with_reducible exact (hS1 _).1 k_252 | with_reducible exact (hS1 _).1 k_253 | with_reducible exact (hS1 _).1 k_265 | with_reducible exact (hS1 _).1 k_266 | with_reducible exact (hS1 _).1 k_278 | with_reducible exact (hS1 _).1 k_279)
          (first
           | (clear tok_104; go_at_call 59; (with_reducible refine (spoint_any (wr.drew) q (a i) (RQ.out.dk ((Dk.refl _).drew))).mono ?_); rintro e w_119 ⟨⟨s, rfl, hs⟩, hb⟩; clear cr10 cr11 cr12 cr20 cr21 cr22 px0 px1 px2 rx0 rx1 rx2 lx k_102 k_103 k_118; have K := Dk.trans ((Dk.refl _).drew) (.below hb); have Ox_120 := Lib.hid (show OD _ (w.heap.size) n (fun j => if j < i then (fun j => mor (a j) (b j) bits) j else D.zero) from (OX.out.dr).below hb); have HB_121 := Lib.hid (below_tr (below_dr HB_0.out) hb); clear hb; have RQ_122 := Lib.hid (RQ.out.dk K); have RT_123 := Lib.hid (RT.out.dk K); clear K OX HB_0 RQ RT; have SS_124 := Lib.hid hs; clear hs; have cr10 : w_119.cell? ⟨A1, o1 + i * 3, none⟩ = some (.bool q.b) := (HB_121.out.cell (p := ⟨A1, o1 + i * 3, none⟩) hl1).trans X0.out; have cr11 : w_119.cell? ⟨A1, o1 + i * 3 + 1, none⟩ = some (.slice q.A q.n q.c) := (HB_121.out.cell (p := ⟨A1, o1 + i * 3 + 1, none⟩) hl1).trans X1.out; have cr12 : w_119.cell? ⟨A1, o1 + i * 3 + 2, none⟩ = some (.int .i64 (a i).x) := (HB_121.out.cell (p := ⟨A1, o1 + i * 3 + 2, none⟩) hl1).trans X2.out; have cr20 : w_119.cell? ⟨A2, o2 + i * 3, none⟩ = some (.bool t.b) := (HB_121.out.cell (p := ⟨A2, o2 + i * 3, none⟩) hl2).trans Y0.out; have cr21 : w_119.cell? ⟨A2, o2 + i * 3 + 1, none⟩ = some (.slice t.A t.n t.c) := (HB_121.out.cell (p := ⟨A2, o2 + i * 3 + 1, none⟩) hl2).trans Y1.out; have cr22 : w_119.cell? ⟨A2, o2 + i * 3 + 2, none⟩ = some (.int .i64 (b i).x) := (HB_121.out.cell (p := ⟨A2, o2 + i * 3 + 2, none⟩) hl2).trans Y2.out; obtain ⟨⟨_, px0⟩, ⟨_, px1⟩, ⟨_, px2⟩, rx0, rx1, rx2⟩ := Ox_120.out.there hi2; have lx := Ox_120.out.lt; have k_125 : SX1 (w_119) := (hS1 _).2 ⟨(Below.cell (p := ⟨A1, o1 + i * 3, none⟩) HB_121.out hl1).trans X0.out, (Below.cell (p := ⟨A1, o1 + i * 3 + 1, none⟩) HB_121.out hl1).trans X1.out, (Below.cell (p := ⟨A1, o1 + i * 3 + 2, none⟩) HB_121.out hl1).trans X2.out, (Below.cell (p := ⟨A2, o2 + i * 3, none⟩) HB_121.out hl2).trans Y0.out, (Below.cell (p := ⟨A2, o2 + i * 3 + 1, none⟩) HB_121.out hl2).trans Y1.out, (Below.cell (p := ⟨A2, o2 + i * 3 + 2, none⟩) HB_121.out hl2).trans Y2.out⟩; have k_126 : SX1 (w_119.alloc (.cells #[.bool false, .slice none 0 0, .int .i64 0, .bool false, .slice none 0 0, .int .i64 0] 62)) := (hS1 _).2 ⟨(Below.cell (p := ⟨A1, o1 + i * 3, none⟩) (below_al HB_121.out _) hl1).trans X0.out, (Below.cell (p := ⟨A1, o1 + i * 3 + 1, none⟩) (below_al HB_121.out _) hl1).trans X1.out, (Below.cell (p := ⟨A1, o1 + i * 3 + 2, none⟩) (below_al HB_121.out _) hl1).trans X2.out, (Below.cell (p := ⟨A2, o2 + i * 3, none⟩) (below_al HB_121.out _) hl2).trans Y0.out, (Below.cell (p := ⟨A2, o2 + i * 3 + 1, none⟩) (below_al HB_121.out _) hl2).trans Y1.out, (Below.cell (p := ⟨A2, o2 + i * 3 + 2, none⟩) (below_al HB_121.out _) hl2).trans Y2.out⟩)
           | (clear tok_108; have n_128 := OX.out.lt; go_at_call 59; (with_reducible refine (spoint_any ((wr.alloc (.cells #[.bool false, .slice none 0 0, .int .i64 0, .bool false, .slice none 0 0, .int .i64 0] 62)).drew) q (a i) (RQ.out.dk (((Dk.refl _).alloc _).drew))).mono ?_); rintro e w_129 ⟨⟨s, rfl, hs⟩, hb⟩; clear cr10 cr11 cr12 cr20 cr21 cr22 px0 px1 px2 rx0 rx1 rx2 lx k_102 k_103 k_118; have K := Dk.trans (((Dk.refl _).alloc _).drew) (.below hb); have Bs_130 := Lib.hid (show Bk _ _ _ #[.bool false, .slice none 0 0, .int .i64 0, .bool false, .slice none 0 0, .int .i64 0] from ((Bk.new _ 62 #[.bool false, .slice none 0 0, .int .i64 0, .bool false, .slice none 0 0, .int .i64 0]).drew).below hb); have Ox_131 := Lib.hid (show OD _ (w.heap.size) n (fun j => if j < i then (fun j => mor (a j) (b j) bits) j else D.zero) from ((OX.out.al _).dr).below hb); have HB_132 := Lib.hid (below_tr (below_dr (below_al HB_0.out _)) hb); clear hb; have RQ_133 := Lib.hid (RQ.out.dk K); have RT_134 := Lib.hid (RT.out.dk K); clear K OX HB_0 RQ RT; have SS_135 := Lib.hid hs; clear hs; have ls := Bs_130.out.lt; obtain ⟨cs0, cs1, cs2, cs3, cs4, cs5⟩ := Bs_130.out.cells6; have fs0 := Bs_130.out.free 0; have fs1 := Bs_130.out.free 1; have fs2 := Bs_130.out.free 2; have fs3 := Bs_130.out.free 3; have fs4 := Bs_130.out.free 4; have fs5 := Bs_130.out.free 5; have cr10 : w_129.cell? ⟨A1, o1 + i * 3, none⟩ = some (.bool q.b) := (HB_132.out.cell (p := ⟨A1, o1 + i * 3, none⟩) hl1).trans X0.out; have cr11 : w_129.cell? ⟨A1, o1 + i * 3 + 1, none⟩ = some (.slice q.A q.n q.c) := (HB_132.out.cell (p := ⟨A1, o1 + i * 3 + 1, none⟩) hl1).trans X1.out; have cr12 : w_129.cell? ⟨A1, o1 + i * 3 + 2, none⟩ = some (.int .i64 (a i).x) := (HB_132.out.cell (p := ⟨A1, o1 + i * 3 + 2, none⟩) hl1).trans X2.out; have cr20 : w_129.cell? ⟨A2, o2 + i * 3, none⟩ = some (.bool t.b) := (HB_132.out.cell (p := ⟨A2, o2 + i * 3, none⟩) hl2).trans Y0.out; have cr21 : w_129.cell? ⟨A2, o2 + i * 3 + 1, none⟩ = some (.slice t.A t.n t.c) := (HB_132.out.cell (p := ⟨A2, o2 + i * 3 + 1, none⟩) hl2).trans Y1.out; have cr22 : w_129.cell? ⟨A2, o2 + i * 3 + 2, none⟩ = some (.int .i64 (b i).x) := (HB_132.out.cell (p := ⟨A2, o2 + i * 3 + 2, none⟩) hl2).trans Y2.out; obtain ⟨⟨_, px0⟩, ⟨_, px1⟩, ⟨_, px2⟩, rx0, rx1, rx2⟩ := Ox_131.out.there hi2; have lx := Ox_131.out.lt; have k_136 : SX1 (w_129) := (hS1 _).2 ⟨(Below.cell (p := ⟨A1, o1 + i * 3, none⟩) HB_132.out hl1).trans X0.out, (Below.cell (p := ⟨A1, o1 + i * 3 + 1, none⟩) HB_132.out hl1).trans X1.out, (Below.cell (p := ⟨A1, o1 + i * 3 + 2, none⟩) HB_132.out hl1).trans X2.out, (Below.cell (p := ⟨A2, o2 + i * 3, none⟩) HB_132.out hl2).trans Y0.out, (Below.cell (p := ⟨A2, o2 + i * 3 + 1, none⟩) HB_132.out hl2).trans Y1.out, (Below.cell (p := ⟨A2, o2 + i * 3 + 2, none⟩) HB_132.out hl2).trans Y2.out⟩)
           | (clear tok_105; go_at_call 146; (with_reducible refine (dabs_any (w_119) t (b i) RT_123.out nb0).mono ?_); rintro e w_138 ⟨⟨m, rfl, hm⟩, hb⟩; clear cr10 cr11 cr12 cr20 cr21 cr22 px0 px1 px2 rx0 rx1 rx2 lx k_125 k_126; have K := Dk.below hb; have Ox_139 := Lib.hid (show OD _ (w.heap.size) n (fun j => if j < i then (fun j => mor (a j) (b j) bits) j else D.zero) from Ox_120.out.below hb); have HB_140 := Lib.hid (below_tr HB_121.out hb); clear hb; have RQ_141 := Lib.hid (RQ_122.out.dk K); have RT_142 := Lib.hid (RT_123.out.dk K); have SS_143 := Lib.hid (SS_124.out.dk K); clear K Ox_120 HB_121 RQ_122 RT_123 SS_124; have RM_144 := Lib.hid hm; clear hm; have cr10 : w_138.cell? ⟨A1, o1 + i * 3, none⟩ = some (.bool q.b) := (HB_140.out.cell (p := ⟨A1, o1 + i * 3, none⟩) hl1).trans X0.out; have cr11 : w_138.cell? ⟨A1, o1 + i * 3 + 1, none⟩ = some (.slice q.A q.n q.c) := (HB_140.out.cell (p := ⟨A1, o1 + i * 3 + 1, none⟩) hl1).trans X1.out; have cr12 : w_138.cell? ⟨A1, o1 + i * 3 + 2, none⟩ = some (.int .i64 (a i).x) := (HB_140.out.cell (p := ⟨A1, o1 + i * 3 + 2, none⟩) hl1).trans X2.out; have cr20 : w_138.cell? ⟨A2, o2 + i * 3, none⟩ = some (.bool t.b) := (HB_140.out.cell (p := ⟨A2, o2 + i * 3, none⟩) hl2).trans Y0.out; have cr21 : w_138.cell? ⟨A2, o2 + i * 3 + 1, none⟩ = some (.slice t.A t.n t.c) := (HB_140.out.cell (p := ⟨A2, o2 + i * 3 + 1, none⟩) hl2).trans Y1.out; have cr22 : w_138.cell? ⟨A2, o2 + i * 3 + 2, none⟩ = some (.int .i64 (b i).x) := (HB_140.out.cell (p := ⟨A2, o2 + i * 3 + 2, none⟩) hl2).trans Y2.out; obtain ⟨⟨_, px0⟩, ⟨_, px1⟩, ⟨_, px2⟩, rx0, rx1, rx2⟩ := Ox_139.out.there hi2; have lx := Ox_139.out.lt; have k_145 : SX1 (w_138) := (hS1 _).2 ⟨(Below.cell (p := ⟨A1, o1 + i * 3, none⟩) HB_140.out hl1).trans X0.out, (Below.cell (p := ⟨A1, o1 + i * 3 + 1, none⟩) HB_140.out hl1).trans X1.out, (Below.cell (p := ⟨A1, o1 + i * 3 + 2, none⟩) HB_140.out hl1).trans X2.out, (Below.cell (p := ⟨A2, o2 + i * 3, none⟩) HB_140.out hl2).trans Y0.out, (Below.cell (p := ⟨A2, o2 + i * 3 + 1, none⟩) HB_140.out hl2).trans Y1.out, (Below.cell (p := ⟨A2, o2 + i * 3 + 2, none⟩) HB_140.out hl2).trans Y2.out⟩; have k_146 : SX1 (w_138.alloc (.cells #[.bool false, .slice none 0 0, .int .i64 0, .bool false, .slice none 0 0, .int .i64 0] 62)) := (hS1 _).2 ⟨(Below.cell (p := ⟨A1, o1 + i * 3, none⟩) (below_al HB_140.out _) hl1).trans X0.out, (Below.cell (p := ⟨A1, o1 + i * 3 + 1, none⟩) (below_al HB_140.out _) hl1).trans X1.out, (Below.cell (p := ⟨A1, o1 + i * 3 + 2, none⟩) (below_al HB_140.out _) hl1).trans X2.out, (Below.cell (p := ⟨A2, o2 + i * 3, none⟩) (below_al HB_140.out _) hl2).trans Y0.out, (Below.cell (p := ⟨A2, o2 + i * 3 + 1, none⟩) (below_al HB_140.out _) hl2).trans Y1.out, (Below.cell (p := ⟨A2, o2 + i * 3 + 2, none⟩) (below_al HB_140.out _) hl2).trans Y2.out⟩)
           | (clear tok_112; have n_148 := Ox_120.out.lt; go_at_call 146; (with_reducible refine (dabs_any (w_119.alloc (.cells #[.bool false, .slice none 0 0, .int .i64 0, .bool false, .slice none 0 0, .int .i64 0] 62)) t (b i) (RT_123.out.dk ((Dk.refl _).alloc _)) nb0).mono ?_); rintro e w_149 ⟨⟨m, rfl, hm⟩, hb⟩; clear cr10 cr11 cr12 cr20 cr21 cr22 px0 px1 px2 rx0 rx1 rx2 lx k_125 k_126; have K := Dk.trans ((Dk.refl _).alloc _) (.below hb); have Bs_150 := Lib.hid (show Bk _ _ _ #[.bool false, .slice none 0 0, .int .i64 0, .bool false, .slice none 0 0, .int .i64 0] from (Bk.new _ 62 #[.bool false, .slice none 0 0, .int .i64 0, .bool false, .slice none 0 0, .int .i64 0]).below hb); have Ox_151 := Lib.hid (show OD _ (w.heap.size) n (fun j => if j < i then (fun j => mor (a j) (b j) bits) j else D.zero) from (Ox_120.out.al _).below hb); have HB_152 := Lib.hid (below_tr (below_al HB_121.out _) hb); clear hb; have RQ_153 := Lib.hid (RQ_122.out.dk K); have RT_154 := Lib.hid (RT_123.out.dk K); have SS_155 := Lib.hid (SS_124.out.dk K); clear K Ox_120 HB_121 RQ_122 RT_123 SS_124; have RM_156 := Lib.hid hm; clear hm; have ls := Bs_150.out.lt; obtain ⟨cs0, cs1, cs2, cs3, cs4, cs5⟩ := Bs_150.out.cells6; have fs0 := Bs_150.out.free 0; have fs1 := Bs_150.out.free 1; have fs2 := Bs_150.out.free 2; have fs3 := Bs_150.out.free 3; have fs4 := Bs_150.out.free 4; have fs5 := Bs_150.out.free 5; have cr10 : w_149.cell? ⟨A1, o1 + i * 3, none⟩ = some (.bool q.b) := (HB_152.out.cell (p := ⟨A1, o1 + i * 3, none⟩) hl1).trans X0.out; have cr11 : w_149.cell? ⟨A1, o1 + i * 3 + 1, none⟩ = some (.slice q.A q.n q.c) := (HB_152.out.cell (p := ⟨A1, o1 + i * 3 + 1, none⟩) hl1).trans X1.out; have cr12 : w_149.cell? ⟨A1, o1 + i * 3 + 2, none⟩ = some (.int .i64 (a i).x) := (HB_152.out.cell (p := ⟨A1, o1 + i * 3 + 2, none⟩) hl1).trans X2.out; have cr20 : w_149.cell? ⟨A2, o2 + i * 3, none⟩ = some (.bool t.b) := (HB_152.out.cell (p := ⟨A2, o2 + i * 3, none⟩) hl2).trans Y0.out; have cr21 : w_149.cell? ⟨A2, o2 + i * 3 + 1, none⟩ = some (.slice t.A t.n t.c) := (HB_152.out.cell (p := ⟨A2, o2 + i * 3 + 1, none⟩) hl2).trans Y1.out; have cr22 : w_149.cell? ⟨A2, o2 + i * 3 + 2, none⟩ = some (.int .i64 (b i).x) := (HB_152.out.cell (p := ⟨A2, o2 + i * 3 + 2, none⟩) hl2).trans Y2.out; obtain ⟨⟨_, px0⟩, ⟨_, px1⟩, ⟨_, px2⟩, rx0, rx1, rx2⟩ := Ox_151.out.there hi2; have lx := Ox_151.out.lt; have k_157 : SX1 (w_149) := (hS1 _).2 ⟨(Below.cell (p := ⟨A1, o1 + i * 3, none⟩) HB_152.out hl1).trans X0.out, (Below.cell (p := ⟨A1, o1 + i * 3 + 1, none⟩) HB_152.out hl1).trans X1.out, (Below.cell (p := ⟨A1, o1 + i * 3 + 2, none⟩) HB_152.out hl1).trans X2.out, (Below.cell (p := ⟨A2, o2 + i * 3, none⟩) HB_152.out hl2).trans Y0.out, (Below.cell (p := ⟨A2, o2 + i * 3 + 1, none⟩) HB_152.out hl2).trans Y1.out, (Below.cell (p := ⟨A2, o2 + i * 3 + 2, none⟩) HB_152.out hl2).trans Y2.out⟩)
           | (clear tok_109; go_at_call 146; (with_reducible refine (dabs_any (w_129) t (b i) RT_134.out nb0).mono ?_); rintro e w_159 ⟨⟨m, rfl, hm⟩, hb⟩; clear ls cs0 cs1 cs2 cs3 cs4 cs5 fs0 fs1 fs2 fs3 fs4 fs5 cr10 cr11 cr12 cr20 cr21 cr22 px0 px1 px2 rx0 rx1 rx2 lx k_136; have K := Dk.below hb; have Bs_160 := Lib.hid (show Bk _ _ _ #[.bool false, .slice none 0 0, .int .i64 0, .bool false, .slice none 0 0, .int .i64 0] from Bs_130.out.below hb); have Ox_161 := Lib.hid (show OD _ (w.heap.size) n (fun j => if j < i then (fun j => mor (a j) (b j) bits) j else D.zero) from Ox_131.out.below hb); have HB_162 := Lib.hid (below_tr HB_132.out hb); clear hb; have RQ_163 := Lib.hid (RQ_133.out.dk K); have RT_164 := Lib.hid (RT_134.out.dk K); have SS_165 := Lib.hid (SS_135.out.dk K); clear K Bs_130 Ox_131 HB_132 RQ_133 RT_134 SS_135; have RM_166 := Lib.hid hm; clear hm; have ls := Bs_160.out.lt; obtain ⟨cs0, cs1, cs2, cs3, cs4, cs5⟩ := Bs_160.out.cells6; have fs0 := Bs_160.out.free 0; have fs1 := Bs_160.out.free 1; have fs2 := Bs_160.out.free 2; have fs3 := Bs_160.out.free 3; have fs4 := Bs_160.out.free 4; have fs5 := Bs_160.out.free 5; have cr10 : w_159.cell? ⟨A1, o1 + i * 3, none⟩ = some (.bool q.b) := (HB_162.out.cell (p := ⟨A1, o1 + i * 3, none⟩) hl1).trans X0.out; have cr11 : w_159.cell? ⟨A1, o1 + i * 3 + 1, none⟩ = some (.slice q.A q.n q.c) := (HB_162.out.cell (p := ⟨A1, o1 + i * 3 + 1, none⟩) hl1).trans X1.out; have cr12 : w_159.cell? ⟨A1, o1 + i * 3 + 2, none⟩ = some (.int .i64 (a i).x) := (HB_162.out.cell (p := ⟨A1, o1 + i * 3 + 2, none⟩) hl1).trans X2.out; have cr20 : w_159.cell? ⟨A2, o2 + i * 3, none⟩ = some (.bool t.b) := (HB_162.out.cell (p := ⟨A2, o2 + i * 3, none⟩) hl2).trans Y0.out; have cr21 : w_159.cell? ⟨A2, o2 + i * 3 + 1, none⟩ = some (.slice t.A t.n t.c) := (HB_162.out.cell (p := ⟨A2, o2 + i * 3 + 1, none⟩) hl2).trans Y1.out; have cr22 : w_159.cell? ⟨A2, o2 + i * 3 + 2, none⟩ = some (.int .i64 (b i).x) := (HB_162.out.cell (p := ⟨A2, o2 + i * 3 + 2, none⟩) hl2).trans Y2.out; obtain ⟨⟨_, px0⟩, ⟨_, px1⟩, ⟨_, px2⟩, rx0, rx1, rx2⟩ := Ox_161.out.there hi2; have lx := Ox_161.out.lt; have k_167 : SX1 (w_159) := (hS1 _).2 ⟨(Below.cell (p := ⟨A1, o1 + i * 3, none⟩) HB_162.out hl1).trans X0.out, (Below.cell (p := ⟨A1, o1 + i * 3 + 1, none⟩) HB_162.out hl1).trans X1.out, (Below.cell (p := ⟨A1, o1 + i * 3 + 2, none⟩) HB_162.out hl1).trans X2.out, (Below.cell (p := ⟨A2, o2 + i * 3, none⟩) HB_162.out hl2).trans Y0.out, (Below.cell (p := ⟨A2, o2 + i * 3 + 1, none⟩) HB_162.out hl2).trans Y1.out, (Below.cell (p := ⟨A2, o2 + i * 3 + 2, none⟩) HB_162.out hl2).trans Y2.out⟩)
           | (clear tok_106; go_at_call 59; (with_reducible refine (spoint_any (w_138) m (b i).abs RM_144.out).mono ?_); rintro e w_169 ⟨⟨x, rfl, hx⟩, hb⟩; clear cr10 cr11 cr12 cr20 cr21 cr22 px0 px1 px2 rx0 rx1 rx2 lx k_145 k_146; have K := Dk.below hb; have Ox_170 := Lib.hid (show OD _ (w.heap.size) n (fun j => if j < i then (fun j => mor (a j) (b j) bits) j else D.zero) from Ox_139.out.below hb); have HB_171 := Lib.hid (below_tr HB_140.out hb); clear hb; have RQ_172 := Lib.hid (RQ_141.out.dk K); have RT_173 := Lib.hid (RT_142.out.dk K); have SS_174 := Lib.hid (SS_143.out.dk K); have RM_175 := Lib.hid (RM_144.out.dk K); clear K Ox_139 HB_140 RQ_141 RT_142 SS_143 RM_144; have SX_176 := Lib.hid hx; clear hx; have cr10 : w_169.cell? ⟨A1, o1 + i * 3, none⟩ = some (.bool q.b) := (HB_171.out.cell (p := ⟨A1, o1 + i * 3, none⟩) hl1).trans X0.out; have cr11 : w_169.cell? ⟨A1, o1 + i * 3 + 1, none⟩ = some (.slice q.A q.n q.c) := (HB_171.out.cell (p := ⟨A1, o1 + i * 3 + 1, none⟩) hl1).trans X1.out; have cr12 : w_169.cell? ⟨A1, o1 + i * 3 + 2, none⟩ = some (.int .i64 (a i).x) := (HB_171.out.cell (p := ⟨A1, o1 + i * 3 + 2, none⟩) hl1).trans X2.out; have cr20 : w_169.cell? ⟨A2, o2 + i * 3, none⟩ = some (.bool t.b) := (HB_171.out.cell (p := ⟨A2, o2 + i * 3, none⟩) hl2).trans Y0.out; have cr21 : w_169.cell? ⟨A2, o2 + i * 3 + 1, none⟩ = some (.slice t.A t.n t.c) := (HB_171.out.cell (p := ⟨A2, o2 + i * 3 + 1, none⟩) hl2).trans Y1.out; have cr22 : w_169.cell? ⟨A2, o2 + i * 3 + 2, none⟩ = some (.int .i64 (b i).x) := (HB_171.out.cell (p := ⟨A2, o2 + i * 3 + 2, none⟩) hl2).trans Y2.out; obtain ⟨⟨_, px0⟩, ⟨_, px1⟩, ⟨_, px2⟩, rx0, rx1, rx2⟩ := Ox_170.out.there hi2; have lx := Ox_170.out.lt; have k_177 : SX1 (w_169) := (hS1 _).2 ⟨(Below.cell (p := ⟨A1, o1 + i * 3, none⟩) HB_171.out hl1).trans X0.out, (Below.cell (p := ⟨A1, o1 + i * 3 + 1, none⟩) HB_171.out hl1).trans X1.out, (Below.cell (p := ⟨A1, o1 + i * 3 + 2, none⟩) HB_171.out hl1).trans X2.out, (Below.cell (p := ⟨A2, o2 + i * 3, none⟩) HB_171.out hl2).trans Y0.out, (Below.cell (p := ⟨A2, o2 + i * 3 + 1, none⟩) HB_171.out hl2).trans Y1.out, (Below.cell (p := ⟨A2, o2 + i * 3 + 2, none⟩) HB_171.out hl2).trans Y2.out⟩; have k_178 : SX1 (w_169.alloc (.cells #[.bool false, .slice none 0 0, .int .i64 0, .bool false, .slice none 0 0, .int .i64 0] 62)) := (hS1 _).2 ⟨(Below.cell (p := ⟨A1, o1 + i * 3, none⟩) (below_al HB_171.out _) hl1).trans X0.out, (Below.cell (p := ⟨A1, o1 + i * 3 + 1, none⟩) (below_al HB_171.out _) hl1).trans X1.out, (Below.cell (p := ⟨A1, o1 + i * 3 + 2, none⟩) (below_al HB_171.out _) hl1).trans X2.out, (Below.cell (p := ⟨A2, o2 + i * 3, none⟩) (below_al HB_171.out _) hl2).trans Y0.out, (Below.cell (p := ⟨A2, o2 + i * 3 + 1, none⟩) (below_al HB_171.out _) hl2).trans Y1.out, (Below.cell (p := ⟨A2, o2 + i * 3 + 2, none⟩) (below_al HB_171.out _) hl2).trans Y2.out⟩)
           | (clear tok_115; have n_180 := Ox_139.out.lt; go_at_call 59; (with_reducible refine (spoint_any (w_138.alloc (.cells #[.bool false, .slice none 0 0, .int .i64 0, .bool false, .slice none 0 0, .int .i64 0] 62)) m (b i).abs (RM_144.out.dk ((Dk.refl _).alloc _))).mono ?_); rintro e w_181 ⟨⟨x, rfl, hx⟩, hb⟩; clear cr10 cr11 cr12 cr20 cr21 cr22 px0 px1 px2 rx0 rx1 rx2 lx k_145 k_146; have K := Dk.trans ((Dk.refl _).alloc _) (.below hb); have Bs_182 := Lib.hid (show Bk _ _ _ #[.bool false, .slice none 0 0, .int .i64 0, .bool false, .slice none 0 0, .int .i64 0] from (Bk.new _ 62 #[.bool false, .slice none 0 0, .int .i64 0, .bool false, .slice none 0 0, .int .i64 0]).below hb); have Ox_183 := Lib.hid (show OD _ (w.heap.size) n (fun j => if j < i then (fun j => mor (a j) (b j) bits) j else D.zero) from (Ox_139.out.al _).below hb); have HB_184 := Lib.hid (below_tr (below_al HB_140.out _) hb); clear hb; have RQ_185 := Lib.hid (RQ_141.out.dk K); have RT_186 := Lib.hid (RT_142.out.dk K); have SS_187 := Lib.hid (SS_143.out.dk K); have RM_188 := Lib.hid (RM_144.out.dk K); clear K Ox_139 HB_140 RQ_141 RT_142 SS_143 RM_144; have SX_189 := Lib.hid hx; clear hx; have ls := Bs_182.out.lt; obtain ⟨cs0, cs1, cs2, cs3, cs4, cs5⟩ := Bs_182.out.cells6; have fs0 := Bs_182.out.free 0; have fs1 := Bs_182.out.free 1; have fs2 := Bs_182.out.free 2; have fs3 := Bs_182.out.free 3; have fs4 := Bs_182.out.free 4; have fs5 := Bs_182.out.free 5; have cr10 : w_181.cell? ⟨A1, o1 + i * 3, none⟩ = some (.bool q.b) := (HB_184.out.cell (p := ⟨A1, o1 + i * 3, none⟩) hl1).trans X0.out; have cr11 : w_181.cell? ⟨A1, o1 + i * 3 + 1, none⟩ = some (.slice q.A q.n q.c) := (HB_184.out.cell (p := ⟨A1, o1 + i * 3 + 1, none⟩) hl1).trans X1.out; have cr12 : w_181.cell? ⟨A1, o1 + i * 3 + 2, none⟩ = some (.int .i64 (a i).x) := (HB_184.out.cell (p := ⟨A1, o1 + i * 3 + 2, none⟩) hl1).trans X2.out; have cr20 : w_181.cell? ⟨A2, o2 + i * 3, none⟩ = some (.bool t.b) := (HB_184.out.cell (p := ⟨A2, o2 + i * 3, none⟩) hl2).trans Y0.out; have cr21 : w_181.cell? ⟨A2, o2 + i * 3 + 1, none⟩ = some (.slice t.A t.n t.c) := (HB_184.out.cell (p := ⟨A2, o2 + i * 3 + 1, none⟩) hl2).trans Y1.out; have cr22 : w_181.cell? ⟨A2, o2 + i * 3 + 2, none⟩ = some (.int .i64 (b i).x) := (HB_184.out.cell (p := ⟨A2, o2 + i * 3 + 2, none⟩) hl2).trans Y2.out; obtain ⟨⟨_, px0⟩, ⟨_, px1⟩, ⟨_, px2⟩, rx0, rx1, rx2⟩ := Ox_183.out.there hi2; have lx := Ox_183.out.lt; have k_190 : SX1 (w_181) := (hS1 _).2 ⟨(Below.cell (p := ⟨A1, o1 + i * 3, none⟩) HB_184.out hl1).trans X0.out, (Below.cell (p := ⟨A1, o1 + i * 3 + 1, none⟩) HB_184.out hl1).trans X1.out, (Below.cell (p := ⟨A1, o1 + i * 3 + 2, none⟩) HB_184.out hl1).trans X2.out, (Below.cell (p := ⟨A2, o2 + i * 3, none⟩) HB_184.out hl2).trans Y0.out, (Below.cell (p := ⟨A2, o2 + i * 3 + 1, none⟩) HB_184.out hl2).trans Y1.out, (Below.cell (p := ⟨A2, o2 + i * 3 + 2, none⟩) HB_184.out hl2).trans Y2.out⟩)
           | (clear tok_110; go_at_call 59; (with_reducible refine (spoint_any (w_159) m (b i).abs RM_166.out).mono ?_); rintro e w_192 ⟨⟨x, rfl, hx⟩, hb⟩; clear ls cs0 cs1 cs2 cs3 cs4 cs5 fs0 fs1 fs2 fs3 fs4 fs5 cr10 cr11 cr12 cr20 cr21 cr22 px0 px1 px2 rx0 rx1 rx2 lx k_167; have K := Dk.below hb; have Bs_193 := Lib.hid (show Bk _ _ _ #[.bool false, .slice none 0 0, .int .i64 0, .bool false, .slice none 0 0, .int .i64 0] from Bs_160.out.below hb); have Ox_194 := Lib.hid (show OD _ (w.heap.size) n (fun j => if j < i then (fun j => mor (a j) (b j) bits) j else D.zero) from Ox_161.out.below hb); have HB_195 := Lib.hid (below_tr HB_162.out hb); clear hb; have RQ_196 := Lib.hid (RQ_163.out.dk K); have RT_197 := Lib.hid (RT_164.out.dk K); have SS_198 := Lib.hid (SS_165.out.dk K); have RM_199 := Lib.hid (RM_166.out.dk K); clear K Bs_160 Ox_161 HB_162 RQ_163 RT_164 SS_165 RM_166; have SX_200 := Lib.hid hx; clear hx; have ls := Bs_193.out.lt; obtain ⟨cs0, cs1, cs2, cs3, cs4, cs5⟩ := Bs_193.out.cells6; have fs0 := Bs_193.out.free 0; have fs1 := Bs_193.out.free 1; have fs2 := Bs_193.out.free 2; have fs3 := Bs_193.out.free 3; have fs4 := Bs_193.out.free 4; have fs5 := Bs_193.out.free 5; have cr10 : w_192.cell? ⟨A1, o1 + i * 3, none⟩ = some (.bool q.b) := (HB_195.out.cell (p := ⟨A1, o1 + i * 3, none⟩) hl1).trans X0.out; have cr11 : w_192.cell? ⟨A1, o1 + i * 3 + 1, none⟩ = some (.slice q.A q.n q.c) := (HB_195.out.cell (p := ⟨A1, o1 + i * 3 + 1, none⟩) hl1).trans X1.out; have cr12 : w_192.cell? ⟨A1, o1 + i * 3 + 2, none⟩ = some (.int .i64 (a i).x) := (HB_195.out.cell (p := ⟨A1, o1 + i * 3 + 2, none⟩) hl1).trans X2.out; have cr20 : w_192.cell? ⟨A2, o2 + i * 3, none⟩ = some (.bool t.b) := (HB_195.out.cell (p := ⟨A2, o2 + i * 3, none⟩) hl2).trans Y0.out; have cr21 : w_192.cell? ⟨A2, o2 + i * 3 + 1, none⟩ = some (.slice t.A t.n t.c) := (HB_195.out.cell (p := ⟨A2, o2 + i * 3 + 1, none⟩) hl2).trans Y1.out; have cr22 : w_192.cell? ⟨A2, o2 + i * 3 + 2, none⟩ = some (.int .i64 (b i).x) := (HB_195.out.cell (p := ⟨A2, o2 + i * 3 + 2, none⟩) hl2).trans Y2.out; obtain ⟨⟨_, px0⟩, ⟨_, px1⟩, ⟨_, px2⟩, rx0, rx1, rx2⟩ := Ox_194.out.there hi2; have lx := Ox_194.out.lt; have k_201 : SX1 (w_192) := (hS1 _).2 ⟨(Below.cell (p := ⟨A1, o1 + i * 3, none⟩) HB_195.out hl1).trans X0.out, (Below.cell (p := ⟨A1, o1 + i * 3 + 1, none⟩) HB_195.out hl1).trans X1.out, (Below.cell (p := ⟨A1, o1 + i * 3 + 2, none⟩) HB_195.out hl1).trans X2.out, (Below.cell (p := ⟨A2, o2 + i * 3, none⟩) HB_195.out hl2).trans Y0.out, (Below.cell (p := ⟨A2, o2 + i * 3 + 1, none⟩) HB_195.out hl2).trans Y1.out, (Below.cell (p := ⟨A2, o2 + i * 3 + 2, none⟩) HB_195.out hl2).trans Y2.out⟩)
           | (clear tok_113; go_at_call 59; (with_reducible refine (spoint_any (w_149) m (b i).abs RM_156.out).mono ?_); rintro e w_203 ⟨⟨x, rfl, hx⟩, hb⟩; clear ls cs0 cs1 cs2 cs3 cs4 cs5 fs0 fs1 fs2 fs3 fs4 fs5 cr10 cr11 cr12 cr20 cr21 cr22 px0 px1 px2 rx0 rx1 rx2 lx k_157; have K := Dk.below hb; have Bs_204 := Lib.hid (show Bk _ _ _ #[.bool false, .slice none 0 0, .int .i64 0, .bool false, .slice none 0 0, .int .i64 0] from Bs_150.out.below hb); have Ox_205 := Lib.hid (show OD _ (w.heap.size) n (fun j => if j < i then (fun j => mor (a j) (b j) bits) j else D.zero) from Ox_151.out.below hb); have HB_206 := Lib.hid (below_tr HB_152.out hb); clear hb; have RQ_207 := Lib.hid (RQ_153.out.dk K); have RT_208 := Lib.hid (RT_154.out.dk K); have SS_209 := Lib.hid (SS_155.out.dk K); have RM_210 := Lib.hid (RM_156.out.dk K); clear K Bs_150 Ox_151 HB_152 RQ_153 RT_154 SS_155 RM_156; have SX_211 := Lib.hid hx; clear hx; have ls := Bs_204.out.lt; obtain ⟨cs0, cs1, cs2, cs3, cs4, cs5⟩ := Bs_204.out.cells6; have fs0 := Bs_204.out.free 0; have fs1 := Bs_204.out.free 1; have fs2 := Bs_204.out.free 2; have fs3 := Bs_204.out.free 3; have fs4 := Bs_204.out.free 4; have fs5 := Bs_204.out.free 5; have cr10 : w_203.cell? ⟨A1, o1 + i * 3, none⟩ = some (.bool q.b) := (HB_206.out.cell (p := ⟨A1, o1 + i * 3, none⟩) hl1).trans X0.out; have cr11 : w_203.cell? ⟨A1, o1 + i * 3 + 1, none⟩ = some (.slice q.A q.n q.c) := (HB_206.out.cell (p := ⟨A1, o1 + i * 3 + 1, none⟩) hl1).trans X1.out; have cr12 : w_203.cell? ⟨A1, o1 + i * 3 + 2, none⟩ = some (.int .i64 (a i).x) := (HB_206.out.cell (p := ⟨A1, o1 + i * 3 + 2, none⟩) hl1).trans X2.out; have cr20 : w_203.cell? ⟨A2, o2 + i * 3, none⟩ = some (.bool t.b) := (HB_206.out.cell (p := ⟨A2, o2 + i * 3, none⟩) hl2).trans Y0.out; have cr21 : w_203.cell? ⟨A2, o2 + i * 3 + 1, none⟩ = some (.slice t.A t.n t.c) := (HB_206.out.cell (p := ⟨A2, o2 + i * 3 + 1, none⟩) hl2).trans Y1.out; have cr22 : w_203.cell? ⟨A2, o2 + i * 3 + 2, none⟩ = some (.int .i64 (b i).x) := (HB_206.out.cell (p := ⟨A2, o2 + i * 3 + 2, none⟩) hl2).trans Y2.out; obtain ⟨⟨_, px0⟩, ⟨_, px1⟩, ⟨_, px2⟩, rx0, rx1, rx2⟩ := Ox_205.out.there hi2; have lx := Ox_205.out.lt; have k_212 : SX1 (w_203) := (hS1 _).2 ⟨(Below.cell (p := ⟨A1, o1 + i * 3, none⟩) HB_206.out hl1).trans X0.out, (Below.cell (p := ⟨A1, o1 + i * 3 + 1, none⟩) HB_206.out hl1).trans X1.out, (Below.cell (p := ⟨A1, o1 + i * 3 + 2, none⟩) HB_206.out hl1).trans X2.out, (Below.cell (p := ⟨A2, o2 + i * 3, none⟩) HB_206.out hl2).trans Y0.out, (Below.cell (p := ⟨A2, o2 + i * 3 + 1, none⟩) HB_206.out hl2).trans Y1.out, (Below.cell (p := ⟨A2, o2 + i * 3 + 2, none⟩) HB_206.out hl2).trans Y2.out⟩)
           | (clear tok_107; go_at_call 38; (with_reducible refine (sadd_any (w_169) s x (Sp.pt (a i)) (Sp.pt (b i).abs) bits E T SS_174.out SX_176.out La.out Lb.out hET hb2 hb3 (HT.out.below HB_171.out)).mono ?_); rintro e w_214 ⟨⟨p, rfl, hp⟩, hb⟩; clear cr10 cr11 cr12 cr20 cr21 cr22 px0 px1 px2 rx0 rx1 rx2 lx k_177 k_178; have K := Dk.below hb; have Ox_215 := Lib.hid (show OD _ (w.heap.size) n (fun j => if j < i then (fun j => mor (a j) (b j) bits) j else D.zero) from Ox_170.out.below hb); have HB_216 := Lib.hid (below_tr HB_171.out hb); clear hb; have RQ_217 := Lib.hid (RQ_172.out.dk K); have RT_218 := Lib.hid (RT_173.out.dk K); have SS_219 := Lib.hid (SS_174.out.dk K); have RM_220 := Lib.hid (RM_175.out.dk K); have SX_221 := Lib.hid (SX_176.out.dk K); clear K Ox_170 HB_171 RQ_172 RT_173 SS_174 RM_175 SX_176; have SP_222 := Lib.hid hp; clear hp; have cr10 : w_214.cell? ⟨A1, o1 + i * 3, none⟩ = some (.bool q.b) := (HB_216.out.cell (p := ⟨A1, o1 + i * 3, none⟩) hl1).trans X0.out; have cr11 : w_214.cell? ⟨A1, o1 + i * 3 + 1, none⟩ = some (.slice q.A q.n q.c) := (HB_216.out.cell (p := ⟨A1, o1 + i * 3 + 1, none⟩) hl1).trans X1.out; have cr12 : w_214.cell? ⟨A1, o1 + i * 3 + 2, none⟩ = some (.int .i64 (a i).x) := (HB_216.out.cell (p := ⟨A1, o1 + i * 3 + 2, none⟩) hl1).trans X2.out; have cr20 : w_214.cell? ⟨A2, o2 + i * 3, none⟩ = some (.bool t.b) := (HB_216.out.cell (p := ⟨A2, o2 + i * 3, none⟩) hl2).trans Y0.out; have cr21 : w_214.cell? ⟨A2, o2 + i * 3 + 1, none⟩ = some (.slice t.A t.n t.c) := (HB_216.out.cell (p := ⟨A2, o2 + i * 3 + 1, none⟩) hl2).trans Y1.out; have cr22 : w_214.cell? ⟨A2, o2 + i * 3 + 2, none⟩ = some (.int .i64 (b i).x) := (HB_216.out.cell (p := ⟨A2, o2 + i * 3 + 2, none⟩) hl2).trans Y2.out; obtain ⟨⟨_, px0⟩, ⟨_, px1⟩, ⟨_, px2⟩, rx0, rx1, rx2⟩ := Ox_215.out.there hi2; have lx := Ox_215.out.lt; have k_223 : SX1 (w_214) := (hS1 _).2 ⟨(Below.cell (p := ⟨A1, o1 + i * 3, none⟩) HB_216.out hl1).trans X0.out, (Below.cell (p := ⟨A1, o1 + i * 3 + 1, none⟩) HB_216.out hl1).trans X1.out, (Below.cell (p := ⟨A1, o1 + i * 3 + 2, none⟩) HB_216.out hl1).trans X2.out, (Below.cell (p := ⟨A2, o2 + i * 3, none⟩) HB_216.out hl2).trans Y0.out, (Below.cell (p := ⟨A2, o2 + i * 3 + 1, none⟩) HB_216.out hl2).trans Y1.out, (Below.cell (p := ⟨A2, o2 + i * 3 + 2, none⟩) HB_216.out hl2).trans Y2.out⟩; have n_224 := Ox_215.out.lt; have k_225 : SX1 (w_214.alloc (.cells #[.bool false, .slice none 0 0, .int .i64 0, .bool false, .slice none 0 0, .int .i64 0] 62)) := (hS1 _).2 ⟨(Below.cell (p := ⟨A1, o1 + i * 3, none⟩) (below_al HB_216.out _) hl1).trans X0.out, (Below.cell (p := ⟨A1, o1 + i * 3 + 1, none⟩) (below_al HB_216.out _) hl1).trans X1.out, (Below.cell (p := ⟨A1, o1 + i * 3 + 2, none⟩) (below_al HB_216.out _) hl1).trans X2.out, (Below.cell (p := ⟨A2, o2 + i * 3, none⟩) (below_al HB_216.out _) hl2).trans Y0.out, (Below.cell (p := ⟨A2, o2 + i * 3 + 1, none⟩) (below_al HB_216.out _) hl2).trans Y1.out, (Below.cell (p := ⟨A2, o2 + i * 3 + 2, none⟩) (below_al HB_216.out _) hl2).trans Y2.out⟩; have k_226 : SX1 (w_214.alloc (.cells #[.bool p.lo.b, .slice p.lo.A p.lo.n p.lo.c, .int .i64 (Sp.add (Sp.pt (a i)) (Sp.pt (b i).abs) bits).lo.x, .bool p.hi.b, .slice p.hi.A p.hi.n p.hi.c, .int .i64 (Sp.add (Sp.pt (a i)) (Sp.pt (b i).abs) bits).hi.x] 62)) := (hS1 _).2 ⟨(Below.cell (p := ⟨A1, o1 + i * 3, none⟩) (below_al HB_216.out _) hl1).trans X0.out, (Below.cell (p := ⟨A1, o1 + i * 3 + 1, none⟩) (below_al HB_216.out _) hl1).trans X1.out, (Below.cell (p := ⟨A1, o1 + i * 3 + 2, none⟩) (below_al HB_216.out _) hl1).trans X2.out, (Below.cell (p := ⟨A2, o2 + i * 3, none⟩) (below_al HB_216.out _) hl2).trans Y0.out, (Below.cell (p := ⟨A2, o2 + i * 3 + 1, none⟩) (below_al HB_216.out _) hl2).trans Y1.out, (Below.cell (p := ⟨A2, o2 + i * 3 + 2, none⟩) (below_al HB_216.out _) hl2).trans Y2.out⟩)
           | (clear tok_117; have n_228 := Ox_170.out.lt; go_at_call 38; (with_reducible refine (sadd_any (w_169.alloc (.cells #[.bool false, .slice none 0 0, .int .i64 0, .bool false, .slice none 0 0, .int .i64 0] 62)) s x (Sp.pt (a i)) (Sp.pt (b i).abs) bits E T (SS_174.out.dk ((Dk.refl _).alloc _)) (SX_176.out.dk ((Dk.refl _).alloc _)) La.out Lb.out hET hb2 hb3 (HT.out.below (below_al HB_171.out _))).mono ?_); rintro e w_229 ⟨⟨p, rfl, hp⟩, hb⟩; clear cr10 cr11 cr12 cr20 cr21 cr22 px0 px1 px2 rx0 rx1 rx2 lx k_177 k_178; have K := Dk.trans ((Dk.refl _).alloc _) (.below hb); have Bs_230 := Lib.hid (show Bk _ _ _ #[.bool false, .slice none 0 0, .int .i64 0, .bool false, .slice none 0 0, .int .i64 0] from (Bk.new _ 62 #[.bool false, .slice none 0 0, .int .i64 0, .bool false, .slice none 0 0, .int .i64 0]).below hb); have Ox_231 := Lib.hid (show OD _ (w.heap.size) n (fun j => if j < i then (fun j => mor (a j) (b j) bits) j else D.zero) from (Ox_170.out.al _).below hb); have HB_232 := Lib.hid (below_tr (below_al HB_171.out _) hb); clear hb; have RQ_233 := Lib.hid (RQ_172.out.dk K); have RT_234 := Lib.hid (RT_173.out.dk K); have SS_235 := Lib.hid (SS_174.out.dk K); have RM_236 := Lib.hid (RM_175.out.dk K); have SX_237 := Lib.hid (SX_176.out.dk K); clear K Ox_170 HB_171 RQ_172 RT_173 SS_174 RM_175 SX_176; have SP_238 := Lib.hid hp; clear hp; have ls := Bs_230.out.lt; obtain ⟨cs0, cs1, cs2, cs3, cs4, cs5⟩ := Bs_230.out.cells6; have fs0 := Bs_230.out.free 0; have fs1 := Bs_230.out.free 1; have fs2 := Bs_230.out.free 2; have fs3 := Bs_230.out.free 3; have fs4 := Bs_230.out.free 4; have fs5 := Bs_230.out.free 5; have cr10 : w_229.cell? ⟨A1, o1 + i * 3, none⟩ = some (.bool q.b) := (HB_232.out.cell (p := ⟨A1, o1 + i * 3, none⟩) hl1).trans X0.out; have cr11 : w_229.cell? ⟨A1, o1 + i * 3 + 1, none⟩ = some (.slice q.A q.n q.c) := (HB_232.out.cell (p := ⟨A1, o1 + i * 3 + 1, none⟩) hl1).trans X1.out; have cr12 : w_229.cell? ⟨A1, o1 + i * 3 + 2, none⟩ = some (.int .i64 (a i).x) := (HB_232.out.cell (p := ⟨A1, o1 + i * 3 + 2, none⟩) hl1).trans X2.out; have cr20 : w_229.cell? ⟨A2, o2 + i * 3, none⟩ = some (.bool t.b) := (HB_232.out.cell (p := ⟨A2, o2 + i * 3, none⟩) hl2).trans Y0.out; have cr21 : w_229.cell? ⟨A2, o2 + i * 3 + 1, none⟩ = some (.slice t.A t.n t.c) := (HB_232.out.cell (p := ⟨A2, o2 + i * 3 + 1, none⟩) hl2).trans Y1.out; have cr22 : w_229.cell? ⟨A2, o2 + i * 3 + 2, none⟩ = some (.int .i64 (b i).x) := (HB_232.out.cell (p := ⟨A2, o2 + i * 3 + 2, none⟩) hl2).trans Y2.out; obtain ⟨⟨_, px0⟩, ⟨_, px1⟩, ⟨_, px2⟩, rx0, rx1, rx2⟩ := Ox_231.out.there hi2; have lx := Ox_231.out.lt; have k_239 : SX1 (w_229) := (hS1 _).2 ⟨(Below.cell (p := ⟨A1, o1 + i * 3, none⟩) HB_232.out hl1).trans X0.out, (Below.cell (p := ⟨A1, o1 + i * 3 + 1, none⟩) HB_232.out hl1).trans X1.out, (Below.cell (p := ⟨A1, o1 + i * 3 + 2, none⟩) HB_232.out hl1).trans X2.out, (Below.cell (p := ⟨A2, o2 + i * 3, none⟩) HB_232.out hl2).trans Y0.out, (Below.cell (p := ⟨A2, o2 + i * 3 + 1, none⟩) HB_232.out hl2).trans Y1.out, (Below.cell (p := ⟨A2, o2 + i * 3 + 2, none⟩) HB_232.out hl2).trans Y2.out⟩; have y0 := HB_232.out.size; have k_240 : SX1 ((((((w_229.setCell ⟨w_169.heap.size, 0, none⟩ (.bool p.lo.b)).setCell ⟨w_169.heap.size, 1, none⟩ (.slice p.lo.A p.lo.n p.lo.c)).setCell ⟨w_169.heap.size, 2, none⟩ (.int .i64 (Sp.add (Sp.pt (a i)) (Sp.pt (b i).abs) bits).lo.x)).setCell ⟨w_169.heap.size, 3, none⟩ (.bool p.hi.b)).setCell ⟨w_169.heap.size, 4, none⟩ (.slice p.hi.A p.hi.n p.hi.c)).setCell ⟨w_169.heap.size, 5, none⟩ (.int .i64 (Sp.add (Sp.pt (a i)) (Sp.pt (b i).abs) bits).hi.x)) := (hS1 _).2 ⟨(Below.cell (p := ⟨A1, o1 + i * 3, none⟩) (below_st (below_st (below_st (below_st (below_st (below_st HB_232.out 0 (by omega) (.bool p.lo.b)) 1 (by omega) (.slice p.lo.A p.lo.n p.lo.c)) 2 (by omega) (.int .i64 (Sp.add (Sp.pt (a i)) (Sp.pt (b i).abs) bits).lo.x)) 3 (by omega) (.bool p.hi.b)) 4 (by omega) (.slice p.hi.A p.hi.n p.hi.c)) 5 (by omega) (.int .i64 (Sp.add (Sp.pt (a i)) (Sp.pt (b i).abs) bits).hi.x)) hl1).trans X0.out, (Below.cell (p := ⟨A1, o1 + i * 3 + 1, none⟩) (below_st (below_st (below_st (below_st (below_st (below_st HB_232.out 0 (by omega) (.bool p.lo.b)) 1 (by omega) (.slice p.lo.A p.lo.n p.lo.c)) 2 (by omega) (.int .i64 (Sp.add (Sp.pt (a i)) (Sp.pt (b i).abs) bits).lo.x)) 3 (by omega) (.bool p.hi.b)) 4 (by omega) (.slice p.hi.A p.hi.n p.hi.c)) 5 (by omega) (.int .i64 (Sp.add (Sp.pt (a i)) (Sp.pt (b i).abs) bits).hi.x)) hl1).trans X1.out, (Below.cell (p := ⟨A1, o1 + i * 3 + 2, none⟩) (below_st (below_st (below_st (below_st (below_st (below_st HB_232.out 0 (by omega) (.bool p.lo.b)) 1 (by omega) (.slice p.lo.A p.lo.n p.lo.c)) 2 (by omega) (.int .i64 (Sp.add (Sp.pt (a i)) (Sp.pt (b i).abs) bits).lo.x)) 3 (by omega) (.bool p.hi.b)) 4 (by omega) (.slice p.hi.A p.hi.n p.hi.c)) 5 (by omega) (.int .i64 (Sp.add (Sp.pt (a i)) (Sp.pt (b i).abs) bits).hi.x)) hl1).trans X2.out, (Below.cell (p := ⟨A2, o2 + i * 3, none⟩) (below_st (below_st (below_st (below_st (below_st (below_st HB_232.out 0 (by omega) (.bool p.lo.b)) 1 (by omega) (.slice p.lo.A p.lo.n p.lo.c)) 2 (by omega) (.int .i64 (Sp.add (Sp.pt (a i)) (Sp.pt (b i).abs) bits).lo.x)) 3 (by omega) (.bool p.hi.b)) 4 (by omega) (.slice p.hi.A p.hi.n p.hi.c)) 5 (by omega) (.int .i64 (Sp.add (Sp.pt (a i)) (Sp.pt (b i).abs) bits).hi.x)) hl2).trans Y0.out, (Below.cell (p := ⟨A2, o2 + i * 3 + 1, none⟩) (below_st (below_st (below_st (below_st (below_st (below_st HB_232.out 0 (by omega) (.bool p.lo.b)) 1 (by omega) (.slice p.lo.A p.lo.n p.lo.c)) 2 (by omega) (.int .i64 (Sp.add (Sp.pt (a i)) (Sp.pt (b i).abs) bits).lo.x)) 3 (by omega) (.bool p.hi.b)) 4 (by omega) (.slice p.hi.A p.hi.n p.hi.c)) 5 (by omega) (.int .i64 (Sp.add (Sp.pt (a i)) (Sp.pt (b i).abs) bits).hi.x)) hl2).trans Y1.out, (Below.cell (p := ⟨A2, o2 + i * 3 + 2, none⟩) (below_st (below_st (below_st (below_st (below_st (below_st HB_232.out 0 (by omega) (.bool p.lo.b)) 1 (by omega) (.slice p.lo.A p.lo.n p.lo.c)) 2 (by omega) (.int .i64 (Sp.add (Sp.pt (a i)) (Sp.pt (b i).abs) bits).lo.x)) 3 (by omega) (.bool p.hi.b)) 4 (by omega) (.slice p.hi.A p.hi.n p.hi.c)) 5 (by omega) (.int .i64 (Sp.add (Sp.pt (a i)) (Sp.pt (b i).abs) bits).hi.x)) hl2).trans Y2.out⟩; clear y0)
           | (clear tok_111; go_at_call 38; (with_reducible refine (sadd_any (w_192) s x (Sp.pt (a i)) (Sp.pt (b i).abs) bits E T SS_198.out SX_200.out La.out Lb.out hET hb2 hb3 (HT.out.below HB_195.out)).mono ?_); rintro e w_242 ⟨⟨p, rfl, hp⟩, hb⟩; clear ls cs0 cs1 cs2 cs3 cs4 cs5 fs0 fs1 fs2 fs3 fs4 fs5 cr10 cr11 cr12 cr20 cr21 cr22 px0 px1 px2 rx0 rx1 rx2 lx k_201; have K := Dk.below hb; have Bs_243 := Lib.hid (show Bk _ _ _ #[.bool false, .slice none 0 0, .int .i64 0, .bool false, .slice none 0 0, .int .i64 0] from Bs_193.out.below hb); have Ox_244 := Lib.hid (show OD _ (w.heap.size) n (fun j => if j < i then (fun j => mor (a j) (b j) bits) j else D.zero) from Ox_194.out.below hb); have HB_245 := Lib.hid (below_tr HB_195.out hb); clear hb; have RQ_246 := Lib.hid (RQ_196.out.dk K); have RT_247 := Lib.hid (RT_197.out.dk K); have SS_248 := Lib.hid (SS_198.out.dk K); have RM_249 := Lib.hid (RM_199.out.dk K); have SX_250 := Lib.hid (SX_200.out.dk K); clear K Bs_193 Ox_194 HB_195 RQ_196 RT_197 SS_198 RM_199 SX_200; have SP_251 := Lib.hid hp; clear hp; have ls := Bs_243.out.lt; obtain ⟨cs0, cs1, cs2, cs3, cs4, cs5⟩ := Bs_243.out.cells6; have fs0 := Bs_243.out.free 0; have fs1 := Bs_243.out.free 1; have fs2 := Bs_243.out.free 2; have fs3 := Bs_243.out.free 3; have fs4 := Bs_243.out.free 4; have fs5 := Bs_243.out.free 5; have cr10 : w_242.cell? ⟨A1, o1 + i * 3, none⟩ = some (.bool q.b) := (HB_245.out.cell (p := ⟨A1, o1 + i * 3, none⟩) hl1).trans X0.out; have cr11 : w_242.cell? ⟨A1, o1 + i * 3 + 1, none⟩ = some (.slice q.A q.n q.c) := (HB_245.out.cell (p := ⟨A1, o1 + i * 3 + 1, none⟩) hl1).trans X1.out; have cr12 : w_242.cell? ⟨A1, o1 + i * 3 + 2, none⟩ = some (.int .i64 (a i).x) := (HB_245.out.cell (p := ⟨A1, o1 + i * 3 + 2, none⟩) hl1).trans X2.out; have cr20 : w_242.cell? ⟨A2, o2 + i * 3, none⟩ = some (.bool t.b) := (HB_245.out.cell (p := ⟨A2, o2 + i * 3, none⟩) hl2).trans Y0.out; have cr21 : w_242.cell? ⟨A2, o2 + i * 3 + 1, none⟩ = some (.slice t.A t.n t.c) := (HB_245.out.cell (p := ⟨A2, o2 + i * 3 + 1, none⟩) hl2).trans Y1.out; have cr22 : w_242.cell? ⟨A2, o2 + i * 3 + 2, none⟩ = some (.int .i64 (b i).x) := (HB_245.out.cell (p := ⟨A2, o2 + i * 3 + 2, none⟩) hl2).trans Y2.out; obtain ⟨⟨_, px0⟩, ⟨_, px1⟩, ⟨_, px2⟩, rx0, rx1, rx2⟩ := Ox_244.out.there hi2; have lx := Ox_244.out.lt; have k_252 : SX1 (w_242) := (hS1 _).2 ⟨(Below.cell (p := ⟨A1, o1 + i * 3, none⟩) HB_245.out hl1).trans X0.out, (Below.cell (p := ⟨A1, o1 + i * 3 + 1, none⟩) HB_245.out hl1).trans X1.out, (Below.cell (p := ⟨A1, o1 + i * 3 + 2, none⟩) HB_245.out hl1).trans X2.out, (Below.cell (p := ⟨A2, o2 + i * 3, none⟩) HB_245.out hl2).trans Y0.out, (Below.cell (p := ⟨A2, o2 + i * 3 + 1, none⟩) HB_245.out hl2).trans Y1.out, (Below.cell (p := ⟨A2, o2 + i * 3 + 2, none⟩) HB_245.out hl2).trans Y2.out⟩; have y0 := HB_245.out.size; have k_253 : SX1 ((((((w_242.setCell ⟨wr.heap.size, 0, none⟩ (.bool p.lo.b)).setCell ⟨wr.heap.size, 1, none⟩ (.slice p.lo.A p.lo.n p.lo.c)).setCell ⟨wr.heap.size, 2, none⟩ (.int .i64 (Sp.add (Sp.pt (a i)) (Sp.pt (b i).abs) bits).lo.x)).setCell ⟨wr.heap.size, 3, none⟩ (.bool p.hi.b)).setCell ⟨wr.heap.size, 4, none⟩ (.slice p.hi.A p.hi.n p.hi.c)).setCell ⟨wr.heap.size, 5, none⟩ (.int .i64 (Sp.add (Sp.pt (a i)) (Sp.pt (b i).abs) bits).hi.x)) := (hS1 _).2 ⟨(Below.cell (p := ⟨A1, o1 + i * 3, none⟩) (below_st (below_st (below_st (below_st (below_st (below_st HB_245.out 0 (by omega) (.bool p.lo.b)) 1 (by omega) (.slice p.lo.A p.lo.n p.lo.c)) 2 (by omega) (.int .i64 (Sp.add (Sp.pt (a i)) (Sp.pt (b i).abs) bits).lo.x)) 3 (by omega) (.bool p.hi.b)) 4 (by omega) (.slice p.hi.A p.hi.n p.hi.c)) 5 (by omega) (.int .i64 (Sp.add (Sp.pt (a i)) (Sp.pt (b i).abs) bits).hi.x)) hl1).trans X0.out, (Below.cell (p := ⟨A1, o1 + i * 3 + 1, none⟩) (below_st (below_st (below_st (below_st (below_st (below_st HB_245.out 0 (by omega) (.bool p.lo.b)) 1 (by omega) (.slice p.lo.A p.lo.n p.lo.c)) 2 (by omega) (.int .i64 (Sp.add (Sp.pt (a i)) (Sp.pt (b i).abs) bits).lo.x)) 3 (by omega) (.bool p.hi.b)) 4 (by omega) (.slice p.hi.A p.hi.n p.hi.c)) 5 (by omega) (.int .i64 (Sp.add (Sp.pt (a i)) (Sp.pt (b i).abs) bits).hi.x)) hl1).trans X1.out, (Below.cell (p := ⟨A1, o1 + i * 3 + 2, none⟩) (below_st (below_st (below_st (below_st (below_st (below_st HB_245.out 0 (by omega) (.bool p.lo.b)) 1 (by omega) (.slice p.lo.A p.lo.n p.lo.c)) 2 (by omega) (.int .i64 (Sp.add (Sp.pt (a i)) (Sp.pt (b i).abs) bits).lo.x)) 3 (by omega) (.bool p.hi.b)) 4 (by omega) (.slice p.hi.A p.hi.n p.hi.c)) 5 (by omega) (.int .i64 (Sp.add (Sp.pt (a i)) (Sp.pt (b i).abs) bits).hi.x)) hl1).trans X2.out, (Below.cell (p := ⟨A2, o2 + i * 3, none⟩) (below_st (below_st (below_st (below_st (below_st (below_st HB_245.out 0 (by omega) (.bool p.lo.b)) 1 (by omega) (.slice p.lo.A p.lo.n p.lo.c)) 2 (by omega) (.int .i64 (Sp.add (Sp.pt (a i)) (Sp.pt (b i).abs) bits).lo.x)) 3 (by omega) (.bool p.hi.b)) 4 (by omega) (.slice p.hi.A p.hi.n p.hi.c)) 5 (by omega) (.int .i64 (Sp.add (Sp.pt (a i)) (Sp.pt (b i).abs) bits).hi.x)) hl2).trans Y0.out, (Below.cell (p := ⟨A2, o2 + i * 3 + 1, none⟩) (below_st (below_st (below_st (below_st (below_st (below_st HB_245.out 0 (by omega) (.bool p.lo.b)) 1 (by omega) (.slice p.lo.A p.lo.n p.lo.c)) 2 (by omega) (.int .i64 (Sp.add (Sp.pt (a i)) (Sp.pt (b i).abs) bits).lo.x)) 3 (by omega) (.bool p.hi.b)) 4 (by omega) (.slice p.hi.A p.hi.n p.hi.c)) 5 (by omega) (.int .i64 (Sp.add (Sp.pt (a i)) (Sp.pt (b i).abs) bits).hi.x)) hl2).trans Y1.out, (Below.cell (p := ⟨A2, o2 + i * 3 + 2, none⟩) (below_st (below_st (below_st (below_st (below_st (below_st HB_245.out 0 (by omega) (.bool p.lo.b)) 1 (by omega) (.slice p.lo.A p.lo.n p.lo.c)) 2 (by omega) (.int .i64 (Sp.add (Sp.pt (a i)) (Sp.pt (b i).abs) bits).lo.x)) 3 (by omega) (.bool p.hi.b)) 4 (by omega) (.slice p.hi.A p.hi.n p.hi.c)) 5 (by omega) (.int .i64 (Sp.add (Sp.pt (a i)) (Sp.pt (b i).abs) bits).hi.x)) hl2).trans Y2.out⟩; clear y0)
           | (clear tok_114; go_at_call 38; (with_reducible refine (sadd_any (w_203) s x (Sp.pt (a i)) (Sp.pt (b i).abs) bits E T SS_209.out SX_211.out La.out Lb.out hET hb2 hb3 (HT.out.below HB_206.out)).mono ?_); rintro e w_255 ⟨⟨p, rfl, hp⟩, hb⟩; clear ls cs0 cs1 cs2 cs3 cs4 cs5 fs0 fs1 fs2 fs3 fs4 fs5 cr10 cr11 cr12 cr20 cr21 cr22 px0 px1 px2 rx0 rx1 rx2 lx k_212; have K := Dk.below hb; have Bs_256 := Lib.hid (show Bk _ _ _ #[.bool false, .slice none 0 0, .int .i64 0, .bool false, .slice none 0 0, .int .i64 0] from Bs_204.out.below hb); have Ox_257 := Lib.hid (show OD _ (w.heap.size) n (fun j => if j < i then (fun j => mor (a j) (b j) bits) j else D.zero) from Ox_205.out.below hb); have HB_258 := Lib.hid (below_tr HB_206.out hb); clear hb; have RQ_259 := Lib.hid (RQ_207.out.dk K); have RT_260 := Lib.hid (RT_208.out.dk K); have SS_261 := Lib.hid (SS_209.out.dk K); have RM_262 := Lib.hid (RM_210.out.dk K); have SX_263 := Lib.hid (SX_211.out.dk K); clear K Bs_204 Ox_205 HB_206 RQ_207 RT_208 SS_209 RM_210 SX_211; have SP_264 := Lib.hid hp; clear hp; have ls := Bs_256.out.lt; obtain ⟨cs0, cs1, cs2, cs3, cs4, cs5⟩ := Bs_256.out.cells6; have fs0 := Bs_256.out.free 0; have fs1 := Bs_256.out.free 1; have fs2 := Bs_256.out.free 2; have fs3 := Bs_256.out.free 3; have fs4 := Bs_256.out.free 4; have fs5 := Bs_256.out.free 5; have cr10 : w_255.cell? ⟨A1, o1 + i * 3, none⟩ = some (.bool q.b) := (HB_258.out.cell (p := ⟨A1, o1 + i * 3, none⟩) hl1).trans X0.out; have cr11 : w_255.cell? ⟨A1, o1 + i * 3 + 1, none⟩ = some (.slice q.A q.n q.c) := (HB_258.out.cell (p := ⟨A1, o1 + i * 3 + 1, none⟩) hl1).trans X1.out; have cr12 : w_255.cell? ⟨A1, o1 + i * 3 + 2, none⟩ = some (.int .i64 (a i).x) := (HB_258.out.cell (p := ⟨A1, o1 + i * 3 + 2, none⟩) hl1).trans X2.out; have cr20 : w_255.cell? ⟨A2, o2 + i * 3, none⟩ = some (.bool t.b) := (HB_258.out.cell (p := ⟨A2, o2 + i * 3, none⟩) hl2).trans Y0.out; have cr21 : w_255.cell? ⟨A2, o2 + i * 3 + 1, none⟩ = some (.slice t.A t.n t.c) := (HB_258.out.cell (p := ⟨A2, o2 + i * 3 + 1, none⟩) hl2).trans Y1.out; have cr22 : w_255.cell? ⟨A2, o2 + i * 3 + 2, none⟩ = some (.int .i64 (b i).x) := (HB_258.out.cell (p := ⟨A2, o2 + i * 3 + 2, none⟩) hl2).trans Y2.out; obtain ⟨⟨_, px0⟩, ⟨_, px1⟩, ⟨_, px2⟩, rx0, rx1, rx2⟩ := Ox_257.out.there hi2; have lx := Ox_257.out.lt; have k_265 : SX1 (w_255) := (hS1 _).2 ⟨(Below.cell (p := ⟨A1, o1 + i * 3, none⟩) HB_258.out hl1).trans X0.out, (Below.cell (p := ⟨A1, o1 + i * 3 + 1, none⟩) HB_258.out hl1).trans X1.out, (Below.cell (p := ⟨A1, o1 + i * 3 + 2, none⟩) HB_258.out hl1).trans X2.out, (Below.cell (p := ⟨A2, o2 + i * 3, none⟩) HB_258.out hl2).trans Y0.out, (Below.cell (p := ⟨A2, o2 + i * 3 + 1, none⟩) HB_258.out hl2).trans Y1.out, (Below.cell (p := ⟨A2, o2 + i * 3 + 2, none⟩) HB_258.out hl2).trans Y2.out⟩; have y0 := HB_258.out.size; have k_266 : SX1 ((((((w_255.setCell ⟨w_119.heap.size, 0, none⟩ (.bool p.lo.b)).setCell ⟨w_119.heap.size, 1, none⟩ (.slice p.lo.A p.lo.n p.lo.c)).setCell ⟨w_119.heap.size, 2, none⟩ (.int .i64 (Sp.add (Sp.pt (a i)) (Sp.pt (b i).abs) bits).lo.x)).setCell ⟨w_119.heap.size, 3, none⟩ (.bool p.hi.b)).setCell ⟨w_119.heap.size, 4, none⟩ (.slice p.hi.A p.hi.n p.hi.c)).setCell ⟨w_119.heap.size, 5, none⟩ (.int .i64 (Sp.add (Sp.pt (a i)) (Sp.pt (b i).abs) bits).hi.x)) := (hS1 _).2 ⟨(Below.cell (p := ⟨A1, o1 + i * 3, none⟩) (below_st (below_st (below_st (below_st (below_st (below_st HB_258.out 0 (by omega) (.bool p.lo.b)) 1 (by omega) (.slice p.lo.A p.lo.n p.lo.c)) 2 (by omega) (.int .i64 (Sp.add (Sp.pt (a i)) (Sp.pt (b i).abs) bits).lo.x)) 3 (by omega) (.bool p.hi.b)) 4 (by omega) (.slice p.hi.A p.hi.n p.hi.c)) 5 (by omega) (.int .i64 (Sp.add (Sp.pt (a i)) (Sp.pt (b i).abs) bits).hi.x)) hl1).trans X0.out, (Below.cell (p := ⟨A1, o1 + i * 3 + 1, none⟩) (below_st (below_st (below_st (below_st (below_st (below_st HB_258.out 0 (by omega) (.bool p.lo.b)) 1 (by omega) (.slice p.lo.A p.lo.n p.lo.c)) 2 (by omega) (.int .i64 (Sp.add (Sp.pt (a i)) (Sp.pt (b i).abs) bits).lo.x)) 3 (by omega) (.bool p.hi.b)) 4 (by omega) (.slice p.hi.A p.hi.n p.hi.c)) 5 (by omega) (.int .i64 (Sp.add (Sp.pt (a i)) (Sp.pt (b i).abs) bits).hi.x)) hl1).trans X1.out, (Below.cell (p := ⟨A1, o1 + i * 3 + 2, none⟩) (below_st (below_st (below_st (below_st (below_st (below_st HB_258.out 0 (by omega) (.bool p.lo.b)) 1 (by omega) (.slice p.lo.A p.lo.n p.lo.c)) 2 (by omega) (.int .i64 (Sp.add (Sp.pt (a i)) (Sp.pt (b i).abs) bits).lo.x)) 3 (by omega) (.bool p.hi.b)) 4 (by omega) (.slice p.hi.A p.hi.n p.hi.c)) 5 (by omega) (.int .i64 (Sp.add (Sp.pt (a i)) (Sp.pt (b i).abs) bits).hi.x)) hl1).trans X2.out, (Below.cell (p := ⟨A2, o2 + i * 3, none⟩) (below_st (below_st (below_st (below_st (below_st (below_st HB_258.out 0 (by omega) (.bool p.lo.b)) 1 (by omega) (.slice p.lo.A p.lo.n p.lo.c)) 2 (by omega) (.int .i64 (Sp.add (Sp.pt (a i)) (Sp.pt (b i).abs) bits).lo.x)) 3 (by omega) (.bool p.hi.b)) 4 (by omega) (.slice p.hi.A p.hi.n p.hi.c)) 5 (by omega) (.int .i64 (Sp.add (Sp.pt (a i)) (Sp.pt (b i).abs) bits).hi.x)) hl2).trans Y0.out, (Below.cell (p := ⟨A2, o2 + i * 3 + 1, none⟩) (below_st (below_st (below_st (below_st (below_st (below_st HB_258.out 0 (by omega) (.bool p.lo.b)) 1 (by omega) (.slice p.lo.A p.lo.n p.lo.c)) 2 (by omega) (.int .i64 (Sp.add (Sp.pt (a i)) (Sp.pt (b i).abs) bits).lo.x)) 3 (by omega) (.bool p.hi.b)) 4 (by omega) (.slice p.hi.A p.hi.n p.hi.c)) 5 (by omega) (.int .i64 (Sp.add (Sp.pt (a i)) (Sp.pt (b i).abs) bits).hi.x)) hl2).trans Y1.out, (Below.cell (p := ⟨A2, o2 + i * 3 + 2, none⟩) (below_st (below_st (below_st (below_st (below_st (below_st HB_258.out 0 (by omega) (.bool p.lo.b)) 1 (by omega) (.slice p.lo.A p.lo.n p.lo.c)) 2 (by omega) (.int .i64 (Sp.add (Sp.pt (a i)) (Sp.pt (b i).abs) bits).lo.x)) 3 (by omega) (.bool p.hi.b)) 4 (by omega) (.slice p.hi.A p.hi.n p.hi.c)) 5 (by omega) (.int .i64 (Sp.add (Sp.pt (a i)) (Sp.pt (b i).abs) bits).hi.x)) hl2).trans Y2.out⟩; clear y0)
           | (clear tok_116; go_at_call 38; (with_reducible refine (sadd_any (w_181) s x (Sp.pt (a i)) (Sp.pt (b i).abs) bits E T SS_187.out SX_189.out La.out Lb.out hET hb2 hb3 (HT.out.below HB_184.out)).mono ?_); rintro e w_268 ⟨⟨p, rfl, hp⟩, hb⟩; clear ls cs0 cs1 cs2 cs3 cs4 cs5 fs0 fs1 fs2 fs3 fs4 fs5 cr10 cr11 cr12 cr20 cr21 cr22 px0 px1 px2 rx0 rx1 rx2 lx k_190; have K := Dk.below hb; have Bs_269 := Lib.hid (show Bk _ _ _ #[.bool false, .slice none 0 0, .int .i64 0, .bool false, .slice none 0 0, .int .i64 0] from Bs_182.out.below hb); have Ox_270 := Lib.hid (show OD _ (w.heap.size) n (fun j => if j < i then (fun j => mor (a j) (b j) bits) j else D.zero) from Ox_183.out.below hb); have HB_271 := Lib.hid (below_tr HB_184.out hb); clear hb; have RQ_272 := Lib.hid (RQ_185.out.dk K); have RT_273 := Lib.hid (RT_186.out.dk K); have SS_274 := Lib.hid (SS_187.out.dk K); have RM_275 := Lib.hid (RM_188.out.dk K); have SX_276 := Lib.hid (SX_189.out.dk K); clear K Bs_182 Ox_183 HB_184 RQ_185 RT_186 SS_187 RM_188 SX_189; have SP_277 := Lib.hid hp; clear hp; have ls := Bs_269.out.lt; obtain ⟨cs0, cs1, cs2, cs3, cs4, cs5⟩ := Bs_269.out.cells6; have fs0 := Bs_269.out.free 0; have fs1 := Bs_269.out.free 1; have fs2 := Bs_269.out.free 2; have fs3 := Bs_269.out.free 3; have fs4 := Bs_269.out.free 4; have fs5 := Bs_269.out.free 5; have cr10 : w_268.cell? ⟨A1, o1 + i * 3, none⟩ = some (.bool q.b) := (HB_271.out.cell (p := ⟨A1, o1 + i * 3, none⟩) hl1).trans X0.out; have cr11 : w_268.cell? ⟨A1, o1 + i * 3 + 1, none⟩ = some (.slice q.A q.n q.c) := (HB_271.out.cell (p := ⟨A1, o1 + i * 3 + 1, none⟩) hl1).trans X1.out; have cr12 : w_268.cell? ⟨A1, o1 + i * 3 + 2, none⟩ = some (.int .i64 (a i).x) := (HB_271.out.cell (p := ⟨A1, o1 + i * 3 + 2, none⟩) hl1).trans X2.out; have cr20 : w_268.cell? ⟨A2, o2 + i * 3, none⟩ = some (.bool t.b) := (HB_271.out.cell (p := ⟨A2, o2 + i * 3, none⟩) hl2).trans Y0.out; have cr21 : w_268.cell? ⟨A2, o2 + i * 3 + 1, none⟩ = some (.slice t.A t.n t.c) := (HB_271.out.cell (p := ⟨A2, o2 + i * 3 + 1, none⟩) hl2).trans Y1.out; have cr22 : w_268.cell? ⟨A2, o2 + i * 3 + 2, none⟩ = some (.int .i64 (b i).x) := (HB_271.out.cell (p := ⟨A2, o2 + i * 3 + 2, none⟩) hl2).trans Y2.out; obtain ⟨⟨_, px0⟩, ⟨_, px1⟩, ⟨_, px2⟩, rx0, rx1, rx2⟩ := Ox_270.out.there hi2; have lx := Ox_270.out.lt; have k_278 : SX1 (w_268) := (hS1 _).2 ⟨(Below.cell (p := ⟨A1, o1 + i * 3, none⟩) HB_271.out hl1).trans X0.out, (Below.cell (p := ⟨A1, o1 + i * 3 + 1, none⟩) HB_271.out hl1).trans X1.out, (Below.cell (p := ⟨A1, o1 + i * 3 + 2, none⟩) HB_271.out hl1).trans X2.out, (Below.cell (p := ⟨A2, o2 + i * 3, none⟩) HB_271.out hl2).trans Y0.out, (Below.cell (p := ⟨A2, o2 + i * 3 + 1, none⟩) HB_271.out hl2).trans Y1.out, (Below.cell (p := ⟨A2, o2 + i * 3 + 2, none⟩) HB_271.out hl2).trans Y2.out⟩; have y0 := HB_271.out.size; have k_279 : SX1 ((((((w_268.setCell ⟨w_138.heap.size, 0, none⟩ (.bool p.lo.b)).setCell ⟨w_138.heap.size, 1, none⟩ (.slice p.lo.A p.lo.n p.lo.c)).setCell ⟨w_138.heap.size, 2, none⟩ (.int .i64 (Sp.add (Sp.pt (a i)) (Sp.pt (b i).abs) bits).lo.x)).setCell ⟨w_138.heap.size, 3, none⟩ (.bool p.hi.b)).setCell ⟨w_138.heap.size, 4, none⟩ (.slice p.hi.A p.hi.n p.hi.c)).setCell ⟨w_138.heap.size, 5, none⟩ (.int .i64 (Sp.add (Sp.pt (a i)) (Sp.pt (b i).abs) bits).hi.x)) := (hS1 _).2 ⟨(Below.cell (p := ⟨A1, o1 + i * 3, none⟩) (below_st (below_st (below_st (below_st (below_st (below_st HB_271.out 0 (by omega) (.bool p.lo.b)) 1 (by omega) (.slice p.lo.A p.lo.n p.lo.c)) 2 (by omega) (.int .i64 (Sp.add (Sp.pt (a i)) (Sp.pt (b i).abs) bits).lo.x)) 3 (by omega) (.bool p.hi.b)) 4 (by omega) (.slice p.hi.A p.hi.n p.hi.c)) 5 (by omega) (.int .i64 (Sp.add (Sp.pt (a i)) (Sp.pt (b i).abs) bits).hi.x)) hl1).trans X0.out, (Below.cell (p := ⟨A1, o1 + i * 3 + 1, none⟩) (below_st (below_st (below_st (below_st (below_st (below_st HB_271.out 0 (by omega) (.bool p.lo.b)) 1 (by omega) (.slice p.lo.A p.lo.n p.lo.c)) 2 (by omega) (.int .i64 (Sp.add (Sp.pt (a i)) (Sp.pt (b i).abs) bits).lo.x)) 3 (by omega) (.bool p.hi.b)) 4 (by omega) (.slice p.hi.A p.hi.n p.hi.c)) 5 (by omega) (.int .i64 (Sp.add (Sp.pt (a i)) (Sp.pt (b i).abs) bits).hi.x)) hl1).trans X1.out, (Below.cell (p := ⟨A1, o1 + i * 3 + 2, none⟩) (below_st (below_st (below_st (below_st (below_st (below_st HB_271.out 0 (by omega) (.bool p.lo.b)) 1 (by omega) (.slice p.lo.A p.lo.n p.lo.c)) 2 (by omega) (.int .i64 (Sp.add (Sp.pt (a i)) (Sp.pt (b i).abs) bits).lo.x)) 3 (by omega) (.bool p.hi.b)) 4 (by omega) (.slice p.hi.A p.hi.n p.hi.c)) 5 (by omega) (.int .i64 (Sp.add (Sp.pt (a i)) (Sp.pt (b i).abs) bits).hi.x)) hl1).trans X2.out, (Below.cell (p := ⟨A2, o2 + i * 3, none⟩) (below_st (below_st (below_st (below_st (below_st (below_st HB_271.out 0 (by omega) (.bool p.lo.b)) 1 (by omega) (.slice p.lo.A p.lo.n p.lo.c)) 2 (by omega) (.int .i64 (Sp.add (Sp.pt (a i)) (Sp.pt (b i).abs) bits).lo.x)) 3 (by omega) (.bool p.hi.b)) 4 (by omega) (.slice p.hi.A p.hi.n p.hi.c)) 5 (by omega) (.int .i64 (Sp.add (Sp.pt (a i)) (Sp.pt (b i).abs) bits).hi.x)) hl2).trans Y0.out, (Below.cell (p := ⟨A2, o2 + i * 3 + 1, none⟩) (below_st (below_st (below_st (below_st (below_st (below_st HB_271.out 0 (by omega) (.bool p.lo.b)) 1 (by omega) (.slice p.lo.A p.lo.n p.lo.c)) 2 (by omega) (.int .i64 (Sp.add (Sp.pt (a i)) (Sp.pt (b i).abs) bits).lo.x)) 3 (by omega) (.bool p.hi.b)) 4 (by omega) (.slice p.hi.A p.hi.n p.hi.c)) 5 (by omega) (.int .i64 (Sp.add (Sp.pt (a i)) (Sp.pt (b i).abs) bits).hi.x)) hl2).trans Y1.out, (Below.cell (p := ⟨A2, o2 + i * 3 + 2, none⟩) (below_st (below_st (below_st (below_st (below_st (below_st HB_271.out 0 (by omega) (.bool p.lo.b)) 1 (by omega) (.slice p.lo.A p.lo.n p.lo.c)) 2 (by omega) (.int .i64 (Sp.add (Sp.pt (a i)) (Sp.pt (b i).abs) bits).lo.x)) 3 (by omega) (.bool p.hi.b)) 4 (by omega) (.slice p.hi.A p.hi.n p.hi.c)) 5 (by omega) (.int .i64 (Sp.add (Sp.pt (a i)) (Sp.pt (b i).abs) bits).hi.x)) hl2).trans Y2.out⟩; clear y0))
        all_goals (go_wp2_with fail; go_meet; first | (exact ⟨w_214.heap.size, p, rfl, rfl, (by have := Ox_215.out.lt; have := HB_216.out.size; omega), (Bk.new _ 62 #[.bool p.lo.b, .slice p.lo.A p.lo.n p.lo.c, .int .i64 (Sp.add (Sp.pt (a i)) (Sp.pt (b i).abs) bits).lo.x, .bool p.hi.b, .slice p.hi.A p.hi.n p.hi.c, .int .i64 (Sp.add (Sp.pt (a i)) (Sp.pt (b i).abs) bits).hi.x]), (Ox_215.out.al _), (below_al HB_216.out _), (SP_222.out.dk ((Dk.refl _).alloc _))⟩) | (have y0 := Bs_243.out.lt; have y1 := Ox_244.out.lt; have y2 := HB_245.out.size; exact ⟨wr.heap.size, p, rfl, rfl, (by omega), ((((((Bs_243.out.set 0 (.bool p.lo.b)).set 1 (.slice p.lo.A p.lo.n p.lo.c)).set 2 (.int .i64 (Sp.add (Sp.pt (a i)) (Sp.pt (b i).abs) bits).lo.x)).set 3 (.bool p.hi.b)).set 4 (.slice p.hi.A p.hi.n p.hi.c)).set 5 (.int .i64 (Sp.add (Sp.pt (a i)) (Sp.pt (b i).abs) bits).hi.x)), ((((((Ox_244.out.st (cs := #[.bool false, .slice none 0 0, .int .i64 0, .bool false, .slice none 0 0, .int .i64 0]) Bs_243.out (by omega) 0 (by intro _ hh; cases hh) (.bool p.lo.b)).st (cs := #[.bool p.lo.b, .slice none 0 0, .int .i64 0, .bool false, .slice none 0 0, .int .i64 0]) (Bs_243.out.set 0 (.bool p.lo.b)) (by omega) 1 (by intro _ hh; cases hh) (.slice p.lo.A p.lo.n p.lo.c)).st (cs := #[.bool p.lo.b, .slice p.lo.A p.lo.n p.lo.c, .int .i64 0, .bool false, .slice none 0 0, .int .i64 0]) ((Bs_243.out.set 0 (.bool p.lo.b)).set 1 (.slice p.lo.A p.lo.n p.lo.c)) (by omega) 2 (by intro _ hh; cases hh) (.int .i64 (Sp.add (Sp.pt (a i)) (Sp.pt (b i).abs) bits).lo.x)).st (cs := #[.bool p.lo.b, .slice p.lo.A p.lo.n p.lo.c, .int .i64 (Sp.add (Sp.pt (a i)) (Sp.pt (b i).abs) bits).lo.x, .bool false, .slice none 0 0, .int .i64 0]) (((Bs_243.out.set 0 (.bool p.lo.b)).set 1 (.slice p.lo.A p.lo.n p.lo.c)).set 2 (.int .i64 (Sp.add (Sp.pt (a i)) (Sp.pt (b i).abs) bits).lo.x)) (by omega) 3 (by intro _ hh; cases hh) (.bool p.hi.b)).st (cs := #[.bool p.lo.b, .slice p.lo.A p.lo.n p.lo.c, .int .i64 (Sp.add (Sp.pt (a i)) (Sp.pt (b i).abs) bits).lo.x, .bool p.hi.b, .slice none 0 0, .int .i64 0]) ((((Bs_243.out.set 0 (.bool p.lo.b)).set 1 (.slice p.lo.A p.lo.n p.lo.c)).set 2 (.int .i64 (Sp.add (Sp.pt (a i)) (Sp.pt (b i).abs) bits).lo.x)).set 3 (.bool p.hi.b)) (by omega) 4 (by intro _ hh; cases hh) (.slice p.hi.A p.hi.n p.hi.c)).st (cs := #[.bool p.lo.b, .slice p.lo.A p.lo.n p.lo.c, .int .i64 (Sp.add (Sp.pt (a i)) (Sp.pt (b i).abs) bits).lo.x, .bool p.hi.b, .slice p.hi.A p.hi.n p.hi.c, .int .i64 0]) (((((Bs_243.out.set 0 (.bool p.lo.b)).set 1 (.slice p.lo.A p.lo.n p.lo.c)).set 2 (.int .i64 (Sp.add (Sp.pt (a i)) (Sp.pt (b i).abs) bits).lo.x)).set 3 (.bool p.hi.b)).set 4 (.slice p.hi.A p.hi.n p.hi.c)) (by omega) 5 (by intro _ hh; cases hh) (.int .i64 (Sp.add (Sp.pt (a i)) (Sp.pt (b i).abs) bits).hi.x)), (below_st (below_st (below_st (below_st (below_st (below_st HB_245.out 0 (by omega) (.bool p.lo.b)) 1 (by omega) (.slice p.lo.A p.lo.n p.lo.c)) 2 (by omega) (.int .i64 (Sp.add (Sp.pt (a i)) (Sp.pt (b i).abs) bits).lo.x)) 3 (by omega) (.bool p.hi.b)) 4 (by omega) (.slice p.hi.A p.hi.n p.hi.c)) 5 (by omega) (.int .i64 (Sp.add (Sp.pt (a i)) (Sp.pt (b i).abs) bits).hi.x)), (SP_251.out.dk (((((((Dk.refl _).set (cs := #[.bool false, .slice none 0 0, .int .i64 0, .bool false, .slice none 0 0, .int .i64 0]) Bs_243.out 0 (by intro _ hh; cases hh) (.bool p.lo.b)).set (cs := #[.bool p.lo.b, .slice none 0 0, .int .i64 0, .bool false, .slice none 0 0, .int .i64 0]) (Bs_243.out.set 0 (.bool p.lo.b)) 1 (by intro _ hh; cases hh) (.slice p.lo.A p.lo.n p.lo.c)).set (cs := #[.bool p.lo.b, .slice p.lo.A p.lo.n p.lo.c, .int .i64 0, .bool false, .slice none 0 0, .int .i64 0]) ((Bs_243.out.set 0 (.bool p.lo.b)).set 1 (.slice p.lo.A p.lo.n p.lo.c)) 2 (by intro _ hh; cases hh) (.int .i64 (Sp.add (Sp.pt (a i)) (Sp.pt (b i).abs) bits).lo.x)).set (cs := #[.bool p.lo.b, .slice p.lo.A p.lo.n p.lo.c, .int .i64 (Sp.add (Sp.pt (a i)) (Sp.pt (b i).abs) bits).lo.x, .bool false, .slice none 0 0, .int .i64 0]) (((Bs_243.out.set 0 (.bool p.lo.b)).set 1 (.slice p.lo.A p.lo.n p.lo.c)).set 2 (.int .i64 (Sp.add (Sp.pt (a i)) (Sp.pt (b i).abs) bits).lo.x)) 3 (by intro _ hh; cases hh) (.bool p.hi.b)).set (cs := #[.bool p.lo.b, .slice p.lo.A p.lo.n p.lo.c, .int .i64 (Sp.add (Sp.pt (a i)) (Sp.pt (b i).abs) bits).lo.x, .bool p.hi.b, .slice none 0 0, .int .i64 0]) ((((Bs_243.out.set 0 (.bool p.lo.b)).set 1 (.slice p.lo.A p.lo.n p.lo.c)).set 2 (.int .i64 (Sp.add (Sp.pt (a i)) (Sp.pt (b i).abs) bits).lo.x)).set 3 (.bool p.hi.b)) 4 (by intro _ hh; cases hh) (.slice p.hi.A p.hi.n p.hi.c)).set (cs := #[.bool p.lo.b, .slice p.lo.A p.lo.n p.lo.c, .int .i64 (Sp.add (Sp.pt (a i)) (Sp.pt (b i).abs) bits).lo.x, .bool p.hi.b, .slice p.hi.A p.hi.n p.hi.c, .int .i64 0]) (((((Bs_243.out.set 0 (.bool p.lo.b)).set 1 (.slice p.lo.A p.lo.n p.lo.c)).set 2 (.int .i64 (Sp.add (Sp.pt (a i)) (Sp.pt (b i).abs) bits).lo.x)).set 3 (.bool p.hi.b)).set 4 (.slice p.hi.A p.hi.n p.hi.c)) 5 (by intro _ hh; cases hh) (.int .i64 (Sp.add (Sp.pt (a i)) (Sp.pt (b i).abs) bits).hi.x)))⟩) | (have y0 := Bs_256.out.lt; have y1 := Ox_257.out.lt; have y2 := HB_258.out.size; exact ⟨w_119.heap.size, p, rfl, rfl, (by omega), ((((((Bs_256.out.set 0 (.bool p.lo.b)).set 1 (.slice p.lo.A p.lo.n p.lo.c)).set 2 (.int .i64 (Sp.add (Sp.pt (a i)) (Sp.pt (b i).abs) bits).lo.x)).set 3 (.bool p.hi.b)).set 4 (.slice p.hi.A p.hi.n p.hi.c)).set 5 (.int .i64 (Sp.add (Sp.pt (a i)) (Sp.pt (b i).abs) bits).hi.x)), ((((((Ox_257.out.st (cs := #[.bool false, .slice none 0 0, .int .i64 0, .bool false, .slice none 0 0, .int .i64 0]) Bs_256.out (by omega) 0 (by intro _ hh; cases hh) (.bool p.lo.b)).st (cs := #[.bool p.lo.b, .slice none 0 0, .int .i64 0, .bool false, .slice none 0 0, .int .i64 0]) (Bs_256.out.set 0 (.bool p.lo.b)) (by omega) 1 (by intro _ hh; cases hh) (.slice p.lo.A p.lo.n p.lo.c)).st (cs := #[.bool p.lo.b, .slice p.lo.A p.lo.n p.lo.c, .int .i64 0, .bool false, .slice none 0 0, .int .i64 0]) ((Bs_256.out.set 0 (.bool p.lo.b)).set 1 (.slice p.lo.A p.lo.n p.lo.c)) (by omega) 2 (by intro _ hh; cases hh) (.int .i64 (Sp.add (Sp.pt (a i)) (Sp.pt (b i).abs) bits).lo.x)).st (cs := #[.bool p.lo.b, .slice p.lo.A p.lo.n p.lo.c, .int .i64 (Sp.add (Sp.pt (a i)) (Sp.pt (b i).abs) bits).lo.x, .bool false, .slice none 0 0, .int .i64 0]) (((Bs_256.out.set 0 (.bool p.lo.b)).set 1 (.slice p.lo.A p.lo.n p.lo.c)).set 2 (.int .i64 (Sp.add (Sp.pt (a i)) (Sp.pt (b i).abs) bits).lo.x)) (by omega) 3 (by intro _ hh; cases hh) (.bool p.hi.b)).st (cs := #[.bool p.lo.b, .slice p.lo.A p.lo.n p.lo.c, .int .i64 (Sp.add (Sp.pt (a i)) (Sp.pt (b i).abs) bits).lo.x, .bool p.hi.b, .slice none 0 0, .int .i64 0]) ((((Bs_256.out.set 0 (.bool p.lo.b)).set 1 (.slice p.lo.A p.lo.n p.lo.c)).set 2 (.int .i64 (Sp.add (Sp.pt (a i)) (Sp.pt (b i).abs) bits).lo.x)).set 3 (.bool p.hi.b)) (by omega) 4 (by intro _ hh; cases hh) (.slice p.hi.A p.hi.n p.hi.c)).st (cs := #[.bool p.lo.b, .slice p.lo.A p.lo.n p.lo.c, .int .i64 (Sp.add (Sp.pt (a i)) (Sp.pt (b i).abs) bits).lo.x, .bool p.hi.b, .slice p.hi.A p.hi.n p.hi.c, .int .i64 0]) (((((Bs_256.out.set 0 (.bool p.lo.b)).set 1 (.slice p.lo.A p.lo.n p.lo.c)).set 2 (.int .i64 (Sp.add (Sp.pt (a i)) (Sp.pt (b i).abs) bits).lo.x)).set 3 (.bool p.hi.b)).set 4 (.slice p.hi.A p.hi.n p.hi.c)) (by omega) 5 (by intro _ hh; cases hh) (.int .i64 (Sp.add (Sp.pt (a i)) (Sp.pt (b i).abs) bits).hi.x)), (below_st (below_st (below_st (below_st (below_st (below_st HB_258.out 0 (by omega) (.bool p.lo.b)) 1 (by omega) (.slice p.lo.A p.lo.n p.lo.c)) 2 (by omega) (.int .i64 (Sp.add (Sp.pt (a i)) (Sp.pt (b i).abs) bits).lo.x)) 3 (by omega) (.bool p.hi.b)) 4 (by omega) (.slice p.hi.A p.hi.n p.hi.c)) 5 (by omega) (.int .i64 (Sp.add (Sp.pt (a i)) (Sp.pt (b i).abs) bits).hi.x)), (SP_264.out.dk (((((((Dk.refl _).set (cs := #[.bool false, .slice none 0 0, .int .i64 0, .bool false, .slice none 0 0, .int .i64 0]) Bs_256.out 0 (by intro _ hh; cases hh) (.bool p.lo.b)).set (cs := #[.bool p.lo.b, .slice none 0 0, .int .i64 0, .bool false, .slice none 0 0, .int .i64 0]) (Bs_256.out.set 0 (.bool p.lo.b)) 1 (by intro _ hh; cases hh) (.slice p.lo.A p.lo.n p.lo.c)).set (cs := #[.bool p.lo.b, .slice p.lo.A p.lo.n p.lo.c, .int .i64 0, .bool false, .slice none 0 0, .int .i64 0]) ((Bs_256.out.set 0 (.bool p.lo.b)).set 1 (.slice p.lo.A p.lo.n p.lo.c)) 2 (by intro _ hh; cases hh) (.int .i64 (Sp.add (Sp.pt (a i)) (Sp.pt (b i).abs) bits).lo.x)).set (cs := #[.bool p.lo.b, .slice p.lo.A p.lo.n p.lo.c, .int .i64 (Sp.add (Sp.pt (a i)) (Sp.pt (b i).abs) bits).lo.x, .bool false, .slice none 0 0, .int .i64 0]) (((Bs_256.out.set 0 (.bool p.lo.b)).set 1 (.slice p.lo.A p.lo.n p.lo.c)).set 2 (.int .i64 (Sp.add (Sp.pt (a i)) (Sp.pt (b i).abs) bits).lo.x)) 3 (by intro _ hh; cases hh) (.bool p.hi.b)).set (cs := #[.bool p.lo.b, .slice p.lo.A p.lo.n p.lo.c, .int .i64 (Sp.add (Sp.pt (a i)) (Sp.pt (b i).abs) bits).lo.x, .bool p.hi.b, .slice none 0 0, .int .i64 0]) ((((Bs_256.out.set 0 (.bool p.lo.b)).set 1 (.slice p.lo.A p.lo.n p.lo.c)).set 2 (.int .i64 (Sp.add (Sp.pt (a i)) (Sp.pt (b i).abs) bits).lo.x)).set 3 (.bool p.hi.b)) 4 (by intro _ hh; cases hh) (.slice p.hi.A p.hi.n p.hi.c)).set (cs := #[.bool p.lo.b, .slice p.lo.A p.lo.n p.lo.c, .int .i64 (Sp.add (Sp.pt (a i)) (Sp.pt (b i).abs) bits).lo.x, .bool p.hi.b, .slice p.hi.A p.hi.n p.hi.c, .int .i64 0]) (((((Bs_256.out.set 0 (.bool p.lo.b)).set 1 (.slice p.lo.A p.lo.n p.lo.c)).set 2 (.int .i64 (Sp.add (Sp.pt (a i)) (Sp.pt (b i).abs) bits).lo.x)).set 3 (.bool p.hi.b)).set 4 (.slice p.hi.A p.hi.n p.hi.c)) 5 (by intro _ hh; cases hh) (.int .i64 (Sp.add (Sp.pt (a i)) (Sp.pt (b i).abs) bits).hi.x)))⟩) | (have y0 := Bs_269.out.lt; have y1 := Ox_270.out.lt; have y2 := HB_271.out.size; exact ⟨w_138.heap.size, p, rfl, rfl, (by omega), ((((((Bs_269.out.set 0 (.bool p.lo.b)).set 1 (.slice p.lo.A p.lo.n p.lo.c)).set 2 (.int .i64 (Sp.add (Sp.pt (a i)) (Sp.pt (b i).abs) bits).lo.x)).set 3 (.bool p.hi.b)).set 4 (.slice p.hi.A p.hi.n p.hi.c)).set 5 (.int .i64 (Sp.add (Sp.pt (a i)) (Sp.pt (b i).abs) bits).hi.x)), ((((((Ox_270.out.st (cs := #[.bool false, .slice none 0 0, .int .i64 0, .bool false, .slice none 0 0, .int .i64 0]) Bs_269.out (by omega) 0 (by intro _ hh; cases hh) (.bool p.lo.b)).st (cs := #[.bool p.lo.b, .slice none 0 0, .int .i64 0, .bool false, .slice none 0 0, .int .i64 0]) (Bs_269.out.set 0 (.bool p.lo.b)) (by omega) 1 (by intro _ hh; cases hh) (.slice p.lo.A p.lo.n p.lo.c)).st (cs := #[.bool p.lo.b, .slice p.lo.A p.lo.n p.lo.c, .int .i64 0, .bool false, .slice none 0 0, .int .i64 0]) ((Bs_269.out.set 0 (.bool p.lo.b)).set 1 (.slice p.lo.A p.lo.n p.lo.c)) (by omega) 2 (by intro _ hh; cases hh) (.int .i64 (Sp.add (Sp.pt (a i)) (Sp.pt (b i).abs) bits).lo.x)).st (cs := #[.bool p.lo.b, .slice p.lo.A p.lo.n p.lo.c, .int .i64 (Sp.add (Sp.pt (a i)) (Sp.pt (b i).abs) bits).lo.x, .bool false, .slice none 0 0, .int .i64 0]) (((Bs_269.out.set 0 (.bool p.lo.b)).set 1 (.slice p.lo.A p.lo.n p.lo.c)).set 2 (.int .i64 (Sp.add (Sp.pt (a i)) (Sp.pt (b i).abs) bits).lo.x)) (by omega) 3 (by intro _ hh; cases hh) (.bool p.hi.b)).st (cs := #[.bool p.lo.b, .slice p.lo.A p.lo.n p.lo.c, .int .i64 (Sp.add (Sp.pt (a i)) (Sp.pt (b i).abs) bits).lo.x, .bool p.hi.b, .slice none 0 0, .int .i64 0]) ((((Bs_269.out.set 0 (.bool p.lo.b)).set 1 (.slice p.lo.A p.lo.n p.lo.c)).set 2 (.int .i64 (Sp.add (Sp.pt (a i)) (Sp.pt (b i).abs) bits).lo.x)).set 3 (.bool p.hi.b)) (by omega) 4 (by intro _ hh; cases hh) (.slice p.hi.A p.hi.n p.hi.c)).st (cs := #[.bool p.lo.b, .slice p.lo.A p.lo.n p.lo.c, .int .i64 (Sp.add (Sp.pt (a i)) (Sp.pt (b i).abs) bits).lo.x, .bool p.hi.b, .slice p.hi.A p.hi.n p.hi.c, .int .i64 0]) (((((Bs_269.out.set 0 (.bool p.lo.b)).set 1 (.slice p.lo.A p.lo.n p.lo.c)).set 2 (.int .i64 (Sp.add (Sp.pt (a i)) (Sp.pt (b i).abs) bits).lo.x)).set 3 (.bool p.hi.b)).set 4 (.slice p.hi.A p.hi.n p.hi.c)) (by omega) 5 (by intro _ hh; cases hh) (.int .i64 (Sp.add (Sp.pt (a i)) (Sp.pt (b i).abs) bits).hi.x)), (below_st (below_st (below_st (below_st (below_st (below_st HB_271.out 0 (by omega) (.bool p.lo.b)) 1 (by omega) (.slice p.lo.A p.lo.n p.lo.c)) 2 (by omega) (.int .i64 (Sp.add (Sp.pt (a i)) (Sp.pt (b i).abs) bits).lo.x)) 3 (by omega) (.bool p.hi.b)) 4 (by omega) (.slice p.hi.A p.hi.n p.hi.c)) 5 (by omega) (.int .i64 (Sp.add (Sp.pt (a i)) (Sp.pt (b i).abs) bits).hi.x)), (SP_277.out.dk (((((((Dk.refl _).set (cs := #[.bool false, .slice none 0 0, .int .i64 0, .bool false, .slice none 0 0, .int .i64 0]) Bs_269.out 0 (by intro _ hh; cases hh) (.bool p.lo.b)).set (cs := #[.bool p.lo.b, .slice none 0 0, .int .i64 0, .bool false, .slice none 0 0, .int .i64 0]) (Bs_269.out.set 0 (.bool p.lo.b)) 1 (by intro _ hh; cases hh) (.slice p.lo.A p.lo.n p.lo.c)).set (cs := #[.bool p.lo.b, .slice p.lo.A p.lo.n p.lo.c, .int .i64 0, .bool false, .slice none 0 0, .int .i64 0]) ((Bs_269.out.set 0 (.bool p.lo.b)).set 1 (.slice p.lo.A p.lo.n p.lo.c)) 2 (by intro _ hh; cases hh) (.int .i64 (Sp.add (Sp.pt (a i)) (Sp.pt (b i).abs) bits).lo.x)).set (cs := #[.bool p.lo.b, .slice p.lo.A p.lo.n p.lo.c, .int .i64 (Sp.add (Sp.pt (a i)) (Sp.pt (b i).abs) bits).lo.x, .bool false, .slice none 0 0, .int .i64 0]) (((Bs_269.out.set 0 (.bool p.lo.b)).set 1 (.slice p.lo.A p.lo.n p.lo.c)).set 2 (.int .i64 (Sp.add (Sp.pt (a i)) (Sp.pt (b i).abs) bits).lo.x)) 3 (by intro _ hh; cases hh) (.bool p.hi.b)).set (cs := #[.bool p.lo.b, .slice p.lo.A p.lo.n p.lo.c, .int .i64 (Sp.add (Sp.pt (a i)) (Sp.pt (b i).abs) bits).lo.x, .bool p.hi.b, .slice none 0 0, .int .i64 0]) ((((Bs_269.out.set 0 (.bool p.lo.b)).set 1 (.slice p.lo.A p.lo.n p.lo.c)).set 2 (.int .i64 (Sp.add (Sp.pt (a i)) (Sp.pt (b i).abs) bits).lo.x)).set 3 (.bool p.hi.b)) 4 (by intro _ hh; cases hh) (.slice p.hi.A p.hi.n p.hi.c)).set (cs := #[.bool p.lo.b, .slice p.lo.A p.lo.n p.lo.c, .int .i64 (Sp.add (Sp.pt (a i)) (Sp.pt (b i).abs) bits).lo.x, .bool p.hi.b, .slice p.hi.A p.hi.n p.hi.c, .int .i64 0]) (((((Bs_269.out.set 0 (.bool p.lo.b)).set 1 (.slice p.lo.A p.lo.n p.lo.c)).set 2 (.int .i64 (Sp.add (Sp.pt (a i)) (Sp.pt (b i).abs) bits).lo.x)).set 3 (.bool p.hi.b)).set 4 (.slice p.hi.A p.hi.n p.hi.c)) 5 (by intro _ hh; cases hh) (.int .i64 (Sp.add (Sp.pt (a i)) (Sp.pt (b i).abs) bits).hi.x)))⟩) | (have y0 := Bs_230.out.lt; have y1 := Ox_231.out.lt; have y2 := HB_232.out.size; exact ⟨w_169.heap.size, p, rfl, rfl, (by omega), ((((((Bs_230.out.set 0 (.bool p.lo.b)).set 1 (.slice p.lo.A p.lo.n p.lo.c)).set 2 (.int .i64 (Sp.add (Sp.pt (a i)) (Sp.pt (b i).abs) bits).lo.x)).set 3 (.bool p.hi.b)).set 4 (.slice p.hi.A p.hi.n p.hi.c)).set 5 (.int .i64 (Sp.add (Sp.pt (a i)) (Sp.pt (b i).abs) bits).hi.x)), ((((((Ox_231.out.st (cs := #[.bool false, .slice none 0 0, .int .i64 0, .bool false, .slice none 0 0, .int .i64 0]) Bs_230.out (by omega) 0 (by intro _ hh; cases hh) (.bool p.lo.b)).st (cs := #[.bool p.lo.b, .slice none 0 0, .int .i64 0, .bool false, .slice none 0 0, .int .i64 0]) (Bs_230.out.set 0 (.bool p.lo.b)) (by omega) 1 (by intro _ hh; cases hh) (.slice p.lo.A p.lo.n p.lo.c)).st (cs := #[.bool p.lo.b, .slice p.lo.A p.lo.n p.lo.c, .int .i64 0, .bool false, .slice none 0 0, .int .i64 0]) ((Bs_230.out.set 0 (.bool p.lo.b)).set 1 (.slice p.lo.A p.lo.n p.lo.c)) (by omega) 2 (by intro _ hh; cases hh) (.int .i64 (Sp.add (Sp.pt (a i)) (Sp.pt (b i).abs) bits).lo.x)).st (cs := #[.bool p.lo.b, .slice p.lo.A p.lo.n p.lo.c, .int .i64 (Sp.add (Sp.pt (a i)) (Sp.pt (b i).abs) bits).lo.x, .bool false, .slice none 0 0, .int .i64 0]) (((Bs_230.out.set 0 (.bool p.lo.b)).set 1 (.slice p.lo.A p.lo.n p.lo.c)).set 2 (.int .i64 (Sp.add (Sp.pt (a i)) (Sp.pt (b i).abs) bits).lo.x)) (by omega) 3 (by intro _ hh; cases hh) (.bool p.hi.b)).st (cs := #[.bool p.lo.b, .slice p.lo.A p.lo.n p.lo.c, .int .i64 (Sp.add (Sp.pt (a i)) (Sp.pt (b i).abs) bits).lo.x, .bool p.hi.b, .slice none 0 0, .int .i64 0]) ((((Bs_230.out.set 0 (.bool p.lo.b)).set 1 (.slice p.lo.A p.lo.n p.lo.c)).set 2 (.int .i64 (Sp.add (Sp.pt (a i)) (Sp.pt (b i).abs) bits).lo.x)).set 3 (.bool p.hi.b)) (by omega) 4 (by intro _ hh; cases hh) (.slice p.hi.A p.hi.n p.hi.c)).st (cs := #[.bool p.lo.b, .slice p.lo.A p.lo.n p.lo.c, .int .i64 (Sp.add (Sp.pt (a i)) (Sp.pt (b i).abs) bits).lo.x, .bool p.hi.b, .slice p.hi.A p.hi.n p.hi.c, .int .i64 0]) (((((Bs_230.out.set 0 (.bool p.lo.b)).set 1 (.slice p.lo.A p.lo.n p.lo.c)).set 2 (.int .i64 (Sp.add (Sp.pt (a i)) (Sp.pt (b i).abs) bits).lo.x)).set 3 (.bool p.hi.b)).set 4 (.slice p.hi.A p.hi.n p.hi.c)) (by omega) 5 (by intro _ hh; cases hh) (.int .i64 (Sp.add (Sp.pt (a i)) (Sp.pt (b i).abs) bits).hi.x)), (below_st (below_st (below_st (below_st (below_st (below_st HB_232.out 0 (by omega) (.bool p.lo.b)) 1 (by omega) (.slice p.lo.A p.lo.n p.lo.c)) 2 (by omega) (.int .i64 (Sp.add (Sp.pt (a i)) (Sp.pt (b i).abs) bits).lo.x)) 3 (by omega) (.bool p.hi.b)) 4 (by omega) (.slice p.hi.A p.hi.n p.hi.c)) 5 (by omega) (.int .i64 (Sp.add (Sp.pt (a i)) (Sp.pt (b i).abs) bits).hi.x)), (SP_238.out.dk (((((((Dk.refl _).set (cs := #[.bool false, .slice none 0 0, .int .i64 0, .bool false, .slice none 0 0, .int .i64 0]) Bs_230.out 0 (by intro _ hh; cases hh) (.bool p.lo.b)).set (cs := #[.bool p.lo.b, .slice none 0 0, .int .i64 0, .bool false, .slice none 0 0, .int .i64 0]) (Bs_230.out.set 0 (.bool p.lo.b)) 1 (by intro _ hh; cases hh) (.slice p.lo.A p.lo.n p.lo.c)).set (cs := #[.bool p.lo.b, .slice p.lo.A p.lo.n p.lo.c, .int .i64 0, .bool false, .slice none 0 0, .int .i64 0]) ((Bs_230.out.set 0 (.bool p.lo.b)).set 1 (.slice p.lo.A p.lo.n p.lo.c)) 2 (by intro _ hh; cases hh) (.int .i64 (Sp.add (Sp.pt (a i)) (Sp.pt (b i).abs) bits).lo.x)).set (cs := #[.bool p.lo.b, .slice p.lo.A p.lo.n p.lo.c, .int .i64 (Sp.add (Sp.pt (a i)) (Sp.pt (b i).abs) bits).lo.x, .bool false, .slice none 0 0, .int .i64 0]) (((Bs_230.out.set 0 (.bool p.lo.b)).set 1 (.slice p.lo.A p.lo.n p.lo.c)).set 2 (.int .i64 (Sp.add (Sp.pt (a i)) (Sp.pt (b i).abs) bits).lo.x)) 3 (by intro _ hh; cases hh) (.bool p.hi.b)).set (cs := #[.bool p.lo.b, .slice p.lo.A p.lo.n p.lo.c, .int .i64 (Sp.add (Sp.pt (a i)) (Sp.pt (b i).abs) bits).lo.x, .bool p.hi.b, .slice none 0 0, .int .i64 0]) ((((Bs_230.out.set 0 (.bool p.lo.b)).set 1 (.slice p.lo.A p.lo.n p.lo.c)).set 2 (.int .i64 (Sp.add (Sp.pt (a i)) (Sp.pt (b i).abs) bits).lo.x)).set 3 (.bool p.hi.b)) 4 (by intro _ hh; cases hh) (.slice p.hi.A p.hi.n p.hi.c)).set (cs := #[.bool p.lo.b, .slice p.lo.A p.lo.n p.lo.c, .int .i64 (Sp.add (Sp.pt (a i)) (Sp.pt (b i).abs) bits).lo.x, .bool p.hi.b, .slice p.hi.A p.hi.n p.hi.c, .int .i64 0]) (((((Bs_230.out.set 0 (.bool p.lo.b)).set 1 (.slice p.lo.A p.lo.n p.lo.c)).set 2 (.int .i64 (Sp.add (Sp.pt (a i)) (Sp.pt (b i).abs) bits).lo.x)).set 3 (.bool p.hi.b)).set 4 (.slice p.hi.A p.hi.n p.hi.c)) 5 (by intro _ hh; cases hh) (.int .i64 (Sp.add (Sp.pt (a i)) (Sp.pt (b i).abs) bits).hi.x)))⟩))
      case rest =>
        clear cr10 cr11 cr12 cr20 cr21 cr22 px0 px1 px2 rx0 rx1 rx2 lx
        clear OX RQ RT HB_0
        obtain ⟨w_282, rfl⟩ : ∃ x, x = wc := ⟨_, rfl⟩
        obtain ⟨g_101, p, rfl, rfl, nn0, bz, br0, hbel, hf0⟩ := hcut
        have Ox_283 := Lib.hid br0
        have n_284 := nn0
        have Bs_285 := Lib.hid bz
        have HB_285 := Lib.hid hbel
        have SP_287 := Lib.hid hf0
        clear nn0 bz br0 hbel hf0
        have ls := Bs_285.out.lt
        obtain ⟨cs0, cs1, cs2, cs3, cs4, cs5⟩ := Bs_285.out.cells6
        have cr10 : w_282.cell? ⟨A1, o1 + i * 3, none⟩ = some (.bool q.b) := (HB_285.out.cell (p := ⟨A1, o1 + i * 3, none⟩) hl1).trans X0.out
        have cr11 : w_282.cell? ⟨A1, o1 + i * 3 + 1, none⟩ = some (.slice q.A q.n q.c) := (HB_285.out.cell (p := ⟨A1, o1 + i * 3 + 1, none⟩) hl1).trans X1.out
        have cr12 : w_282.cell? ⟨A1, o1 + i * 3 + 2, none⟩ = some (.int .i64 (a i).x) := (HB_285.out.cell (p := ⟨A1, o1 + i * 3 + 2, none⟩) hl1).trans X2.out
        have cr20 : w_282.cell? ⟨A2, o2 + i * 3, none⟩ = some (.bool t.b) := (HB_285.out.cell (p := ⟨A2, o2 + i * 3, none⟩) hl2).trans Y0.out
        have cr21 : w_282.cell? ⟨A2, o2 + i * 3 + 1, none⟩ = some (.slice t.A t.n t.c) := (HB_285.out.cell (p := ⟨A2, o2 + i * 3 + 1, none⟩) hl2).trans Y1.out
        have cr22 : w_282.cell? ⟨A2, o2 + i * 3 + 2, none⟩ = some (.int .i64 (b i).x) := (HB_285.out.cell (p := ⟨A2, o2 + i * 3 + 2, none⟩) hl2).trans Y2.out
        obtain ⟨⟨_, px0⟩, ⟨_, px1⟩, ⟨_, px2⟩, rx0, rx1, rx2⟩ := Ox_283.out.there hi2
        have lx := Ox_283.out.lt
        go_wp2_with fail
        have RH := Lib.hid (show RD _ p.hi (mor (a i) (b i) bits) from SP_287.out.2)
        go_wp2
        go_roundw
        case rel => exact ⟨i + 1, by go_num, hi2, Lib.hid ⟨OD.next (F := (fun j => mor (a j) (b j) bits)) (Ox_283.out.put hi2 p.hi (mor (a i) (b i) bits) RH.out).1, (below_put3 HB_285.out (by have := HB_285.out.size; omega) i (.bool p.hi.b) (.slice p.hi.A p.hi.n p.hi.c) (.int .i64 (mor (a i) (b i) bits).x))⟩⟩
        case measure => simp only [intOf]; omega
    · obtain rfl : i = n := by omega
      obtain ⟨hx, hbel⟩ := Hr.out
      have OX := Lib.hid hx
      have HB_0 := Lib.hid hbel
      clear hx hbel Hr
      clear hi2
      go_wp2
      go_ret2
      exact ⟨⟨w.heap.size, rfl, Nat.le_refl _, OX.out.done (F := (fun j => mor (a j) (b j) bits))⟩, HB_0.out⟩

end Go.Proofs.YtgioppkggpfnoaaDoor.Nu
end

section
/- The walk of reduce.Order. -/
set_option linter.unusedVariables false
namespace Go.Proofs.YtgioppkggpfnoaaDoor.Nu
open Go.RowKit Go.Proofs

theorem infoG : (Tryd.prog.info? 176).map (fun i => (i.zero, i.size, i.bytes)) = some (some (.agg #[.slice none 0 0, .bool false, .slice none 0 0, .int .i64 0]), 4, 64) := by kernel_rfl
theorem one4 {A' : Option Addr} {n' c' : Nat} {b : Bool} {A : Option Addr} {n c : Nat} {x : Int} : ∀ u ∈ ([Value.slice A' n' c', .bool b, .slice A n c, .int .i64 x] : List Value), u.oneCell' = true := by
  intro u hu
  simp only [List.mem_cons, List.not_mem_nil, or_false] at hu
  rcases hu with rfl | rfl | rfl | rfl <;> rfl
theorem no4 {A' : Option Addr} {n' c' : Nat} {b : Bool} {A : Option Addr} {n c : Nat} {x : Int} : ∀ u ∈ ([Value.slice A' n' c', .bool b, .slice A n c, .int .i64 x] : List Value), ∀ y : Int, u ≠ .int .u32 y := by
  intro u hu y
  simp only [List.mem_cons, List.not_mem_nil, or_false] at hu
  rcases hu with rfl | rfl | rfl | rfl <;> intro h <;> cases h
theorem no_gen : NoU (Value.agg #[.slice none 0 0, .bool false, .slice none 0 0, .int .i64 0]).cells := by
  intro u hu
  have hu' : u ∈ ([Value.slice none 0 0, .bool false, .slice none 0 0, .int .i64 0] : List Value) := by simpa [Value.cells] using hu
  exact no4 u hu'
theorem one1 {A : Option Addr} {n c : Nat} : ∀ u ∈ ([Value.slice A n c] : List Value), u.oneCell' = true := by
  intro u hu
  simp only [List.mem_cons, List.not_mem_nil, or_false] at hu
  subst hu; rfl
theorem no1 {A : Option Addr} {n c : Nat} : ∀ u ∈ ([Value.slice A n c] : List Value), ∀ y : Int, u ≠ .int .u32 y := by
  intro u hu y
  simp only [List.mem_cons, List.not_mem_nil, or_false] at hu
  subst hu; intro h; cases h
theorem no_sl : NoU (Value.slice none 0 0).cells := by
  intro u hu
  have hu' : u ∈ ([Value.slice none 0 0] : List Value) := by simpa [Value.cells] using hu
  exact no1 u hu'
/-- Element j of the list: a way, and its spread. -/
def inG (w wr : World) (n : Nat) (xs : List Value) (j : Nat) (d : D) (y : Nat → D) : Prop :=
  ∃ (A : Option Addr) (c : Nat) (q : Q), xs[j * 4]? = some (.slice A n c) ∧ xs[j * 4 + 1]? = some (.bool q.b) ∧ xs[j * 4 + 2]? = some (.slice q.A q.n q.c) ∧ xs[j * 4 + 3]? = some (.int .i64 d.x) ∧ RD wr q d ∧ RDs w A n c y
theorem inG.dk {w wr wr' : World} {n : Nat} {xs : List Value} {j : Nat} {d : D} {y : Nat → D} (h : inG w wr n xs j d y) (k : Dk wr wr') : inG w wr' n xs j d y := by
  obtain ⟨A, c, q, a0, a1, a2, a3, hr, hy⟩ := h
  exact ⟨A, c, q, a0, a1, a2, a3, hr.dk k, hy⟩
theorem inG.app {w wr : World} {n : Nat} {xs ys : List Value} {j i : Nat} {d : D} {y : Nat → D} (h : inG w wr n xs j d y) (hl : xs.length = i * 4) (hj : j < i) : inG w wr n (xs ++ ys) j d y := by
  have hlt : ∀ c, c < 4 → (xs ++ ys)[j * 4 + c]? = xs[j * 4 + c]? := fun c hc => List.getElem?_append_left (by omega)
  obtain ⟨A, c, q, a0, a1, a2, a3, hr, hy⟩ := h
  exact ⟨A, c, q, (hlt 0 (by omega)).trans a0, (hlt 1 (by omega)).trans a1, (hlt 2 (by omega)).trans a2, (hlt 3 (by omega)).trans a3, hr, hy⟩
theorem inG.last {w wr : World} {n : Nat} {xs : List Value} {i : Nat} {A : Option Addr} {c : Nat} {q : Q} {d : D} {y : Nat → D} (hl : xs.length = i * 4) (hr : RD wr q d) (hy : RDs w A n c y) : inG w wr n (xs ++ ([Value.slice A n c, .bool q.b, .slice q.A q.n q.c, .int .i64 d.x] : List Value)) i d y := by
  have hlt : ∀ c', (xs ++ ([Value.slice A n c, .bool q.b, .slice q.A q.n q.c, .int .i64 d.x] : List Value))[i * 4 + c']? = ([Value.slice A n c, .bool q.b, .slice q.A q.n q.c, .int .i64 d.x] : List Value)[c']? := fun c' => by
    rw [List.getElem?_append_right (by omega), show i * 4 + c' - xs.length = c' by omega]
  exact ⟨A, c, q, hlt 0, hlt 1, hlt 2, hlt 3, hr, hy⟩
/-- The state ahead of a way: so many are told. -/
def OrdRel (w : World) (z : Zo) (f : Nat → D) (w0 : World) (i : Nat) (v : Value) (wr : World) : Prop :=
  Below w0.heap.size w0 wr ∧ ∃ xs, OW wr 176 4 v i xs ∧ (∀ g, v.ownBlock = some g → w0.heap.size ≤ g) ∧ ∀ j, j < i → inG w wr z.n xs j (f j) (z.g j)
theorem ord_next {w w0 wr wb w6 : World} {z : Zo} {f : Nat → D} {i : Nat} {v v' : Value} {xs : List Value} {A : Option Addr} {c : Nat} {q : Q} (hb : Below w0.heap.size w0 wb) (ho : OW wb 176 4 v i xs) (hg0 : ∀ g, v.ownBlock = some g → w0.heap.size ≤ g)
    (hn : OW w6 176 4 v' (i + 1) (xs ++ [.slice A z.n c, .bool q.b, .slice q.A q.n q.c, .int .i64 (f i).x])) (hg : wb.grownBy w6 v.ownBlock) (hk : Dk wb w6) (hob : v'.ownBlock = v.ownBlock ∨ v'.ownBlock = some wb.heap.size) (hd : Dk wr wb)
    (he : ∀ j, j < i → inG w wr z.n xs j (f j) (z.g j)) (hq : RD wb q (f i)) (hy : RDs w A z.n c (z.g i)) : OrdRel w z f w0 (i + 1) v' w6 := by
  refine ⟨hb.grown hg hb.size hg0, _, hn, fun g h => ?_, fun j hj => ?_⟩
  · rcases hob with e | e
    · exact hg0 g (e ▸ h)
    · rw [h] at e
      injection e with e
      have := hb.size
      omega
  · by_cases e : j = i
    · subst e
      exact inG.last ho.1 (hq.dk hk) hy
    · exact (((he j (by omega)).dk hd).dk hk).app ho.1 (by omega)
theorem ord_rows {w w0 wr : World} {z : Zo} {F : Nat → D} {n : Nat} {v : Value} (h : OrdRel w z F w0 n v wr) (h0 : 0 < n) : ∃ (g cap : Nat) (A : Nat → Option Addr) (C : Nat → Nat) (q : Nat → Q), v = .slice (some ⟨g, 0, none⟩) n cap ∧ n ≤ cap ∧ w0.heap.size ≤ g ∧
    CR wr g 176 4 n (fun i c => [.slice (A i) z.n (C i), .bool (q i).b, .slice (q i).A (q i).n (q i).c, .int .i64 (F i).x].getD c undef) ∧ (∀ j, j < n → RD wr (q j) (F j)) ∧ ∀ j, j < n → RDs w (A j) z.n (C j) (z.g j) := by
  obtain ⟨_, xs, ho, hg, he⟩ := h
  have h2 : ∀ j, ∃ t : Option Addr × Nat × Q, j < n → xs[j * 4]? = some (.slice t.1 z.n t.2.1) ∧ xs[j * 4 + 1]? = some (.bool t.2.2.b) ∧ xs[j * 4 + 2]? = some (.slice t.2.2.A t.2.2.n t.2.2.c) ∧ xs[j * 4 + 3]? = some (.int .i64 (F j).x) ∧ RD wr t.2.2 (F j) ∧ RDs w t.1 z.n t.2.1 (z.g j) := fun j => by
    by_cases hj : j < n
    · obtain ⟨A, c, q, h⟩ := he j hj
      exact ⟨(A, c, q), fun _ => h⟩
    · exact ⟨(none, 0, Q.nil), fun e => absurd e hj⟩
  obtain ⟨t, ht⟩ : ∃ t : Nat → Option Addr × Nat × Q, ∀ j, j < n → xs[j * 4]? = some (.slice (t j).1 z.n (t j).2.1) ∧ xs[j * 4 + 1]? = some (.bool (t j).2.2.b) ∧ xs[j * 4 + 2]? = some (.slice (t j).2.2.A (t j).2.2.n (t j).2.2.c) ∧ xs[j * 4 + 3]? = some (.int .i64 (F j).x) ∧ RD wr (t j).2.2 (F j) ∧ RDs w (t j).1 z.n (t j).2.1 (z.g j) :=
    ⟨fun j => Classical.choose (h2 j), fun j => Classical.choose_spec (h2 j)⟩
  obtain ⟨g, cap, rfl, hc, hcr⟩ := ho.cr (e := fun i c => [.slice (t i).1 z.n (t i).2.1, .bool (t i).2.2.b, .slice (t i).2.2.A (t i).2.2.n (t i).2.2.c, .int .i64 (F i).x].getD c undef) h0 (fun j c hj hc => by
    obtain ⟨a0, a1, a2, a3, _⟩ := ht j hj
    match c, hc with
    | 0, _ => simpa using a0
    | 1, _ => simpa using a1
    | 2, _ => simpa using a2
    | 3, _ => simpa using a3)
  exact ⟨g, cap, fun j => (t j).1, fun j => (t j).2.1, fun j => (t j).2.2, rfl, hc, hg g rfl, hcr, fun j hj => (ht j hj).2.2.2.2.1, fun j hj => (ht j hj).2.2.2.2.2⟩
theorem RDs.keep {w w' : World} {A : Option Addr} {n c : Nat} {f : Nat → D} (h : RDs w A n c f) (hg : ∀ b off s, A = some ⟨b, off, s⟩ → 0 < n → w'.heap[b]? = w.heap[b]?) (k : Dk w w') : RDs w' A n c f := by
  obtain ⟨h1, h2, h3⟩ := h
  refine ⟨h1, h2, fun h0 => ?_⟩
  obtain ⟨b, off, hA, hlt, hc⟩ := h3 h0
  have e := hg b off none hA h0
  refine ⟨b, off, hA, Nat.lt_of_lt_of_le hlt k.1, fun j hj => ?_⟩
  obtain ⟨q, c0, c1, c2, hr⟩ := hc j hj
  exact ⟨q, (World.cell?_of_block (a := ⟨b, _, none⟩) e).trans c0, (World.cell?_of_block (a := ⟨b, _, none⟩) e).trans c1, (World.cell?_of_block (a := ⟨b, _, none⟩) e).trans c2, hr.dk k⟩
theorem RDs.lt {w : World} {b off : Nat} {s : Option Nat} {n c : Nat} {f : Nat → D} (h : RDs w (some ⟨b, off, s⟩) n c f) (h0 : 0 < n) : b < w.heap.size := by
  obtain ⟨b', off', e, hlt, _⟩ := h.2.2 h0
  injection e with e
  injection e with e
  omega
/-- The state ahead of a way of the list as it is told: what is reckoned together, and what stays a way. -/
def OrdRel2 (w w6 : World) (Ac : Option Addr) (cc : Nat) (z : Zo) (σ : Nat → Nat) (p bits : Nat) (i : Nat) (wr : World) : Prop :=
  Below w6.heap.size w6 wr ∧ ∃ (AR : Option Addr) (cR : Nat) (v : Value) (xs : List Value), Bk wr w6.heap.size 42 #[.slice Ac z.n cc, v, .slice AR z.n cR] ∧
    OW wr 39 1 v (i - p) xs ∧ (∀ g, v.ownBlock = some g → w6.heap.size < g) ∧ (i ≤ p → v = .slice none 0 0) ∧
    RDs wr AR z.n cR (rndR z.r (fun k => z.g (σ k)) bits (min i p)) ∧ (∀ b off s, AR = some ⟨b, off, s⟩ → 0 < z.n → b ≠ w6.heap.size ∧ b ≠ w.heap.size + 1 ∧ v.ownBlock ≠ some b) ∧
    ∀ k, k < i - p → ∃ A c, xs[k]? = some (.slice A z.n c) ∧ RDs w A z.n c (z.g (σ (p + k)))
theorem ord_start {w w6 : World} {Ac Ar : Option Addr} {cc cr : Nat} {z : Zo} {σ : Nat → Nat} {p bits : Nat} (h1 : w.heap.size + 1 < w6.heap.size) (hb : Below w.heap.size w w6) (hr : RDs w Ar z.n cr z.r) :
    OrdRel2 w w6 Ac cc z σ p bits 0 (w6.alloc (.cells #[.slice Ac z.n cc, .slice none 0 0, .slice Ar z.n cr] 42)) := by
  refine ⟨below_al (Below.refl _ _) _, Ar, cr, .slice none 0 0, [], Bk.new _ _ _, ?_, (fun g hg => by cases hg), (fun _ => rfl), ?_, (fun b off s e h0 => ?_), fun k hk => absurd hk (by omega)⟩
  · rw [Nat.zero_sub]; exact OW.nil _ _ _
  · rw [Nat.zero_min]; exact hr.below (below_al hb _)
  · subst e
    have := hr.lt h0
    exact ⟨by omega, by omega, fun h => by cases h⟩
theorem own_no {w : World} {E : TypeId} {k : Nat} {v : Value} {m : Nat} {xs : List Value} (h : OW w E k v m xs) (x : Int) : v ≠ .int .u32 x := by
  rcases h.2 with ⟨rfl, _⟩ | ⟨g, cap, cur, rfl, _⟩ <;> intro h <;> cases h
theorem ord_next_a {w w6 wr wb w2 : World} {Ac AR : Option Addr} {cc cR : Nat} {z : Zo} {σ : Nat → Nat} {p bits i : Nat} {v v' : Value} {xs : List Value} {As : Option Addr} {Cs : Nat} {o1 o2 : Obj} (hwb : wb = (wr.alloc o1).alloc o2) (hbel : Below w6.heap.size w6 wr) (hbo : Bk wr w6.heap.size 42 #[.slice Ac z.n cc, v, .slice AR z.n cR])
    (ho : OW wr 39 1 v (i - p) xs) (hgv : ∀ g, v.ownBlock = some g → w6.heap.size < g) (hrr : RDs wr AR z.n cR (rndR z.r (fun k => z.g (σ k)) bits (min i p))) (hbk : ∀ b off s, AR = some ⟨b, off, s⟩ → 0 < z.n → b ≠ w6.heap.size ∧ b ≠ w.heap.size + 1 ∧ v.ownBlock ≠ some b)
    (hxs : ∀ k, k < i - p → ∃ A c, xs[k]? = some (.slice A z.n c) ∧ RDs w A z.n c (z.g (σ (p + k)))) (hip : p ≤ i) (hn : OW w2 39 1 v' (i - p + 1) (xs ++ [.slice As z.n Cs])) (hg : wb.grownBy w2 v.ownBlock) (hk : Dk wb w2) (hob : v'.ownBlock = v.ownBlock ∨ v'.ownBlock = some wb.heap.size) (hrs : RDs w As z.n Cs (z.g (σ i))) :
    Bk w2 w6.heap.size 42 #[.slice Ac z.n cc, v, .slice AR z.n cR] ∧ OrdRel2 w w6 Ac cc z σ p bits (i + 1) (w2.setCell ⟨w6.heap.size, 1, none⟩ v') := by
  have hb1 : Below wr.heap.size wr wb := by subst hwb; exact below_al (below_al (Below.refl _ _) _) _
  have bk1 := hbo.below hb1
  have ne : v.ownBlock ≠ some w6.heap.size := fun e => Nat.lt_irrefl _ (hgv _ e)
  have bk2 : Bk w2 w6.heap.size 42 #[.slice Ac z.n cc, v, .slice AR z.n cR] := (hg.block w6.heap.size bk1.lt ne.symm).trans bk1
  have hwb1 : Below w6.heap.size w6 wb := hbel.trans (hb1.mono hbel.size)
  have hw2 : Below w6.heap.size w6 w2 := hwb1.grown hg hwb1.size (fun k hk => Nat.le_of_lt (hgv k hk))
  have hgv' : ∀ g, v'.ownBlock = some g → w6.heap.size < g := fun g e => by
    rcases hob with h | h
    · exact hgv g (h ▸ e)
    · rw [e] at h
      injection h with h
      have := bk1.lt
      omega
  have dk : Dk wr (w2.setCell ⟨w6.heap.size, 1, none⟩ v') := ((Dk.below hb1).trans hk).trans ((Dk.refl w2).set bk2 1 (fun x h => own_no ho x (Option.some.inj h)) v')
  have em : min (i + 1) p = min i p := by omega
  refine ⟨bk2, below_st hw2 1 (Nat.le_refl _) _, AR, cR, v', xs ++ [.slice As z.n Cs], bk2.set 1 v', ?_, hgv', fun h => absurd h (by omega), ?_, fun b off s e h0 => ⟨(hbk b off s e h0).1, (hbk b off s e h0).2.1, ?_⟩, fun k hk => ?_⟩
  · rw [show i + 1 - p = i - p + 1 by omega]
    exact hn.st (fun g e => by have := hgv' g e; omega) 1 v'
  · rw [em]
    refine hrr.keep (fun b off s e h0 => ?_) dk
    subst e
    have hlt := hrr.lt h0
    have h3 := hbk b off s rfl h0
    exact ((same1 w2 h3.1 1 v').trans (hg.block b (Nat.lt_of_lt_of_le hlt hb1.size) h3.2.2.symm)).trans (hb1.block b hlt)
  · rcases hob with h | h
    · rw [h]; exact (hbk b off s e h0).2.2
    · rw [h]
      intro h4
      injection h4 with h4
      subst e
      have hlt := hrr.lt h0
      have := hb1.size
      omega
  · by_cases h : k < i - p
    · obtain ⟨A, c, h1, h2⟩ := hxs k h
      exact ⟨A, c, by rw [List.getElem?_append_left (by rw [ho.1]; omega)]; exact h1, h2⟩
    · have e : k = i - p := by omega
      subst e
      refine ⟨As, Cs, ?_, ?_⟩
      · rw [List.getElem?_append_right (by rw [ho.1]; omega), ho.1, Nat.mul_one, Nat.sub_self]; rfl
      · rw [show p + (i - p) = i by omega]; exact hrs
theorem ord_next_b {w w6 wr w2 : World} {Ac AR : Option Addr} {cc cR : Nat} {z : Zo} {σ : Nat → Nat} {p bits i g1 : Nat} {v : Value} {o1 : Obj} (h1 : w.heap.size + 1 < w6.heap.size) (hbel : Below w6.heap.size w6 wr) (hbo : Bk wr w6.heap.size 42 #[.slice Ac z.n cc, v, .slice AR z.n cR])
    (hnil : i ≤ p → v = .slice none 0 0) (hip : i < p) (hg1 : (wr.alloc o1).heap.size ≤ g1) (hod : OD w2 g1 z.n (fun j => mor (rndR z.r (fun k => z.g (σ k)) bits i j) (z.g (σ i) j) bits)) (hb : Below (wr.alloc o1).heap.size (wr.alloc o1) w2) (n0 : z.n ≤ 1000000) :
    Bk w2 w6.heap.size 42 #[.slice Ac z.n cc, v, .slice AR z.n cR] ∧ OrdRel2 w w6 Ac cc z σ p bits (i + 1) (w2.setCell ⟨w6.heap.size, 2, none⟩ (.slice (some ⟨g1, 0, none⟩) z.n z.n)) := by
  have hb1 : Below wr.heap.size wr w2 := below_tr (below_al (Below.refl _ _) _) hb
  have bk2 := hbo.below hb1
  have hw2 : Below w6.heap.size w6 w2 := hbel.trans (hb1.mono hbel.size)
  obtain rfl := hnil (by omega)
  have hlt := hbo.lt
  rw [World.size_alloc] at hg1
  have em : min (i + 1) p = i + 1 := by omega
  refine ⟨bk2, below_st hw2 2 (Nat.le_refl _) _, some ⟨g1, 0, none⟩, z.n, .slice none 0 0, [], bk2.set 2 _, ?_, (fun g e => by cases e), (fun _ => rfl), ?_, (fun b off s e h0 => ?_), fun k hk => absurd hk (by omega)⟩
  · rw [show i + 1 - p = 0 by omega]; exact OW.nil _ _ _
  · rw [em]
    exact (hod.st bk2 (by omega) 2 (by intro x h; cases h) _).read n0
  · injection e with e
    injection e with e
    exact ⟨by omega, by omega, fun h => by cases h⟩
theorem ord_end {w w6 wr : World} {Ac Ag Ar AR : Option Addr} {cc cg cr cR : Nat} {z : Zo} {p bits : Nat} {v : Value} {xs : List Value} (h : RZo w ⟨Ac, cc, Ag, cg, Ar, cr⟩ z) (hb6 : Below w.heap.size w w6) (h1 : w.heap.size + 1 < w6.heap.size) (p0 : p ≤ z.m) (hbel : Below w6.heap.size w6 wr) (hm : z.m ≤ 12) (hbo : Bk wr (w.heap.size + 1) 42 #[.slice none 0 0, .slice none 0 0, .slice none 0 0])
    (ho : OW wr 39 1 v (z.m - p) xs) (hgv : ∀ g, v.ownBlock = some g → w6.heap.size < g) (hnil : z.m ≤ p → v = .slice none 0 0) (hrr : RDs wr AR z.n cR (rndR z.r (fun k => z.g (sigU z bits k)) bits (min z.m p))) (hbk : ∀ b off s, AR = some ⟨b, off, s⟩ → 0 < z.n → b ≠ w6.heap.size ∧ b ≠ w.heap.size + 1 ∧ v.ownBlock ≠ some b)
    (hxs : ∀ k, k < z.m - p → ∃ A c, xs[k]? = some (.slice A z.n c) ∧ RDs w A z.n c (z.g (sigU z bits (p + k)))) :
    ∃ Ag' cg', v = .slice Ag' (z.m - p) cg' ∧ ∀ a b c : Value, (∀ x, a ≠ .int .u32 x) → (∀ x, b ≠ .int .u32 x) → (∀ x, c ≠ .int .u32 x) → RZo (((wr.setCell ⟨w.heap.size + 1, 0, none⟩ a).setCell ⟨w.heap.size + 1, 1, none⟩ b).setCell ⟨w.heap.size + 1, 2, none⟩ c) ⟨Ac, cc, Ag', cg', AR, cR⟩ (redZ z p bits) ∧ (Ag' = none → cg' = 0) := by
  have hwr : Below w.heap.size w wr := below_tr hb6 hbel
  have key : ∀ a b c : Value, (∀ x, a ≠ .int .u32 x) → (∀ x, b ≠ .int .u32 x) → (∀ x, c ≠ .int .u32 x) → Below w.heap.size w (((wr.setCell ⟨w.heap.size + 1, 0, none⟩ a).setCell ⟨w.heap.size + 1, 1, none⟩ b).setCell ⟨w.heap.size + 1, 2, none⟩ c) ∧ Dk wr (((wr.setCell ⟨w.heap.size + 1, 0, none⟩ a).setCell ⟨w.heap.size + 1, 1, none⟩ b).setCell ⟨w.heap.size + 1, 2, none⟩ c) ∧ (∀ k, k ≠ w.heap.size + 1 → (((wr.setCell ⟨w.heap.size + 1, 0, none⟩ a).setCell ⟨w.heap.size + 1, 1, none⟩ b).setCell ⟨w.heap.size + 1, 2, none⟩ c).heap[k]? = wr.heap[k]?) := fun a b c ha hb hc => by
    have b1 := hbo.set 0 a
    have b2 := b1.set 1 b
    refine ⟨below_st (below_st (below_st hwr 0 (by omega) _) 1 (by omega) _) 2 (by omega) _, ((Dk.refl wr).set hbo 0 (by intro x h; cases h) a |>.set b1 1 (by intro x h; cases h) b).set b2 2 (by intro x h; cases h) c, fun k hk => ?_⟩
    exact ((same1 _ hk 2 c).trans (same1 _ hk 1 b)).trans (same1 _ hk 0 a)
  have hr' : ∀ a b c : Value, (∀ x, a ≠ .int .u32 x) → (∀ x, b ≠ .int .u32 x) → (∀ x, c ≠ .int .u32 x) → RDs (((wr.setCell ⟨w.heap.size + 1, 0, none⟩ a).setCell ⟨w.heap.size + 1, 1, none⟩ b).setCell ⟨w.heap.size + 1, 2, none⟩ c) AR z.n cR (redZ z p bits).r := fun a b c ha hb hc => by
    obtain ⟨_, k2, k3⟩ := key a b c ha hb hc
    rw [show min z.m p = p by omega] at hrr
    exact hrr.keep (fun b off s e h0 => k3 b (hbk b off s e h0).2.1) k2
  by_cases h0 : z.m - p = 0
  · obtain rfl := hnil (by omega)
    refine ⟨none, 0, by rw [h0], fun a b c ha hb hc => ⟨⟨h.c.below (key a b c ha hb hc).1, ?_, hr' a b c ha hb hc⟩, fun _ => rfl⟩⟩
    exact ⟨by show z.m - p ≤ 0; omega, by show z.m - p ≤ 1000000; omega, fun e => absurd e (by show ¬ 0 < z.m - p; omega)⟩
  · obtain ⟨g, cap, rfl, hc1, hlt, hcell, _⟩ := ho.cell (by omega)
    refine ⟨some ⟨g, 0, none⟩, cap, rfl, fun a b c ha hb hc => ⟨⟨h.c.below (key a b c ha hb hc).1, ?_, hr' a b c ha hb hc⟩, fun e => by cases e⟩⟩
    obtain ⟨k1, k2, k3⟩ := key a b c ha hb hc
    have hgg := hgv g rfl
    refine ⟨hc1, by show z.m - p ≤ 1000000; omega, fun _ => ⟨g, 0, rfl, Nat.lt_of_lt_of_le hlt k2.1, fun k hk => ?_⟩⟩
    obtain ⟨A, c', h2, h3⟩ := hxs k hk
    refine ⟨A, c', ?_, h3.below k1⟩
    rw [Nat.zero_add]
    exact (World.cell?_of_block (a := ⟨g, k, none⟩) (k3 g (by omega))).trans (hcell k _ h2)

set_option maxRecDepth 100000 in
set_option maxHeartbeats 4000000 in
theorem order_any (w : World) (Ac Ag Ar : Option Addr) (cc cg cr : Nat) (z : Zo) (o kp p bits : Nat) (E T : Nat) (h : RZo w ⟨Ac, cc, Ag, cg, Ar, cr⟩ z) (lz : z.Lim E T) (ho : o ≤ 64) (hkp : kp = o * z.n) (hp : p + kp = z.m) (hk : 0 < p) (hm : z.m ≤ 12) (hET : E + T + 2 * z.n + 2 * z.m + 8 ≤ 16000) (hb2 : 2 ≤ bits) (hb3 : bits ≤ 4096) (ht : BTab w) :
    Calls Tryd.prog 56 #[.agg #[.slice Ac z.n cc, .slice Ag z.m cg, .slice Ar z.n cr], .int .i64 o, .int .i64 bits] w fun e w' => (∃ (Ag' : Option Addr) (cg' : Nat) (AR : Option Addr) (cR : Nat), e = .returned (.tuple #[.agg #[.slice Ac z.n cc, .slice Ag' (z.m - p) cg', .slice AR z.n cR], .int .i64 0]) ∧ RZo w' ⟨Ac, cc, Ag', cg', AR, cR⟩ (redZ z p bits) ∧ (Ag' = none → cg' = 0)) ∧ Below w.heap.size w w' := by
  have HZ := Lib.hid h
  have LZ := Lib.hid lz
  have HT := Lib.hid ht
  have HGG := Lib.hid (show RDss w Ag z.m cg z.n z.g from h.g)
  have HRR := Lib.hid (show RDs w Ar z.n cr z.r from h.r)
  have n0 := h.c.2.1
  clear h lz ht
  have HKP := Lib.hid hkp
  have HP := Lib.hid hp
  have k0 : kp < z.m := by omega
  have p0 : p ≤ z.m := by omega
  have q0 : ¬ (o : Int) < 0 := by omega
  have q1 : ¬ (64 : Int) < (o : Int) := by omega
  have q2 : (o : Int) * (z.n : Int) = (kp : Int) := by rw [hkp]; simp
  have q3 : IntKind.i64.wrap (kp : Int) = (kp : Int) := by rw [IntKind.wrap_i64]; omega
  have q4 : ¬ (z.m : Int) ≤ (kp : Int) := by omega
  have q5 : (z.m : Int) - (kp : Int) = (p : Int) := by omega
  have q6 : IntKind.i64.wrap (p : Int) = (p : Int) := by rw [IntKind.wrap_i64]; omega
  clear hk hkp hp
  have BX := Lib.hid (boxes2 w 42 #[.slice Ac z.n cc, .slice Ag z.m cg, .slice Ar z.n cr] 42 #[.slice none 0 0, .slice none 0 0, .slice none 0 0])
  go_enter Tryd.func56, Tryd.ntmps56
  go_upto_region 7 with (fail)
  generalize (w.alloc (.cells #[.slice Ac z.n cc, .slice Ag z.m cg, .slice Ar z.n cr] 42)).alloc (.cells #[.slice none 0 0, .slice none 0 0, .slice none 0 0] 42) = w0 at *
  obtain ⟨b0, b1, hw⟩ := BX.out
  have BZ := Lib.hid b0
  have BO := Lib.hid b1
  have HB := Lib.hid hw
  clear BX b0 b1 hw
  have hs0 := HB.out.size
  have lo0 := BO.out.lt
  have cz0 := BZ.out.cell 0 rfl
  have cz1 := BZ.out.cell 1 rfl
  have cz2 := BZ.out.cell 2 rfl
  have H0 := Lib.hid (show OrdRel w z (spr z bits) w0 0 (.slice none 0 0) w0 from ⟨Below.refl _ _, [], OW.nil _ _ _, (fun g hg => by cases hg), (fun j hj => absurd hj (by omega))⟩)
  obtain ⟨i0, hi0, hz0, hz1, hz2⟩ := info_parts infoG
  go_wp2_with fail
  clear cz0 cz1 cz2
  go_loopw [9, 39] (fun s9 k wr => ∃ (i : Nat) (v : Value), k = .int .i64 i ∧ v = s9 ∧ i ≤ z.m ∧ Hid (OrdRel w z (spr z bits) w0 i v wr)) (fun _ k _ => z.m - (intOf k).toNat)
  case atStart => exact ⟨0, _, rfl, rfl, Nat.zero_le _, H0⟩
  case round =>
    clear H0
    obtain ⟨i, v, rfl, rfl, hi, Hr⟩ := hrel
    by_cases hi2 : i < z.m
    · have q7 : (i : Int) < (z.m : Int) := by omega
      obtain ⟨hbel, xs, hown, hgb, hels⟩ := Hr.out
      have HBR := Lib.hid hbel
      have HOW := Lib.hid hown
      have HGB := Lib.hid hgb
      have HEL := Lib.hid hels
      clear hbel hown hgb hels Hr
      have HBW := Lib.hid (below_tr HB.out HBR.out)
      obtain ⟨A1, o1, rfl, hl1, hcc⟩ := HGG.out.2.2 (by omega)
      obtain ⟨A2, c2, z0, hrow⟩ := hcc i hi2
      have x0 := (HBW.out.cell (p := ⟨A1, o1 + i, none⟩) hl1).trans z0
      have RO := Lib.hid hrow
      clear hcc z0 hrow
      go_wp2_with fail
      refine (spread_any _ A2 z.n c2 (z.g i) bits E T (RO.out.below HBW.out) (fun j hj => LZ.out.g i j hi2 hj) (by omega) hb2 hb3 (HT.out.below HBW.out)).mono ?_
      rintro e w5 ⟨⟨r, rfl, hr⟩, hb⟩
      have RR := Lib.hid (show RD w5 r (spr z bits i) from hr)
      have HB5 := Lib.hid hb
      clear hb hr x0
      rw [show (spread (z.g i) z.n bits) = (spr z bits i) from rfl]
      have HOW5 := Lib.hid (((HOW.out.below HB5.out).al (.cells #[.bool r.b, .slice r.A r.n r.c, .int .i64 (spr z bits i).x] 53)).al (.cells #[.slice A2 z.n c2, .bool r.b, .slice r.A r.n r.c, .int .i64 (spr z bits i).x] 176))
      have HNW := Lib.hid (new_row1 w5 (.cells #[.bool r.b, .slice r.A r.n r.c, .int .i64 (spr z bits i).x] 53) [.slice A2 z.n c2, .bool r.b, .slice r.A r.n r.c, .int .i64 (spr z bits i).x] 176)
      have HBA := Lib.hid (below_al (below_al (HBR.out.trans (HB5.out.mono HBR.out.size)) (.cells #[.bool r.b, .slice r.A r.n r.c, .int .i64 (spr z bits i).x] 53)) (.cells #[.slice A2 z.n c2, .bool r.b, .slice r.A r.n r.c, .int .i64 (spr z bits i).x] 176))
      have HDK := Lib.hid (((Dk.below HB5.out).alloc (.cells #[.bool r.b, .slice r.A r.n r.c, .int .i64 (spr z bits i).x] 53)).alloc (.cells #[.slice A2 z.n c2, .bool r.b, .slice r.A r.n r.c, .int .i64 (spr z bits i).x] 176))
      have HD2 := Lib.hid (((Dk.refl w5).alloc (.cells #[.bool r.b, .slice r.A r.n r.c, .int .i64 (spr z bits i).x] 53)).alloc (.cells #[.slice A2 z.n c2, .bool r.b, .slice r.A r.n r.c, .int .i64 (spr z bits i).x] 176))
      clear HOW
      go_wp2_with (at_builtin; refine wpList_append_ow rfl _ _ 174 rfl 176 4 64 (.agg #[.slice none 0 0, .bool false, .slice none 0 0, .int .i64 0]) i0 Tryd.underlying174 hi0 hz0 hz1 hz2 rfl no_gen (by decide) (by decide) v i xs rfl HOW5.out ⟨w5.heap.size + 1, 0, none⟩ 1 1 [.slice A2 z.n c2, .bool r.b, .slice r.A r.n r.c, .int .i64 (spr z bits i).x] rfl rfl HNW.out one4 no4 (fun _ => by decide) (by omega) ?_)
      intro v' w6 hown hgr hdk hob
      have HN := Lib.hid (show OrdRel w z (spr z bits) w0 (i + 1) v' w6 from ord_next HBA.out HOW5.out HGB.out hown hgr hdk (by rw [World.size_alloc, World.size_alloc]; exact hob) HDK.out HEL.out (RR.out.dk HD2.out) RO.out)
      clear hown hgr hdk hob HOW5 HBA HNW HDK HD2
      go_wp2
      go_roundw
      case rel => exact ⟨i + 1, v', by go_num, rfl, hi2, HN⟩
      case measure => simp only [intOf]; omega
    · obtain rfl : i = z.m := by omega
      clear hi2
      obtain ⟨g, cap, A, C, q, rfl, hcap, hg0, hcr, hrd, hrow⟩ := ord_rows Hr.out (by omega)
      have HBR := Lib.hid Hr.out.1
      have HCR := Lib.hid hcr
      have HRD := Lib.hid hrd
      have HRW := Lib.hid hrow
      have HSL := Lib.hid (fun k (hk : k < z.m) => spread_lim z.n bits (fun i hi => LZ.out.g k i hk hi))
      clear Hr hcr hrd hrow
      go_wp2_with fail
      refine (sortG_any _ g z.m cap A (fun _ => z.n) C q (spr z bits) E (T + 2 * z.n + 2) hm HCR.out HRD.out HSL.out (by omega)).mono ?_
      rintro e w6 ⟨rfl, hs⟩
      have HB6 := Lib.hid (HBR.out.grown hs.gr HBR.out.size (by intro k hk; injection hk with hk; omega))
      have HC6 := Lib.hid hs.row
      clear hs HCR HRD HBR
      have BZ6 := Lib.hid (BZ.out.below HB6.out)
      have HW6 := Lib.hid (below_tr HB.out HB6.out)
      have cz0 := BZ6.out.cell 0 rfl
      have cz1 := BZ6.out.cell 1 rfl
      have cz2 := BZ6.out.cell 2 rfl
      have lz6 := BZ6.out.lt
      have hs6 := HW6.out.size
      have hs66 := HB6.out.size
      have lg := HC6.out.lt
      have H0 := Lib.hid (show OrdRel2 w w6 Ac cc z (sigU z bits) p bits 0 (w6.alloc (.cells #[.slice Ac z.n cc, .slice none 0 0, .slice Ar z.n cr] 42)) from ord_start (Nat.lt_of_lt_of_le lo0 hs66) HW6.out HRR.out)
      go_wp2_with fail
      clear cz0 cz1 cz2 lz6
      go_loopw [69] (fun k wr => ∃ i : Nat, k = .int .i64 i ∧ i ≤ z.m ∧ Hid (OrdRel2 w w6 Ac cc z (sigU z bits) p bits i wr)) (fun k _ => z.m - (intOf k).toNat)
      case atStart => exact ⟨0, rfl, Nat.zero_le _, H0⟩
      case round =>
        clear H0
        obtain ⟨i, rfl, hi, Hr⟩ := hrel
        by_cases hi2 : i < z.m
        · have q7 : (i : Int) < (z.m : Int) := by omega
          obtain ⟨hbel, AR, cR, v, xs, hbo, hown, hgv, hnil, hrr, hbk, hxs⟩ := Hr.out
          have HBR := Lib.hid hbel
          have BOX := Lib.hid hbo
          have HOW := Lib.hid hown
          have HRL := Lib.hid hrr
          have HGV := Lib.hid hgv
          have HNI := Lib.hid hnil
          have HBK := Lib.hid hbk
          have HXS := Lib.hid hxs
          have HC := Lib.hid (HC6.out.below hbel)
          have hsr := hbel.size
          clear hbo hown hrr hgv hnil hbk hxs Hr
          have sl := sigU_lt z bits hi2
          have x0 : wr.cell? ⟨g, i * 4, none⟩ = some (.slice (A (sigU z bits i)) z.n (C (sigU z bits i))) := HC.out.cell (i := i) (c := 0) hi2 (by omega)
          have x1 : wr.cell? ⟨g, i * 4 + 1, none⟩ = some (.bool (q (sigU z bits i)).b) := HC.out.cell (i := i) (c := 1) hi2 (by omega)
          have x2 : wr.cell? ⟨g, i * 4 + 2, none⟩ = some (.slice (q (sigU z bits i)).A (q (sigU z bits i)).n (q (sigU z bits i)).c) := HC.out.cell (i := i) (c := 2) hi2 (by omega)
          have x3 : wr.cell? ⟨g, i * 4 + 3, none⟩ = some (.int .i64 (spr z bits (sigU z bits i)).x) := HC.out.cell (i := i) (c := 3) hi2 (by omega)
          have HRS := Lib.hid (HRW.out _ sl)
          generalize hqs : q (sigU z bits i) = qs at *
          generalize hsp : (spr z bits (sigU z bits i)).x = sx at *
          generalize hAs : A (sigU z bits i) = As at *
          generalize hCs : C (sigU z bits i) = Cs at *
          clear hqs hsp hAs hCs
          have lox := BOX.out.lt
          have cb0 := BOX.out.cell 0 rfl
          have cb1 := BOX.out.cell 1 rfl
          have cb2 := BOX.out.cell 2 rfl
          have fb1 := BOX.out.free 1
          have fb2 := BOX.out.free 2
          have HBW := Lib.hid (below_tr HW6.out HBR.out)
          by_cases hip : p ≤ i
          · have q8 : (p : Int) ≤ (i : Int) := by omega
            have HOW5 := Lib.hid ((HOW.out.al (.cells #[.slice As z.n Cs, .bool qs.b, .slice qs.A qs.n qs.c, .int .i64 sx] 176)).al (.cells #[.slice As z.n Cs] 39))
            have HNW := Lib.hid (new_row1 wr (.cells #[.slice As z.n Cs, .bool qs.b, .slice qs.A qs.n qs.c, .int .i64 sx] 176) [.slice As z.n Cs] 39)
            obtain ⟨j0, hj0, hj1, hj2, hj3⟩ := info_parts infoLL
            go_wp2_with (at_builtin; refine wpList_append_ow rfl _ _ 40 rfl 39 1 24 (.slice none 0 0) j0 Tryd.underlying40 hj0 hj1 hj2 hj3 rfl no_sl (by decide) (by decide) v (i - p) xs rfl HOW5.out ⟨wr.heap.size + 1, 0, none⟩ 1 1 [.slice As z.n Cs] rfl rfl HNW.out one1 no1 (fun _ => by decide) (by omega) ?_)
            intro v' w2 hown hgr hdk hob
            obtain ⟨gv, capv, rfl, _, _, _, _⟩ := hown.cell (by omega)
            have HN := Lib.hid (ord_next_a rfl HBR.out BOX.out HOW.out HGV.out HRL.out HBK.out HXS.out hip hown hgr hdk (by rw [World.size_alloc, World.size_alloc]; exact hob) HRS.out)
            have BX2 := Lib.hid HN.out.1
            have HN2 := Lib.hid HN.out.2
            clear hown hgr hdk hob HN HOW5 HNW x0 x1 x2 x3 cb0 cb1 cb2 fb1 fb2 lox
            have lox := BX2.out.lt
            have cb1 := BX2.out.cell 1 rfl
            have fb1 := BX2.out.free 1
            go_wp2
            go_roundw
            case rel => exact ⟨i + 1, by go_num, hi2, HN2⟩
            case measure => simp only [intOf]; omega
          · have q8 : ¬ (p : Int) ≤ (i : Int) := by omega
            have em : min i p = i := by omega
            have HR5 := Lib.hid (show RDs wr AR z.n cR (rndR z.r (fun k => z.g (sigU z bits k)) bits i) by have h := HRL.out; rw [em] at h; exact h)
            go_wp2_with fail
            refine (rounder_any _ AR As z.n cR Cs (rndR z.r (fun k => z.g (sigU z bits k)) bits i) (z.g (sigU z bits i)) bits E (T + 2 * i) (HR5.out.below (below_al (Below.refl _ _) _)) (HRS.out.below (below_al HBW.out _)) (fun j hj => rndR_lim bits i j (LZ.out.r j hj) (fun k hk => LZ.out.g _ j (sigU_lt z bits (by omega)) hj)) (fun j hj => (LZ.out.g _ j sl hj).mono (Nat.le_refl _) (by omega)) (by omega) hb2 hb3 (HT.out.below (below_al HBW.out _))).mono ?_
            rintro e w2 ⟨⟨g1, rfl, hg1, hod⟩, hb⟩
            have HN := Lib.hid (ord_next_b (Nat.lt_of_lt_of_le lo0 hs66) HBR.out BOX.out HNI.out (by omega) hg1 hod hb n0)
            have BX2 := Lib.hid HN.out.1
            have HN2 := Lib.hid HN.out.2
            clear hod hb HN x0 x1 x2 x3 cb0 cb1 cb2 fb1 fb2 lox
            have lox := BX2.out.lt
            have cb2 := BX2.out.cell 2 rfl
            have fb2 := BX2.out.free 2
            go_wp2
            go_roundw
            case rel => exact ⟨i + 1, by go_num, hi2, HN2⟩
            case measure => simp only [intOf]; omega
        · obtain rfl : i = z.m := by omega
          clear hi2
          obtain ⟨hbel, AR, cR, v, xs, hbo, hown, hgv, hnil, hrr, hbk, hxs⟩ := Hr.out
          have BOX := Lib.hid hbo
          have HBW := Lib.hid (below_tr HW6.out hbel)
          have BO2 := Lib.hid (BO.out.below (HB6.out.trans (hbel.mono hs66)))
          obtain ⟨Ag', cg', rfl, HF⟩ := ord_end (bits := bits) HZ.out HW6.out (Nat.lt_of_lt_of_le lo0 hs66) p0 hbel hm BO2.out hown hgv hnil hrr hbk hxs
          have HE := Lib.hid (HF (.slice Ac z.n cc) (.slice Ag' (z.m - p) cg') (.slice AR z.n cR) (by intro x h; cases h) (by intro x h; cases h) (by intro x h; cases h))
          clear hbo hown hgv hnil hrr hbk hxs hbel Hr HF
          have lox := BOX.out.lt
          have cb0 := BOX.out.cell 0 rfl
          have cb1 := BOX.out.cell 1 rfl
          have cb2 := BOX.out.cell 2 rfl
          have lo2 := BO2.out.lt
          obtain ⟨co0, co1, co2⟩ := BO2.out.cells3
          have fo0 := BO2.out.free 0
          have fo1 := BO2.out.free 1
          have fo2 := BO2.out.free 2
          go_wp2
          refine bodyPost_ret (v := .tuple #[.agg #[.slice Ac z.n cc, .slice Ag' (z.m - p) cg', .slice AR z.n cR], .int .i64 0]) ?_ rfl ?_
          · simp [results, Tryd.f56, go_sem, co0, co1, co2]
          · exact ⟨⟨Ag', cg', AR, cR, rfl, HE.out.1, HE.out.2⟩, below_st (below_st (below_st HBW.out 0 (by omega) _) 1 (by omega) _) 2 (by omega) _⟩

end Go.Proofs.YtgioppkggpfnoaaDoor.Nu
end

section
/- The walk of reduce.doubled. -/
set_option linter.unusedVariables false
namespace Go.Proofs.YtgioppkggpfnoaaDoor.Nu
open Go.RowKit Go.Proofs

def DblRel (a : Nat → D) (bits n g1 g2 : Nat) (W : World) (i : Nat) (w : World) : Prop :=
  OD w g1 n (fun j => if j < i then (fun j => dblM (a j) bits) j else D.zero) ∧ OD w g2 n (fun j => if j < i then (fun j => dblO (a j) bits) j else D.zero) ∧ Below W.heap.size W w

set_option maxRecDepth 100000 in
set_option maxHeartbeats 4000000 in
theorem doubled_any (w : World) (A : Option Addr) (n c : Nat) (a : Nat → D) (bits : Nat) (E T : Nat) (h : RDs w A n c a) (la : ∀ i, i < n → (a i).Lim E T) (hET : E + T + 5 ≤ 16000) (hb2 : 2 ≤ bits) (hb3 : bits ≤ 4096) (ht : BTab w) :
    Calls Tryd.prog 156 #[.slice A n c, .int .i64 bits] w fun e w' => (∃ g1 g2 : Nat, e = .returned (.tuple #[.slice (some ⟨g1, 0, none⟩) n n, .slice (some ⟨g2, 0, none⟩) n n, .int .i64 0]) ∧ w.heap.size ≤ g1 ∧ w.heap.size ≤ g2 ∧ OD w' g1 n (fun j => dblM (a j) bits) ∧ OD w' g2 n (fun j => dblO (a j) bits)) ∧ Below w.heap.size w w' := by
  have HA := Lib.hid h
  have LA := Lib.hid la
  have HT := Lib.hid ht
  have n0 := h.2.1
  clear h la ht
  have hmk := fun W => make_D n n0 W
  go_enter Tryd.func156, Tryd.ntmps156
  go_upto_region 1 with (fail)
  go_cut [7, 8] (fun s11 s12 wx => ∃ g1 g2 : Nat, s11 = .slice (some ⟨g1, 0, none⟩) n n ∧ s12 = .slice (some ⟨g2, 0, none⟩) n n ∧ g1 ≠ g2 ∧ w.heap.size ≤ g1 ∧ w.heap.size ≤ g2 ∧ OD wx g1 n (fun _ => D.zero) ∧ OD wx g2 n (fun _ => D.zero) ∧ Below w.heap.size w wx)
  case first =>
    go_region
    all_goals (go_wp2_with fail; go_meet; first | exact ⟨w.heap.size, w.heap.size + 1, rfl, rfl, by omega, by omega, by omega, ((OD.made w n).al _).dr, (OD.made1 w _ n).dr, below_dr (below_al (below_al (Below.refl _ w) _) _)⟩ | exact ⟨w.heap.size + 1, w.heap.size, rfl, rfl, by omega, by omega, by omega, (OD.made1 w _ n).dr, ((OD.made w n).al _).dr, below_dr (below_al (below_al (Below.refl _ w) _) _)⟩)
  case rest =>
    obtain ⟨w0, rfl⟩ : ∃ x, x = wc := ⟨_, rfl⟩
    obtain ⟨g1, g2, rfl, rfl, hne, hg1, hg2, ho1, ho2, hbel⟩ := hcut
    have H0 := Lib.hid (show DblRel a bits n g1 g2 w 0 w0 from ⟨OD.start (F := (fun j => dblM (a j) bits)) ho1, OD.start (F := (fun j => dblO (a j) bits)) ho2, hbel⟩)
    clear hmk ho1 ho2 hbel
    go_wp2_with fail
    go_loopw [23] (fun k wr => ∃ i : Nat, k = .int .i64 i ∧ i ≤ n ∧ Hid (DblRel a bits n g1 g2 w i wr)) (fun k _ => n - (intOf k).toNat)
    case atStart => exact ⟨0, rfl, Nat.zero_le _, H0⟩
    case round =>
      clear H0
      obtain ⟨i, rfl, hi, Hr⟩ := hrel
      by_cases hi2 : i < n
      · have q3 : (i : Int) < (n : Int) := by omega
        obtain ⟨hx, hv, hbel⟩ := Hr.out
        have OX := Lib.hid hx
        have OV := Lib.hid hv
        have HB_0 := Lib.hid hbel
        clear hx hv hbel Hr
        obtain ⟨A1, o1, rfl, hl1, hcc⟩ := HA.out.2.2 (by omega)
        obtain ⟨q, z0, z1, z2, hq⟩ := hcc i hi2
        have X0 := Lib.hid z0
        have X1 := Lib.hid z1
        have X2 := Lib.hid z2
        have RQ := Lib.hid (hq.below HB_0.out)
        clear hcc z0 z1 z2 hq
        have La := Lib.hid (LA.out i hi2)
        have cr10 : wr.cell? ⟨A1, o1 + i * 3, none⟩ = some (.bool q.b) := (HB_0.out.cell (p := ⟨A1, o1 + i * 3, none⟩) hl1).trans X0.out
        have cr11 : wr.cell? ⟨A1, o1 + i * 3 + 1, none⟩ = some (.slice q.A q.n q.c) := (HB_0.out.cell (p := ⟨A1, o1 + i * 3 + 1, none⟩) hl1).trans X1.out
        have cr12 : wr.cell? ⟨A1, o1 + i * 3 + 2, none⟩ = some (.int .i64 (a i).x) := (HB_0.out.cell (p := ⟨A1, o1 + i * 3 + 2, none⟩) hl1).trans X2.out
        have n_101 := OX.out.lt
        have n_102 := OV.out.lt
        go_wp2_with fail
        refine (dadd_any _ q q (a i) (a i) E T (RQ.out.dk ((Dk.refl _).alloc _)) (RQ.out.dk ((Dk.refl _).alloc _)) La.out La.out (by omega) (HT.out.below (below_al HB_0.out _))).mono ?_
        rintro e w1 ⟨⟨y, rfl, hy⟩, hb⟩
        clear cr10 cr11 cr12
        have K := Dk.trans ((Dk.refl _).alloc _) (.below hb)
        have Be_103 := Lib.hid (show Bk _ _ _ #[.bool q.b, .slice q.A q.n q.c, .int .i64 (a i).x] from (Bk.new _ 53 #[.bool q.b, .slice q.A q.n q.c, .int .i64 (a i).x]).below hb)
        have Ox_104 := Lib.hid (show OD _ (g1) n (fun j => if j < i then (fun j => dblM (a j) bits) j else D.zero) from (OX.out.al _).below hb)
        have Ov_105 := Lib.hid (show OD _ (g2) n (fun j => if j < i then (fun j => dblO (a j) bits) j else D.zero) from (OV.out.al _).below hb)
        have HB_106 := Lib.hid (below_tr (below_al HB_0.out _) hb)
        clear hb
        have RQ_107 := Lib.hid (RQ.out.dk K)
        clear K OX OV HB_0 RQ
        have RY_108 := Lib.hid hy
        clear hy
        have le := Be_103.out.lt
        obtain ⟨ce0, ce1, ce2⟩ := Be_103.out.cells3
        have n_109 := Be_103.out.lt
        have n_110 := Ox_104.out.lt
        have n_111 := Ov_105.out.lt
        have Ly := Lib.hid (add_lim La.out La.out)
        go_wp2_with fail
        refine (dround_any _ y ((a i).add (a i)) bits false E (T + 1) (RY_108.out.dk ((Dk.refl _).alloc _)) Ly.out (by omega) hb2 hb3 (HT.out.below (below_al HB_106.out _))).mono ?_
        rintro e w2 ⟨⟨m, rfl, hm⟩, hb⟩
        clear le ce0 ce1 ce2
        have K := Dk.trans ((Dk.refl _).alloc _) (.below hb)
        have Be_112 := Lib.hid (show Bk _ _ _ #[.bool q.b, .slice q.A q.n q.c, .int .i64 (a i).x] from (Be_103.out.alloc _).below hb)
        have By_113 := Lib.hid (show Bk _ _ _ #[.bool y.b, .slice y.A y.n y.c, .int .i64 ((a i).add (a i)).x] from (Bk.new _ 53 #[.bool y.b, .slice y.A y.n y.c, .int .i64 ((a i).add (a i)).x]).below hb)
        have Ox_114 := Lib.hid (show OD _ (g1) n (fun j => if j < i then (fun j => dblM (a j) bits) j else D.zero) from (Ox_104.out.al _).below hb)
        have Ov_115 := Lib.hid (show OD _ (g2) n (fun j => if j < i then (fun j => dblO (a j) bits) j else D.zero) from (Ov_105.out.al _).below hb)
        have HB_116 := Lib.hid (below_tr (below_al HB_106.out _) hb)
        clear hb
        have RQ_117 := Lib.hid (RQ_107.out.dk K)
        have RY_118 := Lib.hid (RY_108.out.dk K)
        clear K Be_103 Ox_104 Ov_105 HB_106 RQ_107 RY_108
        have RM_119 := Lib.hid hm
        clear hm
        have le := Be_112.out.lt
        obtain ⟨ce0, ce1, ce2⟩ := Be_112.out.cells3
        have ly := By_113.out.lt
        obtain ⟨cy0, cy1, cy2⟩ := By_113.out.cells3
        have n_120 := Be_112.out.lt
        have n_121 := By_113.out.lt
        have n_122 := Ox_114.out.lt
        have n_123 := Ov_115.out.lt
        have Lm := Lib.hid (round_lim Ly.out bits false)
        go_wp2_with fail
        refine (dsub_any _ y m ((a i).add (a i)) (((a i).add (a i)).round bits false) E (T + 2) (RY_118.out.dk ((Dk.refl _).alloc _)) (RM_119.out.dk ((Dk.refl _).alloc _)) (Ly.out.mono (Nat.le_refl _) (by omega)) Lm.out (by omega) (HT.out.below (below_al HB_116.out _))).mono ?_
        rintro e w3 ⟨⟨d, rfl, hd⟩, hb⟩
        clear le ce0 ce1 ce2 ly cy0 cy1 cy2
        have K := Dk.trans ((Dk.refl _).alloc _) (.below hb)
        have Be_124 := Lib.hid (show Bk _ _ _ #[.bool q.b, .slice q.A q.n q.c, .int .i64 (a i).x] from (Be_112.out.alloc _).below hb)
        have By_125 := Lib.hid (show Bk _ _ _ #[.bool y.b, .slice y.A y.n y.c, .int .i64 ((a i).add (a i)).x] from (By_113.out.alloc _).below hb)
        have Bm_126 := Lib.hid (show Bk _ _ _ #[.bool m.b, .slice m.A m.n m.c, .int .i64 (((a i).add (a i)).round bits false).x] from (Bk.new _ 53 #[.bool m.b, .slice m.A m.n m.c, .int .i64 (((a i).add (a i)).round bits false).x]).below hb)
        have Ox_127 := Lib.hid (show OD _ (g1) n (fun j => if j < i then (fun j => dblM (a j) bits) j else D.zero) from (Ox_114.out.al _).below hb)
        have Ov_128 := Lib.hid (show OD _ (g2) n (fun j => if j < i then (fun j => dblO (a j) bits) j else D.zero) from (Ov_115.out.al _).below hb)
        have HB_129 := Lib.hid (below_tr (below_al HB_116.out _) hb)
        clear hb
        have RQ_130 := Lib.hid (RQ_117.out.dk K)
        have RY_131 := Lib.hid (RY_118.out.dk K)
        have RM_132 := Lib.hid (RM_119.out.dk K)
        clear K Be_112 By_113 Ox_114 Ov_115 HB_116 RQ_117 RY_118 RM_119
        have RO_133 := Lib.hid hd
        clear hd
        have le := Be_124.out.lt
        obtain ⟨ce0, ce1, ce2⟩ := Be_124.out.cells3
        have ly := By_125.out.lt
        obtain ⟨cy0, cy1, cy2⟩ := By_125.out.cells3
        have lm := Bm_126.out.lt
        obtain ⟨cm0, cm1, cm2⟩ := Bm_126.out.cells3
        have n_134 := Be_124.out.lt
        have n_135 := By_125.out.lt
        have n_136 := Bm_126.out.lt
        have n_137 := Ox_127.out.lt
        have n_138 := Ov_128.out.lt
        go_upto_region 14 with (fail)
        clear le ce0 ce1 ce2 ly cy0 cy1 cy2 lm cm0 cm1 cm2
        have K : Dk w3 (w3.alloc (.cells #[.bool d.b, .slice d.A d.n d.c, .int .i64 (((a i).add (a i)).sub (((a i).add (a i)).round bits false)).x] 53)) := ((Dk.refl _).alloc _)
        have Be_139 := Lib.hid (show Bk (w3.alloc (.cells #[.bool d.b, .slice d.A d.n d.c, .int .i64 (((a i).add (a i)).sub (((a i).add (a i)).round bits false)).x] 53)) (wr.heap.size) 53 #[.bool q.b, .slice q.A q.n q.c, .int .i64 (a i).x] from (Be_124.out.alloc _))
        have By_140 := Lib.hid (show Bk (w3.alloc (.cells #[.bool d.b, .slice d.A d.n d.c, .int .i64 (((a i).add (a i)).sub (((a i).add (a i)).round bits false)).x] 53)) (w1.heap.size) 53 #[.bool y.b, .slice y.A y.n y.c, .int .i64 ((a i).add (a i)).x] from (By_125.out.alloc _))
        have Bm_141 := Lib.hid (show Bk (w3.alloc (.cells #[.bool d.b, .slice d.A d.n d.c, .int .i64 (((a i).add (a i)).sub (((a i).add (a i)).round bits false)).x] 53)) (w2.heap.size) 53 #[.bool m.b, .slice m.A m.n m.c, .int .i64 (((a i).add (a i)).round bits false).x] from (Bm_126.out.alloc _))
        have Bd_142 := Lib.hid (show Bk (w3.alloc (.cells #[.bool d.b, .slice d.A d.n d.c, .int .i64 (((a i).add (a i)).sub (((a i).add (a i)).round bits false)).x] 53)) (w3.heap.size) 53 #[.bool d.b, .slice d.A d.n d.c, .int .i64 (((a i).add (a i)).sub (((a i).add (a i)).round bits false)).x] from (Bk.new _ 53 #[.bool d.b, .slice d.A d.n d.c, .int .i64 (((a i).add (a i)).sub (((a i).add (a i)).round bits false)).x]))
        have Ox_143 := Lib.hid (show OD (w3.alloc (.cells #[.bool d.b, .slice d.A d.n d.c, .int .i64 (((a i).add (a i)).sub (((a i).add (a i)).round bits false)).x] 53)) (g1) n (fun j => if j < i then (fun j => dblM (a j) bits) j else D.zero) from (Ox_127.out.al _))
        have Ov_144 := Lib.hid (show OD (w3.alloc (.cells #[.bool d.b, .slice d.A d.n d.c, .int .i64 (((a i).add (a i)).sub (((a i).add (a i)).round bits false)).x] 53)) (g2) n (fun j => if j < i then (fun j => dblO (a j) bits) j else D.zero) from (Ov_128.out.al _))
        have HB_145 := Lib.hid (show Below w.heap.size w (w3.alloc (.cells #[.bool d.b, .slice d.A d.n d.c, .int .i64 (((a i).add (a i)).sub (((a i).add (a i)).round bits false)).x] 53)) from (below_al HB_129.out _))
        have RQ_146 := Lib.hid (RQ_130.out.dk K)
        have RY_147 := Lib.hid (RY_131.out.dk K)
        have RM_148 := Lib.hid (RM_132.out.dk K)
        have RO_149 := Lib.hid (RO_133.out.dk K)
        clear K Be_124 By_125 Bm_126 Ox_127 Ov_128 HB_129 RQ_130 RY_131 RM_132 RO_133
        generalize w3.alloc (.cells #[.bool d.b, .slice d.A d.n d.c, .int .i64 (((a i).add (a i)).sub (((a i).add (a i)).round bits false)).x] 53) = w4 at *
        have le := Be_139.out.lt
        obtain ⟨ce0, ce1, ce2⟩ := Be_139.out.cells3
        have ly := By_140.out.lt
        obtain ⟨cy0, cy1, cy2⟩ := By_140.out.cells3
        have lm := Bm_141.out.lt
        obtain ⟨cm0, cm1, cm2⟩ := Bm_141.out.cells3
        have ld := Bd_142.out.lt
        obtain ⟨cd0, cd1, cd2⟩ := Bd_142.out.cells3
        obtain ⟨⟨_, px0⟩, ⟨_, px1⟩, ⟨_, px2⟩, rx0, rx1, rx2⟩ := Ox_143.out.there hi2
        have lx := Ox_143.out.lt
        obtain ⟨⟨_, pv0⟩, ⟨_, pv1⟩, ⟨_, pv2⟩, rv0, rv1, rv2⟩ := Ov_144.out.there hi2
        have lv := Ov_144.out.lt
        go_region
        all_goals (go_wp2_with fail; go_roundw)
        all_goals first | (exact ⟨i + 1, by go_num, hi2, Lib.hid ⟨OD.next (F := (fun j => dblM (a j) bits)) (((Ox_143.out.put hi2 m (dblM (a i) bits) RM_148.out).1.rp3 (by have := Be_139.out.lt; have := By_140.out.lt; have := Bm_141.out.lt; have := Bd_142.out.lt; have := Ox_143.out.lt; have := Ov_144.out.lt; have := HB_145.out.size; omega) i (.bool d.b) (.slice d.A d.n d.c) (.int .i64 (((a i).add (a i)).sub (((a i).add (a i)).round bits false)).x) ((Ov_144.out.rp3 (by have := Be_139.out.lt; have := By_140.out.lt; have := Bm_141.out.lt; have := Bd_142.out.lt; have := Ox_143.out.lt; have := Ov_144.out.lt; have := HB_145.out.size; omega) i (.bool m.b) (.slice m.A m.n m.c) (.int .i64 (((a i).add (a i)).round bits false).x) (Ox_143.out.put hi2 m (dblM (a i) bits) RM_148.out).2).put hi2 d (dblO (a i) bits) (RO_149.out.dk (Dk.trans (Dk.refl _) (Ox_143.out.put hi2 m (dblM (a i) bits) RM_148.out).2))).2).dr), OD.next (F := (fun j => dblO (a j) bits)) (((Ov_144.out.rp3 (by have := Be_139.out.lt; have := By_140.out.lt; have := Bm_141.out.lt; have := Bd_142.out.lt; have := Ox_143.out.lt; have := Ov_144.out.lt; have := HB_145.out.size; omega) i (.bool m.b) (.slice m.A m.n m.c) (.int .i64 (((a i).add (a i)).round bits false).x) (Ox_143.out.put hi2 m (dblM (a i) bits) RM_148.out).2).put hi2 d (dblO (a i) bits) (RO_149.out.dk (Dk.trans (Dk.refl _) (Ox_143.out.put hi2 m (dblM (a i) bits) RM_148.out).2))).1.dr), (below_dr (below_put3 (below_put3 HB_145.out (by have := HB_145.out.size; omega) i (.bool m.b) (.slice m.A m.n m.c) (.int .i64 (((a i).add (a i)).round bits false).x)) (by have := HB_145.out.size; omega) i (.bool d.b) (.slice d.A d.n d.c) (.int .i64 (((a i).add (a i)).sub (((a i).add (a i)).round bits false)).x)))⟩⟩) | (simp only [intOf]; omega)
      · obtain rfl : i = n := by omega
        obtain ⟨hx, hv, hbel⟩ := Hr.out
        have OX := Lib.hid hx
        have OV := Lib.hid hv
        have HB_0 := Lib.hid hbel
        clear hx hv hbel Hr
        clear hi2
        go_wp2
        go_ret3
        exact ⟨⟨g1, g2, rfl, hg1, hg2, OX.out.done (F := (fun j => dblM (a j) bits)), OV.out.done (F := (fun j => dblO (a j) bits))⟩, HB_0.out⟩

end Go.Proofs.YtgioppkggpfnoaaDoor.Nu
end

section
/- The walks of reduce.along, reduce.empty. -/
set_option linter.unusedVariables false
namespace Go.Proofs.YtgioppkggpfnoaaDoor.Nu
open Go.RowKit Go.Proofs

set_option maxRecDepth 100000 in
set_option maxHeartbeats 4000000 in
theorem along_any (w : World) (A B : Option Addr) (n c d : Nat) (a b : Nat → D) (E T : Nat) (h : RDs w A n c a) (h2 : RDs w B n d b) (la : ∀ i, i < n → (a i).Lim E T) (lb : ∀ i, i < n → (b i).Lim E T) (hET : E + T ≤ 16000) :
    Calls Tryd.prog 155 #[.slice A n c, .slice B n d] w fun e w' => e = .returned (.bool (alongF a b n)) ∧ Below w.heap.size w w' := by
  have HA := Lib.hid h
  have HB := Lib.hid h2
  have LA := Lib.hid la
  have LB := Lib.hid lb
  have n0 := h.2.1
  clear h h2 la lb
  have q0 : ((n : Int) == (n : Int)) = true := by simp
  go_enter Tryd.func155, Tryd.ntmps155
  go_wp2_with fail
  go_loopw [5, 6, 20] (fun s o k wr => ∃ i : Nat, k = .int .i64 i ∧ s = .bool (sameF a b i) ∧ o = .bool (otherF a b i) ∧ i ≤ n ∧ Hid (Below w.heap.size w wr)) (fun _ _ k _ => n - (intOf k).toNat)
  case atStart => exact ⟨0, rfl, rfl, rfl, Nat.zero_le _, Lib.hid (Below.refl _ _)⟩
  case round =>
    obtain ⟨i, rfl, rfl, rfl, hi, HB_0⟩ := hrel
    by_cases hi2 : i < n
    · have q3 : (i : Int) < (n : Int) := by omega
      obtain ⟨A1, o1, rfl, hl1, hcc⟩ := HA.out.2.2 (by omega)
      obtain ⟨p, z0, z1, z2, hp⟩ := hcc i hi2
      obtain ⟨A2, o2, rfl, hl2, hc2⟩ := HB.out.2.2 (by omega)
      obtain ⟨q, y0, y1, y2, hq⟩ := hc2 i hi2
      have X0 := Lib.hid z0
      have Y0 := Lib.hid y0
      have X1 := Lib.hid z1
      have Y1 := Lib.hid y1
      have X2 := Lib.hid z2
      have Y2 := Lib.hid y2
      have HRP := Lib.hid hp
      have HRQ := Lib.hid hq
      have RP := Lib.hid (hp.below HB_0.out)
      have RQ := Lib.hid (hq.below HB_0.out)
      clear hcc z0 z1 z2 hp hc2 y0 y1 y2 hq
      have La := Lib.hid (LA.out i hi2)
      have Lb := Lib.hid (LB.out i hi2)
      have nb0 : nb (b i).z.natAbs ≤ 16384 := by have := Lb.out.nb; omega
      have cr10 : wr.cell? ⟨A1, o1 + i * 3, none⟩ = some (.bool p.b) := (HB_0.out.cell (p := ⟨A1, o1 + i * 3, none⟩) hl1).trans X0.out
      have cr11 : wr.cell? ⟨A1, o1 + i * 3 + 1, none⟩ = some (.slice p.A p.n p.c) := (HB_0.out.cell (p := ⟨A1, o1 + i * 3 + 1, none⟩) hl1).trans X1.out
      have cr12 : wr.cell? ⟨A1, o1 + i * 3 + 2, none⟩ = some (.int .i64 (a i).x) := (HB_0.out.cell (p := ⟨A1, o1 + i * 3 + 2, none⟩) hl1).trans X2.out
      have cr20 : wr.cell? ⟨A2, o2 + i * 3, none⟩ = some (.bool q.b) := (HB_0.out.cell (p := ⟨A2, o2 + i * 3, none⟩) hl2).trans Y0.out
      have cr21 : wr.cell? ⟨A2, o2 + i * 3 + 1, none⟩ = some (.slice q.A q.n q.c) := (HB_0.out.cell (p := ⟨A2, o2 + i * 3 + 1, none⟩) hl2).trans Y1.out
      have cr22 : wr.cell? ⟨A2, o2 + i * 3 + 2, none⟩ = some (.int .i64 (b i).x) := (HB_0.out.cell (p := ⟨A2, o2 + i * 3 + 2, none⟩) hl2).trans Y2.out
      go_upto_region 5 with (fail)
      go_cut [5] (fun s5 wx => s5 = .bool (sameF a b (i + 1)) ∧ Below w.heap.size w wx)
      case first =>
        by_cases hs : sameF a b i = true
        · have e1 : sameF a b (i + 1) = (((a i).cmp (b i)) == 0) := by show (sameF a b i && _) = _; rw [hs, Bool.true_and]
          have E1 := Lib.hid e1
          clear e1
          rw [hs]
          obtain ⟨SX1, hS1⟩ : ∃ S : World → Prop, ∀ w', S w' ↔ (w'.cell? ⟨A1, o1 + i * 3, none⟩ = some (.bool p.b) ∧ w'.cell? ⟨A1, o1 + i * 3 + 1, none⟩ = some (.slice p.A p.n p.c) ∧ w'.cell? ⟨A1, o1 + i * 3 + 2, none⟩ = some (.int .i64 (a i).x) ∧ w'.cell? ⟨A2, o2 + i * 3, none⟩ = some (.bool q.b) ∧ w'.cell? ⟨A2, o2 + i * 3 + 1, none⟩ = some (.slice q.A q.n q.c) ∧ w'.cell? ⟨A2, o2 + i * 3 + 2, none⟩ = some (.int .i64 (b i).x)) := ⟨_, fun _ => Iff.rfl⟩
          have k_101 : SX1 (wr) := (hS1 _).2 ⟨(Below.cell (p := ⟨A1, o1 + i * 3, none⟩) HB_0.out hl1).trans X0.out, (Below.cell (p := ⟨A1, o1 + i * 3 + 1, none⟩) HB_0.out hl1).trans X1.out, (Below.cell (p := ⟨A1, o1 + i * 3 + 2, none⟩) HB_0.out hl1).trans X2.out, (Below.cell (p := ⟨A2, o2 + i * 3, none⟩) HB_0.out hl2).trans Y0.out, (Below.cell (p := ⟨A2, o2 + i * 3 + 1, none⟩) HB_0.out hl2).trans Y1.out, (Below.cell (p := ⟨A2, o2 + i * 3 + 2, none⟩) HB_0.out hl2).trans Y2.out⟩
          have k_102 : SX1 (wr.drew) := (hS1 _).2 ⟨(Below.cell (p := ⟨A1, o1 + i * 3, none⟩) (below_dr HB_0.out) hl1).trans X0.out, (Below.cell (p := ⟨A1, o1 + i * 3 + 1, none⟩) (below_dr HB_0.out) hl1).trans X1.out, (Below.cell (p := ⟨A1, o1 + i * 3 + 2, none⟩) (below_dr HB_0.out) hl1).trans X2.out, (Below.cell (p := ⟨A2, o2 + i * 3, none⟩) (below_dr HB_0.out) hl2).trans Y0.out, (Below.cell (p := ⟨A2, o2 + i * 3 + 1, none⟩) (below_dr HB_0.out) hl2).trans Y1.out, (Below.cell (p := ⟨A2, o2 + i * 3 + 2, none⟩) (below_dr HB_0.out) hl2).trans Y2.out⟩
          have tok_103 : True := trivial
          go_region_held3 (fun w' => w'.cell? ⟨A1, o1 + i * 3, none⟩ = some (.bool p.b) ∧ w'.cell? ⟨A1, o1 + i * 3 + 1, none⟩ = some (.slice p.A p.n p.c) ∧ w'.cell? ⟨A1, o1 + i * 3 + 2, none⟩ = some (.int .i64 (a i).x) ∧ w'.cell? ⟨A2, o2 + i * 3, none⟩ = some (.bool q.b) ∧ w'.cell? ⟨A2, o2 + i * 3 + 1, none⟩ = some (.slice q.A q.n q.c) ∧ w'.cell? ⟨A2, o2 + i * 3 + 2, none⟩ = some (.int .i64 (b i).x)) (first | with_reducible exact (hS1 _).1 k_101 | with_reducible exact (hS1 _).1 k_102 | with_reducible exact (hS1 _).1 k_107)
            (first
             | (clear tok_103; go_at_call 48; refine (dcompare_any _ p q (a i) (b i) E T (RP.out.dk ((Dk.refl _).drew)) (RQ.out.dk ((Dk.refl _).drew)) La.out Lb.out hET).mono ?_; rintro e w1 ⟨rfl, hb⟩; clear cr10 cr11 cr12 cr20 cr21 cr22 k_101 k_102; have K := Dk.trans ((Dk.refl _).drew) (.below hb); have HB_104 := Lib.hid (below_tr (below_dr HB_0.out) hb); clear hb; have RP_105 := Lib.hid (RP.out.dk K); have RQ_106 := Lib.hid (RQ.out.dk K); clear K HB_0 RP RQ; have cr10 : w1.cell? ⟨A1, o1 + i * 3, none⟩ = some (.bool p.b) := (HB_104.out.cell (p := ⟨A1, o1 + i * 3, none⟩) hl1).trans X0.out; have cr11 : w1.cell? ⟨A1, o1 + i * 3 + 1, none⟩ = some (.slice p.A p.n p.c) := (HB_104.out.cell (p := ⟨A1, o1 + i * 3 + 1, none⟩) hl1).trans X1.out; have cr12 : w1.cell? ⟨A1, o1 + i * 3 + 2, none⟩ = some (.int .i64 (a i).x) := (HB_104.out.cell (p := ⟨A1, o1 + i * 3 + 2, none⟩) hl1).trans X2.out; have cr20 : w1.cell? ⟨A2, o2 + i * 3, none⟩ = some (.bool q.b) := (HB_104.out.cell (p := ⟨A2, o2 + i * 3, none⟩) hl2).trans Y0.out; have cr21 : w1.cell? ⟨A2, o2 + i * 3 + 1, none⟩ = some (.slice q.A q.n q.c) := (HB_104.out.cell (p := ⟨A2, o2 + i * 3 + 1, none⟩) hl2).trans Y1.out; have cr22 : w1.cell? ⟨A2, o2 + i * 3 + 2, none⟩ = some (.int .i64 (b i).x) := (HB_104.out.cell (p := ⟨A2, o2 + i * 3 + 2, none⟩) hl2).trans Y2.out; have k_107 : SX1 (w1) := (hS1 _).2 ⟨(Below.cell (p := ⟨A1, o1 + i * 3, none⟩) HB_104.out hl1).trans X0.out, (Below.cell (p := ⟨A1, o1 + i * 3 + 1, none⟩) HB_104.out hl1).trans X1.out, (Below.cell (p := ⟨A1, o1 + i * 3 + 2, none⟩) HB_104.out hl1).trans X2.out, (Below.cell (p := ⟨A2, o2 + i * 3, none⟩) HB_104.out hl2).trans Y0.out, (Below.cell (p := ⟨A2, o2 + i * 3 + 1, none⟩) HB_104.out hl2).trans Y1.out, (Below.cell (p := ⟨A2, o2 + i * 3 + 2, none⟩) HB_104.out hl2).trans Y2.out⟩))
          go_wp2_with fail
          go_meet
          exact ⟨by rw [E1.out], HB_104.out⟩
        · have e0 : sameF a b i = false := by simpa using hs
          have e1 : sameF a b (i + 1) = false := by show (sameF a b i && _) = false; rw [e0]; rfl
          have E1 := Lib.hid e1
          rw [e0]
          clear e1 hs
          go_region
          all_goals (go_wp2_with fail; go_meet; exact ⟨by rw [E1.out], below_dr HB_0.out⟩)
      case rest =>
        clear cr10 cr11 cr12 cr20 cr21 cr22
        clear HB_0 RP RQ
        obtain ⟨w5, rfl⟩ : ∃ x, x = wc := ⟨_, rfl⟩
        obtain ⟨rfl, hbel⟩ := hcut
        have HB_5 := Lib.hid hbel
        clear hbel
        have RP := Lib.hid (HRP.out.below HB_5.out)
        have RQ := Lib.hid (HRQ.out.below HB_5.out)
        have cr10 : w5.cell? ⟨A1, o1 + i * 3, none⟩ = some (.bool p.b) := (HB_5.out.cell (p := ⟨A1, o1 + i * 3, none⟩) hl1).trans X0.out
        have cr11 : w5.cell? ⟨A1, o1 + i * 3 + 1, none⟩ = some (.slice p.A p.n p.c) := (HB_5.out.cell (p := ⟨A1, o1 + i * 3 + 1, none⟩) hl1).trans X1.out
        have cr12 : w5.cell? ⟨A1, o1 + i * 3 + 2, none⟩ = some (.int .i64 (a i).x) := (HB_5.out.cell (p := ⟨A1, o1 + i * 3 + 2, none⟩) hl1).trans X2.out
        have cr20 : w5.cell? ⟨A2, o2 + i * 3, none⟩ = some (.bool q.b) := (HB_5.out.cell (p := ⟨A2, o2 + i * 3, none⟩) hl2).trans Y0.out
        have cr21 : w5.cell? ⟨A2, o2 + i * 3 + 1, none⟩ = some (.slice q.A q.n q.c) := (HB_5.out.cell (p := ⟨A2, o2 + i * 3 + 1, none⟩) hl2).trans Y1.out
        have cr22 : w5.cell? ⟨A2, o2 + i * 3 + 2, none⟩ = some (.int .i64 (b i).x) := (HB_5.out.cell (p := ⟨A2, o2 + i * 3 + 2, none⟩) hl2).trans Y2.out
        by_cases hs : otherF a b i = true
        · have e1 : otherF a b (i + 1) = (((a i).cmp (b i).neg) == 0) := by show (otherF a b i && _) = _; rw [hs, Bool.true_and]
          have E1 := Lib.hid e1
          clear e1
          rw [hs]
          go_wp2_with fail
          obtain ⟨SX2, hS2⟩ : ∃ S : World → Prop, ∀ w', S w' ↔ (w'.cell? ⟨A1, o1 + i * 3, none⟩ = some (.bool p.b) ∧ w'.cell? ⟨A1, o1 + i * 3 + 1, none⟩ = some (.slice p.A p.n p.c) ∧ w'.cell? ⟨A1, o1 + i * 3 + 2, none⟩ = some (.int .i64 (a i).x) ∧ w'.cell? ⟨A2, o2 + i * 3, none⟩ = some (.bool q.b) ∧ w'.cell? ⟨A2, o2 + i * 3 + 1, none⟩ = some (.slice q.A q.n q.c) ∧ w'.cell? ⟨A2, o2 + i * 3 + 2, none⟩ = some (.int .i64 (b i).x)) := ⟨_, fun _ => Iff.rfl⟩
          have k_301 : SX2 (w5) := (hS2 _).2 ⟨(Below.cell (p := ⟨A1, o1 + i * 3, none⟩) HB_5.out hl1).trans X0.out, (Below.cell (p := ⟨A1, o1 + i * 3 + 1, none⟩) HB_5.out hl1).trans X1.out, (Below.cell (p := ⟨A1, o1 + i * 3 + 2, none⟩) HB_5.out hl1).trans X2.out, (Below.cell (p := ⟨A2, o2 + i * 3, none⟩) HB_5.out hl2).trans Y0.out, (Below.cell (p := ⟨A2, o2 + i * 3 + 1, none⟩) HB_5.out hl2).trans Y1.out, (Below.cell (p := ⟨A2, o2 + i * 3 + 2, none⟩) HB_5.out hl2).trans Y2.out⟩
          have k_302 : SX2 (w5.drew) := (hS2 _).2 ⟨(Below.cell (p := ⟨A1, o1 + i * 3, none⟩) (below_dr HB_5.out) hl1).trans X0.out, (Below.cell (p := ⟨A1, o1 + i * 3 + 1, none⟩) (below_dr HB_5.out) hl1).trans X1.out, (Below.cell (p := ⟨A1, o1 + i * 3 + 2, none⟩) (below_dr HB_5.out) hl1).trans X2.out, (Below.cell (p := ⟨A2, o2 + i * 3, none⟩) (below_dr HB_5.out) hl2).trans Y0.out, (Below.cell (p := ⟨A2, o2 + i * 3 + 1, none⟩) (below_dr HB_5.out) hl2).trans Y1.out, (Below.cell (p := ⟨A2, o2 + i * 3 + 2, none⟩) (below_dr HB_5.out) hl2).trans Y2.out⟩
          have tok_303 : True := trivial
          have tok_304 : True := trivial
          go_region_held3 (fun w' => w'.cell? ⟨A1, o1 + i * 3, none⟩ = some (.bool p.b) ∧ w'.cell? ⟨A1, o1 + i * 3 + 1, none⟩ = some (.slice p.A p.n p.c) ∧ w'.cell? ⟨A1, o1 + i * 3 + 2, none⟩ = some (.int .i64 (a i).x) ∧ w'.cell? ⟨A2, o2 + i * 3, none⟩ = some (.bool q.b) ∧ w'.cell? ⟨A2, o2 + i * 3 + 1, none⟩ = some (.slice q.A q.n q.c) ∧ w'.cell? ⟨A2, o2 + i * 3 + 2, none⟩ = some (.int .i64 (b i).x)) (first | with_reducible exact (hS2 _).1 k_301 | with_reducible exact (hS2 _).1 k_302 | with_reducible exact (hS2 _).1 k_309 | with_reducible exact (hS2 _).1 k_314)
            (first
             | (clear tok_303; go_at_call 111; refine (dneg_q _ q (b i) (RQ.out.dk ((Dk.refl _).drew)) nb0).mono ?_; rintro e w1 ⟨⟨t, rfl, ht⟩, hb⟩; clear cr10 cr11 cr12 cr20 cr21 cr22 k_301 k_302; have K := Dk.trans ((Dk.refl _).drew) (.below hb); have HB_305 := Lib.hid (below_tr (below_dr HB_5.out) hb); clear hb; have RP_306 := Lib.hid (RP.out.dk K); have RQ_307 := Lib.hid (RQ.out.dk K); clear K HB_5 RP RQ; have RT_308 := Lib.hid ht; clear ht; have cr10 : w1.cell? ⟨A1, o1 + i * 3, none⟩ = some (.bool p.b) := (HB_305.out.cell (p := ⟨A1, o1 + i * 3, none⟩) hl1).trans X0.out; have cr11 : w1.cell? ⟨A1, o1 + i * 3 + 1, none⟩ = some (.slice p.A p.n p.c) := (HB_305.out.cell (p := ⟨A1, o1 + i * 3 + 1, none⟩) hl1).trans X1.out; have cr12 : w1.cell? ⟨A1, o1 + i * 3 + 2, none⟩ = some (.int .i64 (a i).x) := (HB_305.out.cell (p := ⟨A1, o1 + i * 3 + 2, none⟩) hl1).trans X2.out; have cr20 : w1.cell? ⟨A2, o2 + i * 3, none⟩ = some (.bool q.b) := (HB_305.out.cell (p := ⟨A2, o2 + i * 3, none⟩) hl2).trans Y0.out; have cr21 : w1.cell? ⟨A2, o2 + i * 3 + 1, none⟩ = some (.slice q.A q.n q.c) := (HB_305.out.cell (p := ⟨A2, o2 + i * 3 + 1, none⟩) hl2).trans Y1.out; have cr22 : w1.cell? ⟨A2, o2 + i * 3 + 2, none⟩ = some (.int .i64 (b i).x) := (HB_305.out.cell (p := ⟨A2, o2 + i * 3 + 2, none⟩) hl2).trans Y2.out; have k_309 : SX2 (w1) := (hS2 _).2 ⟨(Below.cell (p := ⟨A1, o1 + i * 3, none⟩) HB_305.out hl1).trans X0.out, (Below.cell (p := ⟨A1, o1 + i * 3 + 1, none⟩) HB_305.out hl1).trans X1.out, (Below.cell (p := ⟨A1, o1 + i * 3 + 2, none⟩) HB_305.out hl1).trans X2.out, (Below.cell (p := ⟨A2, o2 + i * 3, none⟩) HB_305.out hl2).trans Y0.out, (Below.cell (p := ⟨A2, o2 + i * 3 + 1, none⟩) HB_305.out hl2).trans Y1.out, (Below.cell (p := ⟨A2, o2 + i * 3 + 2, none⟩) HB_305.out hl2).trans Y2.out⟩)
             | (clear tok_304; go_at_call 48; refine (dcompare_any _ p t (a i) (b i).neg E T RP_306.out RT_308.out La.out (neg_lim Lb.out) hET).mono ?_; rintro e w2 ⟨rfl, hb⟩; clear cr10 cr11 cr12 cr20 cr21 cr22 k_309; have K := Dk.below hb; have HB_310 := Lib.hid (below_tr HB_305.out hb); clear hb; have RP_311 := Lib.hid (RP_306.out.dk K); have RQ_312 := Lib.hid (RQ_307.out.dk K); have RT_313 := Lib.hid (RT_308.out.dk K); clear K HB_305 RP_306 RQ_307 RT_308; have cr10 : w2.cell? ⟨A1, o1 + i * 3, none⟩ = some (.bool p.b) := (HB_310.out.cell (p := ⟨A1, o1 + i * 3, none⟩) hl1).trans X0.out; have cr11 : w2.cell? ⟨A1, o1 + i * 3 + 1, none⟩ = some (.slice p.A p.n p.c) := (HB_310.out.cell (p := ⟨A1, o1 + i * 3 + 1, none⟩) hl1).trans X1.out; have cr12 : w2.cell? ⟨A1, o1 + i * 3 + 2, none⟩ = some (.int .i64 (a i).x) := (HB_310.out.cell (p := ⟨A1, o1 + i * 3 + 2, none⟩) hl1).trans X2.out; have cr20 : w2.cell? ⟨A2, o2 + i * 3, none⟩ = some (.bool q.b) := (HB_310.out.cell (p := ⟨A2, o2 + i * 3, none⟩) hl2).trans Y0.out; have cr21 : w2.cell? ⟨A2, o2 + i * 3 + 1, none⟩ = some (.slice q.A q.n q.c) := (HB_310.out.cell (p := ⟨A2, o2 + i * 3 + 1, none⟩) hl2).trans Y1.out; have cr22 : w2.cell? ⟨A2, o2 + i * 3 + 2, none⟩ = some (.int .i64 (b i).x) := (HB_310.out.cell (p := ⟨A2, o2 + i * 3 + 2, none⟩) hl2).trans Y2.out; have k_314 : SX2 (w2) := (hS2 _).2 ⟨(Below.cell (p := ⟨A1, o1 + i * 3, none⟩) HB_310.out hl1).trans X0.out, (Below.cell (p := ⟨A1, o1 + i * 3 + 1, none⟩) HB_310.out hl1).trans X1.out, (Below.cell (p := ⟨A1, o1 + i * 3 + 2, none⟩) HB_310.out hl1).trans X2.out, (Below.cell (p := ⟨A2, o2 + i * 3, none⟩) HB_310.out hl2).trans Y0.out, (Below.cell (p := ⟨A2, o2 + i * 3 + 1, none⟩) HB_310.out hl2).trans Y1.out, (Below.cell (p := ⟨A2, o2 + i * 3 + 2, none⟩) HB_310.out hl2).trans Y2.out⟩))
          go_wp2_with fail
          go_roundw
          case rel => exact ⟨i + 1, by go_num, rfl, by rw [E1.out], hi2, Lib.hid HB_310.out⟩
          case measure => simp only [intOf]; omega
        · have e0 : otherF a b i = false := by simpa using hs
          have e1 : otherF a b (i + 1) = false := by show (otherF a b i && _) = false; rw [e0]; rfl
          have E1 := Lib.hid e1
          rw [e0]
          clear e1 hs
          go_wp2_with fail
          go_region
          all_goals (go_wp2_with fail; go_roundw)
          all_goals first | (exact ⟨i + 1, by go_num, rfl, by rw [E1.out], hi2, Lib.hid (below_dr HB_5.out)⟩) | (simp only [intOf]; omega)
    · obtain rfl : i = n := by omega
      have HE := Lib.hid (show (sameF a b i || otherF a b i) = alongF a b i from rfl)
      clear hi2
      by_cases hs : sameF a b i = true
      · have HS := Lib.hid hs
        rw [hs]
        clear hs
        go_wp2
        go_ret
        exact ⟨by rw [← HE.out, HS.out]; rfl, HB_0.out⟩
      · have e0 : sameF a b i = false := by simpa using hs
        have HS := Lib.hid e0
        rw [e0]
        clear hs e0
        go_wp2
        go_ret
        exact ⟨by rw [← HE.out, HS.out]; rfl, HB_0.out⟩

theorem sgn_neb (z : Int) : (sgn z != 0) = !(z == 0) := by
  unfold sgn
  by_cases h : z = 0
  · subst h; rfl
  · have h1 : (z == 0) = false := by rw [beq_eq_false_iff_ne]; exact h
    rw [h1]
    split
    · exact absurd ‹_› h
    · split <;> rfl
set_option maxRecDepth 100000 in
set_option maxHeartbeats 4000000 in
theorem emptyc_any (w : World) (p : Q) (a : D) (h : RD w p a) :
    Calls Tryd.prog 174 #[.agg #[.bool p.b, .slice p.A p.n p.c, .int .i64 a.x]] w fun e w' => e = .returned (.bool !(a.z == 0)) ∧ Below w.heap.size w w' := by
  have HA := Lib.hid h
  clear h
  have BX := Lib.hid (boxes1 w 53 #[.bool p.b, .slice p.A p.n p.c, .int .i64 a.x])
  go_enter Tryd.func174, Tryd.ntmps174
  go_wp2_with fail
  generalize w.alloc (.cells #[.bool p.b, .slice p.A p.n p.c, .int .i64 a.x] 53) = w0 at *
  obtain ⟨b0, hw⟩ := BX.out
  have Ba_0 := Lib.hid b0
  have HB_0 := Lib.hid hw
  have K := Dk.below (hw.mono (Nat.le_refl _))
  clear BX hw b0
  have RA_1 := Lib.hid (HA.out.dk K)
  clear K HA
  have la := Ba_0.out.lt
  obtain ⟨ca0, ca1, ca2⟩ := Ba_0.out.cells3
  go_wp2_with fail
  refine (dsign_q _ p a RA_1.out).mono ?_
  rintro e w1 ⟨rfl, hb⟩
  clear la ca0 ca1 ca2
  have K := Dk.below hb
  have Ba_2 := Lib.hid (show Bk _ _ _ #[.bool p.b, .slice p.A p.n p.c, .int .i64 a.x] from Ba_0.out.below hb)
  have HB_3 := Lib.hid (below_tr HB_0.out hb)
  clear hb
  have RA_4 := Lib.hid (RA_1.out.dk K)
  clear K Ba_0 HB_0 RA_1
  have e0 : (sgn a.z != 0) = !(a.z == 0) := sgn_neb a.z
  generalize sgn a.z = s at *
  go_wp2
  go_ret
  exact ⟨rfl, HB_3.out⟩

/-- A number tells whether a way is none. -/
structure IdxPost (f : Nat → D) (n : Nat) (r : Int) : Prop where
  eq : decide (0 ≤ r) = !emptyF f n
theorem emptyF_false {f : Nat → D} {i n : Nat} (h : i < n) (hz : (f i).z ≠ 0) : emptyF f n = false := by
  induction n with
  | zero => omega
  | succ n ih =>
    show (emptyF f n && _) = false
    by_cases e : i = n
    · subst e
      rw [show ((f i).z == 0) = false by rw [beq_eq_false_iff_ne]; exact hz, Bool.and_false]
    · rw [ih (by omega), Bool.false_and]
set_option maxRecDepth 100000 in
set_option maxHeartbeats 4000000 in
theorem idx_any (w : World) (A : Option Addr) (n c : Nat) (f : Nat → D) (h : RDs w A n c f) :
    Calls Tryd.prog 190 #[.slice A n c, .func (.func 174) #[] #[]] w fun e w' => (∃ r : Int, e = .returned (.int .i64 r) ∧ IdxPost f n r) ∧ Below w.heap.size w w' := by
  have HA := Lib.hid h
  have n0 := h.2.1
  clear h
  go_enter Tryd.func190, Tryd.ntmps190
  go_wp2_with fail
  go_loopw [8] (fun k wr => ∃ i : Nat, k = .int .i64 i ∧ i ≤ n ∧ Hid (emptyF f i = true) ∧ Hid (Below w.heap.size w wr)) (fun k _ => n - (intOf k).toNat)
  case atStart => exact ⟨0, rfl, Nat.zero_le _, Lib.hid rfl, Lib.hid (Below.refl _ _)⟩
  case round =>
    obtain ⟨i, rfl, hi, HE, HB_0⟩ := hrel
    by_cases hi2 : i < n
    · have q3 : (i : Int) < (n : Int) := by omega
      obtain ⟨A1, o1, rfl, hl1, hcc⟩ := HA.out.2.2 (by omega)
      obtain ⟨p, z0, z1, z2, hp⟩ := hcc i hi2
      have X0 := Lib.hid z0
      have X1 := Lib.hid z1
      have X2 := Lib.hid z2
      have RP := Lib.hid (hp.below HB_0.out)
      clear hcc z0 z1 z2 hp
      have cr10 : wr.cell? ⟨A1, o1 + i * 3, none⟩ = some (.bool p.b) := (HB_0.out.cell (p := ⟨A1, o1 + i * 3, none⟩) hl1).trans X0.out
      have cr11 : wr.cell? ⟨A1, o1 + i * 3 + 1, none⟩ = some (.slice p.A p.n p.c) := (HB_0.out.cell (p := ⟨A1, o1 + i * 3 + 1, none⟩) hl1).trans X1.out
      have cr12 : wr.cell? ⟨A1, o1 + i * 3 + 2, none⟩ = some (.int .i64 (f i).x) := (HB_0.out.cell (p := ⟨A1, o1 + i * 3 + 2, none⟩) hl1).trans X2.out
      by_cases hz : (f i).z = 0
      · have e0 : (!((f i).z == 0)) = false := by rw [hz]; rfl
        have HZ := Lib.hid hz
        clear hz
        go_wp2_with fail
        refine (emptyc_any _ p (f i) RP.out).mono ?_
        rintro e w1 ⟨rfl, hb⟩
        clear cr10 cr11 cr12
        have K := Dk.below hb
        have HB_101 := Lib.hid (below_tr HB_0.out hb)
        clear hb
        have RP_102 := Lib.hid (RP.out.dk K)
        clear K HB_0 RP
        rw [e0]
        go_wp2
        go_roundw
        case rel => exact ⟨i + 1, by go_num, hi2, Lib.hid (by show (emptyF f i && _) = true; rw [HE.out, HZ.out]; rfl), HB_101⟩
        case measure => simp only [intOf]; omega
      · have e0 : (!((f i).z == 0)) = true := by simp [hz]
        have HZ := Lib.hid (emptyF_false hi2 hz)
        clear hz
        go_wp2_with fail
        refine (emptyc_any _ p (f i) RP.out).mono ?_
        rintro e w1 ⟨rfl, hb⟩
        clear cr10 cr11 cr12
        have K := Dk.below hb
        have HB_101 := Lib.hid (below_tr HB_0.out hb)
        clear hb
        have RP_102 := Lib.hid (RP.out.dk K)
        clear K HB_0 RP
        rw [e0]
        go_wp2
        go_ret
        exact ⟨⟨_, rfl, ⟨by rw [HZ.out]; simp⟩⟩, HB_101.out⟩
    · obtain rfl : i = n := by omega
      clear hi2
      go_wp2
      go_ret
      exact ⟨⟨_, rfl, ⟨by rw [HE.out]; rfl⟩⟩, HB_0.out⟩

set_option maxRecDepth 100000 in
set_option maxHeartbeats 4000000 in
theorem contains_any (w : World) (A : Option Addr) (n c : Nat) (f : Nat → D) (h : RDs w A n c f) :
    Calls Tryd.prog 173 #[.slice A n c, .func (.func 174) #[] #[]] w fun e w' => e = .returned (.bool !emptyF f n) ∧ Below w.heap.size w w' := by
  have HA := Lib.hid h
  clear h
  go_enter Tryd.func173, Tryd.ntmps173
  go_wp2_with fail
  refine (idx_any _ A n c f HA.out).mono ?_
  rintro e w1 ⟨⟨r, rfl, hr⟩, hb⟩
  have HR := Lib.hid hr.eq
  have HB := Lib.hid hb
  clear hr hb
  by_cases h0 : 0 ≤ r
  · have e1 : decide (0 ≤ r) = true := by simpa using h0
    go_wp2
    go_ret
    exact ⟨by rw [← HR.out, e1]; rfl, HB.out⟩
  · have e1 : decide (0 ≤ r) = false := by simpa using h0
    go_wp2
    go_ret
    exact ⟨by rw [← HR.out, e1]; rfl, HB.out⟩
set_option maxRecDepth 100000 in
set_option maxHeartbeats 4000000 in
theorem empty_any (w : World) (A : Option Addr) (n c : Nat) (f : Nat → D) (h : RDs w A n c f) :
    Calls Tryd.prog 154 #[.slice A n c] w fun e w' => e = .returned (.bool (emptyF f n)) ∧ Below w.heap.size w w' := by
  have HA := Lib.hid h
  clear h
  go_enter Tryd.func154, Tryd.ntmps154
  go_wp2_with fail
  refine (contains_any _ A n c f HA.out).mono ?_
  rintro e w1 ⟨rfl, hb⟩
  have HB := Lib.hid hb
  clear hb
  cases he : emptyF f n
  · go_wp2
    go_ret
    exact ⟨by rw [he]; rfl, HB.out⟩
  · go_wp2
    go_ret
    exact ⟨by rw [he]; rfl, HB.out⟩
end Go.Proofs.YtgioppkggpfnoaaDoor.Nu
end

section
/- The walks of slices.Clone over a row of ways, and of reduce.Merge. -/
set_option linter.unusedVariables false
namespace Go.Proofs.YtgioppkggpfnoaaDoor.Nu
open Go.RowKit Go.Proofs

theorem new_row0 (w : World) (xs : List Value) (t : TypeId) (j : Nat) (u : Value) (h : xs[j]? = some u) : (w.alloc (.cells xs.toArray t)).cell? ((⟨w.heap.size, 0, none⟩ : Addr).add j) = some u := by
  rw [Addr.add_lit, Nat.zero_add]
  exact (Bk.new w t xs.toArray).cell j (by simpa using h)
theorem OW.same {w : World} {E : TypeId} {k : Nat} {v : Value} {m : Nat} {xs ys : List Value} (h : OW w E k v m xs) (e : xs = ys) : OW w E k v m ys := e ▸ h
theorem OW.oneU {w : World} {v : Value} {m : Nat} {xs : List Value} (h : OW w 39 1 v m xs) : (∀ u ∈ xs, ∀ x : Int, u ≠ .int .u32 x) := by
  rcases h.2 with ⟨_, e⟩ | ⟨g, cap, cur, _, _, _, _, _, e, hall⟩
  · subst e
    have := h.1
    rw [Nat.zero_mul] at this
    rw [List.length_eq_zero_iff.1 this]
    intro u hu; cases hu
  · intro u hu
    rw [← e] at hu
    exact hall u (by simpa using List.mem_of_mem_take hu)
set_option maxRecDepth 100000 in
set_option maxHeartbeats 4000000 in
theorem cloneL_any (w : World) (v : Value) (m : Nat) (xs : List Value) (h : OW w 39 1 v m xs) (h1 : ∀ u ∈ xs, u.oneCell' = true) (hm : m ≤ 100000) (h0 : m = 0 → v = .slice none 0 0) :
    Calls Tryd.prog 157 #[v] w fun e w' => (∃ v', e = .returned v' ∧ OW w' 39 1 v' m xs ∧ (∀ g, v'.ownBlock = some g → w.heap.size ≤ g) ∧ (m = 0 → v' = .slice none 0 0)) ∧ Below w.heap.size w w' := by
  have q22 := fun (w : World) (a : Option Addr) (n c n' c' : Nat) => Lib.run_eql_slice_nil (P := Tryd.prog) w _ _ a n c n' c' Tryd.underlying40
  obtain ⟨i0, hi, hz0, hz1, hz2⟩ := info_parts infoLL
  by_cases hm0 : m = 0
  · obtain rfl := h0 hm0
    have H := Lib.hid h
    clear h h0
    go_enter Tryd.func157, Tryd.ntmps157
    go_wp2
    go_ret
    exact ⟨⟨.slice none 0 0, rfl, H.out, (fun g hg => by cases hg), fun _ => rfl⟩, Below.refl _ _⟩
  · obtain ⟨g, cap, rfl, hcap, hlt, hcell, _⟩ := h.cell (by omega)
    have H := Lib.hid h
    have HC := Lib.hid hcell
    have HN := Lib.hid hm0
    have H1 := Lib.hid h1
    clear h h0 hcell hm0 h1
    go_enter Tryd.func157, Tryd.ntmps157
    go_wp2_with (at_builtin; refine wpList_append_ow rfl _ _ 40 rfl 39 1 24 (.slice none 0 0) i0 Tryd.underlying40 hi hz0 hz1 hz2 rfl no_sl (by decide) (by decide) (.slice (some ⟨w.heap.size, 0, none⟩) 0 0) 0 [] rfl (OW.made w _ _) ⟨g, 0, none⟩ m cap xs rfl (by rw [H.out.1]) ?qc2 H1.out (OW.oneU H.out) (by intro e; cases e) (by omega) ?_)
    case qc2 =>
      intro j u hj
      rw [Addr.add_lit, Nat.zero_add]
      exact Lib.cell?_alloc_some _ (HC.out j u hj)
    intro v' w1 hown hgr hdk hob
    have HB := Lib.hid (((Below.refl w.heap.size w).alloc (Nat.le_refl _) _).grown hgr (by simp) (by intro k hk; simp [Value.ownBlock] at hk; omega))
    have HO := Lib.hid (show OW w1 39 1 v' m xs by simpa using hown)
    have HG := Lib.hid (show ∀ g, v'.ownBlock = some g → w.heap.size ≤ g from fun g hg => by
      rcases hob with e | e
      · rw [hg] at e; simp [Value.ownBlock] at e; omega
      · rw [hg] at e; injection e with e; omega)
    clear hown hgr hdk hob
    go_wp2
    go_ret
    exact ⟨⟨v', rfl, HO.out, HG.out, fun h => absurd h HN.out⟩, HB.out⟩

theorem mstep_empty {n bits : Nat} {s : MS} {g : Nat → D} (h : emptyF g n = true) : mstep n bits s g = s := by unfold mstep; rw [if_pos h]
theorem mstep_hit {n bits i : Nat} {s : MS} {g : Nat → D} (h : emptyF g n = false) (hi : i < s.M) (h1 : firstA (fun i => alongF g (s.G i) n) i = i) (hp : alongF g (s.G i) n = true) :
    mstep n bits s g = ⟨s.M, updG s.G i (fun j => dblM (s.G i j) bits), fun j => mor (s.R j) (dblO (s.G i j) bits) bits⟩ := by
  have e : mfind s g n = i := firstA_hit h1 hp hi
  unfold mstep
  rw [if_neg (by rw [h]; decide), e, if_pos hi]
theorem mstep_new {n bits : Nat} {s : MS} {g : Nat → D} (h : emptyF g n = false) (h1 : firstA (fun i => alongF g (s.G i) n) s.M = s.M) : mstep n bits s g = ⟨s.M + 1, updG s.G s.M g, s.R⟩ := by
  have e : mfind s g n = s.M := h1
  unfold mstep
  rw [if_neg (by rw [h]; decide), e, if_neg (Nat.lt_irrefl _)]
/-- A row lies in neither of the two structs that are written. -/
def Away (w w0 : World) (A : Option Addr) (n : Nat) : Prop := ∀ b off s, A = some ⟨b, off, s⟩ → 0 < n → b ≠ w0.heap.size ∧ b ≠ w.heap.size + 1
theorem away_old {w w0 : World} {A : Option Addr} {n c : Nat} {f : Nat → D} (h : RDs w A n c f) (h1 : w.heap.size + 1 < w0.heap.size) : Away w w0 A n := fun b off s e h0 => by
  subst e
  have := h.lt h0
  exact ⟨by omega, by omega⟩
theorem away_new {w w0 : World} {g n : Nat} (h : w0.heap.size < g) (h1 : w.heap.size + 1 < w0.heap.size) : Away w w0 (some ⟨g, 0, none⟩) n := fun b off s e h0 => by
  injection e with e
  injection e with e
  exact ⟨by omega, by omega⟩
/-- What has been put together, in memory. -/
structure MF (w w0 : World) (Ac : Option Addr) (cc n : Nat) (s : MS) (AR : Option Addr) (cR : Nat) (v : Value) (xs : List Value) (wr : World) : Prop where
  bel : Below w0.heap.size w0 wr
  box : Bk wr w0.heap.size 42 #[.slice Ac n cc, v, .slice AR n cR]
  own : OW wr 39 1 v s.M xs
  gv : ∀ g, v.ownBlock = some g → w0.heap.size < g
  nil : s.M = 0 → v = .slice none 0 0
  r : RDs wr AR n cR s.R
  ro : Away w w0 AR n
  g : ∀ k, k < s.M → ∃ A c, xs[k]? = some (.slice A n c) ∧ RDs wr A n c (s.G k) ∧ Away w w0 A n
section
variable {w w0 wr : World} {Ac : Option Addr} {cc n : Nat} {s : MS} {AR : Option Addr} {cR : Nat} {v : Value} {xs : List Value}
theorem MF.below (h : MF w w0 Ac cc n s AR cR v xs wr) {w' : World} (hb : Below wr.heap.size wr w') : MF w w0 Ac cc n s AR cR v xs w' where
  bel := h.bel.trans (hb.mono h.bel.size)
  box := h.box.below hb
  own := h.own.below hb
  gv := h.gv
  nil := h.nil
  r := h.r.below hb
  ro := h.ro
  g := fun k hk => by
    obtain ⟨A, c, h1, h2, h3⟩ := h.g k hk
    exact ⟨A, c, h1, h2.below hb, h3⟩
theorem MF.form (h : MF w w0 Ac cc n s AR cR v xs wr) : ∃ VA vc, v = .slice VA s.M vc := by
  rcases h.own.2 with ⟨rfl, e⟩ | ⟨g, cap, cur, rfl, _⟩
  · exact ⟨none, 0, by rw [e]⟩
  · exact ⟨_, _, rfl⟩
theorem MF.one (h : MF w w0 Ac cc n s AR cR v xs wr) : ∀ u ∈ xs, u.oneCell' = true := by
  intro u hu
  obtain ⟨k, hk⟩ := List.mem_iff_getElem?.1 hu
  have hlt : k < s.M := by
    have h1 := (List.getElem?_eq_some_iff.1 hk).1
    rw [h.own.1, Nat.mul_one] at h1
    exact h1
  obtain ⟨A, c, h1, _⟩ := h.g k hlt
  rw [hk] at h1
  injection h1 with h1
  subst h1; rfl
theorem away_keep {A : Option Addr} {c : Nat} {f : Nat → D} {w1 w2 : World} (h : RDs w1 A n c f) (ha : Away w w0 A n) (hg : ∀ b, b < w1.heap.size → b ≠ w0.heap.size → w2.heap[b]? = w1.heap[b]?) (k : Dk w1 w2) : RDs w2 A n c f :=
  h.keep (fun b off s e h0 => by subst e; exact hg b (h.lt h0) (ha b off s rfl h0).1) k
theorem MF.round (h : MF w w0 Ac cc n s AR cR v xs wr) {AR' : Option Addr} {cR' : Nat} {R' : Nat → D} (hr : RDs wr AR' n cR' R') (ha : Away w w0 AR' n) :
    MF w w0 Ac cc n ⟨s.M, s.G, R'⟩ AR' cR' v xs (wr.setCell ⟨w0.heap.size, 2, none⟩ (.slice AR' n cR')) := by
  have dk : Dk wr (wr.setCell ⟨w0.heap.size, 2, none⟩ (.slice AR' n cR')) := (Dk.refl wr).set h.box 2 (by intro x h; cases h) _
  have hs : ∀ b, b < wr.heap.size → b ≠ w0.heap.size → (wr.setCell ⟨w0.heap.size, 2, none⟩ (.slice AR' n cR')).heap[b]? = wr.heap[b]? := fun b _ hb => same1 wr hb 2 _
  exact ⟨below_st h.bel 2 (Nat.le_refl _) _, h.box.set 2 _, h.own.st (fun g e => by have := h.gv g e; omega) 2 _, h.gv, h.nil, away_keep hr ha hs dk, ha, fun k hk => by
    obtain ⟨A, c, h1, h2, h3⟩ := h.g k hk
    exact ⟨A, c, h1, away_keep h2 h3 hs dk, h3⟩⟩
theorem OW.set1 {w : World} {g m cap : Nat} {xs : List Value} (h : OW w 39 1 (.slice (some ⟨g, 0, none⟩) m cap) m xs) {i : Nat} (hi : i < m) {u : Value} (hu : ∀ x : Int, u ≠ .int .u32 x) :
    OW (w.setCell ⟨g, i, none⟩ u) 39 1 (.slice (some ⟨g, 0, none⟩) m cap) m (xs.set i u) ∧ Dk w (w.setCell ⟨g, i, none⟩ u) := by
  rcases h.2 with ⟨e, _⟩ | ⟨g', cap', cur, e, h1, h2, hb, h3, h4, h5⟩
  · cases e
  · injection e with e1 e2 e3
    injection e1 with e1
    injection e1 with e1
    subst e1 e3
    have hsz : i < cur.size := by omega
    refine ⟨⟨by rw [List.length_set, h.1], .inr ⟨g, cap, _, rfl, h1, h2, hb.set i u, by rw [Array.size_setIfInBounds, h3], ?_, fun y hy => ?_⟩⟩, (Dk.refl w).set hb i (fun x hx => h5 _ (Array.mem_of_getElem? hx) x rfl) u⟩
    · rw [Array.toList_setIfInBounds, List.take_set, h4]
    · intro x
      obtain ⟨k, hk⟩ := Array.mem_iff_getElem?.1 hy
      rw [Array.getElem?_setIfInBounds] at hk
      split at hk
      · injection hk with hk; rw [← hk]; exact hu x
      · exact h5 y (Array.mem_of_getElem? hk) x
theorem MF.hit (h : MF w w0 Ac cc n s AR cR v xs wr) {w9 : World} {g' cap i : Nat} {A1 : Option Addr} {c1 : Nat} {y : Nat → D} (hc : Below wr.heap.size wr w9) (ho : OW w9 39 1 (.slice (some ⟨g', 0, none⟩) s.M cap) s.M xs) (hg : wr.heap.size ≤ g') (hi : i < s.M) (hr : RDs wr A1 n c1 y) (ha : Away w w0 A1 n) :
    MF w w0 Ac cc n ⟨s.M, updG s.G i y, s.R⟩ AR cR (.slice (some ⟨g', 0, none⟩) s.M cap) (xs.set i (.slice A1 n c1)) ((w9.setCell ⟨w0.heap.size, 1, none⟩ (.slice (some ⟨g', 0, none⟩) s.M cap)).setCell ⟨g', i, none⟩ (.slice A1 n c1)) := by
  have hbx := h.box.below hc
  have hlt := h.box.lt
  have ne : g' ≠ w0.heap.size := by omega
  have ho10 := ho.st (g' := w0.heap.size) (fun g e => by simp [Value.ownBlock] at e; omega) 1 (.slice (some ⟨g', 0, none⟩) s.M cap)
  have ho11 := ho10.set1 hi (u := .slice A1 n c1) (by intro x h; cases h)
  have dk : Dk wr ((w9.setCell ⟨w0.heap.size, 1, none⟩ (.slice (some ⟨g', 0, none⟩) s.M cap)).setCell ⟨g', i, none⟩ (.slice A1 n c1)) := ((Dk.below hc).trans ((Dk.refl w9).set hbx 1 (fun x e => own_no h.own x (Option.some.inj e)) _)).trans ho11.2
  have hs : ∀ b, b < wr.heap.size → b ≠ w0.heap.size → ((w9.setCell ⟨w0.heap.size, 1, none⟩ (.slice (some ⟨g', 0, none⟩) s.M cap)).setCell ⟨g', i, none⟩ (.slice A1 n c1)).heap[b]? = wr.heap[b]? := fun b hb hb2 =>
    ((same1 _ (show b ≠ g' by omega) i _).trans (same1 w9 hb2 1 _)).trans (hc.block b hb)
  have hbel := h.bel.trans (hc.mono h.bel.size)
  have hsz := h.bel.size
  refine ⟨below_st (below_st hbel 1 (Nat.le_refl _) _) i (by omega) _, (hbx.set 1 _).ne ne.symm i _, ho11.1, fun g e => by simp [Value.ownBlock] at e; omega, fun e => absurd hi (by show ¬ i < s.M; have : s.M = 0 := e; omega), away_keep h.r h.ro hs dk, h.ro, fun k hk => ?_⟩
  show ∃ A c, (xs.set i (.slice A1 n c1))[k]? = some (.slice A n c) ∧ RDs _ A n c (updG s.G i y k) ∧ Away w w0 A n
  by_cases e : k = i
  · subst e
    refine ⟨A1, c1, ?_, ?_, ha⟩
    · rw [List.getElem?_set_self (by rw [h.own.1]; omega)]
    · unfold updG; rw [if_pos rfl]; exact away_keep hr ha hs dk
  · obtain ⟨A, c, h1, h2, h3⟩ := h.g k hk
    refine ⟨A, c, ?_, ?_, h3⟩
    · rw [List.getElem?_set_ne (fun h => e h.symm)]; exact h1
    · unfold updG; rw [if_neg e]; exact away_keep h2 h3 hs dk
theorem MF.new (h : MF w w0 Ac cc n s AR cR v xs wr) {w9 wb w10 : World} {v' v'' : Value} {A1 : Option Addr} {c1 : Nat} {y : Nat → D} {o : Obj} (hc : Below wr.heap.size wr w9) (hg' : ∀ g, v'.ownBlock = some g → wr.heap.size ≤ g) (hwb : wb = w9.alloc o) (hgr : wb.grownBy w10 v'.ownBlock) (hk : Dk wb w10)
    (hob : v''.ownBlock = v'.ownBlock ∨ v''.ownBlock = some wb.heap.size) (hn : OW w10 39 1 v'' (s.M + 1) (xs ++ [.slice A1 n c1])) (hr : RDs wr A1 n c1 y) (ha : Away w w0 A1 n) :
    Bk w10 w0.heap.size 42 #[.slice Ac n cc, v, .slice AR n cR] ∧ MF w w0 Ac cc n ⟨s.M + 1, updG s.G s.M y, s.R⟩ AR cR v'' (xs ++ [.slice A1 n c1]) (w10.setCell ⟨w0.heap.size, 1, none⟩ v'') := by
  have hlt := h.box.lt
  have hb1 : Below wr.heap.size wr wb := by subst hwb; exact below_al hc _
  have hbx := h.box.below hb1
  have ne : some w0.heap.size ≠ v'.ownBlock := fun e => by have := hg' _ e.symm; omega
  have bk : Bk w10 w0.heap.size 42 #[.slice Ac n cc, v, .slice AR n cR] := (hgr.block _ hbx.lt ne).trans hbx
  have dk : Dk wr (w10.setCell ⟨w0.heap.size, 1, none⟩ v'') := ((Dk.below hb1).trans hk).trans ((Dk.refl w10).set bk 1 (fun x e => own_no h.own x (Option.some.inj e)) _)
  have hs : ∀ b, b < wr.heap.size → b ≠ w0.heap.size → (w10.setCell ⟨w0.heap.size, 1, none⟩ v'').heap[b]? = wr.heap[b]? := fun b hb hb2 =>
    ((same1 w10 hb2 1 _).trans (hgr.block b (Nat.lt_of_lt_of_le hb hb1.size) (fun e => by have := hg' _ e.symm; omega))).trans (hb1.block b hb)
  have hw1 : Below w0.heap.size w0 wb := h.bel.trans (hb1.mono h.bel.size)
  have hsz := hb1.size
  have hbel : Below w0.heap.size w0 w10 := hw1.grown hgr hw1.size (fun k e => by have := hg' k e; omega)
  have hgv : ∀ g, v''.ownBlock = some g → w0.heap.size < g := fun g e => by
    rcases hob with h1 | h1
    · have := hg' g (h1 ▸ e); omega
    · rw [e] at h1; injection h1 with h1; omega
  refine ⟨bk, below_st hbel 1 (Nat.le_refl _) _, bk.set 1 _, hn.st (fun g e => by have := hgv g e; omega) 1 _, hgv, fun e => absurd e (Nat.succ_ne_zero _), away_keep h.r h.ro hs dk, h.ro, fun k hk => ?_⟩
  show ∃ A c, (xs ++ [.slice A1 n c1])[k]? = some (.slice A n c) ∧ RDs _ A n c (updG s.G s.M y k) ∧ Away w w0 A n
  have hl : xs.length = s.M := by rw [h.own.1, Nat.mul_one]
  by_cases e : k = s.M
  · subst e
    refine ⟨A1, c1, ?_, ?_, ha⟩
    · rw [List.getElem?_append_right (by omega), hl, Nat.sub_self]; rfl
    · unfold updG; rw [if_pos rfl]; exact away_keep hr ha hs dk
  · obtain ⟨A, c, h1, h2, h3⟩ := h.g k (by have : k < s.M + 1 := hk; omega)
    refine ⟨A, c, ?_, ?_, h3⟩
    · rw [List.getElem?_append_left (by have : k < s.M + 1 := hk; omega)]; exact h1
    · unfold updG; rw [if_neg e]; exact away_keep h2 h3 hs dk
/-- The state ahead of a way. -/
def MrgRel (w w0 : World) (Ac : Option Addr) (cc : Nat) (z : Zo) (bits k : Nat) (wr : World) : Prop := ∃ AR cR v xs, MF w w0 Ac cc z.n (mergeS z bits k) AR cR v xs wr
end

theorem mrg_end {w w0 wr : World} {Ac Ag Ar AR VA : Option Addr} {cc cg cr cR vc : Nat} {z : Zo} {bits : Nat} {xs : List Value} (h : RZo w ⟨Ac, cc, Ag, cg, Ar, cr⟩ z) (hb0 : Below w.heap.size w w0) (h1 : w.heap.size + 1 < w0.heap.size) (hf : MF w w0 Ac cc z.n (mergeS z bits z.m) AR cR (.slice VA (mergeS z bits z.m).M vc) xs wr) (hm : z.m ≤ 12) (hbo : Bk wr (w.heap.size + 1) 42 #[.slice none 0 0, .slice none 0 0, .slice none 0 0]) (a b c : Value) :
    RZo (((wr.setCell ⟨w.heap.size + 1, 0, none⟩ a).setCell ⟨w.heap.size + 1, 1, none⟩ b).setCell ⟨w.heap.size + 1, 2, none⟩ c) ⟨Ac, cc, VA, vc, AR, cR⟩ (mergeZ z bits) ∧ (VA = none → vc = 0) := by
  have b1 := hbo.set 0 a
  have b2 := b1.set 1 b
  have hbw : Below w.heap.size w (((wr.setCell ⟨w.heap.size + 1, 0, none⟩ a).setCell ⟨w.heap.size + 1, 1, none⟩ b).setCell ⟨w.heap.size + 1, 2, none⟩ c) := below_st (below_st (below_st (below_tr hb0 hf.bel) 0 (by omega) _) 1 (by omega) _) 2 (by omega) _
  have dk : Dk wr (((wr.setCell ⟨w.heap.size + 1, 0, none⟩ a).setCell ⟨w.heap.size + 1, 1, none⟩ b).setCell ⟨w.heap.size + 1, 2, none⟩ c) := ((Dk.refl wr).set hbo 0 (by intro x h; cases h) a |>.set b1 1 (by intro x h; cases h) b).set b2 2 (by intro x h; cases h) c
  have hs : ∀ k, k ≠ w.heap.size + 1 → (((wr.setCell ⟨w.heap.size + 1, 0, none⟩ a).setCell ⟨w.heap.size + 1, 1, none⟩ b).setCell ⟨w.heap.size + 1, 2, none⟩ c).heap[k]? = wr.heap[k]? := fun k hk => ((same1 _ hk 2 c).trans (same1 _ hk 1 b)).trans (same1 _ hk 0 a)
  have hM : (mergeS z bits z.m).M ≤ 12 := by have := merge_le z bits z.m; omega
  refine ⟨⟨h.c.below hbw, ?_, hf.r.keep (fun b off s e h0 => hs b (hf.ro b off s e h0).2) dk⟩, fun e => ?_⟩
  · by_cases h0 : (mergeS z bits z.m).M = 0
    · have e := hf.nil h0
      rw [h0] at e
      injection e with e1 e2 e3
      subst e1 e3
      exact ⟨by show (mergeS z bits z.m).M ≤ 0; omega, by show (mergeS z bits z.m).M ≤ 1000000; omega, fun e => absurd e (by show ¬ 0 < (mergeS z bits z.m).M; omega)⟩
    · obtain ⟨g, cap, e, hc1, hlt, hcell, _⟩ := hf.own.cell (by omega)
      injection e with e1 e2 e3
      subst e1 e3
      have hgg := hf.gv g rfl
      refine ⟨hc1, by show (mergeS z bits z.m).M ≤ 1000000; omega, fun _ => ⟨g, 0, rfl, Nat.lt_of_lt_of_le hlt dk.1, fun k hk => ?_⟩⟩
      obtain ⟨A, c', h2, h3, h4⟩ := hf.g k hk
      refine ⟨A, c', ?_, h3.keep (fun b off s e h0 => hs b (h4 b off s e h0).2) dk⟩
      rw [Nat.zero_add]
      exact (World.cell?_of_block (a := ⟨g, k, none⟩) (hs g (by omega))).trans (hcell k _ h2)
  · by_cases h0 : (mergeS z bits z.m).M = 0
    · have e := hf.nil h0
      injection e
    · obtain ⟨g, cap, e2, _⟩ := hf.own.cell (by omega)
      injection e2 with e2
      rw [e] at e2
      cases e2

set_option maxRecDepth 100000 in
set_option maxHeartbeats 4000000 in
theorem merge_any (w : World) (Ac Ag Ar : Option Addr) (cc cg cr : Nat) (z : Zo) (bits : Nat) (E T : Nat) (h : RZo w ⟨Ac, cc, Ag, cg, Ar, cr⟩ z) (lz : z.Lim E T) (hm : z.m ≤ 12) (hET : E + T + 5 * z.m + 10 ≤ 16000) (hb2 : 2 ≤ bits) (hb3 : bits ≤ 4096) (ht : BTab w) :
    Calls Tryd.prog 112 #[.agg #[.slice Ac z.n cc, .slice Ag z.m cg, .slice Ar z.n cr], .int .i64 bits] w fun e w' => (∃ (Ag' : Option Addr) (cg' : Nat) (AR : Option Addr) (cR : Nat), e = .returned (.tuple #[.agg #[.slice Ac z.n cc, .slice Ag' (mergeS z bits z.m).M cg', .slice AR z.n cR], .int .i64 0]) ∧ RZo w' ⟨Ac, cc, Ag', cg', AR, cR⟩ (mergeZ z bits) ∧ (Ag' = none → cg' = 0)) ∧ Below w.heap.size w w' := by
  have HZ := Lib.hid h
  have LZ := Lib.hid lz
  have HT := Lib.hid ht
  have HGG := Lib.hid (show RDss w Ag z.m cg z.n z.g from h.g)
  have HRR := Lib.hid (show RDs w Ar z.n cr z.r from h.r)
  have n0 := h.c.2.1
  clear h lz ht
  have BX := Lib.hid (boxes2 w 42 #[.slice Ac z.n cc, .slice Ag z.m cg, .slice Ar z.n cr] 42 #[.slice none 0 0, .slice none 0 0, .slice none 0 0])
  go_enter Tryd.func112, Tryd.ntmps112
  go_wp2_with fail
  go_step3
  generalize (w.alloc (.cells #[.slice Ac z.n cc, .slice Ag z.m cg, .slice Ar z.n cr] 42)).alloc (.cells #[.slice none 0 0, .slice none 0 0, .slice none 0 0] 42) = w0 at *
  obtain ⟨b0, b1, hw⟩ := BX.out
  have BZ := Lib.hid b0
  have BO := Lib.hid b1
  have HB := Lib.hid hw
  clear BX b0 b1 hw
  have hs0 := HB.out.size
  have lo0 := BO.out.lt
  have lz0 := BZ.out.lt
  have cz0 := BZ.out.cell 0 rfl
  have cz1 := BZ.out.cell 1 rfl
  have cz2 := BZ.out.cell 2 rfl
  have H0 := Lib.hid (show MrgRel w w0 Ac cc z bits 0 (w0.alloc (.cells #[.slice Ac z.n cc, .slice none 0 0, .slice Ar z.n cr] 42)) from ⟨Ar, cr, .slice none 0 0, [], below_al (Below.refl _ _) _, Bk.new _ _ _, OW.nil _ _ _, (fun g e => by cases e), (fun _ => rfl), HRR.out.below (below_al HB.out _), away_old HRR.out lo0, fun k hk => absurd hk (Nat.not_lt_zero _)⟩)
  obtain ⟨i0, hi0, hz0, hz1, hz2⟩ := info_parts infoLL
  go_wp2_with fail
  go_step3
  go_wp2_with fail
  clear cz0 cz1 cz2
  go_loopw [22] (fun k wr => ∃ i : Nat, k = .int .i64 i ∧ i ≤ z.m ∧ Hid (MrgRel w w0 Ac cc z bits i wr)) (fun k _ => z.m - (intOf k).toNat)
  case atStart => exact ⟨0, rfl, Nat.zero_le _, H0⟩
  case round =>
    clear H0
    obtain ⟨k, rfl, hk, Hr⟩ := hrel
    by_cases hk2 : k < z.m
    · have q7 : (k : Int) < (z.m : Int) := by omega
      obtain ⟨AR, cR, v, xs, hmf⟩ := Hr.out
      obtain ⟨VA, vc, rfl⟩ := hmf.form
      have MF0 := Lib.hid hmf
      have HBW := Lib.hid (below_tr HB.out hmf.bel)
      have hM12 : (mergeS z bits k).M ≤ 12 := by have := merge_le z bits k; omega
      have LS := Lib.hid (merge_lim LZ.out bits k (by omega))
      clear hmf Hr
      obtain ⟨A1, o1, rfl, hl1, hcc⟩ := HGG.out.2.2 (by omega)
      obtain ⟨A2, c2, z0, hrow⟩ := hcc k hk2
      have x0 := (HBW.out.cell (p := ⟨A1, o1 + k, none⟩) hl1).trans z0
      have RO := Lib.hid hrow
      have AW := Lib.hid (away_old (w0 := w0) hrow lo0)
      have LG := Lib.hid (fun (j : Nat) (hj : j < z.n) => (LZ.out.g k j hk2 hj).mono (Nat.le_refl _) (show T ≤ T + 5 * k by omega))
      have es : mergeS z bits (k + 1) = mstep z.n bits (mergeS z bits k) (z.g k) := rfl
      have ES := Lib.hid es
      clear hcc z0 hrow es
      go_wp2_with fail
      refine (empty_any _ A2 z.n c2 (z.g k) (RO.out.below HBW.out)).mono ?_
      rintro e w5 ⟨rfl, hb⟩
      have MF5 := Lib.hid (MF0.out.below hb)
      have HB5 := Lib.hid (below_tr HBW.out hb)
      clear hb x0 MF0
      cases hem : emptyF (z.g k) z.n
      rotate_left
      · have HN := Lib.hid (show MrgRel w w0 Ac cc z bits (k + 1) w5 from ⟨AR, cR, _, xs, by rw [ES.out, mstep_empty hem]; exact MF5.out⟩)
        clear hem
        go_wp2
        go_roundw
        case rel => exact ⟨k + 1, by go_num, hk2, HN⟩
        case measure => simp only [intOf]; omega
      have HEM := Lib.hid hem
      clear hem
      have lox := MF5.out.box.lt
      have cb0 := MF5.out.box.cell 0 rfl
      have cb1 := MF5.out.box.cell 1 rfl
      have cb2 := MF5.out.box.cell 2 rfl
      have fb1 := MF5.out.box.free 1
      have fb2 := MF5.out.box.free 2
      have I0 := Lib.hid (show Below w5.heap.size w5 w5 ∧ firstA (fun i => alongF (z.g k) ((mergeS z bits k).G i) z.n) 0 = 0 from ⟨Below.refl _ _, rfl⟩)
      go_wp2_with fail
      clear lox cb0 cb1 cb2 fb1 fb2
      go_loopw [31] (fun k' wr => ∃ i : Nat, k' = .int .i64 i ∧ i ≤ (mergeS z bits k).M ∧ Hid (Below w5.heap.size w5 wr ∧ firstA (fun i => alongF (z.g k) ((mergeS z bits k).G i) z.n) i = i)) (fun k' _ => (mergeS z bits k).M - (intOf k').toNat)
      case atStart => exact ⟨0, rfl, Nat.zero_le _, I0⟩
      case round =>
        clear I0
        obtain ⟨i, rfl, hi, Hi⟩ := hrel
        have HBX := Lib.hid Hi.out.1
        have HFI := Lib.hid Hi.out.2
        have MFR := Lib.hid (MF5.out.below Hi.out.1)
        have HBR := Lib.hid (below_tr HB5.out Hi.out.1)
        clear Hi
        by_cases hi2 : i < (mergeS z bits k).M
        · have q8 : (i : Int) < ((mergeS z bits k).M : Int) := by omega
          obtain ⟨gv, capv, ev, hcv, hgl, hcell, _⟩ := MFR.out.own.cell (by omega)
          injection ev with ev1 ev2 ev3
          subst ev1 ev3
          obtain ⟨A3, c3, x3, r3, a3⟩ := MFR.out.g i hi2
          have x0 := hcell i _ x3
          have R3 := Lib.hid r3
          have LK := Lib.hid (fun (j : Nat) (hj : j < z.n) => LS.out.g i j hi2 hj)
          clear hcell x3 r3 a3 ev2
          go_wp2_with fail
          refine (along_any _ A2 A3 z.n c2 c3 (z.g k) ((mergeS z bits k).G i) E (T + 5 * k) (RO.out.below HBR.out) R3.out LG.out LK.out (by omega)).mono ?_
          rintro e w6 ⟨rfl, hb⟩
          have H6 := Lib.hid hb
          clear hb x0
          cases hal : alongF (z.g k) ((mergeS z bits k).G i) z.n
          · have HN := Lib.hid (show Below w5.heap.size w5 w6 ∧ firstA (fun i => alongF (z.g k) ((mergeS z bits k).G i) z.n) (i + 1) = i + 1 from ⟨below_tr HBX.out H6.out, firstA_miss HFI.out hal⟩)
            clear hal
            go_wp2
            go_roundw
            case rel => exact ⟨i + 1, by go_num, hi2, HN⟩
            case measure => simp only [intOf]; omega
          · have HAL := Lib.hid hal
            clear hal
            have MF6 := Lib.hid (MFR.out.below H6.out)
            have HB6 := Lib.hid (below_tr HBR.out H6.out)
            go_wp2_with fail
            refine (doubled_any _ A3 z.n c3 ((mergeS z bits k).G i) bits E (T + 5 * k) (R3.out.below H6.out) LK.out (by omega) hb2 hb3 (HT.out.below HB6.out)).mono ?_
            rintro e w7 ⟨⟨g1, g2, rfl, hg1, hg2, hd1, hd2⟩, hb⟩
            have MF7 := Lib.hid (MF6.out.below hb)
            have HB7 := Lib.hid (below_tr HB6.out hb)
            have lt6 : w0.heap.size < w6.heap.size := MF6.out.box.lt
            have OF := Lib.hid (hd2.read n0)
            have D7 := Lib.hid (hd1.read n0)
            have aw1 := away_new (w := w) (w0 := w0) (n := z.n) (show w0.heap.size < g1 by omega) lo0
            have AW1 := Lib.hid aw1
            clear hb hd1 hd2 aw1
            have lox := MF7.out.box.lt
            have cb0 := MF7.out.box.cell 0 rfl
            have cb1 := MF7.out.box.cell 1 rfl
            have cb2 := MF7.out.box.cell 2 rfl
            have fb1 := MF7.out.box.free 1
            have fb2 := MF7.out.box.free 2
            go_wp2_with fail
            clear lox cb0 cb1 cb2 fb1 fb2
            refine (rounder_any _ AR (some ⟨g2, 0, none⟩) z.n cR z.n (mergeS z bits k).R (fun j => dblO ((mergeS z bits k).G i j) bits) bits E (T + 5 * k + 3) MF7.out.r OF.out (fun j hj => (LS.out.r j hj).mono (Nat.le_refl _) (by omega)) (fun j hj => dblO_lim (LK.out j hj) bits) (by omega) hb2 hb3 (HT.out.below HB7.out)).mono ?_
            rintro e w8 ⟨⟨g3, rfl, hg3, hd3⟩, hb⟩
            have lt7 : w0.heap.size < w7.heap.size := MF7.out.box.lt
            have MF8 := Lib.hid (MF7.out.below hb)
            have H8 := Lib.hid ((MF7.out.below hb).round (hd3.read n0) (away_new (show w0.heap.size < g3 by omega) lo0))
            have D8 := Lib.hid (away_keep (w := w) (w0 := w0) (D7.out.below hb) AW1.out (fun b _ hb2 => same1 w8 hb2 2 (.slice (some ⟨g3, 0, none⟩) z.n z.n)) ((Dk.refl w8).set MF8.out.box 2 (by intro x h; cases h) _))
            have HB8 := Lib.hid (below_tr HB7.out hb)
            clear hb hd3
            have lox := MF8.out.box.lt
            have cb0 := MF8.out.box.cell 0 rfl
            have cb1 := MF8.out.box.cell 1 rfl
            have cb2 := MF8.out.box.cell 2 rfl
            have fb1 := MF8.out.box.free 1
            have fb2 := MF8.out.box.free 2
            go_wp2_with fail
            clear lox cb0 cb1 cb2 fb1 fb2
            generalize w8.setCell ⟨w0.heap.size, 2, none⟩ (.slice (some ⟨g3, 0, none⟩) z.n z.n) = w9 at *
            refine (cloneL_any _ (.slice (some ⟨gv, 0, none⟩) (mergeS z bits k).M vc) (mergeS z bits k).M xs H8.out.own H8.out.one (by omega) (fun e => by omega)).mono ?_
            rintro e w10 ⟨⟨v', rfl, ho, hg, _⟩, hb⟩
            obtain ⟨g4, cap4, rfl, hc4, hl4, hcell4, hfree4⟩ := ho.cell (by omega)
            have hg4 := hg g4 rfl
            have HN := Lib.hid (show MrgRel w w0 Ac cc z bits (k + 1) ((w10.setCell ⟨w0.heap.size, 1, none⟩ (.slice (some ⟨g4, 0, none⟩) (mergeS z bits k).M cap4)).setCell ⟨g4, i, none⟩ (.slice (some ⟨g1, 0, none⟩) z.n z.n)) from ⟨some ⟨g3, 0, none⟩, z.n, _, _, by rw [ES.out, mstep_hit HEM.out hi2 HFI.out HAL.out]; exact H8.out.hit hb ho hg4 hi2 D8.out AW1.out⟩)
            have HA := Lib.hid (H8.out.box.below hb)
            have lt9 : w0.heap.size < w9.heap.size := H8.out.box.lt
            have ne4 : g4 ≠ w0.heap.size := by omega
            have ne5 : w0.heap.size ≠ g4 := by omega
            obtain ⟨A4, c4, x4, _, _⟩ := H8.out.g i hi2
            have x5 := hcell4 i _ x4
            have f5 := hfree4 i
            have lox := HA.out.lt
            have cb1 := HA.out.cell 1 rfl
            have fb1 := HA.out.free 1
            clear ho hg hcell4 hfree4 x4 hb
            go_wp2
            go_roundw
            case rel => exact ⟨k + 1, by go_num, hk2, HN⟩
            case measure => simp only [intOf]; omega
        · obtain rfl : i = (mergeS z bits k).M := by omega
          clear hi2
          have lox := MFR.out.box.lt
          have cb0 := MFR.out.box.cell 0 rfl
          have cb1 := MFR.out.box.cell 1 rfl
          have cb2 := MFR.out.box.cell 2 rfl
          have fb1 := MFR.out.box.free 1
          have fb2 := MFR.out.box.free 2
          go_wp2_with fail
          clear lox cb0 cb1 cb2 fb1 fb2
          refine (cloneL_any _ (.slice VA (mergeS z bits k).M vc) (mergeS z bits k).M xs MFR.out.own MFR.out.one (by omega) MFR.out.nil).mono ?_
          rintro e w6 ⟨⟨v', rfl, ho, hg, hnil⟩, hb⟩
          have HO := Lib.hid (ho.al (.cells #[.slice A2 z.n c2] 39))
          have HG := Lib.hid hg
          have H6 := Lib.hid hb
          have HNW := Lib.hid (new_row0 w6 [.slice A2 z.n c2] 39)
          have RO2 := Lib.hid (RO.out.below HBR.out)
          clear ho hg hb hnil
          go_wp2_with (at_builtin; refine wpList_append_ow rfl _ _ 40 rfl 39 1 24 (.slice none 0 0) i0 Tryd.underlying40 hi0 hz0 hz1 hz2 rfl no_sl (by decide) (by decide) v' (mergeS z bits k).M xs rfl HO.out ⟨w6.heap.size, 0, none⟩ 1 1 [.slice A2 z.n c2] rfl rfl HNW.out one1 no1 (fun _ => by decide) (by omega) ?_)
          intro v'' w7 hown hgr hdk hob
          obtain ⟨g5, cap5, rfl, _, _, _, _⟩ := hown.cell (by omega)
          have HX := Lib.hid (MFR.out.new H6.out HG.out rfl hgr hdk (by rw [World.size_alloc]; exact hob) hown RO2.out AW.out)
          have HN := Lib.hid (show MrgRel w w0 Ac cc z bits (k + 1) (w7.setCell ⟨w0.heap.size, 1, none⟩ (.slice (some ⟨g5, 0, none⟩) ((mergeS z bits k).M + 1) cap5)) from ⟨AR, cR, _, _, by rw [ES.out, mstep_new HEM.out HFI.out]; exact HX.out.2⟩)
          have lox := HX.out.1.lt
          have cb1 := HX.out.1.cell 1 rfl
          have fb1 := HX.out.1.free 1
          clear hown hgr hdk hob HX HO HNW
          go_wp2
          go_roundw
          case rel => exact ⟨k + 1, by go_num, hk2, HN⟩
          case measure => simp only [intOf]; omega
    · obtain rfl : k = z.m := by omega
      clear hk2
      obtain ⟨AR, cR, v, xs, hmf⟩ := Hr.out
      obtain ⟨VA, vc, rfl⟩ := hmf.form
      have MF0 := Lib.hid hmf
      have HBW := Lib.hid (below_tr HB.out hmf.bel)
      have BO2 := Lib.hid (BO.out.below hmf.bel)
      have HE := Lib.hid (mrg_end HZ.out HB.out lo0 hmf hm BO2.out (.slice Ac z.n cc) (.slice VA (mergeS z bits z.m).M vc) (.slice AR z.n cR))
      clear hmf Hr
      have lox := MF0.out.box.lt
      have cb0 := MF0.out.box.cell 0 rfl
      have cb1 := MF0.out.box.cell 1 rfl
      have cb2 := MF0.out.box.cell 2 rfl
      have fb1 := MF0.out.box.free 1
      have fb2 := MF0.out.box.free 2
      have lo2 := BO2.out.lt
      obtain ⟨co0, co1, co2⟩ := BO2.out.cells3
      have fo0 := BO2.out.free 0
      have fo1 := BO2.out.free 1
      have fo2 := BO2.out.free 2
      go_wp2
      rw [Exit.noGoto_ret]
      refine bodyPost_ret (v := .tuple #[.agg #[.slice Ac z.n cc, .slice VA (mergeS z bits z.m).M vc, .slice AR z.n cR], .int .i64 0]) ?_ rfl ?_
      · simp [results, Tryd.f112, go_sem, co0, co1, co2]
      · exact ⟨⟨VA, vc, AR, cR, rfl, HE.out.1, HE.out.2⟩, below_st (below_st (below_st HBW.out 0 (by omega) _) 1 (by omega) _) 2 (by omega) _⟩

end Go.Proofs.YtgioppkggpfnoaaDoor.Nu
end

section
/- The set of three ways that layer 17's statements make of fewer ways ahead of all else: what comes of it. No program in sight. -/
namespace Go.Proofs.YtgioppkggpfnoaaDoor.Nu

def fwOne : Nat → D := fun _ => D.mk' 1 0
def fwTwo : Nat → D := fun i => if i = 0 then D.mk' 1 (-2) else D.zero
def fwZ : Zo := ⟨2, fun _ => D.zero, 3, fun k => if k = 1 then fwTwo else fwOne, fun _ => D.zero⟩
theorem fw_s0 : (spr fwZ 30 0).val = 1 := by decide +kernel
theorem fw_s1 : (spr fwZ 30 1).val = 0 := by decide +kernel
theorem fw_s2 : (spr fwZ 30 2).val = 1 := by decide +kernel
theorem fw_spr (k : Nat) (hk : k < 3) : (spr fwZ 30 k).val = if k = 1 then 0 else 1 := by
  match k, hk with
  | 0, _ => exact fw_s0
  | 1, _ => exact fw_s1
  | 2, _ => exact fw_s2
theorem fw_sig : sigU fwZ 30 0 = 1 := by
  obtain ⟨j, hj, e⟩ := srt_onto (swo_up (spr fwZ 30)) (n := 3) (j := 1) (by omega)
  have e' : sigU fwZ 30 j = 1 := e
  by_cases h0 : j = 0
  · subst h0; exact e'
  · have h1 := sigU_sorted fwZ 30 (i := 0) (j := j) (by omega) (by show j < 3; exact hj)
    rw [e', fw_s1, fw_spr _ (sigU_lt fwZ 30 (by show 0 < 3; omega))] at h1
    split at h1
    · assumption
    · exact absurd h1 (by decide +kernel)
/-- The one place that is more. -/
theorem fw_round : ((redZ fwZ 1 30).r 0).cmp (D.mk' 1 (-2)) = 0 := by
  have e : (redZ fwZ 1 30).r 0 = mor D.zero (fwZ.g (sigU fwZ 30 0) 0) 30 := rfl
  rw [e, fw_sig]
  decide +kernel
theorem fw_norm : (spr fwZ 30 (sigD fwZ 30 0)).cmp (D.mk' 1 0) = 0 := by
  refine cmp_zero_iff.2 ?_
  rw [fw_spr _ (sigD_lt fwZ 30 (by show 0 < 3; omega))]
  split
  · rename_i h
    obtain ⟨j, hj, e⟩ := srt_onto (swo_down (spr fwZ 30)) (n := 3) (j := 0) (by omega)
    have e' : sigD fwZ 30 j = 0 := e
    have hj0 : j ≠ 0 := by rintro rfl; rw [h] at e'; omega
    have h1 := sigD_sorted fwZ 30 (i := 0) (j := j) (by omega) (by show j < 3; exact hj)
    rw [e', h, fw_s0, fw_s1] at h1
    exact absurd h1 (by decide +kernel)
  · decide +kernel
theorem fw_merge : (mergeZ fwZ 30).m = 2 := by decide +kernel
theorem fw_merge0 : ((mergeZ fwZ 30).g 0 0).cmp (D.mk' 2 0) = 0 := by decide +kernel
theorem fw_lim : fwZ.Lim 2 1 where
  c := fun _ _ => zero_lim _ _
  g := fun k i _ _ => by
    show (if k = 1 then fwTwo else fwOne) i |>.Lim 2 1
    split
    · show (if i = 0 then D.mk' 1 (-2) else D.zero).Lim 2 1
      split
      · exact ⟨by decide +kernel, by decide +kernel⟩
      · exact zero_lim _ _
    · show (D.mk' 1 0).Lim 2 1
      exact ⟨by decide +kernel, by decide +kernel⟩
  r := fun _ _ => zero_lim _ _
end Go.Proofs.YtgioppkggpfnoaaDoor.Nu
end

section
/- The set of three ways in memory, and what package reduce makes of it there. -/
set_option linter.unusedVariables false
namespace Go.Proofs.YtgioppkggpfnoaaDoor.Nu
open Go.RowKit Go.Proofs

theorem make_2 (w : World) : (Instr.makeSlice 39 (.int .i64 2) (.int .i64 2)).run Tryd.prog w = .ok (.slice (some ⟨w.heap.size, 0, none⟩) 2 2) (w.alloc (.cells (mkD 2) 53)) := make_D 2 (by omega) w
/-- The set's struct, its three lists. -/
def FewMem (w : World) (a b gz g1 gg g2 : Nat) (wx : World) : Prop :=
  Bk wx gz 42 #[.slice (some ⟨g1, 0, none⟩) 2 2, .slice (some ⟨gg, 0, none⟩) 3 3, .slice (some ⟨g2, 0, none⟩) 2 2] ∧ OD wx g1 2 (fun _ => D.zero) ∧ OD wx g2 2 (fun _ => D.zero) ∧ Bk wx gg 39 #[.slice (some ⟨a, 0, none⟩) 2 2, .slice (some ⟨b, 0, none⟩) 2 2, .slice (some ⟨a, 0, none⟩) 2 2] ∧ Below w.heap.size w wx
theorem four0 {w : World} {o1 o2 o3 : Obj} {t : TypeId} {cs : Array Value} : Bk ((((w.alloc (.cells cs t)).alloc o1).alloc o2).alloc o3).drew w.heap.size t cs := ((((Bk.new w t cs).alloc _).alloc _).alloc _).drew
theorem four1 {w : World} {o0 o2 o3 : Obj} {t : TypeId} {cs : Array Value} : Bk ((((w.alloc o0).alloc (.cells cs t)).alloc o2).alloc o3).drew (w.heap.size + 1) t cs := (((Bk.new_1 w _ t cs).alloc _).alloc _).drew
theorem four2 {w : World} {o0 o1 o3 : Obj} {t : TypeId} {cs : Array Value} : Bk ((((w.alloc o0).alloc o1).alloc (.cells cs t)).alloc o3).drew (w.heap.size + 1 + 1) t cs := ((Bk.new_2 w _ _ t cs).alloc _).drew
theorem four3 {w : World} {o0 o1 o2 : Obj} {t : TypeId} {cs : Array Value} : Bk ((((w.alloc o0).alloc o1).alloc o2).alloc (.cells cs t)).drew (w.heap.size + 1 + 1 + 1) t cs := (Bk.new_3 w _ _ _ t cs).drew
theorem four_b {w : World} {o0 o1 o2 o3 : Obj} : Below w.heap.size w ((((w.alloc o0).alloc o1).alloc o2).alloc o3).drew := below_dr (below_al (below_al (below_al (below_al (Below.refl _ _) _) _) _) _)
theorem od_two {w : World} {g : Nat} (h : Bk w g 53 (mkD 2)) : OD w g 2 (fun _ => D.zero) := ⟨_, h, fun j _ => ⟨Q.nil, rfl, rfl, rfl, RD.zero _⟩⟩
theorem few_mk {w wx : World} {a b gz g1 gg g2 : Nat} (h1 : Bk wx gz 42 #[.slice (some ⟨g1, 0, none⟩) 2 2, .slice (some ⟨gg, 0, none⟩) 3 3, .slice (some ⟨g2, 0, none⟩) 2 2]) (h2 : OD wx g1 2 (fun _ => D.zero)) (h3 : OD wx g2 2 (fun _ => D.zero)) (h4 : Bk wx gg 39 #[.slice (some ⟨a, 0, none⟩) 2 2, .slice (some ⟨b, 0, none⟩) 2 2, .slice (some ⟨a, 0, none⟩) 2 2]) (h5 : Below w.heap.size w wx) : FewMem w a b gz g1 gg g2 wx := ⟨h1, h2, h3, h4, h5⟩
theorem two_row {w : World} {g : Nat} {p q : Q} {a b : D} {f : Nat → D} (h : Bk w g 53 #[.bool p.b, .slice p.A p.n p.c, .int .i64 a.x, .bool q.b, .slice q.A q.n q.c, .int .i64 b.x]) (hp : RD w p a) (hq : RD w q b) (e0 : f 0 = a) (e1 : f 1 = b) : RDs w (some ⟨g, 0, none⟩) 2 2 f := by
  refine ⟨Nat.le_refl _, by omega, fun _ => ⟨g, 0, rfl, h.lt, fun j hj => ?_⟩⟩
  obtain rfl | rfl : j = 0 ∨ j = 1 := by omega
  · rw [e0]; exact ⟨p, h.cell 0 rfl, h.cell 1 rfl, h.cell 2 rfl, hp⟩
  · rw [e1]; exact ⟨q, h.cell 3 rfl, h.cell 4 rfl, h.cell 5 rfl, hq⟩
theorem few_set {w wx : World} {a b gz g1 gg g2 : Nat} (h : FewMem w a b gz g1 gg g2 wx) (h1 : RDs w (some ⟨a, 0, none⟩) 2 2 fwOne) (h2 : RDs w (some ⟨b, 0, none⟩) 2 2 fwTwo) : RZo wx ⟨some ⟨g1, 0, none⟩, 2, some ⟨gg, 0, none⟩, 3, some ⟨g2, 0, none⟩, 2⟩ fwZ := by
  obtain ⟨bz, o1, o2, bg, hb⟩ := h
  refine ⟨o1.read (by omega), ⟨Nat.le_refl _, by decide, fun _ => ⟨gg, 0, rfl, bg.lt, fun k hk => ?_⟩⟩, o2.read (by omega)⟩
  have hk3 : k < 3 := hk
  obtain rfl | rfl | rfl : k = 0 ∨ k = 1 ∨ k = 2 := by omega
  · exact ⟨_, _, bg.cell 0 rfl, h1.below hb⟩
  · exact ⟨_, _, bg.cell 1 rfl, h2.below hb⟩
  · exact ⟨_, _, bg.cell 2 rfl, h1.below hb⟩
theorem order_fw (w : World) (g1 gg g2 : Nat) (h : RZo w ⟨some ⟨g1, 0, none⟩, 2, some ⟨gg, 0, none⟩, 3, some ⟨g2, 0, none⟩, 2⟩ fwZ) (ht : BTab w) :
    Calls Tryd.prog 56 #[.agg #[.slice (some ⟨g1, 0, none⟩) 2 2, .slice (some ⟨gg, 0, none⟩) 3 3, .slice (some ⟨g2, 0, none⟩) 2 2], .int .i64 1, .int .i64 30] w fun e w' => (∃ (Ag' : Option Addr) (cg' : Nat) (AR : Option Addr) (cR : Nat), e = .returned (.tuple #[.agg #[.slice (some ⟨g1, 0, none⟩) 2 2, .slice Ag' 2 cg', .slice AR 2 cR], .int .i64 0]) ∧ RZo w' ⟨some ⟨g1, 0, none⟩, 2, Ag', cg', AR, cR⟩ (redZ fwZ 1 30)) ∧ Below w.heap.size w w' :=
  (order_any w _ _ _ _ _ _ fwZ 1 2 1 30 2 1 h fw_lim (by omega) rfl rfl (by omega) (by show 3 ≤ 12; omega) (by show 2 + 1 + 2 * 2 + 2 * 3 + 8 ≤ 16000; omega) (by omega) (by omega) ht).mono fun e w' ⟨⟨Ag', cg', AR, cR, he, hz, _⟩, hb⟩ => ⟨⟨Ag', cg', AR, cR, he, hz⟩, hb⟩
theorem merge_fw (w : World) (g1 gg g2 : Nat) (h : RZo w ⟨some ⟨g1, 0, none⟩, 2, some ⟨gg, 0, none⟩, 3, some ⟨g2, 0, none⟩, 2⟩ fwZ) (ht : BTab w) :
    Calls Tryd.prog 112 #[.agg #[.slice (some ⟨g1, 0, none⟩) 2 2, .slice (some ⟨gg, 0, none⟩) 3 3, .slice (some ⟨g2, 0, none⟩) 2 2], .int .i64 30] w fun e w' => (∃ (Ag' : Option Addr) (cg' : Nat) (AR : Option Addr) (cR : Nat), e = .returned (.tuple #[.agg #[.slice (some ⟨g1, 0, none⟩) 2 2, .slice Ag' 2 cg', .slice AR 2 cR], .int .i64 0]) ∧ RZo w' ⟨some ⟨g1, 0, none⟩, 2, Ag', cg', AR, cR⟩ (mergeZ fwZ 30)) ∧ Below w.heap.size w w' :=
  (merge_any w _ _ _ _ _ _ fwZ 30 2 1 h fw_lim (by show 3 ≤ 12; omega) (by show 2 + 1 + 5 * 3 + 10 ≤ 16000; omega) (by omega) (by omega) ht).mono fun e w' ⟨⟨Ag', cg', AR, cR, he, hz, _⟩, hb⟩ => ⟨⟨Ag', cg', AR, cR, by rw [show (mergeS fwZ 30 fwZ.m).M = 2 from fw_merge] at he; exact he, hz⟩, hb⟩
theorem norm_fw (w : World) (g1 gg g2 : Nat) (h : RZo w ⟨some ⟨g1, 0, none⟩, 2, some ⟨gg, 0, none⟩, 3, some ⟨g2, 0, none⟩, 2⟩ fwZ) (ht : BTab w) :
    Calls Tryd.prog 55 #[.agg #[.slice (some ⟨g1, 0, none⟩) 2 2, .slice (some ⟨gg, 0, none⟩) 3 3, .slice (some ⟨g2, 0, none⟩) 2 2], .int .i64 30] w fun e w' => (∃ (A : Option Addr) (c : Nat), e = .returned (.tuple #[.slice A 3 c, .int .i64 0]) ∧ RDs w' A 3 c (fun k => spr fwZ 30 (sigD fwZ 30 k))) ∧ Below w.heap.size w w' :=
  norm_any w _ _ _ _ _ _ fwZ 30 2 1 h fw_lim (by show 3 ≤ 12; omega) (by show 2 + 1 + 2 * 2 + 4 ≤ 16000; omega) (by omega) (by omega) ht
set_option maxRecDepth 100000 in
set_option maxHeartbeats 4000000 in
theorem order_neg (w : World) (a b c : Value) :
    Calls Tryd.prog 56 #[.agg #[a, b, c], .int .i64 (-1), .int .i64 30] w fun e w' => e = .returned (.tuple #[.agg #[.slice none 0 0, .slice none 0 0, .slice none 0 0], .int .i64 32]) ∧ Below w.heap.size w w' := by
  have BX := Lib.hid (boxes2 w 42 #[a, b, c] 42 #[.slice none 0 0, .slice none 0 0, .slice none 0 0])
  go_enter Tryd.func56, Tryd.ntmps56
  go_wp2_with fail
  refine bodyPost_ret (v := .tuple #[.agg #[.slice none 0 0, .slice none 0 0, .slice none 0 0], .int .i64 32]) ?_ rfl ?_
  · simp [results, Tryd.f56, go_sem]
  · exact ⟨rfl, BX.out.2.2⟩
end Go.Proofs.YtgioppkggpfnoaaDoor.Nu
end
