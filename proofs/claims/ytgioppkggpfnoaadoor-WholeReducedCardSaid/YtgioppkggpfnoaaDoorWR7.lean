/- Texts of the seat, laid together: WRedM, WRed, RowKit, RowA. -/
import Derived.Test.YtgioppkggpfnoaaDoorWR6
import Derived.Deep.RegionHeld3
import Derived.RegionTactic
import Derived.StillTailTactics
import Derived.Deep.DeepCutAuto
import Derived.Deep.CutBlock
import Derived.Test.YtgioppkggpfnoaaDoorCards
import Derived.Test.YtgioppkggpfnoaaDoorTie
import Derived.WalkKit
import Derived.ProofKit
import Derived.OpenShut
import Derived.Below
import Derived.ChangeSame
import Derived.Deep.DeepHandedRow
import Derived.Deep.DeepWitnessRowRef
import Derived.Lib.LaidTab
import Derived.ChangeArms
import Derived.WideKeyArgs
import Derived.ChangeSlices
set_option linter.all false
set_option exponentiation.threshold 20000
section
/- WholeReduced: the lists that are looked through, in memory; an append as one step of a region that draws; two points as sets. -/
set_option linter.unusedVariables false
namespace Go.Proofs.YtgioppkggpfnoaaDoor.Nu
open Go.RowKit Go.Proofs

/-- An append of a list, nil or not, to a row of the call's own: one step of a region. -/
theorem step_append_ow {ops : Array Oper} {o : Oper} {a : Act} {w : World} {K : Act → World → Prop} {Q : Exit → Act → World → Prop} {E' : Prop} (hgd : o.guard = none) (s x : Operand)
    (ho : o.op = .call { callee := .builtin .append, args := #[s, x], argTypes := #[40, 40] })
    (v : Value) (m : Nat) (xs : List Value) (hs : a.eval s = v) (hown : OW w 39 1 v m xs) (hm0 : 0 < m) (A : Option Addr) (n c : Nat) (news : List Value) (hx : a.eval x = .slice A n c) (hA : A = none → c = 0) (hnc : n ≤ c) (hl : news.length = n)
    (hnews : ∀ ad, A = some ad → ∀ j u, news[j]? = some u → w.cell? (ad.add j) = some u) (h1 : ∀ u ∈ news, u.oneCell' = true) (hnn : ∀ u ∈ news, ∀ x : Int, u ≠ .int .u32 x) (hm : m + n ≤ 1000000)
    (h : ∀ v' w', OW w' 39 1 v' (m + n) (xs ++ news) → w.grownBy w' v.ownBlock → Dk w w' → (v'.ownBlock = v.ownBlock ∨ v'.ownBlock = some w.heap.size) → K (a.put o.dst v') w') :
    if Region.wanted o (yielded ops a.tmps) = true then Oper.wp Tryd.prog o a w K Q else E' := by
  have hw : Region.wanted o (yielded ops a.tmps) = true := by simp [Region.wanted, hgd]
  rw [if_pos hw]
  obtain ⟨i0, hi, hz0, hz1, hz2⟩ := info_parts infoLL
  cases A with
  | none =>
    have hc0 := hA rfl
    have hn0 : n = 0 := by omega
    subst hc0
    subst hn0
    have hnw : news = [] := List.length_eq_zero_iff.1 hl
    subst hnw
    obtain ⟨g, cap, rfl, hcap, _⟩ := hown.cell hm0
    have hr : (Builtin.append_ #[40, 40] o.type #[.slice (some ⟨g, 0, none⟩) m cap, .slice none 0 0]).run Tryd.prog w = .ok (.slice (some ⟨g, 0, none⟩) m cap) w := by
      have hf := run_firstCells_none (P := Tryd.prog)
      simp [Builtin.append_, run_underlying Tryd.underlying40, sizeOf, typeInfo, hi, hz1, Builtin.lenOf, hcap, run_firstCells_none, storeCells]
    have hk := h _ w (by simpa using hown) (World.grownBy.refl _ _) (Dk.refl w) (.inl rfl)
    unfold Oper.wp
    simp [execOp, ho, resolve, invoke, builtin, hs, hx, hr, Result.andThen]
    exact hk
  | some ad =>
    obtain ⟨v', w', hr, h2, h3, h4, h5⟩ := run_append_ow w 40 o.type 39 1 24 (.slice none 0 0) i0 Tryd.underlying40 hi hz0 hz1 hz2 rfl no_sl (by decide) (by decide) v m xs hown ad n c news (by rw [hl, Nat.mul_one]) (hnews ad rfl) h1 hnn (fun e => by subst e; rcases hown.2 with ⟨_, e⟩ | ⟨g, cap, cur, e, _⟩ <;> first | omega | cases e) hm
    unfold Oper.wp
    simp [execOp, ho, resolve, invoke, builtin, hs, hx, hr, Result.andThen]
    exact h v' w' h2 h3 h4 h5
/-- The rows of a list of rows that came in. -/
theorem raw_rows {w : World} {A : Option Addr} {m c : Nat} (h : RawR w A m c) : ∃ news : List Value, news.length = m ∧
    (∀ k, k < m → ∃ A' n' c', news[k]? = some (.slice A' n' c') ∧ (∃ b off, A = some ⟨b, off, none⟩ ∧ w.cell? ⟨b, off + k, none⟩ = some (.slice A' n' c')) ∧ RawD w A' n' c') ∧
    (∀ u ∈ news, u.oneCell' = true) ∧ (∀ u ∈ news, ∀ x : Int, u ≠ .int .u32 x) ∧ ∀ ad, A = some ad → ∀ (j : Nat) u, news[j]? = some u → (ad.add j).block < w.heap.size ∧ w.cell? (ad.add j) = some u := by
  cases A with
  | none =>
    have h0 : m = 0 := by
      false_or_by_contra
      obtain ⟨b, off, e, _⟩ := h.2.2 (by omega)
      cases e
    subst h0
    exact ⟨[], rfl, (fun k hk => absurd hk (by omega)), (fun u hu => by cases hu), (fun u hu => by cases hu), fun ad e => by cases e⟩
  | some ad =>
    obtain ⟨news, h1, h2, h3, h4⟩ := raw_news h
    refine ⟨news, h1, h2, h3, fun u hu => ?_, fun ad' e => by injection e with e; subst e; exact h4⟩
    obtain ⟨k, hk⟩ := List.mem_iff_getElem?.1 hu
    have hlt := (List.getElem?_eq_some_iff.1 hk).1
    obtain ⟨A', n', c', e, _⟩ := h2 k (by omega)
    rw [hk] at e
    injection e with e
    subst e
    intro x h; cases h
theorem rows_at {w w' : World} {A : Option Addr} {news : List Value} (h : ∀ ad, A = some ad → ∀ (j : Nat) u, news[j]? = some u → (ad.add j).block < w.heap.size ∧ w.cell? (ad.add j) = some u) (hb : Below w.heap.size w w') : ∀ ad, A = some ad → ∀ (j : Nat) u, news[j]? = some u → w'.cell? (ad.add j) = some u :=
  fun ad e j u hj => (hb.cell (h ad e j u hj).1).trans (h ad e j u hj).2
/-- The rows that are looked through, one behind the other. -/
def WMem (w : World) (xs : List Value) (g : Nat) (wx : World) : Prop := Below w.heap.size w wx ∧ g < wx.heap.size ∧ ∀ (k : Nat) u, xs[k]? = some u → wx.cell? ⟨g, k, none⟩ = some u
theorem OW.five (w : World) (a b c d e : Option Addr) (n1 n2 n3 n4 n5 m1 m2 m3 m4 m5 : Nat) : OW (w.alloc (.cells #[.slice a n1 m1, .slice b n2 m2, .slice c n3 m3, .slice d n4 m4, .slice e n5 m5] 39)) 39 1 (.slice (some ⟨w.heap.size, 0, none⟩) 5 5) 5 [.slice a n1 m1, .slice b n2 m2, .slice c n3 m3, .slice d n4 m4, .slice e n5 m5] := by
  refine ⟨rfl, .inr ⟨w.heap.size, 5, _, rfl, Nat.le_refl _, by unfold maxLen; omega, alloc_top w _, rfl, rfl, ?_⟩⟩
  intro u hu x
  have hu' : u ∈ ([Value.slice a n1 m1, .slice b n2 m2, .slice c n3 m3, .slice d n4 m4, .slice e n5 m5] : List Value) := by simpa using hu
  simp only [List.mem_cons, List.not_mem_nil, or_false] at hu'
  rcases hu' with rfl | rfl | rfl | rfl | rfl <;> intro h <;> cases h
/-- What is said of a set whose rows have all been looked at. -/
theorem set_sm {w w0 wr : World} {Ac Ag Ar : Option Addr} {nc cc m cg nr cr n : Nat} {news : List Value} (hw : Below w.heap.size w wr) (h0 : Below w0.heap.size w0 wr) (hG : RawR w Ag m cg) (hG0 : RawR w0 Ag m cg) (hz : ZOK Ac Ag Ar nc cc m cg nr cr w0 n)
    (hn : ∀ k, k < m → ∃ A' n' c', news[k]? = some (.slice A' n' c') ∧ (∃ b off, Ag = some ⟨b, off, none⟩ ∧ w.cell? ⟨b, off + k, none⟩ = some (.slice A' n' c')) ∧ RawD w A' n' c')
    (h1 : SmRow w Ac nc cc) (h2 : SmRow w Ar nr cr) (h3 : ∀ k A' n' c', k < m → news[k]? = some (.slice A' n' c') → SmRow w A' n' c') (k1 : 1 ≤ n) (k4 : n ≤ 4) (k7 : m ≤ 7) : Fits wr Ac Ag Ar nc cc m cg nr cr n := by
  refine fits_of hw h0 hG hG0 hz (fun k' hk' A' n' c' hR => SmRow.below ?_ hw) k1 k4 k7
  rcases hR with ⟨_, rfl, rfl, rfl⟩ | ⟨_, rfl, rfl, rfl⟩ | ⟨e, b, off, hA, hc⟩
  · exact h1
  · exact h2
  · obtain ⟨A2, n2, c2, e1, ⟨b2, off2, e2, e3⟩, _⟩ := hn (k' - 2) (by omega)
    rw [hA] at e2
    injection e2 with e2
    injection e2 with e4 e5
    subst e4 e5
    rw [hc] at e3
    injection e3 with e3
    injection e3 with e6 e7 e8
    subst e6 e7 e8
    exact h3 (k' - 2) _ _ _ (by omega) e1
theorem way_len {w4 w5 : World} {Ac Ag Ar : Option Addr} {nc cc m cg nr cr n k : Nat} (hb : Below w4.heap.size w4 w5) (hG : RawR w4 Ag m cg) (hz : ZOK Ac Ag Ar nc cc m cg nr cr w4 n) (hk : k < m) {A' : Option Addr} {n' c' : Nat} (hc : ∃ b off, Ag = some ⟨b, off, none⟩ ∧ w5.cell? ⟨b, off + k, none⟩ = some (.slice A' n' c')) : n' = n := by
  obtain ⟨b, off, e, h1⟩ := hc
  obtain ⟨b2, off2, e2, hlt, hcc⟩ := hG.2.2 (by omega)
  rw [e] at e2
  injection e2 with e2
  injection e2 with e3 e4
  subst e3 e4
  obtain ⟨A2, n2, c2, h2, _⟩ := hcc k hk
  have h3 := (hb.cell (p := ⟨b, off + k, none⟩) hlt).trans h2
  rw [h1] at h3
  injection h3 with h3
  injection h3 with h4 h5 h6
  rw [h5]
  exact (hz.2.2.2.2.1 (k + 2) A2 n2 c2 (by omega) (.inr (.inr ⟨by omega, b, off, e, by rw [Nat.add_sub_cancel]; exact h2⟩))).1
theorem wr_rows {w4 w5 : World} {Aac Aag Aar Abc Abg Abr dA : Option Addr} {cac cag car cbc cbg cbr dc ma mb nd : Nat} {nsA nsB : List Value} (hb : Below w4.heap.size w4 w5) (hG : RawR w4 Aag ma cag) (hza : ZOK Aac Aag Aar nd cac ma cag nd car w4 nd) (hGb : RawR w5 Abg mb cbg) (hzb : ZOK Abc Abg Abr nd cbc mb cbg nd cbr w5 nd)
    (h0 : RawD w5 Aac nd cac) (h1 : RawD w5 Aar nd car) (h2 : RawD w5 Abc nd cbc) (h3 : RawD w5 Abr nd cbr) (h4 : RawD w5 dA nd dc) (la : nsA.length = ma) (lb : nsB.length = mb)
    (ha : ∀ k, k < ma → ∃ A' n' c', nsA[k]? = some (.slice A' n' c') ∧ (∃ b off, Aag = some ⟨b, off, none⟩ ∧ w5.cell? ⟨b, off + k, none⟩ = some (.slice A' n' c')) ∧ RawD w5 A' n' c')
    (hbb : ∀ k, k < mb → ∃ A' n' c', nsB[k]? = some (.slice A' n' c') ∧ (∃ b off, Abg = some ⟨b, off, none⟩ ∧ w5.cell? ⟨b, off + k, none⟩ = some (.slice A' n' c')) ∧ RawD w5 A' n' c') :
    ∀ k, k < 5 + ma + mb → ∃ A' c', ([.slice Aac nd cac, .slice Aar nd car, .slice Abc nd cbc, .slice Abr nd cbr, .slice dA nd dc] ++ nsA ++ nsB)[k]? = some (.slice A' nd c') ∧ RawD w5 A' nd c' := by
  intro k hk
  by_cases k5 : k < 5
  · match k, k5 with
    | 0, _ => exact ⟨Aac, cac, rfl, h0⟩
    | 1, _ => exact ⟨Aar, car, rfl, h1⟩
    | 2, _ => exact ⟨Abc, cbc, rfl, h2⟩
    | 3, _ => exact ⟨Abr, cbr, rfl, h3⟩
    | 4, _ => exact ⟨dA, dc, rfl, h4⟩
  · by_cases ka : k < 5 + ma
    · obtain ⟨A', n', c', e1, e2, e3⟩ := ha (k - 5) (by omega)
      obtain rfl := way_len hb hG hza (by omega) e2
      refine ⟨A', c', ?_, e3⟩
      rw [List.getElem?_append_left (by simp [la]; omega), List.getElem?_append_right (by simp; omega)]
      exact e1
    · obtain ⟨A', n', c', e1, e2, e3⟩ := hbb (k - (5 + ma)) (by omega)
      obtain rfl := way_len (Below.refl _ w5) hGb hzb (by omega) e2
      refine ⟨A', c', ?_, e3⟩
      rw [List.getElem?_append_right (by simp [la]; omega)]
      have e : k - ([Value.slice Aac n' cac, .slice Aar n' car, .slice Abc n' cbc, .slice Abr n' cbr, .slice dA n' dc] ++ nsA).length = k - (5 + ma) := by simp [la]; omega
      rw [e]
      exact e1
theorem sup_limH {z : Zo} {f : Nat → D} (lz : z.Lim 61 160) (hn : z.n ≤ 4) (hm : z.m ≤ 7) (lf : ∀ i, i < z.n → (f i).Lim 60 124) : (z.sup (pts f) 2000).Lim 121 330 := (sup_lim 2000 lz (fun i hi => pt_lim (lf i hi))).mono (by omega) (by omega)
theorem farH {z : Zo} {f : Nat → D} (lz : z.Lim 61 160) (hn : z.n ≤ 4) (hm : z.m ≤ 7) (lf : ∀ i, i < z.n → (f i).Lim 60 124) : (z.sup (pts f) 2000).val = z.far (fun i => (f i).val) := sup_far lz lf (by omega)
/-- The state ahead of a row; ahead of a number of a row. -/
def LkRel (w5 w9 : World) (xs : List Value) (k : Nat) (wr : World) : Prop := Below w9.heap.size w9 wr ∧ ∀ k', k' < k → ∀ A' n' c', xs[k']? = some (.slice A' n' c') → SmRow w5 A' n' c'
def LkIn (w5 w9 : World) (A : Option Addr) (j : Nat) (wi : World) : Prop := Below w9.heap.size w9 wi ∧ ∀ j', j' < j → ∃ b off d, A = some ⟨b, off, none⟩ ∧ b < w5.heap.size ∧ Elt w5 b off j' d ∧ OkD d ∧ d.Lim 60 124
theorem ptZo_ok1 : (ptZo 1).Ok := ⟨by show 1 ≤ 16; omega, Nat.zero_le _, fun _ _ => lim_ok (zero_lim 0 0) (by omega), fun _ _ h _ => absurd h (Nat.not_lt_zero _), fun _ _ => lim_ok (zero_lim 0 0) (by omega), fun _ _ => Int.le_refl _⟩
theorem rzo_pt1' {w : World} {g1 g2 : Nat} (h1 : OD w g1 1 (fun _ => D.zero)) (h2 : OD w g2 1 (fun _ => D.zero)) : RZo w ⟨some ⟨g1, 0, none⟩, 1, none, 0, some ⟨g2, 0, none⟩, 1⟩ (ptZo 1) :=
  ⟨h1.read (by omega), ⟨Nat.le_refl _, Nat.zero_le _, fun h => absurd h (Nat.lt_irrefl _)⟩, h2.read (by omega)⟩
theorem point_one (w : World) : Calls Tryd.prog 49 #[.int .i64 1] w fun e w' => (∃ g1 g2 : Nat, e = .returned (.agg #[.slice (some ⟨g1, 0, none⟩) 1 1, .slice none 0 0, .slice (some ⟨g2, 0, none⟩) 1 1]) ∧ RZo w' ⟨some ⟨g1, 0, none⟩, 1, none, 0, some ⟨g2, 0, none⟩, 1⟩ (ptZo 1)) ∧ Below w.heap.size w w' :=
  (point_any w 1 (by omega)).mono fun e w' ⟨⟨g1, g2, he, _, _, _, o1, o2⟩, hb⟩ => ⟨⟨g1, g2, he, rzo_pt1' o1 o2⟩, hb⟩
theorem hull_one (w : World) (g1 g2 g3 g4 : Nat) (h : RZo w ⟨some ⟨g1, 0, none⟩, 1, none, 0, some ⟨g2, 0, none⟩, 1⟩ (ptZo 1)) (h2 : RZo w ⟨some ⟨g3, 0, none⟩, 1, none, 0, some ⟨g4, 0, none⟩, 1⟩ (ptZo 1)) (ht : BTab w) :
    Calls Tryd.prog 26 #[.agg #[.slice (some ⟨g1, 0, none⟩) 1 1, .slice none 0 0, .slice (some ⟨g2, 0, none⟩) 1 1], .agg #[.slice (some ⟨g3, 0, none⟩) 1 1, .slice none 0 0, .slice (some ⟨g4, 0, none⟩) 1 1], .int .i64 20] w fun e w' => (∃ (gc gg gr cg : Nat), e = .returned (.tuple #[.agg #[.slice (some ⟨gc, 0, none⟩) 1 1, .slice (some ⟨gg, 0, none⟩) 1 cg, .slice (some ⟨gr, 0, none⟩) 1 1], .int .i64 0])) ∧ Below w.heap.size w w' :=
  (hull_any w _ _ _ _ _ _ _ _ _ _ _ _ (ptZo 1) (ptZo 1) 20 0 1 h h2 rfl ptZo_ok1 ptZo_ok1 (ptZo_lim 1 0 1) (ptZo_lim 1 0 1) (fun _ => rfl) (fun _ => rfl) (by show max 0 0 ≤ 2047; omega) (by show 0 + 1 + 4 * max 0 0 + 20 ≤ 16000; omega) (by omega) (by omega) ht).mono fun e w' ⟨⟨gc, gg, gr, cg, he, _⟩, hb⟩ => ⟨⟨gc, gg, gr, cg, he⟩, hb⟩
theorem order_1 (w : World) (Ac Ag Ar : Option Addr) (cc cg cr : Nat) (z : Zo) (n bits : Nat) (E T : Nat) (ez : z.n = n) (h : RZo w ⟨Ac, cc, Ag, cg, Ar, cr⟩ z) (hnil : Ag = none → cg = 0) (lz : z.Lim E T) (hm : z.m ≤ 12) (hn : n ≤ 1000) (hET : E + T + 2 * n + 2 * z.m + 8 ≤ 16000) (hb2 : 2 ≤ bits) (hb3 : bits ≤ 4096) (ht : BTab w) :
    Calls Tryd.prog 56 #[.agg #[.slice Ac n cc, .slice Ag z.m cg, .slice Ar n cr], .int .i64 1, .int .i64 bits] w fun e w' => (∃ (Ag' : Option Addr) (cg' : Nat) (AR : Option Addr) (cR : Nat), e = .returned (.tuple #[.agg #[.slice Ac n cc, .slice Ag' (lowZ z 1 bits).m cg', .slice AR n cR], .int .i64 0]) ∧ RZo w' ⟨Ac, cc, Ag', cg', AR, cR⟩ (lowZ z 1 bits) ∧ (Ag' = none → cg' = 0)) ∧ Below w.heap.size w w' :=
  order_at w Ac Ag Ar cc cg cr z n 1 bits E T ez h hnil lz (by omega) hm hn hET hb2 hb3 ht
theorem hull_two (w : World) (Aac Aag Aar Abc Abg Abr : Option Addr) (cac cag car cbc cbg cbr : Nat) (a b : Zo) (n bits : Nat) (E T : Nat) (ea : a.n = n) (eb : b.n = n) (ha : RZo w ⟨Aac, cac, Aag, cag, Aar, car⟩ a) (hb : RZo w ⟨Abc, cbc, Abg, cbg, Abr, cbr⟩ b) (oa : a.Ok) (ob : b.Ok) (la : a.Lim E T) (lb : b.Lim E T) (hna : Aag = none → cag = 0) (hnb : Abg = none → cbg = 0) (hm : max a.m b.m ≤ 2047) (hET : E + T + 4 * max a.m b.m + 20 ≤ 16000) (hb2 : 2 ≤ bits) (hb3 : bits ≤ 4096) (ht : BTab w) :
    Calls Tryd.prog 26 #[.agg #[.slice Aac n cac, .slice Aag a.m cag, .slice Aar n car], .agg #[.slice Abc n cbc, .slice Abg b.m cbg, .slice Abr n cbr], .int .i64 bits] w fun e w' => (∃ (gc gg gr cg : Nat), e = .returned (.tuple #[.agg #[.slice (some ⟨gc, 0, none⟩) n n, .slice (some ⟨gg, 0, none⟩) (hull a b bits).m cg, .slice (some ⟨gr, 0, none⟩) n n], .int .i64 0]) ∧ RZo w' ⟨some ⟨gc, 0, none⟩, n, some ⟨gg, 0, none⟩, cg, some ⟨gr, 0, none⟩, n⟩ (hull a b bits)) ∧ Below w.heap.size w w' := by
  subst ea
  have H := hull_any w Aac Aag Aar Abc Abg Abr cac cag car cbc cbg cbr a b bits E T ha hb eb.symm oa ob la lb hna hnb hm hET hb2 hb3 ht
  rw [eb] at H
  exact H
theorem sup_at (w : World) (Ac Ag Ar : Option Addr) (cc cg cr : Nat) (z : Zo) (n : Nat) (dA : Option Addr) (dc : Nat) (dir : Nat → Sp) (E T E2 T2 : Nat) (ez : z.n = n) (h : RZo w ⟨Ac, cc, Ag, cg, Ar, cr⟩ z) (h2 : RSs w dA n dc dir) (lz : z.Lim E T) (ld : ∀ i, i < n → (dir i).Lim E2 T2) (hET : E + E2 + T + T2 + 4 * n + 2 * z.m + 10 ≤ 16000) (ht : BTab w) :
    Calls Tryd.prog 60 #[.agg #[.slice Ac n cc, .slice Ag z.m cg, .slice Ar n cr], .slice dA n dc, .int .i64 2000] w fun e w' => (∃ r : Q, e = .returned (.tuple #[.agg #[.bool r.b, .slice r.A r.n r.c, .int .i64 (z.sup dir 2000).x], .int .i64 0]) ∧ RD w' r (z.sup dir 2000)) ∧ Below w.heap.size w w' := by
  subst ez
  exact support_any w Ac Ag Ar cc cg cr z dA dc dir 2000 E T E2 T2 h h2 lz ld hET (by omega) (by omega) ht
end Go.Proofs.YtgioppkggpfnoaaDoor.Nu
end

section
/- WholeReduced: the walk of the law. -/
set_option linter.unusedVariables false
namespace Go.Proofs.YtgioppkggpfnoaaDoor.Nu
open Go.RowKit Go.Proofs

set_option maxRecDepth 100000 in
set_option maxHeartbeats 4000000 in
theorem wred_any (w : World) (Aac Aag Aar Abc Abg Abr dA : Option Addr) (na ra ma nb rb mb nd cac cag car cbc cbg cbr dc : Nat) (hac : RawD w Aac na cac) (hag : RawR w Aag ma cag) (har : RawD w Aar ra car) (hna : Aag = none → cag = 0) (hbc : RawD w Abc nb cbc) (hbg : RawR w Abg mb cbg) (hbr : RawD w Abr rb cbr) (hnb : Abg = none → cbg = 0) (hd : RawD w dA nd dc) (ht : BTab w) :
    Calls Tryd.prog 11 #[.agg #[.slice Aac na cac, .slice Aag ma cag, .slice Aar ra car], .agg #[.slice Abc nb cbc, .slice Abg mb cbg, .slice Abr rb cbr], .slice dA nd dc] w fun e w' => e = .returned (.bool true) ∧ Below w.heap.size w w' := by
  have HAC := Lib.hid hac
  have HAG := Lib.hid hag
  have HAR := Lib.hid har
  have HNA := Lib.hid hna
  have HBC := Lib.hid hbc
  have HBG := Lib.hid hbg
  have HBR := Lib.hid hbr
  have HNB := Lib.hid hnb
  have HD := Lib.hid hd
  have HT := Lib.hid ht
  have hd62 := hd.2.1
  have hma := hag.2.1
  have hmb := hbg.2.1
  clear hac hag har hna hbc hbg hbr hnb hd ht
  have BX := Lib.hid (boxes2 w 42 #[.slice Aac na cac, .slice Aag ma cag, .slice Aar ra car] 42 #[.slice Abc nb cbc, .slice Abg mb cbg, .slice Abr rb cbr])
  go_enter Tryd.func11, Tryd.ntmps11
  go_wp2_with fail
  generalize (w.alloc (.cells #[.slice Aac na cac, .slice Aag ma cag, .slice Aar ra car] 42)).alloc (.cells #[.slice Abc nb cbc, .slice Abg mb cbg, .slice Abr rb cbr] 42) = w0 at *
  obtain ⟨b0, b1, hw⟩ := BX.out
  have Ba_0 := Lib.hid b0
  have Bb_0 := Lib.hid b1
  have HB_0 := Lib.hid hw
  have K := Dk.below (hw.mono (Nat.le_refl _))
  clear BX hw b0 b1
  clear K
  go_wp2_with fail
  refine (point_one _).mono ?_
  rintro e w1 ⟨⟨g1, g2, rfl, hz⟩, hb⟩
  have K := Dk.below hb
  have Ba_1 := Lib.hid (show Bk _ _ _ #[.slice Aac na cac, .slice Aag ma cag, .slice Aar ra car] from Ba_0.out.below hb)
  have Bb_2 := Lib.hid (show Bk _ _ _ #[.slice Abc nb cbc, .slice Abg mb cbg, .slice Abr rb cbr] from Bb_0.out.below hb)
  have HB_3 := Lib.hid (below_tr HB_0.out hb)
  clear hb
  clear K Ba_0 Bb_0 HB_0
  have Z1 := Lib.hid hz
  clear hz
  go_wp2_with fail
  refine (point_one _).mono ?_
  rintro e w2 ⟨⟨g3, g4, rfl, hz⟩, hb⟩
  have Z2 := Lib.hid hz
  replace Z1 := Lib.hid (Z1.out.below hb)
  clear hz
  have K := Dk.below hb
  have Ba_4 := Lib.hid (show Bk _ _ _ #[.slice Aac na cac, .slice Aag ma cag, .slice Aar ra car] from Ba_1.out.below hb)
  have Bb_5 := Lib.hid (show Bk _ _ _ #[.slice Abc nb cbc, .slice Abg mb cbg, .slice Abr rb cbr] from Bb_2.out.below hb)
  have HB_6 := Lib.hid (below_tr HB_3.out hb)
  clear hb
  clear K Ba_1 Bb_2 HB_3
  go_wp2_with fail
  refine (hull_one _ g1 g2 g3 g4 Z1.out Z2.out (HT.out.below HB_6.out)).mono ?_
  rintro e w3 ⟨⟨gc, gg, gr, cg, rfl⟩, hb⟩
  have K := Dk.below hb
  have Ba_7 := Lib.hid (show Bk _ _ _ #[.slice Aac na cac, .slice Aag ma cag, .slice Aar ra car] from Ba_4.out.below hb)
  have Bb_8 := Lib.hid (show Bk _ _ _ #[.slice Abc nb cbc, .slice Abg mb cbg, .slice Abr rb cbr] from Bb_5.out.below hb)
  have HB_9 := Lib.hid (below_tr HB_6.out hb)
  clear hb
  clear K Ba_4 Bb_5 HB_6
  clear Z1 Z2
  have n_10 := Ba_7.out.lt
  have n_11 := Bb_8.out.lt
  go_upto_region 2 with (fail)
  have K : Dk w3 (w3.alloc (.cells #[.slice (some ⟨gc, 0, none⟩) 1 1, .slice (some ⟨gg, 0, none⟩) 1 cg, .slice (some ⟨gr, 0, none⟩) 1 1] 42)) := ((Dk.refl _).alloc _)
  have Ba_12 := Lib.hid (show Bk (w3.alloc (.cells #[.slice (some ⟨gc, 0, none⟩) 1 1, .slice (some ⟨gg, 0, none⟩) 1 cg, .slice (some ⟨gr, 0, none⟩) 1 1] 42)) (w.heap.size) 42 #[.slice Aac na cac, .slice Aag ma cag, .slice Aar ra car] from (Ba_7.out.alloc _))
  have Bb_13 := Lib.hid (show Bk (w3.alloc (.cells #[.slice (some ⟨gc, 0, none⟩) 1 1, .slice (some ⟨gg, 0, none⟩) 1 cg, .slice (some ⟨gr, 0, none⟩) 1 1] 42)) (w.heap.size + 1) 42 #[.slice Abc nb cbc, .slice Abg mb cbg, .slice Abr rb cbr] from (Bb_8.out.alloc _))
  have Bh_14 := Lib.hid (show Bk (w3.alloc (.cells #[.slice (some ⟨gc, 0, none⟩) 1 1, .slice (some ⟨gg, 0, none⟩) 1 cg, .slice (some ⟨gr, 0, none⟩) 1 1] 42)) (w3.heap.size) 42 #[.slice (some ⟨gc, 0, none⟩) 1 1, .slice (some ⟨gg, 0, none⟩) 1 cg, .slice (some ⟨gr, 0, none⟩) 1 1] from (Bk.new _ 42 #[.slice (some ⟨gc, 0, none⟩) 1 1, .slice (some ⟨gg, 0, none⟩) 1 cg, .slice (some ⟨gr, 0, none⟩) 1 1]))
  have HB_15 := Lib.hid (show Below w.heap.size w (w3.alloc (.cells #[.slice (some ⟨gc, 0, none⟩) 1 1, .slice (some ⟨gg, 0, none⟩) 1 cg, .slice (some ⟨gr, 0, none⟩) 1 1] 42)) from (below_al HB_9.out _))
  clear K Ba_7 Bb_8 HB_9
  generalize w3.alloc (.cells #[.slice (some ⟨gc, 0, none⟩) 1 1, .slice (some ⟨gg, 0, none⟩) 1 cg, .slice (some ⟨gr, 0, none⟩) 1 1] 42) = w4 at *
  have BASE_16 := Lib.hid (HB_15.out)
  replace HAC := Lib.hid (HAC.out.below HB_15.out)
  replace HAG := Lib.hid (HAG.out.below HB_15.out)
  replace HAR := Lib.hid (HAR.out.below HB_15.out)
  replace HBC := Lib.hid (HBC.out.below HB_15.out)
  replace HBG := Lib.hid (HBG.out.below HB_15.out)
  replace HBR := Lib.hid (HBR.out.below HB_15.out)
  replace HD := Lib.hid (HD.out.below HB_15.out)
  replace HT := Lib.hid (HT.out.below HB_15.out)
  clear HB_15
  have HB_17 := Lib.hid (show Below w4.heap.size w4 w4 from Below.refl _ _)
  have la := Ba_12.out.lt
  obtain ⟨ca0, ca1, ca2⟩ := Ba_12.out.cells3
  have lb := Bb_13.out.lt
  obtain ⟨cb0, cb1, cb2⟩ := Bb_13.out.cells3
  have lh := Bh_14.out.lt
  obtain ⟨ch0, ch1, ch2⟩ := Bh_14.out.cells3
  go_upto_region 5 with (fail)
  by_cases hn1 : (nd : Int) < 1
  · clear la ca0 ca1 ca2 lb cb0 cb1 cb2 lh ch0 ch1 ch2
    have la := Ba_12.out.lt
    obtain ⟨ca0, ca1, ca2⟩ := Ba_12.out.cells3
    have lb := Bb_13.out.lt
    obtain ⟨cb0, cb1, cb2⟩ := Bb_13.out.cells3
    have lh := Bh_14.out.lt
    obtain ⟨ch0, ch1, ch2⟩ := Bh_14.out.cells3
    go_wp2
    go_ret
    exact ⟨rfl, below_tr BASE_16.out HB_17.out⟩
  by_cases hn3 : (3 : Int) < (nd : Int)
  · clear la ca0 ca1 ca2 lb cb0 cb1 cb2 lh ch0 ch1 ch2
    have la := Ba_12.out.lt
    obtain ⟨ca0, ca1, ca2⟩ := Ba_12.out.cells3
    have lb := Bb_13.out.lt
    obtain ⟨cb0, cb1, cb2⟩ := Bb_13.out.cells3
    have lh := Bh_14.out.lt
    obtain ⟨ch0, ch1, ch2⟩ := Bh_14.out.cells3
    go_wp2
    go_ret
    exact ⟨rfl, below_tr BASE_16.out HB_17.out⟩
  have HAG0 := HAG
  go_wp2_with fail
  refine (zcheck_any _ Aac Aag Aar na cac ma cag ra car nd HAC.out HAG.out HAR.out HNA.out hd62).mono ?_
  rintro e w5 ⟨⟨r, rfl, hr⟩, hb⟩
  have HRR := Lib.hid hr
  clear hr
  clear la ca0 ca1 ca2 lb cb0 cb1 cb2 lh ch0 ch1 ch2
  have K := Dk.below hb
  have Ba_20 := Lib.hid (show Bk _ _ _ #[.slice Aac na cac, .slice Aag ma cag, .slice Aar ra car] from Ba_12.out.below hb)
  have Bb_21 := Lib.hid (show Bk _ _ _ #[.slice Abc nb cbc, .slice Abg mb cbg, .slice Abr rb cbr] from Bb_13.out.below hb)
  have Bh_22 := Lib.hid (show Bk _ _ _ #[.slice (some ⟨gc, 0, none⟩) 1 1, .slice (some ⟨gg, 0, none⟩) 1 cg, .slice (some ⟨gr, 0, none⟩) 1 1] from Bh_14.out.below hb)
  have HB_23 := Lib.hid (below_tr HB_17.out hb)
  clear hb
  clear K Ba_12 Bb_13 Bh_14 HB_17
  by_cases hr0 : r = 0
  rotate_left
  · have q12 : ((r : Int) == 0) = false := by rw [beq_eq_false_iff_ne]; exact hr0
    have q13 : ((r : Int) != 0) = true := by rw [bne, q12]; rfl
    clear hr0
    have la := Ba_20.out.lt
    obtain ⟨ca0, ca1, ca2⟩ := Ba_20.out.cells3
    have lb := Bb_21.out.lt
    obtain ⟨cb0, cb1, cb2⟩ := Bb_21.out.cells3
    have lh := Bh_22.out.lt
    obtain ⟨ch0, ch1, ch2⟩ := Bh_22.out.cells3
    go_wp2
    go_ret
    exact ⟨rfl, below_tr BASE_16.out HB_23.out⟩
  subst hr0
  have HZA := Lib.hid (HRR.out.1 rfl)
  clear HRR
  have HA1 := Lib.hid HB_23.out
  have BASE_25 := Lib.hid (below_tr BASE_16.out HB_23.out)
  replace HAC := Lib.hid (HAC.out.below HB_23.out)
  replace HAG := Lib.hid (HAG.out.below HB_23.out)
  replace HAR := Lib.hid (HAR.out.below HB_23.out)
  replace HBC := Lib.hid (HBC.out.below HB_23.out)
  replace HBG := Lib.hid (HBG.out.below HB_23.out)
  replace HBR := Lib.hid (HBR.out.below HB_23.out)
  replace HD := Lib.hid (HD.out.below HB_23.out)
  replace HT := Lib.hid (HT.out.below HB_23.out)
  clear HB_23 BASE_16
  have HB_26 := Lib.hid (show Below w5.heap.size w5 w5 from Below.refl _ _)
  have la := Ba_20.out.lt
  obtain ⟨ca0, ca1, ca2⟩ := Ba_20.out.cells3
  have lb := Bb_21.out.lt
  obtain ⟨cb0, cb1, cb2⟩ := Bb_21.out.cells3
  have lh := Bh_22.out.lt
  obtain ⟨ch0, ch1, ch2⟩ := Bh_22.out.cells3
  go_wp2_with fail
  refine (zcheck_any _ Abc Abg Abr nb cbc mb cbg rb cbr nd HBC.out HBG.out HBR.out HNB.out hd62).mono ?_
  rintro e w6 ⟨⟨r, rfl, hr⟩, hb⟩
  have HRR := Lib.hid hr
  clear hr
  clear la ca0 ca1 ca2 lb cb0 cb1 cb2 lh ch0 ch1 ch2
  have K := Dk.below hb
  have Ba_27 := Lib.hid (show Bk _ _ _ #[.slice Aac na cac, .slice Aag ma cag, .slice Aar ra car] from Ba_20.out.below hb)
  have Bb_28 := Lib.hid (show Bk _ _ _ #[.slice Abc nb cbc, .slice Abg mb cbg, .slice Abr rb cbr] from Bb_21.out.below hb)
  have Bh_29 := Lib.hid (show Bk _ _ _ #[.slice (some ⟨gc, 0, none⟩) 1 1, .slice (some ⟨gg, 0, none⟩) 1 cg, .slice (some ⟨gr, 0, none⟩) 1 1] from Bh_22.out.below hb)
  have HB_30 := Lib.hid (below_tr HB_26.out hb)
  clear hb
  clear K Ba_20 Bb_21 Bh_22 HB_26
  by_cases hr0 : r = 0
  rotate_left
  · have q12 : ((r : Int) == 0) = false := by rw [beq_eq_false_iff_ne]; exact hr0
    have q13 : ((r : Int) != 0) = true := by rw [bne, q12]; rfl
    clear hr0
    have la := Ba_27.out.lt
    obtain ⟨ca0, ca1, ca2⟩ := Ba_27.out.cells3
    have lb := Bb_28.out.lt
    obtain ⟨cb0, cb1, cb2⟩ := Bb_28.out.cells3
    have lh := Bh_29.out.lt
    obtain ⟨ch0, ch1, ch2⟩ := Bh_29.out.cells3
    go_wp2
    go_ret
    exact ⟨rfl, below_tr BASE_25.out HB_30.out⟩
  subst hr0
  have HZB := Lib.hid (HRR.out.1 rfl)
  clear HRR
  obtain rfl : nd = na := HZA.out.1.symm
  obtain rfl : nd = ra := HZA.out.2.1.symm
  obtain rfl : nd = nb := HZB.out.1.symm
  obtain rfl : nd = rb := HZB.out.2.1.symm
  have la := Ba_27.out.lt
  obtain ⟨ca0, ca1, ca2⟩ := Ba_27.out.cells3
  have lb := Bb_28.out.lt
  obtain ⟨cb0, cb1, cb2⟩ := Bb_28.out.cells3
  have lh := Bh_29.out.lt
  obtain ⟨ch0, ch1, ch2⟩ := Bh_29.out.cells3
  by_cases h6a : (6 : Int) < (ma : Int)
  · clear la ca0 ca1 ca2 lb cb0 cb1 cb2 lh ch0 ch1 ch2
    have la := Ba_27.out.lt
    obtain ⟨ca0, ca1, ca2⟩ := Ba_27.out.cells3
    have lb := Bb_28.out.lt
    obtain ⟨cb0, cb1, cb2⟩ := Bb_28.out.cells3
    have lh := Bh_29.out.lt
    obtain ⟨ch0, ch1, ch2⟩ := Bh_29.out.cells3
    go_wp2
    go_ret
    exact ⟨rfl, below_tr BASE_25.out HB_30.out⟩
  by_cases h6b : (6 : Int) < (mb : Int)
  · clear la ca0 ca1 ca2 lb cb0 cb1 cb2 lh ch0 ch1 ch2
    have la := Ba_27.out.lt
    obtain ⟨ca0, ca1, ca2⟩ := Ba_27.out.cells3
    have lb := Bb_28.out.lt
    obtain ⟨cb0, cb1, cb2⟩ := Bb_28.out.cells3
    have lh := Bh_29.out.lt
    obtain ⟨ch0, ch1, ch2⟩ := Bh_29.out.cells3
    go_wp2
    go_ret
    exact ⟨rfl, below_tr BASE_25.out HB_30.out⟩
  go_upto_region 8 with (fail)
  obtain ⟨nsA, pa1, pa2, pa3, pa4, pa5⟩ := raw_rows HAG.out
  obtain ⟨nsB, pb1, pb2, pb3, pb4, pb5⟩ := raw_rows HBG.out
  have PA1 := Lib.hid pa1
  have PA2 := Lib.hid pa2
  have PA3 := Lib.hid pa3
  have PA4 := Lib.hid pa4
  have PA5 := Lib.hid pa5
  have PB1 := Lib.hid pb1
  have PB2 := Lib.hid pb2
  have PB3 := Lib.hid pb3
  have PB4 := Lib.hid pb4
  have PB5 := Lib.hid pb5
  clear pa1 pa2 pa3 pa4 pa5 pb1 pb2 pb3 pb4 pb5
  obtain ⟨M, hM⟩ : ∃ M : Nat, M = 5 + ma + mb := ⟨_, rfl⟩
  have HM := Lib.hid hM
  have M17 : M ≤ 17 := by omega
  have M5 : 5 ≤ M := by omega
  have m6a : ma ≤ 6 := by omega
  have m6b : mb ≤ 6 := by omega
  clear hM
  clear la ca0 ca1 ca2 lb cb0 cb1 cb2 lh ch0 ch1 ch2
  have la := Ba_27.out.lt
  obtain ⟨ca0, ca1, ca2⟩ := Ba_27.out.cells3
  have lb := Bb_28.out.lt
  obtain ⟨cb0, cb1, cb2⟩ := Bb_28.out.cells3
  go_cut [92, 93, 94] (fun s92 s93 s94 wx => ∃ (g cap : Nat), s92 = .slice (some ⟨g, 0, none⟩) M cap ∧ s93 = .int .i64 (M : Int) ∧ s94 = .int .i64 0 ∧ WMem w6 ([.slice Aac nd cac, .slice Aar nd car, .slice Abc nd cbc, .slice Abr nd cbr, .slice dA nd dc] ++ nsA ++ nsB) g wx)
  case first =>
    have k0 := Lib.hid (show (w6).cell? ⟨w.heap.size, 0, none⟩ = some (.slice Aac nd cac) ∧ (w6).cell? ⟨w.heap.size, 1, none⟩ = some (.slice Aag ma cag) ∧ (w6).cell? ⟨w.heap.size, 2, none⟩ = some (.slice Aar nd car) ∧ (w6).cell? ⟨w.heap.size + 1, 0, none⟩ = some (.slice Abc nd cbc) ∧ (w6).cell? ⟨w.heap.size + 1, 1, none⟩ = some (.slice Abg mb cbg) ∧ (w6).cell? ⟨w.heap.size + 1, 2, none⟩ = some (.slice Abr nd cbr) from ⟨ca0, ca1, ca2, cb0, cb1, cb2⟩)
    have k1 := Lib.hid (show (w6.drew).cell? ⟨w.heap.size, 0, none⟩ = some (.slice Aac nd cac) ∧ (w6.drew).cell? ⟨w.heap.size, 1, none⟩ = some (.slice Aag ma cag) ∧ (w6.drew).cell? ⟨w.heap.size, 2, none⟩ = some (.slice Aar nd car) ∧ (w6.drew).cell? ⟨w.heap.size + 1, 0, none⟩ = some (.slice Abc nd cbc) ∧ (w6.drew).cell? ⟨w.heap.size + 1, 1, none⟩ = some (.slice Abg mb cbg) ∧ (w6.drew).cell? ⟨w.heap.size + 1, 2, none⟩ = some (.slice Abr nd cbr) from ⟨ca0, ca1, ca2, cb0, cb1, cb2⟩)
    have k2 := Lib.hid (show ((w6.alloc (.cells #[.slice Aac nd cac, .slice Aar nd car, .slice Abc nd cbc, .slice Abr nd cbr, .slice dA nd dc] 39))).cell? ⟨w.heap.size, 0, none⟩ = some (.slice Aac nd cac) ∧ ((w6.alloc (.cells #[.slice Aac nd cac, .slice Aar nd car, .slice Abc nd cbc, .slice Abr nd cbr, .slice dA nd dc] 39))).cell? ⟨w.heap.size, 1, none⟩ = some (.slice Aag ma cag) ∧ ((w6.alloc (.cells #[.slice Aac nd cac, .slice Aar nd car, .slice Abc nd cbc, .slice Abr nd cbr, .slice dA nd dc] 39))).cell? ⟨w.heap.size, 2, none⟩ = some (.slice Aar nd car) ∧ ((w6.alloc (.cells #[.slice Aac nd cac, .slice Aar nd car, .slice Abc nd cbc, .slice Abr nd cbr, .slice dA nd dc] 39))).cell? ⟨w.heap.size + 1, 0, none⟩ = some (.slice Abc nd cbc) ∧ ((w6.alloc (.cells #[.slice Aac nd cac, .slice Aar nd car, .slice Abc nd cbc, .slice Abr nd cbr, .slice dA nd dc] 39))).cell? ⟨w.heap.size + 1, 1, none⟩ = some (.slice Abg mb cbg) ∧ ((w6.alloc (.cells #[.slice Aac nd cac, .slice Aar nd car, .slice Abc nd cbc, .slice Abr nd cbr, .slice dA nd dc] 39))).cell? ⟨w.heap.size + 1, 2, none⟩ = some (.slice Abr nd cbr) from ⟨(Ba_27.out.below (below_al (Below.refl _ _) _)).cell 0 rfl, (Ba_27.out.below (below_al (Below.refl _ _) _)).cell 1 rfl, (Ba_27.out.below (below_al (Below.refl _ _) _)).cell 2 rfl, (Bb_28.out.below (below_al (Below.refl _ _) _)).cell 0 rfl, (Bb_28.out.below (below_al (Below.refl _ _) _)).cell 1 rfl, (Bb_28.out.below (below_al (Below.refl _ _) _)).cell 2 rfl⟩)
    have k3 := Lib.hid (show ((w6.alloc (.cells #[.slice Aac nd cac, .slice Aar nd car, .slice Abc nd cbc, .slice Abr nd cbr, .slice dA nd dc] 39)).drew).cell? ⟨w.heap.size, 0, none⟩ = some (.slice Aac nd cac) ∧ ((w6.alloc (.cells #[.slice Aac nd cac, .slice Aar nd car, .slice Abc nd cbc, .slice Abr nd cbr, .slice dA nd dc] 39)).drew).cell? ⟨w.heap.size, 1, none⟩ = some (.slice Aag ma cag) ∧ ((w6.alloc (.cells #[.slice Aac nd cac, .slice Aar nd car, .slice Abc nd cbc, .slice Abr nd cbr, .slice dA nd dc] 39)).drew).cell? ⟨w.heap.size, 2, none⟩ = some (.slice Aar nd car) ∧ ((w6.alloc (.cells #[.slice Aac nd cac, .slice Aar nd car, .slice Abc nd cbc, .slice Abr nd cbr, .slice dA nd dc] 39)).drew).cell? ⟨w.heap.size + 1, 0, none⟩ = some (.slice Abc nd cbc) ∧ ((w6.alloc (.cells #[.slice Aac nd cac, .slice Aar nd car, .slice Abc nd cbc, .slice Abr nd cbr, .slice dA nd dc] 39)).drew).cell? ⟨w.heap.size + 1, 1, none⟩ = some (.slice Abg mb cbg) ∧ ((w6.alloc (.cells #[.slice Aac nd cac, .slice Aar nd car, .slice Abc nd cbc, .slice Abr nd cbr, .slice dA nd dc] 39)).drew).cell? ⟨w.heap.size + 1, 2, none⟩ = some (.slice Abr nd cbr) from ⟨(Ba_27.out.below (below_dr (below_al (Below.refl _ _) _))).cell 0 rfl, (Ba_27.out.below (below_dr (below_al (Below.refl _ _) _))).cell 1 rfl, (Ba_27.out.below (below_dr (below_al (Below.refl _ _) _))).cell 2 rfl, (Bb_28.out.below (below_dr (below_al (Below.refl _ _) _))).cell 0 rfl, (Bb_28.out.below (below_dr (below_al (Below.refl _ _) _))).cell 1 rfl, (Bb_28.out.below (below_dr (below_al (Below.refl _ _) _))).cell 2 rfl⟩)
    have HO0 := Lib.hid ((OW.five w6 Aac Aar Abc Abr dA nd nd nd nd nd cac car cbc cbr dc).dr)
    have HB0 := Lib.hid (show Below w6.heap.size w6 (w6.alloc (.cells #[.slice Aac nd cac, .slice Aar nd car, .slice Abc nd cbc, .slice Abr nd cbr, .slice dA nd dc] 39)).drew from (below_dr (below_al (Below.refl _ _) _)))
    have HQ := Lib.hid HB_30.out
    have tok1 : True := trivial
    have tok2 : True := trivial
    go_region_held3 (fun w' => (w').cell? ⟨w.heap.size, 0, none⟩ = some (.slice Aac nd cac) ∧ (w').cell? ⟨w.heap.size, 1, none⟩ = some (.slice Aag ma cag) ∧ (w').cell? ⟨w.heap.size, 2, none⟩ = some (.slice Aar nd car) ∧ (w').cell? ⟨w.heap.size + 1, 0, none⟩ = some (.slice Abc nd cbc) ∧ (w').cell? ⟨w.heap.size + 1, 1, none⟩ = some (.slice Abg mb cbg) ∧ (w').cell? ⟨w.heap.size + 1, 2, none⟩ = some (.slice Abr nd cbr)) (first | with_reducible exact k0.out | with_reducible exact k1.out | with_reducible exact k2.out | with_reducible exact k3.out | with_reducible exact k4.out | with_reducible exact k5.out)
      (first
       | (clear tok1; refine step_append_ow rfl _ _ rfl (.slice (some ⟨w6.heap.size, 0, none⟩) 5 5) 5 [.slice Aac nd cac, .slice Aar nd car, .slice Abc nd cbc, .slice Abr nd cbr, .slice dA nd dc] (by simp [Act.eval, Act.put]) HO0.out (by decide) Aag ma cag nsA (by simp [Act.eval, Act.put]) HNA.out HAG.out.1 PA1.out (rows_at PA5.out (HQ.out.trans (HB0.out.mono HQ.out.size))) PA3.out PA4.out (by omega) ?_; intro v1 w7 h1 h2 h3 h4; obtain ⟨g5, c5, rfl, _, _, _, _⟩ := h1.cell (by omega); have HB7 := Lib.hid (show Below w6.heap.size w6 w7 from HB0.out.grown h2 HB0.out.size (fun k hk => by simp [Value.ownBlock] at hk; omega)); have HG5 := Lib.hid (show w6.heap.size ≤ g5 from by rcases h4 with e | e <;> simp [Value.ownBlock] at e <;> omega); have HO1 := Lib.hid h1; have k4 := Lib.hid (show (w7).cell? ⟨w.heap.size, 0, none⟩ = some (.slice Aac nd cac) ∧ (w7).cell? ⟨w.heap.size, 1, none⟩ = some (.slice Aag ma cag) ∧ (w7).cell? ⟨w.heap.size, 2, none⟩ = some (.slice Aar nd car) ∧ (w7).cell? ⟨w.heap.size + 1, 0, none⟩ = some (.slice Abc nd cbc) ∧ (w7).cell? ⟨w.heap.size + 1, 1, none⟩ = some (.slice Abg mb cbg) ∧ (w7).cell? ⟨w.heap.size + 1, 2, none⟩ = some (.slice Abr nd cbr) from ⟨(Ba_27.out.below HB7.out).cell 0 rfl, (Ba_27.out.below HB7.out).cell 1 rfl, (Ba_27.out.below HB7.out).cell 2 rfl, (Bb_28.out.below HB7.out).cell 0 rfl, (Bb_28.out.below HB7.out).cell 1 rfl, (Bb_28.out.below HB7.out).cell 2 rfl⟩); clear h1 h2 h3 h4)
       | (clear tok2; refine step_append_ow rfl _ _ rfl (.slice (some ⟨g5, 0, none⟩) (5 + ma) c5) (5 + ma) ([.slice Aac nd cac, .slice Aar nd car, .slice Abc nd cbc, .slice Abr nd cbr, .slice dA nd dc] ++ nsA) (by simp [Act.eval, Act.put]) HO1.out (by omega) Abg mb cbg nsB (by simp [Act.eval, Act.put]) HNB.out HBG.out.1 PB1.out (rows_at PB5.out (HQ.out.trans (HB7.out.mono HQ.out.size))) PB3.out PB4.out (by omega) ?_; rw [← HM.out]; intro v2 w8 h1 h2 h3 h4; obtain ⟨g6, c6, rfl, _, hl6, hc6, _⟩ := h1.cell (by omega); have HB8 := Lib.hid (show Below w6.heap.size w6 w8 from HB7.out.grown h2 HB7.out.size (fun k hk => by have := HG5.out; simp [Value.ownBlock] at hk; omega)); have HW8 := Lib.hid (show WMem w6 ([.slice Aac nd cac, .slice Aar nd car, .slice Abc nd cbc, .slice Abr nd cbr, .slice dA nd dc] ++ nsA ++ nsB) g6 w8 from ⟨HB8.out, hl6, hc6⟩); have k5 := Lib.hid (show (w8).cell? ⟨w.heap.size, 0, none⟩ = some (.slice Aac nd cac) ∧ (w8).cell? ⟨w.heap.size, 1, none⟩ = some (.slice Aag ma cag) ∧ (w8).cell? ⟨w.heap.size, 2, none⟩ = some (.slice Aar nd car) ∧ (w8).cell? ⟨w.heap.size + 1, 0, none⟩ = some (.slice Abc nd cbc) ∧ (w8).cell? ⟨w.heap.size + 1, 1, none⟩ = some (.slice Abg mb cbg) ∧ (w8).cell? ⟨w.heap.size + 1, 2, none⟩ = some (.slice Abr nd cbr) from ⟨(Ba_27.out.below HB8.out).cell 0 rfl, (Ba_27.out.below HB8.out).cell 1 rfl, (Ba_27.out.below HB8.out).cell 2 rfl, (Bb_28.out.below HB8.out).cell 0 rfl, (Bb_28.out.below HB8.out).cell 1 rfl, (Bb_28.out.below HB8.out).cell 2 rfl⟩); clear h1 h2 h3 h4 hl6 hc6))
    all_goals (go_wp2_with fail; go_meet; exact ⟨g6, c6, rfl, rfl, rfl, HW8.out⟩)
  case rest =>
    obtain ⟨w9, rfl⟩ : ∃ x, x = wc := ⟨_, rfl⟩
    obtain ⟨g, cap, rfl, rfl, rfl, hwm⟩ := hcut
    have hb := hwm.1
    have HLT := Lib.hid hwm.2.1
    have HXC := Lib.hid hwm.2.2
    clear hwm
    clear la ca0 ca1 ca2 lb cb0 cb1 cb2
    have K := Dk.below hb
    have Ba_34 := Lib.hid (show Bk _ _ _ #[.slice Aac nd cac, .slice Aag ma cag, .slice Aar nd car] from Ba_27.out.below hb)
    have Bb_35 := Lib.hid (show Bk _ _ _ #[.slice Abc nd cbc, .slice Abg mb cbg, .slice Abr nd cbr] from Bb_28.out.below hb)
    have Bh_36 := Lib.hid (show Bk _ _ _ #[.slice (some ⟨gc, 0, none⟩) 1 1, .slice (some ⟨gg, 0, none⟩) 1 cg, .slice (some ⟨gr, 0, none⟩) 1 1] from Bh_29.out.below hb)
    have HB_37 := Lib.hid (below_tr HB_30.out hb)
    clear hb
    clear K Ba_27 Bb_28 Bh_29 HB_30
    have RWS := Lib.hid (wr_rows HA1.out HAG0.out HZA.out HBG.out HZB.out HAC.out HAR.out HBC.out HBR.out HD.out PA1.out PB1.out PA2.out PB2.out)
    have H0 := Lib.hid (show LkRel w5 w9 ([.slice Aac nd cac, .slice Aar nd car, .slice Abc nd cbc, .slice Abr nd cbr, .slice dA nd dc] ++ nsA ++ nsB) 0 w9 from ⟨Below.refl _ _, fun k hk => absurd hk (Nat.not_lt_zero _)⟩)
    go_wp2_with fail
    go_loopw [94] (fun k wr => ∃ i : Nat, k = .int .i64 i ∧ i ≤ M ∧ Hid (LkRel w5 w9 ([.slice Aac nd cac, .slice Aar nd car, .slice Abc nd cbc, .slice Abr nd cbr, .slice dA nd dc] ++ nsA ++ nsB) i wr)) (fun k _ => M - (intOf k).toNat)
    case atStart => exact ⟨0, rfl, Nat.zero_le _, H0⟩
    case round =>
      clear H0
      obtain ⟨k, rfl, hk, Hr⟩ := hrel
      have HBX := Lib.hid Hr.out.1
      have HSM := Lib.hid Hr.out.2
      have HB5 := Lib.hid (HB_37.out.trans (Hr.out.1.mono HB_37.out.size))
      clear Hr
      by_cases hk2 : k < M
      · obtain ⟨A', c', e1, hraw⟩ := RWS.out k (by rw [← HM.out]; exact hk2)
        have x0 : wr.cell? ⟨g, k, none⟩ = some (.slice A' nd c') := (HBX.out.cell (p := ⟨g, k, none⟩) HLT.out).trans (HXC.out k _ e1)
        have HRAW := Lib.hid hraw
        have E1 := Lib.hid e1
        clear hraw e1
        have q7 : (k : Int) < (M : Int) := by omega
        go_wp2_with fail
        have I0 := Lib.hid (show LkIn w5 w9 A' 0 wr from ⟨HBX.out, fun j hj => absurd hj (Nat.not_lt_zero _)⟩)
        clear x0
        go_loopw [100] (fun j wi => ∃ i : Nat, j = .int .i64 i ∧ i ≤ nd ∧ Hid (LkIn w5 w9 A' i wi)) (fun j _ => nd - (intOf j).toNat)
        case atStart => exact ⟨0, rfl, Nat.zero_le _, I0⟩
        case round =>
          clear I0 HBX HB5
          obtain ⟨j, rfl, hj, Hi⟩ := hrel
          have HBX := Lib.hid Hi.out.1
          have HEL := Lib.hid Hi.out.2
          have HB5 := Lib.hid (HB_37.out.trans (Hi.out.1.mono HB_37.out.size))
          have HBB := Lib.hid (below_tr BASE_25.out HB5.out)
          clear Hi
          by_cases hj2 : j < nd
          · obtain ⟨b1, o1, rfl, hl1, hcc⟩ := HRAW.out.2.2 (by omega)
            obtain ⟨q, xs, x, hat, hrl, hqc⟩ := hcc j hj2
            have x1 := (HB5.out.cell (p := ⟨b1, _, none⟩) hl1).trans hat.1
            have x2 := (HB5.out.cell (p := ⟨b1, _, none⟩) hl1).trans hat.2.1
            have x3 := (HB5.out.cell (p := ⟨b1, _, none⟩) hl1).trans hat.2.2
            have HAT := Lib.hid hat
            have HRL := Lib.hid hrl
            have HQC := Lib.hid hqc
            clear hat hrl hqc hcc
            have q8 : (j : Int) < (nd : Int) := by omega
            have F5 := Lib.hid (below_al HB5.out (.cells #[.bool q.b, .slice q.A q.n q.c, .int .i64 x] 53))
            have F := Lib.hid (below_al HBB.out (.cells #[.bool q.b, .slice q.A q.n q.c, .int .i64 x] 53))
            have G := Lib.hid (below_al HBX.out (.cells #[.bool q.b, .slice q.A q.n q.c, .int .i64 x] 53))
            have BXB := Lib.hid (Bk.new wr 53 #[.bool q.b, .slice q.A q.n q.c, .int .i64 x])
            go_wp2_with fail
            refine (dcheck_raw _ q.b q.A q.n q.c xs x (HRL.out.below F5.out) HQC.out).mono ?_
            rintro e w11 ⟨⟨r, rfl, hr⟩, hb⟩
            have HR5 := Lib.hid hr
            have FB := Lib.hid (below_tr F.out hb)
            have GB := Lib.hid (below_tr G.out hb)
            have BY := Lib.hid (BXB.out.below hb)
            clear hb x1 x2 x3 hr BXB
            have lb := BY.out.lt
            have cy0 := BY.out.cell 0 rfl
            have cy1 := BY.out.cell 1 rfl
            have cy2 := BY.out.cell 2 rfl
            by_cases hr0 : r = 0
            · subst hr0
              by_cases h2 : q.n ≤ 2
              · have q9 : ¬ (2 : Int) < (q.n : Int) := by omega
                by_cases hx : x ≤ 60
                · have q10 : ¬ (60 : Int) < x := by omega
                  by_cases hx' : -60 ≤ x
                  · have q11 : ¬ x < -60 := by omega
                    have hq := HR5.out.1 rfl
                    have HE := Lib.hid (sm_of_check HAT.out HRL.out h2 hq.2.1 hq.2.2.1 hx' hx)
                    clear hq
                    go_wp2
                    go_roundw
                    case rel =>
                      refine ⟨j + 1, by go_num, hj2, Lib.hid ⟨GB.out, fun j' hj' => ?_⟩⟩
                      by_cases e : j' = j
                      · subst e
                        obtain ⟨d, h1, h2⟩ := HE.out
                        exact ⟨b1, o1, d, rfl, hl1, h1, h2⟩
                      · exact HEL.out j' (by omega)
                    case measure => simp only [intOf]; omega
                  · have q11 : x < -60 := by omega
                    go_wp2
                    go_ret
                    exact ⟨rfl, FB.out⟩
                · have q10 : (60 : Int) < x := by omega
                  go_wp2
                  go_ret
                  exact ⟨rfl, FB.out⟩
              · have q9 : (2 : Int) < (q.n : Int) := by omega
                go_wp2
                go_ret
                exact ⟨rfl, FB.out⟩
            · have q12 : ((r : Int) == 0) = false := by rw [beq_eq_false_iff_ne]; exact hr0
              have q13 : ((r : Int) != 0) = true := by rw [bne, q12]; rfl
              clear hr0
              go_wp2
              go_ret
              exact ⟨rfl, FB.out⟩
          · obtain rfl : j = nd := by omega
            have HRO := Lib.hid (SmRel.row (w := w5) ⟨HB5.out, HEL.out⟩ HRAW.out.1 (by omega))
            clear hj2
            go_wp2
            go_roundw
            case rel =>
              refine ⟨k + 1, by go_num, hk2, Lib.hid ⟨HBX.out, fun k' hk' A'' n'' c'' h'' => ?_⟩⟩
              by_cases e : k' = k
              · subst e
                have e2 := E1.out.symm.trans h''
                injection e2 with e2
                injection e2 with e3 e4 e5
                subst e3 e4 e5
                exact HRO.out
              · exact HSM.out k' (by omega) _ _ _ h''
            case measure => simp only [intOf]; omega
      · obtain rfl : k = M := by omega
        clear hk2
        have B9a := Lib.hid (Ba_34.out.below HBX.out)
        clear Ba_34
        have B9b := Lib.hid (Bb_35.out.below HBX.out)
        clear Bb_35
        have B9h := Lib.hid (Bh_36.out.below HBX.out)
        clear Bh_36
        have HSX := Lib.hid (fun (i : Nat) (hi : i < 5) (A' : Option Addr) (n' c' : Nat) (h : ([.slice Aac nd cac, .slice Aar nd car, .slice Abc nd cbc, .slice Abr nd cbr, .slice dA nd dc] : List Value)[i]? = some (.slice A' n' c')) => HSM.out i (by rw [HM.out]; omega) A' n' c' (by rw [List.append_assoc, List.getElem?_append_left hi]; exact h))
        have HSA := Lib.hid (fun (i : Nat) (A' : Option Addr) (n' c' : Nat) (hi : i < ma) (h : nsA[i]? = some (.slice A' n' c')) => HSM.out (5 + i) (by rw [HM.out]; omega) A' n' c' (by rw [List.getElem?_append_left (by simp [PA1.out]; omega), List.getElem?_append_right (by simp)]; simpa using h))
        have HSB := Lib.hid (fun (i : Nat) (A' : Option Addr) (n' c' : Nat) (hi : i < mb) (h : nsB[i]? = some (.slice A' n' c')) => HSM.out (5 + ma + i) (by rw [HM.out]; omega) A' n' c' (by rw [List.getElem?_append_right (by simp [PA1.out]; omega)]; rw [show ∀ l : List Value, l.length = 5 + ma → 5 + ma + i - l.length = i from fun l hl => by rw [hl]; omega]; exact h; simp [PA1.out]; omega))
        have FA := Lib.hid (set_sm (news := nsA) HB5.out (HA1.out.trans (HB5.out.mono HA1.out.size)) HAG.out HAG0.out HZA.out PA2.out (HSX.out 0 (by omega) _ _ _ rfl) (HSX.out 1 (by omega) _ _ _ rfl) HSA.out (by omega) (by omega) (by omega))
        have FB := Lib.hid (set_sm (news := nsB) HB5.out HB5.out HBG.out HBG.out HZB.out PB2.out (HSX.out 2 (by omega) _ _ _ rfl) (HSX.out 3 (by omega) _ _ _ rfl) HSB.out (by omega) (by omega) (by omega))
        have SD := Lib.hid ((HSX.out 4 (by omega) _ _ _ rfl).below HB5.out)
        clear HSX HSA HSB HSM HXC RWS PA1 PA2 PA3 PA4 PA5 PB1 PB2 PB3 PB4 PB5 HZA HZB HAC HAR HBC HBR HD HAG HAG0 HBG
        replace HT := Lib.hid (HT.out.below HB5.out)
        have BASE := Lib.hid (below_tr BASE_25.out HB5.out)
        have HB_800 := Lib.hid (show Below wr.heap.size wr wr from Below.refl _ _)
        clear HB5
        obtain ⟨za, e1, e2, e3, rfl, hza, oza, lza, k1, k4, k5⟩ := FA.out
        obtain ⟨zb, e4, e5, e6, rfl, hzb, ozb, lzb, _, _, k6⟩ := FB.out
        clear FA FB
        have eza : za.n = nd := e3.symm
        have ezb : zb.n = nd := e6.symm
        clear e1 e2 e3 e4 e5 e6
        have ZA := Lib.hid hza
        have ZB := Lib.hid hzb
        have OA := Lib.hid oza
        have OB := Lib.hid ozb
        have LA := Lib.hid lza
        have LB := Lib.hid lzb
        have CA := Lib.hid (rzo_can hza oza)
        have CB := Lib.hid (rzo_can hzb ozb)
        clear hza hzb oza ozb lza lzb
        obtain ⟨f, hf, hl⟩ := SD.out
        have DR := Lib.hid hf
        have LD := Lib.hid (fun (i : Nat) (hi : i < nd) => (hl i hi).2)
        clear hf hl SD
        have nd3 : nd ≤ 3 := by omega
        go_wp2_with fail
        obtain ⟨wd, rfl⟩ : ∃ x, x = wr := ⟨_, rfl⟩
        have H0 := Lib.hid (show FarRel wd f wd 0 (.slice none 0 0) wd from ⟨Below.refl _ _, [], World.ownsRow_nil _ _ _ _, fun j hj => absurd hj (by omega)⟩)
        obtain ⟨i0, hi0, hz0, hz1, hz2⟩ := info_parts infoS
        go_loopw [10, 128] (fun s10 k wr => ∃ (i : Nat) (v : Value), k = .int .i64 i ∧ v = s10 ∧ i ≤ nd ∧ Hid (FarRel wd f wd i v wr)) (fun _ k _ => nd - (intOf k).toNat)
        case atStart => exact ⟨0, _, rfl, rfl, Nat.zero_le _, H0⟩
        case round =>
          clear H0
          obtain ⟨i, v, rfl, rfl, hi, Hr⟩ := hrel
          by_cases hi2 : i < nd
          · have q3 : (i : Int) < (nd : Int) := by omega
            obtain ⟨hbel, xs, hown, hels⟩ := Hr.out
            have HBR := Lib.hid hbel
            have HOW := Lib.hid hown
            have HEL := Lib.hid hels
            clear hbel hown hels Hr
            obtain ⟨A1, o1, rfl, hl1, hcc⟩ := DR.out.2.2 (by omega)
            obtain ⟨q, z0, z1, z2, hq⟩ := hcc i hi2
            have x0 := (HBR.out.cell (p := ⟨A1, o1 + i * 3, none⟩) hl1).trans z0
            have x1 := (HBR.out.cell (p := ⟨A1, o1 + i * 3 + 1, none⟩) hl1).trans z1
            have x2 := (HBR.out.cell (p := ⟨A1, o1 + i * 3 + 2, none⟩) hl1).trans z2
            have RQ := Lib.hid hq
            clear hcc z0 z1 z2 hq
            go_wp2_with fail
            refine (spoint_copy _ q.b q.A q.n q.c (f i).x).mono ?_
            rintro e w5 ⟨rfl, hb⟩
            have HB5 := Lib.hid (below_tr (below_al (Below.refl _ wr) _) hb)
            clear hb x0 x1 x2
            have HOW5 := Lib.hid ((own_below HOW.out HB5.out).alloc (.cells #[.bool q.b, .slice q.A q.n q.c, .int .i64 (f i).x, .bool q.b, .slice q.A q.n q.c, .int .i64 (f i).x] 62))
            have HNW := Lib.hid (new_row w5 [.bool q.b, .slice q.A q.n q.c, .int .i64 (f i).x, .bool q.b, .slice q.A q.n q.c, .int .i64 (f i).x] 62)
            have HBA := Lib.hid (below_al (HBR.out.trans (HB5.out.mono HBR.out.size)) (.cells #[.bool q.b, .slice q.A q.n q.c, .int .i64 (f i).x, .bool q.b, .slice q.A q.n q.c, .int .i64 (f i).x] 62))
            have hsz := HBA.out.size
            clear HOW
            go_wp2_with (at_builtin; refine wpList_append_own_at _ rfl _ _ 95 rfl wd.heap.size 62 i0 (.agg #[.bool false, .slice none 0 0, .int .i64 0, .bool false, .slice none 0 0, .int .i64 0]) 6 80 Tryd.underlying95 hi0 hz0 hz1 hz2 rfl (by decide) v i xs rfl HOW5.out ⟨w5.heap.size, 0, none⟩ 1 1 [.bool q.b, .slice q.A q.n q.c, .int .i64 (f i).x, .bool q.b, .slice q.A q.n q.c, .int .i64 (f i).x] rfl rfl HNW.out (one6 rfl rfl rfl rfl rfl rfl) ?n4 ?n5 hsz ?_)
            case n4 => unfold maxLen; omega
            case n5 => omega
            intro v' w6 hown hgr _ _
            have HN := Lib.hid (show FarRel wd f wd (i + 1) v' w6 from far_next HBA.out HOW5.out hown hgr HEL.out RQ.out)
            clear hown hgr HOW5 HBA HNW hsz
            go_wp2
            go_roundw
            case rel => exact ⟨i + 1, v', by go_num, rfl, hi2, HN⟩
            case measure => simp only [intOf]; omega
          · obtain rfl : nd = i := by omega
            obtain ⟨eA, ec, rfl, hds⟩ := far_end DR.out (Below.refl _ wd) Hr.out
            have HS := Lib.hid hds
            have HBR := Lib.hid Hr.out.1
            clear hds Hr hi2
            have BAa := Lib.hid (B9a.out.below HBR.out)
            clear B9a
            have BAb := Lib.hid (B9b.out.below HBR.out)
            clear B9b
            have BAh := Lib.hid (B9h.out.below HBR.out)
            clear B9h
            clear DR
            have BASE_902 := Lib.hid (below_tr BASE.out HBR.out)
            replace ZA := Lib.hid (ZA.out.below HBR.out)
            replace ZB := Lib.hid (ZB.out.below HBR.out)
            replace HT := Lib.hid (HT.out.below HBR.out)
            clear HBR BASE
            have HB_903 := Lib.hid (show Below wr.heap.size wr wr from Below.refl _ _)
            have eX : (lowZ za 1 30).n = nd := by rw [lowZ_n]; exact eza
            have eY : (lowZ zb 1 30).n = nd := by rw [lowZ_n]; exact ezb
            have mX : (lowZ za 1 30).m ≤ 3 := by have := (lowZ_m za 1 30).2; omega
            have mY : (lowZ zb 1 30).m ≤ 3 := by have := (lowZ_m zb 1 30).2; omega
            have LX := Lib.hid (show (lowZ za 1 30).Lim 60 136 from (lowZ_lim LA.out 1 30).mono' (by omega) (by omega))
            have LY := Lib.hid (show (lowZ zb 1 30).Lim 60 136 from (lowZ_lim LB.out 1 30).mono' (by omega) (by omega))
            have OX := Lib.hid (lim_zok (z := lowZ za 1 30) (by omega) (by omega) LX.out (lowZ_can CA.out 1 30) (by omega))
            have OY := Lib.hid (lim_zok (z := lowZ zb 1 30) (by omega) (by omega) LY.out (lowZ_can CB.out 1 30) (by omega))
            have eH : (hull (lowZ za 1 30) (lowZ zb 1 30) 30).n = nd := eX
            have mH : (hull (lowZ za 1 30) (lowZ zb 1 30) 30).m ≤ 7 := by show 2 * max (lowZ za 1 30).m (lowZ zb 1 30).m + 1 ≤ 7; omega
            have LH := Lib.hid (show (hull (lowZ za 1 30) (lowZ zb 1 30) 30).Lim 61 160 from (hull_lim LX.out LY.out (eX.trans eY.symm) 30).mono' (by omega) (by omega))
            have Lza2 := Lib.hid (show za.Lim 60 160 from LA.out.mono' (by omega) (by omega))
            have Lzb2 := Lib.hid (show zb.Lim 60 160 from LB.out.mono' (by omega) (by omega))
            have LDa := Lib.hid (fun (i : Nat) (hi : i < za.n) => LD.out i (by rw [← eza]; exact hi))
            have LDb := Lib.hid (fun (i : Nat) (hi : i < zb.n) => LD.out i (by rw [← ezb]; exact hi))
            have LDh := Lib.hid (fun (i : Nat) (hi : i < (hull (lowZ za 1 30) (lowZ zb 1 30) 30).n) => LD.out i (by rw [← eH]; exact hi))
            have SH := Lib.hid (sup_limH LH.out (by omega) mH LDh.out)
            have SA := Lib.hid (sup_limR Lza2.out (by omega) (by omega) LDa.out)
            have SB := Lib.hid (sup_limR Lzb2.out (by omega) (by omega) LDb.out)
            have NA := Lib.hid (show decide (((hull (lowZ za 1 30) (lowZ zb 1 30) 30).sup (pts f) 2000).cmp (za.sup (pts f) 2000) < 0) = false from not_less (by rw [farH LH.out (by omega) mH LDh.out, farR Lza2.out (by omega) (by omega) LDa.out]; exact Rat.le_trans (lowZ_far za 1 30 _) (hull_a _ _ 30 _)))
            have NB := Lib.hid (show decide (((hull (lowZ za 1 30) (lowZ zb 1 30) 30).sup (pts f) 2000).cmp (zb.sup (pts f) 2000) < 0) = false from not_less (by rw [farH LH.out (by omega) mH LDh.out, farR Lzb2.out (by omega) (by omega) LDb.out]; exact Rat.le_trans (lowZ_far zb 1 30 _) (hull_b _ _ 30 _ (eX.trans eY.symm))))
            have la := BAa.out.lt
            obtain ⟨ca0, ca1, ca2⟩ := BAa.out.cells3
            have lb := BAb.out.lt
            obtain ⟨cb0, cb1, cb2⟩ := BAb.out.cells3
            go_wp2_with fail
            refine (order_1 _ Aac Aag Aar cac cag car za nd 30 60 124 eza (ZA.out.below HB_903.out) HNA.out LA.out (by omega) (by omega) (by omega) (by omega) (by omega) (HT.out.below HB_903.out)).mono ?_
            rintro e w7 ⟨⟨Ag1, cg1, AR1, cR1, rfl, hz, hnm⟩, hb⟩
            clear la ca0 ca1 ca2 lb cb0 cb1 cb2
            have K := Dk.below hb
            have Ba_904 := Lib.hid (show Bk _ _ _ #[.slice Aac nd cac, .slice Aag za.m cag, .slice Aar nd car] from BAa.out.below hb)
            have Bb_905 := Lib.hid (show Bk _ _ _ #[.slice Abc nd cbc, .slice Abg zb.m cbg, .slice Abr nd cbr] from BAb.out.below hb)
            have Bh_906 := Lib.hid (show Bk _ _ _ #[.slice (some ⟨gc, 0, none⟩) 1 1, .slice (some ⟨gg, 0, none⟩) 1 cg, .slice (some ⟨gr, 0, none⟩) 1 1] from BAh.out.below hb)
            have HB_907 := Lib.hid (below_tr HB_903.out hb)
            clear hb
            clear K BAa BAb BAh HB_903
            have ZX := Lib.hid hz
            have NX := Lib.hid hnm
            clear hz hnm
            have BASE_908 := Lib.hid (below_tr BASE_902.out HB_907.out)
            replace ZA := Lib.hid (ZA.out.below HB_907.out)
            replace ZB := Lib.hid (ZB.out.below HB_907.out)
            replace HT := Lib.hid (HT.out.below HB_907.out)
            replace HS := Lib.hid (HS.out.below HB_907.out)
            clear HB_907 BASE_902
            have HB_909 := Lib.hid (show Below w7.heap.size w7 w7 from Below.refl _ _)
            have la := Ba_904.out.lt
            obtain ⟨ca0, ca1, ca2⟩ := Ba_904.out.cells3
            have lb := Bb_905.out.lt
            obtain ⟨cb0, cb1, cb2⟩ := Bb_905.out.cells3
            have n_910 := Ba_904.out.lt
            have n_911 := Bb_905.out.lt
            have n_912 := Bh_906.out.lt
            go_wp2_with fail
            refine (order_1 _ Abc Abg Abr cbc cbg cbr zb nd 30 60 124 ezb (ZB.out.below (below_al HB_909.out _)) HNB.out LB.out (by omega) (by omega) (by omega) (by omega) (by omega) (HT.out.below (below_al HB_909.out _))).mono ?_
            rintro e w8 ⟨⟨Ag2, cg2, AR2, cR2, rfl, hz, hnm⟩, hb⟩
            clear la ca0 ca1 ca2 lb cb0 cb1 cb2
            have K := Dk.trans ((Dk.refl _).alloc _) (.below hb)
            have Ba_913 := Lib.hid (show Bk _ _ _ #[.slice Aac nd cac, .slice Aag za.m cag, .slice Aar nd car] from (Ba_904.out.alloc _).below hb)
            have Bb_914 := Lib.hid (show Bk _ _ _ #[.slice Abc nd cbc, .slice Abg zb.m cbg, .slice Abr nd cbr] from (Bb_905.out.alloc _).below hb)
            have Bh_915 := Lib.hid (show Bk _ _ _ #[.slice (some ⟨gc, 0, none⟩) 1 1, .slice (some ⟨gg, 0, none⟩) 1 cg, .slice (some ⟨gr, 0, none⟩) 1 1] from (Bh_906.out.alloc _).below hb)
            have Bx_916 := Lib.hid (show Bk _ _ _ #[.slice Aac nd cac, .slice Ag1 (lowZ za 1 30).m cg1, .slice AR1 nd cR1] from (Bk.new _ 42 #[.slice Aac nd cac, .slice Ag1 (lowZ za 1 30).m cg1, .slice AR1 nd cR1]).below hb)
            have HB_917 := Lib.hid (below_tr (below_al HB_909.out _) hb)
            clear hb
            clear K Ba_904 Bb_905 Bh_906 HB_909
            have ZY := Lib.hid hz
            have NY := Lib.hid hnm
            clear hz hnm
            have BASE_918 := Lib.hid (below_tr BASE_908.out HB_917.out)
            replace ZA := Lib.hid (ZA.out.below HB_917.out)
            replace ZB := Lib.hid (ZB.out.below HB_917.out)
            replace HT := Lib.hid (HT.out.below HB_917.out)
            replace HS := Lib.hid (HS.out.below HB_917.out)
            replace ZX := Lib.hid (ZX.out.below HB_917.out)
            clear HB_917 BASE_908
            have HB_919 := Lib.hid (show Below w8.heap.size w8 w8 from Below.refl _ _)
            have la := Ba_913.out.lt
            obtain ⟨ca0, ca1, ca2⟩ := Ba_913.out.cells3
            have lb := Bb_914.out.lt
            obtain ⟨cb0, cb1, cb2⟩ := Bb_914.out.cells3
            have lx := Bx_916.out.lt
            obtain ⟨cx0, cx1, cx2⟩ := Bx_916.out.cells3
            have n_920 := Ba_913.out.lt
            have n_921 := Bb_914.out.lt
            have n_922 := Bh_915.out.lt
            have n_923 := Bx_916.out.lt
            go_wp2_with fail
            refine (hull_two _ Aac Ag1 AR1 Abc Ag2 AR2 cac cg1 cR1 cbc cg2 cR2 (lowZ za 1 30) (lowZ zb 1 30) nd 30 60 136 eX eY (ZX.out.below (below_al HB_919.out _)) (ZY.out.below (below_al HB_919.out _)) OX.out OY.out LX.out LY.out NX.out NY.out (by omega) (by omega) (by omega) (by omega) (HT.out.below (below_al HB_919.out _))).mono ?_
            rintro e w9 ⟨⟨hc, hg, hr, kg, rfl, hz⟩, hb⟩
            clear la ca0 ca1 ca2 lb cb0 cb1 cb2 lx cx0 cx1 cx2
            have K := Dk.trans ((Dk.refl _).alloc _) (.below hb)
            have Ba_924 := Lib.hid (show Bk _ _ _ #[.slice Aac nd cac, .slice Aag za.m cag, .slice Aar nd car] from (Ba_913.out.alloc _).below hb)
            have Bb_925 := Lib.hid (show Bk _ _ _ #[.slice Abc nd cbc, .slice Abg zb.m cbg, .slice Abr nd cbr] from (Bb_914.out.alloc _).below hb)
            have Bh_926 := Lib.hid (show Bk _ _ _ #[.slice (some ⟨gc, 0, none⟩) 1 1, .slice (some ⟨gg, 0, none⟩) 1 cg, .slice (some ⟨gr, 0, none⟩) 1 1] from (Bh_915.out.alloc _).below hb)
            have Bx_927 := Lib.hid (show Bk _ _ _ #[.slice Aac nd cac, .slice Ag1 (lowZ za 1 30).m cg1, .slice AR1 nd cR1] from (Bx_916.out.alloc _).below hb)
            have By_928 := Lib.hid (show Bk _ _ _ #[.slice Abc nd cbc, .slice Ag2 (lowZ zb 1 30).m cg2, .slice AR2 nd cR2] from (Bk.new _ 42 #[.slice Abc nd cbc, .slice Ag2 (lowZ zb 1 30).m cg2, .slice AR2 nd cR2]).below hb)
            have HB_929 := Lib.hid (below_tr (below_al HB_919.out _) hb)
            clear hb
            clear K Ba_913 Bb_914 Bh_915 Bx_916 HB_919
            have ZH := Lib.hid hz
            clear hz
            have BASE_930 := Lib.hid (below_tr BASE_918.out HB_929.out)
            replace ZA := Lib.hid (ZA.out.below HB_929.out)
            replace ZB := Lib.hid (ZB.out.below HB_929.out)
            replace HT := Lib.hid (HT.out.below HB_929.out)
            replace HS := Lib.hid (HS.out.below HB_929.out)
            clear HB_929 BASE_918
            have HB_931 := Lib.hid (show Below w9.heap.size w9 w9 from Below.refl _ _)
            have la := Ba_924.out.lt
            obtain ⟨ca0, ca1, ca2⟩ := Ba_924.out.cells3
            have lb := Bb_925.out.lt
            obtain ⟨cb0, cb1, cb2⟩ := Bb_925.out.cells3
            have n_932 := Ba_924.out.lt
            have n_933 := Bb_925.out.lt
            have n_934 := Bh_926.out.lt
            have n_935 := Bx_927.out.lt
            have n_936 := By_928.out.lt
            go_wp2_with fail
            refine (sup_at _ (some ⟨hc, 0, none⟩) (some ⟨hg, 0, none⟩) (some ⟨hr, 0, none⟩) nd kg nd (hull (lowZ za 1 30) (lowZ zb 1 30) 30) nd eA ec (pts f) 61 160 60 124 eH (ZH.out.below (below_al HB_931.out _)) (HS.out.below (below_al HB_931.out _)) LH.out (fun i hi => pt_lim (LD.out i hi)) (by omega) (HT.out.below (below_al HB_931.out _))).mono ?_
            rintro e w10 ⟨⟨p, rfl, hp⟩, hb⟩
            clear la ca0 ca1 ca2 lb cb0 cb1 cb2
            have K := Dk.trans ((Dk.refl _).alloc _) (.below hb)
            have Ba_937 := Lib.hid (show Bk _ _ _ #[.slice Aac nd cac, .slice Aag za.m cag, .slice Aar nd car] from (Ba_924.out.alloc _).below hb)
            have Bb_938 := Lib.hid (show Bk _ _ _ #[.slice Abc nd cbc, .slice Abg zb.m cbg, .slice Abr nd cbr] from (Bb_925.out.alloc _).below hb)
            have Bh_939 := Lib.hid (show Bk _ _ _ #[.slice (some ⟨gc, 0, none⟩) 1 1, .slice (some ⟨gg, 0, none⟩) 1 cg, .slice (some ⟨gr, 0, none⟩) 1 1] from (Bh_926.out.alloc _).below hb)
            have Bx_940 := Lib.hid (show Bk _ _ _ #[.slice Aac nd cac, .slice Ag1 (lowZ za 1 30).m cg1, .slice AR1 nd cR1] from (Bx_927.out.alloc _).below hb)
            have By_941 := Lib.hid (show Bk _ _ _ #[.slice Abc nd cbc, .slice Ag2 (lowZ zb 1 30).m cg2, .slice AR2 nd cR2] from (By_928.out.alloc _).below hb)
            have Bj_942 := Lib.hid (show Bk _ _ _ #[.slice (some ⟨hc, 0, none⟩) nd nd, .slice (some ⟨hg, 0, none⟩) (hull (lowZ za 1 30) (lowZ zb 1 30) 30).m kg, .slice (some ⟨hr, 0, none⟩) nd nd] from (Bk.new _ 42 #[.slice (some ⟨hc, 0, none⟩) nd nd, .slice (some ⟨hg, 0, none⟩) (hull (lowZ za 1 30) (lowZ zb 1 30) 30).m kg, .slice (some ⟨hr, 0, none⟩) nd nd]).below hb)
            have HB_943 := Lib.hid (below_tr (below_al HB_931.out _) hb)
            clear hb
            clear K Ba_924 Bb_925 Bh_926 Bx_927 By_928 HB_931
            have RP_944 := Lib.hid hp
            clear hp
            clear ZH ZX ZY
            have BASE_945 := Lib.hid (below_tr BASE_930.out HB_943.out)
            replace ZA := Lib.hid (ZA.out.below HB_943.out)
            replace ZB := Lib.hid (ZB.out.below HB_943.out)
            replace HT := Lib.hid (HT.out.below HB_943.out)
            replace HS := Lib.hid (HS.out.below HB_943.out)
            clear HB_943 BASE_930
            have HB_946 := Lib.hid (show Below w10.heap.size w10 w10 from Below.refl _ _)
            clear Bh_939
            clear Bx_940
            clear By_941
            clear Bj_942
            have la := Ba_937.out.lt
            obtain ⟨ca0, ca1, ca2⟩ := Ba_937.out.cells3
            have lb := Bb_938.out.lt
            obtain ⟨cb0, cb1, cb2⟩ := Bb_938.out.cells3
            have n_947 := Ba_937.out.lt
            have n_948 := Bb_938.out.lt
            go_upto_region 29 with (fail)
            clear la ca0 ca1 ca2 lb cb0 cb1 cb2
            have K : Dk w10 (w10.alloc (.cells #[.bool p.b, .slice p.A p.n p.c, .int .i64 ((hull (lowZ za 1 30) (lowZ zb 1 30) 30).sup (pts f) 2000).x] 53)) := ((Dk.refl _).alloc _)
            have Ba_949 := Lib.hid (show Bk (w10.alloc (.cells #[.bool p.b, .slice p.A p.n p.c, .int .i64 ((hull (lowZ za 1 30) (lowZ zb 1 30) 30).sup (pts f) 2000).x] 53)) (w.heap.size) 42 #[.slice Aac nd cac, .slice Aag za.m cag, .slice Aar nd car] from (Ba_937.out.alloc _))
            have Bb_950 := Lib.hid (show Bk (w10.alloc (.cells #[.bool p.b, .slice p.A p.n p.c, .int .i64 ((hull (lowZ za 1 30) (lowZ zb 1 30) 30).sup (pts f) 2000).x] 53)) (w.heap.size + 1) 42 #[.slice Abc nd cbc, .slice Abg zb.m cbg, .slice Abr nd cbr] from (Bb_938.out.alloc _))
            have Be_951 := Lib.hid (show Bk (w10.alloc (.cells #[.bool p.b, .slice p.A p.n p.c, .int .i64 ((hull (lowZ za 1 30) (lowZ zb 1 30) 30).sup (pts f) 2000).x] 53)) (w10.heap.size) 53 #[.bool p.b, .slice p.A p.n p.c, .int .i64 ((hull (lowZ za 1 30) (lowZ zb 1 30) 30).sup (pts f) 2000).x] from (Bk.new _ 53 #[.bool p.b, .slice p.A p.n p.c, .int .i64 ((hull (lowZ za 1 30) (lowZ zb 1 30) 30).sup (pts f) 2000).x]))
            have HB_952 := Lib.hid (show Below w10.heap.size w10 (w10.alloc (.cells #[.bool p.b, .slice p.A p.n p.c, .int .i64 ((hull (lowZ za 1 30) (lowZ zb 1 30) 30).sup (pts f) 2000).x] 53)) from (below_al HB_946.out _))
            have RP_953 := Lib.hid (RP_944.out.dk K)
            clear K Ba_937 Bb_938 HB_946 RP_944
            generalize w10.alloc (.cells #[.bool p.b, .slice p.A p.n p.c, .int .i64 ((hull (lowZ za 1 30) (lowZ zb 1 30) 30).sup (pts f) 2000).x] 53) = w11 at *
            have la := Ba_949.out.lt
            obtain ⟨ca0, ca1, ca2⟩ := Ba_949.out.cells3
            have lb := Bb_950.out.lt
            obtain ⟨cb0, cb1, cb2⟩ := Bb_950.out.cells3
            have n_954 := Ba_949.out.lt
            have n_955 := Bb_950.out.lt
            have n_956 := Be_951.out.lt
            go_wp2_with fail
            clear la ca0 ca1 ca2 lb cb0 cb1 cb2
            have K : Dk w11 (w11.alloc (.cells #[.slice Aac nd cac, .slice Aag za.m cag, .slice Aar nd car, .slice Abc nd cbc, .slice Abg zb.m cbg, .slice Abr nd cbr] 42)) := ((Dk.refl _).alloc _)
            have Ba_957 := Lib.hid (show Bk (w11.alloc (.cells #[.slice Aac nd cac, .slice Aag za.m cag, .slice Aar nd car, .slice Abc nd cbc, .slice Abg zb.m cbg, .slice Abr nd cbr] 42)) (w.heap.size) 42 #[.slice Aac nd cac, .slice Aag za.m cag, .slice Aar nd car] from (Ba_949.out.alloc _))
            have Bb_958 := Lib.hid (show Bk (w11.alloc (.cells #[.slice Aac nd cac, .slice Aag za.m cag, .slice Aar nd car, .slice Abc nd cbc, .slice Abg zb.m cbg, .slice Abr nd cbr] 42)) (w.heap.size + 1) 42 #[.slice Abc nd cbc, .slice Abg zb.m cbg, .slice Abr nd cbr] from (Bb_950.out.alloc _))
            have Be_959 := Lib.hid (show Bk (w11.alloc (.cells #[.slice Aac nd cac, .slice Aag za.m cag, .slice Aar nd car, .slice Abc nd cbc, .slice Abg zb.m cbg, .slice Abr nd cbr] 42)) (w10.heap.size) 53 #[.bool p.b, .slice p.A p.n p.c, .int .i64 ((hull (lowZ za 1 30) (lowZ zb 1 30) 30).sup (pts f) 2000).x] from (Be_951.out.alloc _))
            have Bl_960 := Lib.hid (show Bk (w11.alloc (.cells #[.slice Aac nd cac, .slice Aag za.m cag, .slice Aar nd car, .slice Abc nd cbc, .slice Abg zb.m cbg, .slice Abr nd cbr] 42)) (w11.heap.size) 42 #[.slice Aac nd cac, .slice Aag za.m cag, .slice Aar nd car, .slice Abc nd cbc, .slice Abg zb.m cbg, .slice Abr nd cbr] from (Bk.new _ 42 #[.slice Aac nd cac, .slice Aag za.m cag, .slice Aar nd car, .slice Abc nd cbc, .slice Abg zb.m cbg, .slice Abr nd cbr]))
            have HB_961 := Lib.hid (show Below w10.heap.size w10 (w11.alloc (.cells #[.slice Aac nd cac, .slice Aag za.m cag, .slice Aar nd car, .slice Abc nd cbc, .slice Abg zb.m cbg, .slice Abr nd cbr] 42)) from (below_al HB_952.out _))
            have RP_962 := Lib.hid (RP_953.out.dk K)
            clear K Ba_949 Bb_950 Be_951 HB_952 RP_953
            generalize w11.alloc (.cells #[.slice Aac nd cac, .slice Aag za.m cag, .slice Aar nd car, .slice Abc nd cbc, .slice Abg zb.m cbg, .slice Abr nd cbr] 42) = w12 at *
            have BASE_963 := Lib.hid (below_tr BASE_945.out HB_961.out)
            replace ZA := Lib.hid (ZA.out.below HB_961.out)
            replace ZB := Lib.hid (ZB.out.below HB_961.out)
            replace HT := Lib.hid (HT.out.below HB_961.out)
            replace HS := Lib.hid (HS.out.below HB_961.out)
            clear HB_961 BASE_945
            have HB_964 := Lib.hid (show Below w12.heap.size w12 w12 from Below.refl _ _)
            clear Ba_957
            clear Bb_958
            go_loopw [178] (fun k w3 => ∃ i : Nat, k = .int .i64 i ∧ i ≤ 2 ∧ Hid (Bk w3 (w10.heap.size) 53 #[.bool p.b, .slice p.A p.n p.c, .int .i64 ((hull (lowZ za 1 30) (lowZ zb 1 30) 30).sup (pts f) 2000).x] ∧ Bk w3 (w11.heap.size) 42 #[.slice Aac nd cac, .slice Aag za.m cag, .slice Aar nd car, .slice Abc nd cbc, .slice Abg zb.m cbg, .slice Abr nd cbr] ∧ Below w12.heap.size w12 w3 ∧ RD w3 p ((hull (lowZ za 1 30) (lowZ zb 1 30) 30).sup (pts f) 2000))) (fun k _ => 2 - (intOf k).toNat)
            case atStart => exact ⟨0, rfl, by omega, Lib.hid ⟨Be_959.out, Bl_960.out, HB_964.out, RP_962.out⟩⟩
            case round =>
              obtain ⟨i, rfl, hi, Hr⟩ := hrel
              clear Be_959 Bl_960 HB_964 RP_962
              obtain ⟨tb0, tb1, tz, tf0⟩ := Hr.out
              have Be_966 := Lib.hid tb0
              have Bl_967 := Lib.hid tb1
              have HB_968 := Lib.hid tz
              have RP_969 := Lib.hid tf0
              clear tb0 tb1 tz tf0
              clear Hr
              by_cases hi0 : i = 0
              · subst hi0
                have le := Be_966.out.lt
                obtain ⟨ce0, ce1, ce2⟩ := Be_966.out.cells3
                have ll := Bl_967.out.lt
                obtain ⟨cl0, cl1, cl2, cl3, cl4, cl5⟩ := Bl_967.out.cells6
                have n_970 := Be_966.out.lt
                have n_971 := Bl_967.out.lt
                go_wp2_with fail
                refine (sup_at _ Aac Aag Aar cac cag car za nd eA ec (pts f) 60 160 60 124 eza (ZA.out.below (below_al HB_968.out _)) (HS.out.below (below_al HB_968.out _)) Lza2.out (fun i hi => pt_lim (LD.out i hi)) (by omega) (HT.out.below (below_al HB_968.out _))).mono ?_
                rintro e w13 ⟨⟨r, rfl, hr⟩, hb⟩
                clear le ce0 ce1 ce2 ll cl0 cl1 cl2 cl3 cl4 cl5
                have K := Dk.trans ((Dk.refl _).alloc _) (.below hb)
                have Be_972 := Lib.hid (show Bk _ _ _ #[.bool p.b, .slice p.A p.n p.c, .int .i64 ((hull (lowZ za 1 30) (lowZ zb 1 30) 30).sup (pts f) 2000).x] from (Be_966.out.alloc _).below hb)
                have Bl_973 := Lib.hid (show Bk _ _ _ #[.slice Aac nd cac, .slice Aag za.m cag, .slice Aar nd car, .slice Abc nd cbc, .slice Abg zb.m cbg, .slice Abr nd cbr] from (Bl_967.out.alloc _).below hb)
                have Bz_974 := Lib.hid (show Bk _ _ _ #[.slice Aac nd cac, .slice Aag za.m cag, .slice Aar nd car] from (Bk.new _ 42 #[.slice Aac nd cac, .slice Aag za.m cag, .slice Aar nd car]).below hb)
                have HB_975 := Lib.hid (below_tr (below_al HB_968.out _) hb)
                clear hb
                have RP_976 := Lib.hid (RP_969.out.dk K)
                clear K Be_966 Bl_967 HB_968 RP_969
                have RS_977 := Lib.hid hr
                clear hr
                have le := Be_972.out.lt
                obtain ⟨ce0, ce1, ce2⟩ := Be_972.out.cells3
                have ll := Bl_973.out.lt
                obtain ⟨cl0, cl1, cl2, cl3, cl4, cl5⟩ := Bl_973.out.cells6
                have lz := Bz_974.out.lt
                obtain ⟨cz0, cz1, cz2⟩ := Bz_974.out.cells3
                have n_978 := Be_972.out.lt
                have n_979 := Bl_973.out.lt
                have n_980 := Bz_974.out.lt
                go_wp2_with fail
                refine (dless_is _ p r ((hull (lowZ za 1 30) (lowZ zb 1 30) 30).sup (pts f) 2000) (za.sup (pts f) 2000) 121 330 false (RP_976.out.dk ((Dk.refl _).alloc _)) (RS_977.out.dk ((Dk.refl _).alloc _)) SH.out SA.out (by omega) NA.out).mono ?_
                rintro e w14 ⟨rfl, hb⟩
                clear le ce0 ce1 ce2 ll cl0 cl1 cl2 cl3 cl4 cl5 lz cz0 cz1 cz2
                have K := Dk.trans ((Dk.refl _).alloc _) (.below hb)
                have Be_981 := Lib.hid (show Bk _ _ _ #[.bool p.b, .slice p.A p.n p.c, .int .i64 ((hull (lowZ za 1 30) (lowZ zb 1 30) 30).sup (pts f) 2000).x] from (Be_972.out.alloc _).below hb)
                have Bl_982 := Lib.hid (show Bk _ _ _ #[.slice Aac nd cac, .slice Aag za.m cag, .slice Aar nd car, .slice Abc nd cbc, .slice Abg zb.m cbg, .slice Abr nd cbr] from (Bl_973.out.alloc _).below hb)
                have Bz_983 := Lib.hid (show Bk _ _ _ #[.slice Aac nd cac, .slice Aag za.m cag, .slice Aar nd car] from (Bz_974.out.alloc _).below hb)
                have Bs_984 := Lib.hid (show Bk _ _ _ #[.bool r.b, .slice r.A r.n r.c, .int .i64 (za.sup (pts f) 2000).x] from (Bk.new _ 53 #[.bool r.b, .slice r.A r.n r.c, .int .i64 (za.sup (pts f) 2000).x]).below hb)
                have HB_985 := Lib.hid (below_tr (below_al HB_975.out _) hb)
                clear hb
                have RP_986 := Lib.hid (RP_976.out.dk K)
                have RS_987 := Lib.hid (RS_977.out.dk K)
                clear K Be_972 Bl_973 Bz_974 HB_975 RP_976 RS_977
                have le := Be_981.out.lt
                obtain ⟨ce0, ce1, ce2⟩ := Be_981.out.cells3
                have ll := Bl_982.out.lt
                obtain ⟨cl0, cl1, cl2, cl3, cl4, cl5⟩ := Bl_982.out.cells6
                have lz := Bz_983.out.lt
                obtain ⟨cz0, cz1, cz2⟩ := Bz_983.out.cells3
                have ls := Bs_984.out.lt
                obtain ⟨cs0, cs1, cs2⟩ := Bs_984.out.cells3
                go_wp2
                go_roundw
                case rel => exact ⟨1, by go_num, by omega, Lib.hid ⟨Be_981.out, Bl_982.out, HB_985.out, RP_986.out⟩⟩
                case measure => simp only [intOf]; omega
              by_cases hi1 : i = 1
              · subst hi1
                have le := Be_966.out.lt
                obtain ⟨ce0, ce1, ce2⟩ := Be_966.out.cells3
                have ll := Bl_967.out.lt
                obtain ⟨cl0, cl1, cl2, cl3, cl4, cl5⟩ := Bl_967.out.cells6
                have n_1070 := Be_966.out.lt
                have n_1071 := Bl_967.out.lt
                go_wp2_with fail
                refine (sup_at _ Abc Abg Abr cbc cbg cbr zb nd eA ec (pts f) 60 160 60 124 ezb (ZB.out.below (below_al HB_968.out _)) (HS.out.below (below_al HB_968.out _)) Lzb2.out (fun i hi => pt_lim (LD.out i hi)) (by omega) (HT.out.below (below_al HB_968.out _))).mono ?_
                rintro e w13 ⟨⟨r, rfl, hr⟩, hb⟩
                clear le ce0 ce1 ce2 ll cl0 cl1 cl2 cl3 cl4 cl5
                have K := Dk.trans ((Dk.refl _).alloc _) (.below hb)
                have Be_1072 := Lib.hid (show Bk _ _ _ #[.bool p.b, .slice p.A p.n p.c, .int .i64 ((hull (lowZ za 1 30) (lowZ zb 1 30) 30).sup (pts f) 2000).x] from (Be_966.out.alloc _).below hb)
                have Bl_1073 := Lib.hid (show Bk _ _ _ #[.slice Aac nd cac, .slice Aag za.m cag, .slice Aar nd car, .slice Abc nd cbc, .slice Abg zb.m cbg, .slice Abr nd cbr] from (Bl_967.out.alloc _).below hb)
                have Bz_1074 := Lib.hid (show Bk _ _ _ #[.slice Abc nd cbc, .slice Abg zb.m cbg, .slice Abr nd cbr] from (Bk.new _ 42 #[.slice Abc nd cbc, .slice Abg zb.m cbg, .slice Abr nd cbr]).below hb)
                have HB_1075 := Lib.hid (below_tr (below_al HB_968.out _) hb)
                clear hb
                have RP_1076 := Lib.hid (RP_969.out.dk K)
                clear K Be_966 Bl_967 HB_968 RP_969
                have RS_1077 := Lib.hid hr
                clear hr
                have le := Be_1072.out.lt
                obtain ⟨ce0, ce1, ce2⟩ := Be_1072.out.cells3
                have ll := Bl_1073.out.lt
                obtain ⟨cl0, cl1, cl2, cl3, cl4, cl5⟩ := Bl_1073.out.cells6
                have lz := Bz_1074.out.lt
                obtain ⟨cz0, cz1, cz2⟩ := Bz_1074.out.cells3
                have n_1078 := Be_1072.out.lt
                have n_1079 := Bl_1073.out.lt
                have n_1080 := Bz_1074.out.lt
                go_wp2_with fail
                refine (dless_is _ p r ((hull (lowZ za 1 30) (lowZ zb 1 30) 30).sup (pts f) 2000) (zb.sup (pts f) 2000) 121 330 false (RP_1076.out.dk ((Dk.refl _).alloc _)) (RS_1077.out.dk ((Dk.refl _).alloc _)) SH.out SB.out (by omega) NB.out).mono ?_
                rintro e w14 ⟨rfl, hb⟩
                clear le ce0 ce1 ce2 ll cl0 cl1 cl2 cl3 cl4 cl5 lz cz0 cz1 cz2
                have K := Dk.trans ((Dk.refl _).alloc _) (.below hb)
                have Be_1081 := Lib.hid (show Bk _ _ _ #[.bool p.b, .slice p.A p.n p.c, .int .i64 ((hull (lowZ za 1 30) (lowZ zb 1 30) 30).sup (pts f) 2000).x] from (Be_1072.out.alloc _).below hb)
                have Bl_1082 := Lib.hid (show Bk _ _ _ #[.slice Aac nd cac, .slice Aag za.m cag, .slice Aar nd car, .slice Abc nd cbc, .slice Abg zb.m cbg, .slice Abr nd cbr] from (Bl_1073.out.alloc _).below hb)
                have Bz_1083 := Lib.hid (show Bk _ _ _ #[.slice Abc nd cbc, .slice Abg zb.m cbg, .slice Abr nd cbr] from (Bz_1074.out.alloc _).below hb)
                have Bs_1084 := Lib.hid (show Bk _ _ _ #[.bool r.b, .slice r.A r.n r.c, .int .i64 (zb.sup (pts f) 2000).x] from (Bk.new _ 53 #[.bool r.b, .slice r.A r.n r.c, .int .i64 (zb.sup (pts f) 2000).x]).below hb)
                have HB_1085 := Lib.hid (below_tr (below_al HB_1075.out _) hb)
                clear hb
                have RP_1086 := Lib.hid (RP_1076.out.dk K)
                have RS_1087 := Lib.hid (RS_1077.out.dk K)
                clear K Be_1072 Bl_1073 Bz_1074 HB_1075 RP_1076 RS_1077
                have le := Be_1081.out.lt
                obtain ⟨ce0, ce1, ce2⟩ := Be_1081.out.cells3
                have ll := Bl_1082.out.lt
                obtain ⟨cl0, cl1, cl2, cl3, cl4, cl5⟩ := Bl_1082.out.cells6
                have lz := Bz_1083.out.lt
                obtain ⟨cz0, cz1, cz2⟩ := Bz_1083.out.cells3
                have ls := Bs_1084.out.lt
                obtain ⟨cs0, cs1, cs2⟩ := Bs_1084.out.cells3
                go_wp2
                go_roundw
                case rel => exact ⟨2, by go_num, by omega, Lib.hid ⟨Be_1081.out, Bl_1082.out, HB_1085.out, RP_1086.out⟩⟩
                case measure => simp only [intOf]; omega
              obtain rfl : i = 2 := by omega
              skip
              have le := Be_966.out.lt
              obtain ⟨ce0, ce1, ce2⟩ := Be_966.out.cells3
              have ll := Bl_967.out.lt
              obtain ⟨cl0, cl1, cl2, cl3, cl4, cl5⟩ := Bl_967.out.cells6
              go_wp2
              go_ret
              exact ⟨rfl, below_tr BASE_963.out HB_968.out⟩

end Go.Proofs.YtgioppkggpfnoaaDoor.Nu
end

section
/- What the join and reduce rows of this seat share: the listed table as the walks read it, a world for the witness, the call's end. -/
namespace Go.Proofs.YtgioppkggpfnoaaDoor.Nu
open Go.ChangeShapes Go.WideShapes Go.ChangeAt Go.RowKit Go.Proofs

section
variable {H : Type} {enc : TypeId × Value → H} {P : Program}
theorem post_of_below {f : Func} {s : ChangeSpec} {apart fresh handsOn again : Bool} {W W' : World} {args : Array Value} {v : Value} {ds gs : List (DataW H)} {before pa pv : List MemPlace}
    (hW : DataW.Whole enc P f.params.toList s.vars apart W args.toList ds gs before)
    (hres : ∀ (b : Nat) (sp : Nat → Bool) (hd : Bool), DataW.TrodAll enc P W' b sp hd f.resultTypes.toList (v.resultList f.resultTypes.size) (s.fn H (ds ++ gs)).results [])
    (hargs : ∀ sp : Nat → Bool, (∀ p ∈ before, sp p.block = true) → DataW.TrodAll enc P W' 0 sp true f.params.toList args.toList (s.fn H (ds ++ gs)).args pa)
    (hvars : ∀ sp : Nat → Bool, (∀ p ∈ before, sp p.block = true) → DataW.TrodVars enc P W' sp s.vars (s.fn H (ds ++ gs)).vars pv)
    (hps : before = pa ++ pv) (hb : Below W.heap.size W W')
    (hok : ∀ (j : Nat) (t : TypeId) (r : Value), f.resultTypes[j]? = some t → (v.resultList f.resultTypes.size)[j]? = some r → Value.okWide P W' .any 0 t r) :
    s.post enc P f apart fresh handsOn again W args v W' := by
  have hlt : ∀ p ∈ before, p.block < W.heap.size := fun p hp => hW.lt p hp
  have hold : ∀ p ∈ before, (fun b => decide (b < W.heap.size)) p.block = true := fun p hp => by simpa using hlt p hp
  refine ⟨ds, gs, before, [], pa, pv, hW, hres _ _ _, hargs _ hold, hvars _ hold, World.keptBut_mono (fun p hp => ⟨hp, ?_⟩) (hb.frame (· ∈ before)), fun _ => ?_⟩
  · rw [hps, List.mem_append] at hp
    exact Or.inr hp
  · obtain ⟨_, _, _, _, _, hz, hn⟩ := hW
    refine ⟨hok, _, _, ([] ++ pa) ++ pv, ⟨[] ++ pa, pv, trodAll_append (hargs _ (fun _ _ => rfl)) (hres _ _ _), hvars _ (fun _ _ => rfl), rfl, ?_, ?_⟩, ?_⟩
    · intro b off hp
      have hin : MemPlace.cell b off ∈ before := by rw [hps]; simpa using hp
      rw [hb.frozen (hlt _ hin)]
      exact hz b off hin
    · intro ha
      have := hn ha
      rw [hps] at this
      simpa using this
    · intro p hp _
      rw [hps]
      simpa using hp
end

theorem own : ownKnob Tryd.prog.godebug = none := by kernel_rfl
theorem gBru : Tryd.prog.globalNamed "math/bits.deBruijn32tab" = some 1 := by kernel_rfl
theorem gBruType : (Tryd.prog.globals[1]?).map (·.type) = some 243 := by kernel_rfl
theorem cellsU8 : Tryd.prog.cellsOf 5 = 1 := by kernel_rfl
theorem cellsBru : Tryd.prog.cellsOf 243 = 32 := by kernel_rfl
/-- What the rows list. -/
def laidList {H : Type} : List (String × DataW H) := [("math/bits.deBruijn32tab", Rows.laid_math_bits_deBruijn32tab)]
theorem bruData : (Rows.laid_math_bits_deBruijn32tab : DataW Unit) = Lib.tabData .u8 bruijn := by kernel_rfl
theorem btab {W : World} (h : laidMetH Tryd.prog laidList W) : BTab W := by
  have h' : laidMet Tryd.prog [("math/bits.deBruijn32tab", Rows.laid_math_bits_deBruijn32tab)] W := h
  rw [bruData] at h'
  have hT := Lib.tabIs_of_head (rest := []) gBru gBruType Tryd.underlying243 Tryd.underlying5 cellsU8 cellsBru h'
  have hc : ∀ j v, bruijn[j]? = some v → W.cell? ⟨1, j, none⟩ = some (.int .u8 v) := fun j v hj => by
    have hlt : j < bruijn.length := (List.getElem?_eq_some_iff.1 hj).1
    rw [hT.cell gBru j hlt]
    simp [List.getD, hj]
  exact ⟨cell_lt (hc 0 0 rfl), hc⟩
/-- A world for the witness: the settled one, the listed table as its initialiser laid it. -/
noncomputable def laidWorld (os : Os) : World :=
  let w0 := World.holding Tryd.prog os ⟨#[], #[], []⟩
  { w0 with heap := w0.heap.modify 1 fun
    | .cells _ t frozen => .cells (bruijn.map fun z => Value.int .u8 z).toArray t frozen
    | o => o }
theorem laid_met (os : Os) (args : Array Value) : laidMet Tryd.prog laidList ((laidWorld os).forCall (fun _ _ => 0) ⟨#[], args, []⟩).memory :=
  laidMet_of_run' 10 (by kernel_rfl) (by kernel_rfl)
end Go.Proofs.YtgioppkggpfnoaaDoor.Nu
end

section
/- What a row's arguments are, read raw: rows of digits, numbers times powers of two, lists of them, lists of lists, sets. -/
set_option linter.unusedVariables false
namespace Go.Proofs.YtgioppkggpfnoaaDoor.Nu
open Go.ChangeShapes Go.WideShapes Go.ChangeAt Go.RowKit Go.Proofs

theorem len_two {α : Type} : ∀ {l : List α}, l.length = 2 → ∃ a b, l = [a, b]
  | [a, b], _ => ⟨a, b, rfl⟩
theorem len_three {α : Type} : ∀ {l : List α}, l.length = 3 → ∃ a b c, l = [a, b, c]
  | [a, b, c], _ => ⟨a, b, c, rfl⟩
theorem laidOut : laidOutB Tryd.prog = true := by kernel_rfl
theorem cellsU32 : Tryd.prog.cellsOf 118 = 1 := by kernel_rfl
theorem cellsB : Tryd.prog.cellsOf 4 = 1 := by kernel_rfl
theorem cellsN : Tryd.prog.cellsOf 23 = 1 := by kernel_rfl
theorem cellsI : Tryd.prog.cellsOf 3 = 1 := by kernel_rfl
theorem cellsInt : Tryd.prog.cellsOf 51 = 2 := by kernel_rfl
theorem cellsDy : Tryd.prog.cellsOf 53 = 3 := by kernel_rfl
theorem cellsL : Tryd.prog.cellsOf 39 = 1 := by kernel_rfl
theorem cellsLL : Tryd.prog.cellsOf 40 = 1 := by kernel_rfl
theorem cellsZo : Tryd.prog.cellsOf 42 = 3 := by kernel_rfl
section
variable {H : Type} {enc : TypeId × Value → H} {w : World} {sp : Nat → Bool} {held : Bool} {fuel : Nat} {cs : List Value} {x : DataW H × List MemPlace}
theorem spot_of {w : World} {a : Addr} {v : Value} (h : w.cell? a = some v) : a = ⟨a.block, a.off, none⟩ := by
  obtain ⟨b, o, s⟩ := a
  cases s with
  | none => rfl
  | some k =>
    unfold World.cell? at h
    split at h
    · simp at h
    · cases h
/-- A list's elements: where they lie, each as it reads. -/
theorem list_raw {t e : TypeId} {k : Nat} (ht : Tryd.prog.underlying t = some (.slice e)) (hk : Tryd.prog.cellsOf e = k) (hk0 : 0 < k) (h : DataW.trod enc Tryd.prog w 0 sp held fuel t cs = some x) :
    ∃ (A : Option Addr) (n c : Nat), cs = [.slice A n c] ∧ n ≤ c ∧ n ≤ 9223372036854775807 ∧ (A = none → c = 0) ∧ (0 < n → ∃ b off, A = some ⟨b, off, none⟩ ∧ b < w.heap.size ∧
      ∀ j, j < n → ∃ cs' m y, cs'.length = k ∧ (∀ i, i < k → w.cell? ⟨b, off + j * k + i, none⟩ = cs'[i]?) ∧ DataW.trod enc Tryd.prog w 0 sp held m e cs' = some y) := by
  rcases DataW.trod_slice ht h with ⟨rfl, _⟩ | ⟨a, len, cap, elems, rest, m, _, rfl, _, _, hl, hm, hlen, hel, _, _⟩
  · exact ⟨none, 0, 0, rfl, Nat.le_refl _, by omega, fun _ => rfl, fun h => absurd h (Nat.lt_irrefl _)⟩
  · refine ⟨some a, len, cap, rfl, hl, by have : cap ≤ 2 ^ 63 - 1 := hm; omega, (fun e => by cases e), fun h0 => ?_⟩
    have each : ∀ j, j < len → ∃ cs' y, cs'.length = k ∧ (∀ i, i < k → w.cell? ((a.add (j * k)).add i) = cs'[i]?) ∧ DataW.trod enc Tryd.prog w 0 sp held m e cs' = some y := fun j hj => by
      have hb := hel j hj
      rw [hk] at hb
      obtain ⟨y, hy⟩ : ∃ y, elems[j]? = some y := ⟨elems[j]'(by omega), List.getElem?_eq_getElem (by omega)⟩
      rw [hy] at hb
      obtain ⟨cs', hc, ht'⟩ := Option.bind_eq_some_iff.1 hb
      obtain ⟨_, h1, h2⟩ := World.cells?_some hc
      exact ⟨cs', y, h1, h2, ht'⟩
    have hsp : a = ⟨a.block, a.off, none⟩ := by
      obtain ⟨cs', y, h1, h2, _⟩ := each 0 h0
      have h3 := h2 0 hk0
      obtain ⟨v, hv⟩ : ∃ v, cs'[0]? = some v := ⟨cs'[0]'(by omega), List.getElem?_eq_getElem (by omega)⟩
      rw [hv, Nat.zero_mul] at h3
      have e0 : ∀ a : Addr, a.add 0 = a := fun a => by simp [Addr.add]
      rw [e0, e0] at h3
      exact spot_of h3
    have hadd : ∀ j i, (a.add j).add i = ⟨a.block, a.off + j + i, none⟩ := fun j i => by
      rw [hsp, Addr.add_lit, Addr.add_lit]
    have hlt : a.block < w.heap.size := by
      obtain ⟨cs', y, h1, h2, _⟩ := each 0 h0
      have h3 := h2 0 hk0
      obtain ⟨v, hv⟩ : ∃ v, cs'[0]? = some v := ⟨cs'[0]'(by omega), List.getElem?_eq_getElem (by omega)⟩
      rw [hv, hadd] at h3
      exact cell_lt h3
    refine ⟨a.block, a.off, by rw [← hsp], hlt, fun j hj => ?_⟩
    obtain ⟨cs', y, h1, h2, h3⟩ := each j hj
    exact ⟨cs', m, y, h1, fun i hi => by rw [← hadd]; exact h2 i hi, h3⟩
theorem nat_raw (h : DataW.trod enc Tryd.prog w 0 sp held fuel 23 cs = some x) : ∃ (A : Option Addr) (n c : Nat) (xs : List Nat), cs = [.slice A n c] ∧ RL2 w A n xs ∧ n ≤ c := by
  obtain ⟨A, n, c, rfl, hc, hn, _, hel⟩ := list_raw Tryd.underlying23 cellsU32 (by omega) h
  have each : ∀ j, ∃ z : Nat, j < n → z < 4294967296 ∧ ∃ b off, A = some ⟨b, off, none⟩ ∧ b < w.heap.size ∧ w.cell? ⟨b, off + j, none⟩ = some (.int .u32 z) := fun j => by
    by_cases hj : j < n
    · obtain ⟨b, off, hA, hlt, hh⟩ := hel (by omega)
      obtain ⟨cs', m, y, h1, h2, h3⟩ := hh j hj
      obtain ⟨z, rfl, _, hw⟩ := DataW.trod_int Tryd.underlying118 h3
      have hb := bounds_u32 hw
      refine ⟨z.toNat, fun _ => ⟨by omega, b, off, hA, hlt, ?_⟩⟩
      have h4 := h2 0 (by omega)
      rw [Nat.mul_one, Nat.add_zero] at h4
      rw [h4, show ((z.toNat : Nat) : Int) = z by omega]
      rfl
    · exact ⟨0, fun e => absurd e hj⟩
  refine ⟨A, n, c, (List.range n).map fun j => Classical.choose (each j), rfl, ⟨hn, fun h5 => ⟨by simp, by omega, fun z hz => ?_, fun h0 => ?_⟩⟩, hc⟩
  · obtain ⟨j, hj, rfl⟩ := List.mem_map.1 hz
    exact (Classical.choose_spec (each j) (List.mem_range.1 hj)).1
  · obtain ⟨_, b, off, hA, hlt, _⟩ := Classical.choose_spec (each 0) h0
    refine ⟨b, off, hA, hlt, fun j hj => ?_⟩
    obtain ⟨_, b', off', hA', _, hc'⟩ := Classical.choose_spec (each j) hj
    rw [hA] at hA'
    injection hA' with hA'
    injection hA' with e1 e2
    subst e1 e2
    rw [hc', dg_of (by simpa using hj)]
    simp
theorem int_raw (h : DataW.trod enc Tryd.prog w 0 sp held fuel 51 cs = some x) : ∃ (q : Q) (xs : List Nat), cs = [.bool q.b, .slice q.A q.n q.c] ∧ RL2 w q.A q.n xs ∧ q.n ≤ q.c := by
  obtain ⟨ys, m, _, _, hl, hy, hf⟩ := DataW.trod_struct Tryd.underlying51 h
  rw [cellsInt] at hl
  have h0 : DataW.trod enc Tryd.prog w 0 sp held m 4 ((cs.drop 0).take (Tryd.prog.cellsOf 4)) = ys[0]? := hf 0 _ rfl
  have h1 : DataW.trod enc Tryd.prog w 0 sp held m 23 ((cs.drop 1).take (Tryd.prog.cellsOf 23)) = ys[1]? := hf 1 _ rfl
  simp only [cellsB, cellsN, List.drop_zero] at h0 h1
  obtain ⟨v0, v1, rfl⟩ := len_two hl
  have hy2 : ys.length = 2 := hy
  obtain ⟨y0, e0⟩ : ∃ y, ys[0]? = some y := ⟨ys[0]'(by omega), List.getElem?_eq_getElem (by omega)⟩
  obtain ⟨y1, e1⟩ : ∃ y, ys[1]? = some y := ⟨ys[1]'(by omega), List.getElem?_eq_getElem (by omega)⟩
  rw [e0] at h0
  rw [e1] at h1
  obtain ⟨b, hb, _⟩ := DataW.trod_bool Tryd.underlying4 h0
  obtain ⟨A, n, c, xs, hc, hr, hn⟩ := nat_raw h1
  simp at hb hc
  subst hb hc
  exact ⟨⟨b, A, n, c⟩, xs, rfl, hr, hn⟩
theorem dyad_raw (h : DataW.trod enc Tryd.prog w 0 sp held fuel 53 cs = some x) : ∃ (q : Q) (xs : List Nat) (z : Int), cs = [.bool q.b, .slice q.A q.n q.c, .int .i64 z] ∧ RL2 w q.A q.n xs ∧ q.n ≤ q.c := by
  obtain ⟨ys, m, _, _, hl, hy, hf⟩ := DataW.trod_struct Tryd.underlying53 h
  rw [cellsDy] at hl
  have h0 : DataW.trod enc Tryd.prog w 0 sp held m 51 ((cs.drop 0).take (Tryd.prog.cellsOf 51)) = ys[0]? := hf 0 _ rfl
  have h1 : DataW.trod enc Tryd.prog w 0 sp held m 3 ((cs.drop 2).take (Tryd.prog.cellsOf 3)) = ys[1]? := hf 1 _ rfl
  simp only [cellsInt, cellsI, List.drop_zero] at h0 h1
  obtain ⟨v0, v1, v2, rfl⟩ := len_three hl
  have hy2 : ys.length = 2 := hy
  obtain ⟨y0, e0⟩ : ∃ y, ys[0]? = some y := ⟨ys[0]'(by omega), List.getElem?_eq_getElem (by omega)⟩
  obtain ⟨y1, e1⟩ : ∃ y, ys[1]? = some y := ⟨ys[1]'(by omega), List.getElem?_eq_getElem (by omega)⟩
  rw [e0] at h0
  rw [e1] at h1
  obtain ⟨q, xs, hb, hr, hn⟩ := int_raw h0
  obtain ⟨z, hz, _, _⟩ := DataW.trod_int Tryd.underlying3 h1
  simp at hb hz
  obtain ⟨rfl, rfl⟩ := hb
  subst hz
  exact ⟨q, xs, z, rfl, hr, hn⟩
theorem dyads_raw (h : DataW.trod enc Tryd.prog w 0 sp held fuel 39 cs = some x) : ∃ (A : Option Addr) (n c : Nat), cs = [.slice A n c] ∧ RawD w A n c ∧ (A = none → c = 0) := by
  obtain ⟨A, n, c, rfl, hc, hn, hnil, hel⟩ := list_raw Tryd.underlying39 cellsDy (by omega) h
  refine ⟨A, n, c, rfl, ⟨hc, hn, fun h0 => ?_⟩, hnil⟩
  obtain ⟨b, off, hA, hlt, hh⟩ := hel h0
  refine ⟨b, off, hA, hlt, fun j hj => ?_⟩
  obtain ⟨cs', m, y, h1, h2, h3⟩ := hh j hj
  obtain ⟨q, xs, z, rfl, hr, hq⟩ := dyad_raw h3
  exact ⟨q, xs, z, ⟨h2 0 (by omega), h2 1 (by omega), h2 2 (by omega)⟩, hr, hq⟩
theorem rows_raw (h : DataW.trod enc Tryd.prog w 0 sp held fuel 40 cs = some x) : ∃ (A : Option Addr) (n c : Nat), cs = [.slice A n c] ∧ RawR w A n c ∧ (A = none → c = 0) := by
  obtain ⟨A, n, c, rfl, hc, hn, hnil, hel⟩ := list_raw Tryd.underlying40 cellsL (by omega) h
  refine ⟨A, n, c, rfl, ⟨hc, hn, fun h0 => ?_⟩, hnil⟩
  obtain ⟨b, off, hA, hlt, hh⟩ := hel h0
  refine ⟨b, off, hA, hlt, fun j hj => ?_⟩
  obtain ⟨cs', m, y, h1, h2, h3⟩ := hh j hj
  obtain ⟨A', n', c', rfl, hr, _⟩ := dyads_raw h3
  have h4 := h2 0 (by omega)
  rw [Nat.mul_one, Nat.add_zero] at h4
  exact ⟨A', n', c', h4, hr⟩
theorem set_raw (h : DataW.trod enc Tryd.prog w 0 sp held fuel 42 cs = some x) : ∃ (Ac Ag Ar : Option Addr) (nc cc m cg nr cr : Nat), cs = [.slice Ac nc cc, .slice Ag m cg, .slice Ar nr cr] ∧ RawD w Ac nc cc ∧ RawR w Ag m cg ∧ RawD w Ar nr cr ∧ (Ag = none → cg = 0) := by
  obtain ⟨ys, k, _, _, hl, hy, hf⟩ := DataW.trod_struct Tryd.underlying42 h
  rw [cellsZo] at hl
  have h0 : DataW.trod enc Tryd.prog w 0 sp held k 39 ((cs.drop 0).take (Tryd.prog.cellsOf 39)) = ys[0]? := hf 0 _ rfl
  have h1 : DataW.trod enc Tryd.prog w 0 sp held k 40 ((cs.drop 1).take (Tryd.prog.cellsOf 40)) = ys[1]? := hf 1 _ rfl
  have h2 : DataW.trod enc Tryd.prog w 0 sp held k 39 ((cs.drop 2).take (Tryd.prog.cellsOf 39)) = ys[2]? := hf 2 _ rfl
  simp only [cellsL, cellsLL, List.drop_zero] at h0 h1 h2
  obtain ⟨v0, v1, v2, rfl⟩ := len_three hl
  have hy2 : ys.length = 3 := hy
  obtain ⟨y0, e0⟩ : ∃ y, ys[0]? = some y := ⟨ys[0]'(by omega), List.getElem?_eq_getElem (by omega)⟩
  obtain ⟨y1, e1⟩ : ∃ y, ys[1]? = some y := ⟨ys[1]'(by omega), List.getElem?_eq_getElem (by omega)⟩
  obtain ⟨y2, e2⟩ : ∃ y, ys[2]? = some y := ⟨ys[2]'(by omega), List.getElem?_eq_getElem (by omega)⟩
  rw [e0] at h0
  rw [e1] at h1
  rw [e2] at h2
  obtain ⟨Ac, nc, cc, hc, hrc, _⟩ := dyads_raw h0
  obtain ⟨Ag, m, cg, hg, hrg, hnil⟩ := rows_raw h1
  obtain ⟨Ar, nr, cr, hr, hrr, _⟩ := dyads_raw h2
  simp at hc hg hr
  subst hc hg hr
  exact ⟨Ac, Ag, Ar, nc, cc, m, cg, nr, cr, rfl, hrc, hrg, hrr, hnil⟩
end
set_option maxRecDepth 100000 in
/-- A set that comes in. -/
theorem open_set {H : Type} {enc : TypeId × Value → H} {W : World} {sp : Nat → Bool} {held : Bool} {base : Nat} {v : Value} {d : DataW H} {ps : List MemPlace} (hv : Value.okWide Tryd.prog W .any base 42 v) (h : DataW.Trod enc Tryd.prog W 0 sp held 42 v d ps) :
    ∃ (Ac Ag Ar : Option Addr) (nc cc m cg nr cr : Nat), v = .agg #[.slice Ac nc cc, .slice Ag m cg, .slice Ar nr cr] ∧ RawD W Ac nc cc ∧ RawR W Ag m cg ∧ RawD W Ar nr cr ∧ (Ag = none → cg = 0) := by
  obtain ⟨cs, rfl, _⟩ := okWide_struct Tryd.underlying42 hv
  obtain ⟨n, hn⟩ := h
  obtain ⟨Ac, Ag, Ar, nc, cc, m, cg, nr, cr, e, h1, h2, h3, h4⟩ := set_raw hn
  refine ⟨Ac, Ag, Ar, nc, cc, m, cg, nr, cr, ?_, h1, h2, h3, h4⟩
  have e2 : cs = #[.slice Ac nc cc, .slice Ag m cg, .slice Ar nr cr] := by
    cases cs
    simp only [Value.cells] at e
    rw [e]
  rw [e2]
set_option maxRecDepth 100000 in
theorem open_dyads {H : Type} {enc : TypeId × Value → H} {W : World} {sp : Nat → Bool} {held : Bool} {base : Nat} {v : Value} {d : DataW H} {ps : List MemPlace} (hv : Value.okWide Tryd.prog W .any base 39 v) (h : DataW.Trod enc Tryd.prog W 0 sp held 39 v d ps) :
    ∃ (A : Option Addr) (n c : Nat), v = .slice A n c ∧ RawD W A n c := by
  obtain ⟨a, l, k, rfl⟩ := okWide_slice Tryd.underlying39 hv
  obtain ⟨n, hn⟩ := h
  obtain ⟨A, n, c, e, h1, _⟩ := dyads_raw hn
  refine ⟨A, n, c, ?_, h1⟩
  simp only [Value.cells] at e
  injection e
end Go.Proofs.YtgioppkggpfnoaaDoor.Nu
end
