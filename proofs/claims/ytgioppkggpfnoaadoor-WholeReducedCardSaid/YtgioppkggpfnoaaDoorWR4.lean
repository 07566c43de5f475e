/- Texts of the seat, laid together: Order, Doubled, Along, Merge, SMul, Inner, DCheck, Big, Raw, Gens, Points, ZCheck, ZOk, SmP, FitR. -/
import Derived.Test.YtgioppkggpfnoaaDoorWR3
import Derived.RegionTactic
import Derived.StillTailTactics
import Derived.Deep.RegionHeld3
import Derived.Deep.DeepCutAuto
import Derived.Deep.CutBlock
import Derived.LoopN
import Derived.Maps.AppendAt
set_option linter.all false
set_option exponentiation.threshold 20000
section
/- The walk of reduce.Order. -/
set_option linter.unusedVariables false
namespace Go.Proofs.YtgioppkggpfnoaaDoor.Nu
open Go.RowKit Go.Proofs

theorem infoG : (Tryd.prog.info? 176).map (fun i => (i.zero, i.size, i.bytes)) = some (some (.agg #[.slice none 0 0, .bool false, .slice none 0 0, .int .i64 0]), 4, 64) := by kernel_rfl
theorem one4 {A' : Option Addr} {n' c' : Nat} {b : Bool} {A : Option Addr} {n c : Nat} {x : Int} : ∀ u ∈ ([Value.slice A' n' c', .bool b, .slice A n c, .int .i64 x] : List Value), u.oneCell' = true := by
  intro u hu
  simp only [List.mem_cons, List.not_mem_nil, or_false] at hu
  rcases hu with rfl | rfl | rfl | rfl <;> rfl
theorem no4 {A' : Option Addr} {n' c' : Nat} {b : Bool} {A : Option Addr} {n c : Nat} {x : Int} : ∀ u ∈ ([Value.slice A' n' c', .bool b, .slice A n c, .int .i64 x] : List Value), ∀ y : Int, u ≠ .int .u32 y := by
  intro u hu y
  simp only [List.mem_cons, List.not_mem_nil, or_false] at hu
  rcases hu with rfl | rfl | rfl | rfl <;> intro h <;> cases h
theorem no_gen : NoU (Value.agg #[.slice none 0 0, .bool false, .slice none 0 0, .int .i64 0]).cells := by
  intro u hu
  have hu' : u ∈ ([Value.slice none 0 0, .bool false, .slice none 0 0, .int .i64 0] : List Value) := by simpa [Value.cells] using hu
  exact no4 u hu'
theorem one1 {A : Option Addr} {n c : Nat} : ∀ u ∈ ([Value.slice A n c] : List Value), u.oneCell' = true := by
  intro u hu
  simp only [List.mem_cons, List.not_mem_nil, or_false] at hu
  subst hu; rfl
theorem no1 {A : Option Addr} {n c : Nat} : ∀ u ∈ ([Value.slice A n c] : List Value), ∀ y : Int, u ≠ .int .u32 y := by
  intro u hu y
  simp only [List.mem_cons, List.not_mem_nil, or_false] at hu
  subst hu; intro h; cases h
theorem no_sl : NoU (Value.slice none 0 0).cells := by
  intro u hu
  have hu' : u ∈ ([Value.slice none 0 0] : List Value) := by simpa [Value.cells] using hu
  exact no1 u hu'
/-- Element j of the list: a way, and its spread. -/
def inG (w wr : World) (n : Nat) (xs : List Value) (j : Nat) (d : D) (y : Nat → D) : Prop :=
  ∃ (A : Option Addr) (c : Nat) (q : Q), xs[j * 4]? = some (.slice A n c) ∧ xs[j * 4 + 1]? = some (.bool q.b) ∧ xs[j * 4 + 2]? = some (.slice q.A q.n q.c) ∧ xs[j * 4 + 3]? = some (.int .i64 d.x) ∧ RD wr q d ∧ RDs w A n c y
theorem inG.dk {w wr wr' : World} {n : Nat} {xs : List Value} {j : Nat} {d : D} {y : Nat → D} (h : inG w wr n xs j d y) (k : Dk wr wr') : inG w wr' n xs j d y := by
  obtain ⟨A, c, q, a0, a1, a2, a3, hr, hy⟩ := h
  exact ⟨A, c, q, a0, a1, a2, a3, hr.dk k, hy⟩
theorem inG.app {w wr : World} {n : Nat} {xs ys : List Value} {j i : Nat} {d : D} {y : Nat → D} (h : inG w wr n xs j d y) (hl : xs.length = i * 4) (hj : j < i) : inG w wr n (xs ++ ys) j d y := by
  have hlt : ∀ c, c < 4 → (xs ++ ys)[j * 4 + c]? = xs[j * 4 + c]? := fun c hc => List.getElem?_append_left (by omega)
  obtain ⟨A, c, q, a0, a1, a2, a3, hr, hy⟩ := h
  exact ⟨A, c, q, (hlt 0 (by omega)).trans a0, (hlt 1 (by omega)).trans a1, (hlt 2 (by omega)).trans a2, (hlt 3 (by omega)).trans a3, hr, hy⟩
theorem inG.last {w wr : World} {n : Nat} {xs : List Value} {i : Nat} {A : Option Addr} {c : Nat} {q : Q} {d : D} {y : Nat → D} (hl : xs.length = i * 4) (hr : RD wr q d) (hy : RDs w A n c y) : inG w wr n (xs ++ ([Value.slice A n c, .bool q.b, .slice q.A q.n q.c, .int .i64 d.x] : List Value)) i d y := by
  have hlt : ∀ c', (xs ++ ([Value.slice A n c, .bool q.b, .slice q.A q.n q.c, .int .i64 d.x] : List Value))[i * 4 + c']? = ([Value.slice A n c, .bool q.b, .slice q.A q.n q.c, .int .i64 d.x] : List Value)[c']? := fun c' => by
    rw [List.getElem?_append_right (by omega), show i * 4 + c' - xs.length = c' by omega]
  exact ⟨A, c, q, hlt 0, hlt 1, hlt 2, hlt 3, hr, hy⟩
/-- The state ahead of a way: so many are told. -/
def OrdRel (w : World) (z : Zo) (f : Nat → D) (w0 : World) (i : Nat) (v : Value) (wr : World) : Prop :=
  Below w0.heap.size w0 wr ∧ ∃ xs, OW wr 176 4 v i xs ∧ (∀ g, v.ownBlock = some g → w0.heap.size ≤ g) ∧ ∀ j, j < i → inG w wr z.n xs j (f j) (z.g j)
theorem ord_next {w w0 wr wb w6 : World} {z : Zo} {f : Nat → D} {i : Nat} {v v' : Value} {xs : List Value} {A : Option Addr} {c : Nat} {q : Q} (hb : Below w0.heap.size w0 wb) (ho : OW wb 176 4 v i xs) (hg0 : ∀ g, v.ownBlock = some g → w0.heap.size ≤ g)
    (hn : OW w6 176 4 v' (i + 1) (xs ++ [.slice A z.n c, .bool q.b, .slice q.A q.n q.c, .int .i64 (f i).x])) (hg : wb.grownBy w6 v.ownBlock) (hk : Dk wb w6) (hob : v'.ownBlock = v.ownBlock ∨ v'.ownBlock = some wb.heap.size) (hd : Dk wr wb)
    (he : ∀ j, j < i → inG w wr z.n xs j (f j) (z.g j)) (hq : RD wb q (f i)) (hy : RDs w A z.n c (z.g i)) : OrdRel w z f w0 (i + 1) v' w6 := by
  refine ⟨hb.grown hg hb.size hg0, _, hn, fun g h => ?_, fun j hj => ?_⟩
  · rcases hob with e | e
    · exact hg0 g (e ▸ h)
    · rw [h] at e
      injection e with e
      have := hb.size
      omega
  · by_cases e : j = i
    · subst e
      exact inG.last ho.1 (hq.dk hk) hy
    · exact (((he j (by omega)).dk hd).dk hk).app ho.1 (by omega)
theorem ord_rows {w w0 wr : World} {z : Zo} {F : Nat → D} {n : Nat} {v : Value} (h : OrdRel w z F w0 n v wr) (h0 : 0 < n) : ∃ (g cap : Nat) (A : Nat → Option Addr) (C : Nat → Nat) (q : Nat → Q), v = .slice (some ⟨g, 0, none⟩) n cap ∧ n ≤ cap ∧ w0.heap.size ≤ g ∧
    CR wr g 176 4 n (fun i c => [.slice (A i) z.n (C i), .bool (q i).b, .slice (q i).A (q i).n (q i).c, .int .i64 (F i).x].getD c undef) ∧ (∀ j, j < n → RD wr (q j) (F j)) ∧ ∀ j, j < n → RDs w (A j) z.n (C j) (z.g j) := by
  obtain ⟨_, xs, ho, hg, he⟩ := h
  have h2 : ∀ j, ∃ t : Option Addr × Nat × Q, j < n → xs[j * 4]? = some (.slice t.1 z.n t.2.1) ∧ xs[j * 4 + 1]? = some (.bool t.2.2.b) ∧ xs[j * 4 + 2]? = some (.slice t.2.2.A t.2.2.n t.2.2.c) ∧ xs[j * 4 + 3]? = some (.int .i64 (F j).x) ∧ RD wr t.2.2 (F j) ∧ RDs w t.1 z.n t.2.1 (z.g j) := fun j => by
    by_cases hj : j < n
    · obtain ⟨A, c, q, h⟩ := he j hj
      exact ⟨(A, c, q), fun _ => h⟩
    · exact ⟨(none, 0, Q.nil), fun e => absurd e hj⟩
  obtain ⟨t, ht⟩ : ∃ t : Nat → Option Addr × Nat × Q, ∀ j, j < n → xs[j * 4]? = some (.slice (t j).1 z.n (t j).2.1) ∧ xs[j * 4 + 1]? = some (.bool (t j).2.2.b) ∧ xs[j * 4 + 2]? = some (.slice (t j).2.2.A (t j).2.2.n (t j).2.2.c) ∧ xs[j * 4 + 3]? = some (.int .i64 (F j).x) ∧ RD wr (t j).2.2 (F j) ∧ RDs w (t j).1 z.n (t j).2.1 (z.g j) :=
    ⟨fun j => Classical.choose (h2 j), fun j => Classical.choose_spec (h2 j)⟩
  obtain ⟨g, cap, rfl, hc, hcr⟩ := ho.cr (e := fun i c => [.slice (t i).1 z.n (t i).2.1, .bool (t i).2.2.b, .slice (t i).2.2.A (t i).2.2.n (t i).2.2.c, .int .i64 (F i).x].getD c undef) h0 (fun j c hj hc => by
    obtain ⟨a0, a1, a2, a3, _⟩ := ht j hj
    match c, hc with
    | 0, _ => simpa using a0
    | 1, _ => simpa using a1
    | 2, _ => simpa using a2
    | 3, _ => simpa using a3)
  exact ⟨g, cap, fun j => (t j).1, fun j => (t j).2.1, fun j => (t j).2.2, rfl, hc, hg g rfl, hcr, fun j hj => (ht j hj).2.2.2.2.1, fun j hj => (ht j hj).2.2.2.2.2⟩
theorem RDs.keep {w w' : World} {A : Option Addr} {n c : Nat} {f : Nat → D} (h : RDs w A n c f) (hg : ∀ b off s, A = some ⟨b, off, s⟩ → 0 < n → w'.heap[b]? = w.heap[b]?) (k : Dk w w') : RDs w' A n c f := by
  obtain ⟨h1, h2, h3⟩ := h
  refine ⟨h1, h2, fun h0 => ?_⟩
  obtain ⟨b, off, hA, hlt, hc⟩ := h3 h0
  have e := hg b off none hA h0
  refine ⟨b, off, hA, Nat.lt_of_lt_of_le hlt k.1, fun j hj => ?_⟩
  obtain ⟨q, c0, c1, c2, hr⟩ := hc j hj
  exact ⟨q, (World.cell?_of_block (a := ⟨b, _, none⟩) e).trans c0, (World.cell?_of_block (a := ⟨b, _, none⟩) e).trans c1, (World.cell?_of_block (a := ⟨b, _, none⟩) e).trans c2, hr.dk k⟩
theorem RDs.lt {w : World} {b off : Nat} {s : Option Nat} {n c : Nat} {f : Nat → D} (h : RDs w (some ⟨b, off, s⟩) n c f) (h0 : 0 < n) : b < w.heap.size := by
  obtain ⟨b', off', e, hlt, _⟩ := h.2.2 h0
  injection e with e
  injection e with e
  omega
/-- The state ahead of a way of the list as it is told: what is reckoned together, and what stays a way. -/
def OrdRel2 (w w6 : World) (Ac : Option Addr) (cc : Nat) (z : Zo) (σ : Nat → Nat) (p bits : Nat) (i : Nat) (wr : World) : Prop :=
  Below w6.heap.size w6 wr ∧ ∃ (AR : Option Addr) (cR : Nat) (v : Value) (xs : List Value), Bk wr w6.heap.size 42 #[.slice Ac z.n cc, v, .slice AR z.n cR] ∧
    OW wr 39 1 v (i - p) xs ∧ (∀ g, v.ownBlock = some g → w6.heap.size < g) ∧ (i ≤ p → v = .slice none 0 0) ∧
    RDs wr AR z.n cR (rndR z.r (fun k => z.g (σ k)) bits (min i p)) ∧ (∀ b off s, AR = some ⟨b, off, s⟩ → 0 < z.n → b ≠ w6.heap.size ∧ b ≠ w.heap.size + 1 ∧ v.ownBlock ≠ some b) ∧
    ∀ k, k < i - p → ∃ A c, xs[k]? = some (.slice A z.n c) ∧ RDs w A z.n c (z.g (σ (p + k)))
theorem ord_start {w w6 : World} {Ac Ar : Option Addr} {cc cr : Nat} {z : Zo} {σ : Nat → Nat} {p bits : Nat} (h1 : w.heap.size + 1 < w6.heap.size) (hb : Below w.heap.size w w6) (hr : RDs w Ar z.n cr z.r) :
    OrdRel2 w w6 Ac cc z σ p bits 0 (w6.alloc (.cells #[.slice Ac z.n cc, .slice none 0 0, .slice Ar z.n cr] 42)) := by
  refine ⟨below_al (Below.refl _ _) _, Ar, cr, .slice none 0 0, [], Bk.new _ _ _, ?_, (fun g hg => by cases hg), (fun _ => rfl), ?_, (fun b off s e h0 => ?_), fun k hk => absurd hk (by omega)⟩
  · rw [Nat.zero_sub]; exact OW.nil _ _ _
  · rw [Nat.zero_min]; exact hr.below (below_al hb _)
  · subst e
    have := hr.lt h0
    exact ⟨by omega, by omega, fun h => by cases h⟩
theorem own_no {w : World} {E : TypeId} {k : Nat} {v : Value} {m : Nat} {xs : List Value} (h : OW w E k v m xs) (x : Int) : v ≠ .int .u32 x := by
  rcases h.2 with ⟨rfl, _⟩ | ⟨g, cap, cur, rfl, _⟩ <;> intro h <;> cases h
theorem ord_next_a {w w6 wr wb w2 : World} {Ac AR : Option Addr} {cc cR : Nat} {z : Zo} {σ : Nat → Nat} {p bits i : Nat} {v v' : Value} {xs : List Value} {As : Option Addr} {Cs : Nat} {o1 o2 : Obj} (hwb : wb = (wr.alloc o1).alloc o2) (hbel : Below w6.heap.size w6 wr) (hbo : Bk wr w6.heap.size 42 #[.slice Ac z.n cc, v, .slice AR z.n cR])
    (ho : OW wr 39 1 v (i - p) xs) (hgv : ∀ g, v.ownBlock = some g → w6.heap.size < g) (hrr : RDs wr AR z.n cR (rndR z.r (fun k => z.g (σ k)) bits (min i p))) (hbk : ∀ b off s, AR = some ⟨b, off, s⟩ → 0 < z.n → b ≠ w6.heap.size ∧ b ≠ w.heap.size + 1 ∧ v.ownBlock ≠ some b)
    (hxs : ∀ k, k < i - p → ∃ A c, xs[k]? = some (.slice A z.n c) ∧ RDs w A z.n c (z.g (σ (p + k)))) (hip : p ≤ i) (hn : OW w2 39 1 v' (i - p + 1) (xs ++ [.slice As z.n Cs])) (hg : wb.grownBy w2 v.ownBlock) (hk : Dk wb w2) (hob : v'.ownBlock = v.ownBlock ∨ v'.ownBlock = some wb.heap.size) (hrs : RDs w As z.n Cs (z.g (σ i))) :
    Bk w2 w6.heap.size 42 #[.slice Ac z.n cc, v, .slice AR z.n cR] ∧ OrdRel2 w w6 Ac cc z σ p bits (i + 1) (w2.setCell ⟨w6.heap.size, 1, none⟩ v') := by
  have hb1 : Below wr.heap.size wr wb := by subst hwb; exact below_al (below_al (Below.refl _ _) _) _
  have bk1 := hbo.below hb1
  have ne : v.ownBlock ≠ some w6.heap.size := fun e => Nat.lt_irrefl _ (hgv _ e)
  have bk2 : Bk w2 w6.heap.size 42 #[.slice Ac z.n cc, v, .slice AR z.n cR] := (hg.block w6.heap.size bk1.lt ne.symm).trans bk1
  have hwb1 : Below w6.heap.size w6 wb := hbel.trans (hb1.mono hbel.size)
  have hw2 : Below w6.heap.size w6 w2 := hwb1.grown hg hwb1.size (fun k hk => Nat.le_of_lt (hgv k hk))
  have hgv' : ∀ g, v'.ownBlock = some g → w6.heap.size < g := fun g e => by
    rcases hob with h | h
    · exact hgv g (h ▸ e)
    · rw [e] at h
      injection h with h
      have := bk1.lt
      omega
  have dk : Dk wr (w2.setCell ⟨w6.heap.size, 1, none⟩ v') := ((Dk.below hb1).trans hk).trans ((Dk.refl w2).set bk2 1 (fun x h => own_no ho x (Option.some.inj h)) v')
  have em : min (i + 1) p = min i p := by omega
  refine ⟨bk2, below_st hw2 1 (Nat.le_refl _) _, AR, cR, v', xs ++ [.slice As z.n Cs], bk2.set 1 v', ?_, hgv', fun h => absurd h (by omega), ?_, fun b off s e h0 => ⟨(hbk b off s e h0).1, (hbk b off s e h0).2.1, ?_⟩, fun k hk => ?_⟩
  · rw [show i + 1 - p = i - p + 1 by omega]
    exact hn.st (fun g e => by have := hgv' g e; omega) 1 v'
  · rw [em]
    refine hrr.keep (fun b off s e h0 => ?_) dk
    subst e
    have hlt := hrr.lt h0
    have h3 := hbk b off s rfl h0
    exact ((same1 w2 h3.1 1 v').trans (hg.block b (Nat.lt_of_lt_of_le hlt hb1.size) h3.2.2.symm)).trans (hb1.block b hlt)
  · rcases hob with h | h
    · rw [h]; exact (hbk b off s e h0).2.2
    · rw [h]
      intro h4
      injection h4 with h4
      subst e
      have hlt := hrr.lt h0
      have := hb1.size
      omega
  · by_cases h : k < i - p
    · obtain ⟨A, c, h1, h2⟩ := hxs k h
      exact ⟨A, c, by rw [List.getElem?_append_left (by rw [ho.1]; omega)]; exact h1, h2⟩
    · have e : k = i - p := by omega
      subst e
      refine ⟨As, Cs, ?_, ?_⟩
      · rw [List.getElem?_append_right (by rw [ho.1]; omega), ho.1, Nat.mul_one, Nat.sub_self]; rfl
      · rw [show p + (i - p) = i by omega]; exact hrs
theorem ord_next_b {w w6 wr w2 : World} {Ac AR : Option Addr} {cc cR : Nat} {z : Zo} {σ : Nat → Nat} {p bits i g1 : Nat} {v : Value} {o1 : Obj} (h1 : w.heap.size + 1 < w6.heap.size) (hbel : Below w6.heap.size w6 wr) (hbo : Bk wr w6.heap.size 42 #[.slice Ac z.n cc, v, .slice AR z.n cR])
    (hnil : i ≤ p → v = .slice none 0 0) (hip : i < p) (hg1 : (wr.alloc o1).heap.size ≤ g1) (hod : OD w2 g1 z.n (fun j => mor (rndR z.r (fun k => z.g (σ k)) bits i j) (z.g (σ i) j) bits)) (hb : Below (wr.alloc o1).heap.size (wr.alloc o1) w2) (n0 : z.n ≤ 1000000) :
    Bk w2 w6.heap.size 42 #[.slice Ac z.n cc, v, .slice AR z.n cR] ∧ OrdRel2 w w6 Ac cc z σ p bits (i + 1) (w2.setCell ⟨w6.heap.size, 2, none⟩ (.slice (some ⟨g1, 0, none⟩) z.n z.n)) := by
  have hb1 : Below wr.heap.size wr w2 := below_tr (below_al (Below.refl _ _) _) hb
  have bk2 := hbo.below hb1
  have hw2 : Below w6.heap.size w6 w2 := hbel.trans (hb1.mono hbel.size)
  obtain rfl := hnil (by omega)
  have hlt := hbo.lt
  rw [World.size_alloc] at hg1
  have em : min (i + 1) p = i + 1 := by omega
  refine ⟨bk2, below_st hw2 2 (Nat.le_refl _) _, some ⟨g1, 0, none⟩, z.n, .slice none 0 0, [], bk2.set 2 _, ?_, (fun g e => by cases e), (fun _ => rfl), ?_, (fun b off s e h0 => ?_), fun k hk => absurd hk (by omega)⟩
  · rw [show i + 1 - p = 0 by omega]; exact OW.nil _ _ _
  · rw [em]
    exact (hod.st bk2 (by omega) 2 (by intro x h; cases h) _).read n0
  · injection e with e
    injection e with e
    exact ⟨by omega, by omega, fun h => by cases h⟩
theorem ord_end {w w6 wr : World} {Ac Ag Ar AR : Option Addr} {cc cg cr cR : Nat} {z : Zo} {p bits : Nat} {v : Value} {xs : List Value} (h : RZo w ⟨Ac, cc, Ag, cg, Ar, cr⟩ z) (hb6 : Below w.heap.size w w6) (h1 : w.heap.size + 1 < w6.heap.size) (p0 : p ≤ z.m) (hbel : Below w6.heap.size w6 wr) (hm : z.m ≤ 12) (hbo : Bk wr (w.heap.size + 1) 42 #[.slice none 0 0, .slice none 0 0, .slice none 0 0])
    (ho : OW wr 39 1 v (z.m - p) xs) (hgv : ∀ g, v.ownBlock = some g → w6.heap.size < g) (hnil : z.m ≤ p → v = .slice none 0 0) (hrr : RDs wr AR z.n cR (rndR z.r (fun k => z.g (sigU z bits k)) bits (min z.m p))) (hbk : ∀ b off s, AR = some ⟨b, off, s⟩ → 0 < z.n → b ≠ w6.heap.size ∧ b ≠ w.heap.size + 1 ∧ v.ownBlock ≠ some b)
    (hxs : ∀ k, k < z.m - p → ∃ A c, xs[k]? = some (.slice A z.n c) ∧ RDs w A z.n c (z.g (sigU z bits (p + k)))) :
    ∃ Ag' cg', v = .slice Ag' (z.m - p) cg' ∧ ∀ a b c : Value, (∀ x, a ≠ .int .u32 x) → (∀ x, b ≠ .int .u32 x) → (∀ x, c ≠ .int .u32 x) → RZo (((wr.setCell ⟨w.heap.size + 1, 0, none⟩ a).setCell ⟨w.heap.size + 1, 1, none⟩ b).setCell ⟨w.heap.size + 1, 2, none⟩ c) ⟨Ac, cc, Ag', cg', AR, cR⟩ (redZ z p bits) ∧ (Ag' = none → cg' = 0) := by
  have hwr : Below w.heap.size w wr := below_tr hb6 hbel
  have key : ∀ a b c : Value, (∀ x, a ≠ .int .u32 x) → (∀ x, b ≠ .int .u32 x) → (∀ x, c ≠ .int .u32 x) → Below w.heap.size w (((wr.setCell ⟨w.heap.size + 1, 0, none⟩ a).setCell ⟨w.heap.size + 1, 1, none⟩ b).setCell ⟨w.heap.size + 1, 2, none⟩ c) ∧ Dk wr (((wr.setCell ⟨w.heap.size + 1, 0, none⟩ a).setCell ⟨w.heap.size + 1, 1, none⟩ b).setCell ⟨w.heap.size + 1, 2, none⟩ c) ∧ (∀ k, k ≠ w.heap.size + 1 → (((wr.setCell ⟨w.heap.size + 1, 0, none⟩ a).setCell ⟨w.heap.size + 1, 1, none⟩ b).setCell ⟨w.heap.size + 1, 2, none⟩ c).heap[k]? = wr.heap[k]?) := fun a b c ha hb hc => by
    have b1 := hbo.set 0 a
    have b2 := b1.set 1 b
    refine ⟨below_st (below_st (below_st hwr 0 (by omega) _) 1 (by omega) _) 2 (by omega) _, ((Dk.refl wr).set hbo 0 (by intro x h; cases h) a |>.set b1 1 (by intro x h; cases h) b).set b2 2 (by intro x h; cases h) c, fun k hk => ?_⟩
    exact ((same1 _ hk 2 c).trans (same1 _ hk 1 b)).trans (same1 _ hk 0 a)
  have hr' : ∀ a b c : Value, (∀ x, a ≠ .int .u32 x) → (∀ x, b ≠ .int .u32 x) → (∀ x, c ≠ .int .u32 x) → RDs (((wr.setCell ⟨w.heap.size + 1, 0, none⟩ a).setCell ⟨w.heap.size + 1, 1, none⟩ b).setCell ⟨w.heap.size + 1, 2, none⟩ c) AR z.n cR (redZ z p bits).r := fun a b c ha hb hc => by
    obtain ⟨_, k2, k3⟩ := key a b c ha hb hc
    rw [show min z.m p = p by omega] at hrr
    exact hrr.keep (fun b off s e h0 => k3 b (hbk b off s e h0).2.1) k2
  by_cases h0 : z.m - p = 0
  · obtain rfl := hnil (by omega)
    refine ⟨none, 0, by rw [h0], fun a b c ha hb hc => ⟨⟨h.c.below (key a b c ha hb hc).1, ?_, hr' a b c ha hb hc⟩, fun _ => rfl⟩⟩
    exact ⟨by show z.m - p ≤ 0; omega, by show z.m - p ≤ 1000000; omega, fun e => absurd e (by show ¬ 0 < z.m - p; omega)⟩
  · obtain ⟨g, cap, rfl, hc1, hlt, hcell, _⟩ := ho.cell (by omega)
    refine ⟨some ⟨g, 0, none⟩, cap, rfl, fun a b c ha hb hc => ⟨⟨h.c.below (key a b c ha hb hc).1, ?_, hr' a b c ha hb hc⟩, fun e => by cases e⟩⟩
    obtain ⟨k1, k2, k3⟩ := key a b c ha hb hc
    have hgg := hgv g rfl
    refine ⟨hc1, by show z.m - p ≤ 1000000; omega, fun _ => ⟨g, 0, rfl, Nat.lt_of_lt_of_le hlt k2.1, fun k hk => ?_⟩⟩
    obtain ⟨A, c', h2, h3⟩ := hxs k hk
    refine ⟨A, c', ?_, h3.below k1⟩
    rw [Nat.zero_add]
    exact (World.cell?_of_block (a := ⟨g, k, none⟩) (k3 g (by omega))).trans (hcell k _ h2)

set_option maxRecDepth 100000 in
set_option maxHeartbeats 4000000 in
theorem order_any (w : World) (Ac Ag Ar : Option Addr) (cc cg cr : Nat) (z : Zo) (o kp p bits : Nat) (E T : Nat) (h : RZo w ⟨Ac, cc, Ag, cg, Ar, cr⟩ z) (lz : z.Lim E T) (ho : o ≤ 64) (hkp : kp = o * z.n) (hp : p + kp = z.m) (hk : 0 < p) (hm : z.m ≤ 12) (hET : E + T + 2 * z.n + 2 * z.m + 8 ≤ 16000) (hb2 : 2 ≤ bits) (hb3 : bits ≤ 4096) (ht : BTab w) :
    Calls Tryd.prog 56 #[.agg #[.slice Ac z.n cc, .slice Ag z.m cg, .slice Ar z.n cr], .int .i64 o, .int .i64 bits] w fun e w' => (∃ (Ag' : Option Addr) (cg' : Nat) (AR : Option Addr) (cR : Nat), e = .returned (.tuple #[.agg #[.slice Ac z.n cc, .slice Ag' (z.m - p) cg', .slice AR z.n cR], .int .i64 0]) ∧ RZo w' ⟨Ac, cc, Ag', cg', AR, cR⟩ (redZ z p bits) ∧ (Ag' = none → cg' = 0)) ∧ Below w.heap.size w w' := by
  have HZ := Lib.hid h
  have LZ := Lib.hid lz
  have HT := Lib.hid ht
  have HGG := Lib.hid (show RDss w Ag z.m cg z.n z.g from h.g)
  have HRR := Lib.hid (show RDs w Ar z.n cr z.r from h.r)
  have n0 := h.c.2.1
  clear h lz ht
  have HKP := Lib.hid hkp
  have HP := Lib.hid hp
  have k0 : kp < z.m := by omega
  have p0 : p ≤ z.m := by omega
  have q0 : ¬ (o : Int) < 0 := by omega
  have q1 : ¬ (64 : Int) < (o : Int) := by omega
  have q2 : (o : Int) * (z.n : Int) = (kp : Int) := by rw [hkp]; simp
  have q3 : IntKind.i64.wrap (kp : Int) = (kp : Int) := by rw [IntKind.wrap_i64]; omega
  have q4 : ¬ (z.m : Int) ≤ (kp : Int) := by omega
  have q5 : (z.m : Int) - (kp : Int) = (p : Int) := by omega
  have q6 : IntKind.i64.wrap (p : Int) = (p : Int) := by rw [IntKind.wrap_i64]; omega
  clear hk hkp hp
  have BX := Lib.hid (boxes2 w 42 #[.slice Ac z.n cc, .slice Ag z.m cg, .slice Ar z.n cr] 42 #[.slice none 0 0, .slice none 0 0, .slice none 0 0])
  go_enter Tryd.func56, Tryd.ntmps56
  go_upto_region 7 with (fail)
  generalize (w.alloc (.cells #[.slice Ac z.n cc, .slice Ag z.m cg, .slice Ar z.n cr] 42)).alloc (.cells #[.slice none 0 0, .slice none 0 0, .slice none 0 0] 42) = w0 at *
  obtain ⟨b0, b1, hw⟩ := BX.out
  have BZ := Lib.hid b0
  have BO := Lib.hid b1
  have HB := Lib.hid hw
  clear BX b0 b1 hw
  have hs0 := HB.out.size
  have lo0 := BO.out.lt
  have cz0 := BZ.out.cell 0 rfl
  have cz1 := BZ.out.cell 1 rfl
  have cz2 := BZ.out.cell 2 rfl
  have H0 := Lib.hid (show OrdRel w z (spr z bits) w0 0 (.slice none 0 0) w0 from ⟨Below.refl _ _, [], OW.nil _ _ _, (fun g hg => by cases hg), (fun j hj => absurd hj (by omega))⟩)
  obtain ⟨i0, hi0, hz0, hz1, hz2⟩ := info_parts infoG
  go_wp2_with fail
  clear cz0 cz1 cz2
  go_loopw [9, 39] (fun s9 k wr => ∃ (i : Nat) (v : Value), k = .int .i64 i ∧ v = s9 ∧ i ≤ z.m ∧ Hid (OrdRel w z (spr z bits) w0 i v wr)) (fun _ k _ => z.m - (intOf k).toNat)
  case atStart => exact ⟨0, _, rfl, rfl, Nat.zero_le _, H0⟩
  case round =>
    clear H0
    obtain ⟨i, v, rfl, rfl, hi, Hr⟩ := hrel
    by_cases hi2 : i < z.m
    · have q7 : (i : Int) < (z.m : Int) := by omega
      obtain ⟨hbel, xs, hown, hgb, hels⟩ := Hr.out
      have HBR := Lib.hid hbel
      have HOW := Lib.hid hown
      have HGB := Lib.hid hgb
      have HEL := Lib.hid hels
      clear hbel hown hgb hels Hr
      have HBW := Lib.hid (below_tr HB.out HBR.out)
      obtain ⟨A1, o1, rfl, hl1, hcc⟩ := HGG.out.2.2 (by omega)
      obtain ⟨A2, c2, z0, hrow⟩ := hcc i hi2
      have x0 := (HBW.out.cell (p := ⟨A1, o1 + i, none⟩) hl1).trans z0
      have RO := Lib.hid hrow
      clear hcc z0 hrow
      go_wp2_with fail
      refine (spread_any _ A2 z.n c2 (z.g i) bits E T (RO.out.below HBW.out) (fun j hj => LZ.out.g i j hi2 hj) (by omega) hb2 hb3 (HT.out.below HBW.out)).mono ?_
      rintro e w5 ⟨⟨r, rfl, hr⟩, hb⟩
      have RR := Lib.hid (show RD w5 r (spr z bits i) from hr)
      have HB5 := Lib.hid hb
      clear hb hr x0
      rw [show (spread (z.g i) z.n bits) = (spr z bits i) from rfl]
      have HOW5 := Lib.hid (((HOW.out.below HB5.out).al (.cells #[.bool r.b, .slice r.A r.n r.c, .int .i64 (spr z bits i).x] 53)).al (.cells #[.slice A2 z.n c2, .bool r.b, .slice r.A r.n r.c, .int .i64 (spr z bits i).x] 176))
      have HNW := Lib.hid (new_row1 w5 (.cells #[.bool r.b, .slice r.A r.n r.c, .int .i64 (spr z bits i).x] 53) [.slice A2 z.n c2, .bool r.b, .slice r.A r.n r.c, .int .i64 (spr z bits i).x] 176)
      have HBA := Lib.hid (below_al (below_al (HBR.out.trans (HB5.out.mono HBR.out.size)) (.cells #[.bool r.b, .slice r.A r.n r.c, .int .i64 (spr z bits i).x] 53)) (.cells #[.slice A2 z.n c2, .bool r.b, .slice r.A r.n r.c, .int .i64 (spr z bits i).x] 176))
      have HDK := Lib.hid (((Dk.below HB5.out).alloc (.cells #[.bool r.b, .slice r.A r.n r.c, .int .i64 (spr z bits i).x] 53)).alloc (.cells #[.slice A2 z.n c2, .bool r.b, .slice r.A r.n r.c, .int .i64 (spr z bits i).x] 176))
      have HD2 := Lib.hid (((Dk.refl w5).alloc (.cells #[.bool r.b, .slice r.A r.n r.c, .int .i64 (spr z bits i).x] 53)).alloc (.cells #[.slice A2 z.n c2, .bool r.b, .slice r.A r.n r.c, .int .i64 (spr z bits i).x] 176))
      clear HOW
      go_wp2_with (at_builtin; refine wpList_append_ow rfl _ _ 174 rfl 176 4 64 (.agg #[.slice none 0 0, .bool false, .slice none 0 0, .int .i64 0]) i0 Tryd.underlying174 hi0 hz0 hz1 hz2 rfl no_gen (by decide) (by decide) v i xs rfl HOW5.out ⟨w5.heap.size + 1, 0, none⟩ 1 1 [.slice A2 z.n c2, .bool r.b, .slice r.A r.n r.c, .int .i64 (spr z bits i).x] rfl rfl HNW.out one4 no4 (fun _ => by decide) (by omega) ?_)
      intro v' w6 hown hgr hdk hob
      have HN := Lib.hid (show OrdRel w z (spr z bits) w0 (i + 1) v' w6 from ord_next HBA.out HOW5.out HGB.out hown hgr hdk (by rw [World.size_alloc, World.size_alloc]; exact hob) HDK.out HEL.out (RR.out.dk HD2.out) RO.out)
      clear hown hgr hdk hob HOW5 HBA HNW HDK HD2
      go_wp2
      go_roundw
      case rel => exact ⟨i + 1, v', by go_num, rfl, hi2, HN⟩
      case measure => simp only [intOf]; omega
    · obtain rfl : i = z.m := by omega
      clear hi2
      obtain ⟨g, cap, A, C, q, rfl, hcap, hg0, hcr, hrd, hrow⟩ := ord_rows Hr.out (by omega)
      have HBR := Lib.hid Hr.out.1
      have HCR := Lib.hid hcr
      have HRD := Lib.hid hrd
      have HRW := Lib.hid hrow
      have HSL := Lib.hid (fun k (hk : k < z.m) => spread_lim z.n bits (fun i hi => LZ.out.g k i hk hi))
      clear Hr hcr hrd hrow
      go_wp2_with fail
      refine (sortG_any _ g z.m cap A (fun _ => z.n) C q (spr z bits) E (T + 2 * z.n + 2) hm HCR.out HRD.out HSL.out (by omega)).mono ?_
      rintro e w6 ⟨rfl, hs⟩
      have HB6 := Lib.hid (HBR.out.grown hs.gr HBR.out.size (by intro k hk; injection hk with hk; omega))
      have HC6 := Lib.hid hs.row
      clear hs HCR HRD HBR
      have BZ6 := Lib.hid (BZ.out.below HB6.out)
      have HW6 := Lib.hid (below_tr HB.out HB6.out)
      have cz0 := BZ6.out.cell 0 rfl
      have cz1 := BZ6.out.cell 1 rfl
      have cz2 := BZ6.out.cell 2 rfl
      have lz6 := BZ6.out.lt
      have hs6 := HW6.out.size
      have hs66 := HB6.out.size
      have lg := HC6.out.lt
      have H0 := Lib.hid (show OrdRel2 w w6 Ac cc z (sigU z bits) p bits 0 (w6.alloc (.cells #[.slice Ac z.n cc, .slice none 0 0, .slice Ar z.n cr] 42)) from ord_start (Nat.lt_of_lt_of_le lo0 hs66) HW6.out HRR.out)
      go_wp2_with fail
      clear cz0 cz1 cz2 lz6
      go_loopw [69] (fun k wr => ∃ i : Nat, k = .int .i64 i ∧ i ≤ z.m ∧ Hid (OrdRel2 w w6 Ac cc z (sigU z bits) p bits i wr)) (fun k _ => z.m - (intOf k).toNat)
      case atStart => exact ⟨0, rfl, Nat.zero_le _, H0⟩
      case round =>
        clear H0
        obtain ⟨i, rfl, hi, Hr⟩ := hrel
        by_cases hi2 : i < z.m
        · have q7 : (i : Int) < (z.m : Int) := by omega
          obtain ⟨hbel, AR, cR, v, xs, hbo, hown, hgv, hnil, hrr, hbk, hxs⟩ := Hr.out
          have HBR := Lib.hid hbel
          have BOX := Lib.hid hbo
          have HOW := Lib.hid hown
          have HRL := Lib.hid hrr
          have HGV := Lib.hid hgv
          have HNI := Lib.hid hnil
          have HBK := Lib.hid hbk
          have HXS := Lib.hid hxs
          have HC := Lib.hid (HC6.out.below hbel)
          have hsr := hbel.size
          clear hbo hown hrr hgv hnil hbk hxs Hr
          have sl := sigU_lt z bits hi2
          have x0 : wr.cell? ⟨g, i * 4, none⟩ = some (.slice (A (sigU z bits i)) z.n (C (sigU z bits i))) := HC.out.cell (i := i) (c := 0) hi2 (by omega)
          have x1 : wr.cell? ⟨g, i * 4 + 1, none⟩ = some (.bool (q (sigU z bits i)).b) := HC.out.cell (i := i) (c := 1) hi2 (by omega)
          have x2 : wr.cell? ⟨g, i * 4 + 2, none⟩ = some (.slice (q (sigU z bits i)).A (q (sigU z bits i)).n (q (sigU z bits i)).c) := HC.out.cell (i := i) (c := 2) hi2 (by omega)
          have x3 : wr.cell? ⟨g, i * 4 + 3, none⟩ = some (.int .i64 (spr z bits (sigU z bits i)).x) := HC.out.cell (i := i) (c := 3) hi2 (by omega)
          have HRS := Lib.hid (HRW.out _ sl)
          generalize hqs : q (sigU z bits i) = qs at *
          generalize hsp : (spr z bits (sigU z bits i)).x = sx at *
          generalize hAs : A (sigU z bits i) = As at *
          generalize hCs : C (sigU z bits i) = Cs at *
          clear hqs hsp hAs hCs
          have lox := BOX.out.lt
          have cb0 := BOX.out.cell 0 rfl
          have cb1 := BOX.out.cell 1 rfl
          have cb2 := BOX.out.cell 2 rfl
          have fb1 := BOX.out.free 1
          have fb2 := BOX.out.free 2
          have HBW := Lib.hid (below_tr HW6.out HBR.out)
          by_cases hip : p ≤ i
          · have q8 : (p : Int) ≤ (i : Int) := by omega
            have HOW5 := Lib.hid ((HOW.out.al (.cells #[.slice As z.n Cs, .bool qs.b, .slice qs.A qs.n qs.c, .int .i64 sx] 176)).al (.cells #[.slice As z.n Cs] 39))
            have HNW := Lib.hid (new_row1 wr (.cells #[.slice As z.n Cs, .bool qs.b, .slice qs.A qs.n qs.c, .int .i64 sx] 176) [.slice As z.n Cs] 39)
            obtain ⟨j0, hj0, hj1, hj2, hj3⟩ := info_parts infoLL
            go_wp2_with (at_builtin; refine wpList_append_ow rfl _ _ 40 rfl 39 1 24 (.slice none 0 0) j0 Tryd.underlying40 hj0 hj1 hj2 hj3 rfl no_sl (by decide) (by decide) v (i - p) xs rfl HOW5.out ⟨wr.heap.size + 1, 0, none⟩ 1 1 [.slice As z.n Cs] rfl rfl HNW.out one1 no1 (fun _ => by decide) (by omega) ?_)
            intro v' w2 hown hgr hdk hob
            obtain ⟨gv, capv, rfl, _, _, _, _⟩ := hown.cell (by omega)
            have HN := Lib.hid (ord_next_a rfl HBR.out BOX.out HOW.out HGV.out HRL.out HBK.out HXS.out hip hown hgr hdk (by rw [World.size_alloc, World.size_alloc]; exact hob) HRS.out)
            have BX2 := Lib.hid HN.out.1
            have HN2 := Lib.hid HN.out.2
            clear hown hgr hdk hob HN HOW5 HNW x0 x1 x2 x3 cb0 cb1 cb2 fb1 fb2 lox
            have lox := BX2.out.lt
            have cb1 := BX2.out.cell 1 rfl
            have fb1 := BX2.out.free 1
            go_wp2
            go_roundw
            case rel => exact ⟨i + 1, by go_num, hi2, HN2⟩
            case measure => simp only [intOf]; omega
          · have q8 : ¬ (p : Int) ≤ (i : Int) := by omega
            have em : min i p = i := by omega
            have HR5 := Lib.hid (show RDs wr AR z.n cR (rndR z.r (fun k => z.g (sigU z bits k)) bits i) by have h := HRL.out; rw [em] at h; exact h)
            go_wp2_with fail
            refine (rounder_any _ AR As z.n cR Cs (rndR z.r (fun k => z.g (sigU z bits k)) bits i) (z.g (sigU z bits i)) bits E (T + 2 * i) (HR5.out.below (below_al (Below.refl _ _) _)) (HRS.out.below (below_al HBW.out _)) (fun j hj => rndR_lim bits i j (LZ.out.r j hj) (fun k hk => LZ.out.g _ j (sigU_lt z bits (by omega)) hj)) (fun j hj => (LZ.out.g _ j sl hj).mono (Nat.le_refl _) (by omega)) (by omega) hb2 hb3 (HT.out.below (below_al HBW.out _))).mono ?_
            rintro e w2 ⟨⟨g1, rfl, hg1, hod⟩, hb⟩
            have HN := Lib.hid (ord_next_b (Nat.lt_of_lt_of_le lo0 hs66) HBR.out BOX.out HNI.out (by omega) hg1 hod hb n0)
            have BX2 := Lib.hid HN.out.1
            have HN2 := Lib.hid HN.out.2
            clear hod hb HN x0 x1 x2 x3 cb0 cb1 cb2 fb1 fb2 lox
            have lox := BX2.out.lt
            have cb2 := BX2.out.cell 2 rfl
            have fb2 := BX2.out.free 2
            go_wp2
            go_roundw
            case rel => exact ⟨i + 1, by go_num, hi2, HN2⟩
            case measure => simp only [intOf]; omega
        · obtain rfl : i = z.m := by omega
          clear hi2
          obtain ⟨hbel, AR, cR, v, xs, hbo, hown, hgv, hnil, hrr, hbk, hxs⟩ := Hr.out
          have BOX := Lib.hid hbo
          have HBW := Lib.hid (below_tr HW6.out hbel)
          have BO2 := Lib.hid (BO.out.below (HB6.out.trans (hbel.mono hs66)))
          obtain ⟨Ag', cg', rfl, HF⟩ := ord_end (bits := bits) HZ.out HW6.out (Nat.lt_of_lt_of_le lo0 hs66) p0 hbel hm BO2.out hown hgv hnil hrr hbk hxs
          have HE := Lib.hid (HF (.slice Ac z.n cc) (.slice Ag' (z.m - p) cg') (.slice AR z.n cR) (by intro x h; cases h) (by intro x h; cases h) (by intro x h; cases h))
          clear hbo hown hgv hnil hrr hbk hxs hbel Hr HF
          have lox := BOX.out.lt
          have cb0 := BOX.out.cell 0 rfl
          have cb1 := BOX.out.cell 1 rfl
          have cb2 := BOX.out.cell 2 rfl
          have lo2 := BO2.out.lt
          obtain ⟨co0, co1, co2⟩ := BO2.out.cells3
          have fo0 := BO2.out.free 0
          have fo1 := BO2.out.free 1
          have fo2 := BO2.out.free 2
          go_wp2
          refine bodyPost_ret (v := .tuple #[.agg #[.slice Ac z.n cc, .slice Ag' (z.m - p) cg', .slice AR z.n cR], .int .i64 0]) ?_ rfl ?_
          · simp [results, Tryd.f56, go_sem, co0, co1, co2]
          · exact ⟨⟨Ag', cg', AR, cR, rfl, HE.out.1, HE.out.2⟩, below_st (below_st (below_st HBW.out 0 (by omega) _) 1 (by omega) _) 2 (by omega) _⟩

end Go.Proofs.YtgioppkggpfnoaaDoor.Nu
end

section
/- The walk of reduce.doubled. -/
set_option linter.unusedVariables false
namespace Go.Proofs.YtgioppkggpfnoaaDoor.Nu
open Go.RowKit Go.Proofs

end Go.Proofs.YtgioppkggpfnoaaDoor.Nu
end

section
/- The walks of reduce.along, reduce.empty. -/
set_option linter.unusedVariables false
namespace Go.Proofs.YtgioppkggpfnoaaDoor.Nu
open Go.RowKit Go.Proofs

end Go.Proofs.YtgioppkggpfnoaaDoor.Nu
end

section
/- The walks of slices.Clone over a row of ways, and of reduce.Merge. -/
set_option linter.unusedVariables false
namespace Go.Proofs.YtgioppkggpfnoaaDoor.Nu
open Go.RowKit Go.Proofs

theorem OW.same {w : World} {E : TypeId} {k : Nat} {v : Value} {m : Nat} {xs ys : List Value} (h : OW w E k v m xs) (e : xs = ys) : OW w E k v m ys := e ▸ h
/-- A row lies in neither of the two structs that are written. -/
def Away (w w0 : World) (A : Option Addr) (n : Nat) : Prop := ∀ b off s, A = some ⟨b, off, s⟩ → 0 < n → b ≠ w0.heap.size ∧ b ≠ w.heap.size + 1
/-- What has been put together, in memory. -/
structure MF (w w0 : World) (Ac : Option Addr) (cc n : Nat) (s : MS) (AR : Option Addr) (cR : Nat) (v : Value) (xs : List Value) (wr : World) : Prop where
  bel : Below w0.heap.size w0 wr
  box : Bk wr w0.heap.size 42 #[.slice Ac n cc, v, .slice AR n cR]
  own : OW wr 39 1 v s.M xs
  gv : ∀ g, v.ownBlock = some g → w0.heap.size < g
  nil : s.M = 0 → v = .slice none 0 0
  r : RDs wr AR n cR s.R
  ro : Away w w0 AR n
  g : ∀ k, k < s.M → ∃ A c, xs[k]? = some (.slice A n c) ∧ RDs wr A n c (s.G k) ∧ Away w w0 A n
section
variable {w w0 wr : World} {Ac : Option Addr} {cc n : Nat} {s : MS} {AR : Option Addr} {cR : Nat} {v : Value} {xs : List Value}
theorem MF.below (h : MF w w0 Ac cc n s AR cR v xs wr) {w' : World} (hb : Below wr.heap.size wr w') : MF w w0 Ac cc n s AR cR v xs w' where
  bel := h.bel.trans (hb.mono h.bel.size)
  box := h.box.below hb
  own := h.own.below hb
  gv := h.gv
  nil := h.nil
  r := h.r.below hb
  ro := h.ro
  g := fun k hk => by
    obtain ⟨A, c, h1, h2, h3⟩ := h.g k hk
    exact ⟨A, c, h1, h2.below hb, h3⟩
theorem MF.form (h : MF w w0 Ac cc n s AR cR v xs wr) : ∃ VA vc, v = .slice VA s.M vc := by
  rcases h.own.2 with ⟨rfl, e⟩ | ⟨g, cap, cur, rfl, _⟩
  · exact ⟨none, 0, by rw [e]⟩
  · exact ⟨_, _, rfl⟩
theorem MF.one (h : MF w w0 Ac cc n s AR cR v xs wr) : ∀ u ∈ xs, u.oneCell' = true := by
  intro u hu
  obtain ⟨k, hk⟩ := List.mem_iff_getElem?.1 hu
  have hlt : k < s.M := by
    have h1 := (List.getElem?_eq_some_iff.1 hk).1
    rw [h.own.1, Nat.mul_one] at h1
    exact h1
  obtain ⟨A, c, h1, _⟩ := h.g k hlt
  rw [hk] at h1
  injection h1 with h1
  subst h1; rfl
theorem away_keep {A : Option Addr} {c : Nat} {f : Nat → D} {w1 w2 : World} (h : RDs w1 A n c f) (ha : Away w w0 A n) (hg : ∀ b, b < w1.heap.size → b ≠ w0.heap.size → w2.heap[b]? = w1.heap[b]?) (k : Dk w1 w2) : RDs w2 A n c f :=
  h.keep (fun b off s e h0 => by subst e; exact hg b (h.lt h0) (ha b off s rfl h0).1) k
theorem MF.round (h : MF w w0 Ac cc n s AR cR v xs wr) {AR' : Option Addr} {cR' : Nat} {R' : Nat → D} (hr : RDs wr AR' n cR' R') (ha : Away w w0 AR' n) :
    MF w w0 Ac cc n ⟨s.M, s.G, R'⟩ AR' cR' v xs (wr.setCell ⟨w0.heap.size, 2, none⟩ (.slice AR' n cR')) := by
  have dk : Dk wr (wr.setCell ⟨w0.heap.size, 2, none⟩ (.slice AR' n cR')) := (Dk.refl wr).set h.box 2 (by intro x h; cases h) _
  have hs : ∀ b, b < wr.heap.size → b ≠ w0.heap.size → (wr.setCell ⟨w0.heap.size, 2, none⟩ (.slice AR' n cR')).heap[b]? = wr.heap[b]? := fun b _ hb => same1 wr hb 2 _
  exact ⟨below_st h.bel 2 (Nat.le_refl _) _, h.box.set 2 _, h.own.st (fun g e => by have := h.gv g e; omega) 2 _, h.gv, h.nil, away_keep hr ha hs dk, ha, fun k hk => by
    obtain ⟨A, c, h1, h2, h3⟩ := h.g k hk
    exact ⟨A, c, h1, away_keep h2 h3 hs dk, h3⟩⟩
theorem MF.new (h : MF w w0 Ac cc n s AR cR v xs wr) {w9 wb w10 : World} {v' v'' : Value} {A1 : Option Addr} {c1 : Nat} {y : Nat → D} {o : Obj} (hc : Below wr.heap.size wr w9) (hg' : ∀ g, v'.ownBlock = some g → wr.heap.size ≤ g) (hwb : wb = w9.alloc o) (hgr : wb.grownBy w10 v'.ownBlock) (hk : Dk wb w10)
    (hob : v''.ownBlock = v'.ownBlock ∨ v''.ownBlock = some wb.heap.size) (hn : OW w10 39 1 v'' (s.M + 1) (xs ++ [.slice A1 n c1])) (hr : RDs wr A1 n c1 y) (ha : Away w w0 A1 n) :
    Bk w10 w0.heap.size 42 #[.slice Ac n cc, v, .slice AR n cR] ∧ MF w w0 Ac cc n ⟨s.M + 1, updG s.G s.M y, s.R⟩ AR cR v'' (xs ++ [.slice A1 n c1]) (w10.setCell ⟨w0.heap.size, 1, none⟩ v'') := by
  have hlt := h.box.lt
  have hb1 : Below wr.heap.size wr wb := by subst hwb; exact below_al hc _
  have hbx := h.box.below hb1
  have ne : some w0.heap.size ≠ v'.ownBlock := fun e => by have := hg' _ e.symm; omega
  have bk : Bk w10 w0.heap.size 42 #[.slice Ac n cc, v, .slice AR n cR] := (hgr.block _ hbx.lt ne).trans hbx
  have dk : Dk wr (w10.setCell ⟨w0.heap.size, 1, none⟩ v'') := ((Dk.below hb1).trans hk).trans ((Dk.refl w10).set bk 1 (fun x e => own_no h.own x (Option.some.inj e)) _)
  have hs : ∀ b, b < wr.heap.size → b ≠ w0.heap.size → (w10.setCell ⟨w0.heap.size, 1, none⟩ v'').heap[b]? = wr.heap[b]? := fun b hb hb2 =>
    ((same1 w10 hb2 1 _).trans (hgr.block b (Nat.lt_of_lt_of_le hb hb1.size) (fun e => by have := hg' _ e.symm; omega))).trans (hb1.block b hb)
  have hw1 : Below w0.heap.size w0 wb := h.bel.trans (hb1.mono h.bel.size)
  have hsz := hb1.size
  have hbel : Below w0.heap.size w0 w10 := hw1.grown hgr hw1.size (fun k e => by have := hg' k e; omega)
  have hgv : ∀ g, v''.ownBlock = some g → w0.heap.size < g := fun g e => by
    rcases hob with h1 | h1
    · have := hg' g (h1 ▸ e); omega
    · rw [e] at h1; injection h1 with h1; omega
  refine ⟨bk, below_st hbel 1 (Nat.le_refl _) _, bk.set 1 _, hn.st (fun g e => by have := hgv g e; omega) 1 _, hgv, fun e => absurd e (Nat.succ_ne_zero _), away_keep h.r h.ro hs dk, h.ro, fun k hk => ?_⟩
  show ∃ A c, (xs ++ [.slice A1 n c1])[k]? = some (.slice A n c) ∧ RDs _ A n c (updG s.G s.M y k) ∧ Away w w0 A n
  have hl : xs.length = s.M := by rw [h.own.1, Nat.mul_one]
  by_cases e : k = s.M
  · subst e
    refine ⟨A1, c1, ?_, ?_, ha⟩
    · rw [List.getElem?_append_right (by omega), hl, Nat.sub_self]; rfl
    · unfold updG; rw [if_pos rfl]; exact away_keep hr ha hs dk
  · obtain ⟨A, c, h1, h2, h3⟩ := h.g k (by have : k < s.M + 1 := hk; omega)
    refine ⟨A, c, ?_, ?_, h3⟩
    · rw [List.getElem?_append_left (by have : k < s.M + 1 := hk; omega)]; exact h1
    · unfold updG; rw [if_neg e]; exact away_keep h2 h3 hs dk
end

end Go.Proofs.YtgioppkggpfnoaaDoor.Nu
end

section
/- The walk of span.Mul. -/
set_option linter.unusedVariables false
namespace Go.Proofs.YtgioppkggpfnoaaDoor.Nu
open Go.RowKit Go.Proofs

/-- What stands on either side in round i. -/
def mA (s : SQ) : Nat → Q
  | 0 => s.lo
  | 1 => s.lo
  | _ => s.hi
def mB (t : SQ) : Nat → Q
  | 0 => t.lo
  | 1 => t.hi
  | 2 => t.lo
  | _ => t.hi
def mAd (a : Sp) : Nat → D
  | 0 => a.lo
  | 1 => a.lo
  | _ => a.hi
def mBd (b : Sp) : Nat → D
  | 0 => b.lo
  | 1 => b.hi
  | 2 => b.lo
  | _ => b.hi
/-- The product of round i; the least and the greatest ahead of it. -/
def mP (a b : Sp) (i : Nat) : D := (mAd a i).mul (mBd b i)
def mL (a b : Sp) : Nat → D
  | 0 => D.zero
  | 1 => mP a b 0
  | k + 2 => (mL a b (k + 1)).mn (mP a b (k + 1))
def mH (a b : Sp) : Nat → D
  | 0 => D.zero
  | 1 => mP a b 0
  | k + 2 => (mH a b (k + 1)).mx (mP a b (k + 1))
theorem mL_one {a b : Sp} {i : Nat} (h : i = 0) : mL a b (i + 1) = mP a b i := by subst h; rfl
theorem mH_one {a b : Sp} {i : Nat} (h : i = 0) : mH a b (i + 1) = mP a b i := by subst h; rfl
theorem mL_more {a b : Sp} {i : Nat} (h : ¬i = 0) : mL a b (i + 1) = (mL a b i).mn (mP a b i) := by
  obtain ⟨j, rfl⟩ : ∃ j, i = j + 1 := ⟨i - 1, by omega⟩
  rfl
theorem mH_more {a b : Sp} {i : Nat} (h : ¬i = 0) : mH a b (i + 1) = (mH a b i).mx (mP a b i) := by
  obtain ⟨j, rfl⟩ : ∃ j, i = j + 1 := ⟨i - 1, by omega⟩
  rfl
theorem mul_four (a b : Sp) (bits : Nat) : a.mul b bits = Sp.out (mL a b 4) (mH a b 4) bits := rfl
theorem mA_rd {w : World} {s : SQ} {a : Sp} (h : RS w s a) (i : Nat) : RD w (mA s i) (mAd a i) := by
  rcases i with _ | _ | i
  · exact h.1
  · exact h.1
  · exact h.2
theorem mB_rd {w : World} {s : SQ} {a : Sp} (h : RS w s a) (i : Nat) : RD w (mB s i) (mBd a i) := by
  rcases i with _ | _ | _ | i
  · exact h.1
  · exact h.2
  · exact h.1
  · exact h.2
theorem mAd_lim {a : Sp} {E T : Nat} (h : a.Lim E T) (i : Nat) : (mAd a i).Lim E T := by
  rcases i with _ | _ | i
  · exact h.1
  · exact h.1
  · exact h.2
theorem mBd_lim {a : Sp} {E T : Nat} (h : a.Lim E T) (i : Nat) : (mBd a i).Lim E T := by
  rcases i with _ | _ | _ | i
  · exact h.1
  · exact h.2
  · exact h.1
  · exact h.2
theorem mul_ok1 {a b : D} {E T E2 T2 : Nat} (la : a.Lim E T) (lb : b.Lim E2 T2) (h : E + E2 + T + T2 ≤ 16000) : nb a.z.natAbs + nb b.z.natAbs ≤ 16320 ∧ -20000 ≤ a.x ∧ a.x ≤ 20000 ∧ -20000 ≤ b.x ∧ b.x ≤ 20000 := by
  have h1 := la.nb
  have h2 := lb.nb
  have h3 := la.1
  have h4 := la.2
  have h5 := lb.1
  have h6 := lb.2
  omega
theorem mul_ok {a b : Sp} {E T E2 T2 : Nat} (la : a.Lim E T) (lb : b.Lim E2 T2) (h : E + E2 + T + T2 ≤ 16000) (i : Nat) :
    (nb (mAd a i).z.natAbs + nb (mBd b i).z.natAbs ≤ 16320 ∧ -20000 ≤ (mAd a i).x ∧ (mAd a i).x ≤ 20000 ∧ -20000 ≤ (mBd b i).x ∧ (mBd b i).x ≤ 20000) ∧ D.Lim (E + E2) (T + T2) (mP a b i) ∧ D.Lim (E + E2) (T + T2) (mL a b i) ∧ D.Lim (E + E2) (T + T2) (mH a b i) := by
  have p : ∀ j, D.Lim (E + E2) (T + T2) (mP a b j) := fun j => mul_lim (mAd_lim la j) (mBd_lim lb j)
  have q : ∀ j, D.Lim (E + E2) (T + T2) (mL a b j) ∧ D.Lim (E + E2) (T + T2) (mH a b j) := fun j => by
    induction j with
    | zero => exact ⟨zero_lim _ _, zero_lim _ _⟩
    | succ j ih =>
      by_cases hj : j = 0
      · rw [mL_one hj, mH_one hj]
        exact ⟨p j, p j⟩
      · rw [mL_more hj, mH_more hj]
        exact ⟨mn_lim ih.1 (p j), mx_lim ih.2 (p j)⟩
  exact ⟨mul_ok1 (mAd_lim la i) (mBd_lim lb i) h, p i, q i⟩
/-- The state ahead of round i. -/
def SMulRel (a b : Sp) (W : World) (i : Nat) (w : World) : Prop :=
  ∃ u v : Q, Bk w (W.heap.size + 1 + 1) 62 #[.bool false, .slice none 0 0, .int .i64 0, .bool false, .slice none 0 0, .int .i64 0] ∧ Bk w (W.heap.size + 1 + 1 + 1) 53 #[.bool u.b, .slice u.A u.n u.c, .int .i64 (mL a b i).x] ∧ Bk w (W.heap.size + 1 + 1 + 1 + 1) 53 #[.bool v.b, .slice v.A v.n v.c, .int .i64 (mH a b i).x] ∧ Below W.heap.size W w ∧ RD w u (mL a b i) ∧ RD w v (mH a b i)

set_option maxRecDepth 100000 in
set_option maxHeartbeats 40000000 in
theorem smul_any (w : World) (s t : SQ) (a b : Sp) (bits : Nat) (E T E2 T2 : Nat) (h : RS w s a) (h2 : RS w t b) (la : a.Lim E T) (lb : b.Lim E2 T2) (hET : E + E2 + T + T2 ≤ 16000) (hb2 : 2 ≤ bits) (hb3 : bits ≤ 4096) (ht : BTab w) :
    Calls Tryd.prog 37 #[.agg #[.bool s.lo.b, .slice s.lo.A s.lo.n s.lo.c, .int .i64 a.lo.x, .bool s.hi.b, .slice s.hi.A s.hi.n s.hi.c, .int .i64 a.hi.x], .agg #[.bool t.lo.b, .slice t.lo.A t.lo.n t.lo.c, .int .i64 b.lo.x, .bool t.hi.b, .slice t.hi.A t.hi.n t.hi.c, .int .i64 b.hi.x], .int .i64 bits] w fun e w' => (∃ r : SQ, e = .returned (.tuple #[.agg #[.bool r.lo.b, .slice r.lo.A r.lo.n r.lo.c, .int .i64 (a.mul b bits).lo.x, .bool r.hi.b, .slice r.hi.A r.hi.n r.hi.c, .int .i64 (a.mul b bits).hi.x], .int .i64 0]) ∧ RS w' r (a.mul b bits)) ∧ Below w.heap.size w w' := by
  have HA := Lib.hid h
  have HB := Lib.hid h2
  have LA := Lib.hid la
  have LB := Lib.hid lb
  clear h h2 la lb
  have HT := Lib.hid ht
  have YY := Lib.hid (mul_ok LA.out LB.out hET)
  have y9 : E + E2 + (T + T2) ≤ 16000 := by omega
  clear ht
  rw [mul_four]
  have hix : ∀ (W : World) (i : Nat), i < 4 → (Instr.index 158 (.agg #[.bool s.lo.b, .slice s.lo.A s.lo.n s.lo.c, .int .i64 a.lo.x, .bool t.lo.b, .slice t.lo.A t.lo.n t.lo.c, .int .i64 b.lo.x, .bool s.lo.b, .slice s.lo.A s.lo.n s.lo.c, .int .i64 a.lo.x, .bool t.hi.b, .slice t.hi.A t.hi.n t.hi.c, .int .i64 b.hi.x, .bool s.hi.b, .slice s.hi.A s.hi.n s.hi.c, .int .i64 a.hi.x, .bool t.lo.b, .slice t.lo.A t.lo.n t.lo.c, .int .i64 b.lo.x, .bool s.hi.b, .slice s.hi.A s.hi.n s.hi.c, .int .i64 a.hi.x, .bool t.hi.b, .slice t.hi.A t.hi.n t.hi.c, .int .i64 b.hi.x]) (.int .i64 i)).run Tryd.prog W = .ok (.agg #[.bool (mA s i).b, .slice (mA s i).A (mA s i).n (mA s i).c, .int .i64 (mAd a i).x, .bool (mB t i).b, .slice (mB t i).A (mB t i).n (mB t i).c, .int .i64 (mBd b i).x]) W := by
    intro W i hi
    rcases i with _ | _ | _ | _ | i
    · rfl
    · rfl
    · rfl
    · rfl
    · omega
  have BX := Lib.hid (boxes5 w 62 #[.bool s.lo.b, .slice s.lo.A s.lo.n s.lo.c, .int .i64 a.lo.x, .bool s.hi.b, .slice s.hi.A s.hi.n s.hi.c, .int .i64 a.hi.x] 62 #[.bool t.lo.b, .slice t.lo.A t.lo.n t.lo.c, .int .i64 b.lo.x, .bool t.hi.b, .slice t.hi.A t.hi.n t.hi.c, .int .i64 b.hi.x] 62 #[.bool false, .slice none 0 0, .int .i64 0, .bool false, .slice none 0 0, .int .i64 0] 53 #[.bool false, .slice none 0 0, .int .i64 0] 53 #[.bool false, .slice none 0 0, .int .i64 0])
  go_enter Tryd.func37, Tryd.ntmps37
  go_wp2_with fail
  generalize ((((w.alloc (.cells #[.bool s.lo.b, .slice s.lo.A s.lo.n s.lo.c, .int .i64 a.lo.x, .bool s.hi.b, .slice s.hi.A s.hi.n s.hi.c, .int .i64 a.hi.x] 62)).alloc (.cells #[.bool t.lo.b, .slice t.lo.A t.lo.n t.lo.c, .int .i64 b.lo.x, .bool t.hi.b, .slice t.hi.A t.hi.n t.hi.c, .int .i64 b.hi.x] 62)).alloc (.cells #[.bool false, .slice none 0 0, .int .i64 0, .bool false, .slice none 0 0, .int .i64 0] 62)).alloc (.cells #[.bool false, .slice none 0 0, .int .i64 0] 53)).alloc (.cells #[.bool false, .slice none 0 0, .int .i64 0] 53) = w0 at *
  obtain ⟨b0, b1, b2, b3, b4, hw⟩ := BX.out
  have Ba_0 := Lib.hid b0
  have Bb_0 := Lib.hid b1
  have Bo_0 := Lib.hid b2
  have Bl_0 := Lib.hid b3
  have Bh_0 := Lib.hid b4
  have HB_0 := Lib.hid hw
  have K := Dk.below (hw.mono (Nat.le_refl _))
  clear BX hw b0 b1 b2 b3 b4
  clear K
  have la := Ba_0.out.lt
  obtain ⟨ca0, ca1, ca2, ca3, ca4, ca5⟩ := Ba_0.out.cells6
  have lb := Bb_0.out.lt
  obtain ⟨cb0, cb1, cb2, cb3, cb4, cb5⟩ := Bb_0.out.cells6
  have lo := Bo_0.out.lt
  obtain ⟨co0, co1, co2, co3, co4, co5⟩ := Bo_0.out.cells6
  have ll := Bl_0.out.lt
  obtain ⟨cl0, cl1, cl2⟩ := Bl_0.out.cells3
  have lh := Bh_0.out.lt
  obtain ⟨ch0, ch1, ch2⟩ := Bh_0.out.cells3
  go_wp2_with fail
  clear la ca0 ca1 ca2 ca3 ca4 ca5 lb cb0 cb1 cb2 cb3 cb4 cb5 lo co0 co1 co2 co3 co4 co5 ll cl0 cl1 cl2 lh ch0 ch1 ch2
  have H0 := Lib.hid (show SMulRel a b w 0 w0 from ⟨Q.nil, Q.nil, Bo_0.out, Bl_0.out, Bh_0.out, HB_0.out, RD.zero _, RD.zero _⟩)
  clear Ba_0 Bb_0 Bo_0 Bl_0 Bh_0 HB_0
  go_loopw [35] (fun k wr => ∃ i : Nat, k = .int .i64 i ∧ i ≤ 4 ∧ Hid (SMulRel a b w i wr)) (fun k _ => 4 - (intOf k).toNat)
  case atStart => exact ⟨0, rfl, Nat.zero_le _, H0⟩
  case round =>
    clear H0
    obtain ⟨i, rfl, hi, Hr⟩ := hrel
    by_cases hi2 : i < 4
    · have q3 : (i : Int) < 4 := by omega
      have q4 : (0 : Int) ≤ (i : Int) := by omega
      have hx := fun W => hix W i hi2
      have Y0 := Lib.hid (YY.out i)
      clear hix
      go_upto_block 1 with (fail)
      go_cut [] (fun wx => SMulRel a b w (i + 1) wx)
      case first =>
        by_cases e0 : i = 0
        · have e1 : ((i : Int) == 0) = true := by subst e0; rfl
          have E0 := Lib.hid e0
          clear e0
          obtain ⟨u, v, bo, bl, bh, hbel, hru, hrv⟩ := Hr.out
          have Bo_0 := Lib.hid bo
          have Bl_0 := Lib.hid bl
          have Bh_0 := Lib.hid bh
          have HB_0 := Lib.hid hbel
          have SU := Lib.hid hru
          have SV := Lib.hid hrv
          clear bo bl bh hbel hru hrv Hr
          have lo := Bo_0.out.lt
          obtain ⟨co0, co1, co2, co3, co4, co5⟩ := Bo_0.out.cells6
          have ll := Bl_0.out.lt
          obtain ⟨cl0, cl1, cl2⟩ := Bl_0.out.cells3
          have lh := Bh_0.out.lt
          obtain ⟨ch0, ch1, ch2⟩ := Bh_0.out.cells3
          have n_101 := Bo_0.out.lt
          have n_102 := Bl_0.out.lt
          have n_103 := Bh_0.out.lt
          go_wp2_with fail
          refine (dmul_any _ (mA s i) (mB t i) (mAd a i) (mBd b i) ((mA_rd HA.out i).below (below_al HB_0.out _)) ((mB_rd HB.out i).below (below_al HB_0.out _)) Y0.out.1 (HT.out.below (below_al HB_0.out _))).mono ?_
          rintro e w1 ⟨⟨q, rfl, hq⟩, hb⟩
          clear lo co0 co1 co2 co3 co4 co5 ll cl0 cl1 cl2 lh ch0 ch1 ch2
          have K := Dk.trans ((Dk.refl _).alloc _) (.below hb)
          have Bo_104 := Lib.hid (show Bk _ _ _ #[.bool false, .slice none 0 0, .int .i64 0, .bool false, .slice none 0 0, .int .i64 0] from (Bo_0.out.alloc _).below hb)
          have Bl_105 := Lib.hid (show Bk _ _ _ #[.bool u.b, .slice u.A u.n u.c, .int .i64 (mL a b i).x] from (Bl_0.out.alloc _).below hb)
          have Bh_106 := Lib.hid (show Bk _ _ _ #[.bool v.b, .slice v.A v.n v.c, .int .i64 (mH a b i).x] from (Bh_0.out.alloc _).below hb)
          have Bp_107 := Lib.hid (show Bk _ _ _ #[.bool (mA s i).b, .slice (mA s i).A (mA s i).n (mA s i).c, .int .i64 (mAd a i).x, .bool (mB t i).b, .slice (mB t i).A (mB t i).n (mB t i).c, .int .i64 (mBd b i).x] from (Bk.new _ 157 #[.bool (mA s i).b, .slice (mA s i).A (mA s i).n (mA s i).c, .int .i64 (mAd a i).x, .bool (mB t i).b, .slice (mB t i).A (mB t i).n (mB t i).c, .int .i64 (mBd b i).x]).below hb)
          have HB_108 := Lib.hid (below_tr (below_al HB_0.out _) hb)
          clear hb
          have SU_109 := Lib.hid (SU.out.dk K)
          have SV_110 := Lib.hid (SV.out.dk K)
          clear K Bo_0 Bl_0 Bh_0 HB_0 SU SV
          have RP_111 := Lib.hid hq
          clear hq
          have lo := Bo_104.out.lt
          obtain ⟨co0, co1, co2, co3, co4, co5⟩ := Bo_104.out.cells6
          have ll := Bl_105.out.lt
          obtain ⟨cl0, cl1, cl2⟩ := Bl_105.out.cells3
          have lh := Bh_106.out.lt
          obtain ⟨ch0, ch1, ch2⟩ := Bh_106.out.cells3
          have n_112 := Bo_104.out.lt
          have n_113 := Bl_105.out.lt
          have n_114 := Bh_106.out.lt
          go_wp2_with fail
          clear lo co0 co1 co2 co3 co4 co5 ll cl0 cl1 cl2 lh ch0 ch1 ch2
          have K : Dk w1 (w1.alloc (.cells #[.bool q.b, .slice q.A q.n q.c, .int .i64 ((mAd a i).mul (mBd b i)).x] 53)) := ((Dk.refl _).alloc _)
          have Bo_115 := Lib.hid (show Bk (w1.alloc (.cells #[.bool q.b, .slice q.A q.n q.c, .int .i64 ((mAd a i).mul (mBd b i)).x] 53)) (w.heap.size + 1 + 1) 62 #[.bool false, .slice none 0 0, .int .i64 0, .bool false, .slice none 0 0, .int .i64 0] from (Bo_104.out.alloc _))
          have Bl_116 := Lib.hid (show Bk (w1.alloc (.cells #[.bool q.b, .slice q.A q.n q.c, .int .i64 ((mAd a i).mul (mBd b i)).x] 53)) (w.heap.size + 1 + 1 + 1) 53 #[.bool u.b, .slice u.A u.n u.c, .int .i64 (mL a b i).x] from (Bl_105.out.alloc _))
          have Bh_117 := Lib.hid (show Bk (w1.alloc (.cells #[.bool q.b, .slice q.A q.n q.c, .int .i64 ((mAd a i).mul (mBd b i)).x] 53)) (w.heap.size + 1 + 1 + 1 + 1) 53 #[.bool v.b, .slice v.A v.n v.c, .int .i64 (mH a b i).x] from (Bh_106.out.alloc _))
          have Bx_118 := Lib.hid (show Bk (w1.alloc (.cells #[.bool q.b, .slice q.A q.n q.c, .int .i64 ((mAd a i).mul (mBd b i)).x] 53)) (w1.heap.size) 53 #[.bool q.b, .slice q.A q.n q.c, .int .i64 ((mAd a i).mul (mBd b i)).x] from (Bk.new _ 53 #[.bool q.b, .slice q.A q.n q.c, .int .i64 ((mAd a i).mul (mBd b i)).x]))
          have HB_119 := Lib.hid (show Below w.heap.size w (w1.alloc (.cells #[.bool q.b, .slice q.A q.n q.c, .int .i64 ((mAd a i).mul (mBd b i)).x] 53)) from (below_al HB_108.out _))
          have SU_120 := Lib.hid (SU_109.out.dk K)
          have SV_121 := Lib.hid (SV_110.out.dk K)
          have RP_122 := Lib.hid (RP_111.out.dk K)
          clear K Bo_104 Bl_105 Bh_106 HB_108 SU_109 SV_110 RP_111
          generalize w1.alloc (.cells #[.bool q.b, .slice q.A q.n q.c, .int .i64 ((mAd a i).mul (mBd b i)).x] 53) = w2 at *
          have lo := Bo_115.out.lt
          obtain ⟨co0, co1, co2, co3, co4, co5⟩ := Bo_115.out.cells6
          have ll := Bl_116.out.lt
          obtain ⟨cl0, cl1, cl2⟩ := Bl_116.out.cells3
          have fl0 := Bl_116.out.free 0
          have fl1 := Bl_116.out.free 1
          have fl2 := Bl_116.out.free 2
          have lh := Bh_117.out.lt
          obtain ⟨ch0, ch1, ch2⟩ := Bh_117.out.cells3
          have fh0 := Bh_117.out.free 0
          have fh1 := Bh_117.out.free 1
          have fh2 := Bh_117.out.free 2
          have lx := Bx_118.out.lt
          obtain ⟨cx0, cx1, cx2⟩ := Bx_118.out.cells3
          go_region
          go_wp2_with fail
          go_meet
          unfold SMulRel
          rw [mL_one E0.out, mH_one E0.out]
          have y0 := Bo_115.out.lt; have y1 := Bl_116.out.lt; have y2 := Bh_117.out.lt; have y3 := Bx_118.out.lt; have y4 := HB_119.out.size; exact ⟨q, q, (((((((Bo_115.out.ne (by omega) 0 (.bool q.b)).ne (by omega) 1 (.slice q.A q.n q.c)).ne (by omega) 2 (.int .i64 ((mAd a i).mul (mBd b i)).x)).ne (by omega) 0 (.bool q.b)).ne (by omega) 1 (.slice q.A q.n q.c)).ne (by omega) 2 (.int .i64 ((mAd a i).mul (mBd b i)).x)).drew), (((((((Bl_116.out.set 0 (.bool q.b)).set 1 (.slice q.A q.n q.c)).set 2 (.int .i64 ((mAd a i).mul (mBd b i)).x)).ne (by omega) 0 (.bool q.b)).ne (by omega) 1 (.slice q.A q.n q.c)).ne (by omega) 2 (.int .i64 ((mAd a i).mul (mBd b i)).x)).drew), (((((((Bh_117.out.ne (by omega) 0 (.bool q.b)).ne (by omega) 1 (.slice q.A q.n q.c)).ne (by omega) 2 (.int .i64 ((mAd a i).mul (mBd b i)).x)).set 0 (.bool q.b)).set 1 (.slice q.A q.n q.c)).set 2 (.int .i64 ((mAd a i).mul (mBd b i)).x)).drew), (below_dr (below_st (below_st (below_st (below_st (below_st (below_st HB_119.out 0 (by omega) (.bool q.b)) 1 (by omega) (.slice q.A q.n q.c)) 2 (by omega) (.int .i64 ((mAd a i).mul (mBd b i)).x)) 0 (by omega) (.bool q.b)) 1 (by omega) (.slice q.A q.n q.c)) 2 (by omega) (.int .i64 ((mAd a i).mul (mBd b i)).x))), (RP_122.out.dk ((((((((Dk.refl _).set (cs := #[.bool u.b, .slice u.A u.n u.c, .int .i64 (mL a b i).x]) Bl_116.out 0 (by intro _ hh; cases hh) (.bool q.b)).set (cs := #[.bool q.b, .slice u.A u.n u.c, .int .i64 (mL a b i).x]) (Bl_116.out.set 0 (.bool q.b)) 1 (by intro _ hh; cases hh) (.slice q.A q.n q.c)).set (cs := #[.bool q.b, .slice q.A q.n q.c, .int .i64 (mL a b i).x]) ((Bl_116.out.set 0 (.bool q.b)).set 1 (.slice q.A q.n q.c)) 2 (by intro _ hh; cases hh) (.int .i64 ((mAd a i).mul (mBd b i)).x)).set (cs := #[.bool v.b, .slice v.A v.n v.c, .int .i64 (mH a b i).x]) (((Bh_117.out.ne (by omega) 0 (.bool q.b)).ne (by omega) 1 (.slice q.A q.n q.c)).ne (by omega) 2 (.int .i64 ((mAd a i).mul (mBd b i)).x)) 0 (by intro _ hh; cases hh) (.bool q.b)).set (cs := #[.bool q.b, .slice v.A v.n v.c, .int .i64 (mH a b i).x]) ((((Bh_117.out.ne (by omega) 0 (.bool q.b)).ne (by omega) 1 (.slice q.A q.n q.c)).ne (by omega) 2 (.int .i64 ((mAd a i).mul (mBd b i)).x)).set 0 (.bool q.b)) 1 (by intro _ hh; cases hh) (.slice q.A q.n q.c)).set (cs := #[.bool q.b, .slice q.A q.n q.c, .int .i64 (mH a b i).x]) (((((Bh_117.out.ne (by omega) 0 (.bool q.b)).ne (by omega) 1 (.slice q.A q.n q.c)).ne (by omega) 2 (.int .i64 ((mAd a i).mul (mBd b i)).x)).set 0 (.bool q.b)).set 1 (.slice q.A q.n q.c)) 2 (by intro _ hh; cases hh) (.int .i64 ((mAd a i).mul (mBd b i)).x)).drew)), (RP_122.out.dk ((((((((Dk.refl _).set (cs := #[.bool u.b, .slice u.A u.n u.c, .int .i64 (mL a b i).x]) Bl_116.out 0 (by intro _ hh; cases hh) (.bool q.b)).set (cs := #[.bool q.b, .slice u.A u.n u.c, .int .i64 (mL a b i).x]) (Bl_116.out.set 0 (.bool q.b)) 1 (by intro _ hh; cases hh) (.slice q.A q.n q.c)).set (cs := #[.bool q.b, .slice q.A q.n q.c, .int .i64 (mL a b i).x]) ((Bl_116.out.set 0 (.bool q.b)).set 1 (.slice q.A q.n q.c)) 2 (by intro _ hh; cases hh) (.int .i64 ((mAd a i).mul (mBd b i)).x)).set (cs := #[.bool v.b, .slice v.A v.n v.c, .int .i64 (mH a b i).x]) (((Bh_117.out.ne (by omega) 0 (.bool q.b)).ne (by omega) 1 (.slice q.A q.n q.c)).ne (by omega) 2 (.int .i64 ((mAd a i).mul (mBd b i)).x)) 0 (by intro _ hh; cases hh) (.bool q.b)).set (cs := #[.bool q.b, .slice v.A v.n v.c, .int .i64 (mH a b i).x]) ((((Bh_117.out.ne (by omega) 0 (.bool q.b)).ne (by omega) 1 (.slice q.A q.n q.c)).ne (by omega) 2 (.int .i64 ((mAd a i).mul (mBd b i)).x)).set 0 (.bool q.b)) 1 (by intro _ hh; cases hh) (.slice q.A q.n q.c)).set (cs := #[.bool q.b, .slice q.A q.n q.c, .int .i64 (mH a b i).x]) (((((Bh_117.out.ne (by omega) 0 (.bool q.b)).ne (by omega) 1 (.slice q.A q.n q.c)).ne (by omega) 2 (.int .i64 ((mAd a i).mul (mBd b i)).x)).set 0 (.bool q.b)).set 1 (.slice q.A q.n q.c)) 2 (by intro _ hh; cases hh) (.int .i64 ((mAd a i).mul (mBd b i)).x)).drew))⟩
        · have e1 : ((i : Int) == 0) = false := by simp only [beq_eq_false_iff_ne]; omega
          have E0 := Lib.hid e0
          clear e0
          obtain ⟨u, v, bo, bl, bh, hbel, hru, hrv⟩ := Hr.out
          have Bo_0 := Lib.hid bo
          have Bl_0 := Lib.hid bl
          have Bh_0 := Lib.hid bh
          have HB_0 := Lib.hid hbel
          have SU := Lib.hid hru
          have SV := Lib.hid hrv
          clear bo bl bh hbel hru hrv Hr
          have lo := Bo_0.out.lt
          obtain ⟨co0, co1, co2, co3, co4, co5⟩ := Bo_0.out.cells6
          have ll := Bl_0.out.lt
          obtain ⟨cl0, cl1, cl2⟩ := Bl_0.out.cells3
          have lh := Bh_0.out.lt
          obtain ⟨ch0, ch1, ch2⟩ := Bh_0.out.cells3
          have n_101 := Bo_0.out.lt
          have n_102 := Bl_0.out.lt
          have n_103 := Bh_0.out.lt
          go_wp2_with fail
          refine (dmul_any _ (mA s i) (mB t i) (mAd a i) (mBd b i) ((mA_rd HA.out i).below (below_al HB_0.out _)) ((mB_rd HB.out i).below (below_al HB_0.out _)) Y0.out.1 (HT.out.below (below_al HB_0.out _))).mono ?_
          rintro e w1 ⟨⟨q, rfl, hq⟩, hb⟩
          clear lo co0 co1 co2 co3 co4 co5 ll cl0 cl1 cl2 lh ch0 ch1 ch2
          have K := Dk.trans ((Dk.refl _).alloc _) (.below hb)
          have Bo_104 := Lib.hid (show Bk _ _ _ #[.bool false, .slice none 0 0, .int .i64 0, .bool false, .slice none 0 0, .int .i64 0] from (Bo_0.out.alloc _).below hb)
          have Bl_105 := Lib.hid (show Bk _ _ _ #[.bool u.b, .slice u.A u.n u.c, .int .i64 (mL a b i).x] from (Bl_0.out.alloc _).below hb)
          have Bh_106 := Lib.hid (show Bk _ _ _ #[.bool v.b, .slice v.A v.n v.c, .int .i64 (mH a b i).x] from (Bh_0.out.alloc _).below hb)
          have Bp_107 := Lib.hid (show Bk _ _ _ #[.bool (mA s i).b, .slice (mA s i).A (mA s i).n (mA s i).c, .int .i64 (mAd a i).x, .bool (mB t i).b, .slice (mB t i).A (mB t i).n (mB t i).c, .int .i64 (mBd b i).x] from (Bk.new _ 157 #[.bool (mA s i).b, .slice (mA s i).A (mA s i).n (mA s i).c, .int .i64 (mAd a i).x, .bool (mB t i).b, .slice (mB t i).A (mB t i).n (mB t i).c, .int .i64 (mBd b i).x]).below hb)
          have HB_108 := Lib.hid (below_tr (below_al HB_0.out _) hb)
          clear hb
          have SU_109 := Lib.hid (SU.out.dk K)
          have SV_110 := Lib.hid (SV.out.dk K)
          clear K Bo_0 Bl_0 Bh_0 HB_0 SU SV
          have RP_111 := Lib.hid hq
          clear hq
          have lo := Bo_104.out.lt
          obtain ⟨co0, co1, co2, co3, co4, co5⟩ := Bo_104.out.cells6
          have ll := Bl_105.out.lt
          obtain ⟨cl0, cl1, cl2⟩ := Bl_105.out.cells3
          have lh := Bh_106.out.lt
          obtain ⟨ch0, ch1, ch2⟩ := Bh_106.out.cells3
          have n_112 := Bo_104.out.lt
          have n_113 := Bl_105.out.lt
          have n_114 := Bh_106.out.lt
          have Z1 := Lib.hid Y0.out.2.1
          have Z2 := Lib.hid Y0.out.2.2.1
          have Z3 := Lib.hid Y0.out.2.2.2
          go_wp2_with fail
          clear lo co0 co1 co2 co3 co4 co5 ll cl0 cl1 cl2 lh ch0 ch1 ch2
          have K : Dk w1 (w1.alloc (.cells #[.bool q.b, .slice q.A q.n q.c, .int .i64 ((mAd a i).mul (mBd b i)).x] 53)) := ((Dk.refl _).alloc _)
          have Bo_115 := Lib.hid (show Bk (w1.alloc (.cells #[.bool q.b, .slice q.A q.n q.c, .int .i64 ((mAd a i).mul (mBd b i)).x] 53)) (w.heap.size + 1 + 1) 62 #[.bool false, .slice none 0 0, .int .i64 0, .bool false, .slice none 0 0, .int .i64 0] from (Bo_104.out.alloc _))
          have Bl_116 := Lib.hid (show Bk (w1.alloc (.cells #[.bool q.b, .slice q.A q.n q.c, .int .i64 ((mAd a i).mul (mBd b i)).x] 53)) (w.heap.size + 1 + 1 + 1) 53 #[.bool u.b, .slice u.A u.n u.c, .int .i64 (mL a b i).x] from (Bl_105.out.alloc _))
          have Bh_117 := Lib.hid (show Bk (w1.alloc (.cells #[.bool q.b, .slice q.A q.n q.c, .int .i64 ((mAd a i).mul (mBd b i)).x] 53)) (w.heap.size + 1 + 1 + 1 + 1) 53 #[.bool v.b, .slice v.A v.n v.c, .int .i64 (mH a b i).x] from (Bh_106.out.alloc _))
          have Bx_118 := Lib.hid (show Bk (w1.alloc (.cells #[.bool q.b, .slice q.A q.n q.c, .int .i64 ((mAd a i).mul (mBd b i)).x] 53)) (w1.heap.size) 53 #[.bool q.b, .slice q.A q.n q.c, .int .i64 ((mAd a i).mul (mBd b i)).x] from (Bk.new _ 53 #[.bool q.b, .slice q.A q.n q.c, .int .i64 ((mAd a i).mul (mBd b i)).x]))
          have HB_119 := Lib.hid (show Below w.heap.size w (w1.alloc (.cells #[.bool q.b, .slice q.A q.n q.c, .int .i64 ((mAd a i).mul (mBd b i)).x] 53)) from (below_al HB_108.out _))
          have SU_120 := Lib.hid (SU_109.out.dk K)
          have SV_121 := Lib.hid (SV_110.out.dk K)
          have RP_122 := Lib.hid (RP_111.out.dk K)
          clear K Bo_104 Bl_105 Bh_106 HB_108 SU_109 SV_110 RP_111
          generalize w1.alloc (.cells #[.bool q.b, .slice q.A q.n q.c, .int .i64 ((mAd a i).mul (mBd b i)).x] 53) = w2 at *
          clear Y0 YY HA HB LA LB HT hx
          have ll := Bl_116.out.lt
          obtain ⟨cl0, cl1, cl2⟩ := Bl_116.out.cells3
          have fl0 := Bl_116.out.free 0
          have fl1 := Bl_116.out.free 1
          have fl2 := Bl_116.out.free 2
          have lh := Bh_117.out.lt
          obtain ⟨ch0, ch1, ch2⟩ := Bh_117.out.cells3
          have fh0 := Bh_117.out.free 0
          have fh1 := Bh_117.out.free 1
          have fh2 := Bh_117.out.free 2
          have lx := Bx_118.out.lt
          obtain ⟨cx0, cx1, cx2⟩ := Bx_118.out.cells3
          have ge_123 := Lib.hid (show w.heap.size ≤ w.heap.size + 1 + 1 + 1 by have := HB_119.out.size; omega)
          have ne_124 := Lib.hid (show w.heap.size + 1 + 1 ≠ w.heap.size + 1 + 1 + 1 by have := Bo_115.out.lt; have := Bl_116.out.lt; have := Bh_117.out.lt; have := Bx_118.out.lt; have := HB_119.out.size; omega)
          have ne_125 := Lib.hid (show w.heap.size + 1 + 1 + 1 + 1 ≠ w.heap.size + 1 + 1 + 1 by have := Bo_115.out.lt; have := Bl_116.out.lt; have := Bh_117.out.lt; have := Bx_118.out.lt; have := HB_119.out.size; omega)
          have ne_126 := Lib.hid (show w1.heap.size ≠ w.heap.size + 1 + 1 + 1 by have := Bo_115.out.lt; have := Bl_116.out.lt; have := Bh_117.out.lt; have := Bx_118.out.lt; have := HB_119.out.size; omega)
          have ge_127 := Lib.hid (show w.heap.size ≤ w.heap.size + 1 + 1 + 1 + 1 by have := HB_119.out.size; omega)
          have ne_128 := Lib.hid (show w.heap.size + 1 + 1 ≠ w.heap.size + 1 + 1 + 1 + 1 by have := Bo_115.out.lt; have := Bl_116.out.lt; have := Bh_117.out.lt; have := Bx_118.out.lt; have := HB_119.out.size; omega)
          have ne_129 := Lib.hid (show w.heap.size + 1 + 1 + 1 ≠ w.heap.size + 1 + 1 + 1 + 1 by have := Bo_115.out.lt; have := Bl_116.out.lt; have := Bh_117.out.lt; have := Bx_118.out.lt; have := HB_119.out.size; omega)
          have ne_130 := Lib.hid (show w1.heap.size ≠ w.heap.size + 1 + 1 + 1 + 1 by have := Bo_115.out.lt; have := Bl_116.out.lt; have := Bh_117.out.lt; have := Bx_118.out.lt; have := HB_119.out.size; omega)
          have tok_131 : True := trivial
          have tok_132 : True := trivial
          go_region_with
            (first
             | (clear tok_131; go_at_call 97; refine (dmin_any _ u q (mL a b i) ((mAd a i).mul (mBd b i)) (E + E2) (T + T2) (SU_120.out.dk ((Dk.refl _).drew)) (RP_122.out.dk ((Dk.refl _).drew)) Z2.out Z1.out y9).mono ?_; rintro e w3 ⟨⟨m, rfl, hu⟩, hb⟩; clear ll cl0 cl1 cl2 fl0 fl1 fl2 lh ch0 ch1 ch2 fh0 fh1 fh2 lx cx0 cx1 cx2; have K := Dk.trans ((Dk.refl _).drew) (.below hb); have Bo_133 := Lib.hid (show Bk _ _ _ #[.bool false, .slice none 0 0, .int .i64 0, .bool false, .slice none 0 0, .int .i64 0] from (Bo_115.out.drew).below hb); have Bl_134 := Lib.hid (show Bk _ _ _ #[.bool u.b, .slice u.A u.n u.c, .int .i64 (mL a b i).x] from (Bl_116.out.drew).below hb); have Bh_135 := Lib.hid (show Bk _ _ _ #[.bool v.b, .slice v.A v.n v.c, .int .i64 (mH a b i).x] from (Bh_117.out.drew).below hb); have Bx_136 := Lib.hid (show Bk _ _ _ #[.bool q.b, .slice q.A q.n q.c, .int .i64 ((mAd a i).mul (mBd b i)).x] from (Bx_118.out.drew).below hb); have HB_137 := Lib.hid (below_tr (below_dr HB_119.out) hb); clear hb; have SU_138 := Lib.hid (SU_120.out.dk K); have SV_139 := Lib.hid (SV_121.out.dk K); have RP_140 := Lib.hid (RP_122.out.dk K); clear K Bo_115 Bl_116 Bh_117 Bx_118 HB_119 SU_120 SV_121 RP_122; have RL_141 := Lib.hid hu; clear hu; have ll := Bl_134.out.lt; obtain ⟨cl0, cl1, cl2⟩ := Bl_134.out.cells3; have fl0 := Bl_134.out.free 0; have fl1 := Bl_134.out.free 1; have fl2 := Bl_134.out.free 2; have lh := Bh_135.out.lt; obtain ⟨ch0, ch1, ch2⟩ := Bh_135.out.cells3; have fh0 := Bh_135.out.free 0; have fh1 := Bh_135.out.free 1; have fh2 := Bh_135.out.free 2; have lx := Bx_136.out.lt; obtain ⟨cx0, cx1, cx2⟩ := Bx_136.out.cells3)
             | (clear tok_132; go_at_call 87; refine (dmax_any _ v q (mH a b i) ((mAd a i).mul (mBd b i)) (E + E2) (T + T2) SV_139.out RP_140.out Z3.out Z1.out y9).mono ?_; rintro e w4 ⟨⟨x, rfl, hu⟩, hb⟩; clear ll cl0 cl1 cl2 fl0 fl1 fl2 lh ch0 ch1 ch2 fh0 fh1 fh2 lx cx0 cx1 cx2; have K := Dk.below hb; have Bo_142 := Lib.hid (show Bk _ _ _ #[.bool false, .slice none 0 0, .int .i64 0, .bool false, .slice none 0 0, .int .i64 0] from Bo_133.out.below hb); have Bl_143 := Lib.hid (show Bk _ _ _ #[.bool u.b, .slice u.A u.n u.c, .int .i64 (mL a b i).x] from Bl_134.out.below hb); have Bh_144 := Lib.hid (show Bk _ _ _ #[.bool v.b, .slice v.A v.n v.c, .int .i64 (mH a b i).x] from Bh_135.out.below hb); have Bx_145 := Lib.hid (show Bk _ _ _ #[.bool q.b, .slice q.A q.n q.c, .int .i64 ((mAd a i).mul (mBd b i)).x] from Bx_136.out.below hb); have HB_146 := Lib.hid (below_tr HB_137.out hb); clear hb; have SU_147 := Lib.hid (SU_138.out.dk K); have SV_148 := Lib.hid (SV_139.out.dk K); have RP_149 := Lib.hid (RP_140.out.dk K); have RL_150 := Lib.hid (RL_141.out.dk K); clear K Bo_133 Bl_134 Bh_135 Bx_136 HB_137 SU_138 SV_139 RP_140 RL_141; have RH_151 := Lib.hid hu; clear hu; have ll := Bl_143.out.lt; obtain ⟨cl0, cl1, cl2⟩ := Bl_143.out.cells3; have fl0 := Bl_143.out.free 0; have fl1 := Bl_143.out.free 1; have fl2 := Bl_143.out.free 2; have lh := Bh_144.out.lt; obtain ⟨ch0, ch1, ch2⟩ := Bh_144.out.cells3; have fh0 := Bh_144.out.free 0; have fh1 := Bh_144.out.free 1; have fh2 := Bh_144.out.free 2; have lx := Bx_145.out.lt; obtain ⟨cx0, cx1, cx2⟩ := Bx_145.out.cells3))
          all_goals (go_wp2_with fail; go_meet; unfold SMulRel; rw [mL_more E0.out, mH_more E0.out]; exact ⟨m, x, ((((((Bo_142.out.ne ne_124.out 0 (.bool m.b)).ne ne_124.out 1 (.slice m.A m.n m.c)).ne ne_124.out 2 (.int .i64 ((mL a b i).mn ((mAd a i).mul (mBd b i))).x)).ne ne_128.out 0 (.bool x.b)).ne ne_128.out 1 (.slice x.A x.n x.c)).ne ne_128.out 2 (.int .i64 ((mH a b i).mx ((mAd a i).mul (mBd b i))).x)), ((((((Bl_143.out.set 0 (.bool m.b)).set 1 (.slice m.A m.n m.c)).set 2 (.int .i64 ((mL a b i).mn ((mAd a i).mul (mBd b i))).x)).ne ne_129.out 0 (.bool x.b)).ne ne_129.out 1 (.slice x.A x.n x.c)).ne ne_129.out 2 (.int .i64 ((mH a b i).mx ((mAd a i).mul (mBd b i))).x)), ((((((Bh_144.out.ne ne_125.out 0 (.bool m.b)).ne ne_125.out 1 (.slice m.A m.n m.c)).ne ne_125.out 2 (.int .i64 ((mL a b i).mn ((mAd a i).mul (mBd b i))).x)).set 0 (.bool x.b)).set 1 (.slice x.A x.n x.c)).set 2 (.int .i64 ((mH a b i).mx ((mAd a i).mul (mBd b i))).x)), (below_st (below_st (below_st (below_st (below_st (below_st HB_146.out 0 ge_123.out (.bool m.b)) 1 ge_123.out (.slice m.A m.n m.c)) 2 ge_123.out (.int .i64 ((mL a b i).mn ((mAd a i).mul (mBd b i))).x)) 0 ge_127.out (.bool x.b)) 1 ge_127.out (.slice x.A x.n x.c)) 2 ge_127.out (.int .i64 ((mH a b i).mx ((mAd a i).mul (mBd b i))).x)), (RL_150.out.dk (((((((Dk.refl _).set (cs := #[.bool u.b, .slice u.A u.n u.c, .int .i64 (mL a b i).x]) Bl_143.out 0 (by intro _ hh; cases hh) (.bool m.b)).set (cs := #[.bool m.b, .slice u.A u.n u.c, .int .i64 (mL a b i).x]) (Bl_143.out.set 0 (.bool m.b)) 1 (by intro _ hh; cases hh) (.slice m.A m.n m.c)).set (cs := #[.bool m.b, .slice m.A m.n m.c, .int .i64 (mL a b i).x]) ((Bl_143.out.set 0 (.bool m.b)).set 1 (.slice m.A m.n m.c)) 2 (by intro _ hh; cases hh) (.int .i64 ((mL a b i).mn ((mAd a i).mul (mBd b i))).x)).set (cs := #[.bool v.b, .slice v.A v.n v.c, .int .i64 (mH a b i).x]) (((Bh_144.out.ne ne_125.out 0 (.bool m.b)).ne ne_125.out 1 (.slice m.A m.n m.c)).ne ne_125.out 2 (.int .i64 ((mL a b i).mn ((mAd a i).mul (mBd b i))).x)) 0 (by intro _ hh; cases hh) (.bool x.b)).set (cs := #[.bool x.b, .slice v.A v.n v.c, .int .i64 (mH a b i).x]) ((((Bh_144.out.ne ne_125.out 0 (.bool m.b)).ne ne_125.out 1 (.slice m.A m.n m.c)).ne ne_125.out 2 (.int .i64 ((mL a b i).mn ((mAd a i).mul (mBd b i))).x)).set 0 (.bool x.b)) 1 (by intro _ hh; cases hh) (.slice x.A x.n x.c)).set (cs := #[.bool x.b, .slice x.A x.n x.c, .int .i64 (mH a b i).x]) (((((Bh_144.out.ne ne_125.out 0 (.bool m.b)).ne ne_125.out 1 (.slice m.A m.n m.c)).ne ne_125.out 2 (.int .i64 ((mL a b i).mn ((mAd a i).mul (mBd b i))).x)).set 0 (.bool x.b)).set 1 (.slice x.A x.n x.c)) 2 (by intro _ hh; cases hh) (.int .i64 ((mH a b i).mx ((mAd a i).mul (mBd b i))).x))), (RH_151.out.dk (((((((Dk.refl _).set (cs := #[.bool u.b, .slice u.A u.n u.c, .int .i64 (mL a b i).x]) Bl_143.out 0 (by intro _ hh; cases hh) (.bool m.b)).set (cs := #[.bool m.b, .slice u.A u.n u.c, .int .i64 (mL a b i).x]) (Bl_143.out.set 0 (.bool m.b)) 1 (by intro _ hh; cases hh) (.slice m.A m.n m.c)).set (cs := #[.bool m.b, .slice m.A m.n m.c, .int .i64 (mL a b i).x]) ((Bl_143.out.set 0 (.bool m.b)).set 1 (.slice m.A m.n m.c)) 2 (by intro _ hh; cases hh) (.int .i64 ((mL a b i).mn ((mAd a i).mul (mBd b i))).x)).set (cs := #[.bool v.b, .slice v.A v.n v.c, .int .i64 (mH a b i).x]) (((Bh_144.out.ne ne_125.out 0 (.bool m.b)).ne ne_125.out 1 (.slice m.A m.n m.c)).ne ne_125.out 2 (.int .i64 ((mL a b i).mn ((mAd a i).mul (mBd b i))).x)) 0 (by intro _ hh; cases hh) (.bool x.b)).set (cs := #[.bool x.b, .slice v.A v.n v.c, .int .i64 (mH a b i).x]) ((((Bh_144.out.ne ne_125.out 0 (.bool m.b)).ne ne_125.out 1 (.slice m.A m.n m.c)).ne ne_125.out 2 (.int .i64 ((mL a b i).mn ((mAd a i).mul (mBd b i))).x)).set 0 (.bool x.b)) 1 (by intro _ hh; cases hh) (.slice x.A x.n x.c)).set (cs := #[.bool x.b, .slice x.A x.n x.c, .int .i64 (mH a b i).x]) (((((Bh_144.out.ne ne_125.out 0 (.bool m.b)).ne ne_125.out 1 (.slice m.A m.n m.c)).ne ne_125.out 2 (.int .i64 ((mL a b i).mn ((mAd a i).mul (mBd b i))).x)).set 0 (.bool x.b)).set 1 (.slice x.A x.n x.c)) 2 (by intro _ hh; cases hh) (.int .i64 ((mH a b i).mx ((mAd a i).mul (mBd b i))).x)))⟩)
      case rest =>
        clear HA HB LA LB HT YY Y0 hx Hr
        have HC := Lib.hid hcut
        clear hcut
        go_wp2_with fail
        go_roundw
        case rel => exact ⟨i + 1, by go_num, hi2, HC⟩
        case measure => simp only [intOf]; omega
    · obtain rfl : i = 4 := by omega
      have Y0 := Lib.hid (YY.out 4)
      clear hi2 hix YY
      obtain ⟨u, v, bo, bl, bh, hbel, hru, hrv⟩ := Hr.out
      have Bo_0 := Lib.hid bo
      have Bl_0 := Lib.hid bl
      have Bh_0 := Lib.hid bh
      have HB_0 := Lib.hid hbel
      have SU := Lib.hid hru
      have SV := Lib.hid hrv
      clear bo bl bh hbel hru hrv Hr
      have lo := Bo_0.out.lt
      obtain ⟨co0, co1, co2, co3, co4, co5⟩ := Bo_0.out.cells6
      have ll := Bl_0.out.lt
      obtain ⟨cl0, cl1, cl2⟩ := Bl_0.out.cells3
      have lh := Bh_0.out.lt
      obtain ⟨ch0, ch1, ch2⟩ := Bh_0.out.cells3
      go_wp2_with fail
      refine (sout_any _ u v (mL a b 4) (mH a b 4) bits (E + E2) (T + T2) SU.out SV.out Y0.out.2.2.1 Y0.out.2.2.2 y9 hb2 hb3 (HT.out.below HB_0.out)).mono ?_
      rintro e w1 ⟨⟨r, rfl, hr⟩, hb⟩
      clear lo co0 co1 co2 co3 co4 co5 ll cl0 cl1 cl2 lh ch0 ch1 ch2
      have K := Dk.below hb
      have Bo_101 := Lib.hid (show Bk _ _ _ #[.bool false, .slice none 0 0, .int .i64 0, .bool false, .slice none 0 0, .int .i64 0] from Bo_0.out.below hb)
      have Bl_102 := Lib.hid (show Bk _ _ _ #[.bool u.b, .slice u.A u.n u.c, .int .i64 (mL a b 4).x] from Bl_0.out.below hb)
      have Bh_103 := Lib.hid (show Bk _ _ _ #[.bool v.b, .slice v.A v.n v.c, .int .i64 (mH a b 4).x] from Bh_0.out.below hb)
      have HB_104 := Lib.hid (below_tr HB_0.out hb)
      clear hb
      have SU_105 := Lib.hid (SU.out.dk K)
      have SV_106 := Lib.hid (SV.out.dk K)
      clear K Bo_0 Bl_0 Bh_0 HB_0 SU SV
      have RZ_107 := Lib.hid hr
      clear hr
      have lo := Bo_101.out.lt
      obtain ⟨co0, co1, co2, co3, co4, co5⟩ := Bo_101.out.cells6
      have fo0 := Bo_101.out.free 0
      have fo1 := Bo_101.out.free 1
      have fo2 := Bo_101.out.free 2
      have fo3 := Bo_101.out.free 3
      have fo4 := Bo_101.out.free 4
      have fo5 := Bo_101.out.free 5
      have ll := Bl_102.out.lt
      obtain ⟨cl0, cl1, cl2⟩ := Bl_102.out.cells3
      have lh := Bh_103.out.lt
      obtain ⟨ch0, ch1, ch2⟩ := Bh_103.out.cells3
      go_wp2
      refine bodyPost_ret (v := .tuple #[.agg #[.bool r.lo.b, .slice r.lo.A r.lo.n r.lo.c, .int .i64 (Sp.out (mL a b 4) (mH a b 4) bits).lo.x, .bool r.hi.b, .slice r.hi.A r.hi.n r.hi.c, .int .i64 (Sp.out (mL a b 4) (mH a b 4) bits).hi.x], .int .i64 0]) ?_ rfl ?_
      · simp [results, Tryd.f37, go_sem, co0, co1, co2, co3, co4, co5]
      · have y0 := HB_104.out.size; exact ⟨⟨r, rfl, (RZ_107.out.dk (((((((Dk.refl _).set (cs := #[.bool false, .slice none 0 0, .int .i64 0, .bool false, .slice none 0 0, .int .i64 0]) Bo_101.out 0 (by intro _ hh; cases hh) (.bool r.lo.b)).set (cs := #[.bool r.lo.b, .slice none 0 0, .int .i64 0, .bool false, .slice none 0 0, .int .i64 0]) (Bo_101.out.set 0 (.bool r.lo.b)) 1 (by intro _ hh; cases hh) (.slice r.lo.A r.lo.n r.lo.c)).set (cs := #[.bool r.lo.b, .slice r.lo.A r.lo.n r.lo.c, .int .i64 0, .bool false, .slice none 0 0, .int .i64 0]) ((Bo_101.out.set 0 (.bool r.lo.b)).set 1 (.slice r.lo.A r.lo.n r.lo.c)) 2 (by intro _ hh; cases hh) (.int .i64 (Sp.out (mL a b 4) (mH a b 4) bits).lo.x)).set (cs := #[.bool r.lo.b, .slice r.lo.A r.lo.n r.lo.c, .int .i64 (Sp.out (mL a b 4) (mH a b 4) bits).lo.x, .bool false, .slice none 0 0, .int .i64 0]) (((Bo_101.out.set 0 (.bool r.lo.b)).set 1 (.slice r.lo.A r.lo.n r.lo.c)).set 2 (.int .i64 (Sp.out (mL a b 4) (mH a b 4) bits).lo.x)) 3 (by intro _ hh; cases hh) (.bool r.hi.b)).set (cs := #[.bool r.lo.b, .slice r.lo.A r.lo.n r.lo.c, .int .i64 (Sp.out (mL a b 4) (mH a b 4) bits).lo.x, .bool r.hi.b, .slice none 0 0, .int .i64 0]) ((((Bo_101.out.set 0 (.bool r.lo.b)).set 1 (.slice r.lo.A r.lo.n r.lo.c)).set 2 (.int .i64 (Sp.out (mL a b 4) (mH a b 4) bits).lo.x)).set 3 (.bool r.hi.b)) 4 (by intro _ hh; cases hh) (.slice r.hi.A r.hi.n r.hi.c)).set (cs := #[.bool r.lo.b, .slice r.lo.A r.lo.n r.lo.c, .int .i64 (Sp.out (mL a b 4) (mH a b 4) bits).lo.x, .bool r.hi.b, .slice r.hi.A r.hi.n r.hi.c, .int .i64 0]) (((((Bo_101.out.set 0 (.bool r.lo.b)).set 1 (.slice r.lo.A r.lo.n r.lo.c)).set 2 (.int .i64 (Sp.out (mL a b 4) (mH a b 4) bits).lo.x)).set 3 (.bool r.hi.b)).set 4 (.slice r.hi.A r.hi.n r.hi.c)) 5 (by intro _ hh; cases hh) (.int .i64 (Sp.out (mL a b 4) (mH a b 4) bits).hi.x)))⟩, (below_st (below_st (below_st (below_st (below_st (below_st HB_104.out 0 (by omega) (.bool r.lo.b)) 1 (by omega) (.slice r.lo.A r.lo.n r.lo.c)) 2 (by omega) (.int .i64 (Sp.out (mL a b 4) (mH a b 4) bits).lo.x)) 3 (by omega) (.bool r.hi.b)) 4 (by omega) (.slice r.hi.A r.hi.n r.hi.c)) 5 (by omega) (.int .i64 (Sp.out (mL a b 4) (mH a b 4) bits).hi.x))⟩

end Go.Proofs.YtgioppkggpfnoaaDoor.Nu
end

section
/- The walk of vec.Inner. -/
set_option linter.unusedVariables false
namespace Go.Proofs.YtgioppkggpfnoaaDoor.Nu
open Go.RowKit Go.Proofs

/-- The state ahead of round i. -/
def InnerRel (f g : Nat → Sp) (bits : Nat) (W : World) (i : Nat) (w : World) : Prop :=
  ∃ u : SQ, Bk w W.heap.size 62 #[.bool false, .slice none 0 0, .int .i64 0, .bool false, .slice none 0 0, .int .i64 0] ∧ Bk w (W.heap.size + 1) 62 #[.bool u.lo.b, .slice u.lo.A u.lo.n u.lo.c, .int .i64 (inner f g bits i).lo.x, .bool u.hi.b, .slice u.hi.A u.hi.n u.hi.c, .int .i64 (inner f g bits i).hi.x] ∧ Below W.heap.size W w ∧ RS w u (inner f g bits i)
theorem InnerRel.start {w w0 : World} (f g : Nat → Sp) (bits : Nat) (b0 : Bk w0 w.heap.size 62 #[.bool false, .slice none 0 0, .int .i64 0, .bool false, .slice none 0 0, .int .i64 0]) (b1 : Bk w0 (w.heap.size + 1) 62 #[.bool false, .slice none 0 0, .int .i64 0, .bool false, .slice none 0 0, .int .i64 0]) (hw : Below w.heap.size w w0) : InnerRel f g bits w 0 w0 :=
  ⟨⟨Q.nil, Q.nil⟩, b0, b1, hw, RS.zero _⟩

set_option maxRecDepth 100000 in
set_option maxHeartbeats 4000000 in
theorem inner_any (w : World) (A B : Option Addr) (n c d : Nat) (f g : Nat → Sp) (bits : Nat) (E T E2 T2 : Nat) (h : RSs w A n c f) (h2 : RSs w B n d g) (la : ∀ i, i < n → (f i).Lim E T) (lb : ∀ i, i < n → (g i).Lim E2 T2) (hET : E + E2 + T + T2 + 2 * n + 4 ≤ 16000) (hb2 : 2 ≤ bits) (hb3 : bits ≤ 4096) (ht : BTab w) :
    Calls Tryd.prog 121 #[.slice A n c, .slice B n d, .int .i64 bits] w fun e w' => (∃ r : SQ, e = .returned (.tuple #[.agg #[.bool r.lo.b, .slice r.lo.A r.lo.n r.lo.c, .int .i64 (inner f g bits n).lo.x, .bool r.hi.b, .slice r.hi.A r.hi.n r.hi.c, .int .i64 (inner f g bits n).hi.x], .int .i64 0]) ∧ RS w' r (inner f g bits n)) ∧ Below w.heap.size w w' := by
  have HA := Lib.hid h
  have HB := Lib.hid h2
  have LA := Lib.hid la
  have LB := Lib.hid lb
  have HT := Lib.hid ht
  have n0 := h.2.1
  clear h h2 la lb ht
  have q0 : ((n : Int) != (n : Int)) = false := by simp
  have BX := Lib.hid (boxes2 w 62 #[.bool false, .slice none 0 0, .int .i64 0, .bool false, .slice none 0 0, .int .i64 0] 62 #[.bool false, .slice none 0 0, .int .i64 0, .bool false, .slice none 0 0, .int .i64 0])
  go_enter Tryd.func121, Tryd.ntmps121
  go_wp2_with fail
  generalize (w.alloc (.cells #[.bool false, .slice none 0 0, .int .i64 0, .bool false, .slice none 0 0, .int .i64 0] 62)).alloc (.cells #[.bool false, .slice none 0 0, .int .i64 0, .bool false, .slice none 0 0, .int .i64 0] 62) = w0 at *
  obtain ⟨b0, b1, hw⟩ := BX.out
  have H0 := Lib.hid (InnerRel.start f g bits b0 b1 hw)
  clear BX b0 b1 hw
  go_loopw [20] (fun k wr => ∃ i : Nat, k = .int .i64 i ∧ i ≤ n ∧ Hid (InnerRel f g bits w i wr)) (fun k _ => n - (intOf k).toNat)
  case atStart => exact ⟨0, rfl, Nat.zero_le _, H0⟩
  case round =>
    obtain ⟨i, rfl, hi, Hr⟩ := hrel
    by_cases hi2 : i < n
    · obtain ⟨u, bo, ba, hbel, hru⟩ := Hr.out
      obtain ⟨A1, o1, rfl, hl1, hc1⟩ := HA.out.2.2 (by omega)
      obtain ⟨A2, o2, rfl, hl2, hc2⟩ := HB.out.2.2 (by omega)
      obtain ⟨s, x0, x1, x2, x3, x4, x5, hs⟩ := hc1 i hi2
      obtain ⟨t, y0, y1, y2, y3, y4, y5, ht⟩ := hc2 i hi2
      
      have X0 := Lib.hid x0
      have Y0 := Lib.hid y0
      have X1 := Lib.hid x1
      have Y1 := Lib.hid y1
      have X2 := Lib.hid x2
      have Y2 := Lib.hid y2
      have X3 := Lib.hid x3
      have Y3 := Lib.hid y3
      have X4 := Lib.hid x4
      have Y4 := Lib.hid y4
      have X5 := Lib.hid x5
      have Y5 := Lib.hid y5
      have LI := Lib.hid (inner_lim bits i (fun j hj => LA.out j (by omega)) (fun j hj => LB.out j (by omega)))
      have SA := Lib.hid (hs.below hbel)
      have SB := Lib.hid (ht.below hbel)
      have Lf := Lib.hid (LA.out i hi2)
      have Lg := Lib.hid (LB.out i hi2)
      have LM := Lib.hid (smul_lim Lf.out Lg.out bits)
      have Bo_0 := Lib.hid bo
      have Ba_0 := Lib.hid ba
      have HB_0 := Lib.hid hbel
      have SU := Lib.hid hru
      have e1 : E + E2 + T + T2 ≤ 16000 := by omega
      have e2 : E + E2 + (T + T2 + 1 + 2 * i) + 1 ≤ 16000 := by omega
      clear x0 x1 x2 x3 x4 x5 y0 y1 y2 y3 y4 y5 hc1 hc2 hs ht bo ba hru hbel
      have q3 : (i : Int) < (n : Int) := by omega
      go_upto_region 7 with (fail)
      have lo := Bo_0.out.lt
      obtain ⟨co0, co1, co2, co3, co4, co5⟩ := Bo_0.out.cells6
      have la := Ba_0.out.lt
      obtain ⟨ca0, ca1, ca2, ca3, ca4, ca5⟩ := Ba_0.out.cells6
      have cr10 : wr.cell? ⟨A1, o1 + i * 6, none⟩ = some (.bool s.lo.b) := (HB_0.out.cell (p := ⟨A1, o1 + i * 6, none⟩) hl1).trans X0.out
      have cr11 : wr.cell? ⟨A1, o1 + i * 6 + 1, none⟩ = some (.slice s.lo.A s.lo.n s.lo.c) := (HB_0.out.cell (p := ⟨A1, o1 + i * 6 + 1, none⟩) hl1).trans X1.out
      have cr12 : wr.cell? ⟨A1, o1 + i * 6 + 2, none⟩ = some (.int .i64 (f i).lo.x) := (HB_0.out.cell (p := ⟨A1, o1 + i * 6 + 2, none⟩) hl1).trans X2.out
      have cr13 : wr.cell? ⟨A1, o1 + i * 6 + 3, none⟩ = some (.bool s.hi.b) := (HB_0.out.cell (p := ⟨A1, o1 + i * 6 + 3, none⟩) hl1).trans X3.out
      have cr14 : wr.cell? ⟨A1, o1 + i * 6 + 4, none⟩ = some (.slice s.hi.A s.hi.n s.hi.c) := (HB_0.out.cell (p := ⟨A1, o1 + i * 6 + 4, none⟩) hl1).trans X4.out
      have cr15 : wr.cell? ⟨A1, o1 + i * 6 + 5, none⟩ = some (.int .i64 (f i).hi.x) := (HB_0.out.cell (p := ⟨A1, o1 + i * 6 + 5, none⟩) hl1).trans X5.out
      have cr20 : wr.cell? ⟨A2, o2 + i * 6, none⟩ = some (.bool t.lo.b) := (HB_0.out.cell (p := ⟨A2, o2 + i * 6, none⟩) hl2).trans Y0.out
      have cr21 : wr.cell? ⟨A2, o2 + i * 6 + 1, none⟩ = some (.slice t.lo.A t.lo.n t.lo.c) := (HB_0.out.cell (p := ⟨A2, o2 + i * 6 + 1, none⟩) hl2).trans Y1.out
      have cr22 : wr.cell? ⟨A2, o2 + i * 6 + 2, none⟩ = some (.int .i64 (g i).lo.x) := (HB_0.out.cell (p := ⟨A2, o2 + i * 6 + 2, none⟩) hl2).trans Y2.out
      have cr23 : wr.cell? ⟨A2, o2 + i * 6 + 3, none⟩ = some (.bool t.hi.b) := (HB_0.out.cell (p := ⟨A2, o2 + i * 6 + 3, none⟩) hl2).trans Y3.out
      have cr24 : wr.cell? ⟨A2, o2 + i * 6 + 4, none⟩ = some (.slice t.hi.A t.hi.n t.hi.c) := (HB_0.out.cell (p := ⟨A2, o2 + i * 6 + 4, none⟩) hl2).trans Y4.out
      have cr25 : wr.cell? ⟨A2, o2 + i * 6 + 5, none⟩ = some (.int .i64 (g i).hi.x) := (HB_0.out.cell (p := ⟨A2, o2 + i * 6 + 5, none⟩) hl2).trans Y5.out
      go_cut [10, 11] (fun s10 s11 wx => ∃ (g_1 : Nat) (p : SQ), s10 = .pointer (some ⟨g_1, 0, none⟩) ∧ s11 = .int .i64 0 ∧ w.heap.size < g_1 ∧ w.heap.size + 1 < g_1 ∧ Bk wx g_1 62 #[.bool p.lo.b, .slice p.lo.A p.lo.n p.lo.c, .int .i64 ((f i).mul (g i) bits).lo.x, .bool p.hi.b, .slice p.hi.A p.hi.n p.hi.c, .int .i64 ((f i).mul (g i) bits).hi.x] ∧ Bk wx (w.heap.size) 62 #[.bool false, .slice none 0 0, .int .i64 0, .bool false, .slice none 0 0, .int .i64 0] ∧ Bk wx (w.heap.size + 1) 62 #[.bool u.lo.b, .slice u.lo.A u.lo.n u.lo.c, .int .i64 (inner f g bits i).lo.x, .bool u.hi.b, .slice u.hi.A u.hi.n u.hi.c, .int .i64 (inner f g bits i).hi.x] ∧ Below w.heap.size w wx ∧ RS wx s (f i) ∧ RS wx t (g i) ∧ RS wx u (inner f g bits i) ∧ RS wx p ((f i).mul (g i) bits))
      case first =>
        obtain ⟨SX1, hS1⟩ : ∃ S : World → Prop, ∀ w', S w' ↔ (w'.cell? ⟨A1, o1 + i * 6, none⟩ = some (.bool s.lo.b) ∧ w'.cell? ⟨A1, o1 + i * 6 + 1, none⟩ = some (.slice s.lo.A s.lo.n s.lo.c) ∧ w'.cell? ⟨A1, o1 + i * 6 + 2, none⟩ = some (.int .i64 (f i).lo.x) ∧ w'.cell? ⟨A1, o1 + i * 6 + 3, none⟩ = some (.bool s.hi.b) ∧ w'.cell? ⟨A1, o1 + i * 6 + 4, none⟩ = some (.slice s.hi.A s.hi.n s.hi.c) ∧ w'.cell? ⟨A1, o1 + i * 6 + 5, none⟩ = some (.int .i64 (f i).hi.x) ∧ w'.cell? ⟨A2, o2 + i * 6, none⟩ = some (.bool t.lo.b) ∧ w'.cell? ⟨A2, o2 + i * 6 + 1, none⟩ = some (.slice t.lo.A t.lo.n t.lo.c) ∧ w'.cell? ⟨A2, o2 + i * 6 + 2, none⟩ = some (.int .i64 (g i).lo.x) ∧ w'.cell? ⟨A2, o2 + i * 6 + 3, none⟩ = some (.bool t.hi.b) ∧ w'.cell? ⟨A2, o2 + i * 6 + 4, none⟩ = some (.slice t.hi.A t.hi.n t.hi.c) ∧ w'.cell? ⟨A2, o2 + i * 6 + 5, none⟩ = some (.int .i64 (g i).hi.x)) := ⟨_, fun _ => Iff.rfl⟩
        have k_2 : SX1 (wr) := (hS1 _).2 ⟨(Below.cell (p := ⟨A1, o1 + i * 6, none⟩) HB_0.out hl1).trans X0.out, (Below.cell (p := ⟨A1, o1 + i * 6 + 1, none⟩) HB_0.out hl1).trans X1.out, (Below.cell (p := ⟨A1, o1 + i * 6 + 2, none⟩) HB_0.out hl1).trans X2.out, (Below.cell (p := ⟨A1, o1 + i * 6 + 3, none⟩) HB_0.out hl1).trans X3.out, (Below.cell (p := ⟨A1, o1 + i * 6 + 4, none⟩) HB_0.out hl1).trans X4.out, (Below.cell (p := ⟨A1, o1 + i * 6 + 5, none⟩) HB_0.out hl1).trans X5.out, (Below.cell (p := ⟨A2, o2 + i * 6, none⟩) HB_0.out hl2).trans Y0.out, (Below.cell (p := ⟨A2, o2 + i * 6 + 1, none⟩) HB_0.out hl2).trans Y1.out, (Below.cell (p := ⟨A2, o2 + i * 6 + 2, none⟩) HB_0.out hl2).trans Y2.out, (Below.cell (p := ⟨A2, o2 + i * 6 + 3, none⟩) HB_0.out hl2).trans Y3.out, (Below.cell (p := ⟨A2, o2 + i * 6 + 4, none⟩) HB_0.out hl2).trans Y4.out, (Below.cell (p := ⟨A2, o2 + i * 6 + 5, none⟩) HB_0.out hl2).trans Y5.out⟩
        have k_3 : SX1 (wr.drew) := (hS1 _).2 ⟨(Below.cell (p := ⟨A1, o1 + i * 6, none⟩) (below_dr HB_0.out) hl1).trans X0.out, (Below.cell (p := ⟨A1, o1 + i * 6 + 1, none⟩) (below_dr HB_0.out) hl1).trans X1.out, (Below.cell (p := ⟨A1, o1 + i * 6 + 2, none⟩) (below_dr HB_0.out) hl1).trans X2.out, (Below.cell (p := ⟨A1, o1 + i * 6 + 3, none⟩) (below_dr HB_0.out) hl1).trans X3.out, (Below.cell (p := ⟨A1, o1 + i * 6 + 4, none⟩) (below_dr HB_0.out) hl1).trans X4.out, (Below.cell (p := ⟨A1, o1 + i * 6 + 5, none⟩) (below_dr HB_0.out) hl1).trans X5.out, (Below.cell (p := ⟨A2, o2 + i * 6, none⟩) (below_dr HB_0.out) hl2).trans Y0.out, (Below.cell (p := ⟨A2, o2 + i * 6 + 1, none⟩) (below_dr HB_0.out) hl2).trans Y1.out, (Below.cell (p := ⟨A2, o2 + i * 6 + 2, none⟩) (below_dr HB_0.out) hl2).trans Y2.out, (Below.cell (p := ⟨A2, o2 + i * 6 + 3, none⟩) (below_dr HB_0.out) hl2).trans Y3.out, (Below.cell (p := ⟨A2, o2 + i * 6 + 4, none⟩) (below_dr HB_0.out) hl2).trans Y4.out, (Below.cell (p := ⟨A2, o2 + i * 6 + 5, none⟩) (below_dr HB_0.out) hl2).trans Y5.out⟩
        have tok_4 : True := trivial
        have tok_5 : True := trivial
        have k_6 : SX1 ((wr.alloc (.cells #[.bool false, .slice none 0 0, .int .i64 0, .bool false, .slice none 0 0, .int .i64 0] 62)).drew) := (hS1 _).2 ⟨(Below.cell (p := ⟨A1, o1 + i * 6, none⟩) (below_dr (below_al HB_0.out _)) hl1).trans X0.out, (Below.cell (p := ⟨A1, o1 + i * 6 + 1, none⟩) (below_dr (below_al HB_0.out _)) hl1).trans X1.out, (Below.cell (p := ⟨A1, o1 + i * 6 + 2, none⟩) (below_dr (below_al HB_0.out _)) hl1).trans X2.out, (Below.cell (p := ⟨A1, o1 + i * 6 + 3, none⟩) (below_dr (below_al HB_0.out _)) hl1).trans X3.out, (Below.cell (p := ⟨A1, o1 + i * 6 + 4, none⟩) (below_dr (below_al HB_0.out _)) hl1).trans X4.out, (Below.cell (p := ⟨A1, o1 + i * 6 + 5, none⟩) (below_dr (below_al HB_0.out _)) hl1).trans X5.out, (Below.cell (p := ⟨A2, o2 + i * 6, none⟩) (below_dr (below_al HB_0.out _)) hl2).trans Y0.out, (Below.cell (p := ⟨A2, o2 + i * 6 + 1, none⟩) (below_dr (below_al HB_0.out _)) hl2).trans Y1.out, (Below.cell (p := ⟨A2, o2 + i * 6 + 2, none⟩) (below_dr (below_al HB_0.out _)) hl2).trans Y2.out, (Below.cell (p := ⟨A2, o2 + i * 6 + 3, none⟩) (below_dr (below_al HB_0.out _)) hl2).trans Y3.out, (Below.cell (p := ⟨A2, o2 + i * 6 + 4, none⟩) (below_dr (below_al HB_0.out _)) hl2).trans Y4.out, (Below.cell (p := ⟨A2, o2 + i * 6 + 5, none⟩) (below_dr (below_al HB_0.out _)) hl2).trans Y5.out⟩
        go_region_held3 (fun w' => w'.cell? ⟨A1, o1 + i * 6, none⟩ = some (.bool s.lo.b) ∧ w'.cell? ⟨A1, o1 + i * 6 + 1, none⟩ = some (.slice s.lo.A s.lo.n s.lo.c) ∧ w'.cell? ⟨A1, o1 + i * 6 + 2, none⟩ = some (.int .i64 (f i).lo.x) ∧ w'.cell? ⟨A1, o1 + i * 6 + 3, none⟩ = some (.bool s.hi.b) ∧ w'.cell? ⟨A1, o1 + i * 6 + 4, none⟩ = some (.slice s.hi.A s.hi.n s.hi.c) ∧ w'.cell? ⟨A1, o1 + i * 6 + 5, none⟩ = some (.int .i64 (f i).hi.x) ∧ w'.cell? ⟨A2, o2 + i * 6, none⟩ = some (.bool t.lo.b) ∧ w'.cell? ⟨A2, o2 + i * 6 + 1, none⟩ = some (.slice t.lo.A t.lo.n t.lo.c) ∧ w'.cell? ⟨A2, o2 + i * 6 + 2, none⟩ = some (.int .i64 (g i).lo.x) ∧ w'.cell? ⟨A2, o2 + i * 6 + 3, none⟩ = some (.bool t.hi.b) ∧ w'.cell? ⟨A2, o2 + i * 6 + 4, none⟩ = some (.slice t.hi.A t.hi.n t.hi.c) ∧ w'.cell? ⟨A2, o2 + i * 6 + 5, none⟩ = some (.int .i64 (g i).hi.x)) (first | with_reducible exact (hS1 _).1 k_2 | with_reducible exact (hS1 _).1 k_3 | with_reducible exact (hS1 _).1 k_6 | with_reducible exact (hS1 _).1 k_15 | with_reducible exact (hS1 _).1 k_18 | with_reducible exact (hS1 _).1 k_19 | with_reducible exact (hS1 _).1 k_32 | with_reducible exact (hS1 _).1 k_33)
          (first
           | (have _ := tok_4; skip; go_at_call 37; clear tok_4; (with_reducible refine (smul_any (wr.drew) s t (f i) (g i) bits E T E2 T2 (SA.out.dk ((Dk.refl _).drew)) (SB.out.dk ((Dk.refl _).drew)) Lf.out Lg.out e1 hb2 hb3 (HT.out.below (below_dr HB_0.out))).mono ?_); rintro e w_7 ⟨⟨p, rfl, hp⟩, hb⟩; clear lo co0 co1 co2 co3 co4 co5 la ca0 ca1 ca2 ca3 ca4 ca5 cr10 cr11 cr12 cr13 cr14 cr15 cr20 cr21 cr22 cr23 cr24 cr25 k_2 k_3 k_6; have K := Dk.trans ((Dk.refl _).drew) (.below hb); have Bo_8 := Lib.hid (show Bk _ _ _ #[.bool false, .slice none 0 0, .int .i64 0, .bool false, .slice none 0 0, .int .i64 0] from (Bo_0.out.drew).below hb); have Ba_9 := Lib.hid (show Bk _ _ _ #[.bool u.lo.b, .slice u.lo.A u.lo.n u.lo.c, .int .i64 (inner f g bits i).lo.x, .bool u.hi.b, .slice u.hi.A u.hi.n u.hi.c, .int .i64 (inner f g bits i).hi.x] from (Ba_0.out.drew).below hb); have HB_10 := Lib.hid (below_tr (below_dr HB_0.out) hb); clear hb; have S1_11 := Lib.hid (SA.out.dk K); have S2_12 := Lib.hid (SB.out.dk K); have SU_13 := Lib.hid (SU.out.dk K); clear K Bo_0 Ba_0 HB_0 SA SB SU; have SP_14 := Lib.hid hp; clear hp; have lo := Bo_8.out.lt; obtain ⟨co0, co1, co2, co3, co4, co5⟩ := Bo_8.out.cells6; have la := Ba_9.out.lt; obtain ⟨ca0, ca1, ca2, ca3, ca4, ca5⟩ := Ba_9.out.cells6; have cr10 : w_7.cell? ⟨A1, o1 + i * 6, none⟩ = some (.bool s.lo.b) := (HB_10.out.cell (p := ⟨A1, o1 + i * 6, none⟩) hl1).trans X0.out; have cr11 : w_7.cell? ⟨A1, o1 + i * 6 + 1, none⟩ = some (.slice s.lo.A s.lo.n s.lo.c) := (HB_10.out.cell (p := ⟨A1, o1 + i * 6 + 1, none⟩) hl1).trans X1.out; have cr12 : w_7.cell? ⟨A1, o1 + i * 6 + 2, none⟩ = some (.int .i64 (f i).lo.x) := (HB_10.out.cell (p := ⟨A1, o1 + i * 6 + 2, none⟩) hl1).trans X2.out; have cr13 : w_7.cell? ⟨A1, o1 + i * 6 + 3, none⟩ = some (.bool s.hi.b) := (HB_10.out.cell (p := ⟨A1, o1 + i * 6 + 3, none⟩) hl1).trans X3.out; have cr14 : w_7.cell? ⟨A1, o1 + i * 6 + 4, none⟩ = some (.slice s.hi.A s.hi.n s.hi.c) := (HB_10.out.cell (p := ⟨A1, o1 + i * 6 + 4, none⟩) hl1).trans X4.out; have cr15 : w_7.cell? ⟨A1, o1 + i * 6 + 5, none⟩ = some (.int .i64 (f i).hi.x) := (HB_10.out.cell (p := ⟨A1, o1 + i * 6 + 5, none⟩) hl1).trans X5.out; have cr20 : w_7.cell? ⟨A2, o2 + i * 6, none⟩ = some (.bool t.lo.b) := (HB_10.out.cell (p := ⟨A2, o2 + i * 6, none⟩) hl2).trans Y0.out; have cr21 : w_7.cell? ⟨A2, o2 + i * 6 + 1, none⟩ = some (.slice t.lo.A t.lo.n t.lo.c) := (HB_10.out.cell (p := ⟨A2, o2 + i * 6 + 1, none⟩) hl2).trans Y1.out; have cr22 : w_7.cell? ⟨A2, o2 + i * 6 + 2, none⟩ = some (.int .i64 (g i).lo.x) := (HB_10.out.cell (p := ⟨A2, o2 + i * 6 + 2, none⟩) hl2).trans Y2.out; have cr23 : w_7.cell? ⟨A2, o2 + i * 6 + 3, none⟩ = some (.bool t.hi.b) := (HB_10.out.cell (p := ⟨A2, o2 + i * 6 + 3, none⟩) hl2).trans Y3.out; have cr24 : w_7.cell? ⟨A2, o2 + i * 6 + 4, none⟩ = some (.slice t.hi.A t.hi.n t.hi.c) := (HB_10.out.cell (p := ⟨A2, o2 + i * 6 + 4, none⟩) hl2).trans Y4.out; have cr25 : w_7.cell? ⟨A2, o2 + i * 6 + 5, none⟩ = some (.int .i64 (g i).hi.x) := (HB_10.out.cell (p := ⟨A2, o2 + i * 6 + 5, none⟩) hl2).trans Y5.out; have k_15 : SX1 (w_7) := (hS1 _).2 ⟨(Below.cell (p := ⟨A1, o1 + i * 6, none⟩) HB_10.out hl1).trans X0.out, (Below.cell (p := ⟨A1, o1 + i * 6 + 1, none⟩) HB_10.out hl1).trans X1.out, (Below.cell (p := ⟨A1, o1 + i * 6 + 2, none⟩) HB_10.out hl1).trans X2.out, (Below.cell (p := ⟨A1, o1 + i * 6 + 3, none⟩) HB_10.out hl1).trans X3.out, (Below.cell (p := ⟨A1, o1 + i * 6 + 4, none⟩) HB_10.out hl1).trans X4.out, (Below.cell (p := ⟨A1, o1 + i * 6 + 5, none⟩) HB_10.out hl1).trans X5.out, (Below.cell (p := ⟨A2, o2 + i * 6, none⟩) HB_10.out hl2).trans Y0.out, (Below.cell (p := ⟨A2, o2 + i * 6 + 1, none⟩) HB_10.out hl2).trans Y1.out, (Below.cell (p := ⟨A2, o2 + i * 6 + 2, none⟩) HB_10.out hl2).trans Y2.out, (Below.cell (p := ⟨A2, o2 + i * 6 + 3, none⟩) HB_10.out hl2).trans Y3.out, (Below.cell (p := ⟨A2, o2 + i * 6 + 4, none⟩) HB_10.out hl2).trans Y4.out, (Below.cell (p := ⟨A2, o2 + i * 6 + 5, none⟩) HB_10.out hl2).trans Y5.out⟩; have n_16 := Bo_8.out.lt; have n_17 := Ba_9.out.lt; have k_18 : SX1 (w_7.alloc (.cells #[.bool false, .slice none 0 0, .int .i64 0, .bool false, .slice none 0 0, .int .i64 0] 62)) := (hS1 _).2 ⟨(Below.cell (p := ⟨A1, o1 + i * 6, none⟩) (below_al HB_10.out _) hl1).trans X0.out, (Below.cell (p := ⟨A1, o1 + i * 6 + 1, none⟩) (below_al HB_10.out _) hl1).trans X1.out, (Below.cell (p := ⟨A1, o1 + i * 6 + 2, none⟩) (below_al HB_10.out _) hl1).trans X2.out, (Below.cell (p := ⟨A1, o1 + i * 6 + 3, none⟩) (below_al HB_10.out _) hl1).trans X3.out, (Below.cell (p := ⟨A1, o1 + i * 6 + 4, none⟩) (below_al HB_10.out _) hl1).trans X4.out, (Below.cell (p := ⟨A1, o1 + i * 6 + 5, none⟩) (below_al HB_10.out _) hl1).trans X5.out, (Below.cell (p := ⟨A2, o2 + i * 6, none⟩) (below_al HB_10.out _) hl2).trans Y0.out, (Below.cell (p := ⟨A2, o2 + i * 6 + 1, none⟩) (below_al HB_10.out _) hl2).trans Y1.out, (Below.cell (p := ⟨A2, o2 + i * 6 + 2, none⟩) (below_al HB_10.out _) hl2).trans Y2.out, (Below.cell (p := ⟨A2, o2 + i * 6 + 3, none⟩) (below_al HB_10.out _) hl2).trans Y3.out, (Below.cell (p := ⟨A2, o2 + i * 6 + 4, none⟩) (below_al HB_10.out _) hl2).trans Y4.out, (Below.cell (p := ⟨A2, o2 + i * 6 + 5, none⟩) (below_al HB_10.out _) hl2).trans Y5.out⟩; have k_19 : SX1 (w_7.alloc (.cells #[.bool p.lo.b, .slice p.lo.A p.lo.n p.lo.c, .int .i64 ((f i).mul (g i) bits).lo.x, .bool p.hi.b, .slice p.hi.A p.hi.n p.hi.c, .int .i64 ((f i).mul (g i) bits).hi.x] 62)) := (hS1 _).2 ⟨(Below.cell (p := ⟨A1, o1 + i * 6, none⟩) (below_al HB_10.out _) hl1).trans X0.out, (Below.cell (p := ⟨A1, o1 + i * 6 + 1, none⟩) (below_al HB_10.out _) hl1).trans X1.out, (Below.cell (p := ⟨A1, o1 + i * 6 + 2, none⟩) (below_al HB_10.out _) hl1).trans X2.out, (Below.cell (p := ⟨A1, o1 + i * 6 + 3, none⟩) (below_al HB_10.out _) hl1).trans X3.out, (Below.cell (p := ⟨A1, o1 + i * 6 + 4, none⟩) (below_al HB_10.out _) hl1).trans X4.out, (Below.cell (p := ⟨A1, o1 + i * 6 + 5, none⟩) (below_al HB_10.out _) hl1).trans X5.out, (Below.cell (p := ⟨A2, o2 + i * 6, none⟩) (below_al HB_10.out _) hl2).trans Y0.out, (Below.cell (p := ⟨A2, o2 + i * 6 + 1, none⟩) (below_al HB_10.out _) hl2).trans Y1.out, (Below.cell (p := ⟨A2, o2 + i * 6 + 2, none⟩) (below_al HB_10.out _) hl2).trans Y2.out, (Below.cell (p := ⟨A2, o2 + i * 6 + 3, none⟩) (below_al HB_10.out _) hl2).trans Y3.out, (Below.cell (p := ⟨A2, o2 + i * 6 + 4, none⟩) (below_al HB_10.out _) hl2).trans Y4.out, (Below.cell (p := ⟨A2, o2 + i * 6 + 5, none⟩) (below_al HB_10.out _) hl2).trans Y5.out⟩)
           | (have _ := tok_5; have n_21 := Bo_0.out.lt; have n_22 := Ba_0.out.lt; skip; go_at_call 37; clear tok_5; (with_reducible refine (smul_any ((wr.alloc (.cells #[.bool false, .slice none 0 0, .int .i64 0, .bool false, .slice none 0 0, .int .i64 0] 62)).drew) s t (f i) (g i) bits E T E2 T2 (SA.out.dk (((Dk.refl _).alloc _).drew)) (SB.out.dk (((Dk.refl _).alloc _).drew)) Lf.out Lg.out e1 hb2 hb3 (HT.out.below (below_dr (below_al HB_0.out _)))).mono ?_); rintro e w_23 ⟨⟨p, rfl, hp⟩, hb⟩; clear lo co0 co1 co2 co3 co4 co5 la ca0 ca1 ca2 ca3 ca4 ca5 cr10 cr11 cr12 cr13 cr14 cr15 cr20 cr21 cr22 cr23 cr24 cr25 k_2 k_3 k_6; have K := Dk.trans (((Dk.refl _).alloc _).drew) (.below hb); have Bo_24 := Lib.hid (show Bk _ _ _ #[.bool false, .slice none 0 0, .int .i64 0, .bool false, .slice none 0 0, .int .i64 0] from ((Bo_0.out.alloc _).drew).below hb); have Ba_25 := Lib.hid (show Bk _ _ _ #[.bool u.lo.b, .slice u.lo.A u.lo.n u.lo.c, .int .i64 (inner f g bits i).lo.x, .bool u.hi.b, .slice u.hi.A u.hi.n u.hi.c, .int .i64 (inner f g bits i).hi.x] from ((Ba_0.out.alloc _).drew).below hb); have Bp_26 := Lib.hid (show Bk _ _ _ #[.bool false, .slice none 0 0, .int .i64 0, .bool false, .slice none 0 0, .int .i64 0] from ((Bk.new _ 62 #[.bool false, .slice none 0 0, .int .i64 0, .bool false, .slice none 0 0, .int .i64 0]).drew).below hb); have HB_27 := Lib.hid (below_tr (below_dr (below_al HB_0.out _)) hb); clear hb; have S1_28 := Lib.hid (SA.out.dk K); have S2_29 := Lib.hid (SB.out.dk K); have SU_30 := Lib.hid (SU.out.dk K); clear K Bo_0 Ba_0 HB_0 SA SB SU; have SP_31 := Lib.hid hp; clear hp; have lo := Bo_24.out.lt; obtain ⟨co0, co1, co2, co3, co4, co5⟩ := Bo_24.out.cells6; have la := Ba_25.out.lt; obtain ⟨ca0, ca1, ca2, ca3, ca4, ca5⟩ := Ba_25.out.cells6; have lp := Bp_26.out.lt; obtain ⟨cp0, cp1, cp2, cp3, cp4, cp5⟩ := Bp_26.out.cells6; have fp0 := Bp_26.out.free 0; have fp1 := Bp_26.out.free 1; have fp2 := Bp_26.out.free 2; have fp3 := Bp_26.out.free 3; have fp4 := Bp_26.out.free 4; have fp5 := Bp_26.out.free 5; have cr10 : w_23.cell? ⟨A1, o1 + i * 6, none⟩ = some (.bool s.lo.b) := (HB_27.out.cell (p := ⟨A1, o1 + i * 6, none⟩) hl1).trans X0.out; have cr11 : w_23.cell? ⟨A1, o1 + i * 6 + 1, none⟩ = some (.slice s.lo.A s.lo.n s.lo.c) := (HB_27.out.cell (p := ⟨A1, o1 + i * 6 + 1, none⟩) hl1).trans X1.out; have cr12 : w_23.cell? ⟨A1, o1 + i * 6 + 2, none⟩ = some (.int .i64 (f i).lo.x) := (HB_27.out.cell (p := ⟨A1, o1 + i * 6 + 2, none⟩) hl1).trans X2.out; have cr13 : w_23.cell? ⟨A1, o1 + i * 6 + 3, none⟩ = some (.bool s.hi.b) := (HB_27.out.cell (p := ⟨A1, o1 + i * 6 + 3, none⟩) hl1).trans X3.out; have cr14 : w_23.cell? ⟨A1, o1 + i * 6 + 4, none⟩ = some (.slice s.hi.A s.hi.n s.hi.c) := (HB_27.out.cell (p := ⟨A1, o1 + i * 6 + 4, none⟩) hl1).trans X4.out; have cr15 : w_23.cell? ⟨A1, o1 + i * 6 + 5, none⟩ = some (.int .i64 (f i).hi.x) := (HB_27.out.cell (p := ⟨A1, o1 + i * 6 + 5, none⟩) hl1).trans X5.out; have cr20 : w_23.cell? ⟨A2, o2 + i * 6, none⟩ = some (.bool t.lo.b) := (HB_27.out.cell (p := ⟨A2, o2 + i * 6, none⟩) hl2).trans Y0.out; have cr21 : w_23.cell? ⟨A2, o2 + i * 6 + 1, none⟩ = some (.slice t.lo.A t.lo.n t.lo.c) := (HB_27.out.cell (p := ⟨A2, o2 + i * 6 + 1, none⟩) hl2).trans Y1.out; have cr22 : w_23.cell? ⟨A2, o2 + i * 6 + 2, none⟩ = some (.int .i64 (g i).lo.x) := (HB_27.out.cell (p := ⟨A2, o2 + i * 6 + 2, none⟩) hl2).trans Y2.out; have cr23 : w_23.cell? ⟨A2, o2 + i * 6 + 3, none⟩ = some (.bool t.hi.b) := (HB_27.out.cell (p := ⟨A2, o2 + i * 6 + 3, none⟩) hl2).trans Y3.out; have cr24 : w_23.cell? ⟨A2, o2 + i * 6 + 4, none⟩ = some (.slice t.hi.A t.hi.n t.hi.c) := (HB_27.out.cell (p := ⟨A2, o2 + i * 6 + 4, none⟩) hl2).trans Y4.out; have cr25 : w_23.cell? ⟨A2, o2 + i * 6 + 5, none⟩ = some (.int .i64 (g i).hi.x) := (HB_27.out.cell (p := ⟨A2, o2 + i * 6 + 5, none⟩) hl2).trans Y5.out; have k_32 : SX1 (w_23) := (hS1 _).2 ⟨(Below.cell (p := ⟨A1, o1 + i * 6, none⟩) HB_27.out hl1).trans X0.out, (Below.cell (p := ⟨A1, o1 + i * 6 + 1, none⟩) HB_27.out hl1).trans X1.out, (Below.cell (p := ⟨A1, o1 + i * 6 + 2, none⟩) HB_27.out hl1).trans X2.out, (Below.cell (p := ⟨A1, o1 + i * 6 + 3, none⟩) HB_27.out hl1).trans X3.out, (Below.cell (p := ⟨A1, o1 + i * 6 + 4, none⟩) HB_27.out hl1).trans X4.out, (Below.cell (p := ⟨A1, o1 + i * 6 + 5, none⟩) HB_27.out hl1).trans X5.out, (Below.cell (p := ⟨A2, o2 + i * 6, none⟩) HB_27.out hl2).trans Y0.out, (Below.cell (p := ⟨A2, o2 + i * 6 + 1, none⟩) HB_27.out hl2).trans Y1.out, (Below.cell (p := ⟨A2, o2 + i * 6 + 2, none⟩) HB_27.out hl2).trans Y2.out, (Below.cell (p := ⟨A2, o2 + i * 6 + 3, none⟩) HB_27.out hl2).trans Y3.out, (Below.cell (p := ⟨A2, o2 + i * 6 + 4, none⟩) HB_27.out hl2).trans Y4.out, (Below.cell (p := ⟨A2, o2 + i * 6 + 5, none⟩) HB_27.out hl2).trans Y5.out⟩; have y0 := HB_27.out.size; have k_33 : SX1 ((((((w_23.setCell ⟨wr.heap.size, 0, none⟩ (.bool p.lo.b)).setCell ⟨wr.heap.size, 1, none⟩ (.slice p.lo.A p.lo.n p.lo.c)).setCell ⟨wr.heap.size, 2, none⟩ (.int .i64 ((f i).mul (g i) bits).lo.x)).setCell ⟨wr.heap.size, 3, none⟩ (.bool p.hi.b)).setCell ⟨wr.heap.size, 4, none⟩ (.slice p.hi.A p.hi.n p.hi.c)).setCell ⟨wr.heap.size, 5, none⟩ (.int .i64 ((f i).mul (g i) bits).hi.x)) := (hS1 _).2 ⟨(Below.cell (p := ⟨A1, o1 + i * 6, none⟩) (below_st (below_st (below_st (below_st (below_st (below_st HB_27.out 0 (by omega) (.bool p.lo.b)) 1 (by omega) (.slice p.lo.A p.lo.n p.lo.c)) 2 (by omega) (.int .i64 ((f i).mul (g i) bits).lo.x)) 3 (by omega) (.bool p.hi.b)) 4 (by omega) (.slice p.hi.A p.hi.n p.hi.c)) 5 (by omega) (.int .i64 ((f i).mul (g i) bits).hi.x)) hl1).trans X0.out, (Below.cell (p := ⟨A1, o1 + i * 6 + 1, none⟩) (below_st (below_st (below_st (below_st (below_st (below_st HB_27.out 0 (by omega) (.bool p.lo.b)) 1 (by omega) (.slice p.lo.A p.lo.n p.lo.c)) 2 (by omega) (.int .i64 ((f i).mul (g i) bits).lo.x)) 3 (by omega) (.bool p.hi.b)) 4 (by omega) (.slice p.hi.A p.hi.n p.hi.c)) 5 (by omega) (.int .i64 ((f i).mul (g i) bits).hi.x)) hl1).trans X1.out, (Below.cell (p := ⟨A1, o1 + i * 6 + 2, none⟩) (below_st (below_st (below_st (below_st (below_st (below_st HB_27.out 0 (by omega) (.bool p.lo.b)) 1 (by omega) (.slice p.lo.A p.lo.n p.lo.c)) 2 (by omega) (.int .i64 ((f i).mul (g i) bits).lo.x)) 3 (by omega) (.bool p.hi.b)) 4 (by omega) (.slice p.hi.A p.hi.n p.hi.c)) 5 (by omega) (.int .i64 ((f i).mul (g i) bits).hi.x)) hl1).trans X2.out, (Below.cell (p := ⟨A1, o1 + i * 6 + 3, none⟩) (below_st (below_st (below_st (below_st (below_st (below_st HB_27.out 0 (by omega) (.bool p.lo.b)) 1 (by omega) (.slice p.lo.A p.lo.n p.lo.c)) 2 (by omega) (.int .i64 ((f i).mul (g i) bits).lo.x)) 3 (by omega) (.bool p.hi.b)) 4 (by omega) (.slice p.hi.A p.hi.n p.hi.c)) 5 (by omega) (.int .i64 ((f i).mul (g i) bits).hi.x)) hl1).trans X3.out, (Below.cell (p := ⟨A1, o1 + i * 6 + 4, none⟩) (below_st (below_st (below_st (below_st (below_st (below_st HB_27.out 0 (by omega) (.bool p.lo.b)) 1 (by omega) (.slice p.lo.A p.lo.n p.lo.c)) 2 (by omega) (.int .i64 ((f i).mul (g i) bits).lo.x)) 3 (by omega) (.bool p.hi.b)) 4 (by omega) (.slice p.hi.A p.hi.n p.hi.c)) 5 (by omega) (.int .i64 ((f i).mul (g i) bits).hi.x)) hl1).trans X4.out, (Below.cell (p := ⟨A1, o1 + i * 6 + 5, none⟩) (below_st (below_st (below_st (below_st (below_st (below_st HB_27.out 0 (by omega) (.bool p.lo.b)) 1 (by omega) (.slice p.lo.A p.lo.n p.lo.c)) 2 (by omega) (.int .i64 ((f i).mul (g i) bits).lo.x)) 3 (by omega) (.bool p.hi.b)) 4 (by omega) (.slice p.hi.A p.hi.n p.hi.c)) 5 (by omega) (.int .i64 ((f i).mul (g i) bits).hi.x)) hl1).trans X5.out, (Below.cell (p := ⟨A2, o2 + i * 6, none⟩) (below_st (below_st (below_st (below_st (below_st (below_st HB_27.out 0 (by omega) (.bool p.lo.b)) 1 (by omega) (.slice p.lo.A p.lo.n p.lo.c)) 2 (by omega) (.int .i64 ((f i).mul (g i) bits).lo.x)) 3 (by omega) (.bool p.hi.b)) 4 (by omega) (.slice p.hi.A p.hi.n p.hi.c)) 5 (by omega) (.int .i64 ((f i).mul (g i) bits).hi.x)) hl2).trans Y0.out, (Below.cell (p := ⟨A2, o2 + i * 6 + 1, none⟩) (below_st (below_st (below_st (below_st (below_st (below_st HB_27.out 0 (by omega) (.bool p.lo.b)) 1 (by omega) (.slice p.lo.A p.lo.n p.lo.c)) 2 (by omega) (.int .i64 ((f i).mul (g i) bits).lo.x)) 3 (by omega) (.bool p.hi.b)) 4 (by omega) (.slice p.hi.A p.hi.n p.hi.c)) 5 (by omega) (.int .i64 ((f i).mul (g i) bits).hi.x)) hl2).trans Y1.out, (Below.cell (p := ⟨A2, o2 + i * 6 + 2, none⟩) (below_st (below_st (below_st (below_st (below_st (below_st HB_27.out 0 (by omega) (.bool p.lo.b)) 1 (by omega) (.slice p.lo.A p.lo.n p.lo.c)) 2 (by omega) (.int .i64 ((f i).mul (g i) bits).lo.x)) 3 (by omega) (.bool p.hi.b)) 4 (by omega) (.slice p.hi.A p.hi.n p.hi.c)) 5 (by omega) (.int .i64 ((f i).mul (g i) bits).hi.x)) hl2).trans Y2.out, (Below.cell (p := ⟨A2, o2 + i * 6 + 3, none⟩) (below_st (below_st (below_st (below_st (below_st (below_st HB_27.out 0 (by omega) (.bool p.lo.b)) 1 (by omega) (.slice p.lo.A p.lo.n p.lo.c)) 2 (by omega) (.int .i64 ((f i).mul (g i) bits).lo.x)) 3 (by omega) (.bool p.hi.b)) 4 (by omega) (.slice p.hi.A p.hi.n p.hi.c)) 5 (by omega) (.int .i64 ((f i).mul (g i) bits).hi.x)) hl2).trans Y3.out, (Below.cell (p := ⟨A2, o2 + i * 6 + 4, none⟩) (below_st (below_st (below_st (below_st (below_st (below_st HB_27.out 0 (by omega) (.bool p.lo.b)) 1 (by omega) (.slice p.lo.A p.lo.n p.lo.c)) 2 (by omega) (.int .i64 ((f i).mul (g i) bits).lo.x)) 3 (by omega) (.bool p.hi.b)) 4 (by omega) (.slice p.hi.A p.hi.n p.hi.c)) 5 (by omega) (.int .i64 ((f i).mul (g i) bits).hi.x)) hl2).trans Y4.out, (Below.cell (p := ⟨A2, o2 + i * 6 + 5, none⟩) (below_st (below_st (below_st (below_st (below_st (below_st HB_27.out 0 (by omega) (.bool p.lo.b)) 1 (by omega) (.slice p.lo.A p.lo.n p.lo.c)) 2 (by omega) (.int .i64 ((f i).mul (g i) bits).lo.x)) 3 (by omega) (.bool p.hi.b)) 4 (by omega) (.slice p.hi.A p.hi.n p.hi.c)) 5 (by omega) (.int .i64 ((f i).mul (g i) bits).hi.x)) hl2).trans Y5.out⟩; clear y0))
        all_goals (go_wp2_with fail; go_meet; first | (have y0 := Bo_8.out.lt; have y1 := Ba_9.out.lt; have y2 := HB_10.out.size; exact ⟨w_7.heap.size, p, rfl, rfl, (by omega), (by omega), (Bk.new _ 62 #[.bool p.lo.b, .slice p.lo.A p.lo.n p.lo.c, .int .i64 ((f i).mul (g i) bits).lo.x, .bool p.hi.b, .slice p.hi.A p.hi.n p.hi.c, .int .i64 ((f i).mul (g i) bits).hi.x]), (Bo_8.out.alloc _), (Ba_9.out.alloc _), (below_al HB_10.out _), (S1_11.out.dk ((Dk.refl _).alloc _)), (S2_12.out.dk ((Dk.refl _).alloc _)), (SU_13.out.dk ((Dk.refl _).alloc _)), (SP_14.out.dk ((Dk.refl _).alloc _))⟩) | (have y0 := Bo_24.out.lt; have y1 := Ba_25.out.lt; have y2 := Bp_26.out.lt; have y3 := HB_27.out.size; exact ⟨wr.heap.size, p, rfl, rfl, (by omega), (by omega), ((((((Bp_26.out.set 0 (.bool p.lo.b)).set 1 (.slice p.lo.A p.lo.n p.lo.c)).set 2 (.int .i64 ((f i).mul (g i) bits).lo.x)).set 3 (.bool p.hi.b)).set 4 (.slice p.hi.A p.hi.n p.hi.c)).set 5 (.int .i64 ((f i).mul (g i) bits).hi.x)), ((((((Bo_24.out.ne (by omega) 0 (.bool p.lo.b)).ne (by omega) 1 (.slice p.lo.A p.lo.n p.lo.c)).ne (by omega) 2 (.int .i64 ((f i).mul (g i) bits).lo.x)).ne (by omega) 3 (.bool p.hi.b)).ne (by omega) 4 (.slice p.hi.A p.hi.n p.hi.c)).ne (by omega) 5 (.int .i64 ((f i).mul (g i) bits).hi.x)), ((((((Ba_25.out.ne (by omega) 0 (.bool p.lo.b)).ne (by omega) 1 (.slice p.lo.A p.lo.n p.lo.c)).ne (by omega) 2 (.int .i64 ((f i).mul (g i) bits).lo.x)).ne (by omega) 3 (.bool p.hi.b)).ne (by omega) 4 (.slice p.hi.A p.hi.n p.hi.c)).ne (by omega) 5 (.int .i64 ((f i).mul (g i) bits).hi.x)), (below_st (below_st (below_st (below_st (below_st (below_st HB_27.out 0 (by omega) (.bool p.lo.b)) 1 (by omega) (.slice p.lo.A p.lo.n p.lo.c)) 2 (by omega) (.int .i64 ((f i).mul (g i) bits).lo.x)) 3 (by omega) (.bool p.hi.b)) 4 (by omega) (.slice p.hi.A p.hi.n p.hi.c)) 5 (by omega) (.int .i64 ((f i).mul (g i) bits).hi.x)), (S1_28.out.dk (((((((Dk.refl _).set (cs := #[.bool false, .slice none 0 0, .int .i64 0, .bool false, .slice none 0 0, .int .i64 0]) Bp_26.out 0 (by intro _ hh; cases hh) (.bool p.lo.b)).set (cs := #[.bool p.lo.b, .slice none 0 0, .int .i64 0, .bool false, .slice none 0 0, .int .i64 0]) (Bp_26.out.set 0 (.bool p.lo.b)) 1 (by intro _ hh; cases hh) (.slice p.lo.A p.lo.n p.lo.c)).set (cs := #[.bool p.lo.b, .slice p.lo.A p.lo.n p.lo.c, .int .i64 0, .bool false, .slice none 0 0, .int .i64 0]) ((Bp_26.out.set 0 (.bool p.lo.b)).set 1 (.slice p.lo.A p.lo.n p.lo.c)) 2 (by intro _ hh; cases hh) (.int .i64 ((f i).mul (g i) bits).lo.x)).set (cs := #[.bool p.lo.b, .slice p.lo.A p.lo.n p.lo.c, .int .i64 ((f i).mul (g i) bits).lo.x, .bool false, .slice none 0 0, .int .i64 0]) (((Bp_26.out.set 0 (.bool p.lo.b)).set 1 (.slice p.lo.A p.lo.n p.lo.c)).set 2 (.int .i64 ((f i).mul (g i) bits).lo.x)) 3 (by intro _ hh; cases hh) (.bool p.hi.b)).set (cs := #[.bool p.lo.b, .slice p.lo.A p.lo.n p.lo.c, .int .i64 ((f i).mul (g i) bits).lo.x, .bool p.hi.b, .slice none 0 0, .int .i64 0]) ((((Bp_26.out.set 0 (.bool p.lo.b)).set 1 (.slice p.lo.A p.lo.n p.lo.c)).set 2 (.int .i64 ((f i).mul (g i) bits).lo.x)).set 3 (.bool p.hi.b)) 4 (by intro _ hh; cases hh) (.slice p.hi.A p.hi.n p.hi.c)).set (cs := #[.bool p.lo.b, .slice p.lo.A p.lo.n p.lo.c, .int .i64 ((f i).mul (g i) bits).lo.x, .bool p.hi.b, .slice p.hi.A p.hi.n p.hi.c, .int .i64 0]) (((((Bp_26.out.set 0 (.bool p.lo.b)).set 1 (.slice p.lo.A p.lo.n p.lo.c)).set 2 (.int .i64 ((f i).mul (g i) bits).lo.x)).set 3 (.bool p.hi.b)).set 4 (.slice p.hi.A p.hi.n p.hi.c)) 5 (by intro _ hh; cases hh) (.int .i64 ((f i).mul (g i) bits).hi.x))), (S2_29.out.dk (((((((Dk.refl _).set (cs := #[.bool false, .slice none 0 0, .int .i64 0, .bool false, .slice none 0 0, .int .i64 0]) Bp_26.out 0 (by intro _ hh; cases hh) (.bool p.lo.b)).set (cs := #[.bool p.lo.b, .slice none 0 0, .int .i64 0, .bool false, .slice none 0 0, .int .i64 0]) (Bp_26.out.set 0 (.bool p.lo.b)) 1 (by intro _ hh; cases hh) (.slice p.lo.A p.lo.n p.lo.c)).set (cs := #[.bool p.lo.b, .slice p.lo.A p.lo.n p.lo.c, .int .i64 0, .bool false, .slice none 0 0, .int .i64 0]) ((Bp_26.out.set 0 (.bool p.lo.b)).set 1 (.slice p.lo.A p.lo.n p.lo.c)) 2 (by intro _ hh; cases hh) (.int .i64 ((f i).mul (g i) bits).lo.x)).set (cs := #[.bool p.lo.b, .slice p.lo.A p.lo.n p.lo.c, .int .i64 ((f i).mul (g i) bits).lo.x, .bool false, .slice none 0 0, .int .i64 0]) (((Bp_26.out.set 0 (.bool p.lo.b)).set 1 (.slice p.lo.A p.lo.n p.lo.c)).set 2 (.int .i64 ((f i).mul (g i) bits).lo.x)) 3 (by intro _ hh; cases hh) (.bool p.hi.b)).set (cs := #[.bool p.lo.b, .slice p.lo.A p.lo.n p.lo.c, .int .i64 ((f i).mul (g i) bits).lo.x, .bool p.hi.b, .slice none 0 0, .int .i64 0]) ((((Bp_26.out.set 0 (.bool p.lo.b)).set 1 (.slice p.lo.A p.lo.n p.lo.c)).set 2 (.int .i64 ((f i).mul (g i) bits).lo.x)).set 3 (.bool p.hi.b)) 4 (by intro _ hh; cases hh) (.slice p.hi.A p.hi.n p.hi.c)).set (cs := #[.bool p.lo.b, .slice p.lo.A p.lo.n p.lo.c, .int .i64 ((f i).mul (g i) bits).lo.x, .bool p.hi.b, .slice p.hi.A p.hi.n p.hi.c, .int .i64 0]) (((((Bp_26.out.set 0 (.bool p.lo.b)).set 1 (.slice p.lo.A p.lo.n p.lo.c)).set 2 (.int .i64 ((f i).mul (g i) bits).lo.x)).set 3 (.bool p.hi.b)).set 4 (.slice p.hi.A p.hi.n p.hi.c)) 5 (by intro _ hh; cases hh) (.int .i64 ((f i).mul (g i) bits).hi.x))), (SU_30.out.dk (((((((Dk.refl _).set (cs := #[.bool false, .slice none 0 0, .int .i64 0, .bool false, .slice none 0 0, .int .i64 0]) Bp_26.out 0 (by intro _ hh; cases hh) (.bool p.lo.b)).set (cs := #[.bool p.lo.b, .slice none 0 0, .int .i64 0, .bool false, .slice none 0 0, .int .i64 0]) (Bp_26.out.set 0 (.bool p.lo.b)) 1 (by intro _ hh; cases hh) (.slice p.lo.A p.lo.n p.lo.c)).set (cs := #[.bool p.lo.b, .slice p.lo.A p.lo.n p.lo.c, .int .i64 0, .bool false, .slice none 0 0, .int .i64 0]) ((Bp_26.out.set 0 (.bool p.lo.b)).set 1 (.slice p.lo.A p.lo.n p.lo.c)) 2 (by intro _ hh; cases hh) (.int .i64 ((f i).mul (g i) bits).lo.x)).set (cs := #[.bool p.lo.b, .slice p.lo.A p.lo.n p.lo.c, .int .i64 ((f i).mul (g i) bits).lo.x, .bool false, .slice none 0 0, .int .i64 0]) (((Bp_26.out.set 0 (.bool p.lo.b)).set 1 (.slice p.lo.A p.lo.n p.lo.c)).set 2 (.int .i64 ((f i).mul (g i) bits).lo.x)) 3 (by intro _ hh; cases hh) (.bool p.hi.b)).set (cs := #[.bool p.lo.b, .slice p.lo.A p.lo.n p.lo.c, .int .i64 ((f i).mul (g i) bits).lo.x, .bool p.hi.b, .slice none 0 0, .int .i64 0]) ((((Bp_26.out.set 0 (.bool p.lo.b)).set 1 (.slice p.lo.A p.lo.n p.lo.c)).set 2 (.int .i64 ((f i).mul (g i) bits).lo.x)).set 3 (.bool p.hi.b)) 4 (by intro _ hh; cases hh) (.slice p.hi.A p.hi.n p.hi.c)).set (cs := #[.bool p.lo.b, .slice p.lo.A p.lo.n p.lo.c, .int .i64 ((f i).mul (g i) bits).lo.x, .bool p.hi.b, .slice p.hi.A p.hi.n p.hi.c, .int .i64 0]) (((((Bp_26.out.set 0 (.bool p.lo.b)).set 1 (.slice p.lo.A p.lo.n p.lo.c)).set 2 (.int .i64 ((f i).mul (g i) bits).lo.x)).set 3 (.bool p.hi.b)).set 4 (.slice p.hi.A p.hi.n p.hi.c)) 5 (by intro _ hh; cases hh) (.int .i64 ((f i).mul (g i) bits).hi.x))), (SP_31.out.dk (((((((Dk.refl _).set (cs := #[.bool false, .slice none 0 0, .int .i64 0, .bool false, .slice none 0 0, .int .i64 0]) Bp_26.out 0 (by intro _ hh; cases hh) (.bool p.lo.b)).set (cs := #[.bool p.lo.b, .slice none 0 0, .int .i64 0, .bool false, .slice none 0 0, .int .i64 0]) (Bp_26.out.set 0 (.bool p.lo.b)) 1 (by intro _ hh; cases hh) (.slice p.lo.A p.lo.n p.lo.c)).set (cs := #[.bool p.lo.b, .slice p.lo.A p.lo.n p.lo.c, .int .i64 0, .bool false, .slice none 0 0, .int .i64 0]) ((Bp_26.out.set 0 (.bool p.lo.b)).set 1 (.slice p.lo.A p.lo.n p.lo.c)) 2 (by intro _ hh; cases hh) (.int .i64 ((f i).mul (g i) bits).lo.x)).set (cs := #[.bool p.lo.b, .slice p.lo.A p.lo.n p.lo.c, .int .i64 ((f i).mul (g i) bits).lo.x, .bool false, .slice none 0 0, .int .i64 0]) (((Bp_26.out.set 0 (.bool p.lo.b)).set 1 (.slice p.lo.A p.lo.n p.lo.c)).set 2 (.int .i64 ((f i).mul (g i) bits).lo.x)) 3 (by intro _ hh; cases hh) (.bool p.hi.b)).set (cs := #[.bool p.lo.b, .slice p.lo.A p.lo.n p.lo.c, .int .i64 ((f i).mul (g i) bits).lo.x, .bool p.hi.b, .slice none 0 0, .int .i64 0]) ((((Bp_26.out.set 0 (.bool p.lo.b)).set 1 (.slice p.lo.A p.lo.n p.lo.c)).set 2 (.int .i64 ((f i).mul (g i) bits).lo.x)).set 3 (.bool p.hi.b)) 4 (by intro _ hh; cases hh) (.slice p.hi.A p.hi.n p.hi.c)).set (cs := #[.bool p.lo.b, .slice p.lo.A p.lo.n p.lo.c, .int .i64 ((f i).mul (g i) bits).lo.x, .bool p.hi.b, .slice p.hi.A p.hi.n p.hi.c, .int .i64 0]) (((((Bp_26.out.set 0 (.bool p.lo.b)).set 1 (.slice p.lo.A p.lo.n p.lo.c)).set 2 (.int .i64 ((f i).mul (g i) bits).lo.x)).set 3 (.bool p.hi.b)).set 4 (.slice p.hi.A p.hi.n p.hi.c)) 5 (by intro _ hh; cases hh) (.int .i64 ((f i).mul (g i) bits).hi.x)))⟩))
      case rest =>
        clear lo co0 co1 co2 co3 co4 co5 la ca0 ca1 ca2 ca3 ca4 ca5 cr10 cr11 cr12 cr13 cr14 cr15 cr20 cr21 cr22 cr23 cr24 cr25
        clear Bo_0 Ba_0 SA SB SU HB_0
        obtain ⟨w_36, rfl⟩ : ∃ x, x = wc := ⟨_, rfl⟩
        obtain ⟨g_1, p, rfl, rfl, nn0, nn1, bz, bo0, bo1, hbel, hf0, hf1, hf2, hf3⟩ := hcut
        have Bo_37 := Lib.hid bo0
        have n_38 := nn0
        have Ba_39 := Lib.hid bo1
        have n_40 := nn1
        have Bp_41 := Lib.hid bz
        have HB_41 := Lib.hid hbel
        have S1_43 := Lib.hid hf0
        have S2_44 := Lib.hid hf1
        have SU_45 := Lib.hid hf2
        have SP_46 := Lib.hid hf3
        clear nn0 nn1 bz bo0 bo1 hbel hf0 hf1 hf2 hf3
        have lo := Bo_37.out.lt
        obtain ⟨co0, co1, co2, co3, co4, co5⟩ := Bo_37.out.cells6
        have la := Ba_39.out.lt
        obtain ⟨ca0, ca1, ca2, ca3, ca4, ca5⟩ := Ba_39.out.cells6
        have lp := Bp_41.out.lt
        obtain ⟨cp0, cp1, cp2, cp3, cp4, cp5⟩ := Bp_41.out.cells6
        have cr10 : w_36.cell? ⟨A1, o1 + i * 6, none⟩ = some (.bool s.lo.b) := (HB_41.out.cell (p := ⟨A1, o1 + i * 6, none⟩) hl1).trans X0.out
        have cr11 : w_36.cell? ⟨A1, o1 + i * 6 + 1, none⟩ = some (.slice s.lo.A s.lo.n s.lo.c) := (HB_41.out.cell (p := ⟨A1, o1 + i * 6 + 1, none⟩) hl1).trans X1.out
        have cr12 : w_36.cell? ⟨A1, o1 + i * 6 + 2, none⟩ = some (.int .i64 (f i).lo.x) := (HB_41.out.cell (p := ⟨A1, o1 + i * 6 + 2, none⟩) hl1).trans X2.out
        have cr13 : w_36.cell? ⟨A1, o1 + i * 6 + 3, none⟩ = some (.bool s.hi.b) := (HB_41.out.cell (p := ⟨A1, o1 + i * 6 + 3, none⟩) hl1).trans X3.out
        have cr14 : w_36.cell? ⟨A1, o1 + i * 6 + 4, none⟩ = some (.slice s.hi.A s.hi.n s.hi.c) := (HB_41.out.cell (p := ⟨A1, o1 + i * 6 + 4, none⟩) hl1).trans X4.out
        have cr15 : w_36.cell? ⟨A1, o1 + i * 6 + 5, none⟩ = some (.int .i64 (f i).hi.x) := (HB_41.out.cell (p := ⟨A1, o1 + i * 6 + 5, none⟩) hl1).trans X5.out
        have cr20 : w_36.cell? ⟨A2, o2 + i * 6, none⟩ = some (.bool t.lo.b) := (HB_41.out.cell (p := ⟨A2, o2 + i * 6, none⟩) hl2).trans Y0.out
        have cr21 : w_36.cell? ⟨A2, o2 + i * 6 + 1, none⟩ = some (.slice t.lo.A t.lo.n t.lo.c) := (HB_41.out.cell (p := ⟨A2, o2 + i * 6 + 1, none⟩) hl2).trans Y1.out
        have cr22 : w_36.cell? ⟨A2, o2 + i * 6 + 2, none⟩ = some (.int .i64 (g i).lo.x) := (HB_41.out.cell (p := ⟨A2, o2 + i * 6 + 2, none⟩) hl2).trans Y2.out
        have cr23 : w_36.cell? ⟨A2, o2 + i * 6 + 3, none⟩ = some (.bool t.hi.b) := (HB_41.out.cell (p := ⟨A2, o2 + i * 6 + 3, none⟩) hl2).trans Y3.out
        have cr24 : w_36.cell? ⟨A2, o2 + i * 6 + 4, none⟩ = some (.slice t.hi.A t.hi.n t.hi.c) := (HB_41.out.cell (p := ⟨A2, o2 + i * 6 + 4, none⟩) hl2).trans Y4.out
        have cr25 : w_36.cell? ⟨A2, o2 + i * 6 + 5, none⟩ = some (.int .i64 (g i).hi.x) := (HB_41.out.cell (p := ⟨A2, o2 + i * 6 + 5, none⟩) hl2).trans Y5.out
        go_wp2_with fail
        refine (sadd_any _ u p (inner f g bits i) ((f i).mul (g i) bits) bits (E + E2) (T + T2 + 1 + 2 * i) SU_45.out SP_46.out LI.out (LM.out.mono (Nat.le_refl _) (by omega)) e2 hb2 hb3 (HT.out.below HB_41.out)).mono ?_
        rintro e w1 ⟨⟨v, rfl, hv⟩, hb⟩
        clear lo co0 co1 co2 co3 co4 co5 la ca0 ca1 ca2 ca3 ca4 ca5 lp cp0 cp1 cp2 cp3 cp4 cp5 cr10 cr11 cr12 cr13 cr14 cr15 cr20 cr21 cr22 cr23 cr24 cr25
        have K := Dk.below hb
        have Bo_47 := Lib.hid (show Bk _ _ _ #[.bool false, .slice none 0 0, .int .i64 0, .bool false, .slice none 0 0, .int .i64 0] from Bo_37.out.below hb)
        have Ba_48 := Lib.hid (show Bk _ _ _ #[.bool u.lo.b, .slice u.lo.A u.lo.n u.lo.c, .int .i64 (inner f g bits i).lo.x, .bool u.hi.b, .slice u.hi.A u.hi.n u.hi.c, .int .i64 (inner f g bits i).hi.x] from Ba_39.out.below hb)
        have Bp_49 := Lib.hid (show Bk _ _ _ #[.bool p.lo.b, .slice p.lo.A p.lo.n p.lo.c, .int .i64 ((f i).mul (g i) bits).lo.x, .bool p.hi.b, .slice p.hi.A p.hi.n p.hi.c, .int .i64 ((f i).mul (g i) bits).hi.x] from Bp_41.out.below hb)
        have HB_50 := Lib.hid (below_tr HB_41.out hb)
        clear hb
        have S1_51 := Lib.hid (S1_43.out.dk K)
        have S2_52 := Lib.hid (S2_44.out.dk K)
        have SU_53 := Lib.hid (SU_45.out.dk K)
        have SP_54 := Lib.hid (SP_46.out.dk K)
        clear K Bo_37 Ba_39 Bp_41 HB_41 S1_43 S2_44 SU_45 SP_46
        have SV_55 := Lib.hid hv
        clear hv
        have lo := Bo_47.out.lt
        obtain ⟨co0, co1, co2, co3, co4, co5⟩ := Bo_47.out.cells6
        have la := Ba_48.out.lt
        obtain ⟨ca0, ca1, ca2, ca3, ca4, ca5⟩ := Ba_48.out.cells6
        have fa0 := Ba_48.out.free 0
        have fa1 := Ba_48.out.free 1
        have fa2 := Ba_48.out.free 2
        have fa3 := Ba_48.out.free 3
        have fa4 := Ba_48.out.free 4
        have fa5 := Ba_48.out.free 5
        have lp := Bp_49.out.lt
        obtain ⟨cp0, cp1, cp2, cp3, cp4, cp5⟩ := Bp_49.out.cells6
        have cr10 : w1.cell? ⟨A1, o1 + i * 6, none⟩ = some (.bool s.lo.b) := (HB_50.out.cell (p := ⟨A1, o1 + i * 6, none⟩) hl1).trans X0.out
        have cr11 : w1.cell? ⟨A1, o1 + i * 6 + 1, none⟩ = some (.slice s.lo.A s.lo.n s.lo.c) := (HB_50.out.cell (p := ⟨A1, o1 + i * 6 + 1, none⟩) hl1).trans X1.out
        have cr12 : w1.cell? ⟨A1, o1 + i * 6 + 2, none⟩ = some (.int .i64 (f i).lo.x) := (HB_50.out.cell (p := ⟨A1, o1 + i * 6 + 2, none⟩) hl1).trans X2.out
        have cr13 : w1.cell? ⟨A1, o1 + i * 6 + 3, none⟩ = some (.bool s.hi.b) := (HB_50.out.cell (p := ⟨A1, o1 + i * 6 + 3, none⟩) hl1).trans X3.out
        have cr14 : w1.cell? ⟨A1, o1 + i * 6 + 4, none⟩ = some (.slice s.hi.A s.hi.n s.hi.c) := (HB_50.out.cell (p := ⟨A1, o1 + i * 6 + 4, none⟩) hl1).trans X4.out
        have cr15 : w1.cell? ⟨A1, o1 + i * 6 + 5, none⟩ = some (.int .i64 (f i).hi.x) := (HB_50.out.cell (p := ⟨A1, o1 + i * 6 + 5, none⟩) hl1).trans X5.out
        have cr20 : w1.cell? ⟨A2, o2 + i * 6, none⟩ = some (.bool t.lo.b) := (HB_50.out.cell (p := ⟨A2, o2 + i * 6, none⟩) hl2).trans Y0.out
        have cr21 : w1.cell? ⟨A2, o2 + i * 6 + 1, none⟩ = some (.slice t.lo.A t.lo.n t.lo.c) := (HB_50.out.cell (p := ⟨A2, o2 + i * 6 + 1, none⟩) hl2).trans Y1.out
        have cr22 : w1.cell? ⟨A2, o2 + i * 6 + 2, none⟩ = some (.int .i64 (g i).lo.x) := (HB_50.out.cell (p := ⟨A2, o2 + i * 6 + 2, none⟩) hl2).trans Y2.out
        have cr23 : w1.cell? ⟨A2, o2 + i * 6 + 3, none⟩ = some (.bool t.hi.b) := (HB_50.out.cell (p := ⟨A2, o2 + i * 6 + 3, none⟩) hl2).trans Y3.out
        have cr24 : w1.cell? ⟨A2, o2 + i * 6 + 4, none⟩ = some (.slice t.hi.A t.hi.n t.hi.c) := (HB_50.out.cell (p := ⟨A2, o2 + i * 6 + 4, none⟩) hl2).trans Y4.out
        have cr25 : w1.cell? ⟨A2, o2 + i * 6 + 5, none⟩ = some (.int .i64 (g i).hi.x) := (HB_50.out.cell (p := ⟨A2, o2 + i * 6 + 5, none⟩) hl2).trans Y5.out
        go_wp2
        go_roundw
        case rel => exact ⟨i + 1, by go_num, hi2, Lib.hid ⟨v, ((((((Bo_47.out.ne (by have := Bo_47.out.lt; have := Ba_48.out.lt; have := Bp_49.out.lt; have := HB_50.out.size; omega) 0 (.bool v.lo.b)).ne (by have := Bo_47.out.lt; have := Ba_48.out.lt; have := Bp_49.out.lt; have := HB_50.out.size; omega) 1 (.slice v.lo.A v.lo.n v.lo.c)).ne (by have := Bo_47.out.lt; have := Ba_48.out.lt; have := Bp_49.out.lt; have := HB_50.out.size; omega) 2 (.int .i64 (inner f g bits (i + 1)).lo.x)).ne (by have := Bo_47.out.lt; have := Ba_48.out.lt; have := Bp_49.out.lt; have := HB_50.out.size; omega) 3 (.bool v.hi.b)).ne (by have := Bo_47.out.lt; have := Ba_48.out.lt; have := Bp_49.out.lt; have := HB_50.out.size; omega) 4 (.slice v.hi.A v.hi.n v.hi.c)).ne (by have := Bo_47.out.lt; have := Ba_48.out.lt; have := Bp_49.out.lt; have := HB_50.out.size; omega) 5 (.int .i64 (inner f g bits (i + 1)).hi.x)), ((((((Ba_48.out.set 0 (.bool v.lo.b)).set 1 (.slice v.lo.A v.lo.n v.lo.c)).set 2 (.int .i64 (inner f g bits (i + 1)).lo.x)).set 3 (.bool v.hi.b)).set 4 (.slice v.hi.A v.hi.n v.hi.c)).set 5 (.int .i64 (inner f g bits (i + 1)).hi.x)), (below_st (below_st (below_st (below_st (below_st (below_st HB_50.out 0 (by have := HB_50.out.size; omega) (.bool v.lo.b)) 1 (by have := HB_50.out.size; omega) (.slice v.lo.A v.lo.n v.lo.c)) 2 (by have := HB_50.out.size; omega) (.int .i64 (inner f g bits (i + 1)).lo.x)) 3 (by have := HB_50.out.size; omega) (.bool v.hi.b)) 4 (by have := HB_50.out.size; omega) (.slice v.hi.A v.hi.n v.hi.c)) 5 (by have := HB_50.out.size; omega) (.int .i64 (inner f g bits (i + 1)).hi.x)), (SV_55.out.dk (((((((Dk.refl _).set (cs := #[.bool u.lo.b, .slice u.lo.A u.lo.n u.lo.c, .int .i64 (inner f g bits i).lo.x, .bool u.hi.b, .slice u.hi.A u.hi.n u.hi.c, .int .i64 (inner f g bits i).hi.x]) Ba_48.out 0 (by intro _ hh; cases hh) (.bool v.lo.b)).set (cs := #[.bool v.lo.b, .slice u.lo.A u.lo.n u.lo.c, .int .i64 (inner f g bits i).lo.x, .bool u.hi.b, .slice u.hi.A u.hi.n u.hi.c, .int .i64 (inner f g bits i).hi.x]) (Ba_48.out.set 0 (.bool v.lo.b)) 1 (by intro _ hh; cases hh) (.slice v.lo.A v.lo.n v.lo.c)).set (cs := #[.bool v.lo.b, .slice v.lo.A v.lo.n v.lo.c, .int .i64 (inner f g bits i).lo.x, .bool u.hi.b, .slice u.hi.A u.hi.n u.hi.c, .int .i64 (inner f g bits i).hi.x]) ((Ba_48.out.set 0 (.bool v.lo.b)).set 1 (.slice v.lo.A v.lo.n v.lo.c)) 2 (by intro _ hh; cases hh) (.int .i64 (inner f g bits (i + 1)).lo.x)).set (cs := #[.bool v.lo.b, .slice v.lo.A v.lo.n v.lo.c, .int .i64 (inner f g bits (i + 1)).lo.x, .bool u.hi.b, .slice u.hi.A u.hi.n u.hi.c, .int .i64 (inner f g bits i).hi.x]) (((Ba_48.out.set 0 (.bool v.lo.b)).set 1 (.slice v.lo.A v.lo.n v.lo.c)).set 2 (.int .i64 (inner f g bits (i + 1)).lo.x)) 3 (by intro _ hh; cases hh) (.bool v.hi.b)).set (cs := #[.bool v.lo.b, .slice v.lo.A v.lo.n v.lo.c, .int .i64 (inner f g bits (i + 1)).lo.x, .bool v.hi.b, .slice u.hi.A u.hi.n u.hi.c, .int .i64 (inner f g bits i).hi.x]) ((((Ba_48.out.set 0 (.bool v.lo.b)).set 1 (.slice v.lo.A v.lo.n v.lo.c)).set 2 (.int .i64 (inner f g bits (i + 1)).lo.x)).set 3 (.bool v.hi.b)) 4 (by intro _ hh; cases hh) (.slice v.hi.A v.hi.n v.hi.c)).set (cs := #[.bool v.lo.b, .slice v.lo.A v.lo.n v.lo.c, .int .i64 (inner f g bits (i + 1)).lo.x, .bool v.hi.b, .slice v.hi.A v.hi.n v.hi.c, .int .i64 (inner f g bits i).hi.x]) (((((Ba_48.out.set 0 (.bool v.lo.b)).set 1 (.slice v.lo.A v.lo.n v.lo.c)).set 2 (.int .i64 (inner f g bits (i + 1)).lo.x)).set 3 (.bool v.hi.b)).set 4 (.slice v.hi.A v.hi.n v.hi.c)) 5 (by intro _ hh; cases hh) (.int .i64 (inner f g bits (i + 1)).hi.x)))⟩⟩
        case measure => simp only [intOf]; omega
    · obtain rfl : i = n := by omega
      obtain ⟨u, bo, ba, hbel, hru⟩ := Hr.out
      have Bo_0 := Lib.hid bo
      have Ba_0 := Lib.hid ba
      have HB_0 := Lib.hid hbel
      have SU := Lib.hid hru
      clear hru bo ba hbel hi2
      have lo := Bo_0.out.lt
      obtain ⟨co0, co1, co2, co3, co4, co5⟩ := Bo_0.out.cells6
      have fo0 := Bo_0.out.free 0
      have fo1 := Bo_0.out.free 1
      have fo2 := Bo_0.out.free 2
      have fo3 := Bo_0.out.free 3
      have fo4 := Bo_0.out.free 4
      have fo5 := Bo_0.out.free 5
      have la := Ba_0.out.lt
      obtain ⟨ca0, ca1, ca2, ca3, ca4, ca5⟩ := Ba_0.out.cells6
      go_wp2
      refine bodyPost_ret (v := .tuple #[.agg #[.bool u.lo.b, .slice u.lo.A u.lo.n u.lo.c, .int .i64 (inner f g bits i).lo.x, .bool u.hi.b, .slice u.hi.A u.hi.n u.hi.c, .int .i64 (inner f g bits i).hi.x], .int .i64 0]) ?_ rfl ?_
      · simp [results, Tryd.f121, go_sem, co0, co1, co2, co3, co4, co5]
      · have y0 := HB_0.out.size; exact ⟨⟨u, rfl, (SU.out.dk (((((((Dk.refl _).set (cs := #[.bool false, .slice none 0 0, .int .i64 0, .bool false, .slice none 0 0, .int .i64 0]) Bo_0.out 0 (by intro _ hh; cases hh) (.bool u.lo.b)).set (cs := #[.bool u.lo.b, .slice none 0 0, .int .i64 0, .bool false, .slice none 0 0, .int .i64 0]) (Bo_0.out.set 0 (.bool u.lo.b)) 1 (by intro _ hh; cases hh) (.slice u.lo.A u.lo.n u.lo.c)).set (cs := #[.bool u.lo.b, .slice u.lo.A u.lo.n u.lo.c, .int .i64 0, .bool false, .slice none 0 0, .int .i64 0]) ((Bo_0.out.set 0 (.bool u.lo.b)).set 1 (.slice u.lo.A u.lo.n u.lo.c)) 2 (by intro _ hh; cases hh) (.int .i64 (inner f g bits i).lo.x)).set (cs := #[.bool u.lo.b, .slice u.lo.A u.lo.n u.lo.c, .int .i64 (inner f g bits i).lo.x, .bool false, .slice none 0 0, .int .i64 0]) (((Bo_0.out.set 0 (.bool u.lo.b)).set 1 (.slice u.lo.A u.lo.n u.lo.c)).set 2 (.int .i64 (inner f g bits i).lo.x)) 3 (by intro _ hh; cases hh) (.bool u.hi.b)).set (cs := #[.bool u.lo.b, .slice u.lo.A u.lo.n u.lo.c, .int .i64 (inner f g bits i).lo.x, .bool u.hi.b, .slice none 0 0, .int .i64 0]) ((((Bo_0.out.set 0 (.bool u.lo.b)).set 1 (.slice u.lo.A u.lo.n u.lo.c)).set 2 (.int .i64 (inner f g bits i).lo.x)).set 3 (.bool u.hi.b)) 4 (by intro _ hh; cases hh) (.slice u.hi.A u.hi.n u.hi.c)).set (cs := #[.bool u.lo.b, .slice u.lo.A u.lo.n u.lo.c, .int .i64 (inner f g bits i).lo.x, .bool u.hi.b, .slice u.hi.A u.hi.n u.hi.c, .int .i64 0]) (((((Bo_0.out.set 0 (.bool u.lo.b)).set 1 (.slice u.lo.A u.lo.n u.lo.c)).set 2 (.int .i64 (inner f g bits i).lo.x)).set 3 (.bool u.hi.b)).set 4 (.slice u.hi.A u.hi.n u.hi.c)) 5 (by intro _ hh; cases hh) (.int .i64 (inner f g bits i).hi.x)))⟩, (below_st (below_st (below_st (below_st (below_st (below_st HB_0.out 0 (by omega) (.bool u.lo.b)) 1 (by omega) (.slice u.lo.A u.lo.n u.lo.c)) 2 (by omega) (.int .i64 (inner f g bits i).lo.x)) 3 (by omega) (.bool u.hi.b)) 4 (by omega) (.slice u.hi.A u.hi.n u.hi.c)) 5 (by omega) (.int .i64 (inner f g bits i).hi.x))⟩

end Go.Proofs.YtgioppkggpfnoaaDoor.Nu
end

section
/- The walk of dyad.Check, over whatever row of digits. -/
set_option linter.unusedVariables false
namespace Go.Proofs.YtgioppkggpfnoaaDoor.Nu
open Go.RowKit Go.Proofs

theorem RI.back {w w0 : World} {b : Bool} {A : Option Addr} {n c : Nat} {xs : List Nat} (h : RI w0 b A n c (zv b xs)) (hl : RL w A n xs) : RI w b A n c (zv b xs) := by
  refine ⟨h.1, h.2.1, ?_⟩
  have e0 : (zv b xs).natAbs = val xs := by unfold zv; cases b <;> simp
  have h1 := h.2.2.1
  rw [e0] at h1
  have e4 : digs (val xs) = xs := by
    obtain ⟨k, hk⟩ := digs_trim hl.2.2.1
    have : k = 0 := by
      have := congrArg List.length hk
      rw [List.length_append, List.length_replicate, h1, hl.1] at this
      omega
    subst this
    rw [List.replicate_zero, List.append_nil] at hk
    exact hk.symm
  rw [e0]
  unfold RN
  rw [e4]
  exact hl
theorem val_odd {xs : List Nat} (h : 0 < xs.length) : val xs % 2 = dg xs 0 % 2 := by
  cases xs with
  | nil => simp at h
  | cons x xs => simp only [val, dg, List.getD_cons_zero]; omega
theorem zv_odd {w : World} {A : Option Addr} {n : Nat} {xs : List Nat} {b : Bool} (h : RL w A n xs) (hn : 0 < n) : (zv b xs % 2 = 1 ↔ dg xs 0 % 2 = 1) := by
  have h1 := val_odd (xs := xs) (by rw [h.1]; exact hn)
  unfold zv
  cases b
  · simp only [Bool.false_eq_true, if_false]; omega
  · simp only [if_true]; omega

set_option maxRecDepth 100000 in
set_option maxHeartbeats 4000000 in
theorem dcheck_any (w : World) (b : Bool) (A : Option Addr) (n c : Nat) (xs : List Nat) (x : Int) (h : RL w A n xs) (hc : n ≤ c) :
    Calls Tryd.prog 58 #[.agg #[.bool b, .slice A n c, .int .i64 x]] w fun e w' => (∃ r : Int, e = .returned (.int .i64 r) ∧ (r = 0 ↔ n ≤ 512 ∧ RI w b A n c (zv b xs) ∧ D.Can ⟨zv b xs, x⟩ ∧ -65536 ≤ x ∧ x ≤ 65536)) ∧ Below w.heap.size w w' := by
  have H := Lib.hid h
  clear h
  have BX := Lib.hid (boxes1 w 53 #[.bool b, .slice A n c, .int .i64 x])
  have HC := Lib.hid hc
  clear hc
  have BX := Lib.hid (boxes1 w 53 #[.bool b, .slice A n c, .int .i64 x])
  go_enter Tryd.func58, Tryd.ntmps58
  go_wp2_with fail
  generalize w.alloc (.cells #[.bool b, .slice A n c, .int .i64 x] 53) = w0 at *
  obtain ⟨b0, hw⟩ := BX.out
  have Ba_0 := Lib.hid b0
  have HB_0 := Lib.hid hw
  have K := Dk.below (hw.mono (Nat.le_refl _))
  clear BX hw b0
  clear K
  have la := Ba_0.out.lt
  obtain ⟨ca0, ca1, ca2⟩ := Ba_0.out.cells3
  have BW := Lib.hid HB_0.out
  go_wp2_with fail
  refine (wcheck_any _ b A n c xs (H.out.below HB_0.out) HC.out).mono ?_
  rintro e w1 ⟨⟨r, rfl, hr⟩, hb⟩
  clear la ca0 ca1 ca2
  have K := Dk.below hb
  have Ba_1 := Lib.hid (show Bk _ _ _ #[.bool b, .slice A n c, .int .i64 x] from Ba_0.out.below hb)
  have HB_2 := Lib.hid (below_tr HB_0.out hb)
  clear hb
  clear K Ba_0 HB_0
  have HR := Lib.hid hr
  clear hr
  have la := Ba_1.out.lt
  obtain ⟨ca0, ca1, ca2⟩ := Ba_1.out.cells3
  by_cases hr0 : r = 0
  · subst hr0
    have hri := HR.out.1 rfl
    have HI := Lib.hid hri.2
    have hn5 := hri.1
    clear hri HR
    by_cases hn : n = 0
    · have q0 : (n : Int) ≤ 0 := by omega
      have hz : zv b xs = 0 := by have := HI.out.pos; omega
      have HZ := Lib.hid hz
      clear hz
      have HN := Lib.hid hn
      clear hn
      by_cases hx1 : 65536 < x
      · skip
        go_wp2
        go_ret
        exact ⟨⟨1, rfl, by omega, fun h => absurd h.2.2.2.2 (by omega)⟩, HB_2.out⟩
      · by_cases hx2 : x < -65536
        · skip
          go_wp2
          go_ret
          exact ⟨⟨1, rfl, by omega, fun h => absurd h.2.2.2.1 (by omega)⟩, HB_2.out⟩
        · skip
          by_cases hx0 : x = 0
          · have HX0 := Lib.hid hx0
            have q1 : (x == 0) = true := by rw [beq_iff_eq]; exact hx0
            have q2 : (x != 0) = false := by rw [bne, q1]; rfl
            clear hx0
            go_wp2
            go_ret
            exact ⟨⟨0, rfl, fun _ => ⟨hn5, HI.out.back H.out, .inr ⟨HZ.out, HX0.out⟩, by omega, by omega⟩, fun _ => rfl⟩, HB_2.out⟩
          · have q1 : (x == 0) = false := by rw [beq_eq_false_iff_ne]; exact hx0
            have q2 : (x != 0) = true := by rw [bne, q1]; rfl
            have HX0 := Lib.hid hx0
            clear hx0
            go_wp2
            go_ret
            exact ⟨⟨2, rfl, by omega, fun h => by have h1 := h.2.2.1; have h2 := HZ.out; have h3 := HX0.out; unfold D.Can at h1; simp only at h1; omega⟩, HB_2.out⟩
    · have q0 : (0 : Int) < (n : Int) := by omega
      obtain ⟨b1, o1, rfl, hl1, hcc⟩ := H.out.2.2.2 (by omega)
      have x0 : w1.cell? ⟨b1, o1, none⟩ = some (.int .u32 (dg xs 0)) := (HB_2.out.cell (p := ⟨b1, o1, none⟩) hl1).trans (hcc 0 (by omega))
      have HP := Lib.hid (zv_odd (b := b) H.out (by omega))
      have hd := dg_lt H.out.2.2.1 0
      clear hcc hn
      have ha := bits_and_u32_nat (dg xs 0) 1 hd (by omega)
      rw [Nat.and_one_is_mod] at ha
      have HA2 := Lib.hid ha
      clear ha
      generalize dg xs 0 = d at *
      by_cases ho : d % 2 = 1
      · have q5 : (bits .and .u32 (d : Int) 1 == 1) = true := by
          have e := HA2.out
          rw [show (1 : Int) = ((1 : Nat) : Int) from rfl, e]
          rw [ho]; rfl
        have HO := Lib.hid ho
        clear ho
        by_cases hx1 : 65536 < x
        · skip
          go_wp2
          go_ret
          exact ⟨⟨1, rfl, by omega, fun h => absurd h.2.2.2.2 (by omega)⟩, HB_2.out⟩
        · by_cases hx2 : x < -65536
          · skip
            go_wp2
            go_ret
            exact ⟨⟨1, rfl, by omega, fun h => absurd h.2.2.2.1 (by omega)⟩, HB_2.out⟩
          · skip
            go_wp2
            go_ret
            exact ⟨⟨0, rfl, fun _ => ⟨hn5, HI.out.back H.out, .inl (HP.out.2 HO.out), by omega, by omega⟩, fun _ => rfl⟩, HB_2.out⟩
      · have q5 : (bits .and .u32 (d : Int) 1 == 1) = false := by
          have e := HA2.out
          rw [show (1 : Int) = ((1 : Nat) : Int) from rfl, e]
          rw [beq_eq_false_iff_ne]; omega
        have HO := Lib.hid ho
        clear ho
        by_cases hx1 : 65536 < x
        · skip
          go_wp2
          go_ret
          exact ⟨⟨1, rfl, by omega, fun h => absurd h.2.2.2.2 (by omega)⟩, HB_2.out⟩
        · by_cases hx2 : x < -65536
          · skip
            go_wp2
            go_ret
            exact ⟨⟨1, rfl, by omega, fun h => absurd h.2.2.2.1 (by omega)⟩, HB_2.out⟩
          · skip
            go_wp2
            go_ret
            exact ⟨⟨2, rfl, by omega, fun h => by have h1 := h.2.2.1; have h2 := HP.out; have h3 := HO.out; have h4 := HI.out.pos; unfold D.Can at h1; simp only at h1; omega⟩, HB_2.out⟩
  · have q0 : ((r : Int) == 0) = false := by rw [beq_eq_false_iff_ne]; exact hr0
    have q1 : ((r : Int) != 0) = true := by rw [bne, q0]; rfl
    have H0 := Lib.hid hr0
    clear hr0
    go_wp2
    go_ret
    exact ⟨⟨r, rfl, fun h => absurd h H0.out, fun h => HR.out.2 ⟨h.1, h.2.1.below (BW.out)⟩⟩, HB_2.out⟩

end Go.Proofs.YtgioppkggpfnoaaDoor.Nu
end

section
/- Rows of more digits than may be: told at once, no digit is read. -/
set_option linter.unusedVariables false
namespace Go.Proofs.YtgioppkggpfnoaaDoor.Nu
open Go.RowKit Go.Proofs

theorem check_big (w : World) (A : Option Addr) (n c : Nat) (hn : 512 < n) (hm : n ≤ 9223372036854775807) :
    Calls Tryd.prog 15 #[.slice A n c] w fun e w' => e = .returned (.int .i64 11) ∧ w' = w := by
  have q0 : (512 : Int) < (n : Int) := by omega
  go_enter Tryd.func15, Tryd.ntmps15
  go_wp2
  go_ret
  exact ⟨rfl, rfl⟩
set_option maxHeartbeats 2000000 in
theorem wcheck_big (w : World) (b : Bool) (A : Option Addr) (n c : Nat) (hn : 512 < n) (hm : n ≤ 9223372036854775807) :
    Calls Tryd.prog 95 #[.agg #[.bool b, .slice A n c]] w fun e w' => e = .returned (.int .i64 11) ∧ Below w.heap.size w w' := by
  have B0 := Lib.hid (Blk2.new w 51 (.bool b) (.slice A n c))
  have HW := Lib.hid (show Below w.heap.size w (w.alloc (.cells #[.bool b, .slice A n c] 51)) from (Below.refl _ w).alloc (Nat.le_refl _) _)
  go_enter Tryd.func95, Tryd.ntmps95
  go_wp2_with fail
  generalize w.alloc (.cells #[.bool b, .slice A n c] 51) = w0 at *
  refine (check_big w0 A n c hn hm).mono ?_
  rintro e w1 ⟨rfl, rfl⟩
  go_wp2
  go_ret
  exact ⟨rfl, HW.out⟩
set_option maxRecDepth 100000 in
set_option maxHeartbeats 4000000 in
theorem dcheck_big (w : World) (b : Bool) (A : Option Addr) (n c : Nat) (x : Int) (hn : 512 < n) (hm : n ≤ 9223372036854775807) :
    Calls Tryd.prog 58 #[.agg #[.bool b, .slice A n c, .int .i64 x]] w fun e w' => e = .returned (.int .i64 11) ∧ Below w.heap.size w w' := by
  have BX := Lib.hid (boxes1 w 53 #[.bool b, .slice A n c, .int .i64 x])
  go_enter Tryd.func58, Tryd.ntmps58
  go_wp2_with fail
  generalize w.alloc (.cells #[.bool b, .slice A n c, .int .i64 x] 53) = w0 at *
  obtain ⟨b0, hw⟩ := BX.out
  have HB := Lib.hid hw
  have ca0 := b0.cell 0 rfl
  have ca1 := b0.cell 1 rfl
  have ca2 := b0.cell 2 rfl
  clear BX hw b0
  go_wp2_with fail
  refine (wcheck_big _ b A n c hn hm).mono ?_
  rintro e w1 ⟨rfl, hb⟩
  have HB2 := Lib.hid (below_tr HB.out hb)
  clear hb ca0 ca1 ca2
  go_wp2
  go_ret
  exact ⟨rfl, HB2.out⟩
/-- A row of digits, where it isn't too long to be one. -/
def RL2 (w : World) (A : Option Addr) (n : Nat) (xs : List Nat) : Prop := n ≤ 9223372036854775807 ∧ (n ≤ 512 → RL w A n xs)
theorem RL2.below {w w' : World} {A : Option Addr} {n : Nat} {xs : List Nat} (h : RL2 w A n xs) (hb : Below w.heap.size w w') : RL2 w' A n xs := ⟨h.1, fun e => (h.2 e).below hb⟩
theorem RL2.of {w : World} {A : Option Addr} {n : Nat} {xs : List Nat} (h : RL w A n xs) : RL2 w A n xs := ⟨by have := h.2.1; omega, fun _ => h⟩
theorem dcheck_raw (w : World) (b : Bool) (A : Option Addr) (n c : Nat) (xs : List Nat) (x : Int) (h : RL2 w A n xs) (hc : n ≤ c) :
    Calls Tryd.prog 58 #[.agg #[.bool b, .slice A n c, .int .i64 x]] w fun e w' => (∃ r : Int, e = .returned (.int .i64 r) ∧ (r = 0 ↔ n ≤ 512 ∧ RI w b A n c (zv b xs) ∧ D.Can ⟨zv b xs, x⟩ ∧ -65536 ≤ x ∧ x ≤ 65536)) ∧ Below w.heap.size w w' := by
  by_cases hn : n ≤ 512
  · exact dcheck_any w b A n c xs x (h.2 hn) hc
  · refine (dcheck_big w b A n c x (by omega) h.1).mono ?_
    rintro e w' ⟨rfl, hb⟩
    exact ⟨⟨11, rfl, by omega⟩, hb⟩
end Go.Proofs.YtgioppkggpfnoaaDoor.Nu
end

section
/- Rows of dyads that came in, of whatever form; and those that may be. -/
set_option linter.unusedVariables false
namespace Go.Proofs.YtgioppkggpfnoaaDoor.Nu
open Go.RowKit Go.Proofs

/-- The three cells of element j of a row of dyads. -/
def At3 (w : World) (b off j : Nat) (q : Q) (x : Int) : Prop :=
  w.cell? ⟨b, off + j * 3, none⟩ = some (.bool q.b) ∧ w.cell? ⟨b, off + j * 3 + 1, none⟩ = some (.slice q.A q.n q.c) ∧ w.cell? ⟨b, off + j * 3 + 2, none⟩ = some (.int .i64 x)
theorem At3.uniq {w : World} {b off j : Nat} {q q' : Q} {x x' : Int} (h : At3 w b off j q x) (h' : At3 w b off j q' x') : q = q' ∧ x = x' := by
  obtain ⟨a, c, d⟩ := h
  obtain ⟨a', c', d'⟩ := h'
  rw [a] at a'
  rw [c] at c'
  rw [d] at d'
  cases q
  cases q'
  simp only at *
  injection a' with a'
  injection a' with a'
  injection c' with c'
  injection c' with c1 c2 c3
  injection d' with d'
  injection d' with d1 d2
  subst a' c1 c2 c3 d2
  exact ⟨rfl, rfl⟩
/-- A row of dyads of whatever form. -/
def RawD (w : World) (A : Option Addr) (n c : Nat) : Prop :=
  n ≤ c ∧ n ≤ 9223372036854775807 ∧ (0 < n → ∃ b off, A = some ⟨b, off, none⟩ ∧ b < w.heap.size ∧ ∀ j, j < n → ∃ (q : Q) (xs : List Nat) (x : Int), At3 w b off j q x ∧ RL2 w q.A q.n xs ∧ q.n ≤ q.c)
/-- What may be, of its size. -/
def OkD (d : D) : Prop := -65536 ≤ d.x ∧ d.x ≤ 65536 ∧ nb d.z.natAbs ≤ 16384
def Elt (w : World) (b off j : Nat) (d : D) : Prop := ∃ q, At3 w b off j q d.x ∧ RD w q d
theorem Elt.uniq {w : World} {b off j : Nat} {d d' : D} (h : Elt w b off j d) (h' : Elt w b off j d') : d = d' := by
  obtain ⟨q, a, r⟩ := h
  obtain ⟨q', a', r'⟩ := h'
  obtain ⟨rfl, ex⟩ := a.uniq a'
  refine D.ext' ?_ ex
  have h1 := r.1.2.2.1
  have h2 := r'.1.2.2.1
  have e1 := r.1.neg
  have e2 := r'.1.neg
  have e3 : d.z.natAbs = d'.z.natAbs := by
    obtain ⟨l1, _, _, c1⟩ := r.1.2.2
    obtain ⟨l2, _, _, c2⟩ := r'.1.2.2
    apply digs_inj
    apply List.ext_getElem (by rw [l1, l2])
    intro i hi1 hi2
    obtain ⟨b1, o1, e1, _, k1⟩ := c1 (by omega)
    obtain ⟨b2, o2, e2, _, k2⟩ := c2 (by omega)
    rw [e1] at e2
    injection e2 with e2
    injection e2 with e4 e5
    subst e4 e5
    have k3 := (k1 i (by omega)).symm.trans (k2 i (by omega))
    injection k3 with k3
    injection k3 with _ k3
    rw [dg_of hi1, dg_of hi2] at k3
    omega
  rw [e1, e2, e3]
def RowOK (w : World) (A : Option Addr) (n c : Nat) : Prop := ∃ f : Nat → D, RDs w A n c f ∧ ∀ j, j < n → OkD (f j)
theorem RDs.elt {w : World} {n c b off : Nat} {f : Nat → D} (h : RDs w (some ⟨b, off, none⟩) n c f) {j : Nat} (hj : j < n) : Elt w b off j (f j) := by
  obtain ⟨b', off', e, _, hc⟩ := h.2.2 (by omega)
  injection e with e
  injection e with e1 e2
  subst e1 e2
  obtain ⟨q, c0, c1, c2, hr⟩ := hc j hj
  exact ⟨q, ⟨c0, c1, c2⟩, hr⟩
theorem RowOK.mk {w : World} {n c b off : Nat} (hc : n ≤ c) (hn : n ≤ 1000000) (hb : b < w.heap.size) (h : ∀ j, j < n → ∃ d, Elt w b off j d ∧ OkD d) : RowOK w (some ⟨b, off, none⟩) n c := by
  have h2 : ∀ j, ∃ d, j < n → Elt w b off j d ∧ OkD d := fun j => by
    by_cases hj : j < n
    · obtain ⟨d, hd⟩ := h j hj; exact ⟨d, fun _ => hd⟩
    · exact ⟨D.zero, fun e => absurd e hj⟩
  refine ⟨fun j => Classical.choose (h2 j), ⟨hc, hn, fun _ => ⟨b, off, rfl, hb, fun j hj => ?_⟩⟩, fun j hj => (Classical.choose_spec (h2 j) hj).2⟩
  obtain ⟨⟨q, ⟨c0, c1, c2⟩, hr⟩, _⟩ := Classical.choose_spec (h2 j) hj
  exact ⟨q, c0, c1, c2, hr⟩
theorem RowOK.nil (w : World) (A : Option Addr) (c : Nat) : RowOK w A 0 c := ⟨fun _ => D.zero, ⟨Nat.zero_le _, Nat.zero_le _, fun h => absurd h (by omega)⟩, fun j hj => absurd hj (by omega)⟩
/-- What dyad.Check tells of an element: it may be. -/
theorem elt_of_check {w w0 : World} {b off j : Nat} {q : Q} {xs : List Nat} {x : Int} (a : At3 w b off j q x) (hl2 : RL2 w q.A q.n xs) (hn : q.n ≤ 512) (hr : RI w0 q.b q.A q.n q.c (zv q.b xs)) (hcan : D.Can ⟨zv q.b xs, x⟩) (h0 : -65536 ≤ x) (h1 : x ≤ 65536) : ∃ d, Elt w b off j d ∧ OkD d := by
  have hl := hl2.2 hn
  have hri := hr.back hl
  refine ⟨⟨zv q.b xs, x⟩, ⟨q, a, hri, hcan⟩, h0, h1, ?_⟩
  have h2 := (digs_len_le (n := (zv q.b xs).natAbs) (k := q.n)).1 (Nat.le_of_eq hri.2.2.1)
  refine nb_le.2 (Nat.lt_of_lt_of_le h2 ?_)
  rw [show (4294967296 : Nat) = 2 ^ 32 from rfl, ← Nat.pow_mul]
  exact Nat.pow_le_pow_right (by omega) (by omega)
/-- And back. -/
theorem check_of_elt {w w0 : World} {b off j : Nat} {q : Q} {xs : List Nat} {x : Int} {d : D} (a : At3 w b off j q x) (hl2 : RL2 w q.A q.n xs) (he : Elt w b off j d) (ho : OkD d) (hb : Below w.heap.size w w0) :
    q.n ≤ 512 ∧ RI w0 q.b q.A q.n q.c (zv q.b xs) ∧ D.Can ⟨zv q.b xs, x⟩ ∧ -65536 ≤ x ∧ x ≤ 65536 := by
  obtain ⟨q', a', r⟩ := he
  obtain ⟨rfl, rfl⟩ := a.uniq a'
  have hlen := r.1.len (k := 512) ho.2.2
  have hl := hl2.2 hlen
  have e : zv q.b xs = d.z := by
    obtain ⟨l1, _, _, c1⟩ := r.1.2.2
    have e1 : xs = digs d.z.natAbs := by
      apply List.ext_getElem (by rw [l1, hl.1])
      intro i hi1 hi2
      obtain ⟨b1, o1, e1, _, k1⟩ := c1 (by omega)
      obtain ⟨b2, o2, e2, _, k2⟩ := hl.2.2.2 (by have := hl.1; omega)
      rw [e1] at e2
      injection e2 with e2
      injection e2 with e4 e5
      subst e4 e5
      have k3 := (k1 i (by omega)).symm.trans (k2 i (by have := hl.1; omega))
      injection k3 with k3
      injection k3 with _ k3
      rw [dg_of hi1, dg_of hi2] at k3
      omega
    have e2 := r.1.neg
    unfold zv
    rw [e1, val_digs, ← e2]
  rw [e]
  exact ⟨hlen, RI.below r.1 hb, r.2, ho.1, ho.2.1⟩
/-- Rows of rows of whatever form. -/
def RawR (w : World) (A : Option Addr) (m c : Nat) : Prop :=
  m ≤ c ∧ m ≤ 9223372036854775807 ∧ (0 < m → ∃ b off, A = some ⟨b, off, none⟩ ∧ b < w.heap.size ∧ ∀ k, k < m → ∃ A' n' c', w.cell? ⟨b, off + k, none⟩ = some (.slice A' n' c') ∧ RawD w A' n' c')
end Go.Proofs.YtgioppkggpfnoaaDoor.Nu
end

section
/- Rows of rows that the call makes and appends to; what a call keeps that writes two blocks alone. -/
set_option linter.unusedVariables false
namespace Go.Proofs.YtgioppkggpfnoaaDoor.Nu
open Go.RowKit Go.Proofs

/-- A row of slices of the call's own: nil, or at the head of a block of slices alone. -/
def OR (w : World) (v : Value) (m : Nat) (xs : List Value) : Prop :=
  xs.length = m ∧ ((v = .slice none 0 0 ∧ xs = []) ∨ ∃ g cap cur, v = .slice (some ⟨g, 0, none⟩) m cap ∧ m ≤ cap ∧ cap ≤ maxLen ∧ Bk w g 39 cur ∧ cur.size = cap ∧ cur.toList.take m = xs ∧ ∀ (j : Nat) u, cur[j]? = some u → ∃ A n c, u = .slice A n c)
theorem OR.nil (w : World) : OR w (.slice none 0 0) 0 [] := ⟨rfl, .inl ⟨rfl, rfl⟩⟩
theorem OR.lt {w : World} {v : Value} {m : Nat} {xs : List Value} (h : OR w v m xs) : ∀ k, v.ownBlock = some k → k < w.heap.size := by
  rcases h.2 with ⟨rfl, _⟩ | ⟨g, cap, cur, rfl, _, _, hb, _⟩
  · intro k hk; cases hk
  · intro k hk
    obtain rfl : g = k := by simpa [Value.ownBlock] using hk
    exact hb.lt
theorem OR.keep {w w' : World} {v : Value} {m : Nat} {xs : List Value} (h : OR w v m xs) (hg : ∀ k, v.ownBlock = some k → w'.heap[k]? = w.heap[k]?) : OR w' v m xs := by
  refine ⟨h.1, ?_⟩
  rcases h.2 with ⟨rfl, e⟩ | ⟨g, cap, cur, rfl, h1, h2, hb, h3⟩
  · exact .inl ⟨rfl, e⟩
  · exact .inr ⟨g, cap, cur, rfl, h1, h2, (hg g rfl).trans hb, h3⟩
theorem infoL : (Tryd.prog.info? 39).map (fun i => (i.zero, i.size, i.bytes)) = some (some (.slice none 0 0), 1, 24) := by kernel_rfl
theorem dk_of_slices {w w' : World} {row : Option Nat} (hg : w.grownBy w' row) (h : ∀ k, row = some k → k < w.heap.size → ∃ cur t, Bk w k t cur ∧ ∀ (j : Nat) u, cur[j]? = some u → ∃ A n c, u = .slice A n c) : Dk w w' := by
  refine ⟨hg.size, fun b o v e => ?_⟩
  by_cases hb : row = some b
  · obtain ⟨cur, t, hk, hj⟩ := h b hb (cell_lt e)
    rw [Lib.cell_of_heap hk] at e
    obtain ⟨A, n, c, e2⟩ := hj o _ e
    cases e2
  · exact hg.cell e (fun e2 => hb e2.symm)
/-- One element more. -/
theorem run_append_sl (w : World) (ty : TypeId) (v : Value) (m : Nat) (xs : List Value) (hown : OR w v m xs) (ad : Addr) (c : Nat) (A : Option Addr) (n d : Nat) (hu : w.cell? ad = some (.slice A n d)) (hm : m ≤ 1000000) :
    ∃ v' w', (Builtin.append_ #[40, 40] ty #[v, .slice (some ad) 1 c]).run Tryd.prog w = .ok v' w' ∧ OR w' v' (m + 1) (xs ++ [.slice A n d]) ∧ w.grownBy w' v.ownBlock ∧ Dk w w' ∧ (v'.ownBlock = v.ownBlock ∨ v'.ownBlock = some w.heap.size) := by
  obtain ⟨i0, hi, hz0, hz1, hz2⟩ := info_parts infoL
  have ht := Tryd.underlying40
  have hnews : ∀ j u, [Value.slice A n d][j]? = some u → w.cell? (ad.add j) = some u := by
    intro j u h
    match j, h with
    | 0, h =>
      simp at h
      rw [← h, ← hu]
      congr 1
  have h1 : ∀ u ∈ [Value.slice A n d], u.oneCell' = true := by intro u hu; simp at hu; subst hu; rfl
  have hl : [Value.slice A n d].length = 1 * i0.size := by rw [hz1]; rfl
  have hml : (1000001 : Nat) ≤ maxLen := by unfold maxLen; omega
  have grown : ∀ (old : Nat) (row : Option Nat), (∀ k, row = some k → k < w.heap.size → ∃ cur t, Bk w k t cur ∧ ∀ (j : Nat) u, cur[j]? = some u → ∃ A n c, u = .slice A n c) →
      OR (w.drew.alloc (.cells (xs.toArray ++ [Value.slice A n d].toArray ++ Builtin.zeroCells (Value.slice none 0 0).cells (grownCap w (m + 1) old 39 - (m + 1))) 39)) (.slice (some ⟨w.heap.size, 0, none⟩) (m + 1) (grownCap w (m + 1) old 39)) (m + 1) (xs ++ [.slice A n d]) ∧
      w.grownBy (w.drew.alloc (.cells (xs.toArray ++ [Value.slice A n d].toArray ++ Builtin.zeroCells (Value.slice none 0 0).cells (grownCap w (m + 1) old 39 - (m + 1))) 39)) row ∧
      Dk w (w.drew.alloc (.cells (xs.toArray ++ [Value.slice A n d].toArray ++ Builtin.zeroCells (Value.slice none 0 0).cells (grownCap w (m + 1) old 39 - (m + 1))) 39)) := by
    intro old row hrow
    have hge := grownCap_ge w (m + 1) old 39
    have hcm : grownCap w (m + 1) old 39 ≤ maxLen := grownCap_le_maxLen w (m + 1) old 39 (by omega)
    refine ⟨⟨by simp [hown.1], .inr ⟨w.heap.size, _, _, rfl, hge, hcm, alloc_top w.drew _, ?_, ?_, ?_⟩⟩, ⟨rfl, rfl, rfl, by simp, fun k hk _ => by first | exact heap_alloc_old w.drew _ k hk | exact heap_alloc_old w.drew _ hk⟩, ((Dk.refl w).drew).alloc _⟩
    · simp only [Array.size_append, List.size_toArray, size_zeroCells, Value.cells, hown.1, List.length_cons, List.length_nil]
      simp
      omega
    · simp only [Array.toList_append, List.append_assoc]
      rw [← List.append_assoc]
      have : (xs ++ [Value.slice A n d]).length = m + 1 := by simp [hown.1]
      rw [← this]
      exact List.take_left
    · intro j u hj
      have hmem := Array.mem_of_getElem? hj
      simp only [Array.mem_append, List.mem_toArray] at hmem
      rcases hmem with (hx | hx) | hx
      · have hxs : ∀ u ∈ xs, ∃ A n c, u = Value.slice A n c := by
          intro u hu
          rcases hown.2 with ⟨_, e⟩ | ⟨g, cap, cur, _, _, _, _, _, e, hall⟩
          · subst e; cases hu
          · rw [← e] at hu
            have h3 := List.mem_of_mem_take hu
            obtain ⟨k, hk⟩ := List.mem_iff_getElem?.1 h3
            exact hall k u (by simpa using hk)
        exact hxs u hx
      · simp at hx
        exact ⟨A, n, d, hx⟩
      · simp [Builtin.zeroCells, Value.cells] at hx
        obtain ⟨k, _, e⟩ := hx
        simp [Nat.mod_one] at e
        exact ⟨none, 0, 0, e.symm⟩
  rcases hown.2 with ⟨rfl, e⟩ | ⟨g, cap, cur, rfl, h2, h3, hg, h5, htake, hall⟩
  · subst e
    have hm0 : m = 0 := by have := hown.1; simpa using this.symm
    subst hm0
    have hr := run_append_nil (P := Tryd.prog) w 40 ty 39 i0 (.slice none 0 0) ht hi hz0 ad 1 c [.slice A n d] hl hnews (by omega) (by omega) (by rw [hz2]; omega)
    have hgr := grown 0 (Value.ownBlock (.slice none 0 0)) (by intro k hk; cases hk)
    simp only [Nat.zero_add, List.nil_append, Array.empty_append] at hgr ⊢
    exact ⟨_, _, hr, hgr.1, hgr.2.1, hgr.2.2, .inr rfl⟩
  · by_cases hroom : m + 1 ≤ cap
    · have hfit : m * i0.size + [Value.slice A n d].length ≤ cur.size := by rw [hz1, h5]; simp; omega
      have hr := run_append_room (P := Tryd.prog) w 40 ty 39 i0 ht hi g m cap cur hg ad 1 c [.slice A n d] hl hnews h1 hroom hfit
      have hgb : w.grownBy (w.setRow g (cur.toList.take (m * i0.size) ++ [Value.slice A n d] ++ cur.toList.drop (m * i0.size + [Value.slice A n d].length)).toArray) (Value.ownBlock (.slice (some ⟨g, 0, none⟩) m cap)) := ⟨rfl, rfl, rfl, by simp, fun k _ hk => setRow_other w g k _ (fun e => hk (by simp [Value.ownBlock, e]))⟩
      refine ⟨_, _, hr, ⟨by simp [hown.1], .inr ⟨g, cap, _, rfl, hroom, h3, setRow_heap w g cur _ _ _ hg, ?_, ?_, ?_⟩⟩, hgb, dk_of_slices hgb ?_, .inl rfl⟩
      · rw [hz1]
        simp only [List.size_toArray, List.length_append, List.length_take, List.length_drop, Array.length_toList, Nat.mul_one, List.length_cons, List.length_nil]
        omega
      · rw [hz1, Nat.mul_one, htake]
        have : (xs ++ [Value.slice A n d]).length = m + 1 := by simp [hown.1]
        rw [← this]
        exact List.take_left
      · intro j u hj
        have hmem := List.mem_of_getElem? (by simpa using hj : (cur.toList.take (m * i0.size) ++ [Value.slice A n d] ++ cur.toList.drop (m * i0.size + [Value.slice A n d].length))[j]? = some u)
        simp only [List.mem_append] at hmem
        have hin : ∀ u ∈ cur.toList, ∃ A n c, u = Value.slice A n c := by
          intro u hu
          obtain ⟨k, hk⟩ := List.mem_iff_getElem?.1 hu
          exact hall k u (by simpa using hk)
        rcases hmem with (hx | hx) | hx
        · exact hin u (List.mem_of_mem_take hx)
        · simp at hx
          exact ⟨A, n, d, hx⟩
        · exact hin u (List.mem_of_mem_drop hx)
      · intro k hk _
        obtain rfl : g = k := by simpa [Value.ownBlock] using hk
        exact ⟨cur, _, hg, hall⟩
    · have holds : ∀ j u, xs[j]? = some u → w.cell? ((⟨g, 0, none⟩ : Addr).add j) = some u := by
        intro j u hj
        rw [Addr.add_lit, Nat.zero_add, Lib.cell_of_heap hg]
        rw [← htake, List.getElem?_take] at hj
        split at hj
        · simpa using hj
        · cases hj
      have hr := run_append_grow (P := Tryd.prog) w 40 ty 39 i0 (.slice none 0 0) ht hi hz0 ⟨g, 0, none⟩ m cap xs (by rw [hz1, Nat.mul_one]; exact hown.1) holds ad 1 c [.slice A n d] hl hnews (by omega) (by omega) (growslice_fits (by omega) (by rw [hz2]; omega))
      have hgr := grown cap (Value.ownBlock (.slice (some ⟨g, 0, none⟩) m cap)) (by
        intro k hk _
        obtain rfl : g = k := by simpa [Value.ownBlock] using hk
        exact ⟨cur, _, hg, hall⟩)
      exact ⟨_, _, hr, hgr.1, hgr.2.1, hgr.2.2, .inr rfl⟩
theorem wpList_append_sl {ops : Array Oper} {rest : List Oper} {o : Oper} {a : Act} {Q : Exit → Act → World → Prop} {w : World} (hgd : o.guard = none) (s x : Operand)
    (ho : o.op = .call { callee := .builtin .append, args := #[s, x], argTypes := #[40, 40] })
    (v : Value) (m : Nat) (xs : List Value) (hs : a.eval s = v) (hown : OR w v m xs) (ad : Addr) (c : Nat) (A : Option Addr) (n d : Nat) (hx : a.eval x = .slice (some ad) 1 c) (hu : w.cell? ad = some (.slice A n d)) (hm : m ≤ 1000000)
    (h : ∀ v' w', OR w' v' (m + 1) (xs ++ [.slice A n d]) → w.grownBy w' v.ownBlock → Dk w w' → (v'.ownBlock = v.ownBlock ∨ v'.ownBlock = some w.heap.size) → wpList Tryd.prog ops Q rest (a.put o.dst v') w') :
    wpList Tryd.prog ops Q (o :: rest) a w := by
  refine wpList_plain hgd fun K hK => ?_
  obtain ⟨v', w', hr, h2, h3, h4, h5⟩ := run_append_sl w o.type v m xs hown ad c A n d hu hm
  unfold Oper.wp execOp
  simp only [ho, resolve, invoke, builtin, Sem.run_bind, Sem.run_pure, Result.andThen_ok, List.map_toArray, List.map_cons, List.map_nil, hs, hx, hr]
  exact hK _ _ (h v' w' h2 h3 h4 h5)
end Go.Proofs.YtgioppkggpfnoaaDoor.Nu
end

section
/- The walk of zono.points. -/
set_option linter.unusedVariables false
namespace Go.Proofs.YtgioppkggpfnoaaDoor.Nu
open Go.RowKit Go.Proofs

def PtsRel (f : Nat → D) (n : Nat) (W : World) (i : Nat) (w : World) : Prop := OS w W.heap.size n (fun j => if j < i then Sp.pt (f j) else Sp.zero) ∧ Below W.heap.size W w
theorem PtsRel.start (f : Nat → D) (n : Nat) (w : World) : PtsRel f n w 0 (w.alloc (.cells (mkS n) 62)) := ⟨OS.start (F := fun j => Sp.pt (f j)) (OS.made w n), below_al (Below.refl _ w) _⟩

set_option maxRecDepth 100000 in
set_option maxHeartbeats 4000000 in
theorem points_any (w : World) (A : Option Addr) (n c : Nat) (f : Nat → D) (h : RDs w A n c f) :
    Calls Tryd.prog 122 #[.slice A n c] w fun e w' => (∃ A' c', e = .returned (.slice A' n c') ∧ RSs w' A' n c' (pts f)) ∧ Below w.heap.size w w' := by
  have HA := Lib.hid h
  have n0 := h.2.1
  clear h
  have hmk := fun W => make_S n n0 W
  go_enter Tryd.func122, Tryd.ntmps122
  go_wp2_with fail
  have H0 := Lib.hid (PtsRel.start f n w)
  clear hmk
  generalize w.alloc (.cells (mkS n) 62) = w0 at *
  go_loopw [11] (fun k wr => ∃ i : Nat, k = .int .i64 i ∧ i ≤ n ∧ Hid (PtsRel f n w i wr)) (fun k _ => n - (intOf k).toNat)
  case atStart => exact ⟨0, rfl, Nat.zero_le _, H0⟩
  case round =>
    obtain ⟨i, rfl, hi, Hr⟩ := hrel
    by_cases hi2 : i < n
    · have q3 : (i : Int) < (n : Int) := by omega
      obtain ⟨ho, hbel⟩ := Hr.out
      have OX := Lib.hid ho
      have HB_0 := Lib.hid hbel
      obtain ⟨A1, o1, rfl, hl1, hcc⟩ := HA.out.2.2 (by omega)
      obtain ⟨q, z0, z1, z2, hq⟩ := hcc i hi2
      have X0 := Lib.hid z0
      have X1 := Lib.hid z1
      have X2 := Lib.hid z2
      clear hcc z0 z1 z2
      have RQ := Lib.hid (hq.below hbel)
      clear ho hbel hq
      have cr10 : wr.cell? ⟨A1, o1 + i * 3, none⟩ = some (.bool q.b) := (HB_0.out.cell (p := ⟨A1, o1 + i * 3, none⟩) hl1).trans X0.out
      have cr11 : wr.cell? ⟨A1, o1 + i * 3 + 1, none⟩ = some (.slice q.A q.n q.c) := (HB_0.out.cell (p := ⟨A1, o1 + i * 3 + 1, none⟩) hl1).trans X1.out
      have cr12 : wr.cell? ⟨A1, o1 + i * 3 + 2, none⟩ = some (.int .i64 (f i).x) := (HB_0.out.cell (p := ⟨A1, o1 + i * 3 + 2, none⟩) hl1).trans X2.out
      go_wp2_with fail
      refine (spoint_any _ q (f i) (RQ.out.dk ((Dk.refl _).alloc _))).mono ?_
      rintro e w1 ⟨⟨s, rfl, hs⟩, hb⟩
      clear cr10 cr11 cr12
      have K := Dk.trans ((Dk.refl _).alloc _) (.below hb)
      have Bd_101 := Lib.hid (show Bk _ _ _ #[.bool q.b, .slice q.A q.n q.c, .int .i64 (f i).x] from (Bk.new _ 53 #[.bool q.b, .slice q.A q.n q.c, .int .i64 (f i).x]).below hb)
      have Ox_102 := Lib.hid (show OS _ (w.heap.size) n (fun j => if j < i then Sp.pt (f j) else Sp.zero) from (OX.out.al _).below hb)
      have HB_103 := Lib.hid (below_tr (below_al HB_0.out _) hb)
      clear hb
      have RQ_104 := Lib.hid (RQ.out.dk K)
      clear K OX HB_0 RQ
      have RS_105 := Lib.hid hs
      clear hs
      have ld := Bd_101.out.lt
      obtain ⟨cd0, cd1, cd2⟩ := Bd_101.out.cells3
      have cr10 : w1.cell? ⟨A1, o1 + i * 3, none⟩ = some (.bool q.b) := (HB_103.out.cell (p := ⟨A1, o1 + i * 3, none⟩) hl1).trans X0.out
      have cr11 : w1.cell? ⟨A1, o1 + i * 3 + 1, none⟩ = some (.slice q.A q.n q.c) := (HB_103.out.cell (p := ⟨A1, o1 + i * 3 + 1, none⟩) hl1).trans X1.out
      have cr12 : w1.cell? ⟨A1, o1 + i * 3 + 2, none⟩ = some (.int .i64 (f i).x) := (HB_103.out.cell (p := ⟨A1, o1 + i * 3 + 2, none⟩) hl1).trans X2.out
      obtain ⟨⟨_, px0⟩, ⟨_, px1⟩, ⟨_, px2⟩, ⟨_, px3⟩, ⟨_, px4⟩, ⟨_, px5⟩, rx0, rx1, rx2, rx3, rx4, rx5⟩ := Ox_102.out.there hi2
      have lx := Ox_102.out.lt
      go_wp2
      go_roundw
      case rel => exact ⟨i + 1, by go_num, hi2, Lib.hid ⟨OS.next (F := fun j => Sp.pt (f j)) (Ox_102.out.put hi2 s (Sp.pt (f i)) RS_105.out).1, (below_put6 HB_103.out (by have := HB_103.out.size; omega) i (.bool s.lo.b) (.slice s.lo.A s.lo.n s.lo.c) (.int .i64 (Sp.pt (f i)).lo.x) (.bool s.hi.b) (.slice s.hi.A s.hi.n s.hi.c) (.int .i64 (Sp.pt (f i)).hi.x))⟩⟩
      case measure => simp only [intOf]; omega
    · obtain rfl : i = n := by omega
      obtain ⟨ho, hbel⟩ := Hr.out
      have OX := Lib.hid ho
      have HB_0 := Lib.hid hbel
      clear ho hbel hi2
      go_wp2
      go_ret
      exact ⟨⟨_, _, rfl, (OX.out.done (F := fun j => Sp.pt (f j))).read n0⟩, HB_0.out⟩

end Go.Proofs.YtgioppkggpfnoaaDoor.Nu
end

section
/- The walk of zono.Check, over whatever set. -/
set_option linter.unusedVariables false
namespace Go.Proofs.YtgioppkggpfnoaaDoor.Nu
open Go.RowKit Go.Proofs

/-- The k-th of a set's rows: the middle, the sizes, then the ways. -/
def Rk (w : World) (Ac Ag Ar : Option Addr) (nc cc m cg nr cr : Nat) (k : Nat) (A' : Option Addr) (n' c' : Nat) : Prop :=
  (k = 0 ∧ A' = Ac ∧ n' = nc ∧ c' = cc) ∨ (k = 1 ∧ A' = Ar ∧ n' = nr ∧ c' = cr) ∨ (2 ≤ k ∧ ∃ b off, Ag = some ⟨b, off, none⟩ ∧ w.cell? ⟨b, off + (k - 2), none⟩ = some (.slice A' n' c'))
/-- The rows, one behind the other, in a block of the call's own. -/
def CRows (Ac Ag Ar : Option Addr) (nc cc m cg nr cr : Nat) (w : World) (g : Nat) (wx : World) : Prop :=
  g < wx.heap.size ∧ ∀ k, k < 2 + m → ∃ A' n' c', wx.cell? ⟨g, k, none⟩ = some (.slice A' n' c') ∧ Rk w Ac Ag Ar nc cc m cg nr cr k A' n' c' ∧ RawD w A' n' c'
theorem own_two (w : World) (a b : Value) : (w.alloc (.cells #[a, b] 39)).ownsRow 0 39 1 (.slice (some ⟨w.heap.size, 0, none⟩) 2 2) 2 [a, b] :=
  ⟨rfl, .inr ⟨w.heap.size, 2, #[a, b], rfl, Nat.zero_le _, alloc_top w _, Nat.le_refl _, by unfold maxLen; omega, rfl, rfl⟩⟩
theorem own_form {w : World} {v : Value} {n : Nat} {xs : List Value} {E : TypeId} (h : w.ownsRow 0 E 1 v n xs) (hx : n ≠ 0) : ∃ g c, v = .slice (some ⟨g, 0, none⟩) n c := by
  rcases h.2 with ⟨_, e⟩ | ⟨g, cap, cur, e, _⟩
  · exact absurd e hx
  · exact ⟨g, cap, e⟩
theorem raw_news {w : World} {ad : Addr} {m cg : Nat} (h : RawR w (some ad) m cg) : ∃ news : List Value, news.length = m ∧
    (∀ k, k < m → ∃ A' n' c', news[k]? = some (.slice A' n' c') ∧ (∃ b off, (some ad : Option Addr) = some ⟨b, off, none⟩ ∧ w.cell? ⟨b, off + k, none⟩ = some (.slice A' n' c')) ∧ RawD w A' n' c') ∧
    ((∀ u ∈ news, u.oneCell' = true) ∧ ∀ (j : Nat) u, news[j]? = some u → (ad.add j).block < w.heap.size ∧ w.cell? (ad.add j) = some u) := by
  by_cases h0 : m = 0
  · subst h0
    exact ⟨[], rfl, fun k hk => absurd hk (by omega), ⟨(fun u hu => by cases hu), (fun j u hj => by simp at hj)⟩⟩
  · obtain ⟨b, off, e, hb, hc⟩ := h.2.2 (by omega)
    injection e with e
    subst e
    refine ⟨(List.range m).map fun k => (w.cell? ⟨b, off + k, none⟩).getD (.slice none 0 0), by simp, fun k hk => ?_, fun u hu => ?_, fun j u hj => ?_⟩
    · obtain ⟨A', n', c', e1, hr⟩ := hc k hk
      exact ⟨A', n', c', by simp [hk, e1], ⟨b, off, rfl, e1⟩, hr⟩
    · obtain ⟨k, hk, rfl⟩ := List.mem_map.1 hu
      obtain ⟨A', n', c', e1, hr⟩ := hc k (List.mem_range.1 hk)
      rw [e1]; rfl
    · have hjm : j < m := by have := (List.getElem?_eq_some_iff.1 hj).1; simpa using this
      obtain ⟨A', n', c', e1, hr⟩ := hc j hjm
      simp [hjm, e1] at hj
      rw [Addr.add_lit]
      exact ⟨hb, by rw [e1, ← hj]⟩
theorem crows_end {w w0 w2 : World} {Ac Ag Ar : Option Addr} {nr cc m cg cr g cap : Nat} {news : List Value} {zc : Array Value} (HB : Below w.heap.size w w0)
    (hown : w2.ownsRow 0 39 1 (.slice (some ⟨g, 0, none⟩) (2 + m) cap) (2 + m) ([.slice Ac nr cc, .slice Ar nr cr] ++ news))
    (hgr : (w0.alloc (.cells #[.slice Ac nr cc, .slice Ar nr cr] 39)).grownBy w2 (Value.ownBlock (.slice (some ⟨w0.heap.size, 0, none⟩) 2 2)))
    (HC : RawD w Ac nr cc) (HR : RawD w Ar nr cr) (hl : news.length = m)
    (hn : ∀ k, k < m → ∃ A' n' c', news[k]? = some (.slice A' n' c') ∧ (∃ b off, Ag = some ⟨b, off, none⟩ ∧ w.cell? ⟨b, off + k, none⟩ = some (.slice A' n' c')) ∧ RawD w A' n' c') (BZ : Bk w0 w.heap.size 42 zc) :
    CRows Ac Ag Ar nr cc m cg nr cr w g w2 ∧ Bk w2 w.heap.size 42 zc ∧ Below w.heap.size w w2 := by
  have hlt := (hown.lt g rfl).2
  have hrow : (Value.ownBlock (.slice (some ⟨w0.heap.size, 0, none⟩) 2 2)) = some w0.heap.size := rfl
  refine ⟨⟨hlt, fun k hk => ?_⟩, ?_, ?_⟩
  · have hcell := fun u (h : ([Value.slice Ac nr cc, .slice Ar nr cr] ++ news)[k]? = some u) => hown.cells (g := g) rfl k u h
    have hcell2 : ∀ u, ([Value.slice Ac nr cc, .slice Ar nr cr] ++ news)[k]? = some u → w2.cell? ⟨g, k, none⟩ = some u := fun u h => by
      have := hcell u h
      rw [Addr.add_lit, Nat.zero_add] at this
      exact this
    match k, hk with
    | 0, _ => exact ⟨Ac, nr, cc, hcell2 _ rfl, .inl ⟨rfl, rfl, rfl, rfl⟩, HC⟩
    | 1, _ => exact ⟨Ar, nr, cr, hcell2 _ rfl, .inr (.inl ⟨rfl, rfl, rfl, rfl⟩), HR⟩
    | k + 2, hk =>
      obtain ⟨A', n', c', e1, e2, hr⟩ := hn k (by omega)
      exact ⟨A', n', c', hcell2 _ (by simpa using e1), .inr (.inr ⟨by omega, e2⟩), hr⟩
  · have h1 := hgr.block w.heap.size (by rw [World.size_alloc]; have := BZ.lt; omega) (by rw [hrow]; intro e; injection e with e; have := BZ.lt; omega)
    exact h1.trans ((sameA w0 BZ.lt _).trans BZ)
  · exact (below_al HB _).grown hgr (by rw [World.size_alloc]; have := HB.size; omega) (by intro k hk; rw [hrow] at hk; injection hk with hk; have := HB.size; omega)
/-- What zono.Check asks. -/
def ZOK (Ac Ag Ar : Option Addr) (nc cc m cg nr cr : Nat) (w : World) (n : Nat) : Prop :=
  nc = n ∧ nr = n ∧ n ≤ 16 ∧ m ≤ 4096 ∧ (∀ k A' n' c', k < 2 + m → Rk w Ac Ag Ar nc cc m cg nr cr k A' n' c' → n' = n ∧ RowOK w A' n' c') ∧ (∀ j, j < nr → ∀ b off d, Ar = some ⟨b, off, none⟩ → Elt w b off j d → 0 ≤ d.z)

theorem Rk.uniq {w : World} {Ac Ag Ar : Option Addr} {nc cc m cg nr cr k : Nat} {A A' : Option Addr} {n n' c c' : Nat} (h : Rk w Ac Ag Ar nc cc m cg nr cr k A n c) (h' : Rk w Ac Ag Ar nc cc m cg nr cr k A' n' c') : A = A' ∧ n = n' ∧ c = c' := by
  rcases h with ⟨e, rfl, rfl, rfl⟩ | ⟨e, rfl, rfl, rfl⟩ | ⟨e, b, off, hA, hc⟩ <;> rcases h' with ⟨e', rfl, rfl, rfl⟩ | ⟨e', rfl, rfl, rfl⟩ | ⟨e', b', off', hA', hc'⟩
  · exact ⟨rfl, rfl, rfl⟩
  · omega
  · omega
  · omega
  · exact ⟨rfl, rfl, rfl⟩
  · omega
  · omega
  · omega
  · rw [hA] at hA'
    injection hA' with hA'
    injection hA' with h1 h2
    subst h1 h2
    rw [hc] at hc'
    injection hc' with hc'
    injection hc' with h1 h2 h3
    exact ⟨h1, h2, h3⟩
/-- The state ahead of element j of a row. -/
def InRel (w : World) (A : Option Addr) (w2 : World) (j : Nat) (wi : World) : Prop :=
  Below w2.heap.size w2 wi ∧ ∀ j', j' < j → ∃ d, (∃ b off, A = some ⟨b, off, none⟩ ∧ b < w.heap.size ∧ Elt w b off j' d) ∧ OkD d
theorem InRel.row {w w2 wi : World} {A : Option Addr} {n c : Nat} (hraw : RawD w A n c) (hn : n ≤ 1000000) (h : InRel w A w2 n wi) : RowOK w A n c := by
  by_cases h0 : n = 0
  · subst h0; exact RowOK.nil w A c
  · obtain ⟨b, off, rfl, hlt, _⟩ := hraw.2.2 (by omega)
    refine RowOK.mk hraw.1 hn hlt fun j hj => ?_
    obtain ⟨d, ⟨b', off', e, _, he⟩, hok⟩ := h.2 j hj
    injection e with e
    injection e with e1 e2
    subst e1 e2
    exact ⟨d, he, hok⟩
/-- The state ahead of row k. -/
def CkRel (Ac Ag Ar : Option Addr) (nc cc m cg nr cr : Nat) (w : World) (n : Nat) (w2 : World) (k : Nat) (wr : World) : Prop :=
  Below w2.heap.size w2 wr ∧ ∀ k', k' < k → ∀ A' n' c', Rk w Ac Ag Ar nc cc m cg nr cr k' A' n' c' → n' = n ∧ RowOK w A' n' c'

set_option maxRecDepth 100000 in
set_option maxHeartbeats 4000000 in
theorem zcheck_any (w : World) (Ac Ag Ar : Option Addr) (nc cc m cg nr cr n : Nat) (hC : RawD w Ac nc cc) (hG : RawR w Ag m cg) (hR : RawD w Ar nr cr) (hnil : Ag = none → cg = 0) (hn : n ≤ 9223372036854775807) :
    Calls Tryd.prog 27 #[.agg #[.slice Ac nc cc, .slice Ag m cg, .slice Ar nr cr], .int .i64 n] w fun e w' => (∃ r : Int, e = .returned (.int .i64 r) ∧ (r = 0 ↔ ZOK Ac Ag Ar nc cc m cg nr cr w n)) ∧ Below w.heap.size w w' := by
  have HC := Lib.hid hC
  have HG := Lib.hid hG
  have HR := Lib.hid hR
  have HNL := Lib.hid hnil
  have hm2 := hG.2.1
  clear hC hG hR hnil
  have hnc := HC.out.2.1
  have hnr := HR.out.2.1
  have BX := Lib.hid (boxes1 w 42 #[.slice Ac nc cc, .slice Ag m cg, .slice Ar nr cr])
  by_cases h16 : 16 < n
  · have q0 : ¬ (n : Int) < 0 := by omega
    have q1 : (16 : Int) < (n : Int) := by omega
    go_enter Tryd.func27, Tryd.ntmps27
    go_wp2
    go_ret
    exact ⟨⟨20, rfl, by omega, fun h => absurd h (by rintro ⟨_, _, h, _⟩; omega)⟩, BX.out.2⟩
  have q0 : ¬ (n : Int) < 0 := by omega
  have q1 : ¬ (16 : Int) < (n : Int) := by omega
  by_cases hcn : nc = n
  rotate_left
  · have q2 : ((nc : Int) == (n : Int)) = false := by rw [beq_eq_false_iff_ne]; omega
    have q3 : ((nc : Int) != (n : Int)) = true := by rw [bne, q2]; rfl
    have HN := Lib.hid hcn
    clear hcn
    go_enter Tryd.func27, Tryd.ntmps27
    go_wp2
    go_ret
    exact ⟨⟨20, rfl, by omega, fun h => absurd h (by rintro ⟨h, _⟩; exact HN.out h)⟩, BX.out.2⟩
  by_cases hrn : nr = n
  rotate_left
  · have q2 : ((nc : Int) == (n : Int)) = true := by rw [beq_iff_eq]; omega
    have q3 : ((nc : Int) != (n : Int)) = false := by rw [bne, q2]; rfl
    have q4 : ((nr : Int) == (n : Int)) = false := by rw [beq_eq_false_iff_ne]; omega
    have q5 : ((nr : Int) != (n : Int)) = true := by rw [bne, q4]; rfl
    have HN := Lib.hid hrn
    clear hrn hcn
    go_enter Tryd.func27, Tryd.ntmps27
    go_wp2
    go_ret
    exact ⟨⟨20, rfl, by omega, fun h => absurd h (by rintro ⟨_, h, _⟩; exact HN.out h)⟩, BX.out.2⟩
  obtain rfl : nc = n := hcn
  obtain rfl : nr = nc := hrn
  have q2 : ((nr : Int) != (nr : Int)) = false := by simp
  by_cases hm4 : 4096 < m
  · have q6 : (4096 : Int) < (m : Int) := by omega
    go_enter Tryd.func27, Tryd.ntmps27
    go_wp2
    go_ret
    exact ⟨⟨32, rfl, by omega, fun h => absurd h (by rintro ⟨_, _, _, h, _⟩; omega)⟩, BX.out.2⟩
  have q6 : ¬ (4096 : Int) < (m : Int) := by omega
  clear h16
  go_enter Tryd.func27, Tryd.ntmps27
  go_upto_region 5 with (fail)
  generalize w.alloc (.cells #[.slice Ac nr cc, .slice Ag m cg, .slice Ar nr cr] 42) = w0 at *
  obtain ⟨b0, hw⟩ := BX.out
  have BZ := Lib.hid b0
  have HB := Lib.hid hw
  clear b0 hw BX
  have cz0 := BZ.out.cell 0 rfl
  have cz1 := BZ.out.cell 1 rfl
  have cz2 := BZ.out.cell 2 rfl
  have lz := BZ.out.lt
  go_cut [43, 44, 45] (fun s43 s44 s45 wx => ∃ (g cap : Nat), s43 = .slice (some ⟨g, 0, none⟩) (2 + m) cap ∧ s44 = .int .i64 ((2 + m : Nat) : Int) ∧ s45 = .int .i64 0 ∧ CRows Ac Ag Ar nr cc m cg nr cr w g wx ∧ Bk wx w.heap.size 42 #[.slice Ac nr cc, .slice Ag m cg, .slice Ar nr cr] ∧ Below w.heap.size w wx)
  case first =>
    obtain ⟨i0, hi, hz0, hz1, hz2⟩ := info_parts infoL
    have HOW := Lib.hid (own_two w0 (.slice Ac nr cc) (.slice Ar nr cr))
    cases Ag with
    | none =>
      obtain rfl : cg = 0 := HNL.out rfl
      obtain rfl : m = 0 := by have := HG.out.1; omega
      have HX := Lib.hid (crows_end (Ag := none) (cg := 0) (m := 0) (g := w0.heap.size) (cap := 2) (news := []) HB.out HOW.out (World.grownBy.refl _ _) HC.out HR.out rfl (fun k hk => absurd hk (by omega)) BZ.out)
      go_wp2_with fail
      go_meet
      exact ⟨w0.heap.size, 2, rfl, rfl, rfl, HX.out.1, HX.out.2.1, HX.out.2.2⟩
    | some ad =>
      obtain ⟨news, hnl, hnw, hnc1⟩ := raw_news HG.out
      have HNW := Lib.hid hnw
      have HNC := Lib.hid hnc1
      have HLN := Lib.hid hnl
      clear hnl hnw hnc1
      go_wp2_with (at_builtin; refine wpList_append_own_at _ rfl _ _ 40 rfl 0 39 i0 (.slice none 0 0) 1 24 Tryd.underlying40 hi hz0 hz1 hz2 rfl (by decide) (.slice (some ⟨w0.heap.size, 0, none⟩) 2 2) 2 [.slice Ac nr cc, .slice Ar nr cr] rfl HOW.out ad m cg news rfl ?n1 ?n2 ?n3 ?n4 ?n5 ?n6 ?_)
      case n1 => rw [HLN.out]
      case n2 => intro j u hj; exact Lib.cell?_alloc_some _ ((HB.out.cell (HNC.out.2 j u hj).1).trans (HNC.out.2 j u hj).2)
      case n3 => exact HNC.out.1
      case n4 => unfold maxLen; omega
      case n5 => omega
      intro v' w2 hown hgr hnn hob
      obtain ⟨g, cap, rfl⟩ := own_form hown (by omega)
      have HX := Lib.hid (crows_end (cg := cg) (g := g) (cap := cap) HB.out hown hgr HC.out HR.out HLN.out HNW.out BZ.out)
      clear hown hgr cz0 cz1 cz2 hnn hob
      go_wp2_with fail
      go_meet
      exact ⟨g, cap, rfl, rfl, rfl, HX.out.1, HX.out.2.1, HX.out.2.2⟩
  case rest =>
    obtain ⟨w2, rfl⟩ : ∃ x, x = wc := ⟨_, rfl⟩
    obtain ⟨g, cap, rfl, rfl, rfl, hcr, hbz, hbel⟩ := hcut
    have CR := Lib.hid hcr
    have B2 := Lib.hid hbz
    have HB2 := Lib.hid hbel
    clear hcr hbz hbel cz0 cz1 cz2 lz BZ HB
    have H0 := Lib.hid (show CkRel Ac Ag Ar nr cc m cg nr cr w nr w2 0 w2 from ⟨Below.refl _ _, fun k hk => absurd hk (by omega)⟩)
    go_wp2_with fail
    go_loopw [45] (fun k wr => ∃ i : Nat, k = .int .i64 i ∧ i ≤ 2 + m ∧ Hid (CkRel Ac Ag Ar nr cc m cg nr cr w nr w2 i wr)) (fun k _ => 2 + m - (intOf k).toNat)
    case atStart => exact ⟨0, rfl, Nat.zero_le _, H0⟩
    case round =>
      clear H0
      obtain ⟨k, rfl, hk, Hr⟩ := hrel
      by_cases hk2 : k < 2 + m
      · obtain ⟨A', n', c', e1, hrk, hraw⟩ := CR.out.2 k hk2
        obtain ⟨hbel, hgood⟩ := Hr.out
        have x0 : wr.cell? ⟨g, k, none⟩ = some (.slice A' n' c') := (hbel.cell (p := ⟨g, k, none⟩) CR.out.1).trans e1
        have HRK := Lib.hid hrk
        have HRAW := Lib.hid hraw
        have HGOOD := Lib.hid hgood
        have HBR := Lib.hid hbel
        have hn62 := hraw.2.1
        clear hrk hraw hgood hbel e1 Hr
        have q7 : (k : Int) < 2 + (m : Int) := by omega
        have q7' : (k : Int) < ((2 + m : Nat) : Int) := by omega
        have q7'' : k < 2 + m := hk2
        by_cases hnn : n' = nr
        · obtain rfl : nr = n' := hnn.symm
          clear hnn
          go_wp2_with fail
          have I0 := Lib.hid (show InRel w A' w2 0 wr from ⟨HBR.out, fun j hj => absurd hj (by omega)⟩)
          clear x0
          go_loopw [55] (fun j wi => ∃ i : Nat, j = .int .i64 i ∧ i ≤ nr ∧ Hid (InRel w A' w2 i wi)) (fun j _ => nr - (intOf j).toNat)
          case atStart => exact ⟨0, rfl, Nat.zero_le _, I0⟩
          case round =>
            clear I0
            obtain ⟨j, rfl, hj, Hi⟩ := hrel
            by_cases hj2 : j < nr
            · obtain ⟨b1, o1, rfl, hl1, hcc⟩ := HRAW.out.2.2 (by omega)
              obtain ⟨q, xs, x, hat, hrl, hqc⟩ := hcc j hj2
              obtain ⟨hbi, hels⟩ := Hi.out
              have HBI := Lib.hid (HB2.out.trans (hbi.mono HB2.out.size))
              have x1 := (HBI.out.cell (p := ⟨b1, _, none⟩) hl1).trans hat.1
              have x2 := (HBI.out.cell (p := ⟨b1, _, none⟩) hl1).trans hat.2.1
              have x3 := (HBI.out.cell (p := ⟨b1, _, none⟩) hl1).trans hat.2.2
              have HAT := Lib.hid hat
              have HRL := Lib.hid hrl
              have HQC := Lib.hid hqc
              have HBI2 := Lib.hid hbi
              have HELS := Lib.hid hels
              clear hat hrl hqc hbi hels hcc Hi
              have q8 : (j : Int) < (nr : Int) := by omega
              go_wp2_with fail
              have HW1 := Lib.hid (below_al HBI.out (.cells #[.bool q.b, .slice q.A q.n q.c, .int .i64 x] 53))
              have HW2 := Lib.hid ((Below.refl _ wr).alloc (Nat.le_refl _) (.cells #[.bool q.b, .slice q.A q.n q.c, .int .i64 x] 53))
              refine (dcheck_raw _ q.b q.A q.n q.c xs x (HRL.out.below HW1.out) HQC.out).mono ?_
              rintro e w5 ⟨⟨r, rfl, hr⟩, hb⟩
              have HR5 := Lib.hid hr
              have HB5 := Lib.hid (below_tr HW1.out hb)
              have HB6 := Lib.hid (HBI2.out.trans ((below_tr HW2.out hb).mono HBI2.out.size))
              clear hb x1 x2 x3 hr
              by_cases hr0 : r = 0
              · subst hr0
                have hq := HR5.out.1 rfl
                have HE := Lib.hid (elt_of_check HAT.out HRL.out hq.1 hq.2.1 hq.2.2.1 hq.2.2.2.1 hq.2.2.2.2)
                clear hq
                go_wp2
                go_roundw
                case rel =>
                  refine ⟨j + 1, by go_num, hj2, Lib.hid ⟨HB6.out, fun j' hj' => ?_⟩⟩
                  by_cases e : j' = j
                  · subst e
                    obtain ⟨d, h1, h2⟩ := HE.out
                    exact ⟨d, ⟨b1, o1, rfl, hl1, h1⟩, h2⟩
                  · exact HELS.out j' (by omega)
                case measure => simp only [intOf]; omega
              · have q9 : ((r : Int) == 0) = false := by rw [beq_eq_false_iff_ne]; exact hr0
                have q10 : ((r : Int) != 0) = true := by rw [bne, q9]; rfl
                have H0 := Lib.hid hr0
                clear hr0
                go_wp2
                go_ret
                refine ⟨⟨r, rfl, fun h => absurd h H0.out, fun hz => ?_⟩, HB5.out⟩
                obtain ⟨_, hro⟩ := hz.2.2.2.2.1 k _ _ _ hk2 HRK.out
                obtain ⟨f, hf, hok⟩ := hro
                exact HR5.out.2 (check_of_elt HAT.out HRL.out (hf.elt hj2) (hok j hj2) HW1.out)
            · obtain rfl : j = nr := by omega
              obtain ⟨hbi, hels⟩ := Hi.out
              have HBI2 := Lib.hid hbi
              have HRO := Lib.hid (show RowOK w A' j c' from InRel.row HRAW.out (by omega) Hi.out)
              clear hbi hels Hi hj2
              go_wp2
              go_roundw
              case rel =>
                refine ⟨k + 1, by go_num, hk2, Lib.hid ⟨HBI2.out, fun k' hk' A'' n'' c'' h'' => ?_⟩⟩
                by_cases e : k' = k
                · subst e
                  obtain ⟨rfl, rfl, rfl⟩ := h''.uniq HRK.out
                  exact ⟨rfl, HRO.out⟩
                · exact HGOOD.out k' (by omega) _ _ _ h''
              case measure => simp only [intOf]; omega
        · have q8 : ((n' : Int) == (nr : Int)) = false := by rw [beq_eq_false_iff_ne]; omega
          have q9 : ((n' : Int) != (nr : Int)) = true := by rw [bne, q8]; rfl
          have HN := Lib.hid hnn
          clear hnn
          go_wp2
          go_ret
          exact ⟨⟨20, rfl, by omega, fun hz => absurd (hz.2.2.2.2.1 k _ _ _ hk2 HRK.out).1 HN.out⟩, HB2.out.trans (HBR.out.mono HB2.out.size)⟩
      · obtain rfl : k = 2 + m := by omega
        obtain ⟨hbel, hgood⟩ := Hr.out
        have HGOOD := Lib.hid hgood
        have HBR := Lib.hid hbel
        clear hgood hbel Hr hk2
        obtain ⟨f, hf, hok⟩ := (HGOOD.out 1 (by omega) Ar nr cr (.inr (.inl ⟨rfl, rfl, rfl, rfl⟩))).2
        have HF := Lib.hid hf
        have BZ := Lib.hid (B2.out.below HBR.out)
        clear hf hok
        have cz0 := BZ.out.cell 0 rfl
        have cz1 := BZ.out.cell 1 rfl
        have cz2 := BZ.out.cell 2 rfl
        go_wp2_with fail
        have L0 := Lib.hid (show Below w2.heap.size w2 wr ∧ ∀ j, j < 0 → 0 ≤ (f j).z from ⟨HBR.out, fun j hj => absurd hj (by omega)⟩)
        clear cz0 cz1 cz2 BZ HBR
        go_loopw [69] (fun j wi => ∃ i : Nat, j = .int .i64 i ∧ i ≤ nr ∧ Hid (Below w2.heap.size w2 wi ∧ ∀ j, j < i → 0 ≤ (f j).z)) (fun j _ => nr - (intOf j).toNat)
        case atStart => exact ⟨0, rfl, Nat.zero_le _, L0⟩
        case round =>
          clear L0
          obtain ⟨j, rfl, hj, Hi⟩ := hrel
          by_cases hj2 : j < nr
          · obtain ⟨b1, o1, rfl, hl1, hcc⟩ := HF.out.2.2 (by omega)
            obtain ⟨q, c0, c1, c2, hq⟩ := hcc j hj2
            obtain ⟨hbi, hels⟩ := Hi.out
            have HBI := Lib.hid (HB2.out.trans (hbi.mono HB2.out.size))
            have x1 := (HBI.out.cell (p := ⟨b1, _, none⟩) hl1).trans c0
            have x2 := (HBI.out.cell (p := ⟨b1, _, none⟩) hl1).trans c1
            have x3 := (HBI.out.cell (p := ⟨b1, _, none⟩) hl1).trans c2
            have HQ := Lib.hid hq
            have HEL := Lib.hid (show Elt w b1 o1 j (f j) from ⟨q, ⟨c0, c1, c2⟩, hq⟩)
            have HBI2 := Lib.hid hbi
            have HELS := Lib.hid hels
            clear hbi hels hcc Hi c0 c1 c2 hq
            have q8 : (j : Int) < (nr : Int) := by omega
            go_wp2_with fail
            have HW1 := Lib.hid (below_al HBI.out (.cells #[.bool q.b, .slice q.A q.n q.c, .int .i64 (f j).x] 53))
            have HW2 := Lib.hid ((Below.refl _ wr).alloc (Nat.le_refl _) (.cells #[.bool q.b, .slice q.A q.n q.c, .int .i64 (f j).x] 53))
            refine (dsign_q _ q (f j) (HQ.out.below HW1.out)).mono ?_
            rintro e w5 ⟨rfl, hb⟩
            have HB5 := Lib.hid (below_tr HW1.out hb)
            have HB6 := Lib.hid (HBI2.out.trans ((below_tr HW2.out hb).mono HBI2.out.size))
            clear hb x1 x2 x3
            by_cases hz0 : (f j).z < 0
            · have q9 : sgn (f j).z < 0 := by have := sgn_cases (f j).z; omega
              have HZ0 := Lib.hid hz0
              clear hz0
              generalize sgn (f j).z = t at *
              go_wp2
              go_ret
              exact ⟨⟨1, rfl, by omega, fun hz => absurd (hz.2.2.2.2.2 j hj2 b1 o1 (f j) rfl HEL.out) (by have := HZ0.out; omega)⟩, HB5.out⟩
            · have q9 : ¬ sgn (f j).z < 0 := by have := sgn_cases (f j).z; omega
              have HZ0 := Lib.hid hz0
              clear hz0
              generalize sgn (f j).z = t at *
              go_wp2
              go_roundw
              case rel =>
                refine ⟨_, _, _, _, _, _, _, _, _, _, ⟨j + 1, ?_, hj2, Lib.hid ⟨HB6.out, fun j' hj' => ?_⟩⟩, rfl⟩
                · go_num
                · by_cases e : j' = j
                  · subst e; have := HZ0.out; omega
                  · exact HELS.out j' (by omega)
              case measure => simp [intOf]; omega
          · obtain rfl : j = nr := by omega
            obtain ⟨hbi, hels⟩ := Hi.out
            have HBI := Lib.hid (HB2.out.trans (hbi.mono HB2.out.size))
            have HELS := Lib.hid hels
            clear hbi hels Hi hj2
            go_wp2
            go_ret
            refine ⟨⟨0, rfl, fun _ => ⟨rfl, rfl, by omega, by omega, fun k A' n' c' hk h => HGOOD.out k hk A' n' c' h, fun i hi b off d hA hE => ?_⟩, fun _ => rfl⟩, HBI.out⟩
            subst hA
            rw [hE.uniq (HF.out.elt hi)]
            exact HELS.out i hi

end Go.Proofs.YtgioppkggpfnoaaDoor.Nu
end

section
/- zono.Check of a set that may be; and the set that is told by its answer. -/
set_option linter.unusedVariables false
namespace Go.Proofs.YtgioppkggpfnoaaDoor.Nu
open Go.RowKit Go.Proofs

theorem RD.rl {w : World} {q : Q} {d : D} (h : RD w q d) : RL w q.A q.n (digs d.z.natAbs) ∧ q.n ≤ q.c := ⟨h.1.2.2, h.1.2.1⟩
theorem RDs.raw {w : World} {A : Option Addr} {n c : Nat} {f : Nat → D} (h : RDs w A n c f) : RawD w A n c := by
  refine ⟨h.1, Nat.le_trans h.2.1 (by omega), fun h0 => ?_⟩
  obtain ⟨b, off, e, hb, hc⟩ := h.2.2 h0
  refine ⟨b, off, e, hb, fun j hj => ?_⟩
  obtain ⟨q, c0, c1, c2, hr⟩ := hc j hj
  exact ⟨q, _, _, ⟨c0, c1, c2⟩, .of hr.rl.1, hr.rl.2⟩
theorem RDss.raw {w : World} {A : Option Addr} {m c n : Nat} {g : Nat → Nat → D} (h : RDss w A m c n g) : RawR w A m c := by
  refine ⟨h.1, Nat.le_trans h.2.1 (by omega), fun h0 => ?_⟩
  obtain ⟨b, off, e, hb, hc⟩ := h.2.2 h0
  refine ⟨b, off, e, hb, fun k hk => ?_⟩
  obtain ⟨A', c', e1, hr⟩ := hc k hk
  exact ⟨A', n, c', e1, hr.raw⟩
/-- What a set's numbers must be for zono.Check. -/
structure Zo.Ok (z : Zo) : Prop where
  n : z.n ≤ 16
  m : z.m ≤ 4096
  c : ∀ i, i < z.n → OkD (z.c i)
  g : ∀ k i, k < z.m → i < z.n → OkD (z.g k i)
  r : ∀ i, i < z.n → OkD (z.r i)
  p : ∀ i, i < z.n → 0 ≤ (z.r i).z
theorem zok_of {w : World} {Ac Ag Ar : Option Addr} {cc cg cr : Nat} {z : Zo} (h : RZo w ⟨Ac, cc, Ag, cg, Ar, cr⟩ z) (ho : z.Ok) : ZOK Ac Ag Ar z.n cc z.m cg z.n cr w z.n := by
  refine ⟨rfl, rfl, ho.n, ho.m, fun k A' n' c' hk hR => ?_, fun j hj b off d hA hE => ?_⟩
  · rcases hR with ⟨_, rfl, rfl, rfl⟩ | ⟨_, rfl, rfl, rfl⟩ | ⟨h2, b, off, hA, hc⟩
    · exact ⟨rfl, z.c, h.c, ho.c⟩
    · exact ⟨rfl, z.r, h.r, ho.r⟩
    · have hg : RDss w Ag z.m cg z.n z.g := h.g
      obtain ⟨b', off', e, _, hcc⟩ := hg.2.2 (by omega)
      rw [hA] at e
      injection e with e
      injection e with e1 e2
      subst e1 e2
      obtain ⟨A2, c2, e3, hr⟩ := hcc (k - 2) (by omega)
      rw [hc] at e3
      injection e3 with e3
      injection e3 with e4 e5 e6
      subst e4 e5 e6
      exact ⟨rfl, z.g (k - 2), hr, ho.g (k - 2) |> fun f i hi => f i (by omega) hi⟩
  · have hr : RDs w Ar z.n cr z.r := h.r
    subst hA
    rw [hE.uniq (hr.elt hj)]
    exact ho.p j hj
theorem zcheck_good (w : World) (Ac Ag Ar : Option Addr) (cc cg cr : Nat) (z : Zo) (h : RZo w ⟨Ac, cc, Ag, cg, Ar, cr⟩ z) (ho : z.Ok) (hnil : Ag = none → cg = 0) :
    Calls Tryd.prog 27 #[.agg #[.slice Ac z.n cc, .slice Ag z.m cg, .slice Ar z.n cr], .int .i64 z.n] w fun e w' => e = .returned (.int .i64 0) ∧ Below w.heap.size w w' := by
  refine (zcheck_any w Ac Ag Ar z.n cc z.m cg z.n cr z.n (RDs.raw h.c) (RDss.raw h.g) (RDs.raw h.r) hnil (by have := ho.n; omega)).mono ?_
  rintro e w' ⟨⟨r, rfl, hr⟩, hb⟩
  rw [hr.2 (zok_of h ho)]
  exact ⟨rfl, hb⟩
/-- The set that passes. -/
theorem set_of_zok {w : World} {Ac Ag Ar : Option Addr} {nc cc m cg nr cr n : Nat} (h : ZOK Ac Ag Ar nc cc m cg nr cr w n) (hG : RawR w Ag m cg) :
    ∃ z : Zo, nc = z.n ∧ nr = z.n ∧ n = z.n ∧ m = z.m ∧ RZo w ⟨Ac, cc, Ag, cg, Ar, cr⟩ z ∧ z.Ok := by
  obtain ⟨rfl, rfl, h16, hm, hrows, hnn⟩ := h
  obtain ⟨_, fc, hfc, hoc⟩ := hrows 0 Ac nr cc (by omega) (.inl ⟨rfl, rfl, rfl, rfl⟩)
  obtain ⟨_, fr, hfr, hor⟩ := hrows 1 Ar nr cr (by omega) (.inr (.inl ⟨rfl, rfl, rfl, rfl⟩))
  have hg : ∀ k, ∃ g : Nat → D, k < m → ∃ b off A' c', Ag = some ⟨b, off, none⟩ ∧ b < w.heap.size ∧ w.cell? ⟨b, off + k, none⟩ = some (.slice A' nr c') ∧ RDs w A' nr c' g ∧ ∀ i, i < nr → OkD (g i) := fun k => by
    by_cases hk : k < m
    · obtain ⟨b, off, rfl, hb, hc⟩ := hG.2.2 (by omega)
      obtain ⟨A', n', c', e1, hraw⟩ := hc k hk
      obtain ⟨rfl, g, hg, hog⟩ := hrows (k + 2) A' n' c' (by omega) (.inr (.inr ⟨by omega, b, off, rfl, by rw [Nat.add_sub_cancel]; exact e1⟩))
      exact ⟨g, fun _ => ⟨b, off, A', c', rfl, hb, e1, hg, hog⟩⟩
    · exact ⟨fun _ => D.zero, fun e => absurd e hk⟩
  have hG2 : RDss w Ag m cg nr (fun k => Classical.choose (hg k)) := by
    refine ⟨hG.1, by omega, fun h0 => ?_⟩
    obtain ⟨b, off, e, hb, _⟩ := hG.2.2 h0
    refine ⟨b, off, e, hb, fun k hk => ?_⟩
    obtain ⟨b', off', A', c', e', _, e1, h1, _⟩ := Classical.choose_spec (hg k) hk
    rw [e] at e'
    injection e' with e'
    injection e' with e2 e3
    subst e2 e3
    exact ⟨A', c', e1, h1⟩
  refine ⟨⟨nr, fc, m, fun k => Classical.choose (hg k), fr⟩, rfl, rfl, rfl, rfl, ⟨hfc, hG2, hfr⟩, ⟨h16, hm, hoc, fun k i hk hi => ?_, hor, fun i hi => ?_⟩⟩
  · obtain ⟨_, _, _, _, _, _, _, _, ho⟩ := Classical.choose_spec (hg k) hk
    exact ho i hi
  · obtain ⟨b, off, e, _, _⟩ := hfr.2.2 (by show 0 < nr; have : i < nr := hi; omega)
    subst e
    exact hnn i hi b off (fr i) rfl (hfr.elt hi)
end Go.Proofs.YtgioppkggpfnoaaDoor.Nu
end

section
/- Layer 17's small: whatever it says yes to may be, and is of few digits. -/
set_option linter.unusedVariables false
namespace Go.Proofs.YtgioppkggpfnoaaDoor.Nu
open Go.RowKit Go.Proofs

theorem lim_ok {d : D} {E T : Nat} (h : d.Lim E T) (hET : E + T ≤ 16384) : OkD d := ⟨by have := h.1; omega, by have := h.2; omega, Nat.le_trans h.nb hET⟩
theorem dless_is (w : World) (p q : Q) (a b : D) (E T : Nat) (z : Bool) (h : RD w p a) (h2 : RD w q b) (la : a.Lim E T) (lb : b.Lim E T) (hET : E + T ≤ 16000) (hz : decide (a.cmp b < 0) = z) :
    Calls Tryd.prog 29 #[.agg #[.bool p.b, .slice p.A p.n p.c, .int .i64 a.x], .agg #[.bool q.b, .slice q.A q.n q.c, .int .i64 b.x]] w fun e w' => e = .returned (.bool z) ∧ Below w.heap.size w w' := by
  rw [← hz]; exact dless_any w p q a b E T h h2 la lb hET
/-- A row of numbers that may be, each of a size with which this is tried. -/
def SmRow (w : World) (A : Option Addr) (n c : Nat) : Prop := ∃ f : Nat → D, RDs w A n c f ∧ ∀ j, j < n → OkD (f j) ∧ (f j).Lim 60 124
def SmRel (w : World) (A : Option Addr) (i : Nat) (wi : World) : Prop := Below w.heap.size w wi ∧ ∀ j, j < i → ∃ b off d, A = some ⟨b, off, none⟩ ∧ b < w.heap.size ∧ Elt w b off j d ∧ OkD d ∧ d.Lim 60 124
theorem SmRel.row {w wi : World} {A : Option Addr} {n c : Nat} (h : SmRel w A n wi) (hc : n ≤ c) (hn : n ≤ 1000000) : SmRow w A n c := by
  by_cases h0 : n = 0
  · subst h0
    exact ⟨fun _ => D.zero, ⟨Nat.zero_le _, Nat.zero_le _, fun e => absurd e (by omega)⟩, fun j hj => absurd hj (by omega)⟩
  · obtain ⟨b, off, d0, rfl, hb, _⟩ := h.2 0 (by omega)
    have h2 : ∀ j, ∃ d, j < n → Elt w b off j d ∧ OkD d ∧ d.Lim 60 124 := fun j => by
      by_cases hj : j < n
      · obtain ⟨b', off', d, e, _, he, ho, hl⟩ := h.2 j hj
        injection e with e
        injection e with e1 e2
        subst e1 e2
        exact ⟨d, fun _ => ⟨he, ho, hl⟩⟩
      · exact ⟨D.zero, fun e => absurd e hj⟩
    refine ⟨fun j => Classical.choose (h2 j), ⟨hc, hn, fun _ => ⟨b, off, rfl, hb, fun j hj => ?_⟩⟩, fun j hj => ⟨(Classical.choose_spec (h2 j) hj).2.1, (Classical.choose_spec (h2 j) hj).2.2⟩⟩
    obtain ⟨⟨q, ⟨c0, c1, c2⟩, hr⟩, _⟩ := Classical.choose_spec (h2 j) hj
    exact ⟨q, c0, c1, c2, hr⟩
theorem RDs.uniq {w : World} {A : Option Addr} {n c c' : Nat} {f f' : Nat → D} (h : RDs w A n c f) (h' : RDs w A n c' f') {j : Nat} (hj : j < n) : f j = f' j := by
  obtain ⟨b, off, rfl, _⟩ := h.2.2 (by omega)
  exact (h.elt hj).uniq (h'.elt hj)
/-- Two digits at most, and so high at most. -/
theorem sm_lim {w : World} {q : Q} {d : D} (h : RD w q d) (hn : q.n ≤ 2) (h0 : -60 ≤ d.x) (h1 : d.x ≤ 60) : d.Lim 60 124 := by
  have h2 := (digs_len_le (n := d.z.natAbs) (k := q.n)).1 (Nat.le_of_eq h.1.2.2.1)
  have h3 : d.z.natAbs < 2 ^ 64 := Nat.lt_of_lt_of_le h2 (by
    rw [show (4294967296 : Nat) = 2 ^ 32 from rfl, ← Nat.pow_mul]
    exact Nat.pow_le_pow_right (by omega) (by omega))
  have h4 := nb_le.2 h3
  exact ⟨by omega, by omega⟩
theorem sm_of_check {w w0 : World} {b off j : Nat} {q : Q} {xs : List Nat} {x : Int} (a : At3 w b off j q x) (hl2 : RL2 w q.A q.n xs) (h2 : q.n ≤ 2) (hr : RI w0 q.b q.A q.n q.c (zv q.b xs)) (hcan : D.Can ⟨zv q.b xs, x⟩) (h0 : -60 ≤ x) (h1 : x ≤ 60) : ∃ d, Elt w b off j d ∧ OkD d ∧ d.Lim 60 124 := by
  have hl := hl2.2 (by omega)
  have hri := hr.back hl
  have hrd : RD w q ⟨zv q.b xs, x⟩ := ⟨hri, hcan⟩
  have hlim := sm_lim hrd h2 h0 h1
  exact ⟨⟨zv q.b xs, x⟩, ⟨q, a, hrd⟩, lim_ok hlim (by omega), hlim⟩
end Go.Proofs.YtgioppkggpfnoaaDoor.Nu
end

section
/- Layer 17's fit: whatever set it says yes to may be, is of few places and ways, and of numbers of few digits. -/
set_option linter.unusedVariables false
namespace Go.Proofs.YtgioppkggpfnoaaDoor.Nu
open Go.RowKit Go.Proofs

theorem RawD.below {w w' : World} {A : Option Addr} {n c : Nat} (h : RawD w A n c) (hb : Below w.heap.size w w') : RawD w' A n c := by
  refine ⟨h.1, h.2.1, fun h0 => ?_⟩
  obtain ⟨b, off, e, hlt, hc⟩ := h.2.2 h0
  refine ⟨b, off, e, Nat.lt_of_lt_of_le hlt hb.size, fun j hj => ?_⟩
  obtain ⟨q, xs, x, ⟨c0, c1, c2⟩, hr, hq⟩ := hc j hj
  exact ⟨q, xs, x, ⟨(hb.cell (p := ⟨b, _, none⟩) hlt).trans c0, (hb.cell (p := ⟨b, _, none⟩) hlt).trans c1, (hb.cell (p := ⟨b, _, none⟩) hlt).trans c2⟩, hr.below hb, hq⟩
theorem RawR.below {w w' : World} {A : Option Addr} {m c : Nat} (h : RawR w A m c) (hb : Below w.heap.size w w') : RawR w' A m c := by
  refine ⟨h.1, h.2.1, fun h0 => ?_⟩
  obtain ⟨b, off, e, hlt, hc⟩ := h.2.2 h0
  refine ⟨b, off, e, Nat.lt_of_lt_of_le hlt hb.size, fun k hk => ?_⟩
  obtain ⟨A', n', c', e1, hr⟩ := hc k hk
  exact ⟨A', n', c', (hb.cell (p := ⟨b, _, none⟩) hlt).trans e1, hr.below hb⟩
theorem SmRow.below {w w' : World} {A : Option Addr} {n c : Nat} (h : SmRow w A n c) (hb : Below w.heap.size w w') : SmRow w' A n c := by
  obtain ⟨f, hf, h2⟩ := h
  exact ⟨f, hf.below hb, h2⟩
/-- What is said yes to. -/
def Fits (w : World) (Ac Ag Ar : Option Addr) (nc cc m cg nr cr n : Nat) : Prop :=
  ∃ z : Zo, nc = z.n ∧ nr = z.n ∧ n = z.n ∧ m = z.m ∧ RZo w ⟨Ac, cc, Ag, cg, Ar, cr⟩ z ∧ z.Ok ∧ z.Lim 60 124 ∧ 1 ≤ n ∧ n ≤ 4 ∧ m ≤ 7
theorem Fits.below {w w' : World} {Ac Ag Ar : Option Addr} {nc cc m cg nr cr n : Nat} (h : Fits w Ac Ag Ar nc cc m cg nr cr n) (hb : Below w.heap.size w w') : Fits w' Ac Ag Ar nc cc m cg nr cr n := by
  obtain ⟨z, h1, h2, h3, h4, h5, h6⟩ := h
  exact ⟨z, h1, h2, h3, h4, h5.below hb, h6⟩
theorem sm_uniq {w : World} {A : Option Addr} {n c c' : Nat} {f : Nat → D} (h : SmRow w A n c) (h' : RDs w A n c' f) (j : Nat) (hj : j < n) : (f j).Lim 60 124 := by
  obtain ⟨f', hf, h2⟩ := h
  rw [← hf.uniq h' hj]
  exact (h2 j hj).2
theorem fits_of {w w0 wr : World} {Ac Ag Ar : Option Addr} {nc cc m cg nr cr n : Nat} (hw : Below w.heap.size w wr) (h0 : Below w0.heap.size w0 wr) (hG : RawR w Ag m cg) (hG0 : RawR w0 Ag m cg) (hz : ZOK Ac Ag Ar nc cc m cg nr cr w0 n)
    (hs : ∀ k', k' < 2 + m → ∀ A' n' c', Rk w Ac Ag Ar nc cc m cg nr cr k' A' n' c' → SmRow wr A' n' c') (h1 : 1 ≤ n) (h4 : n ≤ 4) (h5 : m ≤ 7) : Fits wr Ac Ag Ar nc cc m cg nr cr n := by
  obtain ⟨z, e1, e2, e3, e4, hr, ho⟩ := set_of_zok hz hG0
  have hrr := hr.below h0
  refine ⟨z, e1, e2, e3, e4, hrr, ho, ⟨fun i hi => ?_, fun k i hk hi => ?_, fun i hi => ?_⟩, h1, h4, h5⟩
  · exact sm_uniq (hs 0 (by omega) Ac nc cc (.inl ⟨rfl, rfl, rfl, rfl⟩)) (by rw [e1]; exact hrr.c) i (by omega)
  · obtain ⟨b, off, rfl, hb, hc⟩ := hG.2.2 (by omega)
    obtain ⟨A', n', c', h2, _⟩ := hc k (by omega)
    have hg : RDss wr (some ⟨b, off, none⟩) z.m cg z.n z.g := hrr.g
    obtain ⟨b', off', e, _, hcc⟩ := hg.2.2 (by omega)
    injection e with e
    injection e with e5 e6
    subst e5 e6
    obtain ⟨A2, c2, h3, hrow⟩ := hcc k hk
    rw [(hw.cell (p := ⟨b, _, none⟩) hb).trans h2] at h3
    injection h3 with h3
    injection h3 with e7 e8 e9
    subst e7 e9
    rw [← e8] at hrow
    exact sm_uniq (hs (k + 2) (by omega) A' n' c' (.inr (.inr ⟨by omega, b, off, rfl, by rw [Nat.add_sub_cancel]; exact h2⟩))) hrow i (by omega)
  · exact sm_uniq (hs 1 (by omega) Ar nr cr (.inr (.inl ⟨rfl, rfl, rfl, rfl⟩))) (by rw [e2]; exact hrr.r) i (by omega)
end Go.Proofs.YtgioppkggpfnoaaDoor.Nu
end
