/- Texts of the seat, laid together: OwnP, Corner, Between. -/
import Derived.Test.YtgioppkggpfnoaaDoorJn7
import Derived.Maps.AppendAt
import Derived.Laws.OwnMore
import Derived.RegionTactic
import Derived.StillTailTactics
import Derived.Deep.RegionHeld3
import Derived.Deep.DeepCutAuto
import Derived.Deep.CutBlock
set_option linter.all false
set_option exponentiation.threshold 20000
section
/- Rows of dyads that lie at the head of a bigger block; rows of cells, whatever they are. -/
set_option linter.unusedVariables false
namespace Go.Proofs.YtgioppkggpfnoaaDoor.Nu
open Go.RowKit Go.Proofs

/-- What stands in element j of a row of dyads. -/
def inD (w : World) (cur : Array Value) (j : Nat) (d : D) : Prop := ∃ q : Q, cur[j * 3]? = some (.bool q.b) ∧ cur[j * 3 + 1]? = some (.slice q.A q.n q.c) ∧ cur[j * 3 + 2]? = some (.int .i64 d.x) ∧ RD w q d
/-- A row of n dyads at the head of a block. -/
def OP (w : World) (g n : Nat) (f : Nat → D) : Prop := ∃ cur : Array Value, Bk w g 53 cur ∧ ∀ j, j < n → inD w cur j (f j)
theorem inD.dk {w w' : World} {cur : Array Value} {j : Nat} {d : D} (h : inD w cur j d) (k : Dk w w') : inD w' cur j d := by
  obtain ⟨q, a, b, c, hr⟩ := h
  exact ⟨q, a, b, c, hr.dk k⟩
theorem OP.lt {w : World} {g n : Nat} {f : Nat → D} (h : OP w g n f) : g < w.heap.size := by obtain ⟨e, hb, _⟩ := h; exact hb.lt
theorem OP.keep {w w' : World} {g n : Nat} {f : Nat → D} (h : OP w g n f) (hg : w'.heap[g]? = w.heap[g]?) (k : Dk w w') : OP w' g n f := by
  obtain ⟨e, hb, hj⟩ := h
  exact ⟨e, hg.trans hb, fun j h => (hj j h).dk k⟩
theorem OP.below {w w' : World} {g n : Nat} {f : Nat → D} (h : OP w g n f) (hb : Below w.heap.size w w') : OP w' g n f := h.keep (hb.block g h.lt) (.below hb)
theorem OP.congr {w : World} {g n : Nat} {f f' : Nat → D} (h : OP w g n f) (e : ∀ j, j < n → f j = f' j) : OP w g n f' := by
  obtain ⟨e1, hb, hj⟩ := h
  exact ⟨e1, hb, fun j h => by rw [← e j h]; exact hj j h⟩
theorem OP.read {w : World} {g n : Nat} {f : Nat → D} (h : OP w g n f) {c : Nat} (hc : n ≤ c) (hn : n ≤ 1000000) : RDs w (some ⟨g, 0, none⟩) n c f := by
  have hl := h.lt
  obtain ⟨e, hb, hj⟩ := h
  refine ⟨hc, hn, fun _ => ⟨g, 0, rfl, hl, fun j h => ?_⟩⟩
  obtain ⟨q, a, b, c, hr⟩ := hj j h
  rw [Nat.zero_add]
  exact ⟨q, hb.cell _ a, hb.cell _ b, hb.cell _ c, hr⟩
theorem OP.there {w : World} {g n : Nat} {f : Nat → D} (h : OP w g n f) {i : Nat} (hi : i < n) : (∃ v, w.cell? ⟨g, i * 3, none⟩ = some v) ∧ (∃ v, w.cell? ⟨g, i * 3 + 1, none⟩ = some v) ∧ (∃ v, w.cell? ⟨g, i * 3 + 2, none⟩ = some v) ∧ w.frozen? ⟨g, i * 3, none⟩ = false ∧ w.frozen? ⟨g, i * 3 + 1, none⟩ = false ∧ w.frozen? ⟨g, i * 3 + 2, none⟩ = false := by
  obtain ⟨e, hb, hj⟩ := h
  obtain ⟨q, a, b, c, hr⟩ := hj i hi
  exact ⟨⟨_, hb.cell _ a⟩, ⟨_, hb.cell _ b⟩, ⟨_, hb.cell _ c⟩, hb.free _, hb.free _, hb.free _⟩
/-- What is read there. -/
theorem OP.get {w : World} {g n : Nat} {f : Nat → D} (h : OP w g n f) {i : Nat} (hi : i < n) : ∃ q : Q, w.cell? ⟨g, i * 3, none⟩ = some (.bool q.b) ∧ w.cell? ⟨g, i * 3 + 1, none⟩ = some (.slice q.A q.n q.c) ∧ w.cell? ⟨g, i * 3 + 2, none⟩ = some (.int .i64 (f i).x) ∧ RD w q (f i) := by
  obtain ⟨e, hb, hj⟩ := h
  obtain ⟨q, a, b, c, hr⟩ := hj i hi
  exact ⟨q, hb.cell _ a, hb.cell _ b, hb.cell _ c, hr⟩
theorem set_ne (cur : Array Value) {a b : Nat} (v : Value) (h : b ≠ a) : (cur.setIfInBounds a v)[b]? = cur[b]? := by
  rw [Array.getElem?_setIfInBounds, if_neg (fun e => h e.symm)]
theorem set_eq (cur : Array Value) {a : Nat} {u : Value} (v : Value) (h : cur[a]? = some u) : (cur.setIfInBounds a v)[a]? = some v := by
  rw [Array.getElem?_setIfInBounds, if_pos rfl, if_pos (Array.getElem?_eq_some_iff.1 h).1]
/-- Element i written. -/
theorem OP.put {w : World} {g n : Nat} {f : Nat → D} (h : OP w g n f) {i : Nat} (hi : i < n) (q : Q) (d : D) (hr : RD w q d) :
    OP (put3 w g i (.bool q.b) (.slice q.A q.n q.c) (.int .i64 d.x)) g n (fun j => if j = i then d else f j) ∧ Dk w (put3 w g i (.bool q.b) (.slice q.A q.n q.c) (.int .i64 d.x)) := by
  obtain ⟨cur, hb, hj⟩ := h
  obtain ⟨q0, a, b, c, _⟩ := hj i hi
  have b1 := hb.set (i * 3) (.bool q.b)
  have b2 := b1.set (i * 3 + 1) (.slice q.A q.n q.c)
  have b3 := b2.set (i * 3 + 2) (.int .i64 d.x)
  have s1 : (cur.setIfInBounds (i * 3) (.bool q.b))[i * 3 + 1]? = some (.slice q0.A q0.n q0.c) := by rw [set_ne _ _ (by omega), b]
  have s2 : ((cur.setIfInBounds (i * 3) (.bool q.b)).setIfInBounds (i * 3 + 1) (.slice q.A q.n q.c))[i * 3 + 2]? = some (.int .i64 (f i).x) := by rw [set_ne _ _ (by omega), set_ne _ _ (by omega), c]
  have k : Dk w (put3 w g i (.bool q.b) (.slice q.A q.n q.c) (.int .i64 d.x)) := by
    have k1 := (Dk.refl w).set hb (i * 3) (by rw [a]; intro v h; cases h) (.bool q.b)
    have k2 := k1.set b1 (i * 3 + 1) (by rw [s1]; intro v h; cases h) (.slice q.A q.n q.c)
    exact k2.set b2 (i * 3 + 2) (by rw [s2]; intro v h; cases h) (.int .i64 d.x)
  refine ⟨⟨_, b3, fun j hjn => ?_⟩, k⟩
  show inD _ _ j (if j = i then d else f j)
  by_cases hij : j = i
  · subst hij
    rw [if_pos rfl]
    refine ⟨q, ?_, ?_, ?_, hr.dk k⟩
    · rw [set_ne _ _ (by omega), set_ne _ _ (by omega), set_eq _ _ a]
    · rw [set_ne _ _ (by omega), set_eq _ _ s1]
    · rw [set_eq _ _ s2]
  · rw [if_neg hij]
    obtain ⟨q1, a1, b1, c1, r1⟩ := hj j hjn
    refine ⟨q1, ?_, ?_, ?_, r1.dk k⟩
    · rw [set_ne _ _ (by omega), set_ne _ _ (by omega), set_ne _ _ (by omega), a1]
    · rw [set_ne _ _ (by omega), set_ne _ _ (by omega), set_ne _ _ (by omega), b1]
    · rw [set_ne _ _ (by omega), set_ne _ _ (by omega), set_ne _ _ (by omega), c1]
theorem OP.al {w : World} {g n : Nat} {f : Nat → D} (h : OP w g n f) (o : Obj) : OP (w.alloc o) g n f := h.keep (sameA w h.lt o) ((Dk.refl w).alloc o)
theorem OP.dr {w : World} {g n : Nat} {f : Nat → D} (h : OP w g n f) : OP w.drew g n f := h.keep rfl ((Dk.refl w).drew)
theorem OP.st {w : World} {g n : Nat} {f : Nat → D} (h : OP w g n f) {g' : Nat} {t : TypeId} {cs : Array Value} (B : Bk w g' t cs) (hg : g ≠ g') (j : Nat) (hj : ∀ v, cs[j]? ≠ some (.int .u32 v)) (u : Value) : OP (w.setCell ⟨g', j, none⟩ u) g n f := h.keep (same1 w hg j u) ((Dk.refl w).set B j hj u)
theorem OP.rp3 {w : World} {g n : Nat} {f : Nat → D} (h : OP w g n f) {g' : Nat} (hg : g ≠ g') (i : Nat) (v0 v1 v2 : Value) (k : Dk w (put3 w g' i v0 v1 v2)) : OP (put3 w g' i v0 v1 v2) g n f := h.keep (same3 w hg i v0 v1 v2) k
theorem OP.rp6 {w : World} {g n : Nat} {f : Nat → D} (h : OP w g n f) {g' : Nat} (hg : g ≠ g') (i : Nat) (v0 v1 v2 v3 v4 v5 : Value) (k : Dk w (put6 w g' i v0 v1 v2 v3 v4 v5)) : OP (put6 w g' i v0 v1 v2 v3 v4 v5) g n f := h.keep (same6 w hg i v0 v1 v2 v3 v4 v5) k
/-- A row of the call's own, put together by appends. -/
theorem OP.own {w : World} {base n : Nat} {g cap : Nat} {xs : List Value} {f : Nat → D} (ho : w.ownsRow base 53 3 (.slice (some ⟨g, 0, none⟩) n cap) n xs) (hj : ∀ j, j < n → inD w xs.toArray j (f j)) : OP w g n f ∧ n ≤ cap := by
  rcases ho.2 with ⟨h, _⟩ | ⟨g', cap', cur, he, _, hg, hnc, _, _, hx⟩
  · cases h
  · cases he
    refine ⟨⟨cur, hg, fun j hjn => ?_⟩, hnc⟩
    obtain ⟨q, a, b, c, hr⟩ := hj j hjn
    have hk : ∀ k u, xs[k]? = some u → cur[k]? = some u := fun k u hu => by
      rw [← hx, List.getElem?_take] at hu
      split at hu
      · simpa using hu
      · cases hu
    exact ⟨q, hk _ _ (by simpa using a), hk _ _ (by simpa using b), hk _ _ (by simpa using c), hr⟩

/-! ### Rows of cells -/
/-- A row of n elements of m cells at the head of a block: cell c of element j is 'e j c'. -/
def CR (w : World) (g : Nat) (t : TypeId) (m n : Nat) (e : Nat → Nat → Value) : Prop := ∃ cur : Array Value, Bk w g t cur ∧ ∀ j c, j < n → c < m → cur[j * m + c]? = some (e j c)
theorem CR.lt {w : World} {g m n : Nat} {t : TypeId} {e : Nat → Nat → Value} (h : CR w g t m n e) : g < w.heap.size := by obtain ⟨_, hb, _⟩ := h; exact hb.lt
theorem CR.keep {w w' : World} {g m n : Nat} {t : TypeId} {e : Nat → Nat → Value} (h : CR w g t m n e) (hg : w'.heap[g]? = w.heap[g]?) : CR w' g t m n e := by
  obtain ⟨cur, hb, hj⟩ := h
  exact ⟨cur, hg.trans hb, hj⟩
theorem CR.below {w w' : World} {g m n : Nat} {t : TypeId} {e : Nat → Nat → Value} (h : CR w g t m n e) (hb : Below w.heap.size w w') : CR w' g t m n e := h.keep (hb.block g h.lt)
theorem CR.al {w : World} {g m n : Nat} {t : TypeId} {e : Nat → Nat → Value} (h : CR w g t m n e) (o : Obj) : CR (w.alloc o) g t m n e := h.keep (sameA w h.lt o)
theorem CR.dr {w : World} {g m n : Nat} {t : TypeId} {e : Nat → Nat → Value} (h : CR w g t m n e) : CR w.drew g t m n e := h.keep rfl
theorem CR.st {w : World} {g m n : Nat} {t : TypeId} {e : Nat → Nat → Value} (h : CR w g t m n e) {g' : Nat} (hg : g ≠ g') (j : Nat) (u : Value) : CR (w.setCell ⟨g', j, none⟩ u) g t m n e := h.keep (same1 w hg j u)
theorem CR.cell {w : World} {g m n : Nat} {t : TypeId} {e : Nat → Nat → Value} (h : CR w g t m n e) {i c : Nat} (hi : i < n) (hc : c < m) : w.cell? ⟨g, i * m + c, none⟩ = some (e i c) := by
  obtain ⟨cur, hb, hj⟩ := h
  exact hb.cell _ (hj i c hi hc)
theorem CR.free {w : World} {g m n : Nat} {t : TypeId} {e : Nat → Nat → Value} (h : CR w g t m n e) (k : Nat) : w.frozen? ⟨g, k, none⟩ = false := by
  obtain ⟨cur, hb, hj⟩ := h
  exact hb.free k
theorem CR.congr {w : World} {g m n : Nat} {t : TypeId} {e e' : Nat → Nat → Value} (h : CR w g t m n e) (he : ∀ j c, j < n → c < m → e j c = e' j c) : CR w g t m n e' := by
  obtain ⟨cur, hb, hj⟩ := h
  exact ⟨cur, hb, fun j c h1 h2 => by rw [← he j c h1 h2]; exact hj j c h1 h2⟩
theorem cell_place {m i c j d : Nat} (hc : c < m) (hd : d < m) (h : i * m + c = j * m + d) : i = j ∧ c = d := by
  have hm : 0 < m := by omega
  have h1 : (i * m + c) / m = i := by rw [Nat.mul_comm, Nat.mul_add_div hm, Nat.div_eq_of_lt hc, Nat.add_zero]
  have h2 : (j * m + d) / m = j := by rw [Nat.mul_comm, Nat.mul_add_div hm, Nat.div_eq_of_lt hd, Nat.add_zero]
  have e : i = j := by rw [← h1, h, h2]
  exact ⟨e, by subst e; omega⟩
/-- One cell written. -/
theorem CR.set {w : World} {g m n : Nat} {t : TypeId} {e : Nat → Nat → Value} (h : CR w g t m n e) {i c : Nat} (hi : i < n) (hc : c < m) (v : Value) : CR (w.setCell ⟨g, i * m + c, none⟩ v) g t m n (fun j d => if j = i ∧ d = c then v else e j d) := by
  obtain ⟨cur, hb, hj⟩ := h
  refine ⟨_, hb.set (i * m + c) v, fun j d h1 h2 => ?_⟩
  show _ = some (if j = i ∧ d = c then v else e j d)
  by_cases hp : j = i ∧ d = c
  · obtain ⟨rfl, rfl⟩ := hp
    rw [if_pos ⟨rfl, rfl⟩, set_eq _ _ (hj j d hi hc)]
  · rw [if_neg hp, set_ne _ _ (fun he => hp (cell_place h2 hc he)), hj j d h1 h2]
theorem CR.dk {w : World} {g m n : Nat} {t : TypeId} {e : Nat → Nat → Value} (h : CR w g t m n e) {i c : Nat} (hi : i < n) (hc : c < m) (hu : ∀ v, e i c ≠ .int .u32 v) (v : Value) : Dk w (w.setCell ⟨g, i * m + c, none⟩ v) := by
  obtain ⟨cur, hb, hj⟩ := h
  exact (Dk.refl w).set hb (i * m + c) (by rw [hj i c hi hc]; intro v h; exact hu v (Option.some.inj h)) v
theorem CR.own {w : World} {base n m : Nat} {t : TypeId} {g cap : Nat} {xs : List Value} {e : Nat → Nat → Value} (ho : w.ownsRow base t m (.slice (some ⟨g, 0, none⟩) n cap) n xs) (hj : ∀ j c, j < n → c < m → xs[j * m + c]? = some (e j c)) : CR w g t m n e ∧ n ≤ cap := by
  rcases ho.2 with ⟨h, _⟩ | ⟨g', cap', cur, he, _, hg, hnc, _, _, hx⟩
  · cases h
  · cases he
    refine ⟨⟨cur, hg, fun j c h1 h2 => ?_⟩, hnc⟩
    have hu := hj j c h1 h2
    rw [← hx, List.getElem?_take] at hu
    split at hu
    · simpa using hu
    · cases hu
end Go.Proofs.YtgioppkggpfnoaaDoor.Nu
end

section
/- The walk of layer 18's corner. -/
set_option linter.unusedVariables false
namespace Go.Proofs.YtgioppkggpfnoaaDoor.Nu
open Go.RowKit Go.Proofs

/-- Does a set's k-th way go the other way round? -/
def sgB (pt : Int) (k : Nat) : Bool := (bits .and .i64 (pt / 2 ^ k) 1 == 1)
/-- Row k of ways added, as far as place i. -/
def cornM (z : Zo) (σ : Nat → Bool) (k i : Nat) : Nat → D := fun j => if j < i then cornF z σ (k + 1) j else cornF z σ k j
theorem cornM_self (z : Zo) (σ : Nat → Bool) (k i : Nat) : cornM z σ k i i = cornF z σ k i := if_neg (Nat.lt_irrefl _)
theorem cornM_zero (z : Zo) (σ : Nat → Bool) (k j : Nat) : cornM z σ k 0 j = cornF z σ k j := if_neg (Nat.not_lt_zero _)
theorem corn_next (z : Zo) (σ : Nat → Bool) (k i j : Nat) {x : D} (hx : (if σ k then (z.g k i).neg else z.g k i) = x) : (if j = i then (cornF z σ k i).add x else cornM z σ k i j) = cornM z σ k (i + 1) j := by
  subst hx
  unfold cornM
  by_cases h : j = i
  · subst h; rw [if_pos rfl, if_pos (Nat.lt_succ_self _)]; rfl
  · rw [if_neg h]
    by_cases h2 : j < i
    · rw [if_pos h2, if_pos (by omega)]
    · rw [if_neg h2, if_neg (by omega)]
theorem and31 : ∀ k : Nat, k < 32 → bits .and .i64 (k : Int) 31 = (k : Int) := by decide
def CornRel (z : Zo) (pt : Int) (W : World) (g : Nat) (t : TypeId) (cs : Array Value) (k : Nat) (w : World) : Prop := OP w g z.n (cornF z (sgB pt) k) ∧ Bk w W.heap.size t cs ∧ Below W.heap.size W w
def CornIn (z : Zo) (pt : Int) (W : World) (g : Nat) (t : TypeId) (cs : Array Value) (k i : Nat) (w : World) : Prop := OP w g z.n (cornM z (sgB pt) k i) ∧ Bk w W.heap.size t cs ∧ Below W.heap.size W w
theorem own_none (w : World) : (w.alloc (.cells #[] 53)).ownsRow w.heap.size 53 3 (.slice (some ⟨w.heap.size, 0, none⟩) 0 0) 0 [] := World.ownsRow_made w #[] 0 (Nat.le_refl _) (by unfold maxLen; omega) rfl
/-- A row that came in, as a list of its cells. -/
theorem dy_news {w : World} {A : Option Addr} {n c : Nat} {f : Nat → D} (h : RDs w A n c f) (h0 : 0 < n) : ∃ (b off : Nat) (news : List Value), A = some ⟨b, off, none⟩ ∧ news.length = n * 3 ∧ b < w.heap.size ∧
    (∀ (k : Nat) u, news[k]? = some u → w.cell? ⟨b, off + k, none⟩ = some u) ∧ (∀ u ∈ news, u.oneCell' = true) ∧ ∀ j, j < n → inD w news.toArray j (f j) := by
  obtain ⟨b, off, hA, hlt, hc⟩ := h.2.2 h0
  have key : ∀ k, k < n * 3 → ∃ u, w.cell? ⟨b, off + k, none⟩ = some u ∧ u.oneCell' = true := fun k hk => by
    obtain ⟨q, c0, c1, c2, _⟩ := hc (k / 3) (by omega)
    have hm : k % 3 = 0 ∨ k % 3 = 1 ∨ k % 3 = 2 := by omega
    rcases hm with e | e | e
    · exact ⟨_, by rw [show off + k = off + k / 3 * 3 by omega]; exact c0, rfl⟩
    · exact ⟨_, by rw [show off + k = off + k / 3 * 3 + 1 by omega]; exact c1, rfl⟩
    · exact ⟨_, by rw [show off + k = off + k / 3 * 3 + 2 by omega]; exact c2, rfl⟩
  have get : ∀ k, k < n * 3 → ∀ u, w.cell? ⟨b, off + k, none⟩ = some u → ((List.range (n * 3)).map fun k => (w.cell? ⟨b, off + k, none⟩).getD (.bool false))[k]? = some u := fun k hk u hu => by
    simp [hk, hu]
  refine ⟨b, off, (List.range (n * 3)).map fun k => (w.cell? ⟨b, off + k, none⟩).getD (.bool false), hA, by simp, hlt, fun k u hu => ?_, fun u hu => ?_, fun j hj => ?_⟩
  · have hk : k < n * 3 := by have := (List.getElem?_eq_some_iff.1 hu).1; simpa using this
    obtain ⟨v, hv, _⟩ := key k hk
    rw [get k hk v hv] at hu
    rw [hv, ← hu]
  · obtain ⟨k, hk, rfl⟩ := List.mem_map.1 hu
    obtain ⟨v, hv, h1⟩ := key k (List.mem_range.1 hk)
    rw [hv]; exact h1
  · obtain ⟨q, c0, c1, c2, hr⟩ := hc j hj
    refine ⟨q, ?_, ?_, ?_, hr⟩
    · have := get (j * 3) (by omega) _ c0; simpa using this
    · have := get (j * 3 + 1) (by omega) _ (by rw [show off + (j * 3 + 1) = off + j * 3 + 1 by omega]; exact c1); simpa using this
    · have := get (j * 3 + 2) (by omega) _ (by rw [show off + (j * 3 + 2) = off + j * 3 + 2 by omega]; exact c2); simpa using this
theorem inD.below {w w' : World} {cur : Array Value} {j : Nat} {d : D} (h : inD w cur j d) (hb : Below w.heap.size w w') : inD w' cur j d := h.dk (.below hb)
/-- Laid in a row of the call's own. -/
theorem corn_start {w w0 w2 : World} {n : Nat} {f : Nat → D} {news : List Value} {v' : Value} (hn : 0 < n) (hb0 : Below w.heap.size w w0) (hni : ∀ j, j < n → inD w news.toArray j (f j))
    (hown : w2.ownsRow w0.heap.size 53 3 v' n news) (hgr : (w0.alloc (.cells #[] 53)).grownBy w2 (Value.ownBlock (.slice (some ⟨w0.heap.size, 0, none⟩) 0 0))) :
    ∃ g cap, v' = .slice (some ⟨g, 0, none⟩) n cap ∧ n ≤ cap ∧ w0.heap.size ≤ g ∧ OP w2 g n f ∧ Below w0.heap.size w0 w2 := by
  have hb : Below w0.heap.size w0 w2 := ((Below.refl w0.heap.size w0).alloc (Nat.le_refl _) _).grown hgr (by rw [World.size_alloc]; exact Nat.le_succ _) (fun k hk => by
    have : some w0.heap.size = some k := hk
    injection this with h
    omega)
  rcases hown.2 with ⟨_, e⟩ | ⟨g, cap, cur, rfl, hg, _⟩
  · omega
  · obtain ⟨h1, h2⟩ := OP.own hown (f := f) (fun j hj => ((hni j hj).below hb0).below hb)
    exact ⟨g, cap, rfl, h2, hg, h1, hb⟩

set_option maxRecDepth 100000 in
set_option maxHeartbeats 4000000 in
theorem corner_any (w : World) (Ac Ag Ar : Option Addr) (cc cg cr : Nat) (z : Zo) (pt : Int) (E T : Nat) (h : RZo w ⟨Ac, cc, Ag, cg, Ar, cr⟩ z) (lz : z.Lim E T) (hn : 0 < z.n) (hm : z.m ≤ 31) (hET : E + T + z.m + 1 ≤ 16000) (ht : BTab w) :
    Calls Tryd.prog 50 #[.agg #[.slice Ac z.n cc, .slice Ag z.m cg, .slice Ar z.n cr], .int .i64 pt] w fun e w' => (∃ A' c', e = .returned (.slice A' z.n c') ∧ RDs w' A' z.n c' (cornF z (sgB pt) z.m)) ∧ Below w.heap.size w w' := by
  have HZ := Lib.hid h
  have LZ := Lib.hid lz
  have HT := Lib.hid ht
  have HGG := Lib.hid (show RDss w Ag z.m cg z.n z.g from h.g)
  have n6 := h.c.2.1
  obtain ⟨cb, co, news, rfl, hnl, hnb, hnw, hn1, hni⟩ := dy_news h.c hn
  have HNL := Lib.hid hnl
  have HNW := Lib.hid hnw
  have HN1 := Lib.hid hn1
  have HNI := Lib.hid hni
  clear h lz ht hnl hnw hn1 hni
  have BX := Lib.hid (boxes1 w 42 #[.slice (some ⟨cb, co, none⟩) z.n cc, .slice Ag z.m cg, .slice Ar z.n cr])
  go_enter Tryd.func50, Tryd.ntmps50
  go_upto_region 1 with (fail)
  generalize w.alloc (.cells #[.slice (some ⟨cb, co, none⟩) z.n cc, .slice Ag z.m cg, .slice Ar z.n cr] 42) = w0 at *
  obtain ⟨b0, hw⟩ := BX.out
  have Bz_0 := Lib.hid b0
  have HB_0 := Lib.hid hw
  have K := Dk.below (hw.mono (Nat.le_refl _))
  clear BX hw b0
  clear K
  have lz := Bz_0.out.lt
  obtain ⟨cz0, cz1, cz2⟩ := Bz_0.out.cells3
  obtain ⟨i0, hi0, hz0, hz1, hz2⟩ := info_parts infoD
  have HOW := Lib.hid (own_none w0)
  go_wp2_with (at_builtin; refine wpList_append_own_at _ rfl _ _ 39 rfl w0.heap.size 53 i0 (.agg #[.bool false, .slice none 0 0, .int .i64 0]) 3 40 Tryd.underlying39 hi0 hz0 hz1 hz2 rfl (by decide) (.slice (some ⟨w0.heap.size, 0, none⟩) 0 0) 0 [] rfl HOW.out ⟨cb, co, none⟩ z.n cc news rfl ?n1 ?n2 ?n3 ?n4 ?n5 ?n6 ?_)
  case n1 => exact HNL.out
  case n2 => intro j u hj; rw [Addr.add_lit]; exact Lib.cell?_alloc_some _ ((HB_0.out.cell (p := ⟨cb, co + j, none⟩) hnb).trans (HNW.out j u hj))
  case n3 => exact HN1.out
  case n4 => unfold maxLen; omega
  case n5 => omega
  case n6 => rw [World.size_alloc]; exact Nat.le_succ _
  intro v' w2 hown hgr hnn hob
  obtain ⟨g, cap, rfl, hcap, hg0, hop, hbb⟩ := corn_start hn HB_0.out HNI.out hown hgr
  have HB2 := Lib.hid (below_tr HB_0.out hbb)
  have gz : w.heap.size < g := by have := Bz_0.out.lt; omega
  have BZ2 := Lib.hid (Bz_0.out.below hbb)
  have H0 := Lib.hid (show CornRel z pt w g 42 #[.slice (some ⟨cb, co, none⟩) z.n cc, .slice Ag z.m cg, .slice Ar z.n cr] 0 w2 from ⟨hop, BZ2.out, HB2.out⟩)
  clear lz cz0 cz1 cz2
  clear hown hgr hnn hob hop hbb HB2 BZ2 HB_0 Bz_0 HOW
  have cz1 : w2.cell? ⟨w.heap.size, 1, none⟩ = some (.slice Ag z.m cg) := H0.out.2.1.cell 1 rfl
  go_wp2_with fail
  clear cz1
  go_loopw [17] (fun k wr => ∃ i : Nat, k = .int .i64 i ∧ i ≤ z.m ∧ Hid (CornRel z pt w g 42 #[.slice (some ⟨cb, co, none⟩) z.n cc, .slice Ag z.m cg, .slice Ar z.n cr] i wr)) (fun k _ => z.m - (intOf k).toNat)
  case atStart => exact ⟨0, rfl, Nat.zero_le _, H0⟩
  case round =>
    clear H0
    obtain ⟨k, rfl, hk, Hr⟩ := hrel
    by_cases hk2 : k < z.m
    · have q3 : (k : Int) < (z.m : Int) := by omega
      obtain ⟨G1, o1, rfl, hl1, hcc⟩ := HGG.out.2.2 (by omega)
      obtain ⟨A2, c2, z0, hrow⟩ := hcc k hk2
      have X0 := Lib.hid z0
      have RO := Lib.hid hrow
      clear z0 hcc hrow
      have x0 : wr.cell? ⟨G1, o1 + k, none⟩ = some (.slice A2 z.n c2) := (Hr.out.2.2.cell (p := ⟨G1, o1 + k, none⟩) hl1).trans X0.out
      have H1 := Lib.hid (show CornIn z pt w g 42 #[.slice (some ⟨cb, co, none⟩) z.n cc, .slice (some ⟨G1, o1, none⟩) z.m cg, .slice Ar z.n cr] k 0 wr from ⟨Hr.out.1.congr fun j _ => (cornM_zero z _ k j).symm, Hr.out.2.1, Hr.out.2.2⟩)
      go_wp2_with fail
      clear x0
      go_loopw [24] (fun j wr => ∃ i : Nat, j = .int .i64 i ∧ i ≤ z.n ∧ Hid (CornIn z pt w g 42 #[.slice (some ⟨cb, co, none⟩) z.n cc, .slice (some ⟨G1, o1, none⟩) z.m cg, .slice Ar z.n cr] k i wr)) (fun j _ => z.n - (intOf j).toNat)
      case atStart => exact ⟨0, rfl, Nat.zero_le _, H1⟩
      case round =>
        clear H1
        obtain ⟨i, rfl, hi, Hi⟩ := hrel
        by_cases hi2 : i < z.n
        · have q4 : (i : Int) < (z.n : Int) := by omega
          obtain ⟨ho, hz, hbel⟩ := Hi.out
          have BZI := Lib.hid hz
          have OX := Lib.hid ho
          have HBI := Lib.hid hbel
          obtain ⟨A3, o3, rfl, hl3, hc3⟩ := RO.out.2.2 (by omega)
          obtain ⟨q, y0, y1, y2, hq⟩ := hc3 i hi2
          have X0 := Lib.hid y0
          have X1 := Lib.hid y1
          have X2 := Lib.hid y2
          have RQ := Lib.hid (hq.below HBI.out)
          have La := Lib.hid (corn_lim LZ.out (sgB pt) k i hk hi2)
          have Lg := Lib.hid ((LZ.out.g k i hk2 hi2).mono (Nat.le_refl _) (show T ≤ T + k by omega))
          have nb0 : nb (z.g k i).z.natAbs ≤ 16384 := by have := Lg.out.nb; omega
          have a31 := and31 k (by omega)
          clear ho hz hbel hc3 y0 y1 y2 hq Hi
          by_cases hs : sgB pt k = true
          · have hs1 : (bits .and .i64 (pt / 2 ^ k) 1 == 1) = true := hs
            have HS := Lib.hid hs
            clear hs
            have lz := BZI.out.lt
            obtain ⟨cz0, cz1, cz2⟩ := BZI.out.cells3
            have cr10 : wr.cell? ⟨A3, o3 + i * 3, none⟩ = some (.bool q.b) := (HBI.out.cell (p := ⟨A3, o3 + i * 3, none⟩) hl3).trans X0.out
            have cr11 : wr.cell? ⟨A3, o3 + i * 3 + 1, none⟩ = some (.slice q.A q.n q.c) := (HBI.out.cell (p := ⟨A3, o3 + i * 3 + 1, none⟩) hl3).trans X1.out
            have cr12 : wr.cell? ⟨A3, o3 + i * 3 + 2, none⟩ = some (.int .i64 (z.g k i).x) := (HBI.out.cell (p := ⟨A3, o3 + i * 3 + 2, none⟩) hl3).trans X2.out
            have n_101 := BZI.out.lt
            have n_102 := OX.out.lt
            go_wp2_with fail
            refine (dneg_q _ q (z.g k i) (RQ.out.dk ((Dk.refl _).alloc _)) nb0).mono ?_
            rintro e w1 ⟨⟨s, rfl, hs⟩, hb⟩
            clear lz cz0 cz1 cz2 cr10 cr11 cr12
            have K := Dk.trans ((Dk.refl _).alloc _) (.below hb)
            have Bz_103 := Lib.hid (show Bk _ _ _ #[.slice (some ⟨cb, co, none⟩) z.n cc, .slice (some ⟨G1, o1, none⟩) z.m cg, .slice Ar z.n cr] from (BZI.out.alloc _).below hb)
            have By_104 := Lib.hid (show Bk _ _ _ #[.bool q.b, .slice q.A q.n q.c, .int .i64 (z.g k i).x] from (Bk.new _ 53 #[.bool q.b, .slice q.A q.n q.c, .int .i64 (z.g k i).x]).below hb)
            have Ox_105 := Lib.hid (show OP _ (g) z.n (cornM z (sgB pt) k i) from (OX.out.al _).below hb)
            have HB_106 := Lib.hid (below_tr (below_al HBI.out _) hb)
            clear hb
            have RQ_107 := Lib.hid (RQ.out.dk K)
            clear K BZI OX HBI RQ
            have RY_108 := Lib.hid hs
            clear hs
            have lz := Bz_103.out.lt
            obtain ⟨cz0, cz1, cz2⟩ := Bz_103.out.cells3
            have ly := By_104.out.lt
            obtain ⟨cy0, cy1, cy2⟩ := By_104.out.cells3
            have fy0 := By_104.out.free 0
            have fy1 := By_104.out.free 1
            have fy2 := By_104.out.free 2
            have cr10 : w1.cell? ⟨A3, o3 + i * 3, none⟩ = some (.bool q.b) := (HB_106.out.cell (p := ⟨A3, o3 + i * 3, none⟩) hl3).trans X0.out
            have cr11 : w1.cell? ⟨A3, o3 + i * 3 + 1, none⟩ = some (.slice q.A q.n q.c) := (HB_106.out.cell (p := ⟨A3, o3 + i * 3 + 1, none⟩) hl3).trans X1.out
            have cr12 : w1.cell? ⟨A3, o3 + i * 3 + 2, none⟩ = some (.int .i64 (z.g k i).x) := (HB_106.out.cell (p := ⟨A3, o3 + i * 3 + 2, none⟩) hl3).trans X2.out
            go_wp2_with fail
            clear lz cz0 cz1 cz2 ly cy0 cy1 cy2 fy0 fy1 fy2 cr10 cr11 cr12
            have K : Dk w1 (((w1.setCell ⟨wr.heap.size, 0, none⟩ (.bool s.b)).setCell ⟨wr.heap.size, 1, none⟩ (.slice s.A s.n s.c)).setCell ⟨wr.heap.size, 2, none⟩ (.int .i64 (z.g k i).x)) := ((((Dk.refl _).set (cs := #[.bool q.b, .slice q.A q.n q.c, .int .i64 (z.g k i).x]) By_104.out 0 (by intro _ hh; cases hh) (.bool s.b)).set (cs := #[.bool s.b, .slice q.A q.n q.c, .int .i64 (z.g k i).x]) (By_104.out.set 0 (.bool s.b)) 1 (by intro _ hh; cases hh) (.slice s.A s.n s.c)).set (cs := #[.bool s.b, .slice s.A s.n s.c, .int .i64 (z.g k i).x]) ((By_104.out.set 0 (.bool s.b)).set 1 (.slice s.A s.n s.c)) 2 (by intro _ hh; cases hh) (.int .i64 (z.g k i).x))
            have y0 := Bz_103.out.lt; have y1 := By_104.out.lt; have y2 := Ox_105.out.lt; have y3 := HB_106.out.size; have Bz_109 := Lib.hid (show Bk (((w1.setCell ⟨wr.heap.size, 0, none⟩ (.bool s.b)).setCell ⟨wr.heap.size, 1, none⟩ (.slice s.A s.n s.c)).setCell ⟨wr.heap.size, 2, none⟩ (.int .i64 (z.g k i).x)) (w.heap.size) 42 #[.slice (some ⟨cb, co, none⟩) z.n cc, .slice (some ⟨G1, o1, none⟩) z.m cg, .slice Ar z.n cr] from (((Bz_103.out.ne (by omega) 0 (.bool s.b)).ne (by omega) 1 (.slice s.A s.n s.c)).ne (by omega) 2 (.int .i64 (z.g k i).x))); clear y0 y1 y2 y3
            have By_110 := Lib.hid (show Bk (((w1.setCell ⟨wr.heap.size, 0, none⟩ (.bool s.b)).setCell ⟨wr.heap.size, 1, none⟩ (.slice s.A s.n s.c)).setCell ⟨wr.heap.size, 2, none⟩ (.int .i64 (z.g k i).x)) (wr.heap.size) 53 #[.bool s.b, .slice s.A s.n s.c, .int .i64 (z.g k i).x] from (((By_104.out.set 0 (.bool s.b)).set 1 (.slice s.A s.n s.c)).set 2 (.int .i64 (z.g k i).x)))
            have y0 := Bz_103.out.lt; have y1 := By_104.out.lt; have y2 := Ox_105.out.lt; have y3 := HB_106.out.size; have Ox_111 := Lib.hid (show OP (((w1.setCell ⟨wr.heap.size, 0, none⟩ (.bool s.b)).setCell ⟨wr.heap.size, 1, none⟩ (.slice s.A s.n s.c)).setCell ⟨wr.heap.size, 2, none⟩ (.int .i64 (z.g k i).x)) (g) z.n (cornM z (sgB pt) k i) from (((Ox_105.out.st (cs := #[.bool q.b, .slice q.A q.n q.c, .int .i64 (z.g k i).x]) By_104.out (by omega) 0 (by intro _ hh; cases hh) (.bool s.b)).st (cs := #[.bool s.b, .slice q.A q.n q.c, .int .i64 (z.g k i).x]) (By_104.out.set 0 (.bool s.b)) (by omega) 1 (by intro _ hh; cases hh) (.slice s.A s.n s.c)).st (cs := #[.bool s.b, .slice s.A s.n s.c, .int .i64 (z.g k i).x]) ((By_104.out.set 0 (.bool s.b)).set 1 (.slice s.A s.n s.c)) (by omega) 2 (by intro _ hh; cases hh) (.int .i64 (z.g k i).x))); clear y0 y1 y2 y3
            have y0 := HB_106.out.size; have HB_112 := Lib.hid (show Below w.heap.size w (((w1.setCell ⟨wr.heap.size, 0, none⟩ (.bool s.b)).setCell ⟨wr.heap.size, 1, none⟩ (.slice s.A s.n s.c)).setCell ⟨wr.heap.size, 2, none⟩ (.int .i64 (z.g k i).x)) from (below_st (below_st (below_st HB_106.out 0 (by omega) (.bool s.b)) 1 (by omega) (.slice s.A s.n s.c)) 2 (by omega) (.int .i64 (z.g k i).x))); clear y0
            have RQ_113 := Lib.hid (RQ_107.out.dk K)
            have RY_114 := Lib.hid (RY_108.out.dk K)
            clear K Bz_103 By_104 Ox_105 HB_106 RQ_107 RY_108
            generalize ((w1.setCell ⟨wr.heap.size, 0, none⟩ (.bool s.b)).setCell ⟨wr.heap.size, 1, none⟩ (.slice s.A s.n s.c)).setCell ⟨wr.heap.size, 2, none⟩ (.int .i64 (z.g k i).x) = w2 at *
            obtain ⟨t, t0, t1, t2, ht⟩ := Ox_111.out.get hi2
            rw [cornM_self] at t2 ht
            have RT := Lib.hid ht
            clear ht
            have lz := Bz_109.out.lt
            obtain ⟨cz0, cz1, cz2⟩ := Bz_109.out.cells3
            have ly := By_110.out.lt
            obtain ⟨cy0, cy1, cy2⟩ := By_110.out.cells3
            obtain ⟨⟨_, px0⟩, ⟨_, px1⟩, ⟨_, px2⟩, rx0, rx1, rx2⟩ := Ox_111.out.there hi2
            have lx := Ox_111.out.lt
            have tok_115 : True := trivial
            go_region_with
              (first
               | (clear tok_115; go_at_call 52; refine (dadd_any _ t s ((cornF z (sgB pt) k) i) (z.g k i).neg E (T + k) (RT.out.dk ((Dk.refl _).drew)) (RY_114.out.dk ((Dk.refl _).drew)) La.out (neg_lim Lg.out) (by omega) (HT.out.below (below_dr HB_112.out))).mono ?_; rintro e w3 ⟨⟨r, rfl, hr⟩, hb⟩; clear lz cz0 cz1 cz2 ly cy0 cy1 cy2 px0 px1 px2 rx0 rx1 rx2 lx t0 t1 t2; have K := Dk.trans ((Dk.refl _).drew) (.below hb); have Bz_116 := Lib.hid (show Bk _ _ _ #[.slice (some ⟨cb, co, none⟩) z.n cc, .slice (some ⟨G1, o1, none⟩) z.m cg, .slice Ar z.n cr] from (Bz_109.out.drew).below hb); have By_117 := Lib.hid (show Bk _ _ _ #[.bool s.b, .slice s.A s.n s.c, .int .i64 (z.g k i).x] from (By_110.out.drew).below hb); have Ox_118 := Lib.hid (show OP _ (g) z.n (cornM z (sgB pt) k i) from (Ox_111.out.dr).below hb); have HB_119 := Lib.hid (below_tr (below_dr HB_112.out) hb); clear hb; have RQ_120 := Lib.hid (RQ_113.out.dk K); have RY_121 := Lib.hid (RY_114.out.dk K); have RT_122 := Lib.hid (RT.out.dk K); clear K Bz_109 By_110 Ox_111 HB_112 RQ_113 RY_114 RT; have RS_123 := Lib.hid hr; clear hr; have lz := Bz_116.out.lt; obtain ⟨cz0, cz1, cz2⟩ := Bz_116.out.cells3; have ly := By_117.out.lt; obtain ⟨cy0, cy1, cy2⟩ := By_117.out.cells3; obtain ⟨⟨_, px0⟩, ⟨_, px1⟩, ⟨_, px2⟩, rx0, rx1, rx2⟩ := Ox_118.out.there hi2; have lx := Ox_118.out.lt))
            all_goals (go_wp2_with fail; go_roundw)
            all_goals first | (exact ⟨i + 1, by go_num, hi2, Lib.hid ⟨(Ox_118.out.put hi2 r (((cornF z (sgB pt) k) i).add (z.g k i).neg) RS_123.out).1.congr fun j _ => corn_next z (sgB pt) k i j (by rw [if_pos HS.out]), (Bz_116.out.ne3 (by have := Bz_116.out.lt; have := By_117.out.lt; have := Ox_118.out.lt; have := HB_119.out.size; omega) i (.bool r.b) (.slice r.A r.n r.c) (.int .i64 (((cornF z (sgB pt) k) i).add (z.g k i).neg).x)), (below_put3 HB_119.out (by have := HB_119.out.size; omega) i (.bool r.b) (.slice r.A r.n r.c) (.int .i64 (((cornF z (sgB pt) k) i).add (z.g k i).neg).x))⟩⟩) | (simp only [intOf]; omega)
          · have hs1 : (bits .and .i64 (pt / 2 ^ k) 1 == 1) = false := by unfold sgB at hs; simpa using hs
            have HS := Lib.hid hs
            clear hs
            have lz := BZI.out.lt
            obtain ⟨cz0, cz1, cz2⟩ := BZI.out.cells3
            have cr10 : wr.cell? ⟨A3, o3 + i * 3, none⟩ = some (.bool q.b) := (HBI.out.cell (p := ⟨A3, o3 + i * 3, none⟩) hl3).trans X0.out
            have cr11 : wr.cell? ⟨A3, o3 + i * 3 + 1, none⟩ = some (.slice q.A q.n q.c) := (HBI.out.cell (p := ⟨A3, o3 + i * 3 + 1, none⟩) hl3).trans X1.out
            have cr12 : wr.cell? ⟨A3, o3 + i * 3 + 2, none⟩ = some (.int .i64 (z.g k i).x) := (HBI.out.cell (p := ⟨A3, o3 + i * 3 + 2, none⟩) hl3).trans X2.out
            have n_101 := BZI.out.lt
            have n_102 := OX.out.lt
            go_wp2_with fail
            clear lz cz0 cz1 cz2 cr10 cr11 cr12
            have K : Dk wr (wr.alloc (.cells #[.bool q.b, .slice q.A q.n q.c, .int .i64 (z.g k i).x] 53)) := ((Dk.refl _).alloc _)
            have Bz_103 := Lib.hid (show Bk (wr.alloc (.cells #[.bool q.b, .slice q.A q.n q.c, .int .i64 (z.g k i).x] 53)) (w.heap.size) 42 #[.slice (some ⟨cb, co, none⟩) z.n cc, .slice (some ⟨G1, o1, none⟩) z.m cg, .slice Ar z.n cr] from (BZI.out.alloc _))
            have By_104 := Lib.hid (show Bk (wr.alloc (.cells #[.bool q.b, .slice q.A q.n q.c, .int .i64 (z.g k i).x] 53)) (wr.heap.size) 53 #[.bool q.b, .slice q.A q.n q.c, .int .i64 (z.g k i).x] from (Bk.new _ 53 #[.bool q.b, .slice q.A q.n q.c, .int .i64 (z.g k i).x]))
            have Ox_105 := Lib.hid (show OP (wr.alloc (.cells #[.bool q.b, .slice q.A q.n q.c, .int .i64 (z.g k i).x] 53)) (g) z.n (cornM z (sgB pt) k i) from (OX.out.al _))
            have HB_106 := Lib.hid (show Below w.heap.size w (wr.alloc (.cells #[.bool q.b, .slice q.A q.n q.c, .int .i64 (z.g k i).x] 53)) from (below_al HBI.out _))
            have RQ_107 := Lib.hid (RQ.out.dk K)
            clear K BZI OX HBI RQ
            generalize wr.alloc (.cells #[.bool q.b, .slice q.A q.n q.c, .int .i64 (z.g k i).x] 53) = w1 at *
            obtain ⟨t, t0, t1, t2, ht⟩ := Ox_105.out.get hi2
            rw [cornM_self] at t2 ht
            have RT := Lib.hid ht
            clear ht
            have lz := Bz_103.out.lt
            obtain ⟨cz0, cz1, cz2⟩ := Bz_103.out.cells3
            have ly := By_104.out.lt
            obtain ⟨cy0, cy1, cy2⟩ := By_104.out.cells3
            obtain ⟨⟨_, px0⟩, ⟨_, px1⟩, ⟨_, px2⟩, rx0, rx1, rx2⟩ := Ox_105.out.there hi2
            have lx := Ox_105.out.lt
            have tok_108 : True := trivial
            go_region_with
              (first
               | (clear tok_108; go_at_call 52; refine (dadd_any _ t q ((cornF z (sgB pt) k) i) (z.g k i) E (T + k) (RT.out.dk ((Dk.refl _).drew)) (RQ_107.out.dk ((Dk.refl _).drew)) La.out Lg.out (by omega) (HT.out.below (below_dr HB_106.out))).mono ?_; rintro e w2 ⟨⟨r, rfl, hr⟩, hb⟩; clear lz cz0 cz1 cz2 ly cy0 cy1 cy2 px0 px1 px2 rx0 rx1 rx2 lx t0 t1 t2; have K := Dk.trans ((Dk.refl _).drew) (.below hb); have Bz_109 := Lib.hid (show Bk _ _ _ #[.slice (some ⟨cb, co, none⟩) z.n cc, .slice (some ⟨G1, o1, none⟩) z.m cg, .slice Ar z.n cr] from (Bz_103.out.drew).below hb); have By_110 := Lib.hid (show Bk _ _ _ #[.bool q.b, .slice q.A q.n q.c, .int .i64 (z.g k i).x] from (By_104.out.drew).below hb); have Ox_111 := Lib.hid (show OP _ (g) z.n (cornM z (sgB pt) k i) from (Ox_105.out.dr).below hb); have HB_112 := Lib.hid (below_tr (below_dr HB_106.out) hb); clear hb; have RQ_113 := Lib.hid (RQ_107.out.dk K); have RT_114 := Lib.hid (RT.out.dk K); clear K Bz_103 By_104 Ox_105 HB_106 RQ_107 RT; have RS_115 := Lib.hid hr; clear hr; have lz := Bz_109.out.lt; obtain ⟨cz0, cz1, cz2⟩ := Bz_109.out.cells3; have ly := By_110.out.lt; obtain ⟨cy0, cy1, cy2⟩ := By_110.out.cells3; obtain ⟨⟨_, px0⟩, ⟨_, px1⟩, ⟨_, px2⟩, rx0, rx1, rx2⟩ := Ox_111.out.there hi2; have lx := Ox_111.out.lt))
            all_goals (go_wp2_with fail; go_roundw)
            all_goals first | (exact ⟨i + 1, by go_num, hi2, Lib.hid ⟨(Ox_111.out.put hi2 r (((cornF z (sgB pt) k) i).add (z.g k i)) RS_115.out).1.congr fun j _ => corn_next z (sgB pt) k i j (by rw [if_neg HS.out]), (Bz_109.out.ne3 (by have := Bz_109.out.lt; have := By_110.out.lt; have := Ox_111.out.lt; have := HB_112.out.size; omega) i (.bool r.b) (.slice r.A r.n r.c) (.int .i64 (((cornF z (sgB pt) k) i).add (z.g k i)).x)), (below_put3 HB_112.out (by have := HB_112.out.size; omega) i (.bool r.b) (.slice r.A r.n r.c) (.int .i64 (((cornF z (sgB pt) k) i).add (z.g k i)).x))⟩⟩) | (simp only [intOf]; omega)
        · obtain rfl : i = z.n := by omega
          have H2 := Lib.hid (show CornRel z pt w g 42 _ (k + 1) wr from ⟨Hi.out.1.congr fun j hj => if_pos hj, Hi.out.2.1, Hi.out.2.2⟩)
          go_wp2
          go_roundw
          case rel => exact ⟨k + 1, by go_num, hk2, H2⟩
          case measure => simp only [intOf]; omega
    · obtain rfl : k = z.m := by omega
      have HO := Lib.hid Hr.out.1
      have HBE := Lib.hid Hr.out.2.2
      clear Hr hk2
      go_wp2
      go_ret
      exact ⟨⟨_, cap, rfl, HO.out.read hcap n6⟩, HBE.out⟩

end Go.Proofs.YtgioppkggpfnoaaDoor.Nu
end

section
/- JoinBetween: the walk of the law. -/
set_option linter.unusedVariables false
namespace Go.Proofs.YtgioppkggpfnoaaDoor.Nu
open Go.RowKit Go.Proofs

theorem corner_at (w : World) (Ac Ag Ar : Option Addr) (cc cg cr : Nat) (z : Zo) (n : Nat) (pt : Int) (E T : Nat) (ez : z.n = n) (h : RZo w ⟨Ac, cc, Ag, cg, Ar, cr⟩ z) (lz : z.Lim E T) (hn : 0 < n) (hm : z.m ≤ 31) (hET : E + T + z.m + 1 ≤ 16000) (ht : BTab w) :
    Calls Tryd.prog 50 #[.agg #[.slice Ac n cc, .slice Ag z.m cg, .slice Ar n cr], .int .i64 pt] w fun e w' => (∃ A' c', e = .returned (.slice A' n c') ∧ RDs w' A' n c' (cornF z (sgB pt) z.m)) ∧ Below w.heap.size w w' := by
  subst ez
  exact corner_any w Ac Ag Ar cc cg cr z pt E T h lz hn hm hET ht
theorem nb8 {z : Int} (h0 : -8 ≤ z) (h8 : z ≤ 8) : nb z.natAbs ≤ 4 := nb_le.2 (by omega)
theorem sgn_lim {s : Int} (h0 : -1 ≤ s) (h1 : s ≤ 1) : (D.mk' s 0).Lim 60 124 := (mk_lim (E := 0) (T := 1) (by omega) (by have := nb_le.2 (show s.natAbs < 2 ^ 1 by omega); omega)).mono (by omega) (by omega)
theorem uni_lim {i : Nat} {e : D} {E T : Nat} (h : e.Lim E T) (k : Nat) : (uniD i e k).Lim E T := by
  unfold uniD
  split
  · exact h
  · exact zero_lim _ _
theorem mk8_lim {z : Int} (h0 : -8 ≤ z) (h8 : z ≤ 8) : (D.mk' z (-3)).Lim 3 4 := mk_lim (by omega) (by have := nb8 h0 h8; omega)
theorem mul_ok8 {a : D} {z : Int} (la : a.Lim 60 129) (h0 : -8 ≤ z) (h8 : z ≤ 8) : nb a.z.natAbs + nb (D.mk' z (-3)).z.natAbs ≤ 16320 ∧ -20000 ≤ a.x ∧ a.x ≤ 20000 ∧ -20000 ≤ (D.mk' z (-3)).x ∧ (D.mk' z (-3)).x ≤ 20000 := by
  have h1 := la.nb
  have h2 := (mk8_lim h0 h8).nb
  have h3 := la.1
  have h4 := la.2
  have h5 := (mk8_lim h0 h8).1
  have h6 := (mk8_lim h0 h8).2
  omega
theorem prod_lim8 {a : D} {z : Int} (la : a.Lim 60 129) (h0 : -8 ≤ z) (h8 : z ≤ 8) : (a.mul (D.mk' z (-3))).Lim 63 133 := mul_lim la (mk8_lim h0 h8)

set_option maxRecDepth 100000 in
set_option maxHeartbeats 4000000 in
theorem between_any (w : World) (Aac Aag Aar Abc Abg Abr : Option Addr) (na ra ma nb_ rb mb cac cag car cbc cbg cbr : Nat) (p0 p1 p2 : Int) (hac : RawD w Aac na cac) (hag : RawR w Aag ma cag) (har : RawD w Aar ra car) (hna : Aag = none → cag = 0) (hbc : RawD w Abc nb_ cbc) (hbg : RawR w Abg mb cbg) (hbr : RawD w Abr rb cbr) (hnb : Abg = none → cbg = 0) (ht : BTab w) :
    Calls Tryd.prog 8 #[.agg #[.slice Aac na cac, .slice Aag ma cag, .slice Aar ra car], .agg #[.slice Abc nb_ cbc, .slice Abg mb cbg, .slice Abr rb cbr], .agg #[.int .i64 p0, .int .i64 p1, .int .i64 p2]] w fun e w' => e = .returned (.bool true) ∧ Below w.heap.size w w' := by
  have HAC := Lib.hid hac
  have HAG := Lib.hid hag
  have HAR := Lib.hid har
  have HNA := Lib.hid hna
  have HBC := Lib.hid hbc
  have HBG := Lib.hid hbg
  have HBR := Lib.hid hbr
  have HNB := Lib.hid hnb
  have HT := Lib.hid ht
  have hd62 := hac.2.1
  clear hac hag har hna hbc hbg hbr hnb ht
  have BX := Lib.hid (boxes3 w 42 #[.slice Aac na cac, .slice Aag ma cag, .slice Aar ra car] 42 #[.slice Abc nb_ cbc, .slice Abg mb cbg, .slice Abr rb cbr] 86 #[.int .i64 p0, .int .i64 p1, .int .i64 p2])
  go_enter Tryd.func8, Tryd.ntmps8
  go_wp2_with fail
  generalize ((w.alloc (.cells #[.slice Aac na cac, .slice Aag ma cag, .slice Aar ra car] 42)).alloc (.cells #[.slice Abc nb_ cbc, .slice Abg mb cbg, .slice Abr rb cbr] 42)).alloc (.cells #[.int .i64 p0, .int .i64 p1, .int .i64 p2] 86) = w0 at *
  obtain ⟨b0, b1, b2, hw⟩ := BX.out
  have Ba_0 := Lib.hid b0
  have Bb_0 := Lib.hid b1
  have Bp_0 := Lib.hid b2
  have HB_0 := Lib.hid hw
  have K := Dk.below (hw.mono (Nat.le_refl _))
  clear BX hw b0 b1 b2
  clear K
  go_wp2_with fail
  refine (joins_any _ (HT.out.below HB_0.out)).mono ?_
  rintro e w1 ⟨rfl, hb⟩
  have K := Dk.below hb
  have Ba_1 := Lib.hid (show Bk _ _ _ #[.slice Aac na cac, .slice Aag ma cag, .slice Aar ra car] from Ba_0.out.below hb)
  have Bb_2 := Lib.hid (show Bk _ _ _ #[.slice Abc nb_ cbc, .slice Abg mb cbg, .slice Abr rb cbr] from Bb_0.out.below hb)
  have Bp_3 := Lib.hid (show Bk _ _ _ #[.int .i64 p0, .int .i64 p1, .int .i64 p2] from Bp_0.out.below hb)
  have HB_4 := Lib.hid (below_tr HB_0.out hb)
  clear hb
  clear K Ba_0 Bb_0 Bp_0 HB_0
  have la := Ba_1.out.lt
  obtain ⟨ca0, ca1, ca2⟩ := Ba_1.out.cells3
  have lb := Bb_2.out.lt
  obtain ⟨cb0, cb1, cb2⟩ := Bb_2.out.cells3
  have lp := Bp_3.out.lt
  obtain ⟨cp0, cp1, cp2⟩ := Bp_3.out.cells3
  go_wp2_with fail
  refine (fit_any _ Aac Aag Aar na cac ma cag ra car na (HAC.out.below HB_4.out) (HAG.out.below HB_4.out) (HAR.out.below HB_4.out) HNA.out hd62).mono ?_
  rintro e w2 ⟨rfl | ⟨rfl, hf⟩, hb⟩
  · clear la ca0 ca1 ca2 lb cb0 cb1 cb2 lp cp0 cp1 cp2
    have K := Dk.below hb
    have Ba_5 := Lib.hid (show Bk _ _ _ #[.slice Aac na cac, .slice Aag ma cag, .slice Aar ra car] from Ba_1.out.below hb)
    have Bb_6 := Lib.hid (show Bk _ _ _ #[.slice Abc nb_ cbc, .slice Abg mb cbg, .slice Abr rb cbr] from Bb_2.out.below hb)
    have Bp_7 := Lib.hid (show Bk _ _ _ #[.int .i64 p0, .int .i64 p1, .int .i64 p2] from Bp_3.out.below hb)
    have HB_8 := Lib.hid (below_tr HB_4.out hb)
    clear hb
    clear K Ba_1 Bb_2 Bp_3 HB_4
    have la := Ba_5.out.lt
    obtain ⟨ca0, ca1, ca2⟩ := Ba_5.out.cells3
    have lb := Bb_6.out.lt
    obtain ⟨cb0, cb1, cb2⟩ := Bb_6.out.cells3
    have lp := Bp_7.out.lt
    obtain ⟨cp0, cp1, cp2⟩ := Bp_7.out.cells3
    go_wp2
    go_ret
    exact ⟨rfl, HB_8.out⟩
  clear la ca0 ca1 ca2 lb cb0 cb1 cb2 lp cp0 cp1 cp2
  have K := Dk.below hb
  have Ba_10 := Lib.hid (show Bk _ _ _ #[.slice Aac na cac, .slice Aag ma cag, .slice Aar ra car] from Ba_1.out.below hb)
  have Bb_11 := Lib.hid (show Bk _ _ _ #[.slice Abc nb_ cbc, .slice Abg mb cbg, .slice Abr rb cbr] from Bb_2.out.below hb)
  have Bp_12 := Lib.hid (show Bk _ _ _ #[.int .i64 p0, .int .i64 p1, .int .i64 p2] from Bp_3.out.below hb)
  have HB_13 := Lib.hid (below_tr HB_4.out hb)
  clear hb
  clear K Ba_1 Bb_2 Bp_3 HB_4
  have FA := Lib.hid hf
  clear hf HAC HAG HAR
  have BASE_14 := Lib.hid (HB_13.out)
  replace HBC := Lib.hid (HBC.out.below HB_13.out)
  replace HBG := Lib.hid (HBG.out.below HB_13.out)
  replace HBR := Lib.hid (HBR.out.below HB_13.out)
  replace HT := Lib.hid (HT.out.below HB_13.out)
  clear HB_13
  have HB_15 := Lib.hid (show Below w2.heap.size w2 w2 from Below.refl _ _)
  have la := Ba_10.out.lt
  obtain ⟨ca0, ca1, ca2⟩ := Ba_10.out.cells3
  have lb := Bb_11.out.lt
  obtain ⟨cb0, cb1, cb2⟩ := Bb_11.out.cells3
  have lp := Bp_12.out.lt
  obtain ⟨cp0, cp1, cp2⟩ := Bp_12.out.cells3
  go_wp2_with fail
  refine (fit_any _ Abc Abg Abr nb_ cbc mb cbg rb cbr na HBC.out HBG.out HBR.out HNB.out hd62).mono ?_
  rintro e w3 ⟨rfl | ⟨rfl, hf⟩, hb⟩
  · clear la ca0 ca1 ca2 lb cb0 cb1 cb2 lp cp0 cp1 cp2
    have K := Dk.below hb
    have Ba_16 := Lib.hid (show Bk _ _ _ #[.slice Aac na cac, .slice Aag ma cag, .slice Aar ra car] from Ba_10.out.below hb)
    have Bb_17 := Lib.hid (show Bk _ _ _ #[.slice Abc nb_ cbc, .slice Abg mb cbg, .slice Abr rb cbr] from Bb_11.out.below hb)
    have Bp_18 := Lib.hid (show Bk _ _ _ #[.int .i64 p0, .int .i64 p1, .int .i64 p2] from Bp_12.out.below hb)
    have HB_19 := Lib.hid (below_tr HB_15.out hb)
    clear hb
    clear K Ba_10 Bb_11 Bp_12 HB_15
    have la := Ba_16.out.lt
    obtain ⟨ca0, ca1, ca2⟩ := Ba_16.out.cells3
    have lb := Bb_17.out.lt
    obtain ⟨cb0, cb1, cb2⟩ := Bb_17.out.cells3
    have lp := Bp_18.out.lt
    obtain ⟨cp0, cp1, cp2⟩ := Bp_18.out.cells3
    go_wp2
    go_ret
    exact ⟨rfl, below_tr BASE_14.out HB_19.out⟩
  clear la ca0 ca1 ca2 lb cb0 cb1 cb2 lp cp0 cp1 cp2
  have K := Dk.below hb
  have Ba_21 := Lib.hid (show Bk _ _ _ #[.slice Aac na cac, .slice Aag ma cag, .slice Aar ra car] from Ba_10.out.below hb)
  have Bb_22 := Lib.hid (show Bk _ _ _ #[.slice Abc nb_ cbc, .slice Abg mb cbg, .slice Abr rb cbr] from Bb_11.out.below hb)
  have Bp_23 := Lib.hid (show Bk _ _ _ #[.int .i64 p0, .int .i64 p1, .int .i64 p2] from Bp_12.out.below hb)
  have HB_24 := Lib.hid (below_tr HB_15.out hb)
  clear hb
  clear K Ba_10 Bb_11 Bp_12 HB_15
  have FB := Lib.hid hf
  clear hf HBC HBG HBR
  have BASE_25 := Lib.hid (below_tr BASE_14.out HB_24.out)
  replace FA := Lib.hid (FA.out.below HB_24.out)
  replace HT := Lib.hid (HT.out.below HB_24.out)
  clear HB_24 BASE_14
  have HB_26 := Lib.hid (show Below w3.heap.size w3 w3 from Below.refl _ _)
  obtain ⟨za, e1, e2, e3, rfl, hza, oza, lza, k1, k4, k5⟩ := FA.out
  obtain ⟨zb, e4, e5, e6, rfl, hzb, ozb, lzb, _, _, k6⟩ := FB.out
  clear FA FB
  obtain rfl : na = ra := by omega
  obtain rfl : na = nb_ := by omega
  obtain rfl : na = rb := by omega
  have eza : za.n = na := e3.symm
  have ezb : zb.n = na := e6.symm
  clear e1 e2 e3 e4 e5 e6
  have ZA := Lib.hid hza
  have ZB := Lib.hid hzb
  have OA := Lib.hid oza
  have OB := Lib.hid ozb
  have LA := Lib.hid lza
  have LB := Lib.hid lzb
  clear hza hzb oza ozb lza lzb
  have la := Ba_21.out.lt
  obtain ⟨ca0, ca1, ca2⟩ := Ba_21.out.cells3
  have lb := Bb_22.out.lt
  obtain ⟨cb0, cb1, cb2⟩ := Bb_22.out.cells3
  have lp := Bp_23.out.lt
  obtain ⟨cp0, cp1, cp2⟩ := Bp_23.out.cells3
  by_cases hp0 : p0 < 0
  · go_wp2
    go_ret
    exact ⟨rfl, below_tr BASE_25.out HB_26.out⟩
  by_cases hp8 : 8 < p0
  · go_wp2
    go_ret
    exact ⟨rfl, below_tr BASE_25.out HB_26.out⟩
  have h0 : 0 ≤ p0 := by omega
  have h8 : p0 ≤ 8 := by omega
  have mm : max za.m zb.m ≤ 5 := by omega
  have n6 : na ≤ 1000000 := by omega
  go_wp2_with fail
  refine (hull_at _ Aac Aag Aar Abc Abg Abr cac cag car cbc cbg cbr za zb na 40 60 124 eza ezb (ZA.out.below HB_26.out) (ZB.out.below HB_26.out) OA.out OB.out LA.out LB.out HNA.out HNB.out (by omega) (by omega) (by omega) (by omega) (HT.out.below HB_26.out)).mono ?_
  rintro e w4 ⟨⟨gc, gg, gr, cg, rfl, hz⟩, hb⟩
  clear la ca0 ca1 ca2 lb cb0 cb1 cb2 lp cp0 cp1 cp2
  have K := Dk.below hb
  have Ba_29 := Lib.hid (show Bk _ _ _ #[.slice Aac na cac, .slice Aag za.m cag, .slice Aar na car] from Ba_21.out.below hb)
  have Bb_30 := Lib.hid (show Bk _ _ _ #[.slice Abc na cbc, .slice Abg zb.m cbg, .slice Abr na cbr] from Bb_22.out.below hb)
  have Bp_31 := Lib.hid (show Bk _ _ _ #[.int .i64 p0, .int .i64 p1, .int .i64 p2] from Bp_23.out.below hb)
  have HB_32 := Lib.hid (below_tr HB_26.out hb)
  clear hb
  clear K Ba_21 Bb_22 Bp_23 HB_26
  have ZH := Lib.hid hz
  clear hz
  have BASE_33 := Lib.hid (below_tr BASE_25.out HB_32.out)
  replace ZA := Lib.hid (ZA.out.below HB_32.out)
  replace ZB := Lib.hid (ZB.out.below HB_32.out)
  replace HT := Lib.hid (HT.out.below HB_32.out)
  clear HB_32 BASE_25
  have HB_34 := Lib.hid (show Below w4.heap.size w4 w4 from Below.refl _ _)
  have en : za.n = zb.n := by omega
  have LH := Lib.hid (hull_lim5 LA.out LB.out en k5 k6 40)
  have hm : (hull za zb 40).m ≤ 11 := by show 2 * max za.m zb.m + 1 ≤ 11; omega
  have la := Ba_29.out.lt
  obtain ⟨ca0, ca1, ca2⟩ := Ba_29.out.cells3
  have lb := Bb_30.out.lt
  obtain ⟨cb0, cb1, cb2⟩ := Bb_30.out.cells3
  have lp := Bp_31.out.lt
  obtain ⟨cp0, cp1, cp2⟩ := Bp_31.out.cells3
  have n_35 := Ba_29.out.lt
  have n_36 := Bb_30.out.lt
  have n_37 := Bp_31.out.lt
  go_wp2_with fail
  clear la ca0 ca1 ca2 lb cb0 cb1 cb2 lp cp0 cp1 cp2
  have K : Dk w4 (w4.alloc (.cells #[.slice (some ⟨gc, 0, none⟩) na na, .slice (some ⟨gg, 0, none⟩) (hull za zb 40).m cg, .slice (some ⟨gr, 0, none⟩) na na] 42)) := ((Dk.refl _).alloc _)
  have Ba_38 := Lib.hid (show Bk (w4.alloc (.cells #[.slice (some ⟨gc, 0, none⟩) na na, .slice (some ⟨gg, 0, none⟩) (hull za zb 40).m cg, .slice (some ⟨gr, 0, none⟩) na na] 42)) (w.heap.size) 42 #[.slice Aac na cac, .slice Aag za.m cag, .slice Aar na car] from (Ba_29.out.alloc _))
  have Bb_39 := Lib.hid (show Bk (w4.alloc (.cells #[.slice (some ⟨gc, 0, none⟩) na na, .slice (some ⟨gg, 0, none⟩) (hull za zb 40).m cg, .slice (some ⟨gr, 0, none⟩) na na] 42)) (w.heap.size + 1) 42 #[.slice Abc na cbc, .slice Abg zb.m cbg, .slice Abr na cbr] from (Bb_30.out.alloc _))
  have Bp_40 := Lib.hid (show Bk (w4.alloc (.cells #[.slice (some ⟨gc, 0, none⟩) na na, .slice (some ⟨gg, 0, none⟩) (hull za zb 40).m cg, .slice (some ⟨gr, 0, none⟩) na na] 42)) (w.heap.size + 2) 86 #[.int .i64 p0, .int .i64 p1, .int .i64 p2] from (Bp_31.out.alloc _))
  have Bh_41 := Lib.hid (show Bk (w4.alloc (.cells #[.slice (some ⟨gc, 0, none⟩) na na, .slice (some ⟨gg, 0, none⟩) (hull za zb 40).m cg, .slice (some ⟨gr, 0, none⟩) na na] 42)) (w4.heap.size) 42 #[.slice (some ⟨gc, 0, none⟩) na na, .slice (some ⟨gg, 0, none⟩) (hull za zb 40).m cg, .slice (some ⟨gr, 0, none⟩) na na] from (Bk.new _ 42 #[.slice (some ⟨gc, 0, none⟩) na na, .slice (some ⟨gg, 0, none⟩) (hull za zb 40).m cg, .slice (some ⟨gr, 0, none⟩) na na]))
  have HB_42 := Lib.hid (show Below w4.heap.size w4 (w4.alloc (.cells #[.slice (some ⟨gc, 0, none⟩) na na, .slice (some ⟨gg, 0, none⟩) (hull za zb 40).m cg, .slice (some ⟨gr, 0, none⟩) na na] 42)) from (below_al HB_34.out _))
  clear K Ba_29 Bb_30 Bp_31 HB_34
  generalize w4.alloc (.cells #[.slice (some ⟨gc, 0, none⟩) na na, .slice (some ⟨gg, 0, none⟩) (hull za zb 40).m cg, .slice (some ⟨gr, 0, none⟩) na na] 42) = w5 at *
  have la := Ba_38.out.lt
  obtain ⟨ca0, ca1, ca2⟩ := Ba_38.out.cells3
  have lb := Bb_39.out.lt
  obtain ⟨cb0, cb1, cb2⟩ := Bb_39.out.cells3
  have lp := Bp_40.out.lt
  obtain ⟨cp0, cp1, cp2⟩ := Bp_40.out.cells3
  have lh := Bh_41.out.lt
  obtain ⟨ch0, ch1, ch2⟩ := Bh_41.out.cells3
  obtain ⟨SX1, hS1⟩ : ∃ S : World → Prop, ∀ w', S w' ↔ (w'.cell? ⟨w.heap.size, 0, none⟩ = some (.slice Aac na cac) ∧ w'.cell? ⟨w.heap.size, 1, none⟩ = some (.slice Aag za.m cag) ∧ w'.cell? ⟨w.heap.size, 2, none⟩ = some (.slice Aar na car) ∧ w'.cell? ⟨w.heap.size + 1, 0, none⟩ = some (.slice Abc na cbc) ∧ w'.cell? ⟨w.heap.size + 1, 1, none⟩ = some (.slice Abg zb.m cbg) ∧ w'.cell? ⟨w.heap.size + 1, 2, none⟩ = some (.slice Abr na cbr) ∧ w'.cell? ⟨w.heap.size + 2, 0, none⟩ = some (.int .i64 p0) ∧ w'.cell? ⟨w.heap.size + 2, 1, none⟩ = some (.int .i64 p1) ∧ w'.cell? ⟨w.heap.size + 2, 2, none⟩ = some (.int .i64 p2)) := ⟨_, fun _ => Iff.rfl⟩
  have k_43 : SX1 (w5) := (hS1 _).2 ⟨Ba_38.out.cell 0 rfl, Ba_38.out.cell 1 rfl, Ba_38.out.cell 2 rfl, Bb_39.out.cell 0 rfl, Bb_39.out.cell 1 rfl, Bb_39.out.cell 2 rfl, Bp_40.out.cell 0 rfl, Bp_40.out.cell 1 rfl, Bp_40.out.cell 2 rfl⟩
  have k_44 : SX1 (w5.drew) := (hS1 _).2 ⟨(Ba_38.out.drew).cell 0 rfl, (Ba_38.out.drew).cell 1 rfl, (Ba_38.out.drew).cell 2 rfl, (Bb_39.out.drew).cell 0 rfl, (Bb_39.out.drew).cell 1 rfl, (Bb_39.out.drew).cell 2 rfl, (Bp_40.out.drew).cell 0 rfl, (Bp_40.out.drew).cell 1 rfl, (Bp_40.out.drew).cell 2 rfl⟩
  have tok_45 : True := trivial
  have tok_46 : True := trivial
  go_region_held3 (fun w' => w'.cell? ⟨w.heap.size, 0, none⟩ = some (.slice Aac na cac) ∧ w'.cell? ⟨w.heap.size, 1, none⟩ = some (.slice Aag za.m cag) ∧ w'.cell? ⟨w.heap.size, 2, none⟩ = some (.slice Aar na car) ∧ w'.cell? ⟨w.heap.size + 1, 0, none⟩ = some (.slice Abc na cbc) ∧ w'.cell? ⟨w.heap.size + 1, 1, none⟩ = some (.slice Abg zb.m cbg) ∧ w'.cell? ⟨w.heap.size + 1, 2, none⟩ = some (.slice Abr na cbr) ∧ w'.cell? ⟨w.heap.size + 2, 0, none⟩ = some (.int .i64 p0) ∧ w'.cell? ⟨w.heap.size + 2, 1, none⟩ = some (.int .i64 p1) ∧ w'.cell? ⟨w.heap.size + 2, 2, none⟩ = some (.int .i64 p2)) (first | with_reducible exact (hS1 _).1 k_43 | with_reducible exact (hS1 _).1 k_44 | with_reducible exact (hS1 _).1 k_52 | with_reducible exact (hS1 _).1 k_58)
    (first
     | (clear tok_45; go_at_call 50; refine (corner_at _ Aac Aag Aar cac cag car za na p1 60 124 eza (ZA.out.below (below_dr HB_42.out)) LA.out (by omega) (by omega) (by omega) (HT.out.below (below_dr HB_42.out))).mono ?_; rintro e w6 ⟨⟨A1, c1, rfl, hr⟩, hb⟩; have RX := Lib.hid hr; clear hr; clear la ca0 ca1 ca2 lb cb0 cb1 cb2 lp cp0 cp1 cp2 lh ch0 ch1 ch2 k_43 k_44; have K := Dk.trans ((Dk.refl _).drew) (.below hb); have Ba_47 := Lib.hid (show Bk _ _ _ #[.slice Aac na cac, .slice Aag za.m cag, .slice Aar na car] from (Ba_38.out.drew).below hb); have Bb_48 := Lib.hid (show Bk _ _ _ #[.slice Abc na cbc, .slice Abg zb.m cbg, .slice Abr na cbr] from (Bb_39.out.drew).below hb); have Bp_49 := Lib.hid (show Bk _ _ _ #[.int .i64 p0, .int .i64 p1, .int .i64 p2] from (Bp_40.out.drew).below hb); have Bh_50 := Lib.hid (show Bk _ _ _ #[.slice (some ⟨gc, 0, none⟩) na na, .slice (some ⟨gg, 0, none⟩) (hull za zb 40).m cg, .slice (some ⟨gr, 0, none⟩) na na] from (Bh_41.out.drew).below hb); have HB_51 := Lib.hid (below_tr (below_dr HB_42.out) hb); clear hb; clear K Ba_38 Bb_39 Bp_40 Bh_41 HB_42; have la := Ba_47.out.lt; obtain ⟨ca0, ca1, ca2⟩ := Ba_47.out.cells3; have lb := Bb_48.out.lt; obtain ⟨cb0, cb1, cb2⟩ := Bb_48.out.cells3; have lp := Bp_49.out.lt; obtain ⟨cp0, cp1, cp2⟩ := Bp_49.out.cells3; have lh := Bh_50.out.lt; obtain ⟨ch0, ch1, ch2⟩ := Bh_50.out.cells3; have k_52 : SX1 (w6) := (hS1 _).2 ⟨Ba_47.out.cell 0 rfl, Ba_47.out.cell 1 rfl, Ba_47.out.cell 2 rfl, Bb_48.out.cell 0 rfl, Bb_48.out.cell 1 rfl, Bb_48.out.cell 2 rfl, Bp_49.out.cell 0 rfl, Bp_49.out.cell 1 rfl, Bp_49.out.cell 2 rfl⟩)
     | (clear tok_46; go_at_call 50; refine (corner_at _ Abc Abg Abr cbc cbg cbr zb na p2 60 124 ezb (ZB.out.below HB_51.out) LB.out (by omega) (by omega) (by omega) (HT.out.below HB_51.out)).mono ?_; rintro e w7 ⟨⟨A2, c2, rfl, hs⟩, hb⟩; have RY := Lib.hid hs; have RX := Lib.hid (RX.out.below hb); clear hs; clear la ca0 ca1 ca2 lb cb0 cb1 cb2 lp cp0 cp1 cp2 lh ch0 ch1 ch2 k_52; have K := Dk.below hb; have Ba_53 := Lib.hid (show Bk _ _ _ #[.slice Aac na cac, .slice Aag za.m cag, .slice Aar na car] from Ba_47.out.below hb); have Bb_54 := Lib.hid (show Bk _ _ _ #[.slice Abc na cbc, .slice Abg zb.m cbg, .slice Abr na cbr] from Bb_48.out.below hb); have Bp_55 := Lib.hid (show Bk _ _ _ #[.int .i64 p0, .int .i64 p1, .int .i64 p2] from Bp_49.out.below hb); have Bh_56 := Lib.hid (show Bk _ _ _ #[.slice (some ⟨gc, 0, none⟩) na na, .slice (some ⟨gg, 0, none⟩) (hull za zb 40).m cg, .slice (some ⟨gr, 0, none⟩) na na] from Bh_50.out.below hb); have HB_57 := Lib.hid (below_tr HB_51.out hb); clear hb; clear K Ba_47 Bb_48 Bp_49 Bh_50 HB_51; have la := Ba_53.out.lt; obtain ⟨ca0, ca1, ca2⟩ := Ba_53.out.cells3; have lb := Bb_54.out.lt; obtain ⟨cb0, cb1, cb2⟩ := Bb_54.out.cells3; have lp := Bp_55.out.lt; obtain ⟨cp0, cp1, cp2⟩ := Bp_55.out.cells3; have lh := Bh_56.out.lt; obtain ⟨ch0, ch1, ch2⟩ := Bh_56.out.cells3; have k_58 : SX1 (w7) := (hS1 _).2 ⟨Ba_53.out.cell 0 rfl, Ba_53.out.cell 1 rfl, Ba_53.out.cell 2 rfl, Bb_54.out.cell 0 rfl, Bb_54.out.cell 1 rfl, Bb_54.out.cell 2 rfl, Bp_55.out.cell 0 rfl, Bp_55.out.cell 1 rfl, Bp_55.out.cell 2 rfl⟩))
  go_wp2_with fail
  clear la ca0 ca1 ca2 lb cb0 cb1 cb2 lp cp0 cp1 cp2 lh ch0 ch1 ch2 k_58
  have BASE_59 := Lib.hid (below_tr BASE_33.out HB_57.out)
  replace ZH := Lib.hid (ZH.out.below HB_57.out)
  replace HT := Lib.hid (HT.out.below HB_57.out)
  clear HB_57 BASE_33
  have HB_60 := Lib.hid (show Below w7.heap.size w7 w7 from Below.refl _ _)
  clear Ba_53 Bb_54
  have LX := Lib.hid (fun (i : Nat) (hi : i < na) => (corn_lim LA.out (sgB p1) za.m i (Nat.le_refl _) (by omega)).mono (Nat.le_refl 60) (show 124 + za.m ≤ 129 by omega))
  have LY := Lib.hid (fun (i : Nat) (hi : i < na) => (corn_lim LB.out (sgB p2) zb.m i (Nat.le_refl _) (by omega)).mono (Nat.le_refl 60) (show 124 + zb.m ≤ 129 by omega))
  go_loopw [66] (fun k wr => ∃ i : Nat, k = .int .i64 i ∧ i ≤ na ∧ Hid (Below w7.heap.size w7 wr)) (fun k _ => na - (intOf k).toNat)
  case atStart => exact ⟨0, rfl, Nat.zero_le _, HB_60⟩
  case round =>
    obtain ⟨i, rfl, hi, Hr⟩ := hrel
    by_cases hi2 : i < na
    · have q3 : (i : Int) < (na : Int) := by omega
      have B9p := Lib.hid (Bp_55.out.below Hr.out)
      have B9h := Lib.hid (Bh_56.out.below Hr.out)
      have lp := B9p.out.lt
      obtain ⟨cp0, cp1, cp2⟩ := B9p.out.cells3
      have lh := B9h.out.lt
      obtain ⟨ch0, ch1, ch2⟩ := B9h.out.cells3
      have n_62 := B9p.out.lt
      have n_63 := B9h.out.lt
      go_wp2_with fail
      clear lp cp0 cp1 cp2 lh ch0 ch1 ch2
      have K : Dk wr (wr.alloc (.cells #[.int .i64 1, .int .i64 (-1)] 2)) := ((Dk.refl _).alloc _)
      have Bp_64 := Lib.hid (show Bk (wr.alloc (.cells #[.int .i64 1, .int .i64 (-1)] 2)) (w.heap.size + 2) 86 #[.int .i64 p0, .int .i64 p1, .int .i64 p2] from (B9p.out.alloc _))
      have Bh_65 := Lib.hid (show Bk (wr.alloc (.cells #[.int .i64 1, .int .i64 (-1)] 2)) (w4.heap.size) 42 #[.slice (some ⟨gc, 0, none⟩) na na, .slice (some ⟨gg, 0, none⟩) (hull za zb 40).m cg, .slice (some ⟨gr, 0, none⟩) na na] from (B9h.out.alloc _))
      have Bq_66 := Lib.hid (show Bk (wr.alloc (.cells #[.int .i64 1, .int .i64 (-1)] 2)) (wr.heap.size) 2 #[.int .i64 1, .int .i64 (-1)] from (Bk.new _ 2 #[.int .i64 1, .int .i64 (-1)]))
      have HB_67 := Lib.hid (show Below w7.heap.size w7 (wr.alloc (.cells #[.int .i64 1, .int .i64 (-1)] 2)) from (below_al Hr.out _))
      clear K B9p B9h Hr
      generalize wr.alloc (.cells #[.int .i64 1, .int .i64 (-1)] 2) = w8 at *
      have BASE_68 := Lib.hid (HB_67.out)
      replace ZH := Lib.hid (ZH.out.below HB_67.out)
      replace HT := Lib.hid (HT.out.below HB_67.out)
      replace RX := Lib.hid (RX.out.below HB_67.out)
      replace RY := Lib.hid (RY.out.below HB_67.out)
      clear HB_67
      have HB_69 := Lib.hid (show Below w8.heap.size w8 w8 from Below.refl _ _)
      generalize wr.heap.size = gq at *
      go_loopw [71] (fun k wr => ∃ j : Nat, k = .int .i64 j ∧ j ≤ 2 ∧ Hid (Below w8.heap.size w8 wr)) (fun k _ => 2 - (intOf k).toNat)
      case atStart => exact ⟨0, rfl, Nat.zero_le _, HB_69⟩
      case round =>
        obtain ⟨j, rfl, hj, Hs⟩ := hrel
        by_cases hj2 : j < 2
        · have q4 : (j : Int) < 2 := by omega
          have B8p := Lib.hid (Bp_64.out.below Hs.out)
          have B8h := Lib.hid (Bh_65.out.below Hs.out)
          have B8q := Lib.hid (Bq_66.out.below Hs.out)
          have hcell : ∃ s : Int, (s = 1 ∨ s = -1) ∧ wr.cell? ⟨gq, j, none⟩ = some (.int .i64 s) := by
            obtain rfl | rfl : j = 0 ∨ j = 1 := by omega
            · exact ⟨1, .inl rfl, B8q.out.cell 0 rfl⟩
            · exact ⟨-1, .inr rfl, B8q.out.cell 1 rfl⟩
          obtain ⟨s, hs1, x0⟩ := hcell
          clear B8q
          have s0 : -1 ≤ s := by omega
          have s2 : s ≤ 1 := by omega
          have p3 : -8 ≤ p0 * s := by rcases hs1 with rfl | rfl <;> omega
          have p4 : p0 * s ≤ 8 := by rcases hs1 with rfl | rfl <;> omega
          have p5 : -8 ≤ (8 - p0) * s := by rcases hs1 with rfl | rfl <;> omega
          have p6 : (8 - p0) * s ≤ 8 := by rcases hs1 with rfl | rfl <;> omega
          have m100a : (-100 : Int) ≤ -3 := by omega
          have m100b : (-3 : Int) ≤ 100 := by omega
          have gd0 : w8.heap.size ≤ wr.heap.size := Hs.out.size
          have w1e : IntKind.i64.wrap (p0 * s) = p0 * s := by rw [IntKind.wrap_i64]; omega
          have w3e : IntKind.i64.wrap (8 - p0) = 8 - p0 := by rw [IntKind.wrap_i64]; omega
          have w2e : IntKind.i64.wrap ((8 - p0) * s) = (8 - p0) * s := by rw [IntKind.wrap_i64]; omega
          have HS1 := Lib.hid hs1
          clear hs1
          obtain ⟨B1, o1, rfl, hl1, hcc⟩ := RX.out.2.2 (by omega)
          obtain ⟨x, z0, z1, z2, hx⟩ := hcc i hi2
          obtain ⟨B2, o2, rfl, hl2, hc2⟩ := RY.out.2.2 (by omega)
          obtain ⟨y, y0, y1, y2, hy⟩ := hc2 i hi2
          have X0 := Lib.hid z0
          have Y0 := Lib.hid y0
          have X1 := Lib.hid z1
          have Y1 := Lib.hid y1
          have X2 := Lib.hid z2
          have Y2 := Lib.hid y2
          have FX := Lib.hid (hx.below Hs.out)
          have FY := Lib.hid (hy.below Hs.out)
          clear hcc z0 z1 z2 hx hc2 y0 y1 y2 hy
          have hmk := fun W => make_D na n6 W
          have lp := B8p.out.lt
          obtain ⟨cp0, cp1, cp2⟩ := B8p.out.cells3
          have lh := B8h.out.lt
          obtain ⟨ch0, ch1, ch2⟩ := B8h.out.cells3
          have n_71 := B8p.out.lt
          have n_72 := B8h.out.lt
          go_wp2_with fail
          refine (dOf_any _ s 0 (by omega) (by omega) (by omega) (by omega) (HT.out.below (below_al Hs.out _))).mono ?_
          rintro e w9 ⟨⟨u, rfl, hu⟩, hb⟩
          clear lp cp0 cp1 cp2 lh ch0 ch1 ch2
          have K := Dk.trans ((Dk.refl _).alloc _) (.below hb)
          have Bp_73 := Lib.hid (show Bk _ _ _ #[.int .i64 p0, .int .i64 p1, .int .i64 p2] from (B8p.out.alloc _).below hb)
          have Bh_74 := Lib.hid (show Bk _ _ _ #[.slice (some ⟨gc, 0, none⟩) na na, .slice (some ⟨gg, 0, none⟩) (hull za zb 40).m cg, .slice (some ⟨gr, 0, none⟩) na na] from (B8h.out.alloc _).below hb)
          have Od_75 := Lib.hid (show OD _ (wr.heap.size) na (fun _ => D.zero) from (OD.made _ na).below hb)
          have HB_76 := Lib.hid (below_tr (below_al Hs.out _) hb)
          clear hb
          have FX_77 := Lib.hid (FX.out.dk K)
          have FY_78 := Lib.hid (FY.out.dk K)
          clear K B8p B8h Hs FX FY
          have FU_79 := Lib.hid hu
          clear hu
          clear hmk x0
          have lp := Bp_73.out.lt
          obtain ⟨cp0, cp1, cp2⟩ := Bp_73.out.cells3
          have lh := Bh_74.out.lt
          obtain ⟨ch0, ch1, ch2⟩ := Bh_74.out.cells3
          obtain ⟨⟨_, pd0⟩, ⟨_, pd1⟩, ⟨_, pd2⟩, rd0, rd1, rd2⟩ := Od_75.out.there hi2
          have ld := Od_75.out.lt
          go_upto_region 18 with (fail)
          clear lp cp0 cp1 cp2 lh ch0 ch1 ch2 pd0 pd1 pd2 rd0 rd1 rd2 ld
          have K : Dk w9 (((w9.setCell ⟨wr.heap.size, i * 3, none⟩ (.bool u.b)).setCell ⟨wr.heap.size, i * 3 + 1, none⟩ (.slice u.A u.n u.c)).setCell ⟨wr.heap.size, i * 3 + 2, none⟩ (.int .i64 (D.mk' s 0).x)) := (Dk.trans (Dk.refl _) (Od_75.out.put hi2 u (D.mk' s 0) FU_79.out).2)
          have Bp_80 := Lib.hid (show Bk (((w9.setCell ⟨wr.heap.size, i * 3, none⟩ (.bool u.b)).setCell ⟨wr.heap.size, i * 3 + 1, none⟩ (.slice u.A u.n u.c)).setCell ⟨wr.heap.size, i * 3 + 2, none⟩ (.int .i64 (D.mk' s 0).x)) (w.heap.size + 2) 86 #[.int .i64 p0, .int .i64 p1, .int .i64 p2] from (Bp_73.out.ne3 (by have := Bp_73.out.lt; have := Bh_74.out.lt; have := Od_75.out.lt; have := HB_76.out.size; omega) i (.bool u.b) (.slice u.A u.n u.c) (.int .i64 (D.mk' s 0).x)))
          have Bh_81 := Lib.hid (show Bk (((w9.setCell ⟨wr.heap.size, i * 3, none⟩ (.bool u.b)).setCell ⟨wr.heap.size, i * 3 + 1, none⟩ (.slice u.A u.n u.c)).setCell ⟨wr.heap.size, i * 3 + 2, none⟩ (.int .i64 (D.mk' s 0).x)) (w4.heap.size) 42 #[.slice (some ⟨gc, 0, none⟩) na na, .slice (some ⟨gg, 0, none⟩) (hull za zb 40).m cg, .slice (some ⟨gr, 0, none⟩) na na] from (Bh_74.out.ne3 (by have := Bp_73.out.lt; have := Bh_74.out.lt; have := Od_75.out.lt; have := HB_76.out.size; omega) i (.bool u.b) (.slice u.A u.n u.c) (.int .i64 (D.mk' s 0).x)))
          have Od_82 := Lib.hid (show OD (((w9.setCell ⟨wr.heap.size, i * 3, none⟩ (.bool u.b)).setCell ⟨wr.heap.size, i * 3 + 1, none⟩ (.slice u.A u.n u.c)).setCell ⟨wr.heap.size, i * 3 + 2, none⟩ (.int .i64 (D.mk' s 0).x)) (wr.heap.size) na (uniD i (D.mk' s 0)) from (Od_75.out.put hi2 u (D.mk' s 0) FU_79.out).1)
          have HB_83 := Lib.hid (show Below w8.heap.size w8 (((w9.setCell ⟨wr.heap.size, i * 3, none⟩ (.bool u.b)).setCell ⟨wr.heap.size, i * 3 + 1, none⟩ (.slice u.A u.n u.c)).setCell ⟨wr.heap.size, i * 3 + 2, none⟩ (.int .i64 (D.mk' s 0).x)) from (below_put3 HB_76.out (by have := HB_76.out.size; omega) i (.bool u.b) (.slice u.A u.n u.c) (.int .i64 (D.mk' s 0).x)))
          have FX_84 := Lib.hid (FX_77.out.dk K)
          have FY_85 := Lib.hid (FY_78.out.dk K)
          have FU_86 := Lib.hid (FU_79.out.dk K)
          clear K Bp_73 Bh_74 Od_75 HB_76 FX_77 FY_78 FU_79
          generalize ((w9.setCell ⟨wr.heap.size, i * 3, none⟩ (.bool u.b)).setCell ⟨wr.heap.size, i * 3 + 1, none⟩ (.slice u.A u.n u.c)).setCell ⟨wr.heap.size, i * 3 + 2, none⟩ (.int .i64 (D.mk' s 0).x) = w10 at *
          have lp := Bp_80.out.lt
          obtain ⟨cp0, cp1, cp2⟩ := Bp_80.out.cells3
          have lh := Bh_81.out.lt
          obtain ⟨ch0, ch1, ch2⟩ := Bh_81.out.cells3
          have RD0 := Lib.hid (Od_82.out.read n6)
          have LD := Lib.hid (fun (k : Nat) (hk : k < na) => uni_lim (i := i) (sgn_lim s0 s2) k)
          go_wp2_with fail
          refine (far_at _ (some ⟨gc, 0, none⟩) (some ⟨gg, 0, none⟩) (some ⟨gr, 0, none⟩) na cg na (hull za zb 40) na (some ⟨wr.heap.size, 0, none⟩) na (uniD i (D.mk' s 0)) 61 151 60 124 eza (ZH.out.below HB_83.out) RD0.out LH.out LD.out (by omega) (HT.out.below HB_83.out)).mono ?_
          rintro e w11 ⟨⟨r, rfl, hr⟩, hb⟩
          clear lp cp0 cp1 cp2 lh ch0 ch1 ch2
          have K := Dk.below hb
          have Bp_87 := Lib.hid (show Bk _ _ _ #[.int .i64 p0, .int .i64 p1, .int .i64 p2] from Bp_80.out.below hb)
          have Bh_88 := Lib.hid (show Bk _ _ _ #[.slice (some ⟨gc, 0, none⟩) na na, .slice (some ⟨gg, 0, none⟩) (hull za zb 40).m cg, .slice (some ⟨gr, 0, none⟩) na na] from Bh_81.out.below hb)
          have Od_89 := Lib.hid (show OD _ (wr.heap.size) na (uniD i (D.mk' s 0)) from Od_82.out.below hb)
          have HB_90 := Lib.hid (below_tr HB_83.out hb)
          clear hb
          have FX_91 := Lib.hid (FX_84.out.dk K)
          have FY_92 := Lib.hid (FY_85.out.dk K)
          have FU_93 := Lib.hid (FU_86.out.dk K)
          clear K Bp_80 Bh_81 Od_82 HB_83 FX_84 FY_85 FU_86
          have FR_94 := Lib.hid hr
          clear hr
          clear RD0
          clear Od_89
          have lp := Bp_87.out.lt
          obtain ⟨cp0, cp1, cp2⟩ := Bp_87.out.cells3
          have lh := Bh_88.out.lt
          obtain ⟨ch0, ch1, ch2⟩ := Bh_88.out.cells3
          have n_95 := Bp_87.out.lt
          have n_96 := Bh_88.out.lt
          have hxy0 := Lib.hid (mul_ok8 (LX.out i hi2) (show -8 ≤ (p0 * s) by omega) (show (p0 * s) ≤ 8 by omega))
          have g0 : -9223372036854775808 ≤ (p0 * s) := by omega
          have g0' : (p0 * s) ≤ 9223372036854775807 := by omega
          go_upto_region 19 with (fail)
          clear lp cp0 cp1 cp2 lh ch0 ch1 ch2
          have K : Dk w11 (w11.alloc (.cells #[.bool r.b, .slice r.A r.n r.c, .int .i64 ((hull za zb 40).sup (pts (uniD i (D.mk' s 0))) 2000).x] 53)) := ((Dk.refl _).alloc _)
          have Bp_97 := Lib.hid (show Bk (w11.alloc (.cells #[.bool r.b, .slice r.A r.n r.c, .int .i64 ((hull za zb 40).sup (pts (uniD i (D.mk' s 0))) 2000).x] 53)) (w.heap.size + 2) 86 #[.int .i64 p0, .int .i64 p1, .int .i64 p2] from (Bp_87.out.alloc _))
          have Bh_98 := Lib.hid (show Bk (w11.alloc (.cells #[.bool r.b, .slice r.A r.n r.c, .int .i64 ((hull za zb 40).sup (pts (uniD i (D.mk' s 0))) 2000).x] 53)) (w4.heap.size) 42 #[.slice (some ⟨gc, 0, none⟩) na na, .slice (some ⟨gg, 0, none⟩) (hull za zb 40).m cg, .slice (some ⟨gr, 0, none⟩) na na] from (Bh_88.out.alloc _))
          have Bfr_99 := Lib.hid (show Bk (w11.alloc (.cells #[.bool r.b, .slice r.A r.n r.c, .int .i64 ((hull za zb 40).sup (pts (uniD i (D.mk' s 0))) 2000).x] 53)) (w11.heap.size) 53 #[.bool r.b, .slice r.A r.n r.c, .int .i64 ((hull za zb 40).sup (pts (uniD i (D.mk' s 0))) 2000).x] from (Bk.new _ 53 #[.bool r.b, .slice r.A r.n r.c, .int .i64 ((hull za zb 40).sup (pts (uniD i (D.mk' s 0))) 2000).x]))
          have HB_100 := Lib.hid (show Below w8.heap.size w8 (w11.alloc (.cells #[.bool r.b, .slice r.A r.n r.c, .int .i64 ((hull za zb 40).sup (pts (uniD i (D.mk' s 0))) 2000).x] 53)) from (below_al HB_90.out _))
          have FX_101 := Lib.hid (FX_91.out.dk K)
          have FY_102 := Lib.hid (FY_92.out.dk K)
          have FU_103 := Lib.hid (FU_93.out.dk K)
          have FR_104 := Lib.hid (FR_94.out.dk K)
          clear K Bp_87 Bh_88 HB_90 FX_91 FY_92 FU_93 FR_94
          generalize w11.alloc (.cells #[.bool r.b, .slice r.A r.n r.c, .int .i64 ((hull za zb 40).sup (pts (uniD i (D.mk' s 0))) 2000).x] 53) = w12 at *
          have lp := Bp_97.out.lt
          obtain ⟨cp0, cp1, cp2⟩ := Bp_97.out.cells3
          have lh := Bh_98.out.lt
          obtain ⟨ch0, ch1, ch2⟩ := Bh_98.out.cells3
          have lfr := Bfr_99.out.lt
          obtain ⟨cfr0, cfr1, cfr2⟩ := Bfr_99.out.cells3
          have cr0 : w12.cell? ⟨B1, o1 + i * 3, none⟩ = some (.bool x.b) := (HB_100.out.cell (p := ⟨B1, o1 + i * 3, none⟩) hl1).trans X0.out
          have cr1 : w12.cell? ⟨B1, o1 + i * 3 + 1, none⟩ = some (.slice x.A x.n x.c) := (HB_100.out.cell (p := ⟨B1, o1 + i * 3 + 1, none⟩) hl1).trans X1.out
          have cr2 : w12.cell? ⟨B1, o1 + i * 3 + 2, none⟩ = some (.int .i64 ((cornF za (sgB p1) za.m) i).x) := (HB_100.out.cell (p := ⟨B1, o1 + i * 3 + 2, none⟩) hl1).trans X2.out
          go_cut [18] (fun s18 wx => ∃ (g_105 : Nat) (pp : Q), s18 = .pointer (some ⟨g_105, 0, none⟩) ∧ w.heap.size + 2 < g_105 ∧ w4.heap.size < g_105 ∧ w11.heap.size < g_105 ∧ Bk wx g_105 53 #[.bool pp.b, .slice pp.A pp.n pp.c, .int .i64 (((cornF za (sgB p1) za.m) i).mul (D.mk' (p0 * s) (-3))).x] ∧ Bk wx (w.heap.size + 2) 86 #[.int .i64 p0, .int .i64 p1, .int .i64 p2] ∧ Bk wx (w4.heap.size) 42 #[.slice (some ⟨gc, 0, none⟩) na na, .slice (some ⟨gg, 0, none⟩) (hull za zb 40).m cg, .slice (some ⟨gr, 0, none⟩) na na] ∧ Bk wx (w11.heap.size) 53 #[.bool r.b, .slice r.A r.n r.c, .int .i64 ((hull za zb 40).sup (pts (uniD i (D.mk' s 0))) 2000).x] ∧ Below w8.heap.size w8 wx ∧ RD wx x ((cornF za (sgB p1) za.m) i) ∧ RD wx y ((cornF zb (sgB p2) zb.m) i) ∧ RD wx r ((hull za zb 40).sup (pts (uniD i (D.mk' s 0))) 2000) ∧ RD wx pp (((cornF za (sgB p1) za.m) i).mul (D.mk' (p0 * s) (-3))))
          case first =>
            obtain ⟨SX2, hS2⟩ : ∃ S : World → Prop, ∀ w', S w' ↔ (w'.cell? ⟨w.heap.size + 2, 0, none⟩ = some (.int .i64 p0) ∧ w'.cell? ⟨w.heap.size + 2, 1, none⟩ = some (.int .i64 p1) ∧ w'.cell? ⟨w.heap.size + 2, 2, none⟩ = some (.int .i64 p2) ∧ w'.cell? ⟨B1, o1 + i * 3, none⟩ = some (.bool x.b) ∧ w'.cell? ⟨B1, o1 + i * 3 + 1, none⟩ = some (.slice x.A x.n x.c) ∧ w'.cell? ⟨B1, o1 + i * 3 + 2, none⟩ = some (.int .i64 ((cornF za (sgB p1) za.m) i).x)) := ⟨_, fun _ => Iff.rfl⟩
            have k_106 : SX2 (w12) := (hS2 _).2 ⟨Bp_97.out.cell 0 rfl, Bp_97.out.cell 1 rfl, Bp_97.out.cell 2 rfl, (Below.cell (p := ⟨B1, o1 + i * 3, none⟩) HB_100.out hl1).trans X0.out, (Below.cell (p := ⟨B1, o1 + i * 3 + 1, none⟩) HB_100.out hl1).trans X1.out, (Below.cell (p := ⟨B1, o1 + i * 3 + 2, none⟩) HB_100.out hl1).trans X2.out⟩
            have k_107 : SX2 (w12.drew) := (hS2 _).2 ⟨(Bp_97.out.drew).cell 0 rfl, (Bp_97.out.drew).cell 1 rfl, (Bp_97.out.drew).cell 2 rfl, (Below.cell (p := ⟨B1, o1 + i * 3, none⟩) (below_dr HB_100.out) hl1).trans X0.out, (Below.cell (p := ⟨B1, o1 + i * 3 + 1, none⟩) (below_dr HB_100.out) hl1).trans X1.out, (Below.cell (p := ⟨B1, o1 + i * 3 + 2, none⟩) (below_dr HB_100.out) hl1).trans X2.out⟩
            have k_108 : SX2 ((w12.alloc (.cells #[.bool false, .slice none 0 0, .int .i64 0] 53)).drew) := (hS2 _).2 ⟨((Bp_97.out.alloc _).drew).cell 0 rfl, ((Bp_97.out.alloc _).drew).cell 1 rfl, ((Bp_97.out.alloc _).drew).cell 2 rfl, (Below.cell (p := ⟨B1, o1 + i * 3, none⟩) (below_dr (below_al HB_100.out _)) hl1).trans X0.out, (Below.cell (p := ⟨B1, o1 + i * 3 + 1, none⟩) (below_dr (below_al HB_100.out _)) hl1).trans X1.out, (Below.cell (p := ⟨B1, o1 + i * 3 + 2, none⟩) (below_dr (below_al HB_100.out _)) hl1).trans X2.out⟩
            have tok_109 : True := trivial
            have tok_123 : True := trivial
            have tok_141 : True := trivial
            have tok_160 : True := trivial
            have tok_180 : True := trivial
            go_region_held3 (fun w' => w'.cell? ⟨w.heap.size + 2, 0, none⟩ = some (.int .i64 p0) ∧ w'.cell? ⟨w.heap.size + 2, 1, none⟩ = some (.int .i64 p1) ∧ w'.cell? ⟨w.heap.size + 2, 2, none⟩ = some (.int .i64 p2) ∧ w'.cell? ⟨B1, o1 + i * 3, none⟩ = some (.bool x.b) ∧ w'.cell? ⟨B1, o1 + i * 3 + 1, none⟩ = some (.slice x.A x.n x.c) ∧ w'.cell? ⟨B1, o1 + i * 3 + 2, none⟩ = some (.int .i64 ((cornF za (sgB p1) za.m) i).x)) (first | with_reducible exact (hS2 _).1 k_106 | with_reducible exact (hS2 _).1 k_107 | with_reducible exact (hS2 _).1 k_108 | with_reducible exact (hS2 _).1 k_120 | with_reducible exact (hS2 _).1 k_121 | with_reducible exact (hS2 _).1 k_139 | with_reducible exact (hS2 _).1 k_153 | with_reducible exact (hS2 _).1 k_157 | with_reducible exact (hS2 _).1 k_158 | with_reducible exact (hS2 _).1 k_177 | with_reducible exact (hS2 _).1 k_178 | with_reducible exact (hS2 _).1 k_193 | with_reducible exact (hS2 _).1 k_194)
              (first
               | (clear tok_180; go_at_call 51; refine calls_at (W := w_128) ?_ (by with_reducible rfl); refine (dmul_any _ x m ((cornF za (sgB p1) za.m) i) (D.mk' (p0 * s) (-3)) FX_134.out FM_138.out hxy0.out (HT.out.below HB_133.out)).mono ?_; rintro e w_181 ⟨⟨pp, rfl, hm⟩, hb⟩; clear lp cp0 cp1 cp2 lh ch0 ch1 ch2 lfr cfr0 cfr1 cfr2 lmp cmp0 cmp1 cmp2 fmp0 fmp1 fmp2 cr0 cr1 cr2 k_139; have K := Dk.below hb; have Bp_182 := Lib.hid (show Bk _ _ _ #[.int .i64 p0, .int .i64 p1, .int .i64 p2] from Bp_129.out.below hb); have Bh_183 := Lib.hid (show Bk _ _ _ #[.slice (some ⟨gc, 0, none⟩) na na, .slice (some ⟨gg, 0, none⟩) (hull za zb 40).m cg, .slice (some ⟨gr, 0, none⟩) na na] from Bh_130.out.below hb); have Bfr_184 := Lib.hid (show Bk _ _ _ #[.bool r.b, .slice r.A r.n r.c, .int .i64 ((hull za zb 40).sup (pts (uniD i (D.mk' s 0))) 2000).x] from Bfr_131.out.below hb); have Bmp_185 := Lib.hid (show Bk _ _ _ #[.bool false, .slice none 0 0, .int .i64 0] from Bmp_132.out.below hb); have HB_186 := Lib.hid (below_tr HB_133.out hb); clear hb; have FX_187 := Lib.hid (FX_134.out.dk K); have FY_188 := Lib.hid (FY_135.out.dk K); have FU_189 := Lib.hid (FU_136.out.dk K); have FR_190 := Lib.hid (FR_137.out.dk K); have FM_191 := Lib.hid (FM_138.out.dk K); clear K Bp_129 Bh_130 Bfr_131 Bmp_132 HB_133 FX_134 FY_135 FU_136 FR_137 FM_138; have FP_192 := Lib.hid hm; clear hm; have lp := Bp_182.out.lt; obtain ⟨cp0, cp1, cp2⟩ := Bp_182.out.cells3; have lh := Bh_183.out.lt; obtain ⟨ch0, ch1, ch2⟩ := Bh_183.out.cells3; have lfr := Bfr_184.out.lt; obtain ⟨cfr0, cfr1, cfr2⟩ := Bfr_184.out.cells3; have lmp := Bmp_185.out.lt; obtain ⟨cmp0, cmp1, cmp2⟩ := Bmp_185.out.cells3; have fmp0 := Bmp_185.out.free 0; have fmp1 := Bmp_185.out.free 1; have fmp2 := Bmp_185.out.free 2; have cr0 : w_181.cell? ⟨B1, o1 + i * 3, none⟩ = some (.bool x.b) := (HB_186.out.cell (p := ⟨B1, o1 + i * 3, none⟩) hl1).trans X0.out; have cr1 : w_181.cell? ⟨B1, o1 + i * 3 + 1, none⟩ = some (.slice x.A x.n x.c) := (HB_186.out.cell (p := ⟨B1, o1 + i * 3 + 1, none⟩) hl1).trans X1.out; have cr2 : w_181.cell? ⟨B1, o1 + i * 3 + 2, none⟩ = some (.int .i64 ((cornF za (sgB p1) za.m) i).x) := (HB_186.out.cell (p := ⟨B1, o1 + i * 3 + 2, none⟩) hl1).trans X2.out; have k_193 : SX2 (w_181) := (hS2 _).2 ⟨Bp_182.out.cell 0 rfl, Bp_182.out.cell 1 rfl, Bp_182.out.cell 2 rfl, (Below.cell (p := ⟨B1, o1 + i * 3, none⟩) HB_186.out hl1).trans X0.out, (Below.cell (p := ⟨B1, o1 + i * 3 + 1, none⟩) HB_186.out hl1).trans X1.out, (Below.cell (p := ⟨B1, o1 + i * 3 + 2, none⟩) HB_186.out hl1).trans X2.out⟩; have y0 := Bp_182.out.lt; have y1 := Bh_183.out.lt; have y2 := Bfr_184.out.lt; have y3 := Bmp_185.out.lt; have y4 := HB_186.out.size; have k_194 : SX2 (((w_181.setCell ⟨w12.heap.size, 0, none⟩ (.bool pp.b)).setCell ⟨w12.heap.size, 1, none⟩ (.slice pp.A pp.n pp.c)).setCell ⟨w12.heap.size, 2, none⟩ (.int .i64 (((cornF za (sgB p1) za.m) i).mul (D.mk' (p0 * s) (-3))).x)) := (hS2 _).2 ⟨(((Bp_182.out.ne (by omega) 0 (.bool pp.b)).ne (by omega) 1 (.slice pp.A pp.n pp.c)).ne (by omega) 2 (.int .i64 (((cornF za (sgB p1) za.m) i).mul (D.mk' (p0 * s) (-3))).x)).cell 0 rfl, (((Bp_182.out.ne (by omega) 0 (.bool pp.b)).ne (by omega) 1 (.slice pp.A pp.n pp.c)).ne (by omega) 2 (.int .i64 (((cornF za (sgB p1) za.m) i).mul (D.mk' (p0 * s) (-3))).x)).cell 1 rfl, (((Bp_182.out.ne (by omega) 0 (.bool pp.b)).ne (by omega) 1 (.slice pp.A pp.n pp.c)).ne (by omega) 2 (.int .i64 (((cornF za (sgB p1) za.m) i).mul (D.mk' (p0 * s) (-3))).x)).cell 2 rfl, (Below.cell (p := ⟨B1, o1 + i * 3, none⟩) (below_st (below_st (below_st HB_186.out 0 (by omega) (.bool pp.b)) 1 (by omega) (.slice pp.A pp.n pp.c)) 2 (by omega) (.int .i64 (((cornF za (sgB p1) za.m) i).mul (D.mk' (p0 * s) (-3))).x)) hl1).trans X0.out, (Below.cell (p := ⟨B1, o1 + i * 3 + 1, none⟩) (below_st (below_st (below_st HB_186.out 0 (by omega) (.bool pp.b)) 1 (by omega) (.slice pp.A pp.n pp.c)) 2 (by omega) (.int .i64 (((cornF za (sgB p1) za.m) i).mul (D.mk' (p0 * s) (-3))).x)) hl1).trans X1.out, (Below.cell (p := ⟨B1, o1 + i * 3 + 2, none⟩) (below_st (below_st (below_st HB_186.out 0 (by omega) (.bool pp.b)) 1 (by omega) (.slice pp.A pp.n pp.c)) 2 (by omega) (.int .i64 (((cornF za (sgB p1) za.m) i).mul (D.mk' (p0 * s) (-3))).x)) hl1).trans X2.out⟩; clear y0 y1 y2 y3 y4)
               | (clear tok_160; go_at_call 51; refine calls_at (W := w_110.alloc (.cells #[.bool false, .slice none 0 0, .int .i64 0] 53)) ?_ (by with_reducible rfl); have n_161 := Bp_111.out.lt; have n_162 := Bh_112.out.lt; have n_163 := Bfr_113.out.lt; have n_164 := HB_114.out.size; refine (dmul_any _ x m ((cornF za (sgB p1) za.m) i) (D.mk' (p0 * s) (-3)) (FX_115.out.dk ((Dk.refl _).alloc _)) (FM_119.out.dk ((Dk.refl _).alloc _)) hxy0.out (HT.out.below (below_al HB_114.out _))).mono ?_; rintro e w_165 ⟨⟨pp, rfl, hm⟩, hb⟩; clear lp cp0 cp1 cp2 lh ch0 ch1 ch2 lfr cfr0 cfr1 cfr2 cr0 cr1 cr2 k_120 k_121; have K := Dk.trans ((Dk.refl _).alloc _) (.below hb); have Bp_166 := Lib.hid (show Bk _ _ _ #[.int .i64 p0, .int .i64 p1, .int .i64 p2] from (Bp_111.out.alloc _).below hb); have Bh_167 := Lib.hid (show Bk _ _ _ #[.slice (some ⟨gc, 0, none⟩) na na, .slice (some ⟨gg, 0, none⟩) (hull za zb 40).m cg, .slice (some ⟨gr, 0, none⟩) na na] from (Bh_112.out.alloc _).below hb); have Bfr_168 := Lib.hid (show Bk _ _ _ #[.bool r.b, .slice r.A r.n r.c, .int .i64 ((hull za zb 40).sup (pts (uniD i (D.mk' s 0))) 2000).x] from (Bfr_113.out.alloc _).below hb); have Bmp_169 := Lib.hid (show Bk _ _ _ #[.bool false, .slice none 0 0, .int .i64 0] from (Bk.new _ 53 #[.bool false, .slice none 0 0, .int .i64 0]).below hb); have HB_170 := Lib.hid (below_tr (below_al HB_114.out _) hb); clear hb; have FX_171 := Lib.hid (FX_115.out.dk K); have FY_172 := Lib.hid (FY_116.out.dk K); have FU_173 := Lib.hid (FU_117.out.dk K); have FR_174 := Lib.hid (FR_118.out.dk K); have FM_175 := Lib.hid (FM_119.out.dk K); clear K Bp_111 Bh_112 Bfr_113 HB_114 FX_115 FY_116 FU_117 FR_118 FM_119; have FP_176 := Lib.hid hm; clear hm; have lp := Bp_166.out.lt; obtain ⟨cp0, cp1, cp2⟩ := Bp_166.out.cells3; have lh := Bh_167.out.lt; obtain ⟨ch0, ch1, ch2⟩ := Bh_167.out.cells3; have lfr := Bfr_168.out.lt; obtain ⟨cfr0, cfr1, cfr2⟩ := Bfr_168.out.cells3; have lmp := Bmp_169.out.lt; obtain ⟨cmp0, cmp1, cmp2⟩ := Bmp_169.out.cells3; have fmp0 := Bmp_169.out.free 0; have fmp1 := Bmp_169.out.free 1; have fmp2 := Bmp_169.out.free 2; have cr0 : w_165.cell? ⟨B1, o1 + i * 3, none⟩ = some (.bool x.b) := (HB_170.out.cell (p := ⟨B1, o1 + i * 3, none⟩) hl1).trans X0.out; have cr1 : w_165.cell? ⟨B1, o1 + i * 3 + 1, none⟩ = some (.slice x.A x.n x.c) := (HB_170.out.cell (p := ⟨B1, o1 + i * 3 + 1, none⟩) hl1).trans X1.out; have cr2 : w_165.cell? ⟨B1, o1 + i * 3 + 2, none⟩ = some (.int .i64 ((cornF za (sgB p1) za.m) i).x) := (HB_170.out.cell (p := ⟨B1, o1 + i * 3 + 2, none⟩) hl1).trans X2.out; have k_177 : SX2 (w_165) := (hS2 _).2 ⟨Bp_166.out.cell 0 rfl, Bp_166.out.cell 1 rfl, Bp_166.out.cell 2 rfl, (Below.cell (p := ⟨B1, o1 + i * 3, none⟩) HB_170.out hl1).trans X0.out, (Below.cell (p := ⟨B1, o1 + i * 3 + 1, none⟩) HB_170.out hl1).trans X1.out, (Below.cell (p := ⟨B1, o1 + i * 3 + 2, none⟩) HB_170.out hl1).trans X2.out⟩; have y0 := Bp_166.out.lt; have y1 := Bh_167.out.lt; have y2 := Bfr_168.out.lt; have y3 := Bmp_169.out.lt; have y4 := HB_170.out.size; have k_178 : SX2 (((w_165.setCell ⟨w_110.heap.size, 0, none⟩ (.bool pp.b)).setCell ⟨w_110.heap.size, 1, none⟩ (.slice pp.A pp.n pp.c)).setCell ⟨w_110.heap.size, 2, none⟩ (.int .i64 (((cornF za (sgB p1) za.m) i).mul (D.mk' (p0 * s) (-3))).x)) := (hS2 _).2 ⟨(((Bp_166.out.ne (by omega) 0 (.bool pp.b)).ne (by omega) 1 (.slice pp.A pp.n pp.c)).ne (by omega) 2 (.int .i64 (((cornF za (sgB p1) za.m) i).mul (D.mk' (p0 * s) (-3))).x)).cell 0 rfl, (((Bp_166.out.ne (by omega) 0 (.bool pp.b)).ne (by omega) 1 (.slice pp.A pp.n pp.c)).ne (by omega) 2 (.int .i64 (((cornF za (sgB p1) za.m) i).mul (D.mk' (p0 * s) (-3))).x)).cell 1 rfl, (((Bp_166.out.ne (by omega) 0 (.bool pp.b)).ne (by omega) 1 (.slice pp.A pp.n pp.c)).ne (by omega) 2 (.int .i64 (((cornF za (sgB p1) za.m) i).mul (D.mk' (p0 * s) (-3))).x)).cell 2 rfl, (Below.cell (p := ⟨B1, o1 + i * 3, none⟩) (below_st (below_st (below_st HB_170.out 0 (by omega) (.bool pp.b)) 1 (by omega) (.slice pp.A pp.n pp.c)) 2 (by omega) (.int .i64 (((cornF za (sgB p1) za.m) i).mul (D.mk' (p0 * s) (-3))).x)) hl1).trans X0.out, (Below.cell (p := ⟨B1, o1 + i * 3 + 1, none⟩) (below_st (below_st (below_st HB_170.out 0 (by omega) (.bool pp.b)) 1 (by omega) (.slice pp.A pp.n pp.c)) 2 (by omega) (.int .i64 (((cornF za (sgB p1) za.m) i).mul (D.mk' (p0 * s) (-3))).x)) hl1).trans X1.out, (Below.cell (p := ⟨B1, o1 + i * 3 + 2, none⟩) (below_st (below_st (below_st HB_170.out 0 (by omega) (.bool pp.b)) 1 (by omega) (.slice pp.A pp.n pp.c)) 2 (by omega) (.int .i64 (((cornF za (sgB p1) za.m) i).mul (D.mk' (p0 * s) (-3))).x)) hl1).trans X2.out⟩; clear y0 y1 y2 y3 y4)
               | (clear tok_141; go_at_call 51; refine calls_at (W := w_110) ?_ (by with_reducible rfl); refine (dmul_any _ x m ((cornF za (sgB p1) za.m) i) (D.mk' (p0 * s) (-3)) FX_115.out FM_119.out hxy0.out (HT.out.below HB_114.out)).mono ?_; rintro e w_142 ⟨⟨pp, rfl, hm⟩, hb⟩; clear lp cp0 cp1 cp2 lh ch0 ch1 ch2 lfr cfr0 cfr1 cfr2 cr0 cr1 cr2 k_120 k_121; have K := Dk.below hb; have Bp_143 := Lib.hid (show Bk _ _ _ #[.int .i64 p0, .int .i64 p1, .int .i64 p2] from Bp_111.out.below hb); have Bh_144 := Lib.hid (show Bk _ _ _ #[.slice (some ⟨gc, 0, none⟩) na na, .slice (some ⟨gg, 0, none⟩) (hull za zb 40).m cg, .slice (some ⟨gr, 0, none⟩) na na] from Bh_112.out.below hb); have Bfr_145 := Lib.hid (show Bk _ _ _ #[.bool r.b, .slice r.A r.n r.c, .int .i64 ((hull za zb 40).sup (pts (uniD i (D.mk' s 0))) 2000).x] from Bfr_113.out.below hb); have HB_146 := Lib.hid (below_tr HB_114.out hb); clear hb; have FX_147 := Lib.hid (FX_115.out.dk K); have FY_148 := Lib.hid (FY_116.out.dk K); have FU_149 := Lib.hid (FU_117.out.dk K); have FR_150 := Lib.hid (FR_118.out.dk K); have FM_151 := Lib.hid (FM_119.out.dk K); clear K Bp_111 Bh_112 Bfr_113 HB_114 FX_115 FY_116 FU_117 FR_118 FM_119; have FP_152 := Lib.hid hm; clear hm; have lp := Bp_143.out.lt; obtain ⟨cp0, cp1, cp2⟩ := Bp_143.out.cells3; have lh := Bh_144.out.lt; obtain ⟨ch0, ch1, ch2⟩ := Bh_144.out.cells3; have lfr := Bfr_145.out.lt; obtain ⟨cfr0, cfr1, cfr2⟩ := Bfr_145.out.cells3; have cr0 : w_142.cell? ⟨B1, o1 + i * 3, none⟩ = some (.bool x.b) := (HB_146.out.cell (p := ⟨B1, o1 + i * 3, none⟩) hl1).trans X0.out; have cr1 : w_142.cell? ⟨B1, o1 + i * 3 + 1, none⟩ = some (.slice x.A x.n x.c) := (HB_146.out.cell (p := ⟨B1, o1 + i * 3 + 1, none⟩) hl1).trans X1.out; have cr2 : w_142.cell? ⟨B1, o1 + i * 3 + 2, none⟩ = some (.int .i64 ((cornF za (sgB p1) za.m) i).x) := (HB_146.out.cell (p := ⟨B1, o1 + i * 3 + 2, none⟩) hl1).trans X2.out; have k_153 : SX2 (w_142) := (hS2 _).2 ⟨Bp_143.out.cell 0 rfl, Bp_143.out.cell 1 rfl, Bp_143.out.cell 2 rfl, (Below.cell (p := ⟨B1, o1 + i * 3, none⟩) HB_146.out hl1).trans X0.out, (Below.cell (p := ⟨B1, o1 + i * 3 + 1, none⟩) HB_146.out hl1).trans X1.out, (Below.cell (p := ⟨B1, o1 + i * 3 + 2, none⟩) HB_146.out hl1).trans X2.out⟩; have n_154 := Bp_143.out.lt; have n_155 := Bh_144.out.lt; have n_156 := Bfr_145.out.lt; have k_157 : SX2 (w_142.alloc (.cells #[.bool false, .slice none 0 0, .int .i64 0] 53)) := (hS2 _).2 ⟨(Bp_143.out.alloc _).cell 0 rfl, (Bp_143.out.alloc _).cell 1 rfl, (Bp_143.out.alloc _).cell 2 rfl, (Below.cell (p := ⟨B1, o1 + i * 3, none⟩) (below_al HB_146.out _) hl1).trans X0.out, (Below.cell (p := ⟨B1, o1 + i * 3 + 1, none⟩) (below_al HB_146.out _) hl1).trans X1.out, (Below.cell (p := ⟨B1, o1 + i * 3 + 2, none⟩) (below_al HB_146.out _) hl1).trans X2.out⟩; have k_158 : SX2 (w_142.alloc (.cells #[.bool pp.b, .slice pp.A pp.n pp.c, .int .i64 (((cornF za (sgB p1) za.m) i).mul (D.mk' (p0 * s) (-3))).x] 53)) := (hS2 _).2 ⟨(Bp_143.out.alloc _).cell 0 rfl, (Bp_143.out.alloc _).cell 1 rfl, (Bp_143.out.alloc _).cell 2 rfl, (Below.cell (p := ⟨B1, o1 + i * 3, none⟩) (below_al HB_146.out _) hl1).trans X0.out, (Below.cell (p := ⟨B1, o1 + i * 3 + 1, none⟩) (below_al HB_146.out _) hl1).trans X1.out, (Below.cell (p := ⟨B1, o1 + i * 3 + 2, none⟩) (below_al HB_146.out _) hl1).trans X2.out⟩)
               | (clear tok_123; go_at_call 33; refine calls_at (W := (w12.alloc (.cells #[.bool false, .slice none 0 0, .int .i64 0] 53)).drew) ?_ (by with_reducible rfl); have n_124 := Bp_97.out.lt; have n_125 := Bh_98.out.lt; have n_126 := Bfr_99.out.lt; have n_127 := HB_100.out.size; refine (dOf_any _ (p0 * s) (-3) g0 g0' m100a m100b (HT.out.below (below_dr (below_al HB_100.out _)))).mono ?_; rintro e w_128 ⟨⟨m, rfl, hm⟩, hb⟩; clear lp cp0 cp1 cp2 lh ch0 ch1 ch2 lfr cfr0 cfr1 cfr2 cr0 cr1 cr2 k_106 k_107 k_108; have K := Dk.trans (((Dk.refl _).alloc _).drew) (.below hb); have Bp_129 := Lib.hid (show Bk _ _ _ #[.int .i64 p0, .int .i64 p1, .int .i64 p2] from ((Bp_97.out.alloc _).drew).below hb); have Bh_130 := Lib.hid (show Bk _ _ _ #[.slice (some ⟨gc, 0, none⟩) na na, .slice (some ⟨gg, 0, none⟩) (hull za zb 40).m cg, .slice (some ⟨gr, 0, none⟩) na na] from ((Bh_98.out.alloc _).drew).below hb); have Bfr_131 := Lib.hid (show Bk _ _ _ #[.bool r.b, .slice r.A r.n r.c, .int .i64 ((hull za zb 40).sup (pts (uniD i (D.mk' s 0))) 2000).x] from ((Bfr_99.out.alloc _).drew).below hb); have Bmp_132 := Lib.hid (show Bk _ _ _ #[.bool false, .slice none 0 0, .int .i64 0] from ((Bk.new _ 53 #[.bool false, .slice none 0 0, .int .i64 0]).drew).below hb); have HB_133 := Lib.hid (below_tr (below_dr (below_al HB_100.out _)) hb); clear hb; have FX_134 := Lib.hid (FX_101.out.dk K); have FY_135 := Lib.hid (FY_102.out.dk K); have FU_136 := Lib.hid (FU_103.out.dk K); have FR_137 := Lib.hid (FR_104.out.dk K); clear K Bp_97 Bh_98 Bfr_99 HB_100 FX_101 FY_102 FU_103 FR_104; have FM_138 := Lib.hid hm; clear hm; have lp := Bp_129.out.lt; obtain ⟨cp0, cp1, cp2⟩ := Bp_129.out.cells3; have lh := Bh_130.out.lt; obtain ⟨ch0, ch1, ch2⟩ := Bh_130.out.cells3; have lfr := Bfr_131.out.lt; obtain ⟨cfr0, cfr1, cfr2⟩ := Bfr_131.out.cells3; have lmp := Bmp_132.out.lt; obtain ⟨cmp0, cmp1, cmp2⟩ := Bmp_132.out.cells3; have fmp0 := Bmp_132.out.free 0; have fmp1 := Bmp_132.out.free 1; have fmp2 := Bmp_132.out.free 2; have cr0 : w_128.cell? ⟨B1, o1 + i * 3, none⟩ = some (.bool x.b) := (HB_133.out.cell (p := ⟨B1, o1 + i * 3, none⟩) hl1).trans X0.out; have cr1 : w_128.cell? ⟨B1, o1 + i * 3 + 1, none⟩ = some (.slice x.A x.n x.c) := (HB_133.out.cell (p := ⟨B1, o1 + i * 3 + 1, none⟩) hl1).trans X1.out; have cr2 : w_128.cell? ⟨B1, o1 + i * 3 + 2, none⟩ = some (.int .i64 ((cornF za (sgB p1) za.m) i).x) := (HB_133.out.cell (p := ⟨B1, o1 + i * 3 + 2, none⟩) hl1).trans X2.out; have k_139 : SX2 (w_128) := (hS2 _).2 ⟨Bp_129.out.cell 0 rfl, Bp_129.out.cell 1 rfl, Bp_129.out.cell 2 rfl, (Below.cell (p := ⟨B1, o1 + i * 3, none⟩) HB_133.out hl1).trans X0.out, (Below.cell (p := ⟨B1, o1 + i * 3 + 1, none⟩) HB_133.out hl1).trans X1.out, (Below.cell (p := ⟨B1, o1 + i * 3 + 2, none⟩) HB_133.out hl1).trans X2.out⟩)
               | (clear tok_109; go_at_call 33; refine calls_at (W := w12.drew) ?_ (by with_reducible rfl); refine (dOf_any _ (p0 * s) (-3) g0 g0' m100a m100b (HT.out.below (below_dr HB_100.out))).mono ?_; rintro e w_110 ⟨⟨m, rfl, hm⟩, hb⟩; clear lp cp0 cp1 cp2 lh ch0 ch1 ch2 lfr cfr0 cfr1 cfr2 cr0 cr1 cr2 k_106 k_107 k_108; have K := Dk.trans ((Dk.refl _).drew) (.below hb); have Bp_111 := Lib.hid (show Bk _ _ _ #[.int .i64 p0, .int .i64 p1, .int .i64 p2] from (Bp_97.out.drew).below hb); have Bh_112 := Lib.hid (show Bk _ _ _ #[.slice (some ⟨gc, 0, none⟩) na na, .slice (some ⟨gg, 0, none⟩) (hull za zb 40).m cg, .slice (some ⟨gr, 0, none⟩) na na] from (Bh_98.out.drew).below hb); have Bfr_113 := Lib.hid (show Bk _ _ _ #[.bool r.b, .slice r.A r.n r.c, .int .i64 ((hull za zb 40).sup (pts (uniD i (D.mk' s 0))) 2000).x] from (Bfr_99.out.drew).below hb); have HB_114 := Lib.hid (below_tr (below_dr HB_100.out) hb); clear hb; have FX_115 := Lib.hid (FX_101.out.dk K); have FY_116 := Lib.hid (FY_102.out.dk K); have FU_117 := Lib.hid (FU_103.out.dk K); have FR_118 := Lib.hid (FR_104.out.dk K); clear K Bp_97 Bh_98 Bfr_99 HB_100 FX_101 FY_102 FU_103 FR_104; have FM_119 := Lib.hid hm; clear hm; have lp := Bp_111.out.lt; obtain ⟨cp0, cp1, cp2⟩ := Bp_111.out.cells3; have lh := Bh_112.out.lt; obtain ⟨ch0, ch1, ch2⟩ := Bh_112.out.cells3; have lfr := Bfr_113.out.lt; obtain ⟨cfr0, cfr1, cfr2⟩ := Bfr_113.out.cells3; have cr0 : w_110.cell? ⟨B1, o1 + i * 3, none⟩ = some (.bool x.b) := (HB_114.out.cell (p := ⟨B1, o1 + i * 3, none⟩) hl1).trans X0.out; have cr1 : w_110.cell? ⟨B1, o1 + i * 3 + 1, none⟩ = some (.slice x.A x.n x.c) := (HB_114.out.cell (p := ⟨B1, o1 + i * 3 + 1, none⟩) hl1).trans X1.out; have cr2 : w_110.cell? ⟨B1, o1 + i * 3 + 2, none⟩ = some (.int .i64 ((cornF za (sgB p1) za.m) i).x) := (HB_114.out.cell (p := ⟨B1, o1 + i * 3 + 2, none⟩) hl1).trans X2.out; have k_120 : SX2 (w_110) := (hS2 _).2 ⟨Bp_111.out.cell 0 rfl, Bp_111.out.cell 1 rfl, Bp_111.out.cell 2 rfl, (Below.cell (p := ⟨B1, o1 + i * 3, none⟩) HB_114.out hl1).trans X0.out, (Below.cell (p := ⟨B1, o1 + i * 3 + 1, none⟩) HB_114.out hl1).trans X1.out, (Below.cell (p := ⟨B1, o1 + i * 3 + 2, none⟩) HB_114.out hl1).trans X2.out⟩; have k_121 : SX2 (w_110.alloc (.cells #[.bool false, .slice none 0 0, .int .i64 0] 53)) := (hS2 _).2 ⟨(Bp_111.out.alloc _).cell 0 rfl, (Bp_111.out.alloc _).cell 1 rfl, (Bp_111.out.alloc _).cell 2 rfl, (Below.cell (p := ⟨B1, o1 + i * 3, none⟩) (below_al HB_114.out _) hl1).trans X0.out, (Below.cell (p := ⟨B1, o1 + i * 3 + 1, none⟩) (below_al HB_114.out _) hl1).trans X1.out, (Below.cell (p := ⟨B1, o1 + i * 3 + 2, none⟩) (below_al HB_114.out _) hl1).trans X2.out⟩))
            all_goals (go_wp2_with fail; go_meet; first | (have y0 := Bp_143.out.lt; have y1 := Bh_144.out.lt; have y2 := Bfr_145.out.lt; have y3 := HB_146.out.size; exact ⟨w_142.heap.size, pp, rfl, (by omega), (by omega), (by omega), (Bk.new _ 53 #[.bool pp.b, .slice pp.A pp.n pp.c, .int .i64 (((cornF za (sgB p1) za.m) i).mul (D.mk' (p0 * s) (-3))).x]), (Bp_143.out.alloc _), (Bh_144.out.alloc _), (Bfr_145.out.alloc _), (below_al HB_146.out _), (FX_147.out.dk ((Dk.refl _).alloc _)), (FY_148.out.dk ((Dk.refl _).alloc _)), (FR_150.out.dk ((Dk.refl _).alloc _)), (FP_152.out.dk ((Dk.refl _).alloc _))⟩) | (have y0 := Bp_166.out.lt; have y1 := Bh_167.out.lt; have y2 := Bfr_168.out.lt; have y3 := Bmp_169.out.lt; have y4 := HB_170.out.size; exact ⟨w_110.heap.size, pp, rfl, (by omega), (by omega), (by omega), (((Bmp_169.out.set 0 (.bool pp.b)).set 1 (.slice pp.A pp.n pp.c)).set 2 (.int .i64 (((cornF za (sgB p1) za.m) i).mul (D.mk' (p0 * s) (-3))).x)), (((Bp_166.out.ne (by omega) 0 (.bool pp.b)).ne (by omega) 1 (.slice pp.A pp.n pp.c)).ne (by omega) 2 (.int .i64 (((cornF za (sgB p1) za.m) i).mul (D.mk' (p0 * s) (-3))).x)), (((Bh_167.out.ne (by omega) 0 (.bool pp.b)).ne (by omega) 1 (.slice pp.A pp.n pp.c)).ne (by omega) 2 (.int .i64 (((cornF za (sgB p1) za.m) i).mul (D.mk' (p0 * s) (-3))).x)), (((Bfr_168.out.ne (by omega) 0 (.bool pp.b)).ne (by omega) 1 (.slice pp.A pp.n pp.c)).ne (by omega) 2 (.int .i64 (((cornF za (sgB p1) za.m) i).mul (D.mk' (p0 * s) (-3))).x)), (below_st (below_st (below_st HB_170.out 0 (by omega) (.bool pp.b)) 1 (by omega) (.slice pp.A pp.n pp.c)) 2 (by omega) (.int .i64 (((cornF za (sgB p1) za.m) i).mul (D.mk' (p0 * s) (-3))).x)), (FX_171.out.dk ((((Dk.refl _).set (cs := #[.bool false, .slice none 0 0, .int .i64 0]) Bmp_169.out 0 (by intro _ hh; cases hh) (.bool pp.b)).set (cs := #[.bool pp.b, .slice none 0 0, .int .i64 0]) (Bmp_169.out.set 0 (.bool pp.b)) 1 (by intro _ hh; cases hh) (.slice pp.A pp.n pp.c)).set (cs := #[.bool pp.b, .slice pp.A pp.n pp.c, .int .i64 0]) ((Bmp_169.out.set 0 (.bool pp.b)).set 1 (.slice pp.A pp.n pp.c)) 2 (by intro _ hh; cases hh) (.int .i64 (((cornF za (sgB p1) za.m) i).mul (D.mk' (p0 * s) (-3))).x))), (FY_172.out.dk ((((Dk.refl _).set (cs := #[.bool false, .slice none 0 0, .int .i64 0]) Bmp_169.out 0 (by intro _ hh; cases hh) (.bool pp.b)).set (cs := #[.bool pp.b, .slice none 0 0, .int .i64 0]) (Bmp_169.out.set 0 (.bool pp.b)) 1 (by intro _ hh; cases hh) (.slice pp.A pp.n pp.c)).set (cs := #[.bool pp.b, .slice pp.A pp.n pp.c, .int .i64 0]) ((Bmp_169.out.set 0 (.bool pp.b)).set 1 (.slice pp.A pp.n pp.c)) 2 (by intro _ hh; cases hh) (.int .i64 (((cornF za (sgB p1) za.m) i).mul (D.mk' (p0 * s) (-3))).x))), (FR_174.out.dk ((((Dk.refl _).set (cs := #[.bool false, .slice none 0 0, .int .i64 0]) Bmp_169.out 0 (by intro _ hh; cases hh) (.bool pp.b)).set (cs := #[.bool pp.b, .slice none 0 0, .int .i64 0]) (Bmp_169.out.set 0 (.bool pp.b)) 1 (by intro _ hh; cases hh) (.slice pp.A pp.n pp.c)).set (cs := #[.bool pp.b, .slice pp.A pp.n pp.c, .int .i64 0]) ((Bmp_169.out.set 0 (.bool pp.b)).set 1 (.slice pp.A pp.n pp.c)) 2 (by intro _ hh; cases hh) (.int .i64 (((cornF za (sgB p1) za.m) i).mul (D.mk' (p0 * s) (-3))).x))), (FP_176.out.dk ((((Dk.refl _).set (cs := #[.bool false, .slice none 0 0, .int .i64 0]) Bmp_169.out 0 (by intro _ hh; cases hh) (.bool pp.b)).set (cs := #[.bool pp.b, .slice none 0 0, .int .i64 0]) (Bmp_169.out.set 0 (.bool pp.b)) 1 (by intro _ hh; cases hh) (.slice pp.A pp.n pp.c)).set (cs := #[.bool pp.b, .slice pp.A pp.n pp.c, .int .i64 0]) ((Bmp_169.out.set 0 (.bool pp.b)).set 1 (.slice pp.A pp.n pp.c)) 2 (by intro _ hh; cases hh) (.int .i64 (((cornF za (sgB p1) za.m) i).mul (D.mk' (p0 * s) (-3))).x)))⟩) | (have y0 := Bp_182.out.lt; have y1 := Bh_183.out.lt; have y2 := Bfr_184.out.lt; have y3 := Bmp_185.out.lt; have y4 := HB_186.out.size; exact ⟨w12.heap.size, pp, rfl, (by omega), (by omega), (by omega), (((Bmp_185.out.set 0 (.bool pp.b)).set 1 (.slice pp.A pp.n pp.c)).set 2 (.int .i64 (((cornF za (sgB p1) za.m) i).mul (D.mk' (p0 * s) (-3))).x)), (((Bp_182.out.ne (by omega) 0 (.bool pp.b)).ne (by omega) 1 (.slice pp.A pp.n pp.c)).ne (by omega) 2 (.int .i64 (((cornF za (sgB p1) za.m) i).mul (D.mk' (p0 * s) (-3))).x)), (((Bh_183.out.ne (by omega) 0 (.bool pp.b)).ne (by omega) 1 (.slice pp.A pp.n pp.c)).ne (by omega) 2 (.int .i64 (((cornF za (sgB p1) za.m) i).mul (D.mk' (p0 * s) (-3))).x)), (((Bfr_184.out.ne (by omega) 0 (.bool pp.b)).ne (by omega) 1 (.slice pp.A pp.n pp.c)).ne (by omega) 2 (.int .i64 (((cornF za (sgB p1) za.m) i).mul (D.mk' (p0 * s) (-3))).x)), (below_st (below_st (below_st HB_186.out 0 (by omega) (.bool pp.b)) 1 (by omega) (.slice pp.A pp.n pp.c)) 2 (by omega) (.int .i64 (((cornF za (sgB p1) za.m) i).mul (D.mk' (p0 * s) (-3))).x)), (FX_187.out.dk ((((Dk.refl _).set (cs := #[.bool false, .slice none 0 0, .int .i64 0]) Bmp_185.out 0 (by intro _ hh; cases hh) (.bool pp.b)).set (cs := #[.bool pp.b, .slice none 0 0, .int .i64 0]) (Bmp_185.out.set 0 (.bool pp.b)) 1 (by intro _ hh; cases hh) (.slice pp.A pp.n pp.c)).set (cs := #[.bool pp.b, .slice pp.A pp.n pp.c, .int .i64 0]) ((Bmp_185.out.set 0 (.bool pp.b)).set 1 (.slice pp.A pp.n pp.c)) 2 (by intro _ hh; cases hh) (.int .i64 (((cornF za (sgB p1) za.m) i).mul (D.mk' (p0 * s) (-3))).x))), (FY_188.out.dk ((((Dk.refl _).set (cs := #[.bool false, .slice none 0 0, .int .i64 0]) Bmp_185.out 0 (by intro _ hh; cases hh) (.bool pp.b)).set (cs := #[.bool pp.b, .slice none 0 0, .int .i64 0]) (Bmp_185.out.set 0 (.bool pp.b)) 1 (by intro _ hh; cases hh) (.slice pp.A pp.n pp.c)).set (cs := #[.bool pp.b, .slice pp.A pp.n pp.c, .int .i64 0]) ((Bmp_185.out.set 0 (.bool pp.b)).set 1 (.slice pp.A pp.n pp.c)) 2 (by intro _ hh; cases hh) (.int .i64 (((cornF za (sgB p1) za.m) i).mul (D.mk' (p0 * s) (-3))).x))), (FR_190.out.dk ((((Dk.refl _).set (cs := #[.bool false, .slice none 0 0, .int .i64 0]) Bmp_185.out 0 (by intro _ hh; cases hh) (.bool pp.b)).set (cs := #[.bool pp.b, .slice none 0 0, .int .i64 0]) (Bmp_185.out.set 0 (.bool pp.b)) 1 (by intro _ hh; cases hh) (.slice pp.A pp.n pp.c)).set (cs := #[.bool pp.b, .slice pp.A pp.n pp.c, .int .i64 0]) ((Bmp_185.out.set 0 (.bool pp.b)).set 1 (.slice pp.A pp.n pp.c)) 2 (by intro _ hh; cases hh) (.int .i64 (((cornF za (sgB p1) za.m) i).mul (D.mk' (p0 * s) (-3))).x))), (FP_192.out.dk ((((Dk.refl _).set (cs := #[.bool false, .slice none 0 0, .int .i64 0]) Bmp_185.out 0 (by intro _ hh; cases hh) (.bool pp.b)).set (cs := #[.bool pp.b, .slice none 0 0, .int .i64 0]) (Bmp_185.out.set 0 (.bool pp.b)) 1 (by intro _ hh; cases hh) (.slice pp.A pp.n pp.c)).set (cs := #[.bool pp.b, .slice pp.A pp.n pp.c, .int .i64 0]) ((Bmp_185.out.set 0 (.bool pp.b)).set 1 (.slice pp.A pp.n pp.c)) 2 (by intro _ hh; cases hh) (.int .i64 (((cornF za (sgB p1) za.m) i).mul (D.mk' (p0 * s) (-3))).x)))⟩))
          case rest =>
            clear lp cp0 cp1 cp2 lh ch0 ch1 ch2 lfr cfr0 cfr1 cfr2 cr0 cr1 cr2
            clear Bp_97 Bh_98 Bfr_99 FX_101 FY_102 FU_103 FR_104 HB_100
            obtain ⟨w_197, rfl⟩ : ∃ x, x = wc := ⟨_, rfl⟩
            obtain ⟨g_105, pp, rfl, nn0, nn1, nn2, bz, bo0, bo1, bo2, hbel, hf0, hf1, hf2, hf3⟩ := hcut
            have Bp_198 := Lib.hid bo0
            have n_199 := nn0
            have Bh_200 := Lib.hid bo1
            have n_201 := nn1
            have Bfr_202 := Lib.hid bo2
            have n_203 := nn2
            have Bmp_204 := Lib.hid bz
            have HB_204 := Lib.hid hbel
            have FX_206 := Lib.hid hf0
            have FY_207 := Lib.hid hf1
            have FR_208 := Lib.hid hf2
            have FP_209 := Lib.hid hf3
            clear nn0 nn1 nn2 bz bo0 bo1 bo2 hbel hf0 hf1 hf2 hf3
            have lp := Bp_198.out.lt
            obtain ⟨cp0, cp1, cp2⟩ := Bp_198.out.cells3
            have lh := Bh_200.out.lt
            obtain ⟨ch0, ch1, ch2⟩ := Bh_200.out.cells3
            have lfr := Bfr_202.out.lt
            obtain ⟨cfr0, cfr1, cfr2⟩ := Bfr_202.out.cells3
            have lmp := Bmp_204.out.lt
            obtain ⟨cmp0, cmp1, cmp2⟩ := Bmp_204.out.cells3
            have cr0 : w_197.cell? ⟨B1, o1 + i * 3, none⟩ = some (.bool x.b) := (HB_204.out.cell (p := ⟨B1, o1 + i * 3, none⟩) hl1).trans X0.out
            have cr1 : w_197.cell? ⟨B1, o1 + i * 3 + 1, none⟩ = some (.slice x.A x.n x.c) := (HB_204.out.cell (p := ⟨B1, o1 + i * 3 + 1, none⟩) hl1).trans X1.out
            have cr2 : w_197.cell? ⟨B1, o1 + i * 3 + 2, none⟩ = some (.int .i64 ((cornF za (sgB p1) za.m) i).x) := (HB_204.out.cell (p := ⟨B1, o1 + i * 3 + 2, none⟩) hl1).trans X2.out
            go_wp2_with fail
            have hxy1 := Lib.hid (mul_ok8 (LY.out i hi2) (show -8 ≤ ((8 - p0) * s) by omega) (show ((8 - p0) * s) ≤ 8 by omega))
            have g1 : -9223372036854775808 ≤ ((8 - p0) * s) := by omega
            have g1' : ((8 - p0) * s) ≤ 9223372036854775807 := by omega
            go_upto_region 20 with (fail)
            clear lp cp0 cp1 cp2 lh ch0 ch1 ch2 lfr cfr0 cfr1 cfr2 lmp cmp0 cmp1 cmp2 cr0 cr1 cr2
            have lp := Bp_198.out.lt
            obtain ⟨cp0, cp1, cp2⟩ := Bp_198.out.cells3
            have lh := Bh_200.out.lt
            obtain ⟨ch0, ch1, ch2⟩ := Bh_200.out.cells3
            have lfr := Bfr_202.out.lt
            obtain ⟨cfr0, cfr1, cfr2⟩ := Bfr_202.out.cells3
            have lmp := Bmp_204.out.lt
            obtain ⟨cmp0, cmp1, cmp2⟩ := Bmp_204.out.cells3
            have cr0 : w_197.cell? ⟨B2, o2 + i * 3, none⟩ = some (.bool y.b) := (HB_204.out.cell (p := ⟨B2, o2 + i * 3, none⟩) hl2).trans Y0.out
            have cr1 : w_197.cell? ⟨B2, o2 + i * 3 + 1, none⟩ = some (.slice y.A y.n y.c) := (HB_204.out.cell (p := ⟨B2, o2 + i * 3 + 1, none⟩) hl2).trans Y1.out
            have cr2 : w_197.cell? ⟨B2, o2 + i * 3 + 2, none⟩ = some (.int .i64 ((cornF zb (sgB p2) zb.m) i).x) := (HB_204.out.cell (p := ⟨B2, o2 + i * 3 + 2, none⟩) hl2).trans Y2.out
            go_cut [20] (fun s20 wx => ∃ (g_210 : Nat) (qq : Q), s20 = .pointer (some ⟨g_210, 0, none⟩) ∧ w.heap.size + 2 < g_210 ∧ w4.heap.size < g_210 ∧ w11.heap.size < g_210 ∧ g_105 < g_210 ∧ Bk wx g_210 53 #[.bool qq.b, .slice qq.A qq.n qq.c, .int .i64 (((cornF zb (sgB p2) zb.m) i).mul (D.mk' ((8 - p0) * s) (-3))).x] ∧ Bk wx (w.heap.size + 2) 86 #[.int .i64 p0, .int .i64 p1, .int .i64 p2] ∧ Bk wx (w4.heap.size) 42 #[.slice (some ⟨gc, 0, none⟩) na na, .slice (some ⟨gg, 0, none⟩) (hull za zb 40).m cg, .slice (some ⟨gr, 0, none⟩) na na] ∧ Bk wx (w11.heap.size) 53 #[.bool r.b, .slice r.A r.n r.c, .int .i64 ((hull za zb 40).sup (pts (uniD i (D.mk' s 0))) 2000).x] ∧ Bk wx (g_105) 53 #[.bool pp.b, .slice pp.A pp.n pp.c, .int .i64 (((cornF za (sgB p1) za.m) i).mul (D.mk' (p0 * s) (-3))).x] ∧ Below w8.heap.size w8 wx ∧ RD wx x ((cornF za (sgB p1) za.m) i) ∧ RD wx y ((cornF zb (sgB p2) zb.m) i) ∧ RD wx r ((hull za zb 40).sup (pts (uniD i (D.mk' s 0))) 2000) ∧ RD wx pp (((cornF za (sgB p1) za.m) i).mul (D.mk' (p0 * s) (-3))) ∧ RD wx qq (((cornF zb (sgB p2) zb.m) i).mul (D.mk' ((8 - p0) * s) (-3))))
            case first =>
              obtain ⟨SX3, hS3⟩ : ∃ S : World → Prop, ∀ w', S w' ↔ (w'.cell? ⟨w.heap.size + 2, 0, none⟩ = some (.int .i64 p0) ∧ w'.cell? ⟨w.heap.size + 2, 1, none⟩ = some (.int .i64 p1) ∧ w'.cell? ⟨w.heap.size + 2, 2, none⟩ = some (.int .i64 p2) ∧ w'.cell? ⟨B2, o2 + i * 3, none⟩ = some (.bool y.b) ∧ w'.cell? ⟨B2, o2 + i * 3 + 1, none⟩ = some (.slice y.A y.n y.c) ∧ w'.cell? ⟨B2, o2 + i * 3 + 2, none⟩ = some (.int .i64 ((cornF zb (sgB p2) zb.m) i).x)) := ⟨_, fun _ => Iff.rfl⟩
              have k_211 : SX3 (w_197) := (hS3 _).2 ⟨Bp_198.out.cell 0 rfl, Bp_198.out.cell 1 rfl, Bp_198.out.cell 2 rfl, (Below.cell (p := ⟨B2, o2 + i * 3, none⟩) HB_204.out hl2).trans Y0.out, (Below.cell (p := ⟨B2, o2 + i * 3 + 1, none⟩) HB_204.out hl2).trans Y1.out, (Below.cell (p := ⟨B2, o2 + i * 3 + 2, none⟩) HB_204.out hl2).trans Y2.out⟩
              have k_212 : SX3 (w_197.drew) := (hS3 _).2 ⟨(Bp_198.out.drew).cell 0 rfl, (Bp_198.out.drew).cell 1 rfl, (Bp_198.out.drew).cell 2 rfl, (Below.cell (p := ⟨B2, o2 + i * 3, none⟩) (below_dr HB_204.out) hl2).trans Y0.out, (Below.cell (p := ⟨B2, o2 + i * 3 + 1, none⟩) (below_dr HB_204.out) hl2).trans Y1.out, (Below.cell (p := ⟨B2, o2 + i * 3 + 2, none⟩) (below_dr HB_204.out) hl2).trans Y2.out⟩
              have k_213 : SX3 ((w_197.alloc (.cells #[.bool false, .slice none 0 0, .int .i64 0] 53)).drew) := (hS3 _).2 ⟨((Bp_198.out.alloc _).drew).cell 0 rfl, ((Bp_198.out.alloc _).drew).cell 1 rfl, ((Bp_198.out.alloc _).drew).cell 2 rfl, (Below.cell (p := ⟨B2, o2 + i * 3, none⟩) (below_dr (below_al HB_204.out _)) hl2).trans Y0.out, (Below.cell (p := ⟨B2, o2 + i * 3 + 1, none⟩) (below_dr (below_al HB_204.out _)) hl2).trans Y1.out, (Below.cell (p := ⟨B2, o2 + i * 3 + 2, none⟩) (below_dr (below_al HB_204.out _)) hl2).trans Y2.out⟩
              have tok_214 : True := trivial
              have tok_229 : True := trivial
              have tok_249 : True := trivial
              have tok_270 : True := trivial
              have tok_292 : True := trivial
              go_region_held3 (fun w' => w'.cell? ⟨w.heap.size + 2, 0, none⟩ = some (.int .i64 p0) ∧ w'.cell? ⟨w.heap.size + 2, 1, none⟩ = some (.int .i64 p1) ∧ w'.cell? ⟨w.heap.size + 2, 2, none⟩ = some (.int .i64 p2) ∧ w'.cell? ⟨B2, o2 + i * 3, none⟩ = some (.bool y.b) ∧ w'.cell? ⟨B2, o2 + i * 3 + 1, none⟩ = some (.slice y.A y.n y.c) ∧ w'.cell? ⟨B2, o2 + i * 3 + 2, none⟩ = some (.int .i64 ((cornF zb (sgB p2) zb.m) i).x)) (first | with_reducible exact (hS3 _).1 k_211 | with_reducible exact (hS3 _).1 k_212 | with_reducible exact (hS3 _).1 k_213 | with_reducible exact (hS3 _).1 k_226 | with_reducible exact (hS3 _).1 k_227 | with_reducible exact (hS3 _).1 k_247 | with_reducible exact (hS3 _).1 k_262 | with_reducible exact (hS3 _).1 k_267 | with_reducible exact (hS3 _).1 k_268 | with_reducible exact (hS3 _).1 k_289 | with_reducible exact (hS3 _).1 k_290 | with_reducible exact (hS3 _).1 k_306 | with_reducible exact (hS3 _).1 k_307)
                (first
                 | (clear tok_292; go_at_call 51; refine calls_at (W := w_235) ?_ (by with_reducible rfl); refine (dmul_any _ y m ((cornF zb (sgB p2) zb.m) i) (D.mk' ((8 - p0) * s) (-3)) FY_243.out FM_246.out hxy1.out (HT.out.below HB_241.out)).mono ?_; rintro e w_293 ⟨⟨qq, rfl, hm⟩, hb⟩; clear lp cp0 cp1 cp2 lh ch0 ch1 ch2 lfr cfr0 cfr1 cfr2 lmp cmp0 cmp1 cmp2 lmq cmq0 cmq1 cmq2 fmq0 fmq1 fmq2 cr0 cr1 cr2 k_247; have K := Dk.below hb; have Bp_294 := Lib.hid (show Bk _ _ _ #[.int .i64 p0, .int .i64 p1, .int .i64 p2] from Bp_236.out.below hb); have Bh_295 := Lib.hid (show Bk _ _ _ #[.slice (some ⟨gc, 0, none⟩) na na, .slice (some ⟨gg, 0, none⟩) (hull za zb 40).m cg, .slice (some ⟨gr, 0, none⟩) na na] from Bh_237.out.below hb); have Bfr_296 := Lib.hid (show Bk _ _ _ #[.bool r.b, .slice r.A r.n r.c, .int .i64 ((hull za zb 40).sup (pts (uniD i (D.mk' s 0))) 2000).x] from Bfr_238.out.below hb); have Bmp_297 := Lib.hid (show Bk _ _ _ #[.bool pp.b, .slice pp.A pp.n pp.c, .int .i64 (((cornF za (sgB p1) za.m) i).mul (D.mk' (p0 * s) (-3))).x] from Bmp_239.out.below hb); have Bmq_298 := Lib.hid (show Bk _ _ _ #[.bool false, .slice none 0 0, .int .i64 0] from Bmq_240.out.below hb); have HB_299 := Lib.hid (below_tr HB_241.out hb); clear hb; have FX_300 := Lib.hid (FX_242.out.dk K); have FY_301 := Lib.hid (FY_243.out.dk K); have FR_302 := Lib.hid (FR_244.out.dk K); have FP_303 := Lib.hid (FP_245.out.dk K); have FM_304 := Lib.hid (FM_246.out.dk K); clear K Bp_236 Bh_237 Bfr_238 Bmp_239 Bmq_240 HB_241 FX_242 FY_243 FR_244 FP_245 FM_246; have FQ_305 := Lib.hid hm; clear hm; have lp := Bp_294.out.lt; obtain ⟨cp0, cp1, cp2⟩ := Bp_294.out.cells3; have lh := Bh_295.out.lt; obtain ⟨ch0, ch1, ch2⟩ := Bh_295.out.cells3; have lfr := Bfr_296.out.lt; obtain ⟨cfr0, cfr1, cfr2⟩ := Bfr_296.out.cells3; have lmp := Bmp_297.out.lt; obtain ⟨cmp0, cmp1, cmp2⟩ := Bmp_297.out.cells3; have lmq := Bmq_298.out.lt; obtain ⟨cmq0, cmq1, cmq2⟩ := Bmq_298.out.cells3; have fmq0 := Bmq_298.out.free 0; have fmq1 := Bmq_298.out.free 1; have fmq2 := Bmq_298.out.free 2; have cr0 : w_293.cell? ⟨B2, o2 + i * 3, none⟩ = some (.bool y.b) := (HB_299.out.cell (p := ⟨B2, o2 + i * 3, none⟩) hl2).trans Y0.out; have cr1 : w_293.cell? ⟨B2, o2 + i * 3 + 1, none⟩ = some (.slice y.A y.n y.c) := (HB_299.out.cell (p := ⟨B2, o2 + i * 3 + 1, none⟩) hl2).trans Y1.out; have cr2 : w_293.cell? ⟨B2, o2 + i * 3 + 2, none⟩ = some (.int .i64 ((cornF zb (sgB p2) zb.m) i).x) := (HB_299.out.cell (p := ⟨B2, o2 + i * 3 + 2, none⟩) hl2).trans Y2.out; have k_306 : SX3 (w_293) := (hS3 _).2 ⟨Bp_294.out.cell 0 rfl, Bp_294.out.cell 1 rfl, Bp_294.out.cell 2 rfl, (Below.cell (p := ⟨B2, o2 + i * 3, none⟩) HB_299.out hl2).trans Y0.out, (Below.cell (p := ⟨B2, o2 + i * 3 + 1, none⟩) HB_299.out hl2).trans Y1.out, (Below.cell (p := ⟨B2, o2 + i * 3 + 2, none⟩) HB_299.out hl2).trans Y2.out⟩; have y0 := Bp_294.out.lt; have y1 := Bh_295.out.lt; have y2 := Bfr_296.out.lt; have y3 := Bmp_297.out.lt; have y4 := Bmq_298.out.lt; have y5 := HB_299.out.size; have k_307 : SX3 (((w_293.setCell ⟨w_197.heap.size, 0, none⟩ (.bool qq.b)).setCell ⟨w_197.heap.size, 1, none⟩ (.slice qq.A qq.n qq.c)).setCell ⟨w_197.heap.size, 2, none⟩ (.int .i64 (((cornF zb (sgB p2) zb.m) i).mul (D.mk' ((8 - p0) * s) (-3))).x)) := (hS3 _).2 ⟨(((Bp_294.out.ne (by omega) 0 (.bool qq.b)).ne (by omega) 1 (.slice qq.A qq.n qq.c)).ne (by omega) 2 (.int .i64 (((cornF zb (sgB p2) zb.m) i).mul (D.mk' ((8 - p0) * s) (-3))).x)).cell 0 rfl, (((Bp_294.out.ne (by omega) 0 (.bool qq.b)).ne (by omega) 1 (.slice qq.A qq.n qq.c)).ne (by omega) 2 (.int .i64 (((cornF zb (sgB p2) zb.m) i).mul (D.mk' ((8 - p0) * s) (-3))).x)).cell 1 rfl, (((Bp_294.out.ne (by omega) 0 (.bool qq.b)).ne (by omega) 1 (.slice qq.A qq.n qq.c)).ne (by omega) 2 (.int .i64 (((cornF zb (sgB p2) zb.m) i).mul (D.mk' ((8 - p0) * s) (-3))).x)).cell 2 rfl, (Below.cell (p := ⟨B2, o2 + i * 3, none⟩) (below_st (below_st (below_st HB_299.out 0 (by omega) (.bool qq.b)) 1 (by omega) (.slice qq.A qq.n qq.c)) 2 (by omega) (.int .i64 (((cornF zb (sgB p2) zb.m) i).mul (D.mk' ((8 - p0) * s) (-3))).x)) hl2).trans Y0.out, (Below.cell (p := ⟨B2, o2 + i * 3 + 1, none⟩) (below_st (below_st (below_st HB_299.out 0 (by omega) (.bool qq.b)) 1 (by omega) (.slice qq.A qq.n qq.c)) 2 (by omega) (.int .i64 (((cornF zb (sgB p2) zb.m) i).mul (D.mk' ((8 - p0) * s) (-3))).x)) hl2).trans Y1.out, (Below.cell (p := ⟨B2, o2 + i * 3 + 2, none⟩) (below_st (below_st (below_st HB_299.out 0 (by omega) (.bool qq.b)) 1 (by omega) (.slice qq.A qq.n qq.c)) 2 (by omega) (.int .i64 (((cornF zb (sgB p2) zb.m) i).mul (D.mk' ((8 - p0) * s) (-3))).x)) hl2).trans Y2.out⟩; clear y0 y1 y2 y3 y4 y5)
                 | (clear tok_270; go_at_call 51; refine calls_at (W := w_215.alloc (.cells #[.bool false, .slice none 0 0, .int .i64 0] 53)) ?_ (by with_reducible rfl); have n_271 := Bp_216.out.lt; have n_272 := Bh_217.out.lt; have n_273 := Bfr_218.out.lt; have n_274 := Bmp_219.out.lt; have n_275 := HB_220.out.size; refine (dmul_any _ y m ((cornF zb (sgB p2) zb.m) i) (D.mk' ((8 - p0) * s) (-3)) (FY_222.out.dk ((Dk.refl _).alloc _)) (FM_225.out.dk ((Dk.refl _).alloc _)) hxy1.out (HT.out.below (below_al HB_220.out _))).mono ?_; rintro e w_276 ⟨⟨qq, rfl, hm⟩, hb⟩; clear lp cp0 cp1 cp2 lh ch0 ch1 ch2 lfr cfr0 cfr1 cfr2 lmp cmp0 cmp1 cmp2 cr0 cr1 cr2 k_226 k_227; have K := Dk.trans ((Dk.refl _).alloc _) (.below hb); have Bp_277 := Lib.hid (show Bk _ _ _ #[.int .i64 p0, .int .i64 p1, .int .i64 p2] from (Bp_216.out.alloc _).below hb); have Bh_278 := Lib.hid (show Bk _ _ _ #[.slice (some ⟨gc, 0, none⟩) na na, .slice (some ⟨gg, 0, none⟩) (hull za zb 40).m cg, .slice (some ⟨gr, 0, none⟩) na na] from (Bh_217.out.alloc _).below hb); have Bfr_279 := Lib.hid (show Bk _ _ _ #[.bool r.b, .slice r.A r.n r.c, .int .i64 ((hull za zb 40).sup (pts (uniD i (D.mk' s 0))) 2000).x] from (Bfr_218.out.alloc _).below hb); have Bmp_280 := Lib.hid (show Bk _ _ _ #[.bool pp.b, .slice pp.A pp.n pp.c, .int .i64 (((cornF za (sgB p1) za.m) i).mul (D.mk' (p0 * s) (-3))).x] from (Bmp_219.out.alloc _).below hb); have Bmq_281 := Lib.hid (show Bk _ _ _ #[.bool false, .slice none 0 0, .int .i64 0] from (Bk.new _ 53 #[.bool false, .slice none 0 0, .int .i64 0]).below hb); have HB_282 := Lib.hid (below_tr (below_al HB_220.out _) hb); clear hb; have FX_283 := Lib.hid (FX_221.out.dk K); have FY_284 := Lib.hid (FY_222.out.dk K); have FR_285 := Lib.hid (FR_223.out.dk K); have FP_286 := Lib.hid (FP_224.out.dk K); have FM_287 := Lib.hid (FM_225.out.dk K); clear K Bp_216 Bh_217 Bfr_218 Bmp_219 HB_220 FX_221 FY_222 FR_223 FP_224 FM_225; have FQ_288 := Lib.hid hm; clear hm; have lp := Bp_277.out.lt; obtain ⟨cp0, cp1, cp2⟩ := Bp_277.out.cells3; have lh := Bh_278.out.lt; obtain ⟨ch0, ch1, ch2⟩ := Bh_278.out.cells3; have lfr := Bfr_279.out.lt; obtain ⟨cfr0, cfr1, cfr2⟩ := Bfr_279.out.cells3; have lmp := Bmp_280.out.lt; obtain ⟨cmp0, cmp1, cmp2⟩ := Bmp_280.out.cells3; have lmq := Bmq_281.out.lt; obtain ⟨cmq0, cmq1, cmq2⟩ := Bmq_281.out.cells3; have fmq0 := Bmq_281.out.free 0; have fmq1 := Bmq_281.out.free 1; have fmq2 := Bmq_281.out.free 2; have cr0 : w_276.cell? ⟨B2, o2 + i * 3, none⟩ = some (.bool y.b) := (HB_282.out.cell (p := ⟨B2, o2 + i * 3, none⟩) hl2).trans Y0.out; have cr1 : w_276.cell? ⟨B2, o2 + i * 3 + 1, none⟩ = some (.slice y.A y.n y.c) := (HB_282.out.cell (p := ⟨B2, o2 + i * 3 + 1, none⟩) hl2).trans Y1.out; have cr2 : w_276.cell? ⟨B2, o2 + i * 3 + 2, none⟩ = some (.int .i64 ((cornF zb (sgB p2) zb.m) i).x) := (HB_282.out.cell (p := ⟨B2, o2 + i * 3 + 2, none⟩) hl2).trans Y2.out; have k_289 : SX3 (w_276) := (hS3 _).2 ⟨Bp_277.out.cell 0 rfl, Bp_277.out.cell 1 rfl, Bp_277.out.cell 2 rfl, (Below.cell (p := ⟨B2, o2 + i * 3, none⟩) HB_282.out hl2).trans Y0.out, (Below.cell (p := ⟨B2, o2 + i * 3 + 1, none⟩) HB_282.out hl2).trans Y1.out, (Below.cell (p := ⟨B2, o2 + i * 3 + 2, none⟩) HB_282.out hl2).trans Y2.out⟩; have y0 := Bp_277.out.lt; have y1 := Bh_278.out.lt; have y2 := Bfr_279.out.lt; have y3 := Bmp_280.out.lt; have y4 := Bmq_281.out.lt; have y5 := HB_282.out.size; have k_290 : SX3 (((w_276.setCell ⟨w_215.heap.size, 0, none⟩ (.bool qq.b)).setCell ⟨w_215.heap.size, 1, none⟩ (.slice qq.A qq.n qq.c)).setCell ⟨w_215.heap.size, 2, none⟩ (.int .i64 (((cornF zb (sgB p2) zb.m) i).mul (D.mk' ((8 - p0) * s) (-3))).x)) := (hS3 _).2 ⟨(((Bp_277.out.ne (by omega) 0 (.bool qq.b)).ne (by omega) 1 (.slice qq.A qq.n qq.c)).ne (by omega) 2 (.int .i64 (((cornF zb (sgB p2) zb.m) i).mul (D.mk' ((8 - p0) * s) (-3))).x)).cell 0 rfl, (((Bp_277.out.ne (by omega) 0 (.bool qq.b)).ne (by omega) 1 (.slice qq.A qq.n qq.c)).ne (by omega) 2 (.int .i64 (((cornF zb (sgB p2) zb.m) i).mul (D.mk' ((8 - p0) * s) (-3))).x)).cell 1 rfl, (((Bp_277.out.ne (by omega) 0 (.bool qq.b)).ne (by omega) 1 (.slice qq.A qq.n qq.c)).ne (by omega) 2 (.int .i64 (((cornF zb (sgB p2) zb.m) i).mul (D.mk' ((8 - p0) * s) (-3))).x)).cell 2 rfl, (Below.cell (p := ⟨B2, o2 + i * 3, none⟩) (below_st (below_st (below_st HB_282.out 0 (by omega) (.bool qq.b)) 1 (by omega) (.slice qq.A qq.n qq.c)) 2 (by omega) (.int .i64 (((cornF zb (sgB p2) zb.m) i).mul (D.mk' ((8 - p0) * s) (-3))).x)) hl2).trans Y0.out, (Below.cell (p := ⟨B2, o2 + i * 3 + 1, none⟩) (below_st (below_st (below_st HB_282.out 0 (by omega) (.bool qq.b)) 1 (by omega) (.slice qq.A qq.n qq.c)) 2 (by omega) (.int .i64 (((cornF zb (sgB p2) zb.m) i).mul (D.mk' ((8 - p0) * s) (-3))).x)) hl2).trans Y1.out, (Below.cell (p := ⟨B2, o2 + i * 3 + 2, none⟩) (below_st (below_st (below_st HB_282.out 0 (by omega) (.bool qq.b)) 1 (by omega) (.slice qq.A qq.n qq.c)) 2 (by omega) (.int .i64 (((cornF zb (sgB p2) zb.m) i).mul (D.mk' ((8 - p0) * s) (-3))).x)) hl2).trans Y2.out⟩; clear y0 y1 y2 y3 y4 y5)
                 | (clear tok_249; go_at_call 51; refine calls_at (W := w_215) ?_ (by with_reducible rfl); refine (dmul_any _ y m ((cornF zb (sgB p2) zb.m) i) (D.mk' ((8 - p0) * s) (-3)) FY_222.out FM_225.out hxy1.out (HT.out.below HB_220.out)).mono ?_; rintro e w_250 ⟨⟨qq, rfl, hm⟩, hb⟩; clear lp cp0 cp1 cp2 lh ch0 ch1 ch2 lfr cfr0 cfr1 cfr2 lmp cmp0 cmp1 cmp2 cr0 cr1 cr2 k_226 k_227; have K := Dk.below hb; have Bp_251 := Lib.hid (show Bk _ _ _ #[.int .i64 p0, .int .i64 p1, .int .i64 p2] from Bp_216.out.below hb); have Bh_252 := Lib.hid (show Bk _ _ _ #[.slice (some ⟨gc, 0, none⟩) na na, .slice (some ⟨gg, 0, none⟩) (hull za zb 40).m cg, .slice (some ⟨gr, 0, none⟩) na na] from Bh_217.out.below hb); have Bfr_253 := Lib.hid (show Bk _ _ _ #[.bool r.b, .slice r.A r.n r.c, .int .i64 ((hull za zb 40).sup (pts (uniD i (D.mk' s 0))) 2000).x] from Bfr_218.out.below hb); have Bmp_254 := Lib.hid (show Bk _ _ _ #[.bool pp.b, .slice pp.A pp.n pp.c, .int .i64 (((cornF za (sgB p1) za.m) i).mul (D.mk' (p0 * s) (-3))).x] from Bmp_219.out.below hb); have HB_255 := Lib.hid (below_tr HB_220.out hb); clear hb; have FX_256 := Lib.hid (FX_221.out.dk K); have FY_257 := Lib.hid (FY_222.out.dk K); have FR_258 := Lib.hid (FR_223.out.dk K); have FP_259 := Lib.hid (FP_224.out.dk K); have FM_260 := Lib.hid (FM_225.out.dk K); clear K Bp_216 Bh_217 Bfr_218 Bmp_219 HB_220 FX_221 FY_222 FR_223 FP_224 FM_225; have FQ_261 := Lib.hid hm; clear hm; have lp := Bp_251.out.lt; obtain ⟨cp0, cp1, cp2⟩ := Bp_251.out.cells3; have lh := Bh_252.out.lt; obtain ⟨ch0, ch1, ch2⟩ := Bh_252.out.cells3; have lfr := Bfr_253.out.lt; obtain ⟨cfr0, cfr1, cfr2⟩ := Bfr_253.out.cells3; have lmp := Bmp_254.out.lt; obtain ⟨cmp0, cmp1, cmp2⟩ := Bmp_254.out.cells3; have cr0 : w_250.cell? ⟨B2, o2 + i * 3, none⟩ = some (.bool y.b) := (HB_255.out.cell (p := ⟨B2, o2 + i * 3, none⟩) hl2).trans Y0.out; have cr1 : w_250.cell? ⟨B2, o2 + i * 3 + 1, none⟩ = some (.slice y.A y.n y.c) := (HB_255.out.cell (p := ⟨B2, o2 + i * 3 + 1, none⟩) hl2).trans Y1.out; have cr2 : w_250.cell? ⟨B2, o2 + i * 3 + 2, none⟩ = some (.int .i64 ((cornF zb (sgB p2) zb.m) i).x) := (HB_255.out.cell (p := ⟨B2, o2 + i * 3 + 2, none⟩) hl2).trans Y2.out; have k_262 : SX3 (w_250) := (hS3 _).2 ⟨Bp_251.out.cell 0 rfl, Bp_251.out.cell 1 rfl, Bp_251.out.cell 2 rfl, (Below.cell (p := ⟨B2, o2 + i * 3, none⟩) HB_255.out hl2).trans Y0.out, (Below.cell (p := ⟨B2, o2 + i * 3 + 1, none⟩) HB_255.out hl2).trans Y1.out, (Below.cell (p := ⟨B2, o2 + i * 3 + 2, none⟩) HB_255.out hl2).trans Y2.out⟩; have n_263 := Bp_251.out.lt; have n_264 := Bh_252.out.lt; have n_265 := Bfr_253.out.lt; have n_266 := Bmp_254.out.lt; have k_267 : SX3 (w_250.alloc (.cells #[.bool false, .slice none 0 0, .int .i64 0] 53)) := (hS3 _).2 ⟨(Bp_251.out.alloc _).cell 0 rfl, (Bp_251.out.alloc _).cell 1 rfl, (Bp_251.out.alloc _).cell 2 rfl, (Below.cell (p := ⟨B2, o2 + i * 3, none⟩) (below_al HB_255.out _) hl2).trans Y0.out, (Below.cell (p := ⟨B2, o2 + i * 3 + 1, none⟩) (below_al HB_255.out _) hl2).trans Y1.out, (Below.cell (p := ⟨B2, o2 + i * 3 + 2, none⟩) (below_al HB_255.out _) hl2).trans Y2.out⟩; have k_268 : SX3 (w_250.alloc (.cells #[.bool qq.b, .slice qq.A qq.n qq.c, .int .i64 (((cornF zb (sgB p2) zb.m) i).mul (D.mk' ((8 - p0) * s) (-3))).x] 53)) := (hS3 _).2 ⟨(Bp_251.out.alloc _).cell 0 rfl, (Bp_251.out.alloc _).cell 1 rfl, (Bp_251.out.alloc _).cell 2 rfl, (Below.cell (p := ⟨B2, o2 + i * 3, none⟩) (below_al HB_255.out _) hl2).trans Y0.out, (Below.cell (p := ⟨B2, o2 + i * 3 + 1, none⟩) (below_al HB_255.out _) hl2).trans Y1.out, (Below.cell (p := ⟨B2, o2 + i * 3 + 2, none⟩) (below_al HB_255.out _) hl2).trans Y2.out⟩)
                 | (clear tok_229; go_at_call 33; refine calls_at (W := (w_197.alloc (.cells #[.bool false, .slice none 0 0, .int .i64 0] 53)).drew) ?_ (by with_reducible rfl); have n_230 := Bp_198.out.lt; have n_231 := Bh_200.out.lt; have n_232 := Bfr_202.out.lt; have n_233 := Bmp_204.out.lt; have n_234 := HB_204.out.size; refine (dOf_any _ ((8 - p0) * s) (-3) g1 g1' m100a m100b (HT.out.below (below_dr (below_al HB_204.out _)))).mono ?_; rintro e w_235 ⟨⟨m, rfl, hm⟩, hb⟩; clear lp cp0 cp1 cp2 lh ch0 ch1 ch2 lfr cfr0 cfr1 cfr2 lmp cmp0 cmp1 cmp2 cr0 cr1 cr2 k_211 k_212 k_213; have K := Dk.trans (((Dk.refl _).alloc _).drew) (.below hb); have Bp_236 := Lib.hid (show Bk _ _ _ #[.int .i64 p0, .int .i64 p1, .int .i64 p2] from ((Bp_198.out.alloc _).drew).below hb); have Bh_237 := Lib.hid (show Bk _ _ _ #[.slice (some ⟨gc, 0, none⟩) na na, .slice (some ⟨gg, 0, none⟩) (hull za zb 40).m cg, .slice (some ⟨gr, 0, none⟩) na na] from ((Bh_200.out.alloc _).drew).below hb); have Bfr_238 := Lib.hid (show Bk _ _ _ #[.bool r.b, .slice r.A r.n r.c, .int .i64 ((hull za zb 40).sup (pts (uniD i (D.mk' s 0))) 2000).x] from ((Bfr_202.out.alloc _).drew).below hb); have Bmp_239 := Lib.hid (show Bk _ _ _ #[.bool pp.b, .slice pp.A pp.n pp.c, .int .i64 (((cornF za (sgB p1) za.m) i).mul (D.mk' (p0 * s) (-3))).x] from ((Bmp_204.out.alloc _).drew).below hb); have Bmq_240 := Lib.hid (show Bk _ _ _ #[.bool false, .slice none 0 0, .int .i64 0] from ((Bk.new _ 53 #[.bool false, .slice none 0 0, .int .i64 0]).drew).below hb); have HB_241 := Lib.hid (below_tr (below_dr (below_al HB_204.out _)) hb); clear hb; have FX_242 := Lib.hid (FX_206.out.dk K); have FY_243 := Lib.hid (FY_207.out.dk K); have FR_244 := Lib.hid (FR_208.out.dk K); have FP_245 := Lib.hid (FP_209.out.dk K); clear K Bp_198 Bh_200 Bfr_202 Bmp_204 HB_204 FX_206 FY_207 FR_208 FP_209; have FM_246 := Lib.hid hm; clear hm; have lp := Bp_236.out.lt; obtain ⟨cp0, cp1, cp2⟩ := Bp_236.out.cells3; have lh := Bh_237.out.lt; obtain ⟨ch0, ch1, ch2⟩ := Bh_237.out.cells3; have lfr := Bfr_238.out.lt; obtain ⟨cfr0, cfr1, cfr2⟩ := Bfr_238.out.cells3; have lmp := Bmp_239.out.lt; obtain ⟨cmp0, cmp1, cmp2⟩ := Bmp_239.out.cells3; have lmq := Bmq_240.out.lt; obtain ⟨cmq0, cmq1, cmq2⟩ := Bmq_240.out.cells3; have fmq0 := Bmq_240.out.free 0; have fmq1 := Bmq_240.out.free 1; have fmq2 := Bmq_240.out.free 2; have cr0 : w_235.cell? ⟨B2, o2 + i * 3, none⟩ = some (.bool y.b) := (HB_241.out.cell (p := ⟨B2, o2 + i * 3, none⟩) hl2).trans Y0.out; have cr1 : w_235.cell? ⟨B2, o2 + i * 3 + 1, none⟩ = some (.slice y.A y.n y.c) := (HB_241.out.cell (p := ⟨B2, o2 + i * 3 + 1, none⟩) hl2).trans Y1.out; have cr2 : w_235.cell? ⟨B2, o2 + i * 3 + 2, none⟩ = some (.int .i64 ((cornF zb (sgB p2) zb.m) i).x) := (HB_241.out.cell (p := ⟨B2, o2 + i * 3 + 2, none⟩) hl2).trans Y2.out; have k_247 : SX3 (w_235) := (hS3 _).2 ⟨Bp_236.out.cell 0 rfl, Bp_236.out.cell 1 rfl, Bp_236.out.cell 2 rfl, (Below.cell (p := ⟨B2, o2 + i * 3, none⟩) HB_241.out hl2).trans Y0.out, (Below.cell (p := ⟨B2, o2 + i * 3 + 1, none⟩) HB_241.out hl2).trans Y1.out, (Below.cell (p := ⟨B2, o2 + i * 3 + 2, none⟩) HB_241.out hl2).trans Y2.out⟩)
                 | (clear tok_214; go_at_call 33; refine calls_at (W := w_197.drew) ?_ (by with_reducible rfl); refine (dOf_any _ ((8 - p0) * s) (-3) g1 g1' m100a m100b (HT.out.below (below_dr HB_204.out))).mono ?_; rintro e w_215 ⟨⟨m, rfl, hm⟩, hb⟩; clear lp cp0 cp1 cp2 lh ch0 ch1 ch2 lfr cfr0 cfr1 cfr2 lmp cmp0 cmp1 cmp2 cr0 cr1 cr2 k_211 k_212 k_213; have K := Dk.trans ((Dk.refl _).drew) (.below hb); have Bp_216 := Lib.hid (show Bk _ _ _ #[.int .i64 p0, .int .i64 p1, .int .i64 p2] from (Bp_198.out.drew).below hb); have Bh_217 := Lib.hid (show Bk _ _ _ #[.slice (some ⟨gc, 0, none⟩) na na, .slice (some ⟨gg, 0, none⟩) (hull za zb 40).m cg, .slice (some ⟨gr, 0, none⟩) na na] from (Bh_200.out.drew).below hb); have Bfr_218 := Lib.hid (show Bk _ _ _ #[.bool r.b, .slice r.A r.n r.c, .int .i64 ((hull za zb 40).sup (pts (uniD i (D.mk' s 0))) 2000).x] from (Bfr_202.out.drew).below hb); have Bmp_219 := Lib.hid (show Bk _ _ _ #[.bool pp.b, .slice pp.A pp.n pp.c, .int .i64 (((cornF za (sgB p1) za.m) i).mul (D.mk' (p0 * s) (-3))).x] from (Bmp_204.out.drew).below hb); have HB_220 := Lib.hid (below_tr (below_dr HB_204.out) hb); clear hb; have FX_221 := Lib.hid (FX_206.out.dk K); have FY_222 := Lib.hid (FY_207.out.dk K); have FR_223 := Lib.hid (FR_208.out.dk K); have FP_224 := Lib.hid (FP_209.out.dk K); clear K Bp_198 Bh_200 Bfr_202 Bmp_204 HB_204 FX_206 FY_207 FR_208 FP_209; have FM_225 := Lib.hid hm; clear hm; have lp := Bp_216.out.lt; obtain ⟨cp0, cp1, cp2⟩ := Bp_216.out.cells3; have lh := Bh_217.out.lt; obtain ⟨ch0, ch1, ch2⟩ := Bh_217.out.cells3; have lfr := Bfr_218.out.lt; obtain ⟨cfr0, cfr1, cfr2⟩ := Bfr_218.out.cells3; have lmp := Bmp_219.out.lt; obtain ⟨cmp0, cmp1, cmp2⟩ := Bmp_219.out.cells3; have cr0 : w_215.cell? ⟨B2, o2 + i * 3, none⟩ = some (.bool y.b) := (HB_220.out.cell (p := ⟨B2, o2 + i * 3, none⟩) hl2).trans Y0.out; have cr1 : w_215.cell? ⟨B2, o2 + i * 3 + 1, none⟩ = some (.slice y.A y.n y.c) := (HB_220.out.cell (p := ⟨B2, o2 + i * 3 + 1, none⟩) hl2).trans Y1.out; have cr2 : w_215.cell? ⟨B2, o2 + i * 3 + 2, none⟩ = some (.int .i64 ((cornF zb (sgB p2) zb.m) i).x) := (HB_220.out.cell (p := ⟨B2, o2 + i * 3 + 2, none⟩) hl2).trans Y2.out; have k_226 : SX3 (w_215) := (hS3 _).2 ⟨Bp_216.out.cell 0 rfl, Bp_216.out.cell 1 rfl, Bp_216.out.cell 2 rfl, (Below.cell (p := ⟨B2, o2 + i * 3, none⟩) HB_220.out hl2).trans Y0.out, (Below.cell (p := ⟨B2, o2 + i * 3 + 1, none⟩) HB_220.out hl2).trans Y1.out, (Below.cell (p := ⟨B2, o2 + i * 3 + 2, none⟩) HB_220.out hl2).trans Y2.out⟩; have k_227 : SX3 (w_215.alloc (.cells #[.bool false, .slice none 0 0, .int .i64 0] 53)) := (hS3 _).2 ⟨(Bp_216.out.alloc _).cell 0 rfl, (Bp_216.out.alloc _).cell 1 rfl, (Bp_216.out.alloc _).cell 2 rfl, (Below.cell (p := ⟨B2, o2 + i * 3, none⟩) (below_al HB_220.out _) hl2).trans Y0.out, (Below.cell (p := ⟨B2, o2 + i * 3 + 1, none⟩) (below_al HB_220.out _) hl2).trans Y1.out, (Below.cell (p := ⟨B2, o2 + i * 3 + 2, none⟩) (below_al HB_220.out _) hl2).trans Y2.out⟩))
              all_goals (go_wp2_with fail; go_meet; first | (have y0 := Bp_251.out.lt; have y1 := Bh_252.out.lt; have y2 := Bfr_253.out.lt; have y3 := Bmp_254.out.lt; have y4 := HB_255.out.size; exact ⟨w_250.heap.size, qq, rfl, (by omega), (by omega), (by omega), (by omega), (Bk.new _ 53 #[.bool qq.b, .slice qq.A qq.n qq.c, .int .i64 (((cornF zb (sgB p2) zb.m) i).mul (D.mk' ((8 - p0) * s) (-3))).x]), (Bp_251.out.alloc _), (Bh_252.out.alloc _), (Bfr_253.out.alloc _), (Bmp_254.out.alloc _), (below_al HB_255.out _), (FX_256.out.dk ((Dk.refl _).alloc _)), (FY_257.out.dk ((Dk.refl _).alloc _)), (FR_258.out.dk ((Dk.refl _).alloc _)), (FP_259.out.dk ((Dk.refl _).alloc _)), (FQ_261.out.dk ((Dk.refl _).alloc _))⟩) | (have y0 := Bp_277.out.lt; have y1 := Bh_278.out.lt; have y2 := Bfr_279.out.lt; have y3 := Bmp_280.out.lt; have y4 := Bmq_281.out.lt; have y5 := HB_282.out.size; exact ⟨w_215.heap.size, qq, rfl, (by omega), (by omega), (by omega), (by omega), (((Bmq_281.out.set 0 (.bool qq.b)).set 1 (.slice qq.A qq.n qq.c)).set 2 (.int .i64 (((cornF zb (sgB p2) zb.m) i).mul (D.mk' ((8 - p0) * s) (-3))).x)), (((Bp_277.out.ne (by omega) 0 (.bool qq.b)).ne (by omega) 1 (.slice qq.A qq.n qq.c)).ne (by omega) 2 (.int .i64 (((cornF zb (sgB p2) zb.m) i).mul (D.mk' ((8 - p0) * s) (-3))).x)), (((Bh_278.out.ne (by omega) 0 (.bool qq.b)).ne (by omega) 1 (.slice qq.A qq.n qq.c)).ne (by omega) 2 (.int .i64 (((cornF zb (sgB p2) zb.m) i).mul (D.mk' ((8 - p0) * s) (-3))).x)), (((Bfr_279.out.ne (by omega) 0 (.bool qq.b)).ne (by omega) 1 (.slice qq.A qq.n qq.c)).ne (by omega) 2 (.int .i64 (((cornF zb (sgB p2) zb.m) i).mul (D.mk' ((8 - p0) * s) (-3))).x)), (((Bmp_280.out.ne (by omega) 0 (.bool qq.b)).ne (by omega) 1 (.slice qq.A qq.n qq.c)).ne (by omega) 2 (.int .i64 (((cornF zb (sgB p2) zb.m) i).mul (D.mk' ((8 - p0) * s) (-3))).x)), (below_st (below_st (below_st HB_282.out 0 (by omega) (.bool qq.b)) 1 (by omega) (.slice qq.A qq.n qq.c)) 2 (by omega) (.int .i64 (((cornF zb (sgB p2) zb.m) i).mul (D.mk' ((8 - p0) * s) (-3))).x)), (FX_283.out.dk ((((Dk.refl _).set (cs := #[.bool false, .slice none 0 0, .int .i64 0]) Bmq_281.out 0 (by intro _ hh; cases hh) (.bool qq.b)).set (cs := #[.bool qq.b, .slice none 0 0, .int .i64 0]) (Bmq_281.out.set 0 (.bool qq.b)) 1 (by intro _ hh; cases hh) (.slice qq.A qq.n qq.c)).set (cs := #[.bool qq.b, .slice qq.A qq.n qq.c, .int .i64 0]) ((Bmq_281.out.set 0 (.bool qq.b)).set 1 (.slice qq.A qq.n qq.c)) 2 (by intro _ hh; cases hh) (.int .i64 (((cornF zb (sgB p2) zb.m) i).mul (D.mk' ((8 - p0) * s) (-3))).x))), (FY_284.out.dk ((((Dk.refl _).set (cs := #[.bool false, .slice none 0 0, .int .i64 0]) Bmq_281.out 0 (by intro _ hh; cases hh) (.bool qq.b)).set (cs := #[.bool qq.b, .slice none 0 0, .int .i64 0]) (Bmq_281.out.set 0 (.bool qq.b)) 1 (by intro _ hh; cases hh) (.slice qq.A qq.n qq.c)).set (cs := #[.bool qq.b, .slice qq.A qq.n qq.c, .int .i64 0]) ((Bmq_281.out.set 0 (.bool qq.b)).set 1 (.slice qq.A qq.n qq.c)) 2 (by intro _ hh; cases hh) (.int .i64 (((cornF zb (sgB p2) zb.m) i).mul (D.mk' ((8 - p0) * s) (-3))).x))), (FR_285.out.dk ((((Dk.refl _).set (cs := #[.bool false, .slice none 0 0, .int .i64 0]) Bmq_281.out 0 (by intro _ hh; cases hh) (.bool qq.b)).set (cs := #[.bool qq.b, .slice none 0 0, .int .i64 0]) (Bmq_281.out.set 0 (.bool qq.b)) 1 (by intro _ hh; cases hh) (.slice qq.A qq.n qq.c)).set (cs := #[.bool qq.b, .slice qq.A qq.n qq.c, .int .i64 0]) ((Bmq_281.out.set 0 (.bool qq.b)).set 1 (.slice qq.A qq.n qq.c)) 2 (by intro _ hh; cases hh) (.int .i64 (((cornF zb (sgB p2) zb.m) i).mul (D.mk' ((8 - p0) * s) (-3))).x))), (FP_286.out.dk ((((Dk.refl _).set (cs := #[.bool false, .slice none 0 0, .int .i64 0]) Bmq_281.out 0 (by intro _ hh; cases hh) (.bool qq.b)).set (cs := #[.bool qq.b, .slice none 0 0, .int .i64 0]) (Bmq_281.out.set 0 (.bool qq.b)) 1 (by intro _ hh; cases hh) (.slice qq.A qq.n qq.c)).set (cs := #[.bool qq.b, .slice qq.A qq.n qq.c, .int .i64 0]) ((Bmq_281.out.set 0 (.bool qq.b)).set 1 (.slice qq.A qq.n qq.c)) 2 (by intro _ hh; cases hh) (.int .i64 (((cornF zb (sgB p2) zb.m) i).mul (D.mk' ((8 - p0) * s) (-3))).x))), (FQ_288.out.dk ((((Dk.refl _).set (cs := #[.bool false, .slice none 0 0, .int .i64 0]) Bmq_281.out 0 (by intro _ hh; cases hh) (.bool qq.b)).set (cs := #[.bool qq.b, .slice none 0 0, .int .i64 0]) (Bmq_281.out.set 0 (.bool qq.b)) 1 (by intro _ hh; cases hh) (.slice qq.A qq.n qq.c)).set (cs := #[.bool qq.b, .slice qq.A qq.n qq.c, .int .i64 0]) ((Bmq_281.out.set 0 (.bool qq.b)).set 1 (.slice qq.A qq.n qq.c)) 2 (by intro _ hh; cases hh) (.int .i64 (((cornF zb (sgB p2) zb.m) i).mul (D.mk' ((8 - p0) * s) (-3))).x)))⟩) | (have y0 := Bp_294.out.lt; have y1 := Bh_295.out.lt; have y2 := Bfr_296.out.lt; have y3 := Bmp_297.out.lt; have y4 := Bmq_298.out.lt; have y5 := HB_299.out.size; exact ⟨w_197.heap.size, qq, rfl, (by omega), (by omega), (by omega), (by omega), (((Bmq_298.out.set 0 (.bool qq.b)).set 1 (.slice qq.A qq.n qq.c)).set 2 (.int .i64 (((cornF zb (sgB p2) zb.m) i).mul (D.mk' ((8 - p0) * s) (-3))).x)), (((Bp_294.out.ne (by omega) 0 (.bool qq.b)).ne (by omega) 1 (.slice qq.A qq.n qq.c)).ne (by omega) 2 (.int .i64 (((cornF zb (sgB p2) zb.m) i).mul (D.mk' ((8 - p0) * s) (-3))).x)), (((Bh_295.out.ne (by omega) 0 (.bool qq.b)).ne (by omega) 1 (.slice qq.A qq.n qq.c)).ne (by omega) 2 (.int .i64 (((cornF zb (sgB p2) zb.m) i).mul (D.mk' ((8 - p0) * s) (-3))).x)), (((Bfr_296.out.ne (by omega) 0 (.bool qq.b)).ne (by omega) 1 (.slice qq.A qq.n qq.c)).ne (by omega) 2 (.int .i64 (((cornF zb (sgB p2) zb.m) i).mul (D.mk' ((8 - p0) * s) (-3))).x)), (((Bmp_297.out.ne (by omega) 0 (.bool qq.b)).ne (by omega) 1 (.slice qq.A qq.n qq.c)).ne (by omega) 2 (.int .i64 (((cornF zb (sgB p2) zb.m) i).mul (D.mk' ((8 - p0) * s) (-3))).x)), (below_st (below_st (below_st HB_299.out 0 (by omega) (.bool qq.b)) 1 (by omega) (.slice qq.A qq.n qq.c)) 2 (by omega) (.int .i64 (((cornF zb (sgB p2) zb.m) i).mul (D.mk' ((8 - p0) * s) (-3))).x)), (FX_300.out.dk ((((Dk.refl _).set (cs := #[.bool false, .slice none 0 0, .int .i64 0]) Bmq_298.out 0 (by intro _ hh; cases hh) (.bool qq.b)).set (cs := #[.bool qq.b, .slice none 0 0, .int .i64 0]) (Bmq_298.out.set 0 (.bool qq.b)) 1 (by intro _ hh; cases hh) (.slice qq.A qq.n qq.c)).set (cs := #[.bool qq.b, .slice qq.A qq.n qq.c, .int .i64 0]) ((Bmq_298.out.set 0 (.bool qq.b)).set 1 (.slice qq.A qq.n qq.c)) 2 (by intro _ hh; cases hh) (.int .i64 (((cornF zb (sgB p2) zb.m) i).mul (D.mk' ((8 - p0) * s) (-3))).x))), (FY_301.out.dk ((((Dk.refl _).set (cs := #[.bool false, .slice none 0 0, .int .i64 0]) Bmq_298.out 0 (by intro _ hh; cases hh) (.bool qq.b)).set (cs := #[.bool qq.b, .slice none 0 0, .int .i64 0]) (Bmq_298.out.set 0 (.bool qq.b)) 1 (by intro _ hh; cases hh) (.slice qq.A qq.n qq.c)).set (cs := #[.bool qq.b, .slice qq.A qq.n qq.c, .int .i64 0]) ((Bmq_298.out.set 0 (.bool qq.b)).set 1 (.slice qq.A qq.n qq.c)) 2 (by intro _ hh; cases hh) (.int .i64 (((cornF zb (sgB p2) zb.m) i).mul (D.mk' ((8 - p0) * s) (-3))).x))), (FR_302.out.dk ((((Dk.refl _).set (cs := #[.bool false, .slice none 0 0, .int .i64 0]) Bmq_298.out 0 (by intro _ hh; cases hh) (.bool qq.b)).set (cs := #[.bool qq.b, .slice none 0 0, .int .i64 0]) (Bmq_298.out.set 0 (.bool qq.b)) 1 (by intro _ hh; cases hh) (.slice qq.A qq.n qq.c)).set (cs := #[.bool qq.b, .slice qq.A qq.n qq.c, .int .i64 0]) ((Bmq_298.out.set 0 (.bool qq.b)).set 1 (.slice qq.A qq.n qq.c)) 2 (by intro _ hh; cases hh) (.int .i64 (((cornF zb (sgB p2) zb.m) i).mul (D.mk' ((8 - p0) * s) (-3))).x))), (FP_303.out.dk ((((Dk.refl _).set (cs := #[.bool false, .slice none 0 0, .int .i64 0]) Bmq_298.out 0 (by intro _ hh; cases hh) (.bool qq.b)).set (cs := #[.bool qq.b, .slice none 0 0, .int .i64 0]) (Bmq_298.out.set 0 (.bool qq.b)) 1 (by intro _ hh; cases hh) (.slice qq.A qq.n qq.c)).set (cs := #[.bool qq.b, .slice qq.A qq.n qq.c, .int .i64 0]) ((Bmq_298.out.set 0 (.bool qq.b)).set 1 (.slice qq.A qq.n qq.c)) 2 (by intro _ hh; cases hh) (.int .i64 (((cornF zb (sgB p2) zb.m) i).mul (D.mk' ((8 - p0) * s) (-3))).x))), (FQ_305.out.dk ((((Dk.refl _).set (cs := #[.bool false, .slice none 0 0, .int .i64 0]) Bmq_298.out 0 (by intro _ hh; cases hh) (.bool qq.b)).set (cs := #[.bool qq.b, .slice none 0 0, .int .i64 0]) (Bmq_298.out.set 0 (.bool qq.b)) 1 (by intro _ hh; cases hh) (.slice qq.A qq.n qq.c)).set (cs := #[.bool qq.b, .slice qq.A qq.n qq.c, .int .i64 0]) ((Bmq_298.out.set 0 (.bool qq.b)).set 1 (.slice qq.A qq.n qq.c)) 2 (by intro _ hh; cases hh) (.int .i64 (((cornF zb (sgB p2) zb.m) i).mul (D.mk' ((8 - p0) * s) (-3))).x)))⟩))
            case rest =>
              clear lp cp0 cp1 cp2 lh ch0 ch1 ch2 lfr cfr0 cfr1 cfr2 lmp cmp0 cmp1 cmp2 cr0 cr1 cr2
              clear Bp_198 Bh_200 Bfr_202 Bmp_204 FX_206 FY_207 FR_208 FP_209 HB_204
              obtain ⟨w_310, rfl⟩ : ∃ x, x = wc := ⟨_, rfl⟩
              obtain ⟨g_210, qq, rfl, nn0, nn1, nn2, nn3, bz, bo0, bo1, bo2, bo3, hbel, hf0, hf1, hf2, hf3, hf4⟩ := hcut
              have Bp_311 := Lib.hid bo0
              have n_312 := nn0
              have Bh_313 := Lib.hid bo1
              have n_314 := nn1
              have Bfr_315 := Lib.hid bo2
              have n_316 := nn2
              have Bmp_317 := Lib.hid bo3
              have n_318 := nn3
              have Bmq_319 := Lib.hid bz
              have HB_319 := Lib.hid hbel
              have FX_321 := Lib.hid hf0
              have FY_322 := Lib.hid hf1
              have FR_323 := Lib.hid hf2
              have FP_324 := Lib.hid hf3
              have FQ_325 := Lib.hid hf4
              clear nn0 nn1 nn2 nn3 bz bo0 bo1 bo2 bo3 hbel hf0 hf1 hf2 hf3 hf4
              have lp := Bp_311.out.lt
              obtain ⟨cp0, cp1, cp2⟩ := Bp_311.out.cells3
              have lh := Bh_313.out.lt
              obtain ⟨ch0, ch1, ch2⟩ := Bh_313.out.cells3
              have lfr := Bfr_315.out.lt
              obtain ⟨cfr0, cfr1, cfr2⟩ := Bfr_315.out.cells3
              have lmp := Bmp_317.out.lt
              obtain ⟨cmp0, cmp1, cmp2⟩ := Bmp_317.out.cells3
              have lmq := Bmq_319.out.lt
              obtain ⟨cmq0, cmq1, cmq2⟩ := Bmq_319.out.cells3
              have cr0 : w_310.cell? ⟨B2, o2 + i * 3, none⟩ = some (.bool y.b) := (HB_319.out.cell (p := ⟨B2, o2 + i * 3, none⟩) hl2).trans Y0.out
              have cr1 : w_310.cell? ⟨B2, o2 + i * 3 + 1, none⟩ = some (.slice y.A y.n y.c) := (HB_319.out.cell (p := ⟨B2, o2 + i * 3 + 1, none⟩) hl2).trans Y1.out
              have cr2 : w_310.cell? ⟨B2, o2 + i * 3 + 2, none⟩ = some (.int .i64 ((cornF zb (sgB p2) zb.m) i).x) := (HB_319.out.cell (p := ⟨B2, o2 + i * 3 + 2, none⟩) hl2).trans Y2.out
              go_wp2_with fail
              clear lp cp0 cp1 cp2 lh ch0 ch1 ch2 lfr cfr0 cfr1 cfr2 lmp cmp0 cmp1 cmp2 lmq cmq0 cmq1 cmq2 cr0 cr1 cr2
              have lp := Bp_311.out.lt
              obtain ⟨cp0, cp1, cp2⟩ := Bp_311.out.cells3
              have lh := Bh_313.out.lt
              obtain ⟨ch0, ch1, ch2⟩ := Bh_313.out.cells3
              have lfr := Bfr_315.out.lt
              obtain ⟨cfr0, cfr1, cfr2⟩ := Bfr_315.out.cells3
              have lmp := Bmp_317.out.lt
              obtain ⟨cmp0, cmp1, cmp2⟩ := Bmp_317.out.cells3
              have lmq := Bmq_319.out.lt
              obtain ⟨cmq0, cmq1, cmq2⟩ := Bmq_319.out.cells3
              have lpp := Lib.hid (prod_lim8 (LX.out i hi2) (show -8 ≤ p0 * s by omega) (show p0 * s ≤ 8 by omega))
              have lqq := Lib.hid (prod_lim8 (LY.out i hi2) (show -8 ≤ (8 - p0) * s by omega) (show (8 - p0) * s ≤ 8 by omega))
              go_wp2_with fail
              refine (dadd_any _ pp qq (((cornF za (sgB p1) za.m) i).mul (D.mk' (p0 * s) (-3))) (((cornF zb (sgB p2) zb.m) i).mul (D.mk' ((8 - p0) * s) (-3))) 63 133 FP_324.out FQ_325.out lpp.out lqq.out (by omega) (HT.out.below HB_319.out)).mono ?_
              rintro e w13 ⟨⟨t, rfl, ht⟩, hb⟩
              clear lp cp0 cp1 cp2 lh ch0 ch1 ch2 lfr cfr0 cfr1 cfr2 lmp cmp0 cmp1 cmp2 lmq cmq0 cmq1 cmq2
              have K := Dk.below hb
              have Bp_326 := Lib.hid (show Bk _ _ _ #[.int .i64 p0, .int .i64 p1, .int .i64 p2] from Bp_311.out.below hb)
              have Bh_327 := Lib.hid (show Bk _ _ _ #[.slice (some ⟨gc, 0, none⟩) na na, .slice (some ⟨gg, 0, none⟩) (hull za zb 40).m cg, .slice (some ⟨gr, 0, none⟩) na na] from Bh_313.out.below hb)
              have Bfr_328 := Lib.hid (show Bk _ _ _ #[.bool r.b, .slice r.A r.n r.c, .int .i64 ((hull za zb 40).sup (pts (uniD i (D.mk' s 0))) 2000).x] from Bfr_315.out.below hb)
              have Bmp_329 := Lib.hid (show Bk _ _ _ #[.bool pp.b, .slice pp.A pp.n pp.c, .int .i64 (((cornF za (sgB p1) za.m) i).mul (D.mk' (p0 * s) (-3))).x] from Bmp_317.out.below hb)
              have Bmq_330 := Lib.hid (show Bk _ _ _ #[.bool qq.b, .slice qq.A qq.n qq.c, .int .i64 (((cornF zb (sgB p2) zb.m) i).mul (D.mk' ((8 - p0) * s) (-3))).x] from Bmq_319.out.below hb)
              have HB_331 := Lib.hid (below_tr HB_319.out hb)
              clear hb
              have FX_332 := Lib.hid (FX_321.out.dk K)
              have FY_333 := Lib.hid (FY_322.out.dk K)
              have FR_334 := Lib.hid (FR_323.out.dk K)
              have FP_335 := Lib.hid (FP_324.out.dk K)
              have FQ_336 := Lib.hid (FQ_325.out.dk K)
              clear K Bp_311 Bh_313 Bfr_315 Bmp_317 Bmq_319 HB_319 FX_321 FY_322 FR_323 FP_324 FQ_325
              have FT_337 := Lib.hid ht
              clear ht
              have lp := Bp_326.out.lt
              obtain ⟨cp0, cp1, cp2⟩ := Bp_326.out.cells3
              have lh := Bh_327.out.lt
              obtain ⟨ch0, ch1, ch2⟩ := Bh_327.out.cells3
              have lfr := Bfr_328.out.lt
              obtain ⟨cfr0, cfr1, cfr2⟩ := Bfr_328.out.cells3
              have lmp := Bmp_329.out.lt
              obtain ⟨cmp0, cmp1, cmp2⟩ := Bmp_329.out.cells3
              have lmq := Bmq_330.out.lt
              obtain ⟨cmq0, cmq1, cmq2⟩ := Bmq_330.out.cells3
              have n_338 := Bp_326.out.lt
              have n_339 := Bh_327.out.lt
              have n_340 := Bfr_328.out.lt
              have n_341 := Bmp_329.out.lt
              have n_342 := Bmq_330.out.lt
              go_upto_region 22 with (fail)
              clear lp cp0 cp1 cp2 lh ch0 ch1 ch2 lfr cfr0 cfr1 cfr2 lmp cmp0 cmp1 cmp2 lmq cmq0 cmq1 cmq2
              have K : Dk w13 (w13.alloc (.cells #[.bool t.b, .slice t.A t.n t.c, .int .i64 ((((cornF za (sgB p1) za.m) i).mul (D.mk' (p0 * s) (-3))).add (((cornF zb (sgB p2) zb.m) i).mul (D.mk' ((8 - p0) * s) (-3)))).x] 53)) := ((Dk.refl _).alloc _)
              have Bp_343 := Lib.hid (show Bk (w13.alloc (.cells #[.bool t.b, .slice t.A t.n t.c, .int .i64 ((((cornF za (sgB p1) za.m) i).mul (D.mk' (p0 * s) (-3))).add (((cornF zb (sgB p2) zb.m) i).mul (D.mk' ((8 - p0) * s) (-3)))).x] 53)) (w.heap.size + 2) 86 #[.int .i64 p0, .int .i64 p1, .int .i64 p2] from (Bp_326.out.alloc _))
              have Bh_344 := Lib.hid (show Bk (w13.alloc (.cells #[.bool t.b, .slice t.A t.n t.c, .int .i64 ((((cornF za (sgB p1) za.m) i).mul (D.mk' (p0 * s) (-3))).add (((cornF zb (sgB p2) zb.m) i).mul (D.mk' ((8 - p0) * s) (-3)))).x] 53)) (w4.heap.size) 42 #[.slice (some ⟨gc, 0, none⟩) na na, .slice (some ⟨gg, 0, none⟩) (hull za zb 40).m cg, .slice (some ⟨gr, 0, none⟩) na na] from (Bh_327.out.alloc _))
              have Bfr_345 := Lib.hid (show Bk (w13.alloc (.cells #[.bool t.b, .slice t.A t.n t.c, .int .i64 ((((cornF za (sgB p1) za.m) i).mul (D.mk' (p0 * s) (-3))).add (((cornF zb (sgB p2) zb.m) i).mul (D.mk' ((8 - p0) * s) (-3)))).x] 53)) (w11.heap.size) 53 #[.bool r.b, .slice r.A r.n r.c, .int .i64 ((hull za zb 40).sup (pts (uniD i (D.mk' s 0))) 2000).x] from (Bfr_328.out.alloc _))
              have Bmp_346 := Lib.hid (show Bk (w13.alloc (.cells #[.bool t.b, .slice t.A t.n t.c, .int .i64 ((((cornF za (sgB p1) za.m) i).mul (D.mk' (p0 * s) (-3))).add (((cornF zb (sgB p2) zb.m) i).mul (D.mk' ((8 - p0) * s) (-3)))).x] 53)) (g_105) 53 #[.bool pp.b, .slice pp.A pp.n pp.c, .int .i64 (((cornF za (sgB p1) za.m) i).mul (D.mk' (p0 * s) (-3))).x] from (Bmp_329.out.alloc _))
              have Bmq_347 := Lib.hid (show Bk (w13.alloc (.cells #[.bool t.b, .slice t.A t.n t.c, .int .i64 ((((cornF za (sgB p1) za.m) i).mul (D.mk' (p0 * s) (-3))).add (((cornF zb (sgB p2) zb.m) i).mul (D.mk' ((8 - p0) * s) (-3)))).x] 53)) (g_210) 53 #[.bool qq.b, .slice qq.A qq.n qq.c, .int .i64 (((cornF zb (sgB p2) zb.m) i).mul (D.mk' ((8 - p0) * s) (-3))).x] from (Bmq_330.out.alloc _))
              have Bat_348 := Lib.hid (show Bk (w13.alloc (.cells #[.bool t.b, .slice t.A t.n t.c, .int .i64 ((((cornF za (sgB p1) za.m) i).mul (D.mk' (p0 * s) (-3))).add (((cornF zb (sgB p2) zb.m) i).mul (D.mk' ((8 - p0) * s) (-3)))).x] 53)) (w13.heap.size) 53 #[.bool t.b, .slice t.A t.n t.c, .int .i64 ((((cornF za (sgB p1) za.m) i).mul (D.mk' (p0 * s) (-3))).add (((cornF zb (sgB p2) zb.m) i).mul (D.mk' ((8 - p0) * s) (-3)))).x] from (Bk.new _ 53 #[.bool t.b, .slice t.A t.n t.c, .int .i64 ((((cornF za (sgB p1) za.m) i).mul (D.mk' (p0 * s) (-3))).add (((cornF zb (sgB p2) zb.m) i).mul (D.mk' ((8 - p0) * s) (-3)))).x]))
              have HB_349 := Lib.hid (show Below w8.heap.size w8 (w13.alloc (.cells #[.bool t.b, .slice t.A t.n t.c, .int .i64 ((((cornF za (sgB p1) za.m) i).mul (D.mk' (p0 * s) (-3))).add (((cornF zb (sgB p2) zb.m) i).mul (D.mk' ((8 - p0) * s) (-3)))).x] 53)) from (below_al HB_331.out _))
              have FX_350 := Lib.hid (FX_332.out.dk K)
              have FY_351 := Lib.hid (FY_333.out.dk K)
              have FR_352 := Lib.hid (FR_334.out.dk K)
              have FP_353 := Lib.hid (FP_335.out.dk K)
              have FQ_354 := Lib.hid (FQ_336.out.dk K)
              have FT_355 := Lib.hid (FT_337.out.dk K)
              clear K Bp_326 Bh_327 Bfr_328 Bmp_329 Bmq_330 HB_331 FX_332 FY_333 FR_334 FP_335 FQ_336 FT_337
              generalize w13.alloc (.cells #[.bool t.b, .slice t.A t.n t.c, .int .i64 ((((cornF za (sgB p1) za.m) i).mul (D.mk' (p0 * s) (-3))).add (((cornF zb (sgB p2) zb.m) i).mul (D.mk' ((8 - p0) * s) (-3)))).x] 53) = w14 at *
              have lp := Bp_343.out.lt
              obtain ⟨cp0, cp1, cp2⟩ := Bp_343.out.cells3
              have lh := Bh_344.out.lt
              obtain ⟨ch0, ch1, ch2⟩ := Bh_344.out.cells3
              have lfr := Bfr_345.out.lt
              obtain ⟨cfr0, cfr1, cfr2⟩ := Bfr_345.out.cells3
              have lmp := Bmp_346.out.lt
              obtain ⟨cmp0, cmp1, cmp2⟩ := Bmp_346.out.cells3
              have lmq := Bmq_347.out.lt
              obtain ⟨cmq0, cmq1, cmq2⟩ := Bmq_347.out.cells3
              have lat := Bat_348.out.lt
              obtain ⟨cat0, cat1, cat2⟩ := Bat_348.out.cells3
              have LDa := Lib.hid (fun (k : Nat) (hk : k < za.n) => LD.out k (by omega))
              have LF := Lib.hid (sup_lim5 (f := uniD i (D.mk' s 0)) LH.out (by show za.n ≤ 4; omega) hm LDa.out)
              have N1 := Lib.hid (show decide (((hull za zb 40).sup (pts (uniD i (D.mk' s 0))) 2000).cmp ((((cornF za (sgB p1) za.m) i).mul (D.mk' (p0 * s) (-3))).add (((cornF zb (sgB p2) zb.m) i).mul (D.mk' ((8 - p0) * s) (-3)))) < 0) = false from not_less (by rw [far5 (f := uniD i (D.mk' s 0)) LH.out (by show za.n ≤ 4; omega) hm LDa.out, uni_val, mk_int]; exact between_hull 40 (sgB p1) (sgB p2) en (by omega) (OA.out.p i (by omega)) (OB.out.p i (by omega)) h0 h8))
              go_wp2_with fail
              refine (dless_is _ r t ((hull za zb 40).sup (pts (uniD i (D.mk' s 0))) 2000) ((((cornF za (sgB p1) za.m) i).mul (D.mk' (p0 * s) (-3))).add (((cornF zb (sgB p2) zb.m) i).mul (D.mk' ((8 - p0) * s) (-3)))) 121 330 false FR_352.out FT_355.out LF.out ((add_lim lpp.out lqq.out).mono (by omega) (by omega)) (by omega) N1.out).mono ?_
              rintro e w15 ⟨rfl, hb⟩
              clear lp cp0 cp1 cp2 lh ch0 ch1 ch2 lfr cfr0 cfr1 cfr2 lmp cmp0 cmp1 cmp2 lmq cmq0 cmq1 cmq2 lat cat0 cat1 cat2
              have K := Dk.below hb
              have Bp_356 := Lib.hid (show Bk _ _ _ #[.int .i64 p0, .int .i64 p1, .int .i64 p2] from Bp_343.out.below hb)
              have Bh_357 := Lib.hid (show Bk _ _ _ #[.slice (some ⟨gc, 0, none⟩) na na, .slice (some ⟨gg, 0, none⟩) (hull za zb 40).m cg, .slice (some ⟨gr, 0, none⟩) na na] from Bh_344.out.below hb)
              have Bfr_358 := Lib.hid (show Bk _ _ _ #[.bool r.b, .slice r.A r.n r.c, .int .i64 ((hull za zb 40).sup (pts (uniD i (D.mk' s 0))) 2000).x] from Bfr_345.out.below hb)
              have Bmp_359 := Lib.hid (show Bk _ _ _ #[.bool pp.b, .slice pp.A pp.n pp.c, .int .i64 (((cornF za (sgB p1) za.m) i).mul (D.mk' (p0 * s) (-3))).x] from Bmp_346.out.below hb)
              have Bmq_360 := Lib.hid (show Bk _ _ _ #[.bool qq.b, .slice qq.A qq.n qq.c, .int .i64 (((cornF zb (sgB p2) zb.m) i).mul (D.mk' ((8 - p0) * s) (-3))).x] from Bmq_347.out.below hb)
              have Bat_361 := Lib.hid (show Bk _ _ _ #[.bool t.b, .slice t.A t.n t.c, .int .i64 ((((cornF za (sgB p1) za.m) i).mul (D.mk' (p0 * s) (-3))).add (((cornF zb (sgB p2) zb.m) i).mul (D.mk' ((8 - p0) * s) (-3)))).x] from Bat_348.out.below hb)
              have HB_362 := Lib.hid (below_tr HB_349.out hb)
              clear hb
              have FX_363 := Lib.hid (FX_350.out.dk K)
              have FY_364 := Lib.hid (FY_351.out.dk K)
              have FR_365 := Lib.hid (FR_352.out.dk K)
              have FP_366 := Lib.hid (FP_353.out.dk K)
              have FQ_367 := Lib.hid (FQ_354.out.dk K)
              have FT_368 := Lib.hid (FT_355.out.dk K)
              clear K Bp_343 Bh_344 Bfr_345 Bmp_346 Bmq_347 Bat_348 HB_349 FX_350 FY_351 FR_352 FP_353 FQ_354 FT_355
              go_wp2
              go_roundw
              case rel => exact ⟨j + 1, by go_num, hj2, Lib.hid (HB_362.out)⟩
              case measure => simp only [intOf]; omega
        · obtain rfl : j = 2 := by omega
          have HE := Lib.hid (below_tr BASE_68.out Hs.out)
          go_wp2
          go_roundw
          case rel => exact ⟨i + 1, by go_num, hi2, HE⟩
          case measure => simp only [intOf]; omega
    · obtain rfl : i = na := by omega
      go_wp2
      go_ret
      exact ⟨rfl, below_tr BASE_59.out Hr.out⟩

end Go.Proofs.YtgioppkggpfnoaaDoor.Nu
end
