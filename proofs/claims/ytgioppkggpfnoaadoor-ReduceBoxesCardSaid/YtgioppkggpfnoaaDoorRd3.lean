/- Texts of the seat, laid together: SrtP, Sorts, OwnN, DRound, DOf, DMax, DMul, DSub, DAbs, SOut, SSize, SAdd, Spread. -/
import Derived.Test.YtgioppkggpfnoaaDoorRd2
import Derived.Sort.LotA
import Derived.Maps.AppendAt
import Derived.RegionTactic
import Derived.StillTailTactics
import Derived.Deep.RegionHeld3
import Derived.Deep.DeepCutAuto
import Derived.Deep.CutBlock
set_option linter.all false
set_option exponentiation.threshold 20000
section
/- What the library's insertion sort makes of places, plain; what comes of it for the ways of a set. No program in sight. -/
namespace Go.Proofs.YtgioppkggpfnoaaDoor.Nu
open Go

/-- The places, as they stand behind the sort. -/
def srt (lt : Nat → Nat → Bool) (n : Nat) : Nat → Nat := fun k => (Sort.insertionSort lt (Array.range n) 0 n)[k]!
theorem srt_size {lt : Nat → Nat → Bool} (h : Sort.SWO lt) (n : Nat) : (Sort.insertionSort lt (Array.range n) 0 n).size = n := by
  have h1 := (Sort.insertionSort_holds h (Array.range n) 0 n (Nat.zero_le _) (by simp)).1
  rw [h1.1]; simp
theorem srt_perm {lt : Nat → Nat → Bool} (h : Sort.SWO lt) (n : Nat) : (Sort.insertionSort lt (Array.range n) 0 n).toList.Perm (List.range n) := by
  have h1 := (Sort.insertionSort_holds h (Array.range n) 0 n (Nat.zero_le _) (by simp)).1.2.2
  have e1 : (Sort.insertionSort lt (Array.range n) 0 n).extract 0 (Sort.insertionSort lt (Array.range n) 0 n).size = Sort.insertionSort lt (Array.range n) 0 n := Array.extract_size
  rw [srt_size h] at e1
  have e2 : (Array.range n).extract 0 (Array.range n).size = Array.range n := Array.extract_size
  rw [Array.size_range] at e2
  rw [e1, e2, Array.toList_range] at h1
  exact h1
theorem srt_get {lt : Nat → Nat → Bool} (n k : Nat) : (Sort.insertionSort lt (Array.range n) 0 n).toList[k]! = srt lt n k := by
  unfold srt
  generalize Sort.insertionSort lt (Array.range n) 0 n = a
  by_cases h : k < a.size
  · rw [getElem!_pos a k h, getElem!_pos a.toList k (by simpa using h)]
    simp
  · rw [getElem!_neg a k h, getElem!_neg a.toList k (by simpa using h)]
theorem srt_lt {lt : Nat → Nat → Bool} (h : Sort.SWO lt) {n k : Nat} (hk : k < n) : srt lt n k < n := by
  have h1 : (Sort.insertionSort lt (Array.range n) 0 n)[k]! ∈ (Sort.insertionSort lt (Array.range n) 0 n).toList := by
    rw [getElem!_pos _ k (by rw [srt_size h]; exact hk)]
    simp
  have h2 := (srt_perm h n).mem_iff.1 h1
  exact List.mem_range.1 h2
theorem srt_sum {lt : Nat → Nat → Bool} (h : Sort.SWO lt) (n : Nat) (f : Nat → Rat) : sumQ (fun k => f (srt lt n k)) n = sumQ f n := by
  have := sum_perm f (srt_perm h n)
  simp only [srt_get] at this
  exact this
theorem srt_onto {lt : Nat → Nat → Bool} (h : Sort.SWO lt) {n j : Nat} (hj : j < n) : ∃ k, k < n ∧ srt lt n k = j := by
  have h1 := (srt_perm h n).mem_iff.2 (List.mem_range.2 hj)
  obtain ⟨k, hk, e⟩ := List.getElem_of_mem h1
  have hk2 : k < n := by rw [Array.length_toList, srt_size h] at hk; exact hk
  refine ⟨k, hk2, ?_⟩
  rw [← e]
  unfold srt
  rw [getElem!_pos _ k (by rw [srt_size h]; exact hk2)]
  simp
theorem srt_sorted {lt : Nat → Nat → Bool} (h : Sort.SWO lt) {n i j : Nat} (hij : i < j) (hj : j < n) : lt (srt lt n j) (srt lt n i) = false :=
  (Sort.insertionSort_holds h (Array.range n) 0 n (Nat.zero_le _) (by simp)).2 i j (Nat.zero_le _) hij hj
theorem srt_inj {lt : Nat → Nat → Bool} (h : Sort.SWO lt) {n i j : Nat} (hi : i < n) (hj : j < n) (e : srt lt n i = srt lt n j) : i = j := by
  have hn : (Sort.insertionSort lt (Array.range n) 0 n).toList.Nodup := (srt_perm h n).nodup_iff.2 List.nodup_range
  have hi' : i < (Sort.insertionSort lt (Array.range n) 0 n).toList.length := by rw [Array.length_toList, srt_size h]; exact hi
  have hj' : j < (Sort.insertionSort lt (Array.range n) 0 n).toList.length := by rw [Array.length_toList, srt_size h]; exact hj
  refine (List.getElem_inj (h₀ := hi') (h₁ := hj') hn).1 ?_
  rw [← getElem!_pos _ i hi', ← getElem!_pos _ j hj', srt_get, srt_get, e]
theorem cmp_neg (a b : D) : a.cmp b < 0 ↔ a.val < b.val := by
  unfold D.cmp
  rcases qcmp_cases a.val b.val with ⟨h, e⟩ | ⟨h, e⟩ | ⟨h, e⟩ <;> rw [e] <;> constructor <;> intro h2 <;> first | exact h | (exfalso; revert h2; decide) | (exfalso; grind) | decide
theorem swo_up (F : Nat → D) : Sort.SWO (fun x y => decide ((F x).cmp (F y) < 0)) where
  irrefl x := by simp [cmp_neg]
  trans x y z h1 h2 := by simp [cmp_neg] at *; grind
  ntrans x y z h1 h2 := by simp [cmp_neg] at *; grind
theorem swo_down (F : Nat → D) : Sort.SWO (fun x y => decide ((F y).cmp (F x) < 0)) where
  irrefl x := by simp [cmp_neg]
  trans x y z h1 h2 := by simp [cmp_neg] at *; grind
  ntrans x y z h1 h2 := by simp [cmp_neg] at *; grind
/-- The ways from the least spread to the most; from the most to the least. -/
def spr (z : Zo) (bits k : Nat) : D := spread (z.g k) z.n bits
def sigU (z : Zo) (bits : Nat) : Nat → Nat := srt (fun x y => decide ((spr z bits x).cmp (spr z bits y) < 0)) z.m
def sigD (z : Zo) (bits : Nat) : Nat → Nat := srt (fun x y => decide ((spr z bits y).cmp (spr z bits x) < 0)) z.m
theorem sigU_lt (z : Zo) (bits : Nat) {k : Nat} (hk : k < z.m) : sigU z bits k < z.m := srt_lt (swo_up _) hk
theorem sigD_lt (z : Zo) (bits : Nat) {k : Nat} (hk : k < z.m) : sigD z bits k < z.m := srt_lt (swo_down _) hk
theorem sigU_sum (z : Zo) (bits : Nat) (f : Nat → Rat) : sumQ (fun k => f (sigU z bits k)) z.m = sumQ f z.m := srt_sum (swo_up _) _ f
theorem sigU_sorted (z : Zo) (bits : Nat) {i j : Nat} (hij : i < j) (hj : j < z.m) : (spr z bits (sigU z bits i)).val ≤ (spr z bits (sigU z bits j)).val := by
  have h := srt_sorted (swo_up (spr z bits)) hij hj
  rw [decide_eq_false_iff_not, cmp_neg] at h
  exact Rat.not_lt.1 h
theorem sigD_sorted (z : Zo) (bits : Nat) {i j : Nat} (hij : i < j) (hj : j < z.m) : (spr z bits (sigD z bits j)).val ≤ (spr z bits (sigD z bits i)).val := by
  have h := srt_sorted (swo_down (spr z bits)) hij hj
  rw [decide_eq_false_iff_not, cmp_neg] at h
  exact Rat.not_lt.1 h
/-- A set of so many ways less, place by place. -/
def redZ (z : Zo) (p bits : Nat) : Zo := ordZ z (sigU z bits) p bits
theorem redZ_lim {z : Zo} {E T : Nat} (h : z.Lim E T) {p : Nat} (hp : p ≤ z.m) (bits : Nat) : (redZ z p bits).Lim E (T + 2 * p) := ord_lim h (fun _ hk => sigU_lt z bits hk) hp bits
theorem redZ_can {z : Zo} (h : z.Can) {p : Nat} (hp : p ≤ z.m) (bits : Nat) : (redZ z p bits).Can := ord_can h (fun _ hk => sigU_lt z bits hk) hp bits
theorem redZ_far (z : Zo) {p : Nat} (hp : p ≤ z.m) (bits : Nat) (d : Nat → Rat) : z.far d ≤ (redZ z p bits).far d := ord_far z (sigU_sum z bits) hp bits d
theorem redZ_box {z : Zo} {E T bits : Nat} (h : z.Lim E T) (hc : z.Can) (i : Nat) (hi : i < z.n) (hb : E + T + 2 * z.m + 2 ≤ bits) :
    (boxF (redZ z z.m bits) bits i).hi.val = (boxF z bits i).hi.val ∧ (boxF (redZ z z.m bits) bits i).lo.val = (boxF z bits i).lo.val :=
  box_ord h hc (fun _ hk => sigU_lt z bits hk) (sigU_sum z bits) i hi hb
end Go.Proofs.YtgioppkggpfnoaaDoor.Nu
end

section
/- slices.SortFunc and slices.SortStableFunc as package reduce calls them: of few elements they are the insertion sort. -/
set_option linter.unusedVariables false
namespace Go.Proofs.YtgioppkggpfnoaaDoor.Nu
open Go.RowKit Go.Proofs

set_option maxRecDepth 100000 in
set_option maxHeartbeats 4000000 in
theorem isortD_nil (w : World) : Calls Tryd.prog 175 #[.slice none 0 0, .int .i64 0, .int .i64 0, .func (.func 115) #[] #[]] w fun e w' => e = .returned (.tuple #[]) ∧ w' = w := by
  go_enter Tryd.func175, Tryd.ntmps175
  go_wp2_with fail
  go_loopw [8] (fun k wr => k = .int .i64 1 ∧ wr = w) (fun _ _ => 0)
  case atStart => exact ⟨rfl, rfl⟩
  case round =>
    obtain ⟨rfl, rfl⟩ := hrel
    go_wp2
    go_end0
    exact ⟨rfl, rfl⟩
set_option maxRecDepth 100000 in
set_option maxHeartbeats 4000000 in
theorem pdqD_any (w : World) (g n cap : Nat) (q : Nat → Q) (F : Nat → D) (l : Int) (E T : Nat) (hn : n ≤ 12) (hr : CR w g 53 3 n (fun i c => [.bool (q i).b, .slice (q i).A (q i).n (q i).c, .int .i64 (F i).x].getD c undef)) (hd : ∀ i, i < n → RD w (q i) (F i)) (hl : ∀ i, i < n → (F i).Lim E T) (hET : E + T ≤ 16000) :
    Calls Tryd.prog 159 #[.slice (some ⟨g, 0, none⟩) n cap, .int .i64 0, .int .i64 n, .int .i64 l, .func (.func 115) #[] #[]] w fun e w' => e = .returned (.tuple #[]) ∧ IsRel w g 53 3 n (fun i c => [.bool (q i).b, .slice (q i).A (q i).n (q i).c, .int .i64 (F i).x].getD c undef) (Sort.insertionSort (fun x y => decide ((F y).cmp (F x) < 0)) (Array.range n) 0 n) w' := by
  have HS := Lib.hid (isortD_any w g n cap q F E T (by omega) hr hd hl hET)
  have q1 : (n : Int) ≤ 12 := by omega
  have q2 : IntKind.i64.wrap (n : Int) = (n : Int) := by rw [IntKind.wrap_i64]; omega
  have q3 : (n : Int) - 0 = (n : Int) := by omega
  clear hr hd hl
  go_enter Tryd.func159, Tryd.ntmps159
  go_wp2_with fail
  go_loopw [1, 2] (fun s1 s2 wr => s1 = .int .i64 0 ∧ s2 = .int .i64 n ∧ wr = w) (fun _ _ _ => 0)
  case atStart => exact ⟨rfl, rfl, rfl⟩
  case round =>
    obtain ⟨rfl, rfl, rfl⟩ := hrel
    go_wp2_with fail
    refine HS.out.mono ?_
    rintro e w1 ⟨rfl, h1⟩
    have H1 := Lib.hid h1
    clear h1
    go_wp2
    refine bodyPost_ret (results_none rfl _ _ _) rfl ?_
    exact ⟨rfl, H1.out⟩
set_option maxRecDepth 100000 in
set_option maxHeartbeats 4000000 in
theorem pdqD_nil (w : World) (l : Int)  :
    Calls Tryd.prog 159 #[.slice none 0 0, .int .i64 0, .int .i64 0, .int .i64 l, .func (.func 115) #[] #[]] w fun e w' => e = .returned (.tuple #[]) ∧ w' = w := by
  have HS := Lib.hid (isortD_nil w)
  skip
  go_enter Tryd.func159, Tryd.ntmps159
  go_wp2_with fail
  go_loopw [1, 2] (fun s1 s2 wr => s1 = .int .i64 0 ∧ s2 = .int .i64 0 ∧ wr = w) (fun _ _ _ => 0)
  case atStart => exact ⟨rfl, rfl, rfl⟩
  case round =>
    obtain ⟨rfl, rfl, rfl⟩ := hrel
    go_wp2_with fail
    refine HS.out.mono ?_
    rintro e w1 ⟨rfl, h1⟩
    have H1 := Lib.hid h1
    clear h1
    go_wp2
    refine bodyPost_ret (results_none rfl _ _ _) rfl ?_
    exact ⟨rfl, H1.out⟩
set_option maxRecDepth 100000 in
set_option maxHeartbeats 4000000 in
theorem sortD_any (w : World) (g n cap : Nat) (q : Nat → Q) (F : Nat → D) (E T : Nat) (hn : n ≤ 12) (hr : CR w g 53 3 n (fun i c => [.bool (q i).b, .slice (q i).A (q i).n (q i).c, .int .i64 (F i).x].getD c undef)) (hd : ∀ i, i < n → RD w (q i) (F i)) (hl : ∀ i, i < n → (F i).Lim E T) (hET : E + T ≤ 16000) :
    Calls Tryd.prog 114 #[.slice (some ⟨g, 0, none⟩) n cap, .func (.func 115) #[] #[]] w fun e w' => e = .returned (.tuple #[]) ∧ IsRel w g 53 3 n (fun i c => [.bool (q i).b, .slice (q i).A (q i).n (q i).c, .int .i64 (F i).x].getD c undef) (Sort.insertionSort (fun x y => decide ((F y).cmp (F x) < 0)) (Array.range n) 0 n) w' := by
  have HS := Lib.hid (fun l => pdqD_any w g n cap q F l E T hn hr hd hl hET)
  have q0 : IntKind.u64.wrap (n : Int) = (n : Int) := by rw [IntKind.wrap_u64]; omega
  clear hr hd hl
  go_enter Tryd.func114, Tryd.ntmps114
  go_wp2_with fail
  refine (len_any _ n (by omega) (by omega)).mono ?_
  rintro e w0 ⟨rfl, rfl⟩
  go_wp2_with fail
  refine (HS.out _).mono ?_
  rintro e w1 ⟨rfl, h1⟩
  have H1 := Lib.hid h1
  clear h1
  go_wp2
  go_end0
  exact ⟨rfl, H1.out⟩
set_option maxRecDepth 100000 in
set_option maxHeartbeats 4000000 in
theorem sortD_nil (w : World)   :
    Calls Tryd.prog 114 #[.slice none 0 0, .func (.func 115) #[] #[]] w fun e w' => e = .returned (.tuple #[]) ∧ w' = w := by
  have HS := Lib.hid (fun l => pdqD_nil w l)
  go_enter Tryd.func114, Tryd.ntmps114
  go_wp2_with fail
  refine (len_any _ 0 (by omega) (by omega)).mono ?_
  rintro e w0 ⟨rfl, rfl⟩
  go_wp2_with fail
  refine (HS.out _).mono ?_
  rintro e w1 ⟨rfl, h1⟩
  have H1 := Lib.hid h1
  clear h1
  go_wp2
  go_end0
  exact ⟨rfl, H1.out⟩
set_option maxRecDepth 100000 in
set_option maxHeartbeats 4000000 in
theorem stableG_any (w : World) (g n cap : Nat) (A : Nat → Option Addr) (N C : Nat → Nat) (q : Nat → Q) (F : Nat → D) (E T : Nat) (hn : n ≤ 12) (hr : CR w g 176 4 n (fun i c => [.slice (A i) (N i) (C i), .bool (q i).b, .slice (q i).A (q i).n (q i).c, .int .i64 (F i).x].getD c undef)) (hd : ∀ i, i < n → RD w (q i) (F i)) (hl : ∀ i, i < n → (F i).Lim E T) (hET : E + T ≤ 16000) :
    Calls Tryd.prog 162 #[.slice (some ⟨g, 0, none⟩) n cap, .int .i64 n, .func (.func 118) #[] #[]] w fun e w' => e = .returned (.tuple #[]) ∧ IsRel w g 176 4 n (fun i c => [.slice (A i) (N i) (C i), .bool (q i).b, .slice (q i).A (q i).n (q i).c, .int .i64 (F i).x].getD c undef) (Sort.insertionSort (fun x y => decide ((F x).cmp (F y) < 0)) (Array.range n) 0 n) w' := by
  have HS := Lib.hid (isortG_any w g n cap A N C q F E T (by omega) hr hd hl hET)
  have q1 : ¬ (20 : Int) ≤ (n : Int) := by omega
  have q2 : ¬ (20 : Int) < (n : Int) := by omega
  clear hr hd hl
  go_enter Tryd.func162, Tryd.ntmps162
  go_wp2_with fail
  go_loopw [7, 8] (fun s7 s8 wr => s7 = .int .i64 0 ∧ s8 = .int .i64 20 ∧ wr = w) (fun _ _ _ => 0)
  case atStart => exact ⟨rfl, rfl, rfl⟩
  case round =>
    obtain ⟨rfl, rfl, rfl⟩ := hrel
    go_wp2_with fail
    refine HS.out.mono ?_
    rintro e w1 ⟨rfl, h1⟩
    have H1 := Lib.hid h1
    clear h1
    go_wp2_with fail
    go_loopw [6] (fun s6 wr => s6 = .int .i64 20 ∧ wr = w1) (fun _ _ => 0)
    case atStart => exact ⟨rfl, rfl⟩
    case round =>
      obtain ⟨rfl, rfl⟩ := hrel
      go_wp2
      go_end0
      exact ⟨rfl, H1.out⟩
set_option maxRecDepth 100000 in
set_option maxHeartbeats 4000000 in
theorem sortG_any (w : World) (g n cap : Nat) (A : Nat → Option Addr) (N C : Nat → Nat) (q : Nat → Q) (F : Nat → D) (E T : Nat) (hn : n ≤ 12) (hr : CR w g 176 4 n (fun i c => [.slice (A i) (N i) (C i), .bool (q i).b, .slice (q i).A (q i).n (q i).c, .int .i64 (F i).x].getD c undef)) (hd : ∀ i, i < n → RD w (q i) (F i)) (hl : ∀ i, i < n → (F i).Lim E T) (hET : E + T ≤ 16000) :
    Calls Tryd.prog 117 #[.slice (some ⟨g, 0, none⟩) n cap, .func (.func 118) #[] #[]] w fun e w' => e = .returned (.tuple #[]) ∧ IsRel w g 176 4 n (fun i c => [.slice (A i) (N i) (C i), .bool (q i).b, .slice (q i).A (q i).n (q i).c, .int .i64 (F i).x].getD c undef) (Sort.insertionSort (fun x y => decide ((F x).cmp (F y) < 0)) (Array.range n) 0 n) w' := by
  have HS := Lib.hid (stableG_any w g n cap A N C q F E T hn hr hd hl hET)
  clear hr hd hl
  go_enter Tryd.func117, Tryd.ntmps117
  go_wp2_with fail
  refine HS.out.mono ?_
  rintro e w1 ⟨rfl, h1⟩
  have H1 := Lib.hid h1
  clear h1
  go_wp2
  go_end0
  exact ⟨rfl, H1.out⟩
end Go.Proofs.YtgioppkggpfnoaaDoor.Nu
end

section
/- Rows that the call owns and appends to, of whatever cells but digits: what is appended, and that every digit keeps its value. -/
set_option linter.unusedVariables false
namespace Go.Proofs.YtgioppkggpfnoaaDoor.Nu
open Go.RowKit Go.Proofs

theorem infoLL : (Tryd.prog.info? 39).map (fun i => (i.zero, i.size, i.bytes)) = some (some (.slice none 0 0), 1, 24) := by kernel_rfl
/-- No digit among them. -/
def NoU (cur : Array Value) : Prop := ∀ u, u ∈ cur → ∀ v : Int, u ≠ .int .u32 v
/-- A row of the call's own, of m elements of k cells each: nil, or at the head of a block without digits. -/
def OW (w : World) (E : TypeId) (k : Nat) (v : Value) (m : Nat) (xs : List Value) : Prop :=
  xs.length = m * k ∧ ((v = .slice none 0 0 ∧ m = 0) ∨ ∃ g cap cur, v = .slice (some ⟨g, 0, none⟩) m cap ∧ m ≤ cap ∧ cap ≤ maxLen ∧ Bk w g E cur ∧ cur.size = cap * k ∧ cur.toList.take (m * k) = xs ∧ NoU cur)
theorem OW.nil (w : World) (E : TypeId) (k : Nat) : OW w E k (.slice none 0 0) 0 [] := ⟨by simp, .inl ⟨rfl, rfl⟩⟩
theorem OW.made (w : World) (E : TypeId) (k : Nat) : OW (w.alloc (.cells #[] E)) E k (.slice (some ⟨w.heap.size, 0, none⟩) 0 0) 0 [] :=
  ⟨by simp, .inr ⟨w.heap.size, 0, #[], rfl, Nat.le_refl _, Nat.zero_le _, alloc_top w _, by simp, by simp, fun u hu => by simp at hu⟩⟩
theorem OW.lt {w : World} {E : TypeId} {k : Nat} {v : Value} {m : Nat} {xs : List Value} (h : OW w E k v m xs) : ∀ g, v.ownBlock = some g → g < w.heap.size := by
  rcases h.2 with ⟨rfl, _⟩ | ⟨g, cap, cur, rfl, _, _, hb, _⟩
  · intro g hg; cases hg
  · intro g' hg
    obtain rfl : g = g' := by simpa [Value.ownBlock] using hg
    exact hb.lt
theorem OW.keep {w w' : World} {E : TypeId} {k : Nat} {v : Value} {m : Nat} {xs : List Value} (h : OW w E k v m xs) (hg : ∀ g, v.ownBlock = some g → w'.heap[g]? = w.heap[g]?) : OW w' E k v m xs := by
  refine ⟨h.1, ?_⟩
  rcases h.2 with ⟨rfl, e⟩ | ⟨g, cap, cur, rfl, h1, h2, hb, h3⟩
  · exact .inl ⟨rfl, e⟩
  · exact .inr ⟨g, cap, cur, rfl, h1, h2, (hg g rfl).trans hb, h3⟩
theorem OW.below {w w' : World} {E : TypeId} {k : Nat} {v : Value} {m : Nat} {xs : List Value} (h : OW w E k v m xs) (hb : Below w.heap.size w w') : OW w' E k v m xs := h.keep fun g hg => hb.block g (h.lt g hg)
theorem OW.al {w : World} {E : TypeId} {k : Nat} {v : Value} {m : Nat} {xs : List Value} (h : OW w E k v m xs) (o : Obj) : OW (w.alloc o) E k v m xs := h.keep fun g hg => sameA w (h.lt g hg) o
theorem OW.dr {w : World} {E : TypeId} {k : Nat} {v : Value} {m : Nat} {xs : List Value} (h : OW w E k v m xs) : OW w.drew E k v m xs := h.keep fun g hg => rfl
theorem OW.st {w : World} {E : TypeId} {k : Nat} {v : Value} {m : Nat} {xs : List Value} (h : OW w E k v m xs) {g' : Nat} (hg : ∀ g, v.ownBlock = some g → g ≠ g') (j : Nat) (u : Value) : OW (w.setCell ⟨g', j, none⟩ u) E k v m xs := h.keep fun g h2 => same1 w (hg g h2) j u
/-- What is read there. -/
theorem OW.cell {w : World} {E : TypeId} {k : Nat} {v : Value} {m : Nat} {xs : List Value} (h : OW w E k v m xs) (hm : 0 < m) : ∃ g cap, v = .slice (some ⟨g, 0, none⟩) m cap ∧ m ≤ cap ∧ g < w.heap.size ∧ (∀ (j : Nat) u, xs[j]? = some u → w.cell? ⟨g, j, none⟩ = some u) ∧ ∀ j, w.frozen? ⟨g, j, none⟩ = false := by
  rcases h.2 with ⟨_, e⟩ | ⟨g, cap, cur, rfl, h1, h2, hb, h3, h4, _⟩
  · omega
  · refine ⟨g, cap, rfl, h1, hb.lt, fun j u hj => ?_, fun j => hb.free j⟩
    refine hb.cell j ?_
    rw [← h4, List.getElem?_take] at hj
    split at hj
    · simpa using hj
    · cases hj
theorem dk_of_no {w w' : World} {row : Option Nat} (hg : w.grownBy w' row) (h : ∀ k, row = some k → k < w.heap.size → ∃ cur t, Bk w k t cur ∧ NoU cur) : Dk w w' := by
  refine ⟨hg.size, fun b o v e => ?_⟩
  by_cases hb : row = some b
  · obtain ⟨cur, t, hk, hj⟩ := h b hb (cell_lt e)
    rw [Lib.cell_of_heap hk] at e
    exact absurd rfl (hj _ (Array.mem_of_getElem? e) v)
  · exact hg.cell e (fun e2 => hb e2.symm)
theorem zero_no {z : Array Value} (h : NoU z) (hz : 0 < z.size) (n : Nat) : NoU (Builtin.zeroCells z n) := by
  intro u hu v
  simp only [Builtin.zeroCells, Array.mem_map] at hu
  obtain ⟨i, _, rfl⟩ := hu
  have hi : i % z.size < z.size := Nat.mod_lt _ hz
  rw [getElem!_pos z _ hi]
  exact h _ (Array.getElem_mem hi) v
/-- Elements more. -/
theorem run_append_ow (w : World) (T ty E : TypeId) (k bts : Nat) (z : Value) (i0 : TypeInfo) (ht : Tryd.prog.underlying T = some (.slice E)) (hi : Tryd.prog.info? E = some i0) (hz0 : i0.zero = some z) (hz1 : i0.size = k) (hz2 : i0.bytes = bts)
    (hzc : z.cells.size = k) (hzn : NoU z.cells) (hk : 0 < k) (hbt : bts ≤ 100) (v : Value) (m : Nat) (xs : List Value) (hown : OW w E k v m xs) (ad : Addr) (n c : Nat) (news : List Value) (hl : news.length = n * k) (hnews : ∀ j u, news[j]? = some u → w.cell? (ad.add j) = some u) (h1 : ∀ u ∈ news, u.oneCell' = true)
    (hnn : ∀ u ∈ news, ∀ x : Int, u ≠ .int .u32 x) (h0 : v = .slice none 0 0 → 0 < n) (hm : m + n ≤ 1000000) :
    ∃ v' w', (Builtin.append_ #[T, T] ty #[v, .slice (some ad) n c]).run Tryd.prog w = .ok v' w' ∧ OW w' E k v' (m + n) (xs ++ news) ∧ w.grownBy w' v.ownBlock ∧ Dk w w' ∧ (v'.ownBlock = v.ownBlock ∨ v'.ownBlock = some w.heap.size) := by
  have hml : (1000001 : Nat) ≤ maxLen := by unfold maxLen; omega
  have hb48 : (m + n) * bts ≤ 140737488355328 := Nat.le_trans (Nat.mul_le_mul hm hbt) (by omega)
  have hxs : ∀ u ∈ xs, ∀ x : Int, u ≠ .int .u32 x := by
    rcases hown.2 with ⟨_, e⟩ | ⟨g, cap, cur, _, _, _, _, _, e, hall⟩
    · subst e
      have := hown.1
      rw [Nat.zero_mul] at this
      rw [List.length_eq_zero_iff.1 this]
      intro u hu; cases hu
    · intro u hu
      rw [← e] at hu
      exact hall u (by simpa using List.mem_of_mem_take hu)
  have grown : ∀ (old : Nat) (row : Option Nat), (∀ k, row = some k → k < w.heap.size → ∃ cur t, Bk w k t cur ∧ NoU cur) →
      OW (w.drew.alloc (.cells (xs.toArray ++ news.toArray ++ Builtin.zeroCells z.cells (grownCap w (m + n) old E - (m + n))) E)) E k (.slice (some ⟨w.heap.size, 0, none⟩) (m + n) (grownCap w (m + n) old E)) (m + n) (xs ++ news) ∧
      w.grownBy (w.drew.alloc (.cells (xs.toArray ++ news.toArray ++ Builtin.zeroCells z.cells (grownCap w (m + n) old E - (m + n))) E)) row ∧
      Dk w (w.drew.alloc (.cells (xs.toArray ++ news.toArray ++ Builtin.zeroCells z.cells (grownCap w (m + n) old E - (m + n))) E)) := by
    intro old row hrow
    have hge := grownCap_ge w (m + n) old E
    have hcm : grownCap w (m + n) old E ≤ maxLen := grownCap_le_maxLen w (m + n) old E (by omega)
    have hlen : (xs ++ news).length = (m + n) * k := by rw [List.length_append, hown.1, hl, Nat.add_mul]
    refine ⟨⟨hlen, .inr ⟨w.heap.size, _, _, rfl, hge, hcm, alloc_top w.drew _, ?_, ?_, ?_⟩⟩, ⟨rfl, rfl, rfl, by simp, fun k hk _ => by first | exact heap_alloc_old w.drew _ k hk | exact heap_alloc_old w.drew _ hk⟩, ((Dk.refl w).drew).alloc _⟩
    · rw [Array.size_append, Array.size_append, List.size_toArray, List.size_toArray, size_zeroCells, hzc, ← List.length_append, hlen, ← Nat.add_mul, Nat.add_sub_cancel' hge]
    · rw [Array.toList_append, Array.toList_append, List.toList_toArray, List.toList_toArray, ← hlen]
      exact List.take_left
    · intro u hu
      simp only [Array.mem_append, List.mem_toArray] at hu
      rcases hu with (hx | hx) | hx
      · exact hxs u hx
      · exact hnn u hx
      · exact zero_no hzn (by omega) _ u hx
  rcases hown.2 with ⟨rfl, e⟩ | ⟨g, cap, cur, rfl, h2, h3, hg, h5, htake, hall⟩
  · subst e
    have hx0 : xs = [] := List.length_eq_zero_iff.1 (by have := hown.1; rw [Nat.zero_mul] at this; exact this)
    subst hx0
    have hn := h0 rfl
    have hbn : n * bts ≤ 140737488355328 := Nat.le_trans (Nat.mul_le_mul (show n ≤ 1000000 by omega) hbt) (by omega)
    have hr := run_append_nil (P := Tryd.prog) w T ty E i0 z ht hi hz0 ad n c news (by rw [hz1]; exact hl) hnews hn (by omega) (by rw [hz2]; omega)
    have hgr := grown 0 (Value.ownBlock (.slice none 0 0)) (by intro k hk; cases hk)
    simp only [Nat.zero_add, List.nil_append, Array.empty_append] at hgr ⊢
    exact ⟨_, _, hr, hgr.1, hgr.2.1, hgr.2.2, .inr rfl⟩
  · by_cases hroom : m + n ≤ cap
    · have hmul : (m + n) * k ≤ cap * k := Nat.mul_le_mul_right _ hroom
      rw [Nat.add_mul] at hmul
      have hfit : m * i0.size + news.length ≤ cur.size := by rw [hz1, h5, hl]; omega
      have hr := run_append_room (P := Tryd.prog) w T ty E i0 ht hi g m cap cur hg ad n c news (by rw [hz1]; exact hl) hnews h1 hroom hfit
      have hgb : w.grownBy (w.setRow g (cur.toList.take (m * i0.size) ++ news ++ cur.toList.drop (m * i0.size + news.length)).toArray) (Value.ownBlock (.slice (some ⟨g, 0, none⟩) m cap)) := ⟨rfl, rfl, rfl, by simp, fun k _ hk => setRow_other w g k _ (fun e => hk (by simp [Value.ownBlock, e]))⟩
      have hlen : (xs ++ news).length = (m + n) * k := by rw [List.length_append, hown.1, hl, Nat.add_mul]
      refine ⟨_, _, hr, ⟨hlen, .inr ⟨g, cap, _, rfl, hroom, h3, setRow_heap w g cur _ _ _ hg, ?_, ?_, ?_⟩⟩, hgb, dk_of_no hgb ?_, .inl rfl⟩
      · rw [hz1]
        simp only [List.size_toArray, List.length_append, List.length_take, List.length_drop, Array.length_toList]
        omega
      · rw [hz1, htake, List.toList_toArray, ← hlen]
        exact List.take_left
      · intro u hu
        rw [List.mem_toArray, List.mem_append, List.mem_append] at hu
        rcases hu with (hx | hx) | hx
        · exact hall u (by simpa using List.mem_of_mem_take hx)
        · exact hnn u hx
        · exact hall u (by simpa using List.mem_of_mem_drop hx)
      · intro k hk _
        obtain rfl : g = k := by simpa [Value.ownBlock] using hk
        exact ⟨cur, _, hg, hall⟩
    · have holds : ∀ j u, xs[j]? = some u → w.cell? ((⟨g, 0, none⟩ : Addr).add j) = some u := by
        intro j u hj
        rw [Addr.add_lit, Nat.zero_add, Lib.cell_of_heap hg]
        rw [← htake, List.getElem?_take] at hj
        split at hj
        · simpa using hj
        · cases hj
      have hr := run_append_grow (P := Tryd.prog) w T ty E i0 z ht hi hz0 ⟨g, 0, none⟩ m cap xs (by rw [hz1]; exact hown.1) holds ad n c news (by rw [hz1]; exact hl) hnews (by omega) (by omega) (growslice_fits (by omega) (by rw [hz2]; omega))
      have hgr := grown cap (Value.ownBlock (.slice (some ⟨g, 0, none⟩) m cap)) (by
        intro k hk _
        obtain rfl : g = k := by simpa [Value.ownBlock] using hk
        exact ⟨cur, _, hg, hall⟩)
      exact ⟨_, _, hr, hgr.1, hgr.2.1, hgr.2.2, .inr rfl⟩
theorem wpList_append_ow {ops : Array Oper} {rest : List Oper} {o : Oper} {a : Act} {Q : Exit → Act → World → Prop} {w : World} (hgd : o.guard = none) (s x : Operand) (T : TypeId)
    (ho : o.op = .call { callee := .builtin .append, args := #[s, x], argTypes := #[T, T] }) (E : TypeId) (k bts : Nat) (z : Value) (i0 : TypeInfo) (ht : Tryd.prog.underlying T = some (.slice E)) (hi : Tryd.prog.info? E = some i0) (hz0 : i0.zero = some z) (hz1 : i0.size = k) (hz2 : i0.bytes = bts)
    (hzc : z.cells.size = k) (hzn : NoU z.cells) (hk : 0 < k) (hbt : bts ≤ 100)
    (v : Value) (m : Nat) (xs : List Value) (hs : a.eval s = v) (hown : OW w E k v m xs) (ad : Addr) (n c : Nat) (news : List Value) (hx : a.eval x = .slice (some ad) n c) (hl : news.length = n * k) (hnews : ∀ j u, news[j]? = some u → w.cell? (ad.add j) = some u) (h1 : ∀ u ∈ news, u.oneCell' = true)
    (hnn : ∀ u ∈ news, ∀ x : Int, u ≠ .int .u32 x) (h0 : v = .slice none 0 0 → 0 < n) (hm : m + n ≤ 1000000)
    (h : ∀ v' w', OW w' E k v' (m + n) (xs ++ news) → w.grownBy w' v.ownBlock → Dk w w' → (v'.ownBlock = v.ownBlock ∨ v'.ownBlock = some w.heap.size) → wpList Tryd.prog ops Q rest (a.put o.dst v') w') :
    wpList Tryd.prog ops Q (o :: rest) a w := by
  refine wpList_plain hgd fun K hK => ?_
  obtain ⟨v', w', hr, h2, h3, h4, h5⟩ := run_append_ow w T o.type E k bts z i0 ht hi hz0 hz1 hz2 hzc hzn hk hbt v m xs hown ad n c news hl hnews h1 hnn h0 hm
  unfold Oper.wp execOp
  simp only [ho, resolve, invoke, builtin, Sem.run_bind, Sem.run_pure, Result.andThen_ok, List.map_toArray, List.map_cons, List.map_nil, hs, hx, hr]
  exact hK _ _ (h v' w' h2 h3 h4 h5)
/-- Cells of an element, behind an append. -/
theorem OW.inD {w : World} {E : TypeId} {v : Value} {m : Nat} {xs : List Value} {f : Nat → D} (h : OW w E 3 v m xs) (hE : E = 53) (hm : 0 < m) (hj : ∀ j, j < m → inD w xs.toArray j (f j)) : ∃ g cap, v = .slice (some ⟨g, 0, none⟩) m cap ∧ m ≤ cap ∧ OP w g m f := by
  rcases h.2 with ⟨_, e⟩ | ⟨g, cap, cur, rfl, h1, h2, hb, h3, h4, _⟩
  · omega
  · refine ⟨g, cap, rfl, h1, cur, hE ▸ hb, fun j hjn => ?_⟩
    obtain ⟨q, a, b, c, hr⟩ := hj j hjn
    have hk : ∀ k u, xs[k]? = some u → cur[k]? = some u := fun k u hu => by
      rw [← h4, List.getElem?_take] at hu
      split at hu
      · simpa using hu
      · cases hu
    exact ⟨q, hk _ _ (by simpa using a), hk _ _ (by simpa using b), hk _ _ (by simpa using c), hr⟩
theorem OW.cr {w : World} {E : TypeId} {k : Nat} {v : Value} {m : Nat} {xs : List Value} {e : Nat → Nat → Value} (h : OW w E k v m xs) (hm : 0 < m) (hj : ∀ j c, j < m → c < k → xs[j * k + c]? = some (e j c)) : ∃ g cap, v = .slice (some ⟨g, 0, none⟩) m cap ∧ m ≤ cap ∧ CR w g E k m e := by
  rcases h.2 with ⟨_, e⟩ | ⟨g, cap, cur, rfl, h1, h2, hb, h3, h4, _⟩
  · omega
  · refine ⟨g, cap, rfl, h1, cur, hb, fun j c hjn hc => ?_⟩
    have hu := hj j c hjn hc
    rw [← h4, List.getElem?_take] at hu
    split at hu
    · simpa using hu
    · cases hu
end Go.Proofs.YtgioppkggpfnoaaDoor.Nu
end

section
/- The walk of dyad.Round. -/
set_option linter.unusedVariables false
namespace Go.Proofs.YtgioppkggpfnoaaDoor.Nu
open Go.RowKit Go.Proofs

set_option maxRecDepth 100000 in
set_option maxHeartbeats 4000000 in
theorem dround_any (w : World) (p : Q) (a : D) (bits : Nat) (up : Bool) (E T : Nat) (h : RD w p a) (la : a.Lim E T) (hET : E + T ≤ 16000) (hb2 : 2 ≤ bits) (hb3 : bits ≤ 4096) (ht : BTab w) :
    Calls Tryd.prog 148 #[.agg #[.bool p.b, .slice p.A p.n p.c, .int .i64 a.x], .int .i64 bits, .bool up] w fun e w' => (∃ r : Q, e = .returned (.tuple #[.agg #[.bool r.b, .slice r.A r.n r.c, .int .i64 (a.round bits up).x], .int .i64 0]) ∧ RD w' r (a.round bits up)) ∧ Below w.heap.size w w' := by
  have HA := Lib.hid h
  have LA := Lib.hid la
  clear h la
  have HT := Lib.hid ht
  clear ht
  have y0 := Lib.hid LA.out.nb
  have x0 := Lib.hid (lim_top LA.out hET)
  have x1 := x0.out.2.1
  have x2 := x0.out.2.2
  have k0 : ¬ (bits : Int) < 2 := by omega
  have k1 : ¬ (4096 : Int) < (bits : Int) := by omega
  by_cases hov : nb a.z.natAbs ≤ bits
  · rw [round_exact hov]
    obtain ⟨K, hK⟩ : ∃ K, nb a.z.natAbs = K := ⟨_, rfl⟩
    have hk2 : K ≤ 16000 := by have := y0.out; omega
    rw [hK] at hov
    have HK := Lib.hid (show ((nb a.z.natAbs : Nat) : Int) = (K : Int) by rw [hK])
    clear hK
    have q0 : (K : Int) - (bits : Int) ≤ 0 := by omega
    have BX := Lib.hid (boxes2 w 53 #[.bool p.b, .slice p.A p.n p.c, .int .i64 a.x] 53 #[.bool false, .slice none 0 0, .int .i64 0])
    go_enter Tryd.func148, Tryd.ntmps148
    go_wp2_with fail
    generalize (w.alloc (.cells #[.bool p.b, .slice p.A p.n p.c, .int .i64 a.x] 53)).alloc (.cells #[.bool false, .slice none 0 0, .int .i64 0] 53) = w0 at *
    obtain ⟨b0, b1, hw⟩ := BX.out
    have Ba_0 := Lib.hid b0
    have Bo_0 := Lib.hid b1
    have HB_0 := Lib.hid hw
    have K := Dk.below (hw.mono (Nat.le_refl _))
    clear BX hw b0 b1
    have RA_1 := Lib.hid (HA.out.dk K)
    clear K HA
    have la := Ba_0.out.lt
    obtain ⟨ca0, ca1, ca2⟩ := Ba_0.out.cells3
    have lo := Bo_0.out.lt
    obtain ⟨co0, co1, co2⟩ := Bo_0.out.cells3
    go_wp2_with fail
    refine (bits_k _ p a.z RA_1.out.1 x0.out.1).mono ?_
    rintro e w' ⟨rfl, rfl⟩
    rw [HK.out]
    clear la ca0 ca1 ca2 lo co0 co1 co2
    have la := Ba_0.out.lt
    obtain ⟨ca0, ca1, ca2⟩ := Ba_0.out.cells3
    have lo := Bo_0.out.lt
    obtain ⟨co0, co1, co2⟩ := Bo_0.out.cells3
    have fo0 := Bo_0.out.free 0
    have fo1 := Bo_0.out.free 1
    have fo2 := Bo_0.out.free 2
    go_wp2
    refine bodyPost_ret (v := .tuple #[.agg #[.bool p.b, .slice p.A p.n p.c, .int .i64 a.x], .int .i64 0]) ?_ rfl ?_
    · simp [results, Tryd.f148, go_sem, co0, co1, co2]
    · have y0 := HB_0.out.size; exact ⟨⟨p, rfl, (RA_1.out.dk ((((Dk.refl _).set (cs := #[.bool false, .slice none 0 0, .int .i64 0]) Bo_0.out 0 (by intro _ hh; cases hh) (.bool p.b)).set (cs := #[.bool p.b, .slice none 0 0, .int .i64 0]) (Bo_0.out.set 0 (.bool p.b)) 1 (by intro _ hh; cases hh) (.slice p.A p.n p.c)).set (cs := #[.bool p.b, .slice p.A p.n p.c, .int .i64 0]) ((Bo_0.out.set 0 (.bool p.b)).set 1 (.slice p.A p.n p.c)) 2 (by intro _ hh; cases hh) (.int .i64 a.x)))⟩, (below_st (below_st (below_st HB_0.out 0 (by omega) (.bool p.b)) 1 (by omega) (.slice p.A p.n p.c)) 2 (by omega) (.int .i64 a.x))⟩
  · unfold D.round
    rw [if_neg hov]
    have HM := Lib.hid (fun z : Int => floor_nb z (nb a.z.natAbs - bits) bits)
    obtain ⟨k, hk⟩ : ∃ k, nb a.z.natAbs - bits = k := ⟨_, rfl⟩
    rw [hk] at HM
    rw [hk]
    have hk0 : 0 < k := by omega
    have hk1 : k ≤ 16000 := by have := y0.out; omega
    have HK := Lib.hid (show ((nb a.z.natAbs : Nat) : Int) = (bits : Int) + (k : Int) by omega)
    have HN := Lib.hid (show nb a.z.natAbs ≤ k + bits by omega)
    clear hov hk
    cases up
    · simp only [Bool.false_eq_true, if_false]
      have BX := Lib.hid (boxes2 w 53 #[.bool p.b, .slice p.A p.n p.c, .int .i64 a.x] 53 #[.bool false, .slice none 0 0, .int .i64 0])
      go_enter Tryd.func148, Tryd.ntmps148
      go_wp2_with fail
      generalize (w.alloc (.cells #[.bool p.b, .slice p.A p.n p.c, .int .i64 a.x] 53)).alloc (.cells #[.bool false, .slice none 0 0, .int .i64 0] 53) = w0 at *
      obtain ⟨b0, b1, hw⟩ := BX.out
      have Ba_0 := Lib.hid b0
      have Bo_0 := Lib.hid b1
      have HB_0 := Lib.hid hw
      have K := Dk.below (hw.mono (Nat.le_refl _))
      clear BX hw b0 b1
      have RA_1 := Lib.hid (HA.out.dk K)
      clear K HA
      have la := Ba_0.out.lt
      obtain ⟨ca0, ca1, ca2⟩ := Ba_0.out.cells3
      have lo := Bo_0.out.lt
      obtain ⟨co0, co1, co2⟩ := Bo_0.out.cells3
      go_wp2_with fail
      refine (bits_k _ p a.z RA_1.out.1 x0.out.1).mono ?_
      rintro e w' ⟨rfl, rfl⟩
      rw [HK.out]
      go_wp2_with fail
      rw [show ((bits : Int) + (k : Int) - (bits : Int)) = ((k : Nat) : Int) by omega]
      refine (wright_q _ p a.z k RA_1.out.1 x0.out.1 (by omega) (HT.out.below HB_0.out)).mono ?_
      rintro e w1 ⟨⟨r, rfl, hr⟩, hb⟩
      clear la ca0 ca1 ca2 lo co0 co1 co2
      have K := Dk.below hb
      have Ba_2 := Lib.hid (show Bk _ _ _ #[.bool p.b, .slice p.A p.n p.c, .int .i64 a.x] from Ba_0.out.below hb)
      have Bo_3 := Lib.hid (show Bk _ _ _ #[.bool false, .slice none 0 0, .int .i64 0] from Bo_0.out.below hb)
      have HB_4 := Lib.hid (below_tr HB_0.out hb)
      clear hb
      have RA_5 := Lib.hid (RA_1.out.dk K)
      clear K Ba_0 Bo_0 HB_0 RA_1
      have RX_6 := Lib.hid hr
      clear hr
      have la := Ba_2.out.lt
      obtain ⟨ca0, ca1, ca2⟩ := Ba_2.out.cells3
      have lo := Bo_3.out.lt
      obtain ⟨co0, co1, co2⟩ := Bo_3.out.cells3
      have n_7 := Ba_2.out.lt
      have n_8 := Bo_3.out.lt
      go_wp2_with fail
      try rw [show ((bits : Int) + (k : Int) - (bits : Int)) = ((k : Nat) : Int) by omega]
      refine (dmake_q _ r (a.z / 2 ^ k) (a.x + (k : Int)) (RX_6.out.dk ((Dk.refl _).alloc _)) (by have := HM.out a.z HN.out; omega) (by omega) (by omega) (HT.out.below (below_al HB_4.out _))).mono ?_
      rintro e w2 ⟨⟨v, rfl, hv⟩, hb⟩
      clear la ca0 ca1 ca2 lo co0 co1 co2
      have K := Dk.trans ((Dk.refl _).alloc _) (.below hb)
      have Ba_9 := Lib.hid (show Bk _ _ _ #[.bool p.b, .slice p.A p.n p.c, .int .i64 a.x] from (Ba_2.out.alloc _).below hb)
      have Bo_10 := Lib.hid (show Bk _ _ _ #[.bool false, .slice none 0 0, .int .i64 0] from (Bo_3.out.alloc _).below hb)
      have Bm_11 := Lib.hid (show Bk _ _ _ #[.bool r.b, .slice r.A r.n r.c] from (Bk.new _ 51 #[.bool r.b, .slice r.A r.n r.c]).below hb)
      have HB_12 := Lib.hid (below_tr (below_al HB_4.out _) hb)
      clear hb
      have RA_13 := Lib.hid (RA_5.out.dk K)
      have RX_14 := Lib.hid (RX_6.out.dk K)
      clear K Ba_2 Bo_3 HB_4 RA_5 RX_6
      have RV_15 := Lib.hid hv
      clear hv
      have la := Ba_9.out.lt
      obtain ⟨ca0, ca1, ca2⟩ := Ba_9.out.cells3
      have lo := Bo_10.out.lt
      obtain ⟨co0, co1, co2⟩ := Bo_10.out.cells3
      have fo0 := Bo_10.out.free 0
      have fo1 := Bo_10.out.free 1
      have fo2 := Bo_10.out.free 2
      have lm := Bm_11.out.lt
      obtain ⟨cm0, cm1⟩ := Bm_11.out.cells2
      go_wp2
      refine bodyPost_ret (v := .tuple #[.agg #[.bool v.b, .slice v.A v.n v.c, .int .i64 (D.mk' (a.z / 2 ^ k) (a.x + (k : Int))).x], .int .i64 0]) ?_ rfl ?_
      · simp [results, Tryd.f148, go_sem, co0, co1, co2]
      · have y0 := HB_12.out.size; exact ⟨⟨v, rfl, (RV_15.out.dk ((((Dk.refl _).set (cs := #[.bool false, .slice none 0 0, .int .i64 0]) Bo_10.out 0 (by intro _ hh; cases hh) (.bool v.b)).set (cs := #[.bool v.b, .slice none 0 0, .int .i64 0]) (Bo_10.out.set 0 (.bool v.b)) 1 (by intro _ hh; cases hh) (.slice v.A v.n v.c)).set (cs := #[.bool v.b, .slice v.A v.n v.c, .int .i64 0]) ((Bo_10.out.set 0 (.bool v.b)).set 1 (.slice v.A v.n v.c)) 2 (by intro _ hh; cases hh) (.int .i64 (D.mk' (a.z / 2 ^ k) (a.x + (k : Int))).x)))⟩, (below_st (below_st (below_st HB_12.out 0 (by omega) (.bool v.b)) 1 (by omega) (.slice v.A v.n v.c)) 2 (by omega) (.int .i64 (D.mk' (a.z / 2 ^ k) (a.x + (k : Int))).x))⟩
    · simp only [if_true]
      have BX := Lib.hid (boxes2 w 53 #[.bool p.b, .slice p.A p.n p.c, .int .i64 a.x] 53 #[.bool false, .slice none 0 0, .int .i64 0])
      go_enter Tryd.func148, Tryd.ntmps148
      go_wp2_with fail
      generalize (w.alloc (.cells #[.bool p.b, .slice p.A p.n p.c, .int .i64 a.x] 53)).alloc (.cells #[.bool false, .slice none 0 0, .int .i64 0] 53) = w0 at *
      obtain ⟨b0, b1, hw⟩ := BX.out
      have Ba_0 := Lib.hid b0
      have Bo_0 := Lib.hid b1
      have HB_0 := Lib.hid hw
      have K := Dk.below (hw.mono (Nat.le_refl _))
      clear BX hw b0 b1
      have RA_1 := Lib.hid (HA.out.dk K)
      clear K HA
      have la := Ba_0.out.lt
      obtain ⟨ca0, ca1, ca2⟩ := Ba_0.out.cells3
      have lo := Bo_0.out.lt
      obtain ⟨co0, co1, co2⟩ := Bo_0.out.cells3
      go_wp2_with fail
      refine (bits_k _ p a.z RA_1.out.1 x0.out.1).mono ?_
      rintro e w' ⟨rfl, rfl⟩
      rw [HK.out]
      go_wp2_with fail
      rw [show ((bits : Int) + (k : Int) - (bits : Int)) = ((k : Nat) : Int) by omega]
      refine (wright_q _ p a.z k RA_1.out.1 x0.out.1 (by omega) (HT.out.below HB_0.out)).mono ?_
      rintro e w1 ⟨⟨r, rfl, hr⟩, hb⟩
      clear la ca0 ca1 ca2 lo co0 co1 co2
      have K := Dk.below hb
      have Ba_2 := Lib.hid (show Bk _ _ _ #[.bool p.b, .slice p.A p.n p.c, .int .i64 a.x] from Ba_0.out.below hb)
      have Bo_3 := Lib.hid (show Bk _ _ _ #[.bool false, .slice none 0 0, .int .i64 0] from Bo_0.out.below hb)
      have HB_4 := Lib.hid (below_tr HB_0.out hb)
      clear hb
      have RA_5 := Lib.hid (RA_1.out.dk K)
      clear K Ba_0 Bo_0 HB_0 RA_1
      have RX_6 := Lib.hid hr
      clear hr
      have la := Ba_2.out.lt
      obtain ⟨ca0, ca1, ca2⟩ := Ba_2.out.cells3
      have lo := Bo_3.out.lt
      obtain ⟨co0, co1, co2⟩ := Bo_3.out.cells3
      have n_7 := Ba_2.out.lt
      have n_8 := Bo_3.out.lt
      go_wp2_with fail
      refine (wneg_q _ p a.z (RA_5.out.dk ((Dk.refl _).alloc _)).1 x0.out.1).mono ?_
      rintro e w2 ⟨⟨s, rfl, hs⟩, hb⟩
      clear la ca0 ca1 ca2 lo co0 co1 co2
      have K := Dk.trans ((Dk.refl _).alloc _) (.below hb)
      have Ba_9 := Lib.hid (show Bk _ _ _ #[.bool p.b, .slice p.A p.n p.c, .int .i64 a.x] from (Ba_2.out.alloc _).below hb)
      have Bo_10 := Lib.hid (show Bk _ _ _ #[.bool false, .slice none 0 0, .int .i64 0] from (Bo_3.out.alloc _).below hb)
      have Bm_11 := Lib.hid (show Bk _ _ _ #[.bool r.b, .slice r.A r.n r.c] from (Bk.new _ 51 #[.bool r.b, .slice r.A r.n r.c]).below hb)
      have HB_12 := Lib.hid (below_tr (below_al HB_4.out _) hb)
      clear hb
      have RA_13 := Lib.hid (RA_5.out.dk K)
      have RX_14 := Lib.hid (RX_6.out.dk K)
      clear K Ba_2 Bo_3 HB_4 RA_5 RX_6
      have RN_15 := Lib.hid hs
      clear hs
      have la := Ba_9.out.lt
      obtain ⟨ca0, ca1, ca2⟩ := Ba_9.out.cells3
      have lo := Bo_10.out.lt
      obtain ⟨co0, co1, co2⟩ := Bo_10.out.cells3
      have lm := Bm_11.out.lt
      obtain ⟨cm0, cm1⟩ := Bm_11.out.cells2
      have fm0 := Bm_11.out.free 0
      have fm1 := Bm_11.out.free 1
      go_wp2_with fail
      refine (wright_q _ s (-a.z) k RN_15.out (by rw [Int.natAbs_neg]; exact x0.out.1) (by omega) (HT.out.below HB_12.out)).mono ?_
      rintro e w3 ⟨⟨t, rfl, ht⟩, hb⟩
      clear la ca0 ca1 ca2 lo co0 co1 co2 lm cm0 cm1 fm0 fm1
      have K := Dk.below hb
      have Ba_16 := Lib.hid (show Bk _ _ _ #[.bool p.b, .slice p.A p.n p.c, .int .i64 a.x] from Ba_9.out.below hb)
      have Bo_17 := Lib.hid (show Bk _ _ _ #[.bool false, .slice none 0 0, .int .i64 0] from Bo_10.out.below hb)
      have Bm_18 := Lib.hid (show Bk _ _ _ #[.bool r.b, .slice r.A r.n r.c] from Bm_11.out.below hb)
      have HB_19 := Lib.hid (below_tr HB_12.out hb)
      clear hb
      have RA_20 := Lib.hid (RA_13.out.dk K)
      have RX_21 := Lib.hid (RX_14.out.dk K)
      have RN_22 := Lib.hid (RN_15.out.dk K)
      clear K Ba_9 Bo_10 Bm_11 HB_12 RA_13 RX_14 RN_15
      have RT_23 := Lib.hid ht
      clear ht
      have la := Ba_16.out.lt
      obtain ⟨ca0, ca1, ca2⟩ := Ba_16.out.cells3
      have lo := Bo_17.out.lt
      obtain ⟨co0, co1, co2⟩ := Bo_17.out.cells3
      have lm := Bm_18.out.lt
      obtain ⟨cm0, cm1⟩ := Bm_18.out.cells2
      have fm0 := Bm_18.out.free 0
      have fm1 := Bm_18.out.free 1
      have n_24 := Ba_16.out.lt
      have n_25 := Bo_17.out.lt
      have n_26 := Bm_18.out.lt
      go_wp2_with fail
      refine (wneg_q _ t (-a.z / 2 ^ k) (RT_23.out.dk ((Dk.refl _).alloc _)) (by have := HM.out (-a.z) (by rw [Int.natAbs_neg]; exact HN.out); omega)).mono ?_
      rintro e w4 ⟨⟨u, rfl, hu⟩, hb⟩
      clear la ca0 ca1 ca2 lo co0 co1 co2 lm cm0 cm1 fm0 fm1
      have K := Dk.trans ((Dk.refl _).alloc _) (.below hb)
      have Ba_27 := Lib.hid (show Bk _ _ _ #[.bool p.b, .slice p.A p.n p.c, .int .i64 a.x] from (Ba_16.out.alloc _).below hb)
      have Bo_28 := Lib.hid (show Bk _ _ _ #[.bool false, .slice none 0 0, .int .i64 0] from (Bo_17.out.alloc _).below hb)
      have Bm_29 := Lib.hid (show Bk _ _ _ #[.bool r.b, .slice r.A r.n r.c] from (Bm_18.out.alloc _).below hb)
      have Bn_30 := Lib.hid (show Bk _ _ _ #[.bool t.b, .slice t.A t.n t.c] from (Bk.new _ 51 #[.bool t.b, .slice t.A t.n t.c]).below hb)
      have HB_31 := Lib.hid (below_tr (below_al HB_19.out _) hb)
      clear hb
      have RA_32 := Lib.hid (RA_20.out.dk K)
      have RX_33 := Lib.hid (RX_21.out.dk K)
      have RN_34 := Lib.hid (RN_22.out.dk K)
      have RT_35 := Lib.hid (RT_23.out.dk K)
      clear K Ba_16 Bo_17 Bm_18 HB_19 RA_20 RX_21 RN_22 RT_23
      have RU_36 := Lib.hid hu
      clear hu
      have la := Ba_27.out.lt
      obtain ⟨ca0, ca1, ca2⟩ := Ba_27.out.cells3
      have lo := Bo_28.out.lt
      obtain ⟨co0, co1, co2⟩ := Bo_28.out.cells3
      have lm := Bm_29.out.lt
      obtain ⟨cm0, cm1⟩ := Bm_29.out.cells2
      have fm0 := Bm_29.out.free 0
      have fm1 := Bm_29.out.free 1
      have ln := Bn_30.out.lt
      obtain ⟨cn0, cn1⟩ := Bn_30.out.cells2
      go_wp2_with fail
      try rw [show ((bits : Int) + (k : Int) - (bits : Int)) = ((k : Nat) : Int) by omega]
      refine (dmake_q _ u (-(-a.z / 2 ^ k)) (a.x + (k : Int)) (RU_36.out.dk (((Dk.refl _).set (cs := #[.bool r.b, .slice r.A r.n r.c]) Bm_29.out 0 (by intro _ hh; cases hh) (.bool u.b)).set (cs := #[.bool u.b, .slice r.A r.n r.c]) (Bm_29.out.set 0 (.bool u.b)) 1 (by intro _ hh; cases hh) (.slice u.A u.n u.c))) (by have := HM.out (-a.z) (by rw [Int.natAbs_neg]; exact HN.out); rw [Int.natAbs_neg]; omega) (by omega) (by omega) (HT.out.below (below_st (below_st HB_31.out 0 (by have := HB_31.out.size; omega) (.bool u.b)) 1 (by have := HB_31.out.size; omega) (.slice u.A u.n u.c)))).mono ?_
      rintro e w5 ⟨⟨v, rfl, hv⟩, hb⟩
      clear la ca0 ca1 ca2 lo co0 co1 co2 lm cm0 cm1 fm0 fm1 ln cn0 cn1
      have K := Dk.trans (((Dk.refl _).set (cs := #[.bool r.b, .slice r.A r.n r.c]) Bm_29.out 0 (by intro _ hh; cases hh) (.bool u.b)).set (cs := #[.bool u.b, .slice r.A r.n r.c]) (Bm_29.out.set 0 (.bool u.b)) 1 (by intro _ hh; cases hh) (.slice u.A u.n u.c)) (.below hb)
      have y0 := Ba_27.out.lt; have y1 := Bo_28.out.lt; have y2 := Bm_29.out.lt; have y3 := Bn_30.out.lt; have y4 := HB_31.out.size; have Ba_37 := Lib.hid (show Bk _ _ _ #[.bool p.b, .slice p.A p.n p.c, .int .i64 a.x] from ((Ba_27.out.ne (by omega) 0 (.bool u.b)).ne (by omega) 1 (.slice u.A u.n u.c)).below hb); clear y0 y1 y2 y3 y4
      have y0 := Ba_27.out.lt; have y1 := Bo_28.out.lt; have y2 := Bm_29.out.lt; have y3 := Bn_30.out.lt; have y4 := HB_31.out.size; have Bo_38 := Lib.hid (show Bk _ _ _ #[.bool false, .slice none 0 0, .int .i64 0] from ((Bo_28.out.ne (by omega) 0 (.bool u.b)).ne (by omega) 1 (.slice u.A u.n u.c)).below hb); clear y0 y1 y2 y3 y4
      have Bm_39 := Lib.hid (show Bk _ _ _ #[.bool u.b, .slice u.A u.n u.c] from ((Bm_29.out.set 0 (.bool u.b)).set 1 (.slice u.A u.n u.c)).below hb)
      have y0 := Ba_27.out.lt; have y1 := Bo_28.out.lt; have y2 := Bm_29.out.lt; have y3 := Bn_30.out.lt; have y4 := HB_31.out.size; have Bn_40 := Lib.hid (show Bk _ _ _ #[.bool t.b, .slice t.A t.n t.c] from ((Bn_30.out.ne (by omega) 0 (.bool u.b)).ne (by omega) 1 (.slice u.A u.n u.c)).below hb); clear y0 y1 y2 y3 y4
      have y0 := HB_31.out.size; have HB_41 := Lib.hid (below_tr (below_st (below_st HB_31.out 0 (by omega) (.bool u.b)) 1 (by omega) (.slice u.A u.n u.c)) hb); clear y0
      clear hb
      have RA_42 := Lib.hid (RA_32.out.dk K)
      have RX_43 := Lib.hid (RX_33.out.dk K)
      have RN_44 := Lib.hid (RN_34.out.dk K)
      have RT_45 := Lib.hid (RT_35.out.dk K)
      have RU_46 := Lib.hid (RU_36.out.dk K)
      clear K Ba_27 Bo_28 Bm_29 Bn_30 HB_31 RA_32 RX_33 RN_34 RT_35 RU_36
      have RV_47 := Lib.hid hv
      clear hv
      have la := Ba_37.out.lt
      obtain ⟨ca0, ca1, ca2⟩ := Ba_37.out.cells3
      have lo := Bo_38.out.lt
      obtain ⟨co0, co1, co2⟩ := Bo_38.out.cells3
      have fo0 := Bo_38.out.free 0
      have fo1 := Bo_38.out.free 1
      have fo2 := Bo_38.out.free 2
      have lm := Bm_39.out.lt
      obtain ⟨cm0, cm1⟩ := Bm_39.out.cells2
      have ln := Bn_40.out.lt
      obtain ⟨cn0, cn1⟩ := Bn_40.out.cells2
      go_wp2
      refine bodyPost_ret (v := .tuple #[.agg #[.bool v.b, .slice v.A v.n v.c, .int .i64 (D.mk' (-(-a.z / 2 ^ k)) (a.x + (k : Int))).x], .int .i64 0]) ?_ rfl ?_
      · simp [results, Tryd.f148, go_sem, co0, co1, co2]
      · have y0 := HB_41.out.size; exact ⟨⟨v, rfl, (RV_47.out.dk ((((Dk.refl _).set (cs := #[.bool false, .slice none 0 0, .int .i64 0]) Bo_38.out 0 (by intro _ hh; cases hh) (.bool v.b)).set (cs := #[.bool v.b, .slice none 0 0, .int .i64 0]) (Bo_38.out.set 0 (.bool v.b)) 1 (by intro _ hh; cases hh) (.slice v.A v.n v.c)).set (cs := #[.bool v.b, .slice v.A v.n v.c, .int .i64 0]) ((Bo_38.out.set 0 (.bool v.b)).set 1 (.slice v.A v.n v.c)) 2 (by intro _ hh; cases hh) (.int .i64 (D.mk' (-(-a.z / 2 ^ k)) (a.x + (k : Int))).x)))⟩, (below_st (below_st (below_st HB_41.out 0 (by omega) (.bool v.b)) 1 (by omega) (.slice v.A v.n v.c)) 2 (by omega) (.int .i64 (D.mk' (-(-a.z / 2 ^ k)) (a.x + (k : Int))).x))⟩

end Go.Proofs.YtgioppkggpfnoaaDoor.Nu
end

section
/- The walk of dyad.Of. -/
set_option linter.unusedVariables false
namespace Go.Proofs.YtgioppkggpfnoaaDoor.Nu
open Go.RowKit Go.Proofs

set_option maxRecDepth 100000 in
set_option maxHeartbeats 4000000 in
theorem dOf_any (w : World) (n x : Int) (hn0 : -9223372036854775808 ≤ n) (hn1 : n ≤ 9223372036854775807) (hx0 : -100 ≤ x) (hx1 : x ≤ 100) (ht : BTab w) :
    Calls Tryd.prog 33 #[.int .i64 n, .int .i64 x] w fun e w' => (∃ r : Q, e = .returned (.agg #[.bool r.b, .slice r.A r.n r.c, .int .i64 (D.mk' n x).x]) ∧ RD w' r (D.mk' n x)) ∧ Below w.heap.size w w' := by
  have HT := Lib.hid ht
  clear ht
  have BX := Lib.hid (boxes1 w 53 #[.bool false, .slice none 0 0, .int .i64 0])
  go_enter Tryd.func33, Tryd.ntmps33
  go_wp2_with fail
  generalize w.alloc (.cells #[.bool false, .slice none 0 0, .int .i64 0] 53) = w0 at *
  obtain ⟨b0, hw⟩ := BX.out
  have Bo_0 := Lib.hid b0
  have HB_0 := Lib.hid hw
  have K := Dk.below (hw.mono (Nat.le_refl _))
  clear BX hw b0
  clear K
  have lo := Bo_0.out.lt
  obtain ⟨co0, co1, co2⟩ := Bo_0.out.cells3
  go_wp2_with fail
  refine (wOf_q _ n (by omega) (by omega)).mono ?_
  rintro e w1 ⟨⟨r, rfl, hr⟩, hb⟩
  clear lo co0 co1 co2
  have K := Dk.below hb
  have Bo_1 := Lib.hid (show Bk _ _ _ #[.bool false, .slice none 0 0, .int .i64 0] from Bo_0.out.below hb)
  have HB_2 := Lib.hid (below_tr HB_0.out hb)
  clear hb
  clear K Bo_0 HB_0
  have RN_3 := Lib.hid hr
  clear hr
  have lo := Bo_1.out.lt
  obtain ⟨co0, co1, co2⟩ := Bo_1.out.cells3
  go_wp2_with fail
  try rw [show min (max x (-100)) 100 = x by omega]
  refine (dmake_q _ r n x RN_3.out (Nat.le_trans (nb_le.2 (show n.natAbs < 2 ^ 64 by omega)) (by omega)) (by omega) (by omega) (HT.out.below HB_2.out)).mono ?_
  rintro e w2 ⟨⟨u, rfl, hu⟩, hb⟩
  clear lo co0 co1 co2
  have K := Dk.below hb
  have Bo_4 := Lib.hid (show Bk _ _ _ #[.bool false, .slice none 0 0, .int .i64 0] from Bo_1.out.below hb)
  have HB_5 := Lib.hid (below_tr HB_2.out hb)
  clear hb
  have RN_6 := Lib.hid (RN_3.out.dk K)
  clear K Bo_1 HB_2 RN_3
  have RU_7 := Lib.hid hu
  clear hu
  have lo := Bo_4.out.lt
  obtain ⟨co0, co1, co2⟩ := Bo_4.out.cells3
  have fo0 := Bo_4.out.free 0
  have fo1 := Bo_4.out.free 1
  have fo2 := Bo_4.out.free 2
  have n_8 := Bo_4.out.lt
  go_wp2
  refine bodyPost_ret (v := .agg #[.bool u.b, .slice u.A u.n u.c, .int .i64 (D.mk' n x).x]) ?_ rfl ?_
  · simp [results, Tryd.f33, go_sem, co0, co1, co2, lo]
  · have y0 := HB_5.out.size; exact ⟨⟨u, rfl, (RU_7.out.dk (((((Dk.refl _).set (cs := #[.bool false, .slice none 0 0, .int .i64 0]) Bo_4.out 0 (by intro _ hh; cases hh) (.bool u.b)).set (cs := #[.bool u.b, .slice none 0 0, .int .i64 0]) (Bo_4.out.set 0 (.bool u.b)) 1 (by intro _ hh; cases hh) (.slice u.A u.n u.c)).set (cs := #[.bool u.b, .slice u.A u.n u.c, .int .i64 0]) ((Bo_4.out.set 0 (.bool u.b)).set 1 (.slice u.A u.n u.c)) 2 (by intro _ hh; cases hh) (.int .i64 (D.mk' n x).x)).alloc _))⟩, (below_al (below_st (below_st (below_st HB_5.out 0 (by omega) (.bool u.b)) 1 (by omega) (.slice u.A u.n u.c)) 2 (by omega) (.int .i64 (D.mk' n x).x)) _)⟩

end Go.Proofs.YtgioppkggpfnoaaDoor.Nu
end

section
/- The walks of dyad.Max, Min. -/
set_option linter.unusedVariables false
namespace Go.Proofs.YtgioppkggpfnoaaDoor.Nu
open Go.RowKit Go.Proofs

set_option maxRecDepth 100000 in
set_option maxHeartbeats 4000000 in
theorem dmax_any (w : World) (p q : Q) (a b : D) (E T : Nat) (h : RD w p a) (h2 : RD w q b) (la : a.Lim E T) (lb : b.Lim E T) (hET : E + T ≤ 16000) :
    Calls Tryd.prog 87 #[.agg #[.bool p.b, .slice p.A p.n p.c, .int .i64 a.x], .agg #[.bool q.b, .slice q.A q.n q.c, .int .i64 b.x]] w fun e w' => (∃ r : Q, e = .returned (.agg #[.bool r.b, .slice r.A r.n r.c, .int .i64 (a.mx b).x]) ∧ RD w' r (a.mx b)) ∧ Below w.heap.size w w' := by
  have HA := Lib.hid h
  have HB := Lib.hid h2
  have LA := Lib.hid la
  have LB := Lib.hid lb
  clear h h2 la lb
  by_cases hl : a.cmp b < 0
  · rw [show a.mx b = b from if_pos hl]
    have hd : decide (a.cmp b < 0) = true := decide_eq_true hl
    have HD := Lib.hid hd
    clear hd hl
    have BX := Lib.hid (boxes3 w 53 #[.bool p.b, .slice p.A p.n p.c, .int .i64 a.x] 53 #[.bool q.b, .slice q.A q.n q.c, .int .i64 b.x] 53 #[.bool false, .slice none 0 0, .int .i64 0])
    go_enter Tryd.func87, Tryd.ntmps87
    go_wp2_with fail
    generalize ((w.alloc (.cells #[.bool p.b, .slice p.A p.n p.c, .int .i64 a.x] 53)).alloc (.cells #[.bool q.b, .slice q.A q.n q.c, .int .i64 b.x] 53)).alloc (.cells #[.bool false, .slice none 0 0, .int .i64 0] 53) = w0 at *
    obtain ⟨b0, b1, b2, hw⟩ := BX.out
    have Ba_0 := Lib.hid b0
    have Bb_0 := Lib.hid b1
    have Bo_0 := Lib.hid b2
    have HB_0 := Lib.hid hw
    have K := Dk.below (hw.mono (Nat.le_refl _))
    clear BX hw b0 b1 b2
    have RA_1 := Lib.hid (HA.out.dk K)
    have RB_2 := Lib.hid (HB.out.dk K)
    clear K HA HB
    have la := Ba_0.out.lt
    obtain ⟨ca0, ca1, ca2⟩ := Ba_0.out.cells3
    have lb := Bb_0.out.lt
    obtain ⟨cb0, cb1, cb2⟩ := Bb_0.out.cells3
    have lo := Bo_0.out.lt
    obtain ⟨co0, co1, co2⟩ := Bo_0.out.cells3
    go_wp2_with fail
    refine (dless_any _ p q a b E T RA_1.out RB_2.out LA.out LB.out hET).mono ?_
    rintro e w1 ⟨rfl, hb⟩
    clear la ca0 ca1 ca2 lb cb0 cb1 cb2 lo co0 co1 co2
    have K := Dk.below hb
    have Ba_3 := Lib.hid (show Bk _ _ _ #[.bool p.b, .slice p.A p.n p.c, .int .i64 a.x] from Ba_0.out.below hb)
    have Bb_4 := Lib.hid (show Bk _ _ _ #[.bool q.b, .slice q.A q.n q.c, .int .i64 b.x] from Bb_0.out.below hb)
    have Bo_5 := Lib.hid (show Bk _ _ _ #[.bool false, .slice none 0 0, .int .i64 0] from Bo_0.out.below hb)
    have HB_6 := Lib.hid (below_tr HB_0.out hb)
    clear hb
    have RA_7 := Lib.hid (RA_1.out.dk K)
    have RB_8 := Lib.hid (RB_2.out.dk K)
    clear K Ba_0 Bb_0 Bo_0 HB_0 RA_1 RB_2
    rw [HD.out]
    have la := Ba_3.out.lt
    obtain ⟨ca0, ca1, ca2⟩ := Ba_3.out.cells3
    have fa0 := Ba_3.out.free 0
    have fa1 := Ba_3.out.free 1
    have fa2 := Ba_3.out.free 2
    have lb := Bb_4.out.lt
    obtain ⟨cb0, cb1, cb2⟩ := Bb_4.out.cells3
    have lo := Bo_5.out.lt
    obtain ⟨co0, co1, co2⟩ := Bo_5.out.cells3
    have fo0 := Bo_5.out.free 0
    have fo1 := Bo_5.out.free 1
    have fo2 := Bo_5.out.free 2
    go_wp2_with fail
    refine (down_any _ q b (RB_8.out.dk ((((Dk.refl _).set (cs := #[.bool p.b, .slice p.A p.n p.c, .int .i64 a.x]) Ba_3.out 0 (by intro _ hh; cases hh) (.bool q.b)).set (cs := #[.bool q.b, .slice p.A p.n p.c, .int .i64 a.x]) (Ba_3.out.set 0 (.bool q.b)) 1 (by intro _ hh; cases hh) (.slice q.A q.n q.c)).set (cs := #[.bool q.b, .slice q.A q.n q.c, .int .i64 a.x]) ((Ba_3.out.set 0 (.bool q.b)).set 1 (.slice q.A q.n q.c)) 2 (by intro _ hh; cases hh) (.int .i64 b.x))) ((RB_8.out.dk ((((Dk.refl _).set (cs := #[.bool p.b, .slice p.A p.n p.c, .int .i64 a.x]) Ba_3.out 0 (by intro _ hh; cases hh) (.bool q.b)).set (cs := #[.bool q.b, .slice p.A p.n p.c, .int .i64 a.x]) (Ba_3.out.set 0 (.bool q.b)) 1 (by intro _ hh; cases hh) (.slice q.A q.n q.c)).set (cs := #[.bool q.b, .slice q.A q.n q.c, .int .i64 a.x]) ((Ba_3.out.set 0 (.bool q.b)).set 1 (.slice q.A q.n q.c)) 2 (by intro _ hh; cases hh) (.int .i64 b.x))).1.len (k := 512) (by have := LB.out.nb; omega))).mono ?_
    rintro e w2 ⟨⟨s, rfl, hs⟩, hb⟩
    clear la ca0 ca1 ca2 fa0 fa1 fa2 lb cb0 cb1 cb2 lo co0 co1 co2 fo0 fo1 fo2
    have K := Dk.trans ((((Dk.refl _).set (cs := #[.bool p.b, .slice p.A p.n p.c, .int .i64 a.x]) Ba_3.out 0 (by intro _ hh; cases hh) (.bool q.b)).set (cs := #[.bool q.b, .slice p.A p.n p.c, .int .i64 a.x]) (Ba_3.out.set 0 (.bool q.b)) 1 (by intro _ hh; cases hh) (.slice q.A q.n q.c)).set (cs := #[.bool q.b, .slice q.A q.n q.c, .int .i64 a.x]) ((Ba_3.out.set 0 (.bool q.b)).set 1 (.slice q.A q.n q.c)) 2 (by intro _ hh; cases hh) (.int .i64 b.x)) (.below hb)
    have Ba_9 := Lib.hid (show Bk _ _ _ #[.bool q.b, .slice q.A q.n q.c, .int .i64 b.x] from (((Ba_3.out.set 0 (.bool q.b)).set 1 (.slice q.A q.n q.c)).set 2 (.int .i64 b.x)).below hb)
    have y0 := Ba_3.out.lt; have y1 := Bb_4.out.lt; have y2 := Bo_5.out.lt; have y3 := HB_6.out.size; have Bb_10 := Lib.hid (show Bk _ _ _ #[.bool q.b, .slice q.A q.n q.c, .int .i64 b.x] from (((Bb_4.out.ne (by omega) 0 (.bool q.b)).ne (by omega) 1 (.slice q.A q.n q.c)).ne (by omega) 2 (.int .i64 b.x)).below hb); clear y0 y1 y2 y3
    have y0 := Ba_3.out.lt; have y1 := Bb_4.out.lt; have y2 := Bo_5.out.lt; have y3 := HB_6.out.size; have Bo_11 := Lib.hid (show Bk _ _ _ #[.bool false, .slice none 0 0, .int .i64 0] from (((Bo_5.out.ne (by omega) 0 (.bool q.b)).ne (by omega) 1 (.slice q.A q.n q.c)).ne (by omega) 2 (.int .i64 b.x)).below hb); clear y0 y1 y2 y3
    have y0 := HB_6.out.size; have HB_12 := Lib.hid (below_tr (below_st (below_st (below_st HB_6.out 0 (by omega) (.bool q.b)) 1 (by omega) (.slice q.A q.n q.c)) 2 (by omega) (.int .i64 b.x)) hb); clear y0
    clear hb
    have RA_13 := Lib.hid (RA_7.out.dk K)
    have RB_14 := Lib.hid (RB_8.out.dk K)
    clear K Ba_3 Bb_4 Bo_5 HB_6 RA_7 RB_8
    have RX_15 := Lib.hid hs
    clear hs
    have la := Ba_9.out.lt
    obtain ⟨ca0, ca1, ca2⟩ := Ba_9.out.cells3
    have lb := Bb_10.out.lt
    obtain ⟨cb0, cb1, cb2⟩ := Bb_10.out.cells3
    have lo := Bo_11.out.lt
    obtain ⟨co0, co1, co2⟩ := Bo_11.out.cells3
    have fo0 := Bo_11.out.free 0
    have fo1 := Bo_11.out.free 1
    have fo2 := Bo_11.out.free 2
    go_wp2
    refine bodyPost_ret (v := .agg #[.bool s.b, .slice s.A s.n s.c, .int .i64 b.x]) ?_ rfl ?_
    · simp [results, Tryd.f87, go_sem, co0, co1, co2]
    · have y0 := HB_12.out.size; exact ⟨⟨s, rfl, (RX_15.out.dk ((((Dk.refl _).set (cs := #[.bool false, .slice none 0 0, .int .i64 0]) Bo_11.out 0 (by intro _ hh; cases hh) (.bool s.b)).set (cs := #[.bool s.b, .slice none 0 0, .int .i64 0]) (Bo_11.out.set 0 (.bool s.b)) 1 (by intro _ hh; cases hh) (.slice s.A s.n s.c)).set (cs := #[.bool s.b, .slice s.A s.n s.c, .int .i64 0]) ((Bo_11.out.set 0 (.bool s.b)).set 1 (.slice s.A s.n s.c)) 2 (by intro _ hh; cases hh) (.int .i64 b.x)))⟩, (below_st (below_st (below_st HB_12.out 0 (by omega) (.bool s.b)) 1 (by omega) (.slice s.A s.n s.c)) 2 (by omega) (.int .i64 b.x))⟩
  · rw [show a.mx b = a from if_neg hl]
    have hd : decide (a.cmp b < 0) = false := decide_eq_false hl
    have HD := Lib.hid hd
    clear hd hl
    have BX := Lib.hid (boxes3 w 53 #[.bool p.b, .slice p.A p.n p.c, .int .i64 a.x] 53 #[.bool q.b, .slice q.A q.n q.c, .int .i64 b.x] 53 #[.bool false, .slice none 0 0, .int .i64 0])
    go_enter Tryd.func87, Tryd.ntmps87
    go_wp2_with fail
    generalize ((w.alloc (.cells #[.bool p.b, .slice p.A p.n p.c, .int .i64 a.x] 53)).alloc (.cells #[.bool q.b, .slice q.A q.n q.c, .int .i64 b.x] 53)).alloc (.cells #[.bool false, .slice none 0 0, .int .i64 0] 53) = w0 at *
    obtain ⟨b0, b1, b2, hw⟩ := BX.out
    have Ba_0 := Lib.hid b0
    have Bb_0 := Lib.hid b1
    have Bo_0 := Lib.hid b2
    have HB_0 := Lib.hid hw
    have K := Dk.below (hw.mono (Nat.le_refl _))
    clear BX hw b0 b1 b2
    have RA_1 := Lib.hid (HA.out.dk K)
    have RB_2 := Lib.hid (HB.out.dk K)
    clear K HA HB
    have la := Ba_0.out.lt
    obtain ⟨ca0, ca1, ca2⟩ := Ba_0.out.cells3
    have lb := Bb_0.out.lt
    obtain ⟨cb0, cb1, cb2⟩ := Bb_0.out.cells3
    have lo := Bo_0.out.lt
    obtain ⟨co0, co1, co2⟩ := Bo_0.out.cells3
    go_wp2_with fail
    refine (dless_any _ p q a b E T RA_1.out RB_2.out LA.out LB.out hET).mono ?_
    rintro e w1 ⟨rfl, hb⟩
    clear la ca0 ca1 ca2 lb cb0 cb1 cb2 lo co0 co1 co2
    have K := Dk.below hb
    have Ba_3 := Lib.hid (show Bk _ _ _ #[.bool p.b, .slice p.A p.n p.c, .int .i64 a.x] from Ba_0.out.below hb)
    have Bb_4 := Lib.hid (show Bk _ _ _ #[.bool q.b, .slice q.A q.n q.c, .int .i64 b.x] from Bb_0.out.below hb)
    have Bo_5 := Lib.hid (show Bk _ _ _ #[.bool false, .slice none 0 0, .int .i64 0] from Bo_0.out.below hb)
    have HB_6 := Lib.hid (below_tr HB_0.out hb)
    clear hb
    have RA_7 := Lib.hid (RA_1.out.dk K)
    have RB_8 := Lib.hid (RB_2.out.dk K)
    clear K Ba_0 Bb_0 Bo_0 HB_0 RA_1 RB_2
    rw [HD.out]
    have la := Ba_3.out.lt
    obtain ⟨ca0, ca1, ca2⟩ := Ba_3.out.cells3
    have fa0 := Ba_3.out.free 0
    have fa1 := Ba_3.out.free 1
    have fa2 := Ba_3.out.free 2
    have lb := Bb_4.out.lt
    obtain ⟨cb0, cb1, cb2⟩ := Bb_4.out.cells3
    have lo := Bo_5.out.lt
    obtain ⟨co0, co1, co2⟩ := Bo_5.out.cells3
    have fo0 := Bo_5.out.free 0
    have fo1 := Bo_5.out.free 1
    have fo2 := Bo_5.out.free 2
    go_wp2_with fail
    refine (down_any _ p a RA_7.out (RA_7.out.1.len (k := 512) (by have := LA.out.nb; omega))).mono ?_
    rintro e w2 ⟨⟨s, rfl, hs⟩, hb⟩
    clear la ca0 ca1 ca2 fa0 fa1 fa2 lb cb0 cb1 cb2 lo co0 co1 co2 fo0 fo1 fo2
    have K := Dk.below hb
    have Ba_9 := Lib.hid (show Bk _ _ _ #[.bool p.b, .slice p.A p.n p.c, .int .i64 a.x] from Ba_3.out.below hb)
    have Bb_10 := Lib.hid (show Bk _ _ _ #[.bool q.b, .slice q.A q.n q.c, .int .i64 b.x] from Bb_4.out.below hb)
    have Bo_11 := Lib.hid (show Bk _ _ _ #[.bool false, .slice none 0 0, .int .i64 0] from Bo_5.out.below hb)
    have HB_12 := Lib.hid (below_tr HB_6.out hb)
    clear hb
    have RA_13 := Lib.hid (RA_7.out.dk K)
    have RB_14 := Lib.hid (RB_8.out.dk K)
    clear K Ba_3 Bb_4 Bo_5 HB_6 RA_7 RB_8
    have RX_15 := Lib.hid hs
    clear hs
    have la := Ba_9.out.lt
    obtain ⟨ca0, ca1, ca2⟩ := Ba_9.out.cells3
    have lb := Bb_10.out.lt
    obtain ⟨cb0, cb1, cb2⟩ := Bb_10.out.cells3
    have lo := Bo_11.out.lt
    obtain ⟨co0, co1, co2⟩ := Bo_11.out.cells3
    have fo0 := Bo_11.out.free 0
    have fo1 := Bo_11.out.free 1
    have fo2 := Bo_11.out.free 2
    go_wp2
    refine bodyPost_ret (v := .agg #[.bool s.b, .slice s.A s.n s.c, .int .i64 a.x]) ?_ rfl ?_
    · simp [results, Tryd.f87, go_sem, co0, co1, co2]
    · have y0 := HB_12.out.size; exact ⟨⟨s, rfl, (RX_15.out.dk ((((Dk.refl _).set (cs := #[.bool false, .slice none 0 0, .int .i64 0]) Bo_11.out 0 (by intro _ hh; cases hh) (.bool s.b)).set (cs := #[.bool s.b, .slice none 0 0, .int .i64 0]) (Bo_11.out.set 0 (.bool s.b)) 1 (by intro _ hh; cases hh) (.slice s.A s.n s.c)).set (cs := #[.bool s.b, .slice s.A s.n s.c, .int .i64 0]) ((Bo_11.out.set 0 (.bool s.b)).set 1 (.slice s.A s.n s.c)) 2 (by intro _ hh; cases hh) (.int .i64 a.x)))⟩, (below_st (below_st (below_st HB_12.out 0 (by omega) (.bool s.b)) 1 (by omega) (.slice s.A s.n s.c)) 2 (by omega) (.int .i64 a.x))⟩

set_option maxRecDepth 100000 in
set_option maxHeartbeats 4000000 in
theorem dmin_any (w : World) (p q : Q) (a b : D) (E T : Nat) (h : RD w p a) (h2 : RD w q b) (la : a.Lim E T) (lb : b.Lim E T) (hET : E + T ≤ 16000) :
    Calls Tryd.prog 97 #[.agg #[.bool p.b, .slice p.A p.n p.c, .int .i64 a.x], .agg #[.bool q.b, .slice q.A q.n q.c, .int .i64 b.x]] w fun e w' => (∃ r : Q, e = .returned (.agg #[.bool r.b, .slice r.A r.n r.c, .int .i64 (a.mn b).x]) ∧ RD w' r (a.mn b)) ∧ Below w.heap.size w w' := by
  have HA := Lib.hid h
  have HB := Lib.hid h2
  have LA := Lib.hid la
  have LB := Lib.hid lb
  clear h h2 la lb
  by_cases hl : b.cmp a < 0
  · rw [show a.mn b = b from if_pos hl]
    have hd : decide (b.cmp a < 0) = true := decide_eq_true hl
    have HD := Lib.hid hd
    clear hd hl
    have BX := Lib.hid (boxes3 w 53 #[.bool p.b, .slice p.A p.n p.c, .int .i64 a.x] 53 #[.bool q.b, .slice q.A q.n q.c, .int .i64 b.x] 53 #[.bool false, .slice none 0 0, .int .i64 0])
    go_enter Tryd.func97, Tryd.ntmps97
    go_wp2_with fail
    generalize ((w.alloc (.cells #[.bool p.b, .slice p.A p.n p.c, .int .i64 a.x] 53)).alloc (.cells #[.bool q.b, .slice q.A q.n q.c, .int .i64 b.x] 53)).alloc (.cells #[.bool false, .slice none 0 0, .int .i64 0] 53) = w0 at *
    obtain ⟨b0, b1, b2, hw⟩ := BX.out
    have Ba_0 := Lib.hid b0
    have Bb_0 := Lib.hid b1
    have Bo_0 := Lib.hid b2
    have HB_0 := Lib.hid hw
    have K := Dk.below (hw.mono (Nat.le_refl _))
    clear BX hw b0 b1 b2
    have RA_1 := Lib.hid (HA.out.dk K)
    have RB_2 := Lib.hid (HB.out.dk K)
    clear K HA HB
    have la := Ba_0.out.lt
    obtain ⟨ca0, ca1, ca2⟩ := Ba_0.out.cells3
    have lb := Bb_0.out.lt
    obtain ⟨cb0, cb1, cb2⟩ := Bb_0.out.cells3
    have lo := Bo_0.out.lt
    obtain ⟨co0, co1, co2⟩ := Bo_0.out.cells3
    go_wp2_with fail
    refine (dless_any _ q p b a E T RB_2.out RA_1.out LB.out LA.out hET).mono ?_
    rintro e w1 ⟨rfl, hb⟩
    clear la ca0 ca1 ca2 lb cb0 cb1 cb2 lo co0 co1 co2
    have K := Dk.below hb
    have Ba_3 := Lib.hid (show Bk _ _ _ #[.bool p.b, .slice p.A p.n p.c, .int .i64 a.x] from Ba_0.out.below hb)
    have Bb_4 := Lib.hid (show Bk _ _ _ #[.bool q.b, .slice q.A q.n q.c, .int .i64 b.x] from Bb_0.out.below hb)
    have Bo_5 := Lib.hid (show Bk _ _ _ #[.bool false, .slice none 0 0, .int .i64 0] from Bo_0.out.below hb)
    have HB_6 := Lib.hid (below_tr HB_0.out hb)
    clear hb
    have RA_7 := Lib.hid (RA_1.out.dk K)
    have RB_8 := Lib.hid (RB_2.out.dk K)
    clear K Ba_0 Bb_0 Bo_0 HB_0 RA_1 RB_2
    rw [HD.out]
    have la := Ba_3.out.lt
    obtain ⟨ca0, ca1, ca2⟩ := Ba_3.out.cells3
    have fa0 := Ba_3.out.free 0
    have fa1 := Ba_3.out.free 1
    have fa2 := Ba_3.out.free 2
    have lb := Bb_4.out.lt
    obtain ⟨cb0, cb1, cb2⟩ := Bb_4.out.cells3
    have lo := Bo_5.out.lt
    obtain ⟨co0, co1, co2⟩ := Bo_5.out.cells3
    have fo0 := Bo_5.out.free 0
    have fo1 := Bo_5.out.free 1
    have fo2 := Bo_5.out.free 2
    go_wp2_with fail
    refine (down_any _ q b (RB_8.out.dk ((((Dk.refl _).set (cs := #[.bool p.b, .slice p.A p.n p.c, .int .i64 a.x]) Ba_3.out 0 (by intro _ hh; cases hh) (.bool q.b)).set (cs := #[.bool q.b, .slice p.A p.n p.c, .int .i64 a.x]) (Ba_3.out.set 0 (.bool q.b)) 1 (by intro _ hh; cases hh) (.slice q.A q.n q.c)).set (cs := #[.bool q.b, .slice q.A q.n q.c, .int .i64 a.x]) ((Ba_3.out.set 0 (.bool q.b)).set 1 (.slice q.A q.n q.c)) 2 (by intro _ hh; cases hh) (.int .i64 b.x))) ((RB_8.out.dk ((((Dk.refl _).set (cs := #[.bool p.b, .slice p.A p.n p.c, .int .i64 a.x]) Ba_3.out 0 (by intro _ hh; cases hh) (.bool q.b)).set (cs := #[.bool q.b, .slice p.A p.n p.c, .int .i64 a.x]) (Ba_3.out.set 0 (.bool q.b)) 1 (by intro _ hh; cases hh) (.slice q.A q.n q.c)).set (cs := #[.bool q.b, .slice q.A q.n q.c, .int .i64 a.x]) ((Ba_3.out.set 0 (.bool q.b)).set 1 (.slice q.A q.n q.c)) 2 (by intro _ hh; cases hh) (.int .i64 b.x))).1.len (k := 512) (by have := LB.out.nb; omega))).mono ?_
    rintro e w2 ⟨⟨s, rfl, hs⟩, hb⟩
    clear la ca0 ca1 ca2 fa0 fa1 fa2 lb cb0 cb1 cb2 lo co0 co1 co2 fo0 fo1 fo2
    have K := Dk.trans ((((Dk.refl _).set (cs := #[.bool p.b, .slice p.A p.n p.c, .int .i64 a.x]) Ba_3.out 0 (by intro _ hh; cases hh) (.bool q.b)).set (cs := #[.bool q.b, .slice p.A p.n p.c, .int .i64 a.x]) (Ba_3.out.set 0 (.bool q.b)) 1 (by intro _ hh; cases hh) (.slice q.A q.n q.c)).set (cs := #[.bool q.b, .slice q.A q.n q.c, .int .i64 a.x]) ((Ba_3.out.set 0 (.bool q.b)).set 1 (.slice q.A q.n q.c)) 2 (by intro _ hh; cases hh) (.int .i64 b.x)) (.below hb)
    have Ba_9 := Lib.hid (show Bk _ _ _ #[.bool q.b, .slice q.A q.n q.c, .int .i64 b.x] from (((Ba_3.out.set 0 (.bool q.b)).set 1 (.slice q.A q.n q.c)).set 2 (.int .i64 b.x)).below hb)
    have y0 := Ba_3.out.lt; have y1 := Bb_4.out.lt; have y2 := Bo_5.out.lt; have y3 := HB_6.out.size; have Bb_10 := Lib.hid (show Bk _ _ _ #[.bool q.b, .slice q.A q.n q.c, .int .i64 b.x] from (((Bb_4.out.ne (by omega) 0 (.bool q.b)).ne (by omega) 1 (.slice q.A q.n q.c)).ne (by omega) 2 (.int .i64 b.x)).below hb); clear y0 y1 y2 y3
    have y0 := Ba_3.out.lt; have y1 := Bb_4.out.lt; have y2 := Bo_5.out.lt; have y3 := HB_6.out.size; have Bo_11 := Lib.hid (show Bk _ _ _ #[.bool false, .slice none 0 0, .int .i64 0] from (((Bo_5.out.ne (by omega) 0 (.bool q.b)).ne (by omega) 1 (.slice q.A q.n q.c)).ne (by omega) 2 (.int .i64 b.x)).below hb); clear y0 y1 y2 y3
    have y0 := HB_6.out.size; have HB_12 := Lib.hid (below_tr (below_st (below_st (below_st HB_6.out 0 (by omega) (.bool q.b)) 1 (by omega) (.slice q.A q.n q.c)) 2 (by omega) (.int .i64 b.x)) hb); clear y0
    clear hb
    have RA_13 := Lib.hid (RA_7.out.dk K)
    have RB_14 := Lib.hid (RB_8.out.dk K)
    clear K Ba_3 Bb_4 Bo_5 HB_6 RA_7 RB_8
    have RX_15 := Lib.hid hs
    clear hs
    have la := Ba_9.out.lt
    obtain ⟨ca0, ca1, ca2⟩ := Ba_9.out.cells3
    have lb := Bb_10.out.lt
    obtain ⟨cb0, cb1, cb2⟩ := Bb_10.out.cells3
    have lo := Bo_11.out.lt
    obtain ⟨co0, co1, co2⟩ := Bo_11.out.cells3
    have fo0 := Bo_11.out.free 0
    have fo1 := Bo_11.out.free 1
    have fo2 := Bo_11.out.free 2
    go_wp2
    refine bodyPost_ret (v := .agg #[.bool s.b, .slice s.A s.n s.c, .int .i64 b.x]) ?_ rfl ?_
    · simp [results, Tryd.f97, go_sem, co0, co1, co2]
    · have y0 := HB_12.out.size; exact ⟨⟨s, rfl, (RX_15.out.dk ((((Dk.refl _).set (cs := #[.bool false, .slice none 0 0, .int .i64 0]) Bo_11.out 0 (by intro _ hh; cases hh) (.bool s.b)).set (cs := #[.bool s.b, .slice none 0 0, .int .i64 0]) (Bo_11.out.set 0 (.bool s.b)) 1 (by intro _ hh; cases hh) (.slice s.A s.n s.c)).set (cs := #[.bool s.b, .slice s.A s.n s.c, .int .i64 0]) ((Bo_11.out.set 0 (.bool s.b)).set 1 (.slice s.A s.n s.c)) 2 (by intro _ hh; cases hh) (.int .i64 b.x)))⟩, (below_st (below_st (below_st HB_12.out 0 (by omega) (.bool s.b)) 1 (by omega) (.slice s.A s.n s.c)) 2 (by omega) (.int .i64 b.x))⟩
  · rw [show a.mn b = a from if_neg hl]
    have hd : decide (b.cmp a < 0) = false := decide_eq_false hl
    have HD := Lib.hid hd
    clear hd hl
    have BX := Lib.hid (boxes3 w 53 #[.bool p.b, .slice p.A p.n p.c, .int .i64 a.x] 53 #[.bool q.b, .slice q.A q.n q.c, .int .i64 b.x] 53 #[.bool false, .slice none 0 0, .int .i64 0])
    go_enter Tryd.func97, Tryd.ntmps97
    go_wp2_with fail
    generalize ((w.alloc (.cells #[.bool p.b, .slice p.A p.n p.c, .int .i64 a.x] 53)).alloc (.cells #[.bool q.b, .slice q.A q.n q.c, .int .i64 b.x] 53)).alloc (.cells #[.bool false, .slice none 0 0, .int .i64 0] 53) = w0 at *
    obtain ⟨b0, b1, b2, hw⟩ := BX.out
    have Ba_0 := Lib.hid b0
    have Bb_0 := Lib.hid b1
    have Bo_0 := Lib.hid b2
    have HB_0 := Lib.hid hw
    have K := Dk.below (hw.mono (Nat.le_refl _))
    clear BX hw b0 b1 b2
    have RA_1 := Lib.hid (HA.out.dk K)
    have RB_2 := Lib.hid (HB.out.dk K)
    clear K HA HB
    have la := Ba_0.out.lt
    obtain ⟨ca0, ca1, ca2⟩ := Ba_0.out.cells3
    have lb := Bb_0.out.lt
    obtain ⟨cb0, cb1, cb2⟩ := Bb_0.out.cells3
    have lo := Bo_0.out.lt
    obtain ⟨co0, co1, co2⟩ := Bo_0.out.cells3
    go_wp2_with fail
    refine (dless_any _ q p b a E T RB_2.out RA_1.out LB.out LA.out hET).mono ?_
    rintro e w1 ⟨rfl, hb⟩
    clear la ca0 ca1 ca2 lb cb0 cb1 cb2 lo co0 co1 co2
    have K := Dk.below hb
    have Ba_3 := Lib.hid (show Bk _ _ _ #[.bool p.b, .slice p.A p.n p.c, .int .i64 a.x] from Ba_0.out.below hb)
    have Bb_4 := Lib.hid (show Bk _ _ _ #[.bool q.b, .slice q.A q.n q.c, .int .i64 b.x] from Bb_0.out.below hb)
    have Bo_5 := Lib.hid (show Bk _ _ _ #[.bool false, .slice none 0 0, .int .i64 0] from Bo_0.out.below hb)
    have HB_6 := Lib.hid (below_tr HB_0.out hb)
    clear hb
    have RA_7 := Lib.hid (RA_1.out.dk K)
    have RB_8 := Lib.hid (RB_2.out.dk K)
    clear K Ba_0 Bb_0 Bo_0 HB_0 RA_1 RB_2
    rw [HD.out]
    have la := Ba_3.out.lt
    obtain ⟨ca0, ca1, ca2⟩ := Ba_3.out.cells3
    have fa0 := Ba_3.out.free 0
    have fa1 := Ba_3.out.free 1
    have fa2 := Ba_3.out.free 2
    have lb := Bb_4.out.lt
    obtain ⟨cb0, cb1, cb2⟩ := Bb_4.out.cells3
    have lo := Bo_5.out.lt
    obtain ⟨co0, co1, co2⟩ := Bo_5.out.cells3
    have fo0 := Bo_5.out.free 0
    have fo1 := Bo_5.out.free 1
    have fo2 := Bo_5.out.free 2
    go_wp2_with fail
    refine (down_any _ p a RA_7.out (RA_7.out.1.len (k := 512) (by have := LA.out.nb; omega))).mono ?_
    rintro e w2 ⟨⟨s, rfl, hs⟩, hb⟩
    clear la ca0 ca1 ca2 fa0 fa1 fa2 lb cb0 cb1 cb2 lo co0 co1 co2 fo0 fo1 fo2
    have K := Dk.below hb
    have Ba_9 := Lib.hid (show Bk _ _ _ #[.bool p.b, .slice p.A p.n p.c, .int .i64 a.x] from Ba_3.out.below hb)
    have Bb_10 := Lib.hid (show Bk _ _ _ #[.bool q.b, .slice q.A q.n q.c, .int .i64 b.x] from Bb_4.out.below hb)
    have Bo_11 := Lib.hid (show Bk _ _ _ #[.bool false, .slice none 0 0, .int .i64 0] from Bo_5.out.below hb)
    have HB_12 := Lib.hid (below_tr HB_6.out hb)
    clear hb
    have RA_13 := Lib.hid (RA_7.out.dk K)
    have RB_14 := Lib.hid (RB_8.out.dk K)
    clear K Ba_3 Bb_4 Bo_5 HB_6 RA_7 RB_8
    have RX_15 := Lib.hid hs
    clear hs
    have la := Ba_9.out.lt
    obtain ⟨ca0, ca1, ca2⟩ := Ba_9.out.cells3
    have lb := Bb_10.out.lt
    obtain ⟨cb0, cb1, cb2⟩ := Bb_10.out.cells3
    have lo := Bo_11.out.lt
    obtain ⟨co0, co1, co2⟩ := Bo_11.out.cells3
    have fo0 := Bo_11.out.free 0
    have fo1 := Bo_11.out.free 1
    have fo2 := Bo_11.out.free 2
    go_wp2
    refine bodyPost_ret (v := .agg #[.bool s.b, .slice s.A s.n s.c, .int .i64 a.x]) ?_ rfl ?_
    · simp [results, Tryd.f97, go_sem, co0, co1, co2]
    · have y0 := HB_12.out.size; exact ⟨⟨s, rfl, (RX_15.out.dk ((((Dk.refl _).set (cs := #[.bool false, .slice none 0 0, .int .i64 0]) Bo_11.out 0 (by intro _ hh; cases hh) (.bool s.b)).set (cs := #[.bool s.b, .slice none 0 0, .int .i64 0]) (Bo_11.out.set 0 (.bool s.b)) 1 (by intro _ hh; cases hh) (.slice s.A s.n s.c)).set (cs := #[.bool s.b, .slice s.A s.n s.c, .int .i64 0]) ((Bo_11.out.set 0 (.bool s.b)).set 1 (.slice s.A s.n s.c)) 2 (by intro _ hh; cases hh) (.int .i64 a.x)))⟩, (below_st (below_st (below_st HB_12.out 0 (by omega) (.bool s.b)) 1 (by omega) (.slice s.A s.n s.c)) 2 (by omega) (.int .i64 a.x))⟩

end Go.Proofs.YtgioppkggpfnoaaDoor.Nu
end

section
/- The walk of dyad.Mul. -/
set_option linter.unusedVariables false
namespace Go.Proofs.YtgioppkggpfnoaaDoor.Nu
open Go.RowKit Go.Proofs

set_option maxRecDepth 100000 in
set_option maxHeartbeats 4000000 in
theorem dmul_any (w : World) (p q : Q) (a b : D) (h : RD w p a) (h2 : RD w q b) (hxy : nb a.z.natAbs + nb b.z.natAbs ≤ 16320 ∧ -20000 ≤ a.x ∧ a.x ≤ 20000 ∧ -20000 ≤ b.x ∧ b.x ≤ 20000) (ht : BTab w) :
    Calls Tryd.prog 51 #[.agg #[.bool p.b, .slice p.A p.n p.c, .int .i64 a.x], .agg #[.bool q.b, .slice q.A q.n q.c, .int .i64 b.x]] w fun e w' => (∃ r : Q, e = .returned (.tuple #[.agg #[.bool r.b, .slice r.A r.n r.c, .int .i64 (a.mul b).x], .int .i64 0]) ∧ RD w' r (a.mul b)) ∧ Below w.heap.size w w' := by
  have HA := Lib.hid h
  have HB := Lib.hid h2
  clear h h2
  have HT := Lib.hid ht
  clear ht
  have s0 := Lib.hid hxy
  clear hxy
  unfold D.mul
  have BX := Lib.hid (boxes3 w 53 #[.bool p.b, .slice p.A p.n p.c, .int .i64 a.x] 53 #[.bool q.b, .slice q.A q.n q.c, .int .i64 b.x] 53 #[.bool false, .slice none 0 0, .int .i64 0])
  go_enter Tryd.func51, Tryd.ntmps51
  go_wp2_with fail
  generalize ((w.alloc (.cells #[.bool p.b, .slice p.A p.n p.c, .int .i64 a.x] 53)).alloc (.cells #[.bool q.b, .slice q.A q.n q.c, .int .i64 b.x] 53)).alloc (.cells #[.bool false, .slice none 0 0, .int .i64 0] 53) = w0 at *
  obtain ⟨b0, b1, b2, hw⟩ := BX.out
  have Ba_0 := Lib.hid b0
  have Bb_0 := Lib.hid b1
  have Bo_0 := Lib.hid b2
  have HB_0 := Lib.hid hw
  have K := Dk.below (hw.mono (Nat.le_refl _))
  clear BX hw b0 b1 b2
  have RA_1 := Lib.hid (HA.out.dk K)
  have RB_2 := Lib.hid (HB.out.dk K)
  clear K HA HB
  have la := Ba_0.out.lt
  obtain ⟨ca0, ca1, ca2⟩ := Ba_0.out.cells3
  have lb := Bb_0.out.lt
  obtain ⟨cb0, cb1, cb2⟩ := Bb_0.out.cells3
  have lo := Bo_0.out.lt
  obtain ⟨co0, co1, co2⟩ := Bo_0.out.cells3
  go_wp2_with fail
  refine (wmul_q _ p q a.z b.z RA_1.out.1 RB_2.out.1 (by have := s0.out; omega)).mono ?_
  rintro e w1 ⟨⟨r, rfl, hr⟩, hb⟩
  clear la ca0 ca1 ca2 lb cb0 cb1 cb2 lo co0 co1 co2
  have K := Dk.below hb
  have Ba_3 := Lib.hid (show Bk _ _ _ #[.bool p.b, .slice p.A p.n p.c, .int .i64 a.x] from Ba_0.out.below hb)
  have Bb_4 := Lib.hid (show Bk _ _ _ #[.bool q.b, .slice q.A q.n q.c, .int .i64 b.x] from Bb_0.out.below hb)
  have Bo_5 := Lib.hid (show Bk _ _ _ #[.bool false, .slice none 0 0, .int .i64 0] from Bo_0.out.below hb)
  have HB_6 := Lib.hid (below_tr HB_0.out hb)
  clear hb
  have RA_7 := Lib.hid (RA_1.out.dk K)
  have RB_8 := Lib.hid (RB_2.out.dk K)
  clear K Ba_0 Bb_0 Bo_0 HB_0 RA_1 RB_2
  have RP_9 := Lib.hid hr
  clear hr
  have la := Ba_3.out.lt
  obtain ⟨ca0, ca1, ca2⟩ := Ba_3.out.cells3
  have lb := Bb_4.out.lt
  obtain ⟨cb0, cb1, cb2⟩ := Bb_4.out.cells3
  have lo := Bo_5.out.lt
  obtain ⟨co0, co1, co2⟩ := Bo_5.out.cells3
  have n_10 := Ba_3.out.lt
  have n_11 := Bb_4.out.lt
  have n_12 := Bo_5.out.lt
  have x0 := s0.out.2.1
  have x1 := s0.out.2.2.1
  have x2 := s0.out.2.2.2.1
  have x3 := s0.out.2.2.2.2
  go_wp2_with fail
  refine (dmake_q _ r (a.z * b.z) (a.x + b.x) (RP_9.out.dk ((Dk.refl _).alloc _)) (by rw [Int.natAbs_mul]; exact Nat.le_trans (nb_mul _ _) (by have := s0.out; omega)) (by omega) (by omega) (HT.out.below (below_al HB_6.out _))).mono ?_
  rintro e w2 ⟨⟨u, rfl, hu⟩, hb⟩
  clear la ca0 ca1 ca2 lb cb0 cb1 cb2 lo co0 co1 co2
  have K := Dk.trans ((Dk.refl _).alloc _) (.below hb)
  have Ba_13 := Lib.hid (show Bk _ _ _ #[.bool p.b, .slice p.A p.n p.c, .int .i64 a.x] from (Ba_3.out.alloc _).below hb)
  have Bb_14 := Lib.hid (show Bk _ _ _ #[.bool q.b, .slice q.A q.n q.c, .int .i64 b.x] from (Bb_4.out.alloc _).below hb)
  have Bo_15 := Lib.hid (show Bk _ _ _ #[.bool false, .slice none 0 0, .int .i64 0] from (Bo_5.out.alloc _).below hb)
  have Bp_16 := Lib.hid (show Bk _ _ _ #[.bool r.b, .slice r.A r.n r.c] from (Bk.new _ 51 #[.bool r.b, .slice r.A r.n r.c]).below hb)
  have HB_17 := Lib.hid (below_tr (below_al HB_6.out _) hb)
  clear hb
  have RA_18 := Lib.hid (RA_7.out.dk K)
  have RB_19 := Lib.hid (RB_8.out.dk K)
  have RP_20 := Lib.hid (RP_9.out.dk K)
  clear K Ba_3 Bb_4 Bo_5 HB_6 RA_7 RB_8 RP_9
  clear x0 x1 x2 x3
  have RU_21 := Lib.hid hu
  clear hu
  have la := Ba_13.out.lt
  obtain ⟨ca0, ca1, ca2⟩ := Ba_13.out.cells3
  have lb := Bb_14.out.lt
  obtain ⟨cb0, cb1, cb2⟩ := Bb_14.out.cells3
  have lo := Bo_15.out.lt
  obtain ⟨co0, co1, co2⟩ := Bo_15.out.cells3
  have fo0 := Bo_15.out.free 0
  have fo1 := Bo_15.out.free 1
  have fo2 := Bo_15.out.free 2
  have lp := Bp_16.out.lt
  obtain ⟨cp0, cp1⟩ := Bp_16.out.cells2
  go_wp2
  refine bodyPost_ret (v := .tuple #[.agg #[.bool u.b, .slice u.A u.n u.c, .int .i64 (D.mk' (a.z * b.z) (a.x + b.x)).x], .int .i64 0]) ?_ rfl ?_
  · simp [results, Tryd.f51, go_sem, co0, co1, co2]
  · have y0 := HB_17.out.size; exact ⟨⟨u, rfl, (RU_21.out.dk ((((Dk.refl _).set (cs := #[.bool false, .slice none 0 0, .int .i64 0]) Bo_15.out 0 (by intro _ hh; cases hh) (.bool u.b)).set (cs := #[.bool u.b, .slice none 0 0, .int .i64 0]) (Bo_15.out.set 0 (.bool u.b)) 1 (by intro _ hh; cases hh) (.slice u.A u.n u.c)).set (cs := #[.bool u.b, .slice u.A u.n u.c, .int .i64 0]) ((Bo_15.out.set 0 (.bool u.b)).set 1 (.slice u.A u.n u.c)) 2 (by intro _ hh; cases hh) (.int .i64 (D.mk' (a.z * b.z) (a.x + b.x)).x)))⟩, (below_st (below_st (below_st HB_17.out 0 (by omega) (.bool u.b)) 1 (by omega) (.slice u.A u.n u.c)) 2 (by omega) (.int .i64 (D.mk' (a.z * b.z) (a.x + b.x)).x))⟩

end Go.Proofs.YtgioppkggpfnoaaDoor.Nu
end

section
/- The walk of dyad.Sub. -/
set_option linter.unusedVariables false
namespace Go.Proofs.YtgioppkggpfnoaaDoor.Nu
open Go.RowKit Go.Proofs

set_option maxRecDepth 100000 in
set_option maxHeartbeats 4000000 in
theorem dsub_any (w : World) (p q : Q) (a b : D) (E T : Nat) (h : RD w p a) (h2 : RD w q b) (la : a.Lim E T) (lb : b.Lim E T) (hET : E + T ≤ 16000) (ht : BTab w) :
    Calls Tryd.prog 103 #[.agg #[.bool p.b, .slice p.A p.n p.c, .int .i64 a.x], .agg #[.bool q.b, .slice q.A q.n q.c, .int .i64 b.x]] w fun e w' => (∃ r : Q, e = .returned (.tuple #[.agg #[.bool r.b, .slice r.A r.n r.c, .int .i64 (a.sub b).x], .int .i64 0]) ∧ RD w' r (a.sub b)) ∧ Below w.heap.size w w' := by
  have HA := Lib.hid h
  have HB := Lib.hid h2
  have LA := Lib.hid la
  have LB := Lib.hid lb
  clear h h2 la lb
  have HT := Lib.hid ht
  clear ht
  unfold D.sub
  have BX := Lib.hid (boxes3 w 53 #[.bool p.b, .slice p.A p.n p.c, .int .i64 a.x] 53 #[.bool q.b, .slice q.A q.n q.c, .int .i64 b.x] 53 #[.bool false, .slice none 0 0, .int .i64 0])
  go_enter Tryd.func103, Tryd.ntmps103
  go_wp2_with fail
  generalize ((w.alloc (.cells #[.bool p.b, .slice p.A p.n p.c, .int .i64 a.x] 53)).alloc (.cells #[.bool q.b, .slice q.A q.n q.c, .int .i64 b.x] 53)).alloc (.cells #[.bool false, .slice none 0 0, .int .i64 0] 53) = w0 at *
  obtain ⟨b0, b1, b2, hw⟩ := BX.out
  have Ba_0 := Lib.hid b0
  have Bb_0 := Lib.hid b1
  have Bo_0 := Lib.hid b2
  have HB_0 := Lib.hid hw
  have K := Dk.below (hw.mono (Nat.le_refl _))
  clear BX hw b0 b1 b2
  have RA_1 := Lib.hid (HA.out.dk K)
  have RB_2 := Lib.hid (HB.out.dk K)
  clear K HA HB
  have la := Ba_0.out.lt
  obtain ⟨ca0, ca1, ca2⟩ := Ba_0.out.cells3
  have lb := Bb_0.out.lt
  obtain ⟨cb0, cb1, cb2⟩ := Bb_0.out.cells3
  have lo := Bo_0.out.lt
  obtain ⟨co0, co1, co2⟩ := Bo_0.out.cells3
  go_wp2_with fail
  have tok_3 : True := trivial
  have tok_4 : True := trivial
  go_region_held3 (fun w' => w'.cell? ⟨w.heap.size, 0, none⟩ = some (.bool p.b) ∧ w'.cell? ⟨w.heap.size, 1, none⟩ = some (.slice p.A p.n p.c) ∧ w'.cell? ⟨w.heap.size, 2, none⟩ = some (.int .i64 a.x) ∧ w'.cell? ⟨w.heap.size + 1, 0, none⟩ = some (.bool q.b) ∧ w'.cell? ⟨w.heap.size + 1, 1, none⟩ = some (.slice q.A q.n q.c) ∧ w'.cell? ⟨w.heap.size + 1, 2, none⟩ = some (.int .i64 b.x)) (first | exact ⟨Ba_0.out.cell 0 rfl, Ba_0.out.cell 1 rfl, Ba_0.out.cell 2 rfl, Bb_0.out.cell 0 rfl, Bb_0.out.cell 1 rfl, Bb_0.out.cell 2 rfl⟩ | exact ⟨Ba_5.out.cell 0 rfl, Ba_5.out.cell 1 rfl, Ba_5.out.cell 2 rfl, Bb_6.out.cell 0 rfl, Bb_6.out.cell 1 rfl, Bb_6.out.cell 2 rfl⟩ | exact ⟨Ba_12.out.cell 0 rfl, Ba_12.out.cell 1 rfl, Ba_12.out.cell 2 rfl, Bb_13.out.cell 0 rfl, Bb_13.out.cell 1 rfl, Bb_13.out.cell 2 rfl⟩ | exact ⟨(((Ba_12.out.ne (by have := Ba_12.out.lt; have := Bb_13.out.lt; have := Bo_14.out.lt; have := HB_15.out.size; omega) 0 (.bool u.b)).ne (by have := Ba_12.out.lt; have := Bb_13.out.lt; have := Bo_14.out.lt; have := HB_15.out.size; omega) 1 (.slice u.A u.n u.c)).ne (by have := Ba_12.out.lt; have := Bb_13.out.lt; have := Bo_14.out.lt; have := HB_15.out.size; omega) 2 (.int .i64 (a.add b.neg).x)).cell 0 rfl, (((Ba_12.out.ne (by have := Ba_12.out.lt; have := Bb_13.out.lt; have := Bo_14.out.lt; have := HB_15.out.size; omega) 0 (.bool u.b)).ne (by have := Ba_12.out.lt; have := Bb_13.out.lt; have := Bo_14.out.lt; have := HB_15.out.size; omega) 1 (.slice u.A u.n u.c)).ne (by have := Ba_12.out.lt; have := Bb_13.out.lt; have := Bo_14.out.lt; have := HB_15.out.size; omega) 2 (.int .i64 (a.add b.neg).x)).cell 1 rfl, (((Ba_12.out.ne (by have := Ba_12.out.lt; have := Bb_13.out.lt; have := Bo_14.out.lt; have := HB_15.out.size; omega) 0 (.bool u.b)).ne (by have := Ba_12.out.lt; have := Bb_13.out.lt; have := Bo_14.out.lt; have := HB_15.out.size; omega) 1 (.slice u.A u.n u.c)).ne (by have := Ba_12.out.lt; have := Bb_13.out.lt; have := Bo_14.out.lt; have := HB_15.out.size; omega) 2 (.int .i64 (a.add b.neg).x)).cell 2 rfl, (((Bb_13.out.ne (by have := Ba_12.out.lt; have := Bb_13.out.lt; have := Bo_14.out.lt; have := HB_15.out.size; omega) 0 (.bool u.b)).ne (by have := Ba_12.out.lt; have := Bb_13.out.lt; have := Bo_14.out.lt; have := HB_15.out.size; omega) 1 (.slice u.A u.n u.c)).ne (by have := Ba_12.out.lt; have := Bb_13.out.lt; have := Bo_14.out.lt; have := HB_15.out.size; omega) 2 (.int .i64 (a.add b.neg).x)).cell 0 rfl, (((Bb_13.out.ne (by have := Ba_12.out.lt; have := Bb_13.out.lt; have := Bo_14.out.lt; have := HB_15.out.size; omega) 0 (.bool u.b)).ne (by have := Ba_12.out.lt; have := Bb_13.out.lt; have := Bo_14.out.lt; have := HB_15.out.size; omega) 1 (.slice u.A u.n u.c)).ne (by have := Ba_12.out.lt; have := Bb_13.out.lt; have := Bo_14.out.lt; have := HB_15.out.size; omega) 2 (.int .i64 (a.add b.neg).x)).cell 1 rfl, (((Bb_13.out.ne (by have := Ba_12.out.lt; have := Bb_13.out.lt; have := Bo_14.out.lt; have := HB_15.out.size; omega) 0 (.bool u.b)).ne (by have := Ba_12.out.lt; have := Bb_13.out.lt; have := Bo_14.out.lt; have := HB_15.out.size; omega) 1 (.slice u.A u.n u.c)).ne (by have := Ba_12.out.lt; have := Bb_13.out.lt; have := Bo_14.out.lt; have := HB_15.out.size; omega) 2 (.int .i64 (a.add b.neg).x)).cell 2 rfl⟩)
    (first
     | (have _ := tok_3; go_at_call 111; clear tok_3; refine (dneg_q _ q b (RB_2.out.dk ((Dk.refl _).drew)) (by have := LB.out.nb; omega)).mono ?_; rintro e w1 ⟨⟨r, rfl, hr⟩, hb⟩; clear la ca0 ca1 ca2 lb cb0 cb1 cb2 lo co0 co1 co2; have K := Dk.trans ((Dk.refl _).drew) (.below hb); have Ba_5 := Lib.hid (show Bk _ _ _ #[.bool p.b, .slice p.A p.n p.c, .int .i64 a.x] from (Ba_0.out.drew).below hb); have Bb_6 := Lib.hid (show Bk _ _ _ #[.bool q.b, .slice q.A q.n q.c, .int .i64 b.x] from (Bb_0.out.drew).below hb); have Bo_7 := Lib.hid (show Bk _ _ _ #[.bool false, .slice none 0 0, .int .i64 0] from (Bo_0.out.drew).below hb); have HB_8 := Lib.hid (below_tr (below_dr HB_0.out) hb); clear hb; have RA_9 := Lib.hid (RA_1.out.dk K); have RB_10 := Lib.hid (RB_2.out.dk K); clear K Ba_0 Bb_0 Bo_0 HB_0 RA_1 RB_2; have RN_11 := Lib.hid hr; clear hr; have la := Ba_5.out.lt; obtain ⟨ca0, ca1, ca2⟩ := Ba_5.out.cells3; have lb := Bb_6.out.lt; obtain ⟨cb0, cb1, cb2⟩ := Bb_6.out.cells3; have lo := Bo_7.out.lt; obtain ⟨co0, co1, co2⟩ := Bo_7.out.cells3; have fo0 := Bo_7.out.free 0; have fo1 := Bo_7.out.free 1; have fo2 := Bo_7.out.free 2)
     | (have _ := tok_4; go_at_call 52; clear tok_4; refine (dadd_any _ p r a b.neg E T RA_9.out RN_11.out LA.out (neg_lim LB.out) hET (HT.out.below HB_8.out)).mono ?_; rintro e w2 ⟨⟨u, rfl, hu⟩, hb⟩; clear la ca0 ca1 ca2 lb cb0 cb1 cb2 lo co0 co1 co2 fo0 fo1 fo2; have K := Dk.below hb; have Ba_12 := Lib.hid (show Bk _ _ _ #[.bool p.b, .slice p.A p.n p.c, .int .i64 a.x] from Ba_5.out.below hb); have Bb_13 := Lib.hid (show Bk _ _ _ #[.bool q.b, .slice q.A q.n q.c, .int .i64 b.x] from Bb_6.out.below hb); have Bo_14 := Lib.hid (show Bk _ _ _ #[.bool false, .slice none 0 0, .int .i64 0] from Bo_7.out.below hb); have HB_15 := Lib.hid (below_tr HB_8.out hb); clear hb; have RA_16 := Lib.hid (RA_9.out.dk K); have RB_17 := Lib.hid (RB_10.out.dk K); have RN_18 := Lib.hid (RN_11.out.dk K); clear K Ba_5 Bb_6 Bo_7 HB_8 RA_9 RB_10 RN_11; have RU_19 := Lib.hid hu; clear hu; have la := Ba_12.out.lt; obtain ⟨ca0, ca1, ca2⟩ := Ba_12.out.cells3; have lb := Bb_13.out.lt; obtain ⟨cb0, cb1, cb2⟩ := Bb_13.out.cells3; have lo := Bo_14.out.lt; obtain ⟨co0, co1, co2⟩ := Bo_14.out.cells3; have fo0 := Bo_14.out.free 0; have fo1 := Bo_14.out.free 1; have fo2 := Bo_14.out.free 2))
  go_wp2
  refine bodyPost_ret (v := .tuple #[.agg #[.bool u.b, .slice u.A u.n u.c, .int .i64 (a.add b.neg).x], .int .i64 0]) ?_ rfl ?_
  · simp [results, Tryd.f103, go_sem, co0, co1, co2]
  · have y0 := HB_15.out.size; exact ⟨⟨u, rfl, (RU_19.out.dk ((((Dk.refl _).set (cs := #[.bool false, .slice none 0 0, .int .i64 0]) Bo_14.out 0 (by intro _ hh; cases hh) (.bool u.b)).set (cs := #[.bool u.b, .slice none 0 0, .int .i64 0]) (Bo_14.out.set 0 (.bool u.b)) 1 (by intro _ hh; cases hh) (.slice u.A u.n u.c)).set (cs := #[.bool u.b, .slice u.A u.n u.c, .int .i64 0]) ((Bo_14.out.set 0 (.bool u.b)).set 1 (.slice u.A u.n u.c)) 2 (by intro _ hh; cases hh) (.int .i64 (a.add b.neg).x)))⟩, (below_st (below_st (below_st HB_15.out 0 (by omega) (.bool u.b)) 1 (by omega) (.slice u.A u.n u.c)) 2 (by omega) (.int .i64 (a.add b.neg).x))⟩

end Go.Proofs.YtgioppkggpfnoaaDoor.Nu
end

section
/- The walks of dyad.Abs, Sub, top. -/
set_option linter.unusedVariables false
namespace Go.Proofs.YtgioppkggpfnoaaDoor.Nu
open Go.RowKit Go.Proofs

set_option maxRecDepth 100000 in
set_option maxHeartbeats 4000000 in
theorem dabs_any (w : World) (p : Q) (a : D) (h : RD w p a) (hz : nb a.z.natAbs ≤ 16384) :
    Calls Tryd.prog 146 #[.agg #[.bool p.b, .slice p.A p.n p.c, .int .i64 a.x]] w fun e w' => (∃ r : Q, e = .returned (.agg #[.bool r.b, .slice r.A r.n r.c, .int .i64 a.abs.x]) ∧ RD w' r a.abs) ∧ Below w.heap.size w w' := by
  have RA_c := Lib.hid h.2
  have HA := Lib.hid h
  clear h
  have BX := Lib.hid (boxes2 w 53 #[.bool p.b, .slice p.A p.n p.c, .int .i64 a.x] 53 #[.bool false, .slice none 0 0, .int .i64 0])
  go_enter Tryd.func146, Tryd.ntmps146
  go_wp2_with fail
  generalize (w.alloc (.cells #[.bool p.b, .slice p.A p.n p.c, .int .i64 a.x] 53)).alloc (.cells #[.bool false, .slice none 0 0, .int .i64 0] 53) = w0 at *
  obtain ⟨b0, b1, hw⟩ := BX.out
  have Ba_0 := Lib.hid b0
  have Bo_0 := Lib.hid b1
  have HB_0 := Lib.hid hw
  have K := Dk.below (hw.mono (Nat.le_refl _))
  clear BX hw b0 b1
  have RA_1 := Lib.hid (HA.out.dk K)
  clear K HA
  have la := Ba_0.out.lt
  obtain ⟨ca0, ca1, ca2⟩ := Ba_0.out.cells3
  have lo := Bo_0.out.lt
  obtain ⟨co0, co1, co2⟩ := Bo_0.out.cells3
  go_wp2_with fail
  have tok_2 : True := trivial
  go_region_held3 (fun w' => w'.cell? ⟨w.heap.size, 0, none⟩ = some (.bool p.b) ∧ w'.cell? ⟨w.heap.size, 1, none⟩ = some (.slice p.A p.n p.c) ∧ w'.cell? ⟨w.heap.size, 2, none⟩ = some (.int .i64 a.x)) (first | exact ⟨Ba_0.out.cell 0 rfl, Ba_0.out.cell 1 rfl, Ba_0.out.cell 2 rfl⟩ | exact ⟨Ba_3.out.cell 0 rfl, Ba_3.out.cell 1 rfl, Ba_3.out.cell 2 rfl⟩ | exact ⟨(((Ba_3.out.ne (by have := Ba_3.out.lt; have := Bo_4.out.lt; have := HB_5.out.size; omega) 0 (.bool r.b)).ne (by have := Ba_3.out.lt; have := Bo_4.out.lt; have := HB_5.out.size; omega) 1 (.slice r.A r.n r.c)).ne (by have := Ba_3.out.lt; have := Bo_4.out.lt; have := HB_5.out.size; omega) 2 (.int .i64 a.x)).cell 0 rfl, (((Ba_3.out.ne (by have := Ba_3.out.lt; have := Bo_4.out.lt; have := HB_5.out.size; omega) 0 (.bool r.b)).ne (by have := Ba_3.out.lt; have := Bo_4.out.lt; have := HB_5.out.size; omega) 1 (.slice r.A r.n r.c)).ne (by have := Ba_3.out.lt; have := Bo_4.out.lt; have := HB_5.out.size; omega) 2 (.int .i64 a.x)).cell 1 rfl, (((Ba_3.out.ne (by have := Ba_3.out.lt; have := Bo_4.out.lt; have := HB_5.out.size; omega) 0 (.bool r.b)).ne (by have := Ba_3.out.lt; have := Bo_4.out.lt; have := HB_5.out.size; omega) 1 (.slice r.A r.n r.c)).ne (by have := Ba_3.out.lt; have := Bo_4.out.lt; have := HB_5.out.size; omega) 2 (.int .i64 a.x)).cell 2 rfl⟩)
    (first
     | (have _ := tok_2; go_at_call 107; clear tok_2; refine (wabs_q _ p a.z (RA_1.out.dk ((Dk.refl _).drew)).1 (by omega)).mono ?_; rintro e w1 ⟨⟨r, rfl, hr⟩, hb⟩; clear la ca0 ca1 ca2 lo co0 co1 co2; have K := Dk.trans ((Dk.refl _).drew) (.below hb); have Ba_3 := Lib.hid (show Bk _ _ _ #[.bool p.b, .slice p.A p.n p.c, .int .i64 a.x] from (Ba_0.out.drew).below hb); have Bo_4 := Lib.hid (show Bk _ _ _ #[.bool false, .slice none 0 0, .int .i64 0] from (Bo_0.out.drew).below hb); have HB_5 := Lib.hid (below_tr (below_dr HB_0.out) hb); clear hb; have RA_6 := Lib.hid (RA_1.out.dk K); clear K Ba_0 Bo_0 HB_0 RA_1; have RX_7 := Lib.hid hr; clear hr; have la := Ba_3.out.lt; obtain ⟨ca0, ca1, ca2⟩ := Ba_3.out.cells3; have lo := Bo_4.out.lt; obtain ⟨co0, co1, co2⟩ := Bo_4.out.cells3; have fo0 := Bo_4.out.free 0; have fo1 := Bo_4.out.free 1; have fo2 := Bo_4.out.free 2))
  go_wp2
  refine bodyPost_ret (v := .agg #[.bool r.b, .slice r.A r.n r.c, .int .i64 a.x]) ?_ rfl ?_
  · simp [results, Tryd.f146, go_sem, co0, co1, co2]
  · have y0 := HB_5.out.size; exact ⟨⟨r, rfl, (RX_7.out.dk ((((Dk.refl _).set (cs := #[.bool false, .slice none 0 0, .int .i64 0]) Bo_4.out 0 (by intro _ hh; cases hh) (.bool r.b)).set (cs := #[.bool r.b, .slice none 0 0, .int .i64 0]) (Bo_4.out.set 0 (.bool r.b)) 1 (by intro _ hh; cases hh) (.slice r.A r.n r.c)).set (cs := #[.bool r.b, .slice r.A r.n r.c, .int .i64 0]) ((Bo_4.out.set 0 (.bool r.b)).set 1 (.slice r.A r.n r.c)) 2 (by intro _ hh; cases hh) (.int .i64 a.x))), abs_can RA_c.out⟩, (below_st (below_st (below_st HB_5.out 0 (by omega) (.bool r.b)) 1 (by omega) (.slice r.A r.n r.c)) 2 (by omega) (.int .i64 a.x))⟩

end Go.Proofs.YtgioppkggpfnoaaDoor.Nu
end

section
/- The walks of span.out, Point, Size. -/
set_option linter.unusedVariables false
namespace Go.Proofs.YtgioppkggpfnoaaDoor.Nu
open Go.RowKit Go.Proofs

set_option maxRecDepth 100000 in
set_option maxHeartbeats 4000000 in
theorem sout_any (w : World) (p q : Q) (a b : D) (bits : Nat) (E T : Nat) (h : RD w p a) (h2 : RD w q b) (la : a.Lim E T) (lb : b.Lim E T) (hET : E + T ≤ 16000) (hb2 : 2 ≤ bits) (hb3 : bits ≤ 4096) (ht : BTab w) :
    Calls Tryd.prog 98 #[.agg #[.bool p.b, .slice p.A p.n p.c, .int .i64 a.x], .agg #[.bool q.b, .slice q.A q.n q.c, .int .i64 b.x], .int .i64 bits] w fun e w' => (∃ r : SQ, e = .returned (.tuple #[.agg #[.bool r.lo.b, .slice r.lo.A r.lo.n r.lo.c, .int .i64 (Sp.out a b bits).lo.x, .bool r.hi.b, .slice r.hi.A r.hi.n r.hi.c, .int .i64 (Sp.out a b bits).hi.x], .int .i64 0]) ∧ RS w' r (Sp.out a b bits)) ∧ Below w.heap.size w w' := by
  have HA := Lib.hid h
  have HB := Lib.hid h2
  have LA := Lib.hid la
  have LB := Lib.hid lb
  clear h h2 la lb
  have HT := Lib.hid ht
  clear ht
  have BX := Lib.hid (boxes3 w 53 #[.bool p.b, .slice p.A p.n p.c, .int .i64 a.x] 53 #[.bool q.b, .slice q.A q.n q.c, .int .i64 b.x] 62 #[.bool false, .slice none 0 0, .int .i64 0, .bool false, .slice none 0 0, .int .i64 0])
  go_enter Tryd.func98, Tryd.ntmps98
  go_wp2_with fail
  generalize ((w.alloc (.cells #[.bool p.b, .slice p.A p.n p.c, .int .i64 a.x] 53)).alloc (.cells #[.bool q.b, .slice q.A q.n q.c, .int .i64 b.x] 53)).alloc (.cells #[.bool false, .slice none 0 0, .int .i64 0, .bool false, .slice none 0 0, .int .i64 0] 62) = w0 at *
  obtain ⟨b0, b1, b2, hw⟩ := BX.out
  have Ba_0 := Lib.hid b0
  have Bb_0 := Lib.hid b1
  have Bo_0 := Lib.hid b2
  have HB_0 := Lib.hid hw
  have K := Dk.below (hw.mono (Nat.le_refl _))
  clear BX hw b0 b1 b2
  have RA_1 := Lib.hid (HA.out.dk K)
  have RB_2 := Lib.hid (HB.out.dk K)
  clear K HA HB
  have la := Ba_0.out.lt
  obtain ⟨ca0, ca1, ca2⟩ := Ba_0.out.cells3
  have lb := Bb_0.out.lt
  obtain ⟨cb0, cb1, cb2⟩ := Bb_0.out.cells3
  have lo := Bo_0.out.lt
  obtain ⟨co0, co1, co2, co3, co4, co5⟩ := Bo_0.out.cells6
  go_wp2_with fail
  refine (dround_any _ p a bits false E T RA_1.out LA.out hET hb2 hb3 (HT.out.below HB_0.out)).mono ?_
  rintro e w1 ⟨⟨r, rfl, hr⟩, hb⟩
  clear la ca0 ca1 ca2 lb cb0 cb1 cb2 lo co0 co1 co2 co3 co4 co5
  have K := Dk.below hb
  have Ba_3 := Lib.hid (show Bk _ _ _ #[.bool p.b, .slice p.A p.n p.c, .int .i64 a.x] from Ba_0.out.below hb)
  have Bb_4 := Lib.hid (show Bk _ _ _ #[.bool q.b, .slice q.A q.n q.c, .int .i64 b.x] from Bb_0.out.below hb)
  have Bo_5 := Lib.hid (show Bk _ _ _ #[.bool false, .slice none 0 0, .int .i64 0, .bool false, .slice none 0 0, .int .i64 0] from Bo_0.out.below hb)
  have HB_6 := Lib.hid (below_tr HB_0.out hb)
  clear hb
  have RA_7 := Lib.hid (RA_1.out.dk K)
  have RB_8 := Lib.hid (RB_2.out.dk K)
  clear K Ba_0 Bb_0 Bo_0 HB_0 RA_1 RB_2
  have RX_9 := Lib.hid hr
  clear hr
  have la := Ba_3.out.lt
  obtain ⟨ca0, ca1, ca2⟩ := Ba_3.out.cells3
  have lb := Bb_4.out.lt
  obtain ⟨cb0, cb1, cb2⟩ := Bb_4.out.cells3
  have lo := Bo_5.out.lt
  obtain ⟨co0, co1, co2, co3, co4, co5⟩ := Bo_5.out.cells6
  have n_10 := Ba_3.out.lt
  have n_11 := Bb_4.out.lt
  have n_12 := Bo_5.out.lt
  go_wp2_with fail
  refine (dround_any _ q b bits true E T (RB_8.out.dk ((Dk.refl _).alloc _)) LB.out hET hb2 hb3 (HT.out.below (below_al HB_6.out _))).mono ?_
  rintro e w2 ⟨⟨s, rfl, hs⟩, hb⟩
  clear la ca0 ca1 ca2 lb cb0 cb1 cb2 lo co0 co1 co2 co3 co4 co5
  have K := Dk.trans ((Dk.refl _).alloc _) (.below hb)
  have Ba_13 := Lib.hid (show Bk _ _ _ #[.bool p.b, .slice p.A p.n p.c, .int .i64 a.x] from (Ba_3.out.alloc _).below hb)
  have Bb_14 := Lib.hid (show Bk _ _ _ #[.bool q.b, .slice q.A q.n q.c, .int .i64 b.x] from (Bb_4.out.alloc _).below hb)
  have Bo_15 := Lib.hid (show Bk _ _ _ #[.bool false, .slice none 0 0, .int .i64 0, .bool false, .slice none 0 0, .int .i64 0] from (Bo_5.out.alloc _).below hb)
  have Bl_16 := Lib.hid (show Bk _ _ _ #[.bool r.b, .slice r.A r.n r.c, .int .i64 (a.round bits false).x] from (Bk.new _ 53 #[.bool r.b, .slice r.A r.n r.c, .int .i64 (a.round bits false).x]).below hb)
  have HB_17 := Lib.hid (below_tr (below_al HB_6.out _) hb)
  clear hb
  have RA_18 := Lib.hid (RA_7.out.dk K)
  have RB_19 := Lib.hid (RB_8.out.dk K)
  have RX_20 := Lib.hid (RX_9.out.dk K)
  clear K Ba_3 Bb_4 Bo_5 HB_6 RA_7 RB_8 RX_9
  have RY_21 := Lib.hid hs
  clear hs
  have la := Ba_13.out.lt
  obtain ⟨ca0, ca1, ca2⟩ := Ba_13.out.cells3
  have lb := Bb_14.out.lt
  obtain ⟨cb0, cb1, cb2⟩ := Bb_14.out.cells3
  have lo := Bo_15.out.lt
  obtain ⟨co0, co1, co2, co3, co4, co5⟩ := Bo_15.out.cells6
  have fo0 := Bo_15.out.free 0
  have fo1 := Bo_15.out.free 1
  have fo2 := Bo_15.out.free 2
  have fo3 := Bo_15.out.free 3
  have fo4 := Bo_15.out.free 4
  have fo5 := Bo_15.out.free 5
  have ll := Bl_16.out.lt
  obtain ⟨cl0, cl1, cl2⟩ := Bl_16.out.cells3
  have n_22 := Ba_13.out.lt
  have n_23 := Bb_14.out.lt
  have n_24 := Bo_15.out.lt
  have n_25 := Bl_16.out.lt
  go_wp2
  refine bodyPost_ret (v := .tuple #[.agg #[.bool r.b, .slice r.A r.n r.c, .int .i64 (a.round bits false).x, .bool s.b, .slice s.A s.n s.c, .int .i64 (b.round bits true).x], .int .i64 0]) ?_ rfl ?_
  · simp [results, Tryd.f98, go_sem, co0, co1, co2, co3, co4, co5, lo]
  · have y0 := HB_17.out.size; exact ⟨⟨⟨r, s⟩, rfl, (RX_20.out.dk ((((((((Dk.refl _).set (cs := #[.bool false, .slice none 0 0, .int .i64 0, .bool false, .slice none 0 0, .int .i64 0]) Bo_15.out 0 (by intro _ hh; cases hh) (.bool r.b)).set (cs := #[.bool r.b, .slice none 0 0, .int .i64 0, .bool false, .slice none 0 0, .int .i64 0]) (Bo_15.out.set 0 (.bool r.b)) 1 (by intro _ hh; cases hh) (.slice r.A r.n r.c)).set (cs := #[.bool r.b, .slice r.A r.n r.c, .int .i64 0, .bool false, .slice none 0 0, .int .i64 0]) ((Bo_15.out.set 0 (.bool r.b)).set 1 (.slice r.A r.n r.c)) 2 (by intro _ hh; cases hh) (.int .i64 (a.round bits false).x)).set (cs := #[.bool r.b, .slice r.A r.n r.c, .int .i64 (a.round bits false).x, .bool false, .slice none 0 0, .int .i64 0]) (((Bo_15.out.set 0 (.bool r.b)).set 1 (.slice r.A r.n r.c)).set 2 (.int .i64 (a.round bits false).x)) 3 (by intro _ hh; cases hh) (.bool s.b)).set (cs := #[.bool r.b, .slice r.A r.n r.c, .int .i64 (a.round bits false).x, .bool s.b, .slice none 0 0, .int .i64 0]) ((((Bo_15.out.set 0 (.bool r.b)).set 1 (.slice r.A r.n r.c)).set 2 (.int .i64 (a.round bits false).x)).set 3 (.bool s.b)) 4 (by intro _ hh; cases hh) (.slice s.A s.n s.c)).set (cs := #[.bool r.b, .slice r.A r.n r.c, .int .i64 (a.round bits false).x, .bool s.b, .slice s.A s.n s.c, .int .i64 0]) (((((Bo_15.out.set 0 (.bool r.b)).set 1 (.slice r.A r.n r.c)).set 2 (.int .i64 (a.round bits false).x)).set 3 (.bool s.b)).set 4 (.slice s.A s.n s.c)) 5 (by intro _ hh; cases hh) (.int .i64 (b.round bits true).x)).alloc _)), (RY_21.out.dk ((((((((Dk.refl _).set (cs := #[.bool false, .slice none 0 0, .int .i64 0, .bool false, .slice none 0 0, .int .i64 0]) Bo_15.out 0 (by intro _ hh; cases hh) (.bool r.b)).set (cs := #[.bool r.b, .slice none 0 0, .int .i64 0, .bool false, .slice none 0 0, .int .i64 0]) (Bo_15.out.set 0 (.bool r.b)) 1 (by intro _ hh; cases hh) (.slice r.A r.n r.c)).set (cs := #[.bool r.b, .slice r.A r.n r.c, .int .i64 0, .bool false, .slice none 0 0, .int .i64 0]) ((Bo_15.out.set 0 (.bool r.b)).set 1 (.slice r.A r.n r.c)) 2 (by intro _ hh; cases hh) (.int .i64 (a.round bits false).x)).set (cs := #[.bool r.b, .slice r.A r.n r.c, .int .i64 (a.round bits false).x, .bool false, .slice none 0 0, .int .i64 0]) (((Bo_15.out.set 0 (.bool r.b)).set 1 (.slice r.A r.n r.c)).set 2 (.int .i64 (a.round bits false).x)) 3 (by intro _ hh; cases hh) (.bool s.b)).set (cs := #[.bool r.b, .slice r.A r.n r.c, .int .i64 (a.round bits false).x, .bool s.b, .slice none 0 0, .int .i64 0]) ((((Bo_15.out.set 0 (.bool r.b)).set 1 (.slice r.A r.n r.c)).set 2 (.int .i64 (a.round bits false).x)).set 3 (.bool s.b)) 4 (by intro _ hh; cases hh) (.slice s.A s.n s.c)).set (cs := #[.bool r.b, .slice r.A r.n r.c, .int .i64 (a.round bits false).x, .bool s.b, .slice s.A s.n s.c, .int .i64 0]) (((((Bo_15.out.set 0 (.bool r.b)).set 1 (.slice r.A r.n r.c)).set 2 (.int .i64 (a.round bits false).x)).set 3 (.bool s.b)).set 4 (.slice s.A s.n s.c)) 5 (by intro _ hh; cases hh) (.int .i64 (b.round bits true).x)).alloc _))⟩, (below_al (below_st (below_st (below_st (below_st (below_st (below_st HB_17.out 0 (by omega) (.bool r.b)) 1 (by omega) (.slice r.A r.n r.c)) 2 (by omega) (.int .i64 (a.round bits false).x)) 3 (by omega) (.bool s.b)) 4 (by omega) (.slice s.A s.n s.c)) 5 (by omega) (.int .i64 (b.round bits true).x)) _)⟩

set_option maxRecDepth 100000 in
set_option maxHeartbeats 4000000 in
theorem spoint_any (w : World) (p : Q) (a : D) (h : RD w p a) :
    Calls Tryd.prog 59 #[.agg #[.bool p.b, .slice p.A p.n p.c, .int .i64 a.x]] w fun e w' => (∃ r : SQ, e = .returned (.agg #[.bool r.lo.b, .slice r.lo.A r.lo.n r.lo.c, .int .i64 (Sp.pt a).lo.x, .bool r.hi.b, .slice r.hi.A r.hi.n r.hi.c, .int .i64 (Sp.pt a).hi.x]) ∧ RS w' r (Sp.pt a)) ∧ Below w.heap.size w w' := by
  have HA := Lib.hid h
  clear h
  have BX := Lib.hid (boxes2 w 53 #[.bool p.b, .slice p.A p.n p.c, .int .i64 a.x] 62 #[.bool p.b, .slice p.A p.n p.c, .int .i64 a.x, .bool p.b, .slice p.A p.n p.c, .int .i64 a.x])
  go_enter Tryd.func59, Tryd.ntmps59
  go_wp2
  refine bodyPost_ret (v := .agg #[.bool p.b, .slice p.A p.n p.c, .int .i64 a.x, .bool p.b, .slice p.A p.n p.c, .int .i64 a.x]) ?_ rfl ?_
  · simp [results, Tryd.f59, go_sem]
  · exact ⟨⟨⟨p, p⟩, rfl, HA.out.below BX.out.2.2, HA.out.below BX.out.2.2⟩, BX.out.2.2⟩

end Go.Proofs.YtgioppkggpfnoaaDoor.Nu
end

section
/- The walks of span.Size, Neg, Even. -/
set_option linter.unusedVariables false
namespace Go.Proofs.YtgioppkggpfnoaaDoor.Nu
open Go.RowKit Go.Proofs

set_option maxRecDepth 100000 in
set_option maxHeartbeats 4000000 in
theorem ssize_any (w : World) (s : SQ) (a : Sp) (E T : Nat) (h : RS w s a) (la : a.Lim E T) (hET : E + T ≤ 16000) :
    Calls Tryd.prog 123 #[.agg #[.bool s.lo.b, .slice s.lo.A s.lo.n s.lo.c, .int .i64 a.lo.x, .bool s.hi.b, .slice s.hi.A s.hi.n s.hi.c, .int .i64 a.hi.x]] w fun e w' => (∃ r : Q, e = .returned (.agg #[.bool r.b, .slice r.A r.n r.c, .int .i64 a.size.x]) ∧ RD w' r a.size) ∧ Below w.heap.size w w' := by
  have HA := Lib.hid h
  have LA := Lib.hid la
  clear h la
  have n0 := Lib.hid (LA.out.1.nb)
  have n1 := Lib.hid (LA.out.2.nb)
  have y0 : nb a.lo.z.natAbs ≤ 16384 := by have := n0.out; omega
  have y1 : nb a.hi.z.natAbs ≤ 16384 := by have := n1.out; omega
  unfold Sp.size
  have BX := Lib.hid (boxes2 w 62 #[.bool s.lo.b, .slice s.lo.A s.lo.n s.lo.c, .int .i64 a.lo.x, .bool s.hi.b, .slice s.hi.A s.hi.n s.hi.c, .int .i64 a.hi.x] 53 #[.bool false, .slice none 0 0, .int .i64 0])
  go_enter Tryd.func123, Tryd.ntmps123
  go_wp2_with fail
  generalize (w.alloc (.cells #[.bool s.lo.b, .slice s.lo.A s.lo.n s.lo.c, .int .i64 a.lo.x, .bool s.hi.b, .slice s.hi.A s.hi.n s.hi.c, .int .i64 a.hi.x] 62)).alloc (.cells #[.bool false, .slice none 0 0, .int .i64 0] 53) = w0 at *
  obtain ⟨b0, b1, hw⟩ := BX.out
  have Ba_0 := Lib.hid b0
  have Bo_0 := Lib.hid b1
  have HB_0 := Lib.hid hw
  have K := Dk.below (hw.mono (Nat.le_refl _))
  clear BX hw b0 b1
  have RA_1 := Lib.hid (HA.out.dk K)
  clear K HA
  have la := Ba_0.out.lt
  obtain ⟨ca0, ca1, ca2, ca3, ca4, ca5⟩ := Ba_0.out.cells6
  have lo := Bo_0.out.lt
  obtain ⟨co0, co1, co2⟩ := Bo_0.out.cells3
  go_wp2_with fail
  obtain ⟨SX1, hS1⟩ : ∃ S : World → Prop, ∀ w', S w' ↔ (w'.cell? ⟨w.heap.size, 0, none⟩ = some (.bool s.lo.b) ∧ w'.cell? ⟨w.heap.size, 1, none⟩ = some (.slice s.lo.A s.lo.n s.lo.c) ∧ w'.cell? ⟨w.heap.size, 2, none⟩ = some (.int .i64 a.lo.x) ∧ w'.cell? ⟨w.heap.size, 3, none⟩ = some (.bool s.hi.b) ∧ w'.cell? ⟨w.heap.size, 4, none⟩ = some (.slice s.hi.A s.hi.n s.hi.c) ∧ w'.cell? ⟨w.heap.size, 5, none⟩ = some (.int .i64 a.hi.x)) := ⟨_, fun _ => Iff.rfl⟩
  have k_2 : SX1 (w0) := (hS1 _).2 ⟨Ba_0.out.cell 0 rfl, Ba_0.out.cell 1 rfl, Ba_0.out.cell 2 rfl, Ba_0.out.cell 3 rfl, Ba_0.out.cell 4 rfl, Ba_0.out.cell 5 rfl⟩
  have k_3 : SX1 (w0.drew) := (hS1 _).2 ⟨(Ba_0.out.drew).cell 0 rfl, (Ba_0.out.drew).cell 1 rfl, (Ba_0.out.drew).cell 2 rfl, (Ba_0.out.drew).cell 3 rfl, (Ba_0.out.drew).cell 4 rfl, (Ba_0.out.drew).cell 5 rfl⟩
  have tok_4 : True := trivial
  have tok_5 : True := trivial
  have tok_6 : True := trivial
  go_region_held3 (fun w' => w'.cell? ⟨w.heap.size, 0, none⟩ = some (.bool s.lo.b) ∧ w'.cell? ⟨w.heap.size, 1, none⟩ = some (.slice s.lo.A s.lo.n s.lo.c) ∧ w'.cell? ⟨w.heap.size, 2, none⟩ = some (.int .i64 a.lo.x) ∧ w'.cell? ⟨w.heap.size, 3, none⟩ = some (.bool s.hi.b) ∧ w'.cell? ⟨w.heap.size, 4, none⟩ = some (.slice s.hi.A s.hi.n s.hi.c) ∧ w'.cell? ⟨w.heap.size, 5, none⟩ = some (.int .i64 a.hi.x)) (first | with_reducible exact (hS1 _).1 k_2 | with_reducible exact (hS1 _).1 k_3 | with_reducible exact (hS1 _).1 k_12 | with_reducible exact (hS1 _).1 k_19 | with_reducible exact (hS1 _).1 k_27 | with_reducible exact (hS1 _).1 k_28)
    (first
     | (have _ := tok_4; go_at_call 146; clear tok_4; refine (dabs_any _ s.lo a.lo (RA_1.out.dk ((Dk.refl _).drew)).1 y0).mono ?_; rintro e w1 ⟨⟨r, rfl, hr⟩, hb⟩; clear la ca0 ca1 ca2 ca3 ca4 ca5 lo co0 co1 co2 k_2 k_3; have K := Dk.trans ((Dk.refl _).drew) (.below hb); have Ba_7 := Lib.hid (show Bk _ _ _ #[.bool s.lo.b, .slice s.lo.A s.lo.n s.lo.c, .int .i64 a.lo.x, .bool s.hi.b, .slice s.hi.A s.hi.n s.hi.c, .int .i64 a.hi.x] from (Ba_0.out.drew).below hb); have Bo_8 := Lib.hid (show Bk _ _ _ #[.bool false, .slice none 0 0, .int .i64 0] from (Bo_0.out.drew).below hb); have HB_9 := Lib.hid (below_tr (below_dr HB_0.out) hb); clear hb; have RA_10 := Lib.hid (RA_1.out.dk K); clear K Ba_0 Bo_0 HB_0 RA_1; have RX_11 := Lib.hid hr; clear hr; have la := Ba_7.out.lt; obtain ⟨ca0, ca1, ca2, ca3, ca4, ca5⟩ := Ba_7.out.cells6; have lo := Bo_8.out.lt; obtain ⟨co0, co1, co2⟩ := Bo_8.out.cells3; have fo0 := Bo_8.out.free 0; have fo1 := Bo_8.out.free 1; have fo2 := Bo_8.out.free 2; have k_12 : SX1 (w1) := (hS1 _).2 ⟨Ba_7.out.cell 0 rfl, Ba_7.out.cell 1 rfl, Ba_7.out.cell 2 rfl, Ba_7.out.cell 3 rfl, Ba_7.out.cell 4 rfl, Ba_7.out.cell 5 rfl⟩)
     | (have _ := tok_5; go_at_call 146; clear tok_5; refine (dabs_any _ s.hi a.hi RA_10.out.2 y1).mono ?_; rintro e w2 ⟨⟨t, rfl, ht⟩, hb⟩; clear la ca0 ca1 ca2 ca3 ca4 ca5 lo co0 co1 co2 fo0 fo1 fo2 k_12; have K := Dk.below hb; have Ba_13 := Lib.hid (show Bk _ _ _ #[.bool s.lo.b, .slice s.lo.A s.lo.n s.lo.c, .int .i64 a.lo.x, .bool s.hi.b, .slice s.hi.A s.hi.n s.hi.c, .int .i64 a.hi.x] from Ba_7.out.below hb); have Bo_14 := Lib.hid (show Bk _ _ _ #[.bool false, .slice none 0 0, .int .i64 0] from Bo_8.out.below hb); have HB_15 := Lib.hid (below_tr HB_9.out hb); clear hb; have RA_16 := Lib.hid (RA_10.out.dk K); have RX_17 := Lib.hid (RX_11.out.dk K); clear K Ba_7 Bo_8 HB_9 RA_10 RX_11; have RY_18 := Lib.hid ht; clear ht; have la := Ba_13.out.lt; obtain ⟨ca0, ca1, ca2, ca3, ca4, ca5⟩ := Ba_13.out.cells6; have lo := Bo_14.out.lt; obtain ⟨co0, co1, co2⟩ := Bo_14.out.cells3; have fo0 := Bo_14.out.free 0; have fo1 := Bo_14.out.free 1; have fo2 := Bo_14.out.free 2; have k_19 : SX1 (w2) := (hS1 _).2 ⟨Ba_13.out.cell 0 rfl, Ba_13.out.cell 1 rfl, Ba_13.out.cell 2 rfl, Ba_13.out.cell 3 rfl, Ba_13.out.cell 4 rfl, Ba_13.out.cell 5 rfl⟩)
     | (have _ := tok_6; go_at_call 87; clear tok_6; refine (dmax_any _ r t a.lo.abs a.hi.abs E T RX_17.out RY_18.out (abs_lim LA.out.1) (abs_lim LA.out.2) hET).mono ?_; rintro e w3 ⟨⟨u, rfl, hu⟩, hb⟩; clear la ca0 ca1 ca2 ca3 ca4 ca5 lo co0 co1 co2 fo0 fo1 fo2 k_19; have K := Dk.below hb; have Ba_20 := Lib.hid (show Bk _ _ _ #[.bool s.lo.b, .slice s.lo.A s.lo.n s.lo.c, .int .i64 a.lo.x, .bool s.hi.b, .slice s.hi.A s.hi.n s.hi.c, .int .i64 a.hi.x] from Ba_13.out.below hb); have Bo_21 := Lib.hid (show Bk _ _ _ #[.bool false, .slice none 0 0, .int .i64 0] from Bo_14.out.below hb); have HB_22 := Lib.hid (below_tr HB_15.out hb); clear hb; have RA_23 := Lib.hid (RA_16.out.dk K); have RX_24 := Lib.hid (RX_17.out.dk K); have RY_25 := Lib.hid (RY_18.out.dk K); clear K Ba_13 Bo_14 HB_15 RA_16 RX_17 RY_18; have RU_26 := Lib.hid hu; clear hu; have la := Ba_20.out.lt; obtain ⟨ca0, ca1, ca2, ca3, ca4, ca5⟩ := Ba_20.out.cells6; have lo := Bo_21.out.lt; obtain ⟨co0, co1, co2⟩ := Bo_21.out.cells3; have fo0 := Bo_21.out.free 0; have fo1 := Bo_21.out.free 1; have fo2 := Bo_21.out.free 2; have k_27 : SX1 (w3) := (hS1 _).2 ⟨Ba_20.out.cell 0 rfl, Ba_20.out.cell 1 rfl, Ba_20.out.cell 2 rfl, Ba_20.out.cell 3 rfl, Ba_20.out.cell 4 rfl, Ba_20.out.cell 5 rfl⟩; have y0 := Ba_20.out.lt; have y1 := Bo_21.out.lt; have y2 := HB_22.out.size; have k_28 : SX1 (((w3.setCell ⟨w.heap.size + 1, 0, none⟩ (.bool u.b)).setCell ⟨w.heap.size + 1, 1, none⟩ (.slice u.A u.n u.c)).setCell ⟨w.heap.size + 1, 2, none⟩ (.int .i64 (a.lo.abs.mx a.hi.abs).x)) := (hS1 _).2 ⟨(((Ba_20.out.ne (by omega) 0 (.bool u.b)).ne (by omega) 1 (.slice u.A u.n u.c)).ne (by omega) 2 (.int .i64 (a.lo.abs.mx a.hi.abs).x)).cell 0 rfl, (((Ba_20.out.ne (by omega) 0 (.bool u.b)).ne (by omega) 1 (.slice u.A u.n u.c)).ne (by omega) 2 (.int .i64 (a.lo.abs.mx a.hi.abs).x)).cell 1 rfl, (((Ba_20.out.ne (by omega) 0 (.bool u.b)).ne (by omega) 1 (.slice u.A u.n u.c)).ne (by omega) 2 (.int .i64 (a.lo.abs.mx a.hi.abs).x)).cell 2 rfl, (((Ba_20.out.ne (by omega) 0 (.bool u.b)).ne (by omega) 1 (.slice u.A u.n u.c)).ne (by omega) 2 (.int .i64 (a.lo.abs.mx a.hi.abs).x)).cell 3 rfl, (((Ba_20.out.ne (by omega) 0 (.bool u.b)).ne (by omega) 1 (.slice u.A u.n u.c)).ne (by omega) 2 (.int .i64 (a.lo.abs.mx a.hi.abs).x)).cell 4 rfl, (((Ba_20.out.ne (by omega) 0 (.bool u.b)).ne (by omega) 1 (.slice u.A u.n u.c)).ne (by omega) 2 (.int .i64 (a.lo.abs.mx a.hi.abs).x)).cell 5 rfl⟩; clear y0 y1 y2))
  go_wp2
  refine bodyPost_ret (v := .agg #[.bool u.b, .slice u.A u.n u.c, .int .i64 (a.lo.abs.mx a.hi.abs).x]) ?_ rfl ?_
  · simp [results, Tryd.f123, go_sem, co0, co1, co2]
  · have y0 := HB_22.out.size; exact ⟨⟨u, rfl, (RU_26.out.dk ((((Dk.refl _).set (cs := #[.bool false, .slice none 0 0, .int .i64 0]) Bo_21.out 0 (by intro _ hh; cases hh) (.bool u.b)).set (cs := #[.bool u.b, .slice none 0 0, .int .i64 0]) (Bo_21.out.set 0 (.bool u.b)) 1 (by intro _ hh; cases hh) (.slice u.A u.n u.c)).set (cs := #[.bool u.b, .slice u.A u.n u.c, .int .i64 0]) ((Bo_21.out.set 0 (.bool u.b)).set 1 (.slice u.A u.n u.c)) 2 (by intro _ hh; cases hh) (.int .i64 (a.lo.abs.mx a.hi.abs).x)))⟩, (below_st (below_st (below_st HB_22.out 0 (by omega) (.bool u.b)) 1 (by omega) (.slice u.A u.n u.c)) 2 (by omega) (.int .i64 (a.lo.abs.mx a.hi.abs).x))⟩

set_option maxRecDepth 100000 in
set_option maxHeartbeats 4000000 in
theorem sneg_any (w : World) (s : SQ) (a : Sp) (E T : Nat) (h : RS w s a) (la : a.Lim E T) (hET : E + T ≤ 16000) :
    Calls Tryd.prog 85 #[.agg #[.bool s.lo.b, .slice s.lo.A s.lo.n s.lo.c, .int .i64 a.lo.x, .bool s.hi.b, .slice s.hi.A s.hi.n s.hi.c, .int .i64 a.hi.x]] w fun e w' => (∃ r : SQ, e = .returned (.agg #[.bool r.lo.b, .slice r.lo.A r.lo.n r.lo.c, .int .i64 a.neg.lo.x, .bool r.hi.b, .slice r.hi.A r.hi.n r.hi.c, .int .i64 a.neg.hi.x]) ∧ RS w' r a.neg) ∧ Below w.heap.size w w' := by
  have HA := Lib.hid h
  have LA := Lib.hid la
  clear h la
  have n0 := Lib.hid (LA.out.1.nb)
  have n1 := Lib.hid (LA.out.2.nb)
  have y0 : nb a.lo.z.natAbs ≤ 16384 := by have := n0.out; omega
  have y1 : nb a.hi.z.natAbs ≤ 16384 := by have := n1.out; omega
  have BX := Lib.hid (boxes2 w 62 #[.bool s.lo.b, .slice s.lo.A s.lo.n s.lo.c, .int .i64 a.lo.x, .bool s.hi.b, .slice s.hi.A s.hi.n s.hi.c, .int .i64 a.hi.x] 62 #[.bool false, .slice none 0 0, .int .i64 0, .bool false, .slice none 0 0, .int .i64 0])
  go_enter Tryd.func85, Tryd.ntmps85
  go_wp2_with fail
  generalize (w.alloc (.cells #[.bool s.lo.b, .slice s.lo.A s.lo.n s.lo.c, .int .i64 a.lo.x, .bool s.hi.b, .slice s.hi.A s.hi.n s.hi.c, .int .i64 a.hi.x] 62)).alloc (.cells #[.bool false, .slice none 0 0, .int .i64 0, .bool false, .slice none 0 0, .int .i64 0] 62) = w0 at *
  obtain ⟨b0, b1, hw⟩ := BX.out
  have Ba_0 := Lib.hid b0
  have Bo_0 := Lib.hid b1
  have HB_0 := Lib.hid hw
  have K := Dk.below (hw.mono (Nat.le_refl _))
  clear BX hw b0 b1
  have RA_1 := Lib.hid (HA.out.dk K)
  clear K HA
  have la := Ba_0.out.lt
  obtain ⟨ca0, ca1, ca2, ca3, ca4, ca5⟩ := Ba_0.out.cells6
  have lo := Bo_0.out.lt
  obtain ⟨co0, co1, co2, co3, co4, co5⟩ := Bo_0.out.cells6
  go_wp2_with fail
  obtain ⟨SX1, hS1⟩ : ∃ S : World → Prop, ∀ w', S w' ↔ (w'.cell? ⟨w.heap.size, 0, none⟩ = some (.bool s.lo.b) ∧ w'.cell? ⟨w.heap.size, 1, none⟩ = some (.slice s.lo.A s.lo.n s.lo.c) ∧ w'.cell? ⟨w.heap.size, 2, none⟩ = some (.int .i64 a.lo.x) ∧ w'.cell? ⟨w.heap.size, 3, none⟩ = some (.bool s.hi.b) ∧ w'.cell? ⟨w.heap.size, 4, none⟩ = some (.slice s.hi.A s.hi.n s.hi.c) ∧ w'.cell? ⟨w.heap.size, 5, none⟩ = some (.int .i64 a.hi.x)) := ⟨_, fun _ => Iff.rfl⟩
  have k_2 : SX1 (w0) := (hS1 _).2 ⟨Ba_0.out.cell 0 rfl, Ba_0.out.cell 1 rfl, Ba_0.out.cell 2 rfl, Ba_0.out.cell 3 rfl, Ba_0.out.cell 4 rfl, Ba_0.out.cell 5 rfl⟩
  have k_3 : SX1 (w0.drew) := (hS1 _).2 ⟨(Ba_0.out.drew).cell 0 rfl, (Ba_0.out.drew).cell 1 rfl, (Ba_0.out.drew).cell 2 rfl, (Ba_0.out.drew).cell 3 rfl, (Ba_0.out.drew).cell 4 rfl, (Ba_0.out.drew).cell 5 rfl⟩
  have tok_4 : True := trivial
  have tok_5 : True := trivial
  go_region_held3 (fun w' => w'.cell? ⟨w.heap.size, 0, none⟩ = some (.bool s.lo.b) ∧ w'.cell? ⟨w.heap.size, 1, none⟩ = some (.slice s.lo.A s.lo.n s.lo.c) ∧ w'.cell? ⟨w.heap.size, 2, none⟩ = some (.int .i64 a.lo.x) ∧ w'.cell? ⟨w.heap.size, 3, none⟩ = some (.bool s.hi.b) ∧ w'.cell? ⟨w.heap.size, 4, none⟩ = some (.slice s.hi.A s.hi.n s.hi.c) ∧ w'.cell? ⟨w.heap.size, 5, none⟩ = some (.int .i64 a.hi.x)) (first | with_reducible exact (hS1 _).1 k_2 | with_reducible exact (hS1 _).1 k_3 | with_reducible exact (hS1 _).1 k_11 | with_reducible exact (hS1 _).1 k_18 | with_reducible exact (hS1 _).1 k_19)
    (first
     | (have _ := tok_4; go_at_call 111; clear tok_4; refine (dneg_q _ s.hi a.hi (RA_1.out.dk ((Dk.refl _).drew)).2 y1).mono ?_; rintro e w1 ⟨⟨r, rfl, hr⟩, hb⟩; clear la ca0 ca1 ca2 ca3 ca4 ca5 lo co0 co1 co2 co3 co4 co5 k_2 k_3; have K := Dk.trans ((Dk.refl _).drew) (.below hb); have Ba_6 := Lib.hid (show Bk _ _ _ #[.bool s.lo.b, .slice s.lo.A s.lo.n s.lo.c, .int .i64 a.lo.x, .bool s.hi.b, .slice s.hi.A s.hi.n s.hi.c, .int .i64 a.hi.x] from (Ba_0.out.drew).below hb); have Bo_7 := Lib.hid (show Bk _ _ _ #[.bool false, .slice none 0 0, .int .i64 0, .bool false, .slice none 0 0, .int .i64 0] from (Bo_0.out.drew).below hb); have HB_8 := Lib.hid (below_tr (below_dr HB_0.out) hb); clear hb; have RA_9 := Lib.hid (RA_1.out.dk K); clear K Ba_0 Bo_0 HB_0 RA_1; have RX_10 := Lib.hid hr; clear hr; have la := Ba_6.out.lt; obtain ⟨ca0, ca1, ca2, ca3, ca4, ca5⟩ := Ba_6.out.cells6; have lo := Bo_7.out.lt; obtain ⟨co0, co1, co2, co3, co4, co5⟩ := Bo_7.out.cells6; have fo0 := Bo_7.out.free 0; have fo1 := Bo_7.out.free 1; have fo2 := Bo_7.out.free 2; have fo3 := Bo_7.out.free 3; have fo4 := Bo_7.out.free 4; have fo5 := Bo_7.out.free 5; have k_11 : SX1 (w1) := (hS1 _).2 ⟨Ba_6.out.cell 0 rfl, Ba_6.out.cell 1 rfl, Ba_6.out.cell 2 rfl, Ba_6.out.cell 3 rfl, Ba_6.out.cell 4 rfl, Ba_6.out.cell 5 rfl⟩)
     | (have _ := tok_5; go_at_call 111; clear tok_5; refine (dneg_q _ s.lo a.lo RA_9.out.1 y0).mono ?_; rintro e w2 ⟨⟨t, rfl, ht⟩, hb⟩; clear la ca0 ca1 ca2 ca3 ca4 ca5 lo co0 co1 co2 co3 co4 co5 fo0 fo1 fo2 fo3 fo4 fo5 k_11; have K := Dk.below hb; have Ba_12 := Lib.hid (show Bk _ _ _ #[.bool s.lo.b, .slice s.lo.A s.lo.n s.lo.c, .int .i64 a.lo.x, .bool s.hi.b, .slice s.hi.A s.hi.n s.hi.c, .int .i64 a.hi.x] from Ba_6.out.below hb); have Bo_13 := Lib.hid (show Bk _ _ _ #[.bool false, .slice none 0 0, .int .i64 0, .bool false, .slice none 0 0, .int .i64 0] from Bo_7.out.below hb); have HB_14 := Lib.hid (below_tr HB_8.out hb); clear hb; have RA_15 := Lib.hid (RA_9.out.dk K); have RX_16 := Lib.hid (RX_10.out.dk K); clear K Ba_6 Bo_7 HB_8 RA_9 RX_10; have RY_17 := Lib.hid ht; clear ht; have la := Ba_12.out.lt; obtain ⟨ca0, ca1, ca2, ca3, ca4, ca5⟩ := Ba_12.out.cells6; have lo := Bo_13.out.lt; obtain ⟨co0, co1, co2, co3, co4, co5⟩ := Bo_13.out.cells6; have fo0 := Bo_13.out.free 0; have fo1 := Bo_13.out.free 1; have fo2 := Bo_13.out.free 2; have fo3 := Bo_13.out.free 3; have fo4 := Bo_13.out.free 4; have fo5 := Bo_13.out.free 5; have k_18 : SX1 (w2) := (hS1 _).2 ⟨Ba_12.out.cell 0 rfl, Ba_12.out.cell 1 rfl, Ba_12.out.cell 2 rfl, Ba_12.out.cell 3 rfl, Ba_12.out.cell 4 rfl, Ba_12.out.cell 5 rfl⟩; have y0 := Ba_12.out.lt; have y1 := Bo_13.out.lt; have y2 := HB_14.out.size; have k_19 : SX1 ((((((w2.setCell ⟨w.heap.size + 1, 0, none⟩ (.bool r.b)).setCell ⟨w.heap.size + 1, 1, none⟩ (.slice r.A r.n r.c)).setCell ⟨w.heap.size + 1, 2, none⟩ (.int .i64 a.hi.x)).setCell ⟨w.heap.size + 1, 3, none⟩ (.bool t.b)).setCell ⟨w.heap.size + 1, 4, none⟩ (.slice t.A t.n t.c)).setCell ⟨w.heap.size + 1, 5, none⟩ (.int .i64 a.lo.x)) := (hS1 _).2 ⟨((((((Ba_12.out.ne (by omega) 0 (.bool r.b)).ne (by omega) 1 (.slice r.A r.n r.c)).ne (by omega) 2 (.int .i64 a.hi.x)).ne (by omega) 3 (.bool t.b)).ne (by omega) 4 (.slice t.A t.n t.c)).ne (by omega) 5 (.int .i64 a.lo.x)).cell 0 rfl, ((((((Ba_12.out.ne (by omega) 0 (.bool r.b)).ne (by omega) 1 (.slice r.A r.n r.c)).ne (by omega) 2 (.int .i64 a.hi.x)).ne (by omega) 3 (.bool t.b)).ne (by omega) 4 (.slice t.A t.n t.c)).ne (by omega) 5 (.int .i64 a.lo.x)).cell 1 rfl, ((((((Ba_12.out.ne (by omega) 0 (.bool r.b)).ne (by omega) 1 (.slice r.A r.n r.c)).ne (by omega) 2 (.int .i64 a.hi.x)).ne (by omega) 3 (.bool t.b)).ne (by omega) 4 (.slice t.A t.n t.c)).ne (by omega) 5 (.int .i64 a.lo.x)).cell 2 rfl, ((((((Ba_12.out.ne (by omega) 0 (.bool r.b)).ne (by omega) 1 (.slice r.A r.n r.c)).ne (by omega) 2 (.int .i64 a.hi.x)).ne (by omega) 3 (.bool t.b)).ne (by omega) 4 (.slice t.A t.n t.c)).ne (by omega) 5 (.int .i64 a.lo.x)).cell 3 rfl, ((((((Ba_12.out.ne (by omega) 0 (.bool r.b)).ne (by omega) 1 (.slice r.A r.n r.c)).ne (by omega) 2 (.int .i64 a.hi.x)).ne (by omega) 3 (.bool t.b)).ne (by omega) 4 (.slice t.A t.n t.c)).ne (by omega) 5 (.int .i64 a.lo.x)).cell 4 rfl, ((((((Ba_12.out.ne (by omega) 0 (.bool r.b)).ne (by omega) 1 (.slice r.A r.n r.c)).ne (by omega) 2 (.int .i64 a.hi.x)).ne (by omega) 3 (.bool t.b)).ne (by omega) 4 (.slice t.A t.n t.c)).ne (by omega) 5 (.int .i64 a.lo.x)).cell 5 rfl⟩; clear y0 y1 y2))
  go_wp2
  refine bodyPost_ret (v := .agg #[.bool r.b, .slice r.A r.n r.c, .int .i64 a.hi.x, .bool t.b, .slice t.A t.n t.c, .int .i64 a.lo.x]) ?_ rfl ?_
  · simp [results, Tryd.f85, go_sem, co0, co1, co2, co3, co4, co5]
  · have y0 := HB_14.out.size; exact ⟨⟨⟨r, t⟩, rfl, (RX_16.out.dk (((((((Dk.refl _).set (cs := #[.bool false, .slice none 0 0, .int .i64 0, .bool false, .slice none 0 0, .int .i64 0]) Bo_13.out 0 (by intro _ hh; cases hh) (.bool r.b)).set (cs := #[.bool r.b, .slice none 0 0, .int .i64 0, .bool false, .slice none 0 0, .int .i64 0]) (Bo_13.out.set 0 (.bool r.b)) 1 (by intro _ hh; cases hh) (.slice r.A r.n r.c)).set (cs := #[.bool r.b, .slice r.A r.n r.c, .int .i64 0, .bool false, .slice none 0 0, .int .i64 0]) ((Bo_13.out.set 0 (.bool r.b)).set 1 (.slice r.A r.n r.c)) 2 (by intro _ hh; cases hh) (.int .i64 a.hi.x)).set (cs := #[.bool r.b, .slice r.A r.n r.c, .int .i64 a.hi.x, .bool false, .slice none 0 0, .int .i64 0]) (((Bo_13.out.set 0 (.bool r.b)).set 1 (.slice r.A r.n r.c)).set 2 (.int .i64 a.hi.x)) 3 (by intro _ hh; cases hh) (.bool t.b)).set (cs := #[.bool r.b, .slice r.A r.n r.c, .int .i64 a.hi.x, .bool t.b, .slice none 0 0, .int .i64 0]) ((((Bo_13.out.set 0 (.bool r.b)).set 1 (.slice r.A r.n r.c)).set 2 (.int .i64 a.hi.x)).set 3 (.bool t.b)) 4 (by intro _ hh; cases hh) (.slice t.A t.n t.c)).set (cs := #[.bool r.b, .slice r.A r.n r.c, .int .i64 a.hi.x, .bool t.b, .slice t.A t.n t.c, .int .i64 0]) (((((Bo_13.out.set 0 (.bool r.b)).set 1 (.slice r.A r.n r.c)).set 2 (.int .i64 a.hi.x)).set 3 (.bool t.b)).set 4 (.slice t.A t.n t.c)) 5 (by intro _ hh; cases hh) (.int .i64 a.lo.x))), (RY_17.out.dk (((((((Dk.refl _).set (cs := #[.bool false, .slice none 0 0, .int .i64 0, .bool false, .slice none 0 0, .int .i64 0]) Bo_13.out 0 (by intro _ hh; cases hh) (.bool r.b)).set (cs := #[.bool r.b, .slice none 0 0, .int .i64 0, .bool false, .slice none 0 0, .int .i64 0]) (Bo_13.out.set 0 (.bool r.b)) 1 (by intro _ hh; cases hh) (.slice r.A r.n r.c)).set (cs := #[.bool r.b, .slice r.A r.n r.c, .int .i64 0, .bool false, .slice none 0 0, .int .i64 0]) ((Bo_13.out.set 0 (.bool r.b)).set 1 (.slice r.A r.n r.c)) 2 (by intro _ hh; cases hh) (.int .i64 a.hi.x)).set (cs := #[.bool r.b, .slice r.A r.n r.c, .int .i64 a.hi.x, .bool false, .slice none 0 0, .int .i64 0]) (((Bo_13.out.set 0 (.bool r.b)).set 1 (.slice r.A r.n r.c)).set 2 (.int .i64 a.hi.x)) 3 (by intro _ hh; cases hh) (.bool t.b)).set (cs := #[.bool r.b, .slice r.A r.n r.c, .int .i64 a.hi.x, .bool t.b, .slice none 0 0, .int .i64 0]) ((((Bo_13.out.set 0 (.bool r.b)).set 1 (.slice r.A r.n r.c)).set 2 (.int .i64 a.hi.x)).set 3 (.bool t.b)) 4 (by intro _ hh; cases hh) (.slice t.A t.n t.c)).set (cs := #[.bool r.b, .slice r.A r.n r.c, .int .i64 a.hi.x, .bool t.b, .slice t.A t.n t.c, .int .i64 0]) (((((Bo_13.out.set 0 (.bool r.b)).set 1 (.slice r.A r.n r.c)).set 2 (.int .i64 a.hi.x)).set 3 (.bool t.b)).set 4 (.slice t.A t.n t.c)) 5 (by intro _ hh; cases hh) (.int .i64 a.lo.x)))⟩, (below_st (below_st (below_st (below_st (below_st (below_st HB_14.out 0 (by omega) (.bool r.b)) 1 (by omega) (.slice r.A r.n r.c)) 2 (by omega) (.int .i64 a.hi.x)) 3 (by omega) (.bool t.b)) 4 (by omega) (.slice t.A t.n t.c)) 5 (by omega) (.int .i64 a.lo.x))⟩

set_option maxRecDepth 100000 in
set_option maxHeartbeats 4000000 in
theorem seven_any (w : World) (p : Q) (a : D) (h : RD w p a) (hz : nb a.z.natAbs ≤ 16384) :
    Calls Tryd.prog 120 #[.agg #[.bool p.b, .slice p.A p.n p.c, .int .i64 a.x]] w fun e w' => (∃ r : SQ, e = .returned (.agg #[.bool r.lo.b, .slice r.lo.A r.lo.n r.lo.c, .int .i64 (Sp.even a).lo.x, .bool r.hi.b, .slice r.hi.A r.hi.n r.hi.c, .int .i64 (Sp.even a).hi.x]) ∧ RS w' r (Sp.even a)) ∧ Below w.heap.size w w' := by
  have HA := Lib.hid h
  clear h
  have y0 : nb a.z.natAbs ≤ 16384 := hz
  have y1 : nb a.abs.z.natAbs ≤ 16384 := by unfold D.abs; simp only [Int.natAbs_natCast]; exact hz
  clear hz
  have BX := Lib.hid (boxes2 w 53 #[.bool p.b, .slice p.A p.n p.c, .int .i64 a.x] 62 #[.bool false, .slice none 0 0, .int .i64 0, .bool false, .slice none 0 0, .int .i64 0])
  go_enter Tryd.func120, Tryd.ntmps120
  go_wp2_with fail
  generalize (w.alloc (.cells #[.bool p.b, .slice p.A p.n p.c, .int .i64 a.x] 53)).alloc (.cells #[.bool false, .slice none 0 0, .int .i64 0, .bool false, .slice none 0 0, .int .i64 0] 62) = w0 at *
  obtain ⟨b0, b1, hw⟩ := BX.out
  have Ba_0 := Lib.hid b0
  have Bo_0 := Lib.hid b1
  have HB_0 := Lib.hid hw
  have K := Dk.below (hw.mono (Nat.le_refl _))
  clear BX hw b0 b1
  have RA_1 := Lib.hid (HA.out.dk K)
  clear K HA
  have la := Ba_0.out.lt
  obtain ⟨ca0, ca1, ca2⟩ := Ba_0.out.cells3
  have lo := Bo_0.out.lt
  obtain ⟨co0, co1, co2, co3, co4, co5⟩ := Bo_0.out.cells6
  go_wp2_with fail
  refine (dabs_any _ p a RA_1.out y0).mono ?_
  rintro e w1 ⟨⟨r, rfl, hr⟩, hb⟩
  clear la ca0 ca1 ca2 lo co0 co1 co2 co3 co4 co5
  have K := Dk.below hb
  have Ba_2 := Lib.hid (show Bk _ _ _ #[.bool p.b, .slice p.A p.n p.c, .int .i64 a.x] from Ba_0.out.below hb)
  have Bo_3 := Lib.hid (show Bk _ _ _ #[.bool false, .slice none 0 0, .int .i64 0, .bool false, .slice none 0 0, .int .i64 0] from Bo_0.out.below hb)
  have HB_4 := Lib.hid (below_tr HB_0.out hb)
  clear hb
  have RA_5 := Lib.hid (RA_1.out.dk K)
  clear K Ba_0 Bo_0 HB_0 RA_1
  have RX_6 := Lib.hid hr
  clear hr
  have la := Ba_2.out.lt
  obtain ⟨ca0, ca1, ca2⟩ := Ba_2.out.cells3
  have fa0 := Ba_2.out.free 0
  have fa1 := Ba_2.out.free 1
  have fa2 := Ba_2.out.free 2
  have lo := Bo_3.out.lt
  obtain ⟨co0, co1, co2, co3, co4, co5⟩ := Bo_3.out.cells6
  go_wp2_with fail
  clear la ca0 ca1 ca2 fa0 fa1 fa2 lo co0 co1 co2 co3 co4 co5
  have K : Dk w1 (((w1.setCell ⟨w.heap.size, 0, none⟩ (.bool r.b)).setCell ⟨w.heap.size, 1, none⟩ (.slice r.A r.n r.c)).setCell ⟨w.heap.size, 2, none⟩ (.int .i64 a.abs.x)) := ((((Dk.refl _).set (cs := #[.bool p.b, .slice p.A p.n p.c, .int .i64 a.x]) Ba_2.out 0 (by intro _ hh; cases hh) (.bool r.b)).set (cs := #[.bool r.b, .slice p.A p.n p.c, .int .i64 a.x]) (Ba_2.out.set 0 (.bool r.b)) 1 (by intro _ hh; cases hh) (.slice r.A r.n r.c)).set (cs := #[.bool r.b, .slice r.A r.n r.c, .int .i64 a.x]) ((Ba_2.out.set 0 (.bool r.b)).set 1 (.slice r.A r.n r.c)) 2 (by intro _ hh; cases hh) (.int .i64 a.abs.x))
  have Ba_7 := Lib.hid (show Bk (((w1.setCell ⟨w.heap.size, 0, none⟩ (.bool r.b)).setCell ⟨w.heap.size, 1, none⟩ (.slice r.A r.n r.c)).setCell ⟨w.heap.size, 2, none⟩ (.int .i64 a.abs.x)) (w.heap.size) 53 #[.bool r.b, .slice r.A r.n r.c, .int .i64 a.abs.x] from (((Ba_2.out.set 0 (.bool r.b)).set 1 (.slice r.A r.n r.c)).set 2 (.int .i64 a.abs.x)))
  have y0 := Ba_2.out.lt; have y1 := Bo_3.out.lt; have y2 := HB_4.out.size; have Bo_8 := Lib.hid (show Bk (((w1.setCell ⟨w.heap.size, 0, none⟩ (.bool r.b)).setCell ⟨w.heap.size, 1, none⟩ (.slice r.A r.n r.c)).setCell ⟨w.heap.size, 2, none⟩ (.int .i64 a.abs.x)) (w.heap.size + 1) 62 #[.bool false, .slice none 0 0, .int .i64 0, .bool false, .slice none 0 0, .int .i64 0] from (((Bo_3.out.ne (by omega) 0 (.bool r.b)).ne (by omega) 1 (.slice r.A r.n r.c)).ne (by omega) 2 (.int .i64 a.abs.x))); clear y0 y1 y2
  have y0 := HB_4.out.size; have HB_9 := Lib.hid (show Below w.heap.size w (((w1.setCell ⟨w.heap.size, 0, none⟩ (.bool r.b)).setCell ⟨w.heap.size, 1, none⟩ (.slice r.A r.n r.c)).setCell ⟨w.heap.size, 2, none⟩ (.int .i64 a.abs.x)) from (below_st (below_st (below_st HB_4.out 0 (by omega) (.bool r.b)) 1 (by omega) (.slice r.A r.n r.c)) 2 (by omega) (.int .i64 a.abs.x))); clear y0
  have RA_10 := Lib.hid (RA_5.out.dk K)
  have RX_11 := Lib.hid (RX_6.out.dk K)
  clear K Ba_2 Bo_3 HB_4 RA_5 RX_6
  generalize ((w1.setCell ⟨w.heap.size, 0, none⟩ (.bool r.b)).setCell ⟨w.heap.size, 1, none⟩ (.slice r.A r.n r.c)).setCell ⟨w.heap.size, 2, none⟩ (.int .i64 a.abs.x) = w2 at *
  have la := Ba_7.out.lt
  obtain ⟨ca0, ca1, ca2⟩ := Ba_7.out.cells3
  have lo := Bo_8.out.lt
  obtain ⟨co0, co1, co2, co3, co4, co5⟩ := Bo_8.out.cells6
  go_wp2_with fail
  obtain ⟨SX1, hS1⟩ : ∃ S : World → Prop, ∀ w', S w' ↔ (w'.cell? ⟨w.heap.size, 0, none⟩ = some (.bool r.b) ∧ w'.cell? ⟨w.heap.size, 1, none⟩ = some (.slice r.A r.n r.c) ∧ w'.cell? ⟨w.heap.size, 2, none⟩ = some (.int .i64 a.abs.x)) := ⟨_, fun _ => Iff.rfl⟩
  have k_12 : SX1 (w2) := (hS1 _).2 ⟨Ba_7.out.cell 0 rfl, Ba_7.out.cell 1 rfl, Ba_7.out.cell 2 rfl⟩
  have k_13 : SX1 (w2.drew) := (hS1 _).2 ⟨(Ba_7.out.drew).cell 0 rfl, (Ba_7.out.drew).cell 1 rfl, (Ba_7.out.drew).cell 2 rfl⟩
  have tok_14 : True := trivial
  go_region_held3 (fun w' => w'.cell? ⟨w.heap.size, 0, none⟩ = some (.bool r.b) ∧ w'.cell? ⟨w.heap.size, 1, none⟩ = some (.slice r.A r.n r.c) ∧ w'.cell? ⟨w.heap.size, 2, none⟩ = some (.int .i64 a.abs.x)) (first | with_reducible exact (hS1 _).1 k_12 | with_reducible exact (hS1 _).1 k_13 | with_reducible exact (hS1 _).1 k_21 | with_reducible exact (hS1 _).1 k_22)
    (first
     | (have _ := tok_14; go_at_call 111; clear tok_14; refine (dneg_q _ r a.abs (RX_11.out.dk ((Dk.refl _).drew)) y1).mono ?_; rintro e w3 ⟨⟨t, rfl, ht⟩, hb⟩; clear la ca0 ca1 ca2 lo co0 co1 co2 co3 co4 co5 k_12 k_13; have K := Dk.trans ((Dk.refl _).drew) (.below hb); have Ba_15 := Lib.hid (show Bk _ _ _ #[.bool r.b, .slice r.A r.n r.c, .int .i64 a.abs.x] from (Ba_7.out.drew).below hb); have Bo_16 := Lib.hid (show Bk _ _ _ #[.bool false, .slice none 0 0, .int .i64 0, .bool false, .slice none 0 0, .int .i64 0] from (Bo_8.out.drew).below hb); have HB_17 := Lib.hid (below_tr (below_dr HB_9.out) hb); clear hb; have RA_18 := Lib.hid (RA_10.out.dk K); have RX_19 := Lib.hid (RX_11.out.dk K); clear K Ba_7 Bo_8 HB_9 RA_10 RX_11; have RY_20 := Lib.hid ht; clear ht; have la := Ba_15.out.lt; obtain ⟨ca0, ca1, ca2⟩ := Ba_15.out.cells3; have lo := Bo_16.out.lt; obtain ⟨co0, co1, co2, co3, co4, co5⟩ := Bo_16.out.cells6; have fo0 := Bo_16.out.free 0; have fo1 := Bo_16.out.free 1; have fo2 := Bo_16.out.free 2; have fo3 := Bo_16.out.free 3; have fo4 := Bo_16.out.free 4; have fo5 := Bo_16.out.free 5; have k_21 : SX1 (w3) := (hS1 _).2 ⟨Ba_15.out.cell 0 rfl, Ba_15.out.cell 1 rfl, Ba_15.out.cell 2 rfl⟩; have y0 := Ba_15.out.lt; have y1 := Bo_16.out.lt; have y2 := HB_17.out.size; have k_22 : SX1 ((((((w3.setCell ⟨w.heap.size + 1, 0, none⟩ (.bool t.b)).setCell ⟨w.heap.size + 1, 1, none⟩ (.slice t.A t.n t.c)).setCell ⟨w.heap.size + 1, 2, none⟩ (.int .i64 a.abs.x)).setCell ⟨w.heap.size + 1, 3, none⟩ (.bool r.b)).setCell ⟨w.heap.size + 1, 4, none⟩ (.slice r.A r.n r.c)).setCell ⟨w.heap.size + 1, 5, none⟩ (.int .i64 a.abs.x)) := (hS1 _).2 ⟨((((((Ba_15.out.ne (by omega) 0 (.bool t.b)).ne (by omega) 1 (.slice t.A t.n t.c)).ne (by omega) 2 (.int .i64 a.abs.x)).ne (by omega) 3 (.bool r.b)).ne (by omega) 4 (.slice r.A r.n r.c)).ne (by omega) 5 (.int .i64 a.abs.x)).cell 0 rfl, ((((((Ba_15.out.ne (by omega) 0 (.bool t.b)).ne (by omega) 1 (.slice t.A t.n t.c)).ne (by omega) 2 (.int .i64 a.abs.x)).ne (by omega) 3 (.bool r.b)).ne (by omega) 4 (.slice r.A r.n r.c)).ne (by omega) 5 (.int .i64 a.abs.x)).cell 1 rfl, ((((((Ba_15.out.ne (by omega) 0 (.bool t.b)).ne (by omega) 1 (.slice t.A t.n t.c)).ne (by omega) 2 (.int .i64 a.abs.x)).ne (by omega) 3 (.bool r.b)).ne (by omega) 4 (.slice r.A r.n r.c)).ne (by omega) 5 (.int .i64 a.abs.x)).cell 2 rfl⟩; clear y0 y1 y2))
  go_wp2
  refine bodyPost_ret (v := .agg #[.bool t.b, .slice t.A t.n t.c, .int .i64 a.abs.x, .bool r.b, .slice r.A r.n r.c, .int .i64 a.abs.x]) ?_ rfl ?_
  · simp [results, Tryd.f120, go_sem, co0, co1, co2, co3, co4, co5]
  · have y0 := HB_17.out.size; exact ⟨⟨⟨t, r⟩, rfl, (RY_20.out.dk (((((((Dk.refl _).set (cs := #[.bool false, .slice none 0 0, .int .i64 0, .bool false, .slice none 0 0, .int .i64 0]) Bo_16.out 0 (by intro _ hh; cases hh) (.bool t.b)).set (cs := #[.bool t.b, .slice none 0 0, .int .i64 0, .bool false, .slice none 0 0, .int .i64 0]) (Bo_16.out.set 0 (.bool t.b)) 1 (by intro _ hh; cases hh) (.slice t.A t.n t.c)).set (cs := #[.bool t.b, .slice t.A t.n t.c, .int .i64 0, .bool false, .slice none 0 0, .int .i64 0]) ((Bo_16.out.set 0 (.bool t.b)).set 1 (.slice t.A t.n t.c)) 2 (by intro _ hh; cases hh) (.int .i64 a.abs.x)).set (cs := #[.bool t.b, .slice t.A t.n t.c, .int .i64 a.abs.x, .bool false, .slice none 0 0, .int .i64 0]) (((Bo_16.out.set 0 (.bool t.b)).set 1 (.slice t.A t.n t.c)).set 2 (.int .i64 a.abs.x)) 3 (by intro _ hh; cases hh) (.bool r.b)).set (cs := #[.bool t.b, .slice t.A t.n t.c, .int .i64 a.abs.x, .bool r.b, .slice none 0 0, .int .i64 0]) ((((Bo_16.out.set 0 (.bool t.b)).set 1 (.slice t.A t.n t.c)).set 2 (.int .i64 a.abs.x)).set 3 (.bool r.b)) 4 (by intro _ hh; cases hh) (.slice r.A r.n r.c)).set (cs := #[.bool t.b, .slice t.A t.n t.c, .int .i64 a.abs.x, .bool r.b, .slice r.A r.n r.c, .int .i64 0]) (((((Bo_16.out.set 0 (.bool t.b)).set 1 (.slice t.A t.n t.c)).set 2 (.int .i64 a.abs.x)).set 3 (.bool r.b)).set 4 (.slice r.A r.n r.c)) 5 (by intro _ hh; cases hh) (.int .i64 a.abs.x))), (RX_19.out.dk (((((((Dk.refl _).set (cs := #[.bool false, .slice none 0 0, .int .i64 0, .bool false, .slice none 0 0, .int .i64 0]) Bo_16.out 0 (by intro _ hh; cases hh) (.bool t.b)).set (cs := #[.bool t.b, .slice none 0 0, .int .i64 0, .bool false, .slice none 0 0, .int .i64 0]) (Bo_16.out.set 0 (.bool t.b)) 1 (by intro _ hh; cases hh) (.slice t.A t.n t.c)).set (cs := #[.bool t.b, .slice t.A t.n t.c, .int .i64 0, .bool false, .slice none 0 0, .int .i64 0]) ((Bo_16.out.set 0 (.bool t.b)).set 1 (.slice t.A t.n t.c)) 2 (by intro _ hh; cases hh) (.int .i64 a.abs.x)).set (cs := #[.bool t.b, .slice t.A t.n t.c, .int .i64 a.abs.x, .bool false, .slice none 0 0, .int .i64 0]) (((Bo_16.out.set 0 (.bool t.b)).set 1 (.slice t.A t.n t.c)).set 2 (.int .i64 a.abs.x)) 3 (by intro _ hh; cases hh) (.bool r.b)).set (cs := #[.bool t.b, .slice t.A t.n t.c, .int .i64 a.abs.x, .bool r.b, .slice none 0 0, .int .i64 0]) ((((Bo_16.out.set 0 (.bool t.b)).set 1 (.slice t.A t.n t.c)).set 2 (.int .i64 a.abs.x)).set 3 (.bool r.b)) 4 (by intro _ hh; cases hh) (.slice r.A r.n r.c)).set (cs := #[.bool t.b, .slice t.A t.n t.c, .int .i64 a.abs.x, .bool r.b, .slice r.A r.n r.c, .int .i64 0]) (((((Bo_16.out.set 0 (.bool t.b)).set 1 (.slice t.A t.n t.c)).set 2 (.int .i64 a.abs.x)).set 3 (.bool r.b)).set 4 (.slice r.A r.n r.c)) 5 (by intro _ hh; cases hh) (.int .i64 a.abs.x)))⟩, (below_st (below_st (below_st (below_st (below_st (below_st HB_17.out 0 (by omega) (.bool t.b)) 1 (by omega) (.slice t.A t.n t.c)) 2 (by omega) (.int .i64 a.abs.x)) 3 (by omega) (.bool r.b)) 4 (by omega) (.slice r.A r.n r.c)) 5 (by omega) (.int .i64 a.abs.x))⟩

end Go.Proofs.YtgioppkggpfnoaaDoor.Nu
end

section
/- The walks of span.Add, Sub. -/
set_option linter.unusedVariables false
namespace Go.Proofs.YtgioppkggpfnoaaDoor.Nu
open Go.RowKit Go.Proofs

set_option maxRecDepth 100000 in
set_option maxHeartbeats 4000000 in
theorem sadd_any (w : World) (s t : SQ) (a b : Sp) (bits : Nat) (E T : Nat) (h : RS w s a) (h2 : RS w t b) (la : a.Lim E T) (lb : b.Lim E T) (hET : E + T + 1 ≤ 16000) (hb2 : 2 ≤ bits) (hb3 : bits ≤ 4096) (ht : BTab w) :
    Calls Tryd.prog 38 #[.agg #[.bool s.lo.b, .slice s.lo.A s.lo.n s.lo.c, .int .i64 a.lo.x, .bool s.hi.b, .slice s.hi.A s.hi.n s.hi.c, .int .i64 a.hi.x], .agg #[.bool t.lo.b, .slice t.lo.A t.lo.n t.lo.c, .int .i64 b.lo.x, .bool t.hi.b, .slice t.hi.A t.hi.n t.hi.c, .int .i64 b.hi.x], .int .i64 bits] w fun e w' => (∃ r : SQ, e = .returned (.tuple #[.agg #[.bool r.lo.b, .slice r.lo.A r.lo.n r.lo.c, .int .i64 (a.add b bits).lo.x, .bool r.hi.b, .slice r.hi.A r.hi.n r.hi.c, .int .i64 (a.add b bits).hi.x], .int .i64 0]) ∧ RS w' r (a.add b bits)) ∧ Below w.heap.size w w' := by
  have HA := Lib.hid h
  have HB := Lib.hid h2
  have LA := Lib.hid la
  have LB := Lib.hid lb
  clear h h2 la lb
  have HT := Lib.hid ht
  clear ht
  unfold Sp.add
  have BX := Lib.hid (boxes3 w 62 #[.bool s.lo.b, .slice s.lo.A s.lo.n s.lo.c, .int .i64 a.lo.x, .bool s.hi.b, .slice s.hi.A s.hi.n s.hi.c, .int .i64 a.hi.x] 62 #[.bool t.lo.b, .slice t.lo.A t.lo.n t.lo.c, .int .i64 b.lo.x, .bool t.hi.b, .slice t.hi.A t.hi.n t.hi.c, .int .i64 b.hi.x] 62 #[.bool false, .slice none 0 0, .int .i64 0, .bool false, .slice none 0 0, .int .i64 0])
  go_enter Tryd.func38, Tryd.ntmps38
  go_wp2_with fail
  generalize ((w.alloc (.cells #[.bool s.lo.b, .slice s.lo.A s.lo.n s.lo.c, .int .i64 a.lo.x, .bool s.hi.b, .slice s.hi.A s.hi.n s.hi.c, .int .i64 a.hi.x] 62)).alloc (.cells #[.bool t.lo.b, .slice t.lo.A t.lo.n t.lo.c, .int .i64 b.lo.x, .bool t.hi.b, .slice t.hi.A t.hi.n t.hi.c, .int .i64 b.hi.x] 62)).alloc (.cells #[.bool false, .slice none 0 0, .int .i64 0, .bool false, .slice none 0 0, .int .i64 0] 62) = w0 at *
  obtain ⟨b0, b1, b2, hw⟩ := BX.out
  have Ba_0 := Lib.hid b0
  have Bb_0 := Lib.hid b1
  have Bo_0 := Lib.hid b2
  have HB_0 := Lib.hid hw
  have K := Dk.below (hw.mono (Nat.le_refl _))
  clear BX hw b0 b1 b2
  have RA_1 := Lib.hid (HA.out.dk K)
  have RB_2 := Lib.hid (HB.out.dk K)
  clear K HA HB
  have la := Ba_0.out.lt
  obtain ⟨ca0, ca1, ca2, ca3, ca4, ca5⟩ := Ba_0.out.cells6
  have lb := Bb_0.out.lt
  obtain ⟨cb0, cb1, cb2, cb3, cb4, cb5⟩ := Bb_0.out.cells6
  have lo := Bo_0.out.lt
  obtain ⟨co0, co1, co2, co3, co4, co5⟩ := Bo_0.out.cells6
  go_wp2_with fail
  refine (dadd_any _ s.lo t.lo a.lo b.lo E T RA_1.out.1 RB_2.out.1 LA.out.1 LB.out.1 (by omega) (HT.out.below HB_0.out)).mono ?_
  rintro e w1 ⟨⟨p, rfl, hp⟩, hb⟩
  clear la ca0 ca1 ca2 ca3 ca4 ca5 lb cb0 cb1 cb2 cb3 cb4 cb5 lo co0 co1 co2 co3 co4 co5
  have K := Dk.below hb
  have Ba_3 := Lib.hid (show Bk _ _ _ #[.bool s.lo.b, .slice s.lo.A s.lo.n s.lo.c, .int .i64 a.lo.x, .bool s.hi.b, .slice s.hi.A s.hi.n s.hi.c, .int .i64 a.hi.x] from Ba_0.out.below hb)
  have Bb_4 := Lib.hid (show Bk _ _ _ #[.bool t.lo.b, .slice t.lo.A t.lo.n t.lo.c, .int .i64 b.lo.x, .bool t.hi.b, .slice t.hi.A t.hi.n t.hi.c, .int .i64 b.hi.x] from Bb_0.out.below hb)
  have Bo_5 := Lib.hid (show Bk _ _ _ #[.bool false, .slice none 0 0, .int .i64 0, .bool false, .slice none 0 0, .int .i64 0] from Bo_0.out.below hb)
  have HB_6 := Lib.hid (below_tr HB_0.out hb)
  clear hb
  have RA_7 := Lib.hid (RA_1.out.dk K)
  have RB_8 := Lib.hid (RB_2.out.dk K)
  clear K Ba_0 Bb_0 Bo_0 HB_0 RA_1 RB_2
  have RX_9 := Lib.hid hp
  clear hp
  have la := Ba_3.out.lt
  obtain ⟨ca0, ca1, ca2, ca3, ca4, ca5⟩ := Ba_3.out.cells6
  have lb := Bb_4.out.lt
  obtain ⟨cb0, cb1, cb2, cb3, cb4, cb5⟩ := Bb_4.out.cells6
  have lo := Bo_5.out.lt
  obtain ⟨co0, co1, co2, co3, co4, co5⟩ := Bo_5.out.cells6
  have n_10 := Ba_3.out.lt
  have n_11 := Bb_4.out.lt
  have n_12 := Bo_5.out.lt
  go_wp2_with fail
  refine (dadd_any _ s.hi t.hi a.hi b.hi E T (RA_7.out.dk ((Dk.refl _).alloc _)).2 (RB_8.out.dk ((Dk.refl _).alloc _)).2 LA.out.2 LB.out.2 (by omega) (HT.out.below (below_al HB_6.out _))).mono ?_
  rintro e w2 ⟨⟨q, rfl, hq⟩, hb⟩
  clear la ca0 ca1 ca2 ca3 ca4 ca5 lb cb0 cb1 cb2 cb3 cb4 cb5 lo co0 co1 co2 co3 co4 co5
  have K := Dk.trans ((Dk.refl _).alloc _) (.below hb)
  have Ba_13 := Lib.hid (show Bk _ _ _ #[.bool s.lo.b, .slice s.lo.A s.lo.n s.lo.c, .int .i64 a.lo.x, .bool s.hi.b, .slice s.hi.A s.hi.n s.hi.c, .int .i64 a.hi.x] from (Ba_3.out.alloc _).below hb)
  have Bb_14 := Lib.hid (show Bk _ _ _ #[.bool t.lo.b, .slice t.lo.A t.lo.n t.lo.c, .int .i64 b.lo.x, .bool t.hi.b, .slice t.hi.A t.hi.n t.hi.c, .int .i64 b.hi.x] from (Bb_4.out.alloc _).below hb)
  have Bo_15 := Lib.hid (show Bk _ _ _ #[.bool false, .slice none 0 0, .int .i64 0, .bool false, .slice none 0 0, .int .i64 0] from (Bo_5.out.alloc _).below hb)
  have Bl_16 := Lib.hid (show Bk _ _ _ #[.bool p.b, .slice p.A p.n p.c, .int .i64 (a.lo.add b.lo).x] from (Bk.new _ 53 #[.bool p.b, .slice p.A p.n p.c, .int .i64 (a.lo.add b.lo).x]).below hb)
  have HB_17 := Lib.hid (below_tr (below_al HB_6.out _) hb)
  clear hb
  have RA_18 := Lib.hid (RA_7.out.dk K)
  have RB_19 := Lib.hid (RB_8.out.dk K)
  have RX_20 := Lib.hid (RX_9.out.dk K)
  clear K Ba_3 Bb_4 Bo_5 HB_6 RA_7 RB_8 RX_9
  have RY_21 := Lib.hid hq
  clear hq
  have la := Ba_13.out.lt
  obtain ⟨ca0, ca1, ca2, ca3, ca4, ca5⟩ := Ba_13.out.cells6
  have lb := Bb_14.out.lt
  obtain ⟨cb0, cb1, cb2, cb3, cb4, cb5⟩ := Bb_14.out.cells6
  have lo := Bo_15.out.lt
  obtain ⟨co0, co1, co2, co3, co4, co5⟩ := Bo_15.out.cells6
  have ll := Bl_16.out.lt
  obtain ⟨cl0, cl1, cl2⟩ := Bl_16.out.cells3
  have n_22 := Ba_13.out.lt
  have n_23 := Bb_14.out.lt
  have n_24 := Bo_15.out.lt
  have n_25 := Bl_16.out.lt
  go_wp2_with fail
  refine (sout_any _ p q (a.lo.add b.lo) (a.hi.add b.hi) bits E (T + 1) (RX_20.out.dk ((Dk.refl _).alloc _)) (RY_21.out.dk ((Dk.refl _).alloc _)) (add_lim LA.out.1 LB.out.1) (add_lim LA.out.2 LB.out.2) (by omega) hb2 hb3 (HT.out.below (below_al HB_17.out _))).mono ?_
  rintro e w3 ⟨⟨r, rfl, hr⟩, hb⟩
  clear la ca0 ca1 ca2 ca3 ca4 ca5 lb cb0 cb1 cb2 cb3 cb4 cb5 lo co0 co1 co2 co3 co4 co5 ll cl0 cl1 cl2
  have K := Dk.trans ((Dk.refl _).alloc _) (.below hb)
  have Ba_26 := Lib.hid (show Bk _ _ _ #[.bool s.lo.b, .slice s.lo.A s.lo.n s.lo.c, .int .i64 a.lo.x, .bool s.hi.b, .slice s.hi.A s.hi.n s.hi.c, .int .i64 a.hi.x] from (Ba_13.out.alloc _).below hb)
  have Bb_27 := Lib.hid (show Bk _ _ _ #[.bool t.lo.b, .slice t.lo.A t.lo.n t.lo.c, .int .i64 b.lo.x, .bool t.hi.b, .slice t.hi.A t.hi.n t.hi.c, .int .i64 b.hi.x] from (Bb_14.out.alloc _).below hb)
  have Bo_28 := Lib.hid (show Bk _ _ _ #[.bool false, .slice none 0 0, .int .i64 0, .bool false, .slice none 0 0, .int .i64 0] from (Bo_15.out.alloc _).below hb)
  have Bl_29 := Lib.hid (show Bk _ _ _ #[.bool p.b, .slice p.A p.n p.c, .int .i64 (a.lo.add b.lo).x] from (Bl_16.out.alloc _).below hb)
  have Bh_30 := Lib.hid (show Bk _ _ _ #[.bool q.b, .slice q.A q.n q.c, .int .i64 (a.hi.add b.hi).x] from (Bk.new _ 53 #[.bool q.b, .slice q.A q.n q.c, .int .i64 (a.hi.add b.hi).x]).below hb)
  have HB_31 := Lib.hid (below_tr (below_al HB_17.out _) hb)
  clear hb
  have RA_32 := Lib.hid (RA_18.out.dk K)
  have RB_33 := Lib.hid (RB_19.out.dk K)
  have RX_34 := Lib.hid (RX_20.out.dk K)
  have RY_35 := Lib.hid (RY_21.out.dk K)
  clear K Ba_13 Bb_14 Bo_15 Bl_16 HB_17 RA_18 RB_19 RX_20 RY_21
  have RZ_36 := Lib.hid hr
  clear hr
  have la := Ba_26.out.lt
  obtain ⟨ca0, ca1, ca2, ca3, ca4, ca5⟩ := Ba_26.out.cells6
  have lb := Bb_27.out.lt
  obtain ⟨cb0, cb1, cb2, cb3, cb4, cb5⟩ := Bb_27.out.cells6
  have lo := Bo_28.out.lt
  obtain ⟨co0, co1, co2, co3, co4, co5⟩ := Bo_28.out.cells6
  have fo0 := Bo_28.out.free 0
  have fo1 := Bo_28.out.free 1
  have fo2 := Bo_28.out.free 2
  have fo3 := Bo_28.out.free 3
  have fo4 := Bo_28.out.free 4
  have fo5 := Bo_28.out.free 5
  have ll := Bl_29.out.lt
  obtain ⟨cl0, cl1, cl2⟩ := Bl_29.out.cells3
  have lh := Bh_30.out.lt
  obtain ⟨ch0, ch1, ch2⟩ := Bh_30.out.cells3
  go_wp2
  refine bodyPost_ret (v := .tuple #[.agg #[.bool r.lo.b, .slice r.lo.A r.lo.n r.lo.c, .int .i64 (Sp.out (a.lo.add b.lo) (a.hi.add b.hi) bits).lo.x, .bool r.hi.b, .slice r.hi.A r.hi.n r.hi.c, .int .i64 (Sp.out (a.lo.add b.lo) (a.hi.add b.hi) bits).hi.x], .int .i64 0]) ?_ rfl ?_
  · simp [results, Tryd.f38, go_sem, co0, co1, co2, co3, co4, co5]
  · have y0 := HB_31.out.size; exact ⟨⟨r, rfl, (RZ_36.out.dk (((((((Dk.refl _).set (cs := #[.bool false, .slice none 0 0, .int .i64 0, .bool false, .slice none 0 0, .int .i64 0]) Bo_28.out 0 (by intro _ hh; cases hh) (.bool r.lo.b)).set (cs := #[.bool r.lo.b, .slice none 0 0, .int .i64 0, .bool false, .slice none 0 0, .int .i64 0]) (Bo_28.out.set 0 (.bool r.lo.b)) 1 (by intro _ hh; cases hh) (.slice r.lo.A r.lo.n r.lo.c)).set (cs := #[.bool r.lo.b, .slice r.lo.A r.lo.n r.lo.c, .int .i64 0, .bool false, .slice none 0 0, .int .i64 0]) ((Bo_28.out.set 0 (.bool r.lo.b)).set 1 (.slice r.lo.A r.lo.n r.lo.c)) 2 (by intro _ hh; cases hh) (.int .i64 (Sp.out (a.lo.add b.lo) (a.hi.add b.hi) bits).lo.x)).set (cs := #[.bool r.lo.b, .slice r.lo.A r.lo.n r.lo.c, .int .i64 (Sp.out (a.lo.add b.lo) (a.hi.add b.hi) bits).lo.x, .bool false, .slice none 0 0, .int .i64 0]) (((Bo_28.out.set 0 (.bool r.lo.b)).set 1 (.slice r.lo.A r.lo.n r.lo.c)).set 2 (.int .i64 (Sp.out (a.lo.add b.lo) (a.hi.add b.hi) bits).lo.x)) 3 (by intro _ hh; cases hh) (.bool r.hi.b)).set (cs := #[.bool r.lo.b, .slice r.lo.A r.lo.n r.lo.c, .int .i64 (Sp.out (a.lo.add b.lo) (a.hi.add b.hi) bits).lo.x, .bool r.hi.b, .slice none 0 0, .int .i64 0]) ((((Bo_28.out.set 0 (.bool r.lo.b)).set 1 (.slice r.lo.A r.lo.n r.lo.c)).set 2 (.int .i64 (Sp.out (a.lo.add b.lo) (a.hi.add b.hi) bits).lo.x)).set 3 (.bool r.hi.b)) 4 (by intro _ hh; cases hh) (.slice r.hi.A r.hi.n r.hi.c)).set (cs := #[.bool r.lo.b, .slice r.lo.A r.lo.n r.lo.c, .int .i64 (Sp.out (a.lo.add b.lo) (a.hi.add b.hi) bits).lo.x, .bool r.hi.b, .slice r.hi.A r.hi.n r.hi.c, .int .i64 0]) (((((Bo_28.out.set 0 (.bool r.lo.b)).set 1 (.slice r.lo.A r.lo.n r.lo.c)).set 2 (.int .i64 (Sp.out (a.lo.add b.lo) (a.hi.add b.hi) bits).lo.x)).set 3 (.bool r.hi.b)).set 4 (.slice r.hi.A r.hi.n r.hi.c)) 5 (by intro _ hh; cases hh) (.int .i64 (Sp.out (a.lo.add b.lo) (a.hi.add b.hi) bits).hi.x)))⟩, (below_st (below_st (below_st (below_st (below_st (below_st HB_31.out 0 (by omega) (.bool r.lo.b)) 1 (by omega) (.slice r.lo.A r.lo.n r.lo.c)) 2 (by omega) (.int .i64 (Sp.out (a.lo.add b.lo) (a.hi.add b.hi) bits).lo.x)) 3 (by omega) (.bool r.hi.b)) 4 (by omega) (.slice r.hi.A r.hi.n r.hi.c)) 5 (by omega) (.int .i64 (Sp.out (a.lo.add b.lo) (a.hi.add b.hi) bits).hi.x))⟩

set_option maxRecDepth 100000 in
set_option maxHeartbeats 4000000 in
theorem ssub_any (w : World) (s t : SQ) (a b : Sp) (bits : Nat) (E T : Nat) (h : RS w s a) (h2 : RS w t b) (la : a.Lim E T) (lb : b.Lim E T) (hET : E + T + 1 ≤ 16000) (hb2 : 2 ≤ bits) (hb3 : bits ≤ 4096) (ht : BTab w) :
    Calls Tryd.prog 158 #[.agg #[.bool s.lo.b, .slice s.lo.A s.lo.n s.lo.c, .int .i64 a.lo.x, .bool s.hi.b, .slice s.hi.A s.hi.n s.hi.c, .int .i64 a.hi.x], .agg #[.bool t.lo.b, .slice t.lo.A t.lo.n t.lo.c, .int .i64 b.lo.x, .bool t.hi.b, .slice t.hi.A t.hi.n t.hi.c, .int .i64 b.hi.x], .int .i64 bits] w fun e w' => (∃ r : SQ, e = .returned (.tuple #[.agg #[.bool r.lo.b, .slice r.lo.A r.lo.n r.lo.c, .int .i64 (a.sub b bits).lo.x, .bool r.hi.b, .slice r.hi.A r.hi.n r.hi.c, .int .i64 (a.sub b bits).hi.x], .int .i64 0]) ∧ RS w' r (a.sub b bits)) ∧ Below w.heap.size w w' := by
  have HA := Lib.hid h
  have HB := Lib.hid h2
  have LA := Lib.hid la
  have LB := Lib.hid lb
  clear h h2 la lb
  have HT := Lib.hid ht
  clear ht
  unfold Sp.sub
  have y0 : E + T ≤ 16000 := by omega
  have BX := Lib.hid (boxes3 w 62 #[.bool s.lo.b, .slice s.lo.A s.lo.n s.lo.c, .int .i64 a.lo.x, .bool s.hi.b, .slice s.hi.A s.hi.n s.hi.c, .int .i64 a.hi.x] 62 #[.bool t.lo.b, .slice t.lo.A t.lo.n t.lo.c, .int .i64 b.lo.x, .bool t.hi.b, .slice t.hi.A t.hi.n t.hi.c, .int .i64 b.hi.x] 62 #[.bool false, .slice none 0 0, .int .i64 0, .bool false, .slice none 0 0, .int .i64 0])
  go_enter Tryd.func158, Tryd.ntmps158
  go_wp2_with fail
  generalize ((w.alloc (.cells #[.bool s.lo.b, .slice s.lo.A s.lo.n s.lo.c, .int .i64 a.lo.x, .bool s.hi.b, .slice s.hi.A s.hi.n s.hi.c, .int .i64 a.hi.x] 62)).alloc (.cells #[.bool t.lo.b, .slice t.lo.A t.lo.n t.lo.c, .int .i64 b.lo.x, .bool t.hi.b, .slice t.hi.A t.hi.n t.hi.c, .int .i64 b.hi.x] 62)).alloc (.cells #[.bool false, .slice none 0 0, .int .i64 0, .bool false, .slice none 0 0, .int .i64 0] 62) = w0 at *
  obtain ⟨b0, b1, b2, hw⟩ := BX.out
  have Ba_0 := Lib.hid b0
  have Bb_0 := Lib.hid b1
  have Bo_0 := Lib.hid b2
  have HB_0 := Lib.hid hw
  have K := Dk.below (hw.mono (Nat.le_refl _))
  clear BX hw b0 b1 b2
  have RA_1 := Lib.hid (HA.out.dk K)
  have RB_2 := Lib.hid (HB.out.dk K)
  clear K HA HB
  have la := Ba_0.out.lt
  obtain ⟨ca0, ca1, ca2, ca3, ca4, ca5⟩ := Ba_0.out.cells6
  have lb := Bb_0.out.lt
  obtain ⟨cb0, cb1, cb2, cb3, cb4, cb5⟩ := Bb_0.out.cells6
  have lo := Bo_0.out.lt
  obtain ⟨co0, co1, co2, co3, co4, co5⟩ := Bo_0.out.cells6
  go_wp2_with fail
  obtain ⟨SX1, hS1⟩ : ∃ S : World → Prop, ∀ w', S w' ↔ (w'.cell? ⟨w.heap.size, 0, none⟩ = some (.bool s.lo.b) ∧ w'.cell? ⟨w.heap.size, 1, none⟩ = some (.slice s.lo.A s.lo.n s.lo.c) ∧ w'.cell? ⟨w.heap.size, 2, none⟩ = some (.int .i64 a.lo.x) ∧ w'.cell? ⟨w.heap.size, 3, none⟩ = some (.bool s.hi.b) ∧ w'.cell? ⟨w.heap.size, 4, none⟩ = some (.slice s.hi.A s.hi.n s.hi.c) ∧ w'.cell? ⟨w.heap.size, 5, none⟩ = some (.int .i64 a.hi.x) ∧ w'.cell? ⟨w.heap.size + 1, 0, none⟩ = some (.bool t.lo.b) ∧ w'.cell? ⟨w.heap.size + 1, 1, none⟩ = some (.slice t.lo.A t.lo.n t.lo.c) ∧ w'.cell? ⟨w.heap.size + 1, 2, none⟩ = some (.int .i64 b.lo.x) ∧ w'.cell? ⟨w.heap.size + 1, 3, none⟩ = some (.bool t.hi.b) ∧ w'.cell? ⟨w.heap.size + 1, 4, none⟩ = some (.slice t.hi.A t.hi.n t.hi.c) ∧ w'.cell? ⟨w.heap.size + 1, 5, none⟩ = some (.int .i64 b.hi.x)) := ⟨_, fun _ => Iff.rfl⟩
  have k_3 : SX1 (w0) := (hS1 _).2 ⟨Ba_0.out.cell 0 rfl, Ba_0.out.cell 1 rfl, Ba_0.out.cell 2 rfl, Ba_0.out.cell 3 rfl, Ba_0.out.cell 4 rfl, Ba_0.out.cell 5 rfl, Bb_0.out.cell 0 rfl, Bb_0.out.cell 1 rfl, Bb_0.out.cell 2 rfl, Bb_0.out.cell 3 rfl, Bb_0.out.cell 4 rfl, Bb_0.out.cell 5 rfl⟩
  have k_4 : SX1 (w0.drew) := (hS1 _).2 ⟨(Ba_0.out.drew).cell 0 rfl, (Ba_0.out.drew).cell 1 rfl, (Ba_0.out.drew).cell 2 rfl, (Ba_0.out.drew).cell 3 rfl, (Ba_0.out.drew).cell 4 rfl, (Ba_0.out.drew).cell 5 rfl, (Bb_0.out.drew).cell 0 rfl, (Bb_0.out.drew).cell 1 rfl, (Bb_0.out.drew).cell 2 rfl, (Bb_0.out.drew).cell 3 rfl, (Bb_0.out.drew).cell 4 rfl, (Bb_0.out.drew).cell 5 rfl⟩
  have tok_5 : True := trivial
  have tok_6 : True := trivial
  go_region_held3 (fun w' => w'.cell? ⟨w.heap.size, 0, none⟩ = some (.bool s.lo.b) ∧ w'.cell? ⟨w.heap.size, 1, none⟩ = some (.slice s.lo.A s.lo.n s.lo.c) ∧ w'.cell? ⟨w.heap.size, 2, none⟩ = some (.int .i64 a.lo.x) ∧ w'.cell? ⟨w.heap.size, 3, none⟩ = some (.bool s.hi.b) ∧ w'.cell? ⟨w.heap.size, 4, none⟩ = some (.slice s.hi.A s.hi.n s.hi.c) ∧ w'.cell? ⟨w.heap.size, 5, none⟩ = some (.int .i64 a.hi.x) ∧ w'.cell? ⟨w.heap.size + 1, 0, none⟩ = some (.bool t.lo.b) ∧ w'.cell? ⟨w.heap.size + 1, 1, none⟩ = some (.slice t.lo.A t.lo.n t.lo.c) ∧ w'.cell? ⟨w.heap.size + 1, 2, none⟩ = some (.int .i64 b.lo.x) ∧ w'.cell? ⟨w.heap.size + 1, 3, none⟩ = some (.bool t.hi.b) ∧ w'.cell? ⟨w.heap.size + 1, 4, none⟩ = some (.slice t.hi.A t.hi.n t.hi.c) ∧ w'.cell? ⟨w.heap.size + 1, 5, none⟩ = some (.int .i64 b.hi.x)) (first | with_reducible exact (hS1 _).1 k_3 | with_reducible exact (hS1 _).1 k_4 | with_reducible exact (hS1 _).1 k_14 | with_reducible exact (hS1 _).1 k_23 | with_reducible exact (hS1 _).1 k_24)
    (first
     | (have _ := tok_5; go_at_call 85; clear tok_5; refine (sneg_any _ t b E T (RB_2.out.dk ((Dk.refl _).drew)) LB.out y0).mono ?_; rintro e w1 ⟨⟨p, rfl, hp⟩, hb⟩; clear la ca0 ca1 ca2 ca3 ca4 ca5 lb cb0 cb1 cb2 cb3 cb4 cb5 lo co0 co1 co2 co3 co4 co5 k_3 k_4; have K := Dk.trans ((Dk.refl _).drew) (.below hb); have Ba_7 := Lib.hid (show Bk _ _ _ #[.bool s.lo.b, .slice s.lo.A s.lo.n s.lo.c, .int .i64 a.lo.x, .bool s.hi.b, .slice s.hi.A s.hi.n s.hi.c, .int .i64 a.hi.x] from (Ba_0.out.drew).below hb); have Bb_8 := Lib.hid (show Bk _ _ _ #[.bool t.lo.b, .slice t.lo.A t.lo.n t.lo.c, .int .i64 b.lo.x, .bool t.hi.b, .slice t.hi.A t.hi.n t.hi.c, .int .i64 b.hi.x] from (Bb_0.out.drew).below hb); have Bo_9 := Lib.hid (show Bk _ _ _ #[.bool false, .slice none 0 0, .int .i64 0, .bool false, .slice none 0 0, .int .i64 0] from (Bo_0.out.drew).below hb); have HB_10 := Lib.hid (below_tr (below_dr HB_0.out) hb); clear hb; have RA_11 := Lib.hid (RA_1.out.dk K); have RB_12 := Lib.hid (RB_2.out.dk K); clear K Ba_0 Bb_0 Bo_0 HB_0 RA_1 RB_2; have RX_13 := Lib.hid hp; clear hp; have la := Ba_7.out.lt; obtain ⟨ca0, ca1, ca2, ca3, ca4, ca5⟩ := Ba_7.out.cells6; have lb := Bb_8.out.lt; obtain ⟨cb0, cb1, cb2, cb3, cb4, cb5⟩ := Bb_8.out.cells6; have lo := Bo_9.out.lt; obtain ⟨co0, co1, co2, co3, co4, co5⟩ := Bo_9.out.cells6; have fo0 := Bo_9.out.free 0; have fo1 := Bo_9.out.free 1; have fo2 := Bo_9.out.free 2; have fo3 := Bo_9.out.free 3; have fo4 := Bo_9.out.free 4; have fo5 := Bo_9.out.free 5; have k_14 : SX1 (w1) := (hS1 _).2 ⟨Ba_7.out.cell 0 rfl, Ba_7.out.cell 1 rfl, Ba_7.out.cell 2 rfl, Ba_7.out.cell 3 rfl, Ba_7.out.cell 4 rfl, Ba_7.out.cell 5 rfl, Bb_8.out.cell 0 rfl, Bb_8.out.cell 1 rfl, Bb_8.out.cell 2 rfl, Bb_8.out.cell 3 rfl, Bb_8.out.cell 4 rfl, Bb_8.out.cell 5 rfl⟩)
     | (have _ := tok_6; go_at_call 38; clear tok_6; refine (sadd_any _ s p a b.neg bits E T RA_11.out RX_13.out LA.out (sneg_lim LB.out) hET hb2 hb3 (HT.out.below HB_10.out)).mono ?_; rintro e w2 ⟨⟨r, rfl, hr⟩, hb⟩; clear la ca0 ca1 ca2 ca3 ca4 ca5 lb cb0 cb1 cb2 cb3 cb4 cb5 lo co0 co1 co2 co3 co4 co5 fo0 fo1 fo2 fo3 fo4 fo5 k_14; have K := Dk.below hb; have Ba_15 := Lib.hid (show Bk _ _ _ #[.bool s.lo.b, .slice s.lo.A s.lo.n s.lo.c, .int .i64 a.lo.x, .bool s.hi.b, .slice s.hi.A s.hi.n s.hi.c, .int .i64 a.hi.x] from Ba_7.out.below hb); have Bb_16 := Lib.hid (show Bk _ _ _ #[.bool t.lo.b, .slice t.lo.A t.lo.n t.lo.c, .int .i64 b.lo.x, .bool t.hi.b, .slice t.hi.A t.hi.n t.hi.c, .int .i64 b.hi.x] from Bb_8.out.below hb); have Bo_17 := Lib.hid (show Bk _ _ _ #[.bool false, .slice none 0 0, .int .i64 0, .bool false, .slice none 0 0, .int .i64 0] from Bo_9.out.below hb); have HB_18 := Lib.hid (below_tr HB_10.out hb); clear hb; have RA_19 := Lib.hid (RA_11.out.dk K); have RB_20 := Lib.hid (RB_12.out.dk K); have RX_21 := Lib.hid (RX_13.out.dk K); clear K Ba_7 Bb_8 Bo_9 HB_10 RA_11 RB_12 RX_13; have RZ_22 := Lib.hid hr; clear hr; have la := Ba_15.out.lt; obtain ⟨ca0, ca1, ca2, ca3, ca4, ca5⟩ := Ba_15.out.cells6; have lb := Bb_16.out.lt; obtain ⟨cb0, cb1, cb2, cb3, cb4, cb5⟩ := Bb_16.out.cells6; have lo := Bo_17.out.lt; obtain ⟨co0, co1, co2, co3, co4, co5⟩ := Bo_17.out.cells6; have fo0 := Bo_17.out.free 0; have fo1 := Bo_17.out.free 1; have fo2 := Bo_17.out.free 2; have fo3 := Bo_17.out.free 3; have fo4 := Bo_17.out.free 4; have fo5 := Bo_17.out.free 5; have k_23 : SX1 (w2) := (hS1 _).2 ⟨Ba_15.out.cell 0 rfl, Ba_15.out.cell 1 rfl, Ba_15.out.cell 2 rfl, Ba_15.out.cell 3 rfl, Ba_15.out.cell 4 rfl, Ba_15.out.cell 5 rfl, Bb_16.out.cell 0 rfl, Bb_16.out.cell 1 rfl, Bb_16.out.cell 2 rfl, Bb_16.out.cell 3 rfl, Bb_16.out.cell 4 rfl, Bb_16.out.cell 5 rfl⟩; have y0 := Ba_15.out.lt; have y1 := Bb_16.out.lt; have y2 := Bo_17.out.lt; have y3 := HB_18.out.size; have k_24 : SX1 ((((((w2.setCell ⟨w.heap.size + 2, 0, none⟩ (.bool r.lo.b)).setCell ⟨w.heap.size + 2, 1, none⟩ (.slice r.lo.A r.lo.n r.lo.c)).setCell ⟨w.heap.size + 2, 2, none⟩ (.int .i64 (a.add b.neg bits).lo.x)).setCell ⟨w.heap.size + 2, 3, none⟩ (.bool r.hi.b)).setCell ⟨w.heap.size + 2, 4, none⟩ (.slice r.hi.A r.hi.n r.hi.c)).setCell ⟨w.heap.size + 2, 5, none⟩ (.int .i64 (a.add b.neg bits).hi.x)) := (hS1 _).2 ⟨((((((Ba_15.out.ne (by omega) 0 (.bool r.lo.b)).ne (by omega) 1 (.slice r.lo.A r.lo.n r.lo.c)).ne (by omega) 2 (.int .i64 (a.add b.neg bits).lo.x)).ne (by omega) 3 (.bool r.hi.b)).ne (by omega) 4 (.slice r.hi.A r.hi.n r.hi.c)).ne (by omega) 5 (.int .i64 (a.add b.neg bits).hi.x)).cell 0 rfl, ((((((Ba_15.out.ne (by omega) 0 (.bool r.lo.b)).ne (by omega) 1 (.slice r.lo.A r.lo.n r.lo.c)).ne (by omega) 2 (.int .i64 (a.add b.neg bits).lo.x)).ne (by omega) 3 (.bool r.hi.b)).ne (by omega) 4 (.slice r.hi.A r.hi.n r.hi.c)).ne (by omega) 5 (.int .i64 (a.add b.neg bits).hi.x)).cell 1 rfl, ((((((Ba_15.out.ne (by omega) 0 (.bool r.lo.b)).ne (by omega) 1 (.slice r.lo.A r.lo.n r.lo.c)).ne (by omega) 2 (.int .i64 (a.add b.neg bits).lo.x)).ne (by omega) 3 (.bool r.hi.b)).ne (by omega) 4 (.slice r.hi.A r.hi.n r.hi.c)).ne (by omega) 5 (.int .i64 (a.add b.neg bits).hi.x)).cell 2 rfl, ((((((Ba_15.out.ne (by omega) 0 (.bool r.lo.b)).ne (by omega) 1 (.slice r.lo.A r.lo.n r.lo.c)).ne (by omega) 2 (.int .i64 (a.add b.neg bits).lo.x)).ne (by omega) 3 (.bool r.hi.b)).ne (by omega) 4 (.slice r.hi.A r.hi.n r.hi.c)).ne (by omega) 5 (.int .i64 (a.add b.neg bits).hi.x)).cell 3 rfl, ((((((Ba_15.out.ne (by omega) 0 (.bool r.lo.b)).ne (by omega) 1 (.slice r.lo.A r.lo.n r.lo.c)).ne (by omega) 2 (.int .i64 (a.add b.neg bits).lo.x)).ne (by omega) 3 (.bool r.hi.b)).ne (by omega) 4 (.slice r.hi.A r.hi.n r.hi.c)).ne (by omega) 5 (.int .i64 (a.add b.neg bits).hi.x)).cell 4 rfl, ((((((Ba_15.out.ne (by omega) 0 (.bool r.lo.b)).ne (by omega) 1 (.slice r.lo.A r.lo.n r.lo.c)).ne (by omega) 2 (.int .i64 (a.add b.neg bits).lo.x)).ne (by omega) 3 (.bool r.hi.b)).ne (by omega) 4 (.slice r.hi.A r.hi.n r.hi.c)).ne (by omega) 5 (.int .i64 (a.add b.neg bits).hi.x)).cell 5 rfl, ((((((Bb_16.out.ne (by omega) 0 (.bool r.lo.b)).ne (by omega) 1 (.slice r.lo.A r.lo.n r.lo.c)).ne (by omega) 2 (.int .i64 (a.add b.neg bits).lo.x)).ne (by omega) 3 (.bool r.hi.b)).ne (by omega) 4 (.slice r.hi.A r.hi.n r.hi.c)).ne (by omega) 5 (.int .i64 (a.add b.neg bits).hi.x)).cell 0 rfl, ((((((Bb_16.out.ne (by omega) 0 (.bool r.lo.b)).ne (by omega) 1 (.slice r.lo.A r.lo.n r.lo.c)).ne (by omega) 2 (.int .i64 (a.add b.neg bits).lo.x)).ne (by omega) 3 (.bool r.hi.b)).ne (by omega) 4 (.slice r.hi.A r.hi.n r.hi.c)).ne (by omega) 5 (.int .i64 (a.add b.neg bits).hi.x)).cell 1 rfl, ((((((Bb_16.out.ne (by omega) 0 (.bool r.lo.b)).ne (by omega) 1 (.slice r.lo.A r.lo.n r.lo.c)).ne (by omega) 2 (.int .i64 (a.add b.neg bits).lo.x)).ne (by omega) 3 (.bool r.hi.b)).ne (by omega) 4 (.slice r.hi.A r.hi.n r.hi.c)).ne (by omega) 5 (.int .i64 (a.add b.neg bits).hi.x)).cell 2 rfl, ((((((Bb_16.out.ne (by omega) 0 (.bool r.lo.b)).ne (by omega) 1 (.slice r.lo.A r.lo.n r.lo.c)).ne (by omega) 2 (.int .i64 (a.add b.neg bits).lo.x)).ne (by omega) 3 (.bool r.hi.b)).ne (by omega) 4 (.slice r.hi.A r.hi.n r.hi.c)).ne (by omega) 5 (.int .i64 (a.add b.neg bits).hi.x)).cell 3 rfl, ((((((Bb_16.out.ne (by omega) 0 (.bool r.lo.b)).ne (by omega) 1 (.slice r.lo.A r.lo.n r.lo.c)).ne (by omega) 2 (.int .i64 (a.add b.neg bits).lo.x)).ne (by omega) 3 (.bool r.hi.b)).ne (by omega) 4 (.slice r.hi.A r.hi.n r.hi.c)).ne (by omega) 5 (.int .i64 (a.add b.neg bits).hi.x)).cell 4 rfl, ((((((Bb_16.out.ne (by omega) 0 (.bool r.lo.b)).ne (by omega) 1 (.slice r.lo.A r.lo.n r.lo.c)).ne (by omega) 2 (.int .i64 (a.add b.neg bits).lo.x)).ne (by omega) 3 (.bool r.hi.b)).ne (by omega) 4 (.slice r.hi.A r.hi.n r.hi.c)).ne (by omega) 5 (.int .i64 (a.add b.neg bits).hi.x)).cell 5 rfl⟩; clear y0 y1 y2 y3))
  go_wp2
  refine bodyPost_ret (v := .tuple #[.agg #[.bool r.lo.b, .slice r.lo.A r.lo.n r.lo.c, .int .i64 (a.add b.neg bits).lo.x, .bool r.hi.b, .slice r.hi.A r.hi.n r.hi.c, .int .i64 (a.add b.neg bits).hi.x], .int .i64 0]) ?_ rfl ?_
  · simp [results, Tryd.f158, go_sem, co0, co1, co2, co3, co4, co5]
  · have y0 := HB_18.out.size; exact ⟨⟨r, rfl, (RZ_22.out.dk (((((((Dk.refl _).set (cs := #[.bool false, .slice none 0 0, .int .i64 0, .bool false, .slice none 0 0, .int .i64 0]) Bo_17.out 0 (by intro _ hh; cases hh) (.bool r.lo.b)).set (cs := #[.bool r.lo.b, .slice none 0 0, .int .i64 0, .bool false, .slice none 0 0, .int .i64 0]) (Bo_17.out.set 0 (.bool r.lo.b)) 1 (by intro _ hh; cases hh) (.slice r.lo.A r.lo.n r.lo.c)).set (cs := #[.bool r.lo.b, .slice r.lo.A r.lo.n r.lo.c, .int .i64 0, .bool false, .slice none 0 0, .int .i64 0]) ((Bo_17.out.set 0 (.bool r.lo.b)).set 1 (.slice r.lo.A r.lo.n r.lo.c)) 2 (by intro _ hh; cases hh) (.int .i64 (a.add b.neg bits).lo.x)).set (cs := #[.bool r.lo.b, .slice r.lo.A r.lo.n r.lo.c, .int .i64 (a.add b.neg bits).lo.x, .bool false, .slice none 0 0, .int .i64 0]) (((Bo_17.out.set 0 (.bool r.lo.b)).set 1 (.slice r.lo.A r.lo.n r.lo.c)).set 2 (.int .i64 (a.add b.neg bits).lo.x)) 3 (by intro _ hh; cases hh) (.bool r.hi.b)).set (cs := #[.bool r.lo.b, .slice r.lo.A r.lo.n r.lo.c, .int .i64 (a.add b.neg bits).lo.x, .bool r.hi.b, .slice none 0 0, .int .i64 0]) ((((Bo_17.out.set 0 (.bool r.lo.b)).set 1 (.slice r.lo.A r.lo.n r.lo.c)).set 2 (.int .i64 (a.add b.neg bits).lo.x)).set 3 (.bool r.hi.b)) 4 (by intro _ hh; cases hh) (.slice r.hi.A r.hi.n r.hi.c)).set (cs := #[.bool r.lo.b, .slice r.lo.A r.lo.n r.lo.c, .int .i64 (a.add b.neg bits).lo.x, .bool r.hi.b, .slice r.hi.A r.hi.n r.hi.c, .int .i64 0]) (((((Bo_17.out.set 0 (.bool r.lo.b)).set 1 (.slice r.lo.A r.lo.n r.lo.c)).set 2 (.int .i64 (a.add b.neg bits).lo.x)).set 3 (.bool r.hi.b)).set 4 (.slice r.hi.A r.hi.n r.hi.c)) 5 (by intro _ hh; cases hh) (.int .i64 (a.add b.neg bits).hi.x)))⟩, (below_st (below_st (below_st (below_st (below_st (below_st HB_18.out 0 (by omega) (.bool r.lo.b)) 1 (by omega) (.slice r.lo.A r.lo.n r.lo.c)) 2 (by omega) (.int .i64 (a.add b.neg bits).lo.x)) 3 (by omega) (.bool r.hi.b)) 4 (by omega) (.slice r.hi.A r.hi.n r.hi.c)) 5 (by omega) (.int .i64 (a.add b.neg bits).hi.x))⟩

end Go.Proofs.YtgioppkggpfnoaaDoor.Nu
end

section
/- The walk of reduce.spread. -/
set_option linter.unusedVariables false
namespace Go.Proofs.YtgioppkggpfnoaaDoor.Nu
open Go.RowKit Go.Proofs

/-- The state ahead of a round. -/
def SprRel (g : Nat → D) (bits : Nat) (W : World) (i : Nat) (w : World) : Prop :=
  ∃ (u : SQ) (v : Q), Bk w W.heap.size 53 #[.bool false, .slice none 0 0, .int .i64 0] ∧ Bk w (W.heap.size + 1) 62 #[.bool u.lo.b, .slice u.lo.A u.lo.n u.lo.c, .int .i64 (sprA g bits i).lo.x, .bool u.hi.b, .slice u.hi.A u.hi.n u.hi.c, .int .i64 (sprA g bits i).hi.x] ∧ Bk w (W.heap.size + 1 + 1) 53 #[.bool v.b, .slice v.A v.n v.c, .int .i64 (sprM g i).x] ∧ Below W.heap.size W w ∧ RS w u (sprA g bits i) ∧ RD w v (sprM g i)

set_option maxRecDepth 100000 in
set_option maxHeartbeats 4000000 in
theorem spread_any (w : World) (A : Option Addr) (n c : Nat) (g : Nat → D) (bits : Nat) (E T : Nat) (h : RDs w A n c g) (lg : ∀ i, i < n → (g i).Lim E T) (hET : E + T + 2 * n + 4 ≤ 16000) (hb2 : 2 ≤ bits) (hb3 : bits ≤ 4096) (ht : BTab w) :
    Calls Tryd.prog 113 #[.slice A n c, .int .i64 bits] w fun e w' => (∃ r : Q, e = .returned (.tuple #[.agg #[.bool r.b, .slice r.A r.n r.c, .int .i64 (spread g n bits).x], .int .i64 0]) ∧ RD w' r (spread g n bits)) ∧ Below w.heap.size w w' := by
  have HA := Lib.hid h
  have LG := Lib.hid lg
  have HT := Lib.hid ht
  have n0 := h.2.1
  clear h lg ht
  have BX := Lib.hid (boxes3 w 53 #[.bool false, .slice none 0 0, .int .i64 0] 62 #[.bool false, .slice none 0 0, .int .i64 0, .bool false, .slice none 0 0, .int .i64 0] 53 #[.bool false, .slice none 0 0, .int .i64 0])
  go_enter Tryd.func113, Tryd.ntmps113
  go_wp2_with fail
  generalize ((w.alloc (.cells #[.bool false, .slice none 0 0, .int .i64 0] 53)).alloc (.cells #[.bool false, .slice none 0 0, .int .i64 0, .bool false, .slice none 0 0, .int .i64 0] 62)).alloc (.cells #[.bool false, .slice none 0 0, .int .i64 0] 53) = w0 at *
  obtain ⟨b0, b1, b2, hw⟩ := BX.out
  have Bo_0 := Lib.hid b0
  have Ba_0 := Lib.hid b1
  have Bm_0 := Lib.hid b2
  have HB_0 := Lib.hid hw
  have K := Dk.below (hw.mono (Nat.le_refl _))
  clear BX hw b0 b1 b2
  clear K
  have H0 := Lib.hid (show SprRel g bits w 0 w0 from ⟨⟨Q.nil, Q.nil⟩, Q.nil, Bo_0.out, Ba_0.out, Bm_0.out, HB_0.out, RS.zero _, RD.zero _⟩)
  clear Bo_0 Ba_0 Bm_0 HB_0
  go_loopw [15] (fun k wr => ∃ i : Nat, k = .int .i64 i ∧ i ≤ n ∧ Hid (SprRel g bits w i wr)) (fun k _ => n - (intOf k).toNat)
  case atStart => exact ⟨0, rfl, Nat.zero_le _, H0⟩
  case round =>
    clear H0
    obtain ⟨i, rfl, hi, Hr⟩ := hrel
    by_cases hi2 : i < n
    · have q3 : (i : Int) < (n : Int) := by omega
      obtain ⟨A1, o1, rfl, hl1, hcc⟩ := HA.out.2.2 (by omega)
      obtain ⟨q, z0, z1, z2, hq⟩ := hcc i hi2
      have X0 := Lib.hid z0
      have X1 := Lib.hid z1
      have X2 := Lib.hid z2
      have RW0 := Lib.hid hq
      clear hcc z0 z1 z2 hq
      have La := Lib.hid (sprA_lim bits i (fun j hj => LG.out j (by omega)))
      have Lm := Lib.hid (sprM_lim i (fun j hj => LG.out j (by omega)))
      have Lx := Lib.hid (LG.out i hi2)
      have Lp := Lib.hid (pt_lim ((abs_lim Lx.out).mono (Nat.le_refl _) (show T ≤ T + 2 * i by omega)))
      have nb0 : nb (g i).z.natAbs ≤ 16384 := by have := Lx.out.nb; omega
      obtain ⟨u, v, bo, ba, bm, hbel, hru, hrv⟩ := Hr.out
      have Bo_0 := Lib.hid bo
      have Ba_0 := Lib.hid ba
      have Bm_0 := Lib.hid bm
      have HB_0 := Lib.hid hbel
      have SU := Lib.hid hru
      have SV := Lib.hid hrv
      clear bo ba bm hbel hru hrv Hr
      have RQ := Lib.hid (RW0.out.below HB_0.out)
      clear RW0
      have lo := Bo_0.out.lt
      obtain ⟨co0, co1, co2⟩ := Bo_0.out.cells3
      have la := Ba_0.out.lt
      obtain ⟨ca0, ca1, ca2, ca3, ca4, ca5⟩ := Ba_0.out.cells6
      have lm := Bm_0.out.lt
      obtain ⟨cm0, cm1, cm2⟩ := Bm_0.out.cells3
      have cr10 : wr.cell? ⟨A1, o1 + i * 3, none⟩ = some (.bool q.b) := (HB_0.out.cell (p := ⟨A1, o1 + i * 3, none⟩) hl1).trans X0.out
      have cr11 : wr.cell? ⟨A1, o1 + i * 3 + 1, none⟩ = some (.slice q.A q.n q.c) := (HB_0.out.cell (p := ⟨A1, o1 + i * 3 + 1, none⟩) hl1).trans X1.out
      have cr12 : wr.cell? ⟨A1, o1 + i * 3 + 2, none⟩ = some (.int .i64 (g i).x) := (HB_0.out.cell (p := ⟨A1, o1 + i * 3 + 2, none⟩) hl1).trans X2.out
      have n_101 := Bo_0.out.lt
      have n_102 := Ba_0.out.lt
      have n_103 := Bm_0.out.lt
      go_upto_region 7 with (fail)
      clear lo co0 co1 co2 la ca0 ca1 ca2 ca3 ca4 ca5 lm cm0 cm1 cm2 cr10 cr11 cr12
      have K : Dk wr (wr.alloc (.cells #[.bool q.b, .slice q.A q.n q.c, .int .i64 (g i).x] 53)) := ((Dk.refl _).alloc _)
      have Bo_104 := Lib.hid (show Bk (wr.alloc (.cells #[.bool q.b, .slice q.A q.n q.c, .int .i64 (g i).x] 53)) (w.heap.size) 53 #[.bool false, .slice none 0 0, .int .i64 0] from (Bo_0.out.alloc _))
      have Ba_105 := Lib.hid (show Bk (wr.alloc (.cells #[.bool q.b, .slice q.A q.n q.c, .int .i64 (g i).x] 53)) (w.heap.size + 1) 62 #[.bool u.lo.b, .slice u.lo.A u.lo.n u.lo.c, .int .i64 (sprA g bits i).lo.x, .bool u.hi.b, .slice u.hi.A u.hi.n u.hi.c, .int .i64 (sprA g bits i).hi.x] from (Ba_0.out.alloc _))
      have Bm_106 := Lib.hid (show Bk (wr.alloc (.cells #[.bool q.b, .slice q.A q.n q.c, .int .i64 (g i).x] 53)) (w.heap.size + 1 + 1) 53 #[.bool v.b, .slice v.A v.n v.c, .int .i64 (sprM g i).x] from (Bm_0.out.alloc _))
      have Bx_107 := Lib.hid (show Bk (wr.alloc (.cells #[.bool q.b, .slice q.A q.n q.c, .int .i64 (g i).x] 53)) (wr.heap.size) 53 #[.bool q.b, .slice q.A q.n q.c, .int .i64 (g i).x] from (Bk.new _ 53 #[.bool q.b, .slice q.A q.n q.c, .int .i64 (g i).x]))
      have HB_108 := Lib.hid (show Below w.heap.size w (wr.alloc (.cells #[.bool q.b, .slice q.A q.n q.c, .int .i64 (g i).x] 53)) from (below_al HB_0.out _))
      have SU_109 := Lib.hid (SU.out.dk K)
      have SV_110 := Lib.hid (SV.out.dk K)
      have RQ_111 := Lib.hid (RQ.out.dk K)
      clear K Bo_0 Ba_0 Bm_0 HB_0 SU SV RQ
      generalize wr.alloc (.cells #[.bool q.b, .slice q.A q.n q.c, .int .i64 (g i).x] 53) = w1 at *
      have lo := Bo_104.out.lt
      obtain ⟨co0, co1, co2⟩ := Bo_104.out.cells3
      have la := Ba_105.out.lt
      obtain ⟨ca0, ca1, ca2, ca3, ca4, ca5⟩ := Ba_105.out.cells6
      have fa0 := Ba_105.out.free 0
      have fa1 := Ba_105.out.free 1
      have fa2 := Ba_105.out.free 2
      have fa3 := Ba_105.out.free 3
      have fa4 := Ba_105.out.free 4
      have fa5 := Ba_105.out.free 5
      have lm := Bm_106.out.lt
      obtain ⟨cm0, cm1, cm2⟩ := Bm_106.out.cells3
      have lx := Bx_107.out.lt
      obtain ⟨cx0, cx1, cx2⟩ := Bx_107.out.cells3
      go_cut [10] (fun s10 wx => ∃ (p : SQ), s10 = .int .i64 0 ∧ Bk wx (w.heap.size) 53 #[.bool false, .slice none 0 0, .int .i64 0] ∧ Bk wx (w.heap.size + 1) 62 #[.bool p.lo.b, .slice p.lo.A p.lo.n p.lo.c, .int .i64 (Sp.add (sprA g bits i) (Sp.pt (g i).abs) bits).lo.x, .bool p.hi.b, .slice p.hi.A p.hi.n p.hi.c, .int .i64 (Sp.add (sprA g bits i) (Sp.pt (g i).abs) bits).hi.x] ∧ Bk wx (w.heap.size + 1 + 1) 53 #[.bool v.b, .slice v.A v.n v.c, .int .i64 (sprM g i).x] ∧ Bk wx (wr.heap.size) 53 #[.bool q.b, .slice q.A q.n q.c, .int .i64 (g i).x] ∧ Below w.heap.size w wx ∧ RS wx p (Sp.add (sprA g bits i) (Sp.pt (g i).abs) bits) ∧ RD wx v (sprM g i) ∧ RD wx q (g i))
      case first =>
        have k_113 : (w1).cell? ⟨wr.heap.size, 0, none⟩ = some (.bool q.b) ∧ (w1).cell? ⟨wr.heap.size, 1, none⟩ = some (.slice q.A q.n q.c) ∧ (w1).cell? ⟨wr.heap.size, 2, none⟩ = some (.int .i64 (g i).x) := ⟨Bx_107.out.cell 0 rfl, Bx_107.out.cell 1 rfl, Bx_107.out.cell 2 rfl⟩
        have k_114 : (w1.drew).cell? ⟨wr.heap.size, 0, none⟩ = some (.bool q.b) ∧ (w1.drew).cell? ⟨wr.heap.size, 1, none⟩ = some (.slice q.A q.n q.c) ∧ (w1.drew).cell? ⟨wr.heap.size, 2, none⟩ = some (.int .i64 (g i).x) := ⟨(Bx_107.out.drew).cell 0 rfl, (Bx_107.out.drew).cell 1 rfl, (Bx_107.out.drew).cell 2 rfl⟩
        have tok_115 : True := trivial
        have tok_116 : True := trivial
        have tok_117 : True := trivial
        go_region_with
          (first
           | (clear tok_115; go_at_call 146; (with_reducible refine (dabs_any (w1.drew) q (g i) (RQ_111.out.dk ((Dk.refl _).drew)) nb0).mono ?_); rintro e w_118 ⟨⟨m, rfl, hm⟩, hb⟩; clear lo co0 co1 co2 la ca0 ca1 ca2 ca3 ca4 ca5 fa0 fa1 fa2 fa3 fa4 fa5 lm cm0 cm1 cm2 lx cx0 cx1 cx2 k_113 k_114; have K := Dk.trans ((Dk.refl _).drew) (.below hb); have Bo_119 := Lib.hid (show Bk _ _ _ #[.bool false, .slice none 0 0, .int .i64 0] from (Bo_104.out.drew).below hb); have Ba_120 := Lib.hid (show Bk _ _ _ #[.bool u.lo.b, .slice u.lo.A u.lo.n u.lo.c, .int .i64 (sprA g bits i).lo.x, .bool u.hi.b, .slice u.hi.A u.hi.n u.hi.c, .int .i64 (sprA g bits i).hi.x] from (Ba_105.out.drew).below hb); have Bm_121 := Lib.hid (show Bk _ _ _ #[.bool v.b, .slice v.A v.n v.c, .int .i64 (sprM g i).x] from (Bm_106.out.drew).below hb); have Bx_122 := Lib.hid (show Bk _ _ _ #[.bool q.b, .slice q.A q.n q.c, .int .i64 (g i).x] from (Bx_107.out.drew).below hb); have HB_123 := Lib.hid (below_tr (below_dr HB_108.out) hb); clear hb; have SU_124 := Lib.hid (SU_109.out.dk K); have SV_125 := Lib.hid (SV_110.out.dk K); have RQ_126 := Lib.hid (RQ_111.out.dk K); clear K Bo_104 Ba_105 Bm_106 Bx_107 HB_108 SU_109 SV_110 RQ_111; have RM_127 := Lib.hid hm; clear hm; have lo := Bo_119.out.lt; obtain ⟨co0, co1, co2⟩ := Bo_119.out.cells3; have la := Ba_120.out.lt; obtain ⟨ca0, ca1, ca2, ca3, ca4, ca5⟩ := Ba_120.out.cells6; have fa0 := Ba_120.out.free 0; have fa1 := Ba_120.out.free 1; have fa2 := Ba_120.out.free 2; have fa3 := Ba_120.out.free 3; have fa4 := Ba_120.out.free 4; have fa5 := Ba_120.out.free 5; have lm := Bm_121.out.lt; obtain ⟨cm0, cm1, cm2⟩ := Bm_121.out.cells3; have lx := Bx_122.out.lt; obtain ⟨cx0, cx1, cx2⟩ := Bx_122.out.cells3; have k_128 : (w_118).cell? ⟨wr.heap.size, 0, none⟩ = some (.bool q.b) ∧ (w_118).cell? ⟨wr.heap.size, 1, none⟩ = some (.slice q.A q.n q.c) ∧ (w_118).cell? ⟨wr.heap.size, 2, none⟩ = some (.int .i64 (g i).x) := ⟨Bx_122.out.cell 0 rfl, Bx_122.out.cell 1 rfl, Bx_122.out.cell 2 rfl⟩)
           | (clear tok_116; go_at_call 59; (with_reducible refine (spoint_any (w_118) m (g i).abs RM_127.out).mono ?_); rintro e w_130 ⟨⟨x, rfl, hx⟩, hb⟩; clear lo co0 co1 co2 la ca0 ca1 ca2 ca3 ca4 ca5 fa0 fa1 fa2 fa3 fa4 fa5 lm cm0 cm1 cm2 lx cx0 cx1 cx2 k_128; have K := Dk.below hb; have Bo_131 := Lib.hid (show Bk _ _ _ #[.bool false, .slice none 0 0, .int .i64 0] from Bo_119.out.below hb); have Ba_132 := Lib.hid (show Bk _ _ _ #[.bool u.lo.b, .slice u.lo.A u.lo.n u.lo.c, .int .i64 (sprA g bits i).lo.x, .bool u.hi.b, .slice u.hi.A u.hi.n u.hi.c, .int .i64 (sprA g bits i).hi.x] from Ba_120.out.below hb); have Bm_133 := Lib.hid (show Bk _ _ _ #[.bool v.b, .slice v.A v.n v.c, .int .i64 (sprM g i).x] from Bm_121.out.below hb); have Bx_134 := Lib.hid (show Bk _ _ _ #[.bool q.b, .slice q.A q.n q.c, .int .i64 (g i).x] from Bx_122.out.below hb); have HB_135 := Lib.hid (below_tr HB_123.out hb); clear hb; have SU_136 := Lib.hid (SU_124.out.dk K); have SV_137 := Lib.hid (SV_125.out.dk K); have RQ_138 := Lib.hid (RQ_126.out.dk K); have RM_139 := Lib.hid (RM_127.out.dk K); clear K Bo_119 Ba_120 Bm_121 Bx_122 HB_123 SU_124 SV_125 RQ_126 RM_127; have SX_140 := Lib.hid hx; clear hx; have lo := Bo_131.out.lt; obtain ⟨co0, co1, co2⟩ := Bo_131.out.cells3; have la := Ba_132.out.lt; obtain ⟨ca0, ca1, ca2, ca3, ca4, ca5⟩ := Ba_132.out.cells6; have fa0 := Ba_132.out.free 0; have fa1 := Ba_132.out.free 1; have fa2 := Ba_132.out.free 2; have fa3 := Ba_132.out.free 3; have fa4 := Ba_132.out.free 4; have fa5 := Ba_132.out.free 5; have lm := Bm_133.out.lt; obtain ⟨cm0, cm1, cm2⟩ := Bm_133.out.cells3; have lx := Bx_134.out.lt; obtain ⟨cx0, cx1, cx2⟩ := Bx_134.out.cells3; have k_141 : (w_130).cell? ⟨wr.heap.size, 0, none⟩ = some (.bool q.b) ∧ (w_130).cell? ⟨wr.heap.size, 1, none⟩ = some (.slice q.A q.n q.c) ∧ (w_130).cell? ⟨wr.heap.size, 2, none⟩ = some (.int .i64 (g i).x) := ⟨Bx_134.out.cell 0 rfl, Bx_134.out.cell 1 rfl, Bx_134.out.cell 2 rfl⟩)
           | (clear tok_117; go_at_call 38; (with_reducible refine (sadd_any (w_130) u x (sprA g bits i) (Sp.pt (g i).abs) bits E (T + 2 * i) SU_136.out SX_140.out La.out Lp.out (by omega) hb2 hb3 (HT.out.below HB_135.out)).mono ?_); rintro e w_143 ⟨⟨p, rfl, hp⟩, hb⟩; clear lo co0 co1 co2 la ca0 ca1 ca2 ca3 ca4 ca5 fa0 fa1 fa2 fa3 fa4 fa5 lm cm0 cm1 cm2 lx cx0 cx1 cx2 k_141; have K := Dk.below hb; have Bo_144 := Lib.hid (show Bk _ _ _ #[.bool false, .slice none 0 0, .int .i64 0] from Bo_131.out.below hb); have Ba_145 := Lib.hid (show Bk _ _ _ #[.bool u.lo.b, .slice u.lo.A u.lo.n u.lo.c, .int .i64 (sprA g bits i).lo.x, .bool u.hi.b, .slice u.hi.A u.hi.n u.hi.c, .int .i64 (sprA g bits i).hi.x] from Ba_132.out.below hb); have Bm_146 := Lib.hid (show Bk _ _ _ #[.bool v.b, .slice v.A v.n v.c, .int .i64 (sprM g i).x] from Bm_133.out.below hb); have Bx_147 := Lib.hid (show Bk _ _ _ #[.bool q.b, .slice q.A q.n q.c, .int .i64 (g i).x] from Bx_134.out.below hb); have HB_148 := Lib.hid (below_tr HB_135.out hb); clear hb; have SU_149 := Lib.hid (SU_136.out.dk K); have SV_150 := Lib.hid (SV_137.out.dk K); have RQ_151 := Lib.hid (RQ_138.out.dk K); have RM_152 := Lib.hid (RM_139.out.dk K); have SX_153 := Lib.hid (SX_140.out.dk K); clear K Bo_131 Ba_132 Bm_133 Bx_134 HB_135 SU_136 SV_137 RQ_138 RM_139 SX_140; have SP_154 := Lib.hid hp; clear hp; have lo := Bo_144.out.lt; obtain ⟨co0, co1, co2⟩ := Bo_144.out.cells3; have la := Ba_145.out.lt; obtain ⟨ca0, ca1, ca2, ca3, ca4, ca5⟩ := Ba_145.out.cells6; have fa0 := Ba_145.out.free 0; have fa1 := Ba_145.out.free 1; have fa2 := Ba_145.out.free 2; have fa3 := Ba_145.out.free 3; have fa4 := Ba_145.out.free 4; have fa5 := Ba_145.out.free 5; have lm := Bm_146.out.lt; obtain ⟨cm0, cm1, cm2⟩ := Bm_146.out.cells3; have lx := Bx_147.out.lt; obtain ⟨cx0, cx1, cx2⟩ := Bx_147.out.cells3; have k_155 : (w_143).cell? ⟨wr.heap.size, 0, none⟩ = some (.bool q.b) ∧ (w_143).cell? ⟨wr.heap.size, 1, none⟩ = some (.slice q.A q.n q.c) ∧ (w_143).cell? ⟨wr.heap.size, 2, none⟩ = some (.int .i64 (g i).x) := ⟨Bx_147.out.cell 0 rfl, Bx_147.out.cell 1 rfl, Bx_147.out.cell 2 rfl⟩; have y0 := Bo_144.out.lt; have y1 := Ba_145.out.lt; have y2 := Bm_146.out.lt; have y3 := Bx_147.out.lt; have y4 := HB_148.out.size; have k_156 : ((((((w_143.setCell ⟨w.heap.size + 1, 0, none⟩ (.bool p.lo.b)).setCell ⟨w.heap.size + 1, 1, none⟩ (.slice p.lo.A p.lo.n p.lo.c)).setCell ⟨w.heap.size + 1, 2, none⟩ (.int .i64 (Sp.add (sprA g bits i) (Sp.pt (g i).abs) bits).lo.x)).setCell ⟨w.heap.size + 1, 3, none⟩ (.bool p.hi.b)).setCell ⟨w.heap.size + 1, 4, none⟩ (.slice p.hi.A p.hi.n p.hi.c)).setCell ⟨w.heap.size + 1, 5, none⟩ (.int .i64 (Sp.add (sprA g bits i) (Sp.pt (g i).abs) bits).hi.x)).cell? ⟨wr.heap.size, 0, none⟩ = some (.bool q.b) ∧ ((((((w_143.setCell ⟨w.heap.size + 1, 0, none⟩ (.bool p.lo.b)).setCell ⟨w.heap.size + 1, 1, none⟩ (.slice p.lo.A p.lo.n p.lo.c)).setCell ⟨w.heap.size + 1, 2, none⟩ (.int .i64 (Sp.add (sprA g bits i) (Sp.pt (g i).abs) bits).lo.x)).setCell ⟨w.heap.size + 1, 3, none⟩ (.bool p.hi.b)).setCell ⟨w.heap.size + 1, 4, none⟩ (.slice p.hi.A p.hi.n p.hi.c)).setCell ⟨w.heap.size + 1, 5, none⟩ (.int .i64 (Sp.add (sprA g bits i) (Sp.pt (g i).abs) bits).hi.x)).cell? ⟨wr.heap.size, 1, none⟩ = some (.slice q.A q.n q.c) ∧ ((((((w_143.setCell ⟨w.heap.size + 1, 0, none⟩ (.bool p.lo.b)).setCell ⟨w.heap.size + 1, 1, none⟩ (.slice p.lo.A p.lo.n p.lo.c)).setCell ⟨w.heap.size + 1, 2, none⟩ (.int .i64 (Sp.add (sprA g bits i) (Sp.pt (g i).abs) bits).lo.x)).setCell ⟨w.heap.size + 1, 3, none⟩ (.bool p.hi.b)).setCell ⟨w.heap.size + 1, 4, none⟩ (.slice p.hi.A p.hi.n p.hi.c)).setCell ⟨w.heap.size + 1, 5, none⟩ (.int .i64 (Sp.add (sprA g bits i) (Sp.pt (g i).abs) bits).hi.x)).cell? ⟨wr.heap.size, 2, none⟩ = some (.int .i64 (g i).x) := ⟨((((((Bx_147.out.ne (by omega) 0 (.bool p.lo.b)).ne (by omega) 1 (.slice p.lo.A p.lo.n p.lo.c)).ne (by omega) 2 (.int .i64 (Sp.add (sprA g bits i) (Sp.pt (g i).abs) bits).lo.x)).ne (by omega) 3 (.bool p.hi.b)).ne (by omega) 4 (.slice p.hi.A p.hi.n p.hi.c)).ne (by omega) 5 (.int .i64 (Sp.add (sprA g bits i) (Sp.pt (g i).abs) bits).hi.x)).cell 0 rfl, ((((((Bx_147.out.ne (by omega) 0 (.bool p.lo.b)).ne (by omega) 1 (.slice p.lo.A p.lo.n p.lo.c)).ne (by omega) 2 (.int .i64 (Sp.add (sprA g bits i) (Sp.pt (g i).abs) bits).lo.x)).ne (by omega) 3 (.bool p.hi.b)).ne (by omega) 4 (.slice p.hi.A p.hi.n p.hi.c)).ne (by omega) 5 (.int .i64 (Sp.add (sprA g bits i) (Sp.pt (g i).abs) bits).hi.x)).cell 1 rfl, ((((((Bx_147.out.ne (by omega) 0 (.bool p.lo.b)).ne (by omega) 1 (.slice p.lo.A p.lo.n p.lo.c)).ne (by omega) 2 (.int .i64 (Sp.add (sprA g bits i) (Sp.pt (g i).abs) bits).lo.x)).ne (by omega) 3 (.bool p.hi.b)).ne (by omega) 4 (.slice p.hi.A p.hi.n p.hi.c)).ne (by omega) 5 (.int .i64 (Sp.add (sprA g bits i) (Sp.pt (g i).abs) bits).hi.x)).cell 2 rfl⟩; clear y0 y1 y2 y3 y4))
        all_goals (go_wp2_with fail; go_meet; first | (have y0 := Bo_144.out.lt; have y1 := Ba_145.out.lt; have y2 := Bm_146.out.lt; have y3 := Bx_147.out.lt; have y4 := HB_148.out.size; exact ⟨p, rfl, ((((((Bo_144.out.ne (by omega) 0 (.bool p.lo.b)).ne (by omega) 1 (.slice p.lo.A p.lo.n p.lo.c)).ne (by omega) 2 (.int .i64 (Sp.add (sprA g bits i) (Sp.pt (g i).abs) bits).lo.x)).ne (by omega) 3 (.bool p.hi.b)).ne (by omega) 4 (.slice p.hi.A p.hi.n p.hi.c)).ne (by omega) 5 (.int .i64 (Sp.add (sprA g bits i) (Sp.pt (g i).abs) bits).hi.x)), ((((((Ba_145.out.set 0 (.bool p.lo.b)).set 1 (.slice p.lo.A p.lo.n p.lo.c)).set 2 (.int .i64 (Sp.add (sprA g bits i) (Sp.pt (g i).abs) bits).lo.x)).set 3 (.bool p.hi.b)).set 4 (.slice p.hi.A p.hi.n p.hi.c)).set 5 (.int .i64 (Sp.add (sprA g bits i) (Sp.pt (g i).abs) bits).hi.x)), ((((((Bm_146.out.ne (by omega) 0 (.bool p.lo.b)).ne (by omega) 1 (.slice p.lo.A p.lo.n p.lo.c)).ne (by omega) 2 (.int .i64 (Sp.add (sprA g bits i) (Sp.pt (g i).abs) bits).lo.x)).ne (by omega) 3 (.bool p.hi.b)).ne (by omega) 4 (.slice p.hi.A p.hi.n p.hi.c)).ne (by omega) 5 (.int .i64 (Sp.add (sprA g bits i) (Sp.pt (g i).abs) bits).hi.x)), ((((((Bx_147.out.ne (by omega) 0 (.bool p.lo.b)).ne (by omega) 1 (.slice p.lo.A p.lo.n p.lo.c)).ne (by omega) 2 (.int .i64 (Sp.add (sprA g bits i) (Sp.pt (g i).abs) bits).lo.x)).ne (by omega) 3 (.bool p.hi.b)).ne (by omega) 4 (.slice p.hi.A p.hi.n p.hi.c)).ne (by omega) 5 (.int .i64 (Sp.add (sprA g bits i) (Sp.pt (g i).abs) bits).hi.x)), (below_st (below_st (below_st (below_st (below_st (below_st HB_148.out 0 (by omega) (.bool p.lo.b)) 1 (by omega) (.slice p.lo.A p.lo.n p.lo.c)) 2 (by omega) (.int .i64 (Sp.add (sprA g bits i) (Sp.pt (g i).abs) bits).lo.x)) 3 (by omega) (.bool p.hi.b)) 4 (by omega) (.slice p.hi.A p.hi.n p.hi.c)) 5 (by omega) (.int .i64 (Sp.add (sprA g bits i) (Sp.pt (g i).abs) bits).hi.x)), (SP_154.out.dk (((((((Dk.refl _).set (cs := #[.bool u.lo.b, .slice u.lo.A u.lo.n u.lo.c, .int .i64 (sprA g bits i).lo.x, .bool u.hi.b, .slice u.hi.A u.hi.n u.hi.c, .int .i64 (sprA g bits i).hi.x]) Ba_145.out 0 (by intro _ hh; cases hh) (.bool p.lo.b)).set (cs := #[.bool p.lo.b, .slice u.lo.A u.lo.n u.lo.c, .int .i64 (sprA g bits i).lo.x, .bool u.hi.b, .slice u.hi.A u.hi.n u.hi.c, .int .i64 (sprA g bits i).hi.x]) (Ba_145.out.set 0 (.bool p.lo.b)) 1 (by intro _ hh; cases hh) (.slice p.lo.A p.lo.n p.lo.c)).set (cs := #[.bool p.lo.b, .slice p.lo.A p.lo.n p.lo.c, .int .i64 (sprA g bits i).lo.x, .bool u.hi.b, .slice u.hi.A u.hi.n u.hi.c, .int .i64 (sprA g bits i).hi.x]) ((Ba_145.out.set 0 (.bool p.lo.b)).set 1 (.slice p.lo.A p.lo.n p.lo.c)) 2 (by intro _ hh; cases hh) (.int .i64 (Sp.add (sprA g bits i) (Sp.pt (g i).abs) bits).lo.x)).set (cs := #[.bool p.lo.b, .slice p.lo.A p.lo.n p.lo.c, .int .i64 (Sp.add (sprA g bits i) (Sp.pt (g i).abs) bits).lo.x, .bool u.hi.b, .slice u.hi.A u.hi.n u.hi.c, .int .i64 (sprA g bits i).hi.x]) (((Ba_145.out.set 0 (.bool p.lo.b)).set 1 (.slice p.lo.A p.lo.n p.lo.c)).set 2 (.int .i64 (Sp.add (sprA g bits i) (Sp.pt (g i).abs) bits).lo.x)) 3 (by intro _ hh; cases hh) (.bool p.hi.b)).set (cs := #[.bool p.lo.b, .slice p.lo.A p.lo.n p.lo.c, .int .i64 (Sp.add (sprA g bits i) (Sp.pt (g i).abs) bits).lo.x, .bool p.hi.b, .slice u.hi.A u.hi.n u.hi.c, .int .i64 (sprA g bits i).hi.x]) ((((Ba_145.out.set 0 (.bool p.lo.b)).set 1 (.slice p.lo.A p.lo.n p.lo.c)).set 2 (.int .i64 (Sp.add (sprA g bits i) (Sp.pt (g i).abs) bits).lo.x)).set 3 (.bool p.hi.b)) 4 (by intro _ hh; cases hh) (.slice p.hi.A p.hi.n p.hi.c)).set (cs := #[.bool p.lo.b, .slice p.lo.A p.lo.n p.lo.c, .int .i64 (Sp.add (sprA g bits i) (Sp.pt (g i).abs) bits).lo.x, .bool p.hi.b, .slice p.hi.A p.hi.n p.hi.c, .int .i64 (sprA g bits i).hi.x]) (((((Ba_145.out.set 0 (.bool p.lo.b)).set 1 (.slice p.lo.A p.lo.n p.lo.c)).set 2 (.int .i64 (Sp.add (sprA g bits i) (Sp.pt (g i).abs) bits).lo.x)).set 3 (.bool p.hi.b)).set 4 (.slice p.hi.A p.hi.n p.hi.c)) 5 (by intro _ hh; cases hh) (.int .i64 (Sp.add (sprA g bits i) (Sp.pt (g i).abs) bits).hi.x))), (SV_150.out.dk (((((((Dk.refl _).set (cs := #[.bool u.lo.b, .slice u.lo.A u.lo.n u.lo.c, .int .i64 (sprA g bits i).lo.x, .bool u.hi.b, .slice u.hi.A u.hi.n u.hi.c, .int .i64 (sprA g bits i).hi.x]) Ba_145.out 0 (by intro _ hh; cases hh) (.bool p.lo.b)).set (cs := #[.bool p.lo.b, .slice u.lo.A u.lo.n u.lo.c, .int .i64 (sprA g bits i).lo.x, .bool u.hi.b, .slice u.hi.A u.hi.n u.hi.c, .int .i64 (sprA g bits i).hi.x]) (Ba_145.out.set 0 (.bool p.lo.b)) 1 (by intro _ hh; cases hh) (.slice p.lo.A p.lo.n p.lo.c)).set (cs := #[.bool p.lo.b, .slice p.lo.A p.lo.n p.lo.c, .int .i64 (sprA g bits i).lo.x, .bool u.hi.b, .slice u.hi.A u.hi.n u.hi.c, .int .i64 (sprA g bits i).hi.x]) ((Ba_145.out.set 0 (.bool p.lo.b)).set 1 (.slice p.lo.A p.lo.n p.lo.c)) 2 (by intro _ hh; cases hh) (.int .i64 (Sp.add (sprA g bits i) (Sp.pt (g i).abs) bits).lo.x)).set (cs := #[.bool p.lo.b, .slice p.lo.A p.lo.n p.lo.c, .int .i64 (Sp.add (sprA g bits i) (Sp.pt (g i).abs) bits).lo.x, .bool u.hi.b, .slice u.hi.A u.hi.n u.hi.c, .int .i64 (sprA g bits i).hi.x]) (((Ba_145.out.set 0 (.bool p.lo.b)).set 1 (.slice p.lo.A p.lo.n p.lo.c)).set 2 (.int .i64 (Sp.add (sprA g bits i) (Sp.pt (g i).abs) bits).lo.x)) 3 (by intro _ hh; cases hh) (.bool p.hi.b)).set (cs := #[.bool p.lo.b, .slice p.lo.A p.lo.n p.lo.c, .int .i64 (Sp.add (sprA g bits i) (Sp.pt (g i).abs) bits).lo.x, .bool p.hi.b, .slice u.hi.A u.hi.n u.hi.c, .int .i64 (sprA g bits i).hi.x]) ((((Ba_145.out.set 0 (.bool p.lo.b)).set 1 (.slice p.lo.A p.lo.n p.lo.c)).set 2 (.int .i64 (Sp.add (sprA g bits i) (Sp.pt (g i).abs) bits).lo.x)).set 3 (.bool p.hi.b)) 4 (by intro _ hh; cases hh) (.slice p.hi.A p.hi.n p.hi.c)).set (cs := #[.bool p.lo.b, .slice p.lo.A p.lo.n p.lo.c, .int .i64 (Sp.add (sprA g bits i) (Sp.pt (g i).abs) bits).lo.x, .bool p.hi.b, .slice p.hi.A p.hi.n p.hi.c, .int .i64 (sprA g bits i).hi.x]) (((((Ba_145.out.set 0 (.bool p.lo.b)).set 1 (.slice p.lo.A p.lo.n p.lo.c)).set 2 (.int .i64 (Sp.add (sprA g bits i) (Sp.pt (g i).abs) bits).lo.x)).set 3 (.bool p.hi.b)).set 4 (.slice p.hi.A p.hi.n p.hi.c)) 5 (by intro _ hh; cases hh) (.int .i64 (Sp.add (sprA g bits i) (Sp.pt (g i).abs) bits).hi.x))), (RQ_151.out.dk (((((((Dk.refl _).set (cs := #[.bool u.lo.b, .slice u.lo.A u.lo.n u.lo.c, .int .i64 (sprA g bits i).lo.x, .bool u.hi.b, .slice u.hi.A u.hi.n u.hi.c, .int .i64 (sprA g bits i).hi.x]) Ba_145.out 0 (by intro _ hh; cases hh) (.bool p.lo.b)).set (cs := #[.bool p.lo.b, .slice u.lo.A u.lo.n u.lo.c, .int .i64 (sprA g bits i).lo.x, .bool u.hi.b, .slice u.hi.A u.hi.n u.hi.c, .int .i64 (sprA g bits i).hi.x]) (Ba_145.out.set 0 (.bool p.lo.b)) 1 (by intro _ hh; cases hh) (.slice p.lo.A p.lo.n p.lo.c)).set (cs := #[.bool p.lo.b, .slice p.lo.A p.lo.n p.lo.c, .int .i64 (sprA g bits i).lo.x, .bool u.hi.b, .slice u.hi.A u.hi.n u.hi.c, .int .i64 (sprA g bits i).hi.x]) ((Ba_145.out.set 0 (.bool p.lo.b)).set 1 (.slice p.lo.A p.lo.n p.lo.c)) 2 (by intro _ hh; cases hh) (.int .i64 (Sp.add (sprA g bits i) (Sp.pt (g i).abs) bits).lo.x)).set (cs := #[.bool p.lo.b, .slice p.lo.A p.lo.n p.lo.c, .int .i64 (Sp.add (sprA g bits i) (Sp.pt (g i).abs) bits).lo.x, .bool u.hi.b, .slice u.hi.A u.hi.n u.hi.c, .int .i64 (sprA g bits i).hi.x]) (((Ba_145.out.set 0 (.bool p.lo.b)).set 1 (.slice p.lo.A p.lo.n p.lo.c)).set 2 (.int .i64 (Sp.add (sprA g bits i) (Sp.pt (g i).abs) bits).lo.x)) 3 (by intro _ hh; cases hh) (.bool p.hi.b)).set (cs := #[.bool p.lo.b, .slice p.lo.A p.lo.n p.lo.c, .int .i64 (Sp.add (sprA g bits i) (Sp.pt (g i).abs) bits).lo.x, .bool p.hi.b, .slice u.hi.A u.hi.n u.hi.c, .int .i64 (sprA g bits i).hi.x]) ((((Ba_145.out.set 0 (.bool p.lo.b)).set 1 (.slice p.lo.A p.lo.n p.lo.c)).set 2 (.int .i64 (Sp.add (sprA g bits i) (Sp.pt (g i).abs) bits).lo.x)).set 3 (.bool p.hi.b)) 4 (by intro _ hh; cases hh) (.slice p.hi.A p.hi.n p.hi.c)).set (cs := #[.bool p.lo.b, .slice p.lo.A p.lo.n p.lo.c, .int .i64 (Sp.add (sprA g bits i) (Sp.pt (g i).abs) bits).lo.x, .bool p.hi.b, .slice p.hi.A p.hi.n p.hi.c, .int .i64 (sprA g bits i).hi.x]) (((((Ba_145.out.set 0 (.bool p.lo.b)).set 1 (.slice p.lo.A p.lo.n p.lo.c)).set 2 (.int .i64 (Sp.add (sprA g bits i) (Sp.pt (g i).abs) bits).lo.x)).set 3 (.bool p.hi.b)).set 4 (.slice p.hi.A p.hi.n p.hi.c)) 5 (by intro _ hh; cases hh) (.int .i64 (Sp.add (sprA g bits i) (Sp.pt (g i).abs) bits).hi.x)))⟩))
      case rest =>
        clear lo co0 co1 co2 la ca0 ca1 ca2 ca3 ca4 ca5 fa0 fa1 fa2 fa3 fa4 fa5 lm cm0 cm1 cm2 lx cx0 cx1 cx2
        clear Bo_104 Ba_105 Bm_106 Bx_107 SU_109 SV_110 RQ_111 HB_108
        obtain ⟨w_159, rfl⟩ : ∃ x, x = wc := ⟨_, rfl⟩
        obtain ⟨p, rfl, bo0, bo1, bo2, bo3, hbel, hf0, hf1, hf2⟩ := hcut
        have Bo_160 := Lib.hid bo0
        have Ba_161 := Lib.hid bo1
        have Bm_162 := Lib.hid bo2
        have Bx_163 := Lib.hid bo3
        have HB_163 := Lib.hid hbel
        have SP_165 := Lib.hid hf0
        have SV_166 := Lib.hid hf1
        have RQ_167 := Lib.hid hf2
        clear bo0 bo1 bo2 bo3 hbel hf0 hf1 hf2
        have lo := Bo_160.out.lt
        obtain ⟨co0, co1, co2⟩ := Bo_160.out.cells3
        have la := Ba_161.out.lt
        obtain ⟨ca0, ca1, ca2, ca3, ca4, ca5⟩ := Ba_161.out.cells6
        have lm := Bm_162.out.lt
        obtain ⟨cm0, cm1, cm2⟩ := Bm_162.out.cells3
        have lx := Bx_163.out.lt
        obtain ⟨cx0, cx1, cx2⟩ := Bx_163.out.cells3
        go_wp2_with fail
        clear lo co0 co1 co2 la ca0 ca1 ca2 ca3 ca4 ca5 lm cm0 cm1 cm2 lx cx0 cx1 cx2
        have lo := Bo_160.out.lt
        obtain ⟨co0, co1, co2⟩ := Bo_160.out.cells3
        have la := Ba_161.out.lt
        obtain ⟨ca0, ca1, ca2, ca3, ca4, ca5⟩ := Ba_161.out.cells6
        have lm := Bm_162.out.lt
        obtain ⟨cm0, cm1, cm2⟩ := Bm_162.out.cells3
        have fm0 := Bm_162.out.free 0
        have fm1 := Bm_162.out.free 1
        have fm2 := Bm_162.out.free 2
        have lx := Bx_163.out.lt
        obtain ⟨cx0, cx1, cx2⟩ := Bx_163.out.cells3
        have ge_168 := Lib.hid (show w.heap.size ≤ w.heap.size + 1 + 1 by have := HB_163.out.size; omega)
        have ne_169 := Lib.hid (show w.heap.size ≠ w.heap.size + 1 + 1 by have := Bo_160.out.lt; have := Ba_161.out.lt; have := Bm_162.out.lt; have := Bx_163.out.lt; have := HB_163.out.size; omega)
        have ne_170 := Lib.hid (show w.heap.size + 1 ≠ w.heap.size + 1 + 1 by have := Bo_160.out.lt; have := Ba_161.out.lt; have := Bm_162.out.lt; have := Bx_163.out.lt; have := HB_163.out.size; omega)
        have ne_171 := Lib.hid (show wr.heap.size ≠ w.heap.size + 1 + 1 by have := Bo_160.out.lt; have := Ba_161.out.lt; have := Bm_162.out.lt; have := Bx_163.out.lt; have := HB_163.out.size; omega)
        have tok_172 : True := trivial
        have tok_173 : True := trivial
        go_region_with
          (first
           | (clear tok_172; go_at_call 146; refine (dabs_any _ q (g i) (RQ_167.out.dk ((Dk.refl _).drew)) nb0).mono ?_; rintro e w2 ⟨⟨m, rfl, hm⟩, hb⟩; clear lo co0 co1 co2 la ca0 ca1 ca2 ca3 ca4 ca5 lm cm0 cm1 cm2 fm0 fm1 fm2 lx cx0 cx1 cx2; have K := Dk.trans ((Dk.refl _).drew) (.below hb); have Bo_174 := Lib.hid (show Bk _ _ _ #[.bool false, .slice none 0 0, .int .i64 0] from (Bo_160.out.drew).below hb); have Ba_175 := Lib.hid (show Bk _ _ _ #[.bool p.lo.b, .slice p.lo.A p.lo.n p.lo.c, .int .i64 (Sp.add (sprA g bits i) (Sp.pt (g i).abs) bits).lo.x, .bool p.hi.b, .slice p.hi.A p.hi.n p.hi.c, .int .i64 (Sp.add (sprA g bits i) (Sp.pt (g i).abs) bits).hi.x] from (Ba_161.out.drew).below hb); have Bm_176 := Lib.hid (show Bk _ _ _ #[.bool v.b, .slice v.A v.n v.c, .int .i64 (sprM g i).x] from (Bm_162.out.drew).below hb); have Bx_177 := Lib.hid (show Bk _ _ _ #[.bool q.b, .slice q.A q.n q.c, .int .i64 (g i).x] from (Bx_163.out.drew).below hb); have HB_178 := Lib.hid (below_tr (below_dr HB_163.out) hb); clear hb; have SP_179 := Lib.hid (SP_165.out.dk K); have SV_180 := Lib.hid (SV_166.out.dk K); have RQ_181 := Lib.hid (RQ_167.out.dk K); clear K Bo_160 Ba_161 Bm_162 Bx_163 HB_163 SP_165 SV_166 RQ_167; have RM_182 := Lib.hid hm; clear hm; have lo := Bo_174.out.lt; obtain ⟨co0, co1, co2⟩ := Bo_174.out.cells3; have la := Ba_175.out.lt; obtain ⟨ca0, ca1, ca2, ca3, ca4, ca5⟩ := Ba_175.out.cells6; have lm := Bm_176.out.lt; obtain ⟨cm0, cm1, cm2⟩ := Bm_176.out.cells3; have fm0 := Bm_176.out.free 0; have fm1 := Bm_176.out.free 1; have fm2 := Bm_176.out.free 2; have lx := Bx_177.out.lt; obtain ⟨cx0, cx1, cx2⟩ := Bx_177.out.cells3)
           | (clear tok_173; go_at_call 87; refine (dmax_any _ v m (sprM g i) (g i).abs E T SV_180.out RM_182.out Lm.out (abs_lim Lx.out) (by omega)).mono ?_; rintro e w3 ⟨⟨x, rfl, hx⟩, hb⟩; clear lo co0 co1 co2 la ca0 ca1 ca2 ca3 ca4 ca5 lm cm0 cm1 cm2 fm0 fm1 fm2 lx cx0 cx1 cx2; have K := Dk.below hb; have Bo_183 := Lib.hid (show Bk _ _ _ #[.bool false, .slice none 0 0, .int .i64 0] from Bo_174.out.below hb); have Ba_184 := Lib.hid (show Bk _ _ _ #[.bool p.lo.b, .slice p.lo.A p.lo.n p.lo.c, .int .i64 (Sp.add (sprA g bits i) (Sp.pt (g i).abs) bits).lo.x, .bool p.hi.b, .slice p.hi.A p.hi.n p.hi.c, .int .i64 (Sp.add (sprA g bits i) (Sp.pt (g i).abs) bits).hi.x] from Ba_175.out.below hb); have Bm_185 := Lib.hid (show Bk _ _ _ #[.bool v.b, .slice v.A v.n v.c, .int .i64 (sprM g i).x] from Bm_176.out.below hb); have Bx_186 := Lib.hid (show Bk _ _ _ #[.bool q.b, .slice q.A q.n q.c, .int .i64 (g i).x] from Bx_177.out.below hb); have HB_187 := Lib.hid (below_tr HB_178.out hb); clear hb; have SP_188 := Lib.hid (SP_179.out.dk K); have SV_189 := Lib.hid (SV_180.out.dk K); have RQ_190 := Lib.hid (RQ_181.out.dk K); have RM_191 := Lib.hid (RM_182.out.dk K); clear K Bo_174 Ba_175 Bm_176 Bx_177 HB_178 SP_179 SV_180 RQ_181 RM_182; have RX_192 := Lib.hid hx; clear hx; have lo := Bo_183.out.lt; obtain ⟨co0, co1, co2⟩ := Bo_183.out.cells3; have la := Ba_184.out.lt; obtain ⟨ca0, ca1, ca2, ca3, ca4, ca5⟩ := Ba_184.out.cells6; have lm := Bm_185.out.lt; obtain ⟨cm0, cm1, cm2⟩ := Bm_185.out.cells3; have fm0 := Bm_185.out.free 0; have fm1 := Bm_185.out.free 1; have fm2 := Bm_185.out.free 2; have lx := Bx_186.out.lt; obtain ⟨cx0, cx1, cx2⟩ := Bx_186.out.cells3))
        all_goals (go_wp2_with fail; go_roundw)
        all_goals first | (exact ⟨i + 1, by go_num, hi2, Lib.hid ⟨p, x, (((Bo_183.out.ne ne_169.out 0 (.bool x.b)).ne ne_169.out 1 (.slice x.A x.n x.c)).ne ne_169.out 2 (.int .i64 (D.mx (sprM g i) (g i).abs).x)), (((Ba_184.out.ne ne_170.out 0 (.bool x.b)).ne ne_170.out 1 (.slice x.A x.n x.c)).ne ne_170.out 2 (.int .i64 (D.mx (sprM g i) (g i).abs).x)), (((Bm_185.out.set 0 (.bool x.b)).set 1 (.slice x.A x.n x.c)).set 2 (.int .i64 (D.mx (sprM g i) (g i).abs).x)), (below_st (below_st (below_st HB_187.out 0 ge_168.out (.bool x.b)) 1 ge_168.out (.slice x.A x.n x.c)) 2 ge_168.out (.int .i64 (D.mx (sprM g i) (g i).abs).x)), (SP_188.out.dk ((((Dk.refl _).set (cs := #[.bool v.b, .slice v.A v.n v.c, .int .i64 (sprM g i).x]) Bm_185.out 0 (by intro _ hh; cases hh) (.bool x.b)).set (cs := #[.bool x.b, .slice v.A v.n v.c, .int .i64 (sprM g i).x]) (Bm_185.out.set 0 (.bool x.b)) 1 (by intro _ hh; cases hh) (.slice x.A x.n x.c)).set (cs := #[.bool x.b, .slice x.A x.n x.c, .int .i64 (sprM g i).x]) ((Bm_185.out.set 0 (.bool x.b)).set 1 (.slice x.A x.n x.c)) 2 (by intro _ hh; cases hh) (.int .i64 (D.mx (sprM g i) (g i).abs).x))), (RX_192.out.dk ((((Dk.refl _).set (cs := #[.bool v.b, .slice v.A v.n v.c, .int .i64 (sprM g i).x]) Bm_185.out 0 (by intro _ hh; cases hh) (.bool x.b)).set (cs := #[.bool x.b, .slice v.A v.n v.c, .int .i64 (sprM g i).x]) (Bm_185.out.set 0 (.bool x.b)) 1 (by intro _ hh; cases hh) (.slice x.A x.n x.c)).set (cs := #[.bool x.b, .slice x.A x.n x.c, .int .i64 (sprM g i).x]) ((Bm_185.out.set 0 (.bool x.b)).set 1 (.slice x.A x.n x.c)) 2 (by intro _ hh; cases hh) (.int .i64 (D.mx (sprM g i) (g i).abs).x)))⟩⟩) | (simp only [intOf]; omega)
    · obtain rfl : i = n := by omega
      clear hi2
      have La := Lib.hid ((sprA_lim bits i LG.out).mono (Nat.le_refl E) (Nat.le_refl _))
      have Lp := Lib.hid (pt_lim ((sprM_lim i LG.out).mono (Nat.le_refl E) (show T ≤ T + 2 * i by omega)))
      obtain ⟨u, v, bo, ba, bm, hbel, hru, hrv⟩ := Hr.out
      have Bo_0 := Lib.hid bo
      have Ba_0 := Lib.hid ba
      have Bm_0 := Lib.hid bm
      have HB_0 := Lib.hid hbel
      have SU := Lib.hid hru
      have SV := Lib.hid hrv
      clear bo ba bm hbel hru hrv Hr
      go_upto_region 12 with (fail)
      have lo := Bo_0.out.lt
      obtain ⟨co0, co1, co2⟩ := Bo_0.out.cells3
      have la := Ba_0.out.lt
      obtain ⟨ca0, ca1, ca2, ca3, ca4, ca5⟩ := Ba_0.out.cells6
      have lm := Bm_0.out.lt
      obtain ⟨cm0, cm1, cm2⟩ := Bm_0.out.cells3
      go_cut [11, 12] (fun s11 s12 wx => ∃ (g_101 : Nat) (p : SQ), s11 = .pointer (some ⟨g_101, 0, none⟩) ∧ s12 = .int .i64 0 ∧ w.heap.size < g_101 ∧ w.heap.size + 1 < g_101 ∧ w.heap.size + 1 + 1 < g_101 ∧ Bk wx g_101 62 #[.bool p.lo.b, .slice p.lo.A p.lo.n p.lo.c, .int .i64 (Sp.sub (sprA g bits i) (Sp.pt (sprM g i)) bits).lo.x, .bool p.hi.b, .slice p.hi.A p.hi.n p.hi.c, .int .i64 (Sp.sub (sprA g bits i) (Sp.pt (sprM g i)) bits).hi.x] ∧ Bk wx (w.heap.size) 53 #[.bool false, .slice none 0 0, .int .i64 0] ∧ Bk wx (w.heap.size + 1) 62 #[.bool u.lo.b, .slice u.lo.A u.lo.n u.lo.c, .int .i64 (sprA g bits i).lo.x, .bool u.hi.b, .slice u.hi.A u.hi.n u.hi.c, .int .i64 (sprA g bits i).hi.x] ∧ Bk wx (w.heap.size + 1 + 1) 53 #[.bool v.b, .slice v.A v.n v.c, .int .i64 (sprM g i).x] ∧ Below w.heap.size w wx ∧ RS wx p (Sp.sub (sprA g bits i) (Sp.pt (sprM g i)) bits))
      case first =>
        obtain ⟨SX1, hS1⟩ : ∃ S : World → Prop, ∀ w', S w' ↔ (w'.cell? ⟨w.heap.size + 1, 0, none⟩ = some (.bool u.lo.b) ∧ w'.cell? ⟨w.heap.size + 1, 1, none⟩ = some (.slice u.lo.A u.lo.n u.lo.c) ∧ w'.cell? ⟨w.heap.size + 1, 2, none⟩ = some (.int .i64 (sprA g bits i).lo.x) ∧ w'.cell? ⟨w.heap.size + 1, 3, none⟩ = some (.bool u.hi.b) ∧ w'.cell? ⟨w.heap.size + 1, 4, none⟩ = some (.slice u.hi.A u.hi.n u.hi.c) ∧ w'.cell? ⟨w.heap.size + 1, 5, none⟩ = some (.int .i64 (sprA g bits i).hi.x) ∧ w'.cell? ⟨w.heap.size + 1 + 1, 0, none⟩ = some (.bool v.b) ∧ w'.cell? ⟨w.heap.size + 1 + 1, 1, none⟩ = some (.slice v.A v.n v.c) ∧ w'.cell? ⟨w.heap.size + 1 + 1, 2, none⟩ = some (.int .i64 (sprM g i).x)) := ⟨_, fun _ => Iff.rfl⟩
        have k_102 : SX1 (wr) := (hS1 _).2 ⟨Ba_0.out.cell 0 rfl, Ba_0.out.cell 1 rfl, Ba_0.out.cell 2 rfl, Ba_0.out.cell 3 rfl, Ba_0.out.cell 4 rfl, Ba_0.out.cell 5 rfl, Bm_0.out.cell 0 rfl, Bm_0.out.cell 1 rfl, Bm_0.out.cell 2 rfl⟩
        have k_103 : SX1 (wr.drew) := (hS1 _).2 ⟨(Ba_0.out.drew).cell 0 rfl, (Ba_0.out.drew).cell 1 rfl, (Ba_0.out.drew).cell 2 rfl, (Ba_0.out.drew).cell 3 rfl, (Ba_0.out.drew).cell 4 rfl, (Ba_0.out.drew).cell 5 rfl, (Bm_0.out.drew).cell 0 rfl, (Bm_0.out.drew).cell 1 rfl, (Bm_0.out.drew).cell 2 rfl⟩
        have tok_104 : True := trivial
        have tok_105 : True := trivial
        have tok_106 : True := trivial
        have tok_107 : True := trivial
        have tok_108 : True := trivial
        have k_109 : SX1 ((wr.alloc (.cells #[.bool false, .slice none 0 0, .int .i64 0, .bool false, .slice none 0 0, .int .i64 0] 62)).drew) := (hS1 _).2 ⟨((Ba_0.out.alloc _).drew).cell 0 rfl, ((Ba_0.out.alloc _).drew).cell 1 rfl, ((Ba_0.out.alloc _).drew).cell 2 rfl, ((Ba_0.out.alloc _).drew).cell 3 rfl, ((Ba_0.out.alloc _).drew).cell 4 rfl, ((Ba_0.out.alloc _).drew).cell 5 rfl, ((Bm_0.out.alloc _).drew).cell 0 rfl, ((Bm_0.out.alloc _).drew).cell 1 rfl, ((Bm_0.out.alloc _).drew).cell 2 rfl⟩
        go_region_held3 (fun w' => w'.cell? ⟨w.heap.size + 1, 0, none⟩ = some (.bool u.lo.b) ∧ w'.cell? ⟨w.heap.size + 1, 1, none⟩ = some (.slice u.lo.A u.lo.n u.lo.c) ∧ w'.cell? ⟨w.heap.size + 1, 2, none⟩ = some (.int .i64 (sprA g bits i).lo.x) ∧ w'.cell? ⟨w.heap.size + 1, 3, none⟩ = some (.bool u.hi.b) ∧ w'.cell? ⟨w.heap.size + 1, 4, none⟩ = some (.slice u.hi.A u.hi.n u.hi.c) ∧ w'.cell? ⟨w.heap.size + 1, 5, none⟩ = some (.int .i64 (sprA g bits i).hi.x) ∧ w'.cell? ⟨w.heap.size + 1 + 1, 0, none⟩ = some (.bool v.b) ∧ w'.cell? ⟨w.heap.size + 1 + 1, 1, none⟩ = some (.slice v.A v.n v.c) ∧ w'.cell? ⟨w.heap.size + 1 + 1, 2, none⟩ = some (.int .i64 (sprM g i).x)) (first | with_reducible exact (hS1 _).1 k_102 | with_reducible exact (hS1 _).1 k_103 | with_reducible exact (hS1 _).1 k_109 | with_reducible exact (hS1 _).1 k_118 | with_reducible exact (hS1 _).1 k_119 | with_reducible exact (hS1 _).1 k_133 | with_reducible exact (hS1 _).1 k_144 | with_reducible exact (hS1 _).1 k_148 | with_reducible exact (hS1 _).1 k_149 | with_reducible exact (hS1 _).1 k_164 | with_reducible exact (hS1 _).1 k_165 | with_reducible exact (hS1 _).1 k_177 | with_reducible exact (hS1 _).1 k_178)
          (first
           | (clear tok_104; go_at_call 59; (with_reducible refine (spoint_any (wr.drew) v (sprM g i) (SV.out.dk ((Dk.refl _).drew))).mono ?_); rintro e w_110 ⟨⟨x, rfl, hx⟩, hb⟩; clear lo co0 co1 co2 la ca0 ca1 ca2 ca3 ca4 ca5 lm cm0 cm1 cm2 k_102 k_103 k_109; have K := Dk.trans ((Dk.refl _).drew) (.below hb); have Bo_111 := Lib.hid (show Bk _ _ _ #[.bool false, .slice none 0 0, .int .i64 0] from (Bo_0.out.drew).below hb); have Ba_112 := Lib.hid (show Bk _ _ _ #[.bool u.lo.b, .slice u.lo.A u.lo.n u.lo.c, .int .i64 (sprA g bits i).lo.x, .bool u.hi.b, .slice u.hi.A u.hi.n u.hi.c, .int .i64 (sprA g bits i).hi.x] from (Ba_0.out.drew).below hb); have Bm_113 := Lib.hid (show Bk _ _ _ #[.bool v.b, .slice v.A v.n v.c, .int .i64 (sprM g i).x] from (Bm_0.out.drew).below hb); have HB_114 := Lib.hid (below_tr (below_dr HB_0.out) hb); clear hb; have SU_115 := Lib.hid (SU.out.dk K); have SV_116 := Lib.hid (SV.out.dk K); clear K Bo_0 Ba_0 Bm_0 HB_0 SU SV; have SX_117 := Lib.hid hx; clear hx; have lo := Bo_111.out.lt; obtain ⟨co0, co1, co2⟩ := Bo_111.out.cells3; have la := Ba_112.out.lt; obtain ⟨ca0, ca1, ca2, ca3, ca4, ca5⟩ := Ba_112.out.cells6; have lm := Bm_113.out.lt; obtain ⟨cm0, cm1, cm2⟩ := Bm_113.out.cells3; have k_118 : SX1 (w_110) := (hS1 _).2 ⟨Ba_112.out.cell 0 rfl, Ba_112.out.cell 1 rfl, Ba_112.out.cell 2 rfl, Ba_112.out.cell 3 rfl, Ba_112.out.cell 4 rfl, Ba_112.out.cell 5 rfl, Bm_113.out.cell 0 rfl, Bm_113.out.cell 1 rfl, Bm_113.out.cell 2 rfl⟩; have k_119 : SX1 (w_110.alloc (.cells #[.bool false, .slice none 0 0, .int .i64 0, .bool false, .slice none 0 0, .int .i64 0] 62)) := (hS1 _).2 ⟨(Ba_112.out.alloc _).cell 0 rfl, (Ba_112.out.alloc _).cell 1 rfl, (Ba_112.out.alloc _).cell 2 rfl, (Ba_112.out.alloc _).cell 3 rfl, (Ba_112.out.alloc _).cell 4 rfl, (Ba_112.out.alloc _).cell 5 rfl, (Bm_113.out.alloc _).cell 0 rfl, (Bm_113.out.alloc _).cell 1 rfl, (Bm_113.out.alloc _).cell 2 rfl⟩)
           | (clear tok_106; have n_121 := Bo_0.out.lt; have n_122 := Ba_0.out.lt; have n_123 := Bm_0.out.lt; go_at_call 59; (with_reducible refine (spoint_any ((wr.alloc (.cells #[.bool false, .slice none 0 0, .int .i64 0, .bool false, .slice none 0 0, .int .i64 0] 62)).drew) v (sprM g i) (SV.out.dk (((Dk.refl _).alloc _).drew))).mono ?_); rintro e w_124 ⟨⟨x, rfl, hx⟩, hb⟩; clear lo co0 co1 co2 la ca0 ca1 ca2 ca3 ca4 ca5 lm cm0 cm1 cm2 k_102 k_103 k_109; have K := Dk.trans (((Dk.refl _).alloc _).drew) (.below hb); have Bo_125 := Lib.hid (show Bk _ _ _ #[.bool false, .slice none 0 0, .int .i64 0] from ((Bo_0.out.alloc _).drew).below hb); have Ba_126 := Lib.hid (show Bk _ _ _ #[.bool u.lo.b, .slice u.lo.A u.lo.n u.lo.c, .int .i64 (sprA g bits i).lo.x, .bool u.hi.b, .slice u.hi.A u.hi.n u.hi.c, .int .i64 (sprA g bits i).hi.x] from ((Ba_0.out.alloc _).drew).below hb); have Bm_127 := Lib.hid (show Bk _ _ _ #[.bool v.b, .slice v.A v.n v.c, .int .i64 (sprM g i).x] from ((Bm_0.out.alloc _).drew).below hb); have Bs_128 := Lib.hid (show Bk _ _ _ #[.bool false, .slice none 0 0, .int .i64 0, .bool false, .slice none 0 0, .int .i64 0] from ((Bk.new _ 62 #[.bool false, .slice none 0 0, .int .i64 0, .bool false, .slice none 0 0, .int .i64 0]).drew).below hb); have HB_129 := Lib.hid (below_tr (below_dr (below_al HB_0.out _)) hb); clear hb; have SU_130 := Lib.hid (SU.out.dk K); have SV_131 := Lib.hid (SV.out.dk K); clear K Bo_0 Ba_0 Bm_0 HB_0 SU SV; have SX_132 := Lib.hid hx; clear hx; have lo := Bo_125.out.lt; obtain ⟨co0, co1, co2⟩ := Bo_125.out.cells3; have la := Ba_126.out.lt; obtain ⟨ca0, ca1, ca2, ca3, ca4, ca5⟩ := Ba_126.out.cells6; have lm := Bm_127.out.lt; obtain ⟨cm0, cm1, cm2⟩ := Bm_127.out.cells3; have ls := Bs_128.out.lt; obtain ⟨cs0, cs1, cs2, cs3, cs4, cs5⟩ := Bs_128.out.cells6; have fs0 := Bs_128.out.free 0; have fs1 := Bs_128.out.free 1; have fs2 := Bs_128.out.free 2; have fs3 := Bs_128.out.free 3; have fs4 := Bs_128.out.free 4; have fs5 := Bs_128.out.free 5; have k_133 : SX1 (w_124) := (hS1 _).2 ⟨Ba_126.out.cell 0 rfl, Ba_126.out.cell 1 rfl, Ba_126.out.cell 2 rfl, Ba_126.out.cell 3 rfl, Ba_126.out.cell 4 rfl, Ba_126.out.cell 5 rfl, Bm_127.out.cell 0 rfl, Bm_127.out.cell 1 rfl, Bm_127.out.cell 2 rfl⟩)
           | (clear tok_105; go_at_call 158; (with_reducible refine (ssub_any (w_110) u x (sprA g bits i) (Sp.pt (sprM g i)) bits E (T + 2 * i) SU_115.out SX_117.out La.out Lp.out (by omega) hb2 hb3 (HT.out.below HB_114.out)).mono ?_); rintro e w_135 ⟨⟨p, rfl, hp⟩, hb⟩; clear lo co0 co1 co2 la ca0 ca1 ca2 ca3 ca4 ca5 lm cm0 cm1 cm2 k_118 k_119; have K := Dk.below hb; have Bo_136 := Lib.hid (show Bk _ _ _ #[.bool false, .slice none 0 0, .int .i64 0] from Bo_111.out.below hb); have Ba_137 := Lib.hid (show Bk _ _ _ #[.bool u.lo.b, .slice u.lo.A u.lo.n u.lo.c, .int .i64 (sprA g bits i).lo.x, .bool u.hi.b, .slice u.hi.A u.hi.n u.hi.c, .int .i64 (sprA g bits i).hi.x] from Ba_112.out.below hb); have Bm_138 := Lib.hid (show Bk _ _ _ #[.bool v.b, .slice v.A v.n v.c, .int .i64 (sprM g i).x] from Bm_113.out.below hb); have HB_139 := Lib.hid (below_tr HB_114.out hb); clear hb; have SU_140 := Lib.hid (SU_115.out.dk K); have SV_141 := Lib.hid (SV_116.out.dk K); have SX_142 := Lib.hid (SX_117.out.dk K); clear K Bo_111 Ba_112 Bm_113 HB_114 SU_115 SV_116 SX_117; have SP_143 := Lib.hid hp; clear hp; have lo := Bo_136.out.lt; obtain ⟨co0, co1, co2⟩ := Bo_136.out.cells3; have la := Ba_137.out.lt; obtain ⟨ca0, ca1, ca2, ca3, ca4, ca5⟩ := Ba_137.out.cells6; have lm := Bm_138.out.lt; obtain ⟨cm0, cm1, cm2⟩ := Bm_138.out.cells3; have k_144 : SX1 (w_135) := (hS1 _).2 ⟨Ba_137.out.cell 0 rfl, Ba_137.out.cell 1 rfl, Ba_137.out.cell 2 rfl, Ba_137.out.cell 3 rfl, Ba_137.out.cell 4 rfl, Ba_137.out.cell 5 rfl, Bm_138.out.cell 0 rfl, Bm_138.out.cell 1 rfl, Bm_138.out.cell 2 rfl⟩; have n_145 := Bo_136.out.lt; have n_146 := Ba_137.out.lt; have n_147 := Bm_138.out.lt; have k_148 : SX1 (w_135.alloc (.cells #[.bool false, .slice none 0 0, .int .i64 0, .bool false, .slice none 0 0, .int .i64 0] 62)) := (hS1 _).2 ⟨(Ba_137.out.alloc _).cell 0 rfl, (Ba_137.out.alloc _).cell 1 rfl, (Ba_137.out.alloc _).cell 2 rfl, (Ba_137.out.alloc _).cell 3 rfl, (Ba_137.out.alloc _).cell 4 rfl, (Ba_137.out.alloc _).cell 5 rfl, (Bm_138.out.alloc _).cell 0 rfl, (Bm_138.out.alloc _).cell 1 rfl, (Bm_138.out.alloc _).cell 2 rfl⟩; have k_149 : SX1 (w_135.alloc (.cells #[.bool p.lo.b, .slice p.lo.A p.lo.n p.lo.c, .int .i64 (Sp.sub (sprA g bits i) (Sp.pt (sprM g i)) bits).lo.x, .bool p.hi.b, .slice p.hi.A p.hi.n p.hi.c, .int .i64 (Sp.sub (sprA g bits i) (Sp.pt (sprM g i)) bits).hi.x] 62)) := (hS1 _).2 ⟨(Ba_137.out.alloc _).cell 0 rfl, (Ba_137.out.alloc _).cell 1 rfl, (Ba_137.out.alloc _).cell 2 rfl, (Ba_137.out.alloc _).cell 3 rfl, (Ba_137.out.alloc _).cell 4 rfl, (Ba_137.out.alloc _).cell 5 rfl, (Bm_138.out.alloc _).cell 0 rfl, (Bm_138.out.alloc _).cell 1 rfl, (Bm_138.out.alloc _).cell 2 rfl⟩)
           | (clear tok_108; have n_151 := Bo_111.out.lt; have n_152 := Ba_112.out.lt; have n_153 := Bm_113.out.lt; go_at_call 158; (with_reducible refine (ssub_any (w_110.alloc (.cells #[.bool false, .slice none 0 0, .int .i64 0, .bool false, .slice none 0 0, .int .i64 0] 62)) u x (sprA g bits i) (Sp.pt (sprM g i)) bits E (T + 2 * i) (SU_115.out.dk ((Dk.refl _).alloc _)) (SX_117.out.dk ((Dk.refl _).alloc _)) La.out Lp.out (by omega) hb2 hb3 (HT.out.below (below_al HB_114.out _))).mono ?_); rintro e w_154 ⟨⟨p, rfl, hp⟩, hb⟩; clear lo co0 co1 co2 la ca0 ca1 ca2 ca3 ca4 ca5 lm cm0 cm1 cm2 k_118 k_119; have K := Dk.trans ((Dk.refl _).alloc _) (.below hb); have Bo_155 := Lib.hid (show Bk _ _ _ #[.bool false, .slice none 0 0, .int .i64 0] from (Bo_111.out.alloc _).below hb); have Ba_156 := Lib.hid (show Bk _ _ _ #[.bool u.lo.b, .slice u.lo.A u.lo.n u.lo.c, .int .i64 (sprA g bits i).lo.x, .bool u.hi.b, .slice u.hi.A u.hi.n u.hi.c, .int .i64 (sprA g bits i).hi.x] from (Ba_112.out.alloc _).below hb); have Bm_157 := Lib.hid (show Bk _ _ _ #[.bool v.b, .slice v.A v.n v.c, .int .i64 (sprM g i).x] from (Bm_113.out.alloc _).below hb); have Bs_158 := Lib.hid (show Bk _ _ _ #[.bool false, .slice none 0 0, .int .i64 0, .bool false, .slice none 0 0, .int .i64 0] from (Bk.new _ 62 #[.bool false, .slice none 0 0, .int .i64 0, .bool false, .slice none 0 0, .int .i64 0]).below hb); have HB_159 := Lib.hid (below_tr (below_al HB_114.out _) hb); clear hb; have SU_160 := Lib.hid (SU_115.out.dk K); have SV_161 := Lib.hid (SV_116.out.dk K); have SX_162 := Lib.hid (SX_117.out.dk K); clear K Bo_111 Ba_112 Bm_113 HB_114 SU_115 SV_116 SX_117; have SP_163 := Lib.hid hp; clear hp; have lo := Bo_155.out.lt; obtain ⟨co0, co1, co2⟩ := Bo_155.out.cells3; have la := Ba_156.out.lt; obtain ⟨ca0, ca1, ca2, ca3, ca4, ca5⟩ := Ba_156.out.cells6; have lm := Bm_157.out.lt; obtain ⟨cm0, cm1, cm2⟩ := Bm_157.out.cells3; have ls := Bs_158.out.lt; obtain ⟨cs0, cs1, cs2, cs3, cs4, cs5⟩ := Bs_158.out.cells6; have fs0 := Bs_158.out.free 0; have fs1 := Bs_158.out.free 1; have fs2 := Bs_158.out.free 2; have fs3 := Bs_158.out.free 3; have fs4 := Bs_158.out.free 4; have fs5 := Bs_158.out.free 5; have k_164 : SX1 (w_154) := (hS1 _).2 ⟨Ba_156.out.cell 0 rfl, Ba_156.out.cell 1 rfl, Ba_156.out.cell 2 rfl, Ba_156.out.cell 3 rfl, Ba_156.out.cell 4 rfl, Ba_156.out.cell 5 rfl, Bm_157.out.cell 0 rfl, Bm_157.out.cell 1 rfl, Bm_157.out.cell 2 rfl⟩; have y0 := Bo_155.out.lt; have y1 := Ba_156.out.lt; have y2 := Bm_157.out.lt; have y3 := Bs_158.out.lt; have y4 := HB_159.out.size; have k_165 : SX1 ((((((w_154.setCell ⟨w_110.heap.size, 0, none⟩ (.bool p.lo.b)).setCell ⟨w_110.heap.size, 1, none⟩ (.slice p.lo.A p.lo.n p.lo.c)).setCell ⟨w_110.heap.size, 2, none⟩ (.int .i64 (Sp.sub (sprA g bits i) (Sp.pt (sprM g i)) bits).lo.x)).setCell ⟨w_110.heap.size, 3, none⟩ (.bool p.hi.b)).setCell ⟨w_110.heap.size, 4, none⟩ (.slice p.hi.A p.hi.n p.hi.c)).setCell ⟨w_110.heap.size, 5, none⟩ (.int .i64 (Sp.sub (sprA g bits i) (Sp.pt (sprM g i)) bits).hi.x)) := (hS1 _).2 ⟨((((((Ba_156.out.ne (by omega) 0 (.bool p.lo.b)).ne (by omega) 1 (.slice p.lo.A p.lo.n p.lo.c)).ne (by omega) 2 (.int .i64 (Sp.sub (sprA g bits i) (Sp.pt (sprM g i)) bits).lo.x)).ne (by omega) 3 (.bool p.hi.b)).ne (by omega) 4 (.slice p.hi.A p.hi.n p.hi.c)).ne (by omega) 5 (.int .i64 (Sp.sub (sprA g bits i) (Sp.pt (sprM g i)) bits).hi.x)).cell 0 rfl, ((((((Ba_156.out.ne (by omega) 0 (.bool p.lo.b)).ne (by omega) 1 (.slice p.lo.A p.lo.n p.lo.c)).ne (by omega) 2 (.int .i64 (Sp.sub (sprA g bits i) (Sp.pt (sprM g i)) bits).lo.x)).ne (by omega) 3 (.bool p.hi.b)).ne (by omega) 4 (.slice p.hi.A p.hi.n p.hi.c)).ne (by omega) 5 (.int .i64 (Sp.sub (sprA g bits i) (Sp.pt (sprM g i)) bits).hi.x)).cell 1 rfl, ((((((Ba_156.out.ne (by omega) 0 (.bool p.lo.b)).ne (by omega) 1 (.slice p.lo.A p.lo.n p.lo.c)).ne (by omega) 2 (.int .i64 (Sp.sub (sprA g bits i) (Sp.pt (sprM g i)) bits).lo.x)).ne (by omega) 3 (.bool p.hi.b)).ne (by omega) 4 (.slice p.hi.A p.hi.n p.hi.c)).ne (by omega) 5 (.int .i64 (Sp.sub (sprA g bits i) (Sp.pt (sprM g i)) bits).hi.x)).cell 2 rfl, ((((((Ba_156.out.ne (by omega) 0 (.bool p.lo.b)).ne (by omega) 1 (.slice p.lo.A p.lo.n p.lo.c)).ne (by omega) 2 (.int .i64 (Sp.sub (sprA g bits i) (Sp.pt (sprM g i)) bits).lo.x)).ne (by omega) 3 (.bool p.hi.b)).ne (by omega) 4 (.slice p.hi.A p.hi.n p.hi.c)).ne (by omega) 5 (.int .i64 (Sp.sub (sprA g bits i) (Sp.pt (sprM g i)) bits).hi.x)).cell 3 rfl, ((((((Ba_156.out.ne (by omega) 0 (.bool p.lo.b)).ne (by omega) 1 (.slice p.lo.A p.lo.n p.lo.c)).ne (by omega) 2 (.int .i64 (Sp.sub (sprA g bits i) (Sp.pt (sprM g i)) bits).lo.x)).ne (by omega) 3 (.bool p.hi.b)).ne (by omega) 4 (.slice p.hi.A p.hi.n p.hi.c)).ne (by omega) 5 (.int .i64 (Sp.sub (sprA g bits i) (Sp.pt (sprM g i)) bits).hi.x)).cell 4 rfl, ((((((Ba_156.out.ne (by omega) 0 (.bool p.lo.b)).ne (by omega) 1 (.slice p.lo.A p.lo.n p.lo.c)).ne (by omega) 2 (.int .i64 (Sp.sub (sprA g bits i) (Sp.pt (sprM g i)) bits).lo.x)).ne (by omega) 3 (.bool p.hi.b)).ne (by omega) 4 (.slice p.hi.A p.hi.n p.hi.c)).ne (by omega) 5 (.int .i64 (Sp.sub (sprA g bits i) (Sp.pt (sprM g i)) bits).hi.x)).cell 5 rfl, ((((((Bm_157.out.ne (by omega) 0 (.bool p.lo.b)).ne (by omega) 1 (.slice p.lo.A p.lo.n p.lo.c)).ne (by omega) 2 (.int .i64 (Sp.sub (sprA g bits i) (Sp.pt (sprM g i)) bits).lo.x)).ne (by omega) 3 (.bool p.hi.b)).ne (by omega) 4 (.slice p.hi.A p.hi.n p.hi.c)).ne (by omega) 5 (.int .i64 (Sp.sub (sprA g bits i) (Sp.pt (sprM g i)) bits).hi.x)).cell 0 rfl, ((((((Bm_157.out.ne (by omega) 0 (.bool p.lo.b)).ne (by omega) 1 (.slice p.lo.A p.lo.n p.lo.c)).ne (by omega) 2 (.int .i64 (Sp.sub (sprA g bits i) (Sp.pt (sprM g i)) bits).lo.x)).ne (by omega) 3 (.bool p.hi.b)).ne (by omega) 4 (.slice p.hi.A p.hi.n p.hi.c)).ne (by omega) 5 (.int .i64 (Sp.sub (sprA g bits i) (Sp.pt (sprM g i)) bits).hi.x)).cell 1 rfl, ((((((Bm_157.out.ne (by omega) 0 (.bool p.lo.b)).ne (by omega) 1 (.slice p.lo.A p.lo.n p.lo.c)).ne (by omega) 2 (.int .i64 (Sp.sub (sprA g bits i) (Sp.pt (sprM g i)) bits).lo.x)).ne (by omega) 3 (.bool p.hi.b)).ne (by omega) 4 (.slice p.hi.A p.hi.n p.hi.c)).ne (by omega) 5 (.int .i64 (Sp.sub (sprA g bits i) (Sp.pt (sprM g i)) bits).hi.x)).cell 2 rfl⟩; clear y0 y1 y2 y3 y4)
           | (clear tok_107; go_at_call 158; (with_reducible refine (ssub_any (w_124) u x (sprA g bits i) (Sp.pt (sprM g i)) bits E (T + 2 * i) SU_130.out SX_132.out La.out Lp.out (by omega) hb2 hb3 (HT.out.below HB_129.out)).mono ?_); rintro e w_167 ⟨⟨p, rfl, hp⟩, hb⟩; clear lo co0 co1 co2 la ca0 ca1 ca2 ca3 ca4 ca5 lm cm0 cm1 cm2 ls cs0 cs1 cs2 cs3 cs4 cs5 fs0 fs1 fs2 fs3 fs4 fs5 k_133; have K := Dk.below hb; have Bo_168 := Lib.hid (show Bk _ _ _ #[.bool false, .slice none 0 0, .int .i64 0] from Bo_125.out.below hb); have Ba_169 := Lib.hid (show Bk _ _ _ #[.bool u.lo.b, .slice u.lo.A u.lo.n u.lo.c, .int .i64 (sprA g bits i).lo.x, .bool u.hi.b, .slice u.hi.A u.hi.n u.hi.c, .int .i64 (sprA g bits i).hi.x] from Ba_126.out.below hb); have Bm_170 := Lib.hid (show Bk _ _ _ #[.bool v.b, .slice v.A v.n v.c, .int .i64 (sprM g i).x] from Bm_127.out.below hb); have Bs_171 := Lib.hid (show Bk _ _ _ #[.bool false, .slice none 0 0, .int .i64 0, .bool false, .slice none 0 0, .int .i64 0] from Bs_128.out.below hb); have HB_172 := Lib.hid (below_tr HB_129.out hb); clear hb; have SU_173 := Lib.hid (SU_130.out.dk K); have SV_174 := Lib.hid (SV_131.out.dk K); have SX_175 := Lib.hid (SX_132.out.dk K); clear K Bo_125 Ba_126 Bm_127 Bs_128 HB_129 SU_130 SV_131 SX_132; have SP_176 := Lib.hid hp; clear hp; have lo := Bo_168.out.lt; obtain ⟨co0, co1, co2⟩ := Bo_168.out.cells3; have la := Ba_169.out.lt; obtain ⟨ca0, ca1, ca2, ca3, ca4, ca5⟩ := Ba_169.out.cells6; have lm := Bm_170.out.lt; obtain ⟨cm0, cm1, cm2⟩ := Bm_170.out.cells3; have ls := Bs_171.out.lt; obtain ⟨cs0, cs1, cs2, cs3, cs4, cs5⟩ := Bs_171.out.cells6; have fs0 := Bs_171.out.free 0; have fs1 := Bs_171.out.free 1; have fs2 := Bs_171.out.free 2; have fs3 := Bs_171.out.free 3; have fs4 := Bs_171.out.free 4; have fs5 := Bs_171.out.free 5; have k_177 : SX1 (w_167) := (hS1 _).2 ⟨Ba_169.out.cell 0 rfl, Ba_169.out.cell 1 rfl, Ba_169.out.cell 2 rfl, Ba_169.out.cell 3 rfl, Ba_169.out.cell 4 rfl, Ba_169.out.cell 5 rfl, Bm_170.out.cell 0 rfl, Bm_170.out.cell 1 rfl, Bm_170.out.cell 2 rfl⟩; have y0 := Bo_168.out.lt; have y1 := Ba_169.out.lt; have y2 := Bm_170.out.lt; have y3 := Bs_171.out.lt; have y4 := HB_172.out.size; have k_178 : SX1 ((((((w_167.setCell ⟨wr.heap.size, 0, none⟩ (.bool p.lo.b)).setCell ⟨wr.heap.size, 1, none⟩ (.slice p.lo.A p.lo.n p.lo.c)).setCell ⟨wr.heap.size, 2, none⟩ (.int .i64 (Sp.sub (sprA g bits i) (Sp.pt (sprM g i)) bits).lo.x)).setCell ⟨wr.heap.size, 3, none⟩ (.bool p.hi.b)).setCell ⟨wr.heap.size, 4, none⟩ (.slice p.hi.A p.hi.n p.hi.c)).setCell ⟨wr.heap.size, 5, none⟩ (.int .i64 (Sp.sub (sprA g bits i) (Sp.pt (sprM g i)) bits).hi.x)) := (hS1 _).2 ⟨((((((Ba_169.out.ne (by omega) 0 (.bool p.lo.b)).ne (by omega) 1 (.slice p.lo.A p.lo.n p.lo.c)).ne (by omega) 2 (.int .i64 (Sp.sub (sprA g bits i) (Sp.pt (sprM g i)) bits).lo.x)).ne (by omega) 3 (.bool p.hi.b)).ne (by omega) 4 (.slice p.hi.A p.hi.n p.hi.c)).ne (by omega) 5 (.int .i64 (Sp.sub (sprA g bits i) (Sp.pt (sprM g i)) bits).hi.x)).cell 0 rfl, ((((((Ba_169.out.ne (by omega) 0 (.bool p.lo.b)).ne (by omega) 1 (.slice p.lo.A p.lo.n p.lo.c)).ne (by omega) 2 (.int .i64 (Sp.sub (sprA g bits i) (Sp.pt (sprM g i)) bits).lo.x)).ne (by omega) 3 (.bool p.hi.b)).ne (by omega) 4 (.slice p.hi.A p.hi.n p.hi.c)).ne (by omega) 5 (.int .i64 (Sp.sub (sprA g bits i) (Sp.pt (sprM g i)) bits).hi.x)).cell 1 rfl, ((((((Ba_169.out.ne (by omega) 0 (.bool p.lo.b)).ne (by omega) 1 (.slice p.lo.A p.lo.n p.lo.c)).ne (by omega) 2 (.int .i64 (Sp.sub (sprA g bits i) (Sp.pt (sprM g i)) bits).lo.x)).ne (by omega) 3 (.bool p.hi.b)).ne (by omega) 4 (.slice p.hi.A p.hi.n p.hi.c)).ne (by omega) 5 (.int .i64 (Sp.sub (sprA g bits i) (Sp.pt (sprM g i)) bits).hi.x)).cell 2 rfl, ((((((Ba_169.out.ne (by omega) 0 (.bool p.lo.b)).ne (by omega) 1 (.slice p.lo.A p.lo.n p.lo.c)).ne (by omega) 2 (.int .i64 (Sp.sub (sprA g bits i) (Sp.pt (sprM g i)) bits).lo.x)).ne (by omega) 3 (.bool p.hi.b)).ne (by omega) 4 (.slice p.hi.A p.hi.n p.hi.c)).ne (by omega) 5 (.int .i64 (Sp.sub (sprA g bits i) (Sp.pt (sprM g i)) bits).hi.x)).cell 3 rfl, ((((((Ba_169.out.ne (by omega) 0 (.bool p.lo.b)).ne (by omega) 1 (.slice p.lo.A p.lo.n p.lo.c)).ne (by omega) 2 (.int .i64 (Sp.sub (sprA g bits i) (Sp.pt (sprM g i)) bits).lo.x)).ne (by omega) 3 (.bool p.hi.b)).ne (by omega) 4 (.slice p.hi.A p.hi.n p.hi.c)).ne (by omega) 5 (.int .i64 (Sp.sub (sprA g bits i) (Sp.pt (sprM g i)) bits).hi.x)).cell 4 rfl, ((((((Ba_169.out.ne (by omega) 0 (.bool p.lo.b)).ne (by omega) 1 (.slice p.lo.A p.lo.n p.lo.c)).ne (by omega) 2 (.int .i64 (Sp.sub (sprA g bits i) (Sp.pt (sprM g i)) bits).lo.x)).ne (by omega) 3 (.bool p.hi.b)).ne (by omega) 4 (.slice p.hi.A p.hi.n p.hi.c)).ne (by omega) 5 (.int .i64 (Sp.sub (sprA g bits i) (Sp.pt (sprM g i)) bits).hi.x)).cell 5 rfl, ((((((Bm_170.out.ne (by omega) 0 (.bool p.lo.b)).ne (by omega) 1 (.slice p.lo.A p.lo.n p.lo.c)).ne (by omega) 2 (.int .i64 (Sp.sub (sprA g bits i) (Sp.pt (sprM g i)) bits).lo.x)).ne (by omega) 3 (.bool p.hi.b)).ne (by omega) 4 (.slice p.hi.A p.hi.n p.hi.c)).ne (by omega) 5 (.int .i64 (Sp.sub (sprA g bits i) (Sp.pt (sprM g i)) bits).hi.x)).cell 0 rfl, ((((((Bm_170.out.ne (by omega) 0 (.bool p.lo.b)).ne (by omega) 1 (.slice p.lo.A p.lo.n p.lo.c)).ne (by omega) 2 (.int .i64 (Sp.sub (sprA g bits i) (Sp.pt (sprM g i)) bits).lo.x)).ne (by omega) 3 (.bool p.hi.b)).ne (by omega) 4 (.slice p.hi.A p.hi.n p.hi.c)).ne (by omega) 5 (.int .i64 (Sp.sub (sprA g bits i) (Sp.pt (sprM g i)) bits).hi.x)).cell 1 rfl, ((((((Bm_170.out.ne (by omega) 0 (.bool p.lo.b)).ne (by omega) 1 (.slice p.lo.A p.lo.n p.lo.c)).ne (by omega) 2 (.int .i64 (Sp.sub (sprA g bits i) (Sp.pt (sprM g i)) bits).lo.x)).ne (by omega) 3 (.bool p.hi.b)).ne (by omega) 4 (.slice p.hi.A p.hi.n p.hi.c)).ne (by omega) 5 (.int .i64 (Sp.sub (sprA g bits i) (Sp.pt (sprM g i)) bits).hi.x)).cell 2 rfl⟩; clear y0 y1 y2 y3 y4))
        all_goals (go_wp2_with fail; go_meet; first | (have y0 := Bo_136.out.lt; have y1 := Ba_137.out.lt; have y2 := Bm_138.out.lt; have y3 := HB_139.out.size; exact ⟨w_135.heap.size, p, rfl, rfl, (by omega), (by omega), (by omega), (Bk.new _ 62 #[.bool p.lo.b, .slice p.lo.A p.lo.n p.lo.c, .int .i64 (Sp.sub (sprA g bits i) (Sp.pt (sprM g i)) bits).lo.x, .bool p.hi.b, .slice p.hi.A p.hi.n p.hi.c, .int .i64 (Sp.sub (sprA g bits i) (Sp.pt (sprM g i)) bits).hi.x]), (Bo_136.out.alloc _), (Ba_137.out.alloc _), (Bm_138.out.alloc _), (below_al HB_139.out _), (SP_143.out.dk ((Dk.refl _).alloc _))⟩) | (have y0 := Bo_168.out.lt; have y1 := Ba_169.out.lt; have y2 := Bm_170.out.lt; have y3 := Bs_171.out.lt; have y4 := HB_172.out.size; exact ⟨wr.heap.size, p, rfl, rfl, (by omega), (by omega), (by omega), ((((((Bs_171.out.set 0 (.bool p.lo.b)).set 1 (.slice p.lo.A p.lo.n p.lo.c)).set 2 (.int .i64 (Sp.sub (sprA g bits i) (Sp.pt (sprM g i)) bits).lo.x)).set 3 (.bool p.hi.b)).set 4 (.slice p.hi.A p.hi.n p.hi.c)).set 5 (.int .i64 (Sp.sub (sprA g bits i) (Sp.pt (sprM g i)) bits).hi.x)), ((((((Bo_168.out.ne (by omega) 0 (.bool p.lo.b)).ne (by omega) 1 (.slice p.lo.A p.lo.n p.lo.c)).ne (by omega) 2 (.int .i64 (Sp.sub (sprA g bits i) (Sp.pt (sprM g i)) bits).lo.x)).ne (by omega) 3 (.bool p.hi.b)).ne (by omega) 4 (.slice p.hi.A p.hi.n p.hi.c)).ne (by omega) 5 (.int .i64 (Sp.sub (sprA g bits i) (Sp.pt (sprM g i)) bits).hi.x)), ((((((Ba_169.out.ne (by omega) 0 (.bool p.lo.b)).ne (by omega) 1 (.slice p.lo.A p.lo.n p.lo.c)).ne (by omega) 2 (.int .i64 (Sp.sub (sprA g bits i) (Sp.pt (sprM g i)) bits).lo.x)).ne (by omega) 3 (.bool p.hi.b)).ne (by omega) 4 (.slice p.hi.A p.hi.n p.hi.c)).ne (by omega) 5 (.int .i64 (Sp.sub (sprA g bits i) (Sp.pt (sprM g i)) bits).hi.x)), ((((((Bm_170.out.ne (by omega) 0 (.bool p.lo.b)).ne (by omega) 1 (.slice p.lo.A p.lo.n p.lo.c)).ne (by omega) 2 (.int .i64 (Sp.sub (sprA g bits i) (Sp.pt (sprM g i)) bits).lo.x)).ne (by omega) 3 (.bool p.hi.b)).ne (by omega) 4 (.slice p.hi.A p.hi.n p.hi.c)).ne (by omega) 5 (.int .i64 (Sp.sub (sprA g bits i) (Sp.pt (sprM g i)) bits).hi.x)), (below_st (below_st (below_st (below_st (below_st (below_st HB_172.out 0 (by omega) (.bool p.lo.b)) 1 (by omega) (.slice p.lo.A p.lo.n p.lo.c)) 2 (by omega) (.int .i64 (Sp.sub (sprA g bits i) (Sp.pt (sprM g i)) bits).lo.x)) 3 (by omega) (.bool p.hi.b)) 4 (by omega) (.slice p.hi.A p.hi.n p.hi.c)) 5 (by omega) (.int .i64 (Sp.sub (sprA g bits i) (Sp.pt (sprM g i)) bits).hi.x)), (SP_176.out.dk (((((((Dk.refl _).set (cs := #[.bool false, .slice none 0 0, .int .i64 0, .bool false, .slice none 0 0, .int .i64 0]) Bs_171.out 0 (by intro _ hh; cases hh) (.bool p.lo.b)).set (cs := #[.bool p.lo.b, .slice none 0 0, .int .i64 0, .bool false, .slice none 0 0, .int .i64 0]) (Bs_171.out.set 0 (.bool p.lo.b)) 1 (by intro _ hh; cases hh) (.slice p.lo.A p.lo.n p.lo.c)).set (cs := #[.bool p.lo.b, .slice p.lo.A p.lo.n p.lo.c, .int .i64 0, .bool false, .slice none 0 0, .int .i64 0]) ((Bs_171.out.set 0 (.bool p.lo.b)).set 1 (.slice p.lo.A p.lo.n p.lo.c)) 2 (by intro _ hh; cases hh) (.int .i64 (Sp.sub (sprA g bits i) (Sp.pt (sprM g i)) bits).lo.x)).set (cs := #[.bool p.lo.b, .slice p.lo.A p.lo.n p.lo.c, .int .i64 (Sp.sub (sprA g bits i) (Sp.pt (sprM g i)) bits).lo.x, .bool false, .slice none 0 0, .int .i64 0]) (((Bs_171.out.set 0 (.bool p.lo.b)).set 1 (.slice p.lo.A p.lo.n p.lo.c)).set 2 (.int .i64 (Sp.sub (sprA g bits i) (Sp.pt (sprM g i)) bits).lo.x)) 3 (by intro _ hh; cases hh) (.bool p.hi.b)).set (cs := #[.bool p.lo.b, .slice p.lo.A p.lo.n p.lo.c, .int .i64 (Sp.sub (sprA g bits i) (Sp.pt (sprM g i)) bits).lo.x, .bool p.hi.b, .slice none 0 0, .int .i64 0]) ((((Bs_171.out.set 0 (.bool p.lo.b)).set 1 (.slice p.lo.A p.lo.n p.lo.c)).set 2 (.int .i64 (Sp.sub (sprA g bits i) (Sp.pt (sprM g i)) bits).lo.x)).set 3 (.bool p.hi.b)) 4 (by intro _ hh; cases hh) (.slice p.hi.A p.hi.n p.hi.c)).set (cs := #[.bool p.lo.b, .slice p.lo.A p.lo.n p.lo.c, .int .i64 (Sp.sub (sprA g bits i) (Sp.pt (sprM g i)) bits).lo.x, .bool p.hi.b, .slice p.hi.A p.hi.n p.hi.c, .int .i64 0]) (((((Bs_171.out.set 0 (.bool p.lo.b)).set 1 (.slice p.lo.A p.lo.n p.lo.c)).set 2 (.int .i64 (Sp.sub (sprA g bits i) (Sp.pt (sprM g i)) bits).lo.x)).set 3 (.bool p.hi.b)).set 4 (.slice p.hi.A p.hi.n p.hi.c)) 5 (by intro _ hh; cases hh) (.int .i64 (Sp.sub (sprA g bits i) (Sp.pt (sprM g i)) bits).hi.x)))⟩) | (have y0 := Bo_155.out.lt; have y1 := Ba_156.out.lt; have y2 := Bm_157.out.lt; have y3 := Bs_158.out.lt; have y4 := HB_159.out.size; exact ⟨w_110.heap.size, p, rfl, rfl, (by omega), (by omega), (by omega), ((((((Bs_158.out.set 0 (.bool p.lo.b)).set 1 (.slice p.lo.A p.lo.n p.lo.c)).set 2 (.int .i64 (Sp.sub (sprA g bits i) (Sp.pt (sprM g i)) bits).lo.x)).set 3 (.bool p.hi.b)).set 4 (.slice p.hi.A p.hi.n p.hi.c)).set 5 (.int .i64 (Sp.sub (sprA g bits i) (Sp.pt (sprM g i)) bits).hi.x)), ((((((Bo_155.out.ne (by omega) 0 (.bool p.lo.b)).ne (by omega) 1 (.slice p.lo.A p.lo.n p.lo.c)).ne (by omega) 2 (.int .i64 (Sp.sub (sprA g bits i) (Sp.pt (sprM g i)) bits).lo.x)).ne (by omega) 3 (.bool p.hi.b)).ne (by omega) 4 (.slice p.hi.A p.hi.n p.hi.c)).ne (by omega) 5 (.int .i64 (Sp.sub (sprA g bits i) (Sp.pt (sprM g i)) bits).hi.x)), ((((((Ba_156.out.ne (by omega) 0 (.bool p.lo.b)).ne (by omega) 1 (.slice p.lo.A p.lo.n p.lo.c)).ne (by omega) 2 (.int .i64 (Sp.sub (sprA g bits i) (Sp.pt (sprM g i)) bits).lo.x)).ne (by omega) 3 (.bool p.hi.b)).ne (by omega) 4 (.slice p.hi.A p.hi.n p.hi.c)).ne (by omega) 5 (.int .i64 (Sp.sub (sprA g bits i) (Sp.pt (sprM g i)) bits).hi.x)), ((((((Bm_157.out.ne (by omega) 0 (.bool p.lo.b)).ne (by omega) 1 (.slice p.lo.A p.lo.n p.lo.c)).ne (by omega) 2 (.int .i64 (Sp.sub (sprA g bits i) (Sp.pt (sprM g i)) bits).lo.x)).ne (by omega) 3 (.bool p.hi.b)).ne (by omega) 4 (.slice p.hi.A p.hi.n p.hi.c)).ne (by omega) 5 (.int .i64 (Sp.sub (sprA g bits i) (Sp.pt (sprM g i)) bits).hi.x)), (below_st (below_st (below_st (below_st (below_st (below_st HB_159.out 0 (by omega) (.bool p.lo.b)) 1 (by omega) (.slice p.lo.A p.lo.n p.lo.c)) 2 (by omega) (.int .i64 (Sp.sub (sprA g bits i) (Sp.pt (sprM g i)) bits).lo.x)) 3 (by omega) (.bool p.hi.b)) 4 (by omega) (.slice p.hi.A p.hi.n p.hi.c)) 5 (by omega) (.int .i64 (Sp.sub (sprA g bits i) (Sp.pt (sprM g i)) bits).hi.x)), (SP_163.out.dk (((((((Dk.refl _).set (cs := #[.bool false, .slice none 0 0, .int .i64 0, .bool false, .slice none 0 0, .int .i64 0]) Bs_158.out 0 (by intro _ hh; cases hh) (.bool p.lo.b)).set (cs := #[.bool p.lo.b, .slice none 0 0, .int .i64 0, .bool false, .slice none 0 0, .int .i64 0]) (Bs_158.out.set 0 (.bool p.lo.b)) 1 (by intro _ hh; cases hh) (.slice p.lo.A p.lo.n p.lo.c)).set (cs := #[.bool p.lo.b, .slice p.lo.A p.lo.n p.lo.c, .int .i64 0, .bool false, .slice none 0 0, .int .i64 0]) ((Bs_158.out.set 0 (.bool p.lo.b)).set 1 (.slice p.lo.A p.lo.n p.lo.c)) 2 (by intro _ hh; cases hh) (.int .i64 (Sp.sub (sprA g bits i) (Sp.pt (sprM g i)) bits).lo.x)).set (cs := #[.bool p.lo.b, .slice p.lo.A p.lo.n p.lo.c, .int .i64 (Sp.sub (sprA g bits i) (Sp.pt (sprM g i)) bits).lo.x, .bool false, .slice none 0 0, .int .i64 0]) (((Bs_158.out.set 0 (.bool p.lo.b)).set 1 (.slice p.lo.A p.lo.n p.lo.c)).set 2 (.int .i64 (Sp.sub (sprA g bits i) (Sp.pt (sprM g i)) bits).lo.x)) 3 (by intro _ hh; cases hh) (.bool p.hi.b)).set (cs := #[.bool p.lo.b, .slice p.lo.A p.lo.n p.lo.c, .int .i64 (Sp.sub (sprA g bits i) (Sp.pt (sprM g i)) bits).lo.x, .bool p.hi.b, .slice none 0 0, .int .i64 0]) ((((Bs_158.out.set 0 (.bool p.lo.b)).set 1 (.slice p.lo.A p.lo.n p.lo.c)).set 2 (.int .i64 (Sp.sub (sprA g bits i) (Sp.pt (sprM g i)) bits).lo.x)).set 3 (.bool p.hi.b)) 4 (by intro _ hh; cases hh) (.slice p.hi.A p.hi.n p.hi.c)).set (cs := #[.bool p.lo.b, .slice p.lo.A p.lo.n p.lo.c, .int .i64 (Sp.sub (sprA g bits i) (Sp.pt (sprM g i)) bits).lo.x, .bool p.hi.b, .slice p.hi.A p.hi.n p.hi.c, .int .i64 0]) (((((Bs_158.out.set 0 (.bool p.lo.b)).set 1 (.slice p.lo.A p.lo.n p.lo.c)).set 2 (.int .i64 (Sp.sub (sprA g bits i) (Sp.pt (sprM g i)) bits).lo.x)).set 3 (.bool p.hi.b)).set 4 (.slice p.hi.A p.hi.n p.hi.c)) 5 (by intro _ hh; cases hh) (.int .i64 (Sp.sub (sprA g bits i) (Sp.pt (sprM g i)) bits).hi.x)))⟩))
      case rest =>
        clear lo co0 co1 co2 la ca0 ca1 ca2 ca3 ca4 ca5 lm cm0 cm1 cm2
        clear Bo_0 Ba_0 Bm_0 SU SV HB_0
        obtain ⟨w_181, rfl⟩ : ∃ x, x = wc := ⟨_, rfl⟩
        obtain ⟨g_101, p, rfl, rfl, nn0, nn1, nn2, bz, bo0, bo1, bo2, hbel, hf0⟩ := hcut
        have Bo_182 := Lib.hid bo0
        have n_183 := nn0
        have Ba_184 := Lib.hid bo1
        have n_185 := nn1
        have Bm_186 := Lib.hid bo2
        have n_187 := nn2
        have Bs_188 := Lib.hid bz
        have HB_188 := Lib.hid hbel
        have SP_190 := Lib.hid hf0
        clear nn0 nn1 nn2 bz bo0 bo1 bo2 hbel hf0
        have lo := Bo_182.out.lt
        obtain ⟨co0, co1, co2⟩ := Bo_182.out.cells3
        have fo0 := Bo_182.out.free 0
        have fo1 := Bo_182.out.free 1
        have fo2 := Bo_182.out.free 2
        have la := Ba_184.out.lt
        obtain ⟨ca0, ca1, ca2, ca3, ca4, ca5⟩ := Ba_184.out.cells6
        have lm := Bm_186.out.lt
        obtain ⟨cm0, cm1, cm2⟩ := Bm_186.out.cells3
        have ls := Bs_188.out.lt
        obtain ⟨cs0, cs1, cs2, cs3, cs4, cs5⟩ := Bs_188.out.cells6
        go_wp2_with fail
        have RH := Lib.hid (show RD _ p.hi (spread g i bits) from SP_190.out.2)
        go_wp2
        refine bodyPost_ret (v := .tuple #[.agg #[.bool p.hi.b, .slice p.hi.A p.hi.n p.hi.c, .int .i64 (Sp.sub (sprA g bits i) (Sp.pt (sprM g i)) bits).hi.x], .int .i64 0]) ?_ rfl ?_
        · simp [results, Tryd.f113, go_sem, co0, co1, co2]
        · have y0 := HB_188.out.size; exact ⟨⟨p.hi, rfl, (RH.out.dk ((((Dk.refl _).set (cs := #[.bool false, .slice none 0 0, .int .i64 0]) Bo_182.out 0 (by intro _ hh; cases hh) (.bool p.hi.b)).set (cs := #[.bool p.hi.b, .slice none 0 0, .int .i64 0]) (Bo_182.out.set 0 (.bool p.hi.b)) 1 (by intro _ hh; cases hh) (.slice p.hi.A p.hi.n p.hi.c)).set (cs := #[.bool p.hi.b, .slice p.hi.A p.hi.n p.hi.c, .int .i64 0]) ((Bo_182.out.set 0 (.bool p.hi.b)).set 1 (.slice p.hi.A p.hi.n p.hi.c)) 2 (by intro _ hh; cases hh) (.int .i64 (Sp.sub (sprA g bits i) (Sp.pt (sprM g i)) bits).hi.x)))⟩, (below_st (below_st (below_st HB_188.out 0 (by omega) (.bool p.hi.b)) 1 (by omega) (.slice p.hi.A p.hi.n p.hi.c)) 2 (by omega) (.int .i64 (Sp.sub (sprA g bits i) (Sp.pt (sprM g i)) bits).hi.x))⟩

end Go.Proofs.YtgioppkggpfnoaaDoor.Nu
end
