/- Texts of the seat, laid together: Gens, DCheck, Big, Raw, ZCheck, ZOk, SmP, FitR, R17U, Fewer, R17L, FarR, SmallR, R17F, RowKit, RowA. -/
import Derived.Test.YtgioppkggpfnoaaGreatDoorRd5
import Derived.Maps.AppendAt
import Derived.RegionTactic
import Derived.StillTailTactics
import Derived.Deep.RegionHeld3
import Derived.Deep.DeepCutAuto
import Derived.Deep.CutBlock
import Derived.Laws.OwnMore
import Derived.Test.YtgioppkggpfnoaaGreatDoorCards
import Derived.Test.YtgioppkggpfnoaaGreatDoorTie
import Derived.WalkKit
import Derived.ProofKit
import Derived.OpenShut
import Derived.Below
import Derived.ChangeSame
import Derived.Deep.DeepHandedRow
import Derived.Deep.DeepWitnessRowRef
import Derived.Lib.LaidTab
import Derived.ChangeArms
import Derived.WideKeyArgs
import Derived.ChangeSlices
set_option linter.all false
set_option exponentiation.threshold 20000
section
/- Rows of rows that the call makes and appends to; what a call keeps that writes two blocks alone. -/
set_option linter.unusedVariables false
namespace Go.Proofs.YtgioppkggpfnoaaGreatDoor.Nu
open Go.RowKit Go.Proofs

/-- A row of slices of the call's own: nil, or at the head of a block of slices alone. -/
def OR (w : World) (v : Value) (m : Nat) (xs : List Value) : Prop :=
  xs.length = m ∧ ((v = .slice none 0 0 ∧ xs = []) ∨ ∃ g cap cur, v = .slice (some ⟨g, 0, none⟩) m cap ∧ m ≤ cap ∧ cap ≤ maxLen ∧ Bk w g 22 cur ∧ cur.size = cap ∧ cur.toList.take m = xs ∧ ∀ (j : Nat) u, cur[j]? = some u → ∃ A n c, u = .slice A n c)
theorem OR.nil (w : World) : OR w (.slice none 0 0) 0 [] := ⟨rfl, .inl ⟨rfl, rfl⟩⟩
theorem OR.lt {w : World} {v : Value} {m : Nat} {xs : List Value} (h : OR w v m xs) : ∀ k, v.ownBlock = some k → k < w.heap.size := by
  rcases h.2 with ⟨rfl, _⟩ | ⟨g, cap, cur, rfl, _, _, hb, _⟩
  · intro k hk; cases hk
  · intro k hk
    obtain rfl : g = k := by simpa [Value.ownBlock] using hk
    exact hb.lt
theorem OR.keep {w w' : World} {v : Value} {m : Nat} {xs : List Value} (h : OR w v m xs) (hg : ∀ k, v.ownBlock = some k → w'.heap[k]? = w.heap[k]?) : OR w' v m xs := by
  refine ⟨h.1, ?_⟩
  rcases h.2 with ⟨rfl, e⟩ | ⟨g, cap, cur, rfl, h1, h2, hb, h3⟩
  · exact .inl ⟨rfl, e⟩
  · exact .inr ⟨g, cap, cur, rfl, h1, h2, (hg g rfl).trans hb, h3⟩
theorem infoL : (Tryz.prog.info? 22).map (fun i => (i.zero, i.size, i.bytes)) = some (some (.slice none 0 0), 1, 24) := by kernel_rfl
theorem dk_of_slices {w w' : World} {row : Option Nat} (hg : w.grownBy w' row) (h : ∀ k, row = some k → k < w.heap.size → ∃ cur t, Bk w k t cur ∧ ∀ (j : Nat) u, cur[j]? = some u → ∃ A n c, u = .slice A n c) : Dk w w' := by
  refine ⟨hg.size, fun b o v e => ?_⟩
  by_cases hb : row = some b
  · obtain ⟨cur, t, hk, hj⟩ := h b hb (cell_lt e)
    rw [Lib.cell_of_heap hk] at e
    obtain ⟨A, n, c, e2⟩ := hj o _ e
    cases e2
  · exact hg.cell e (fun e2 => hb e2.symm)
/-- One element more. -/
theorem run_append_sl (w : World) (ty : TypeId) (v : Value) (m : Nat) (xs : List Value) (hown : OR w v m xs) (ad : Addr) (c : Nat) (A : Option Addr) (n d : Nat) (hu : w.cell? ad = some (.slice A n d)) (hm : m ≤ 1000000) :
    ∃ v' w', (Builtin.append_ #[23, 23] ty #[v, .slice (some ad) 1 c]).run Tryz.prog w = .ok v' w' ∧ OR w' v' (m + 1) (xs ++ [.slice A n d]) ∧ w.grownBy w' v.ownBlock ∧ Dk w w' ∧ (v'.ownBlock = v.ownBlock ∨ v'.ownBlock = some w.heap.size) := by
  obtain ⟨i0, hi, hz0, hz1, hz2⟩ := info_parts infoL
  have ht := Tryz.underlying23
  have hnews : ∀ j u, [Value.slice A n d][j]? = some u → w.cell? (ad.add j) = some u := by
    intro j u h
    match j, h with
    | 0, h =>
      simp at h
      rw [← h, ← hu]
      congr 1
  have h1 : ∀ u ∈ [Value.slice A n d], u.oneCell' = true := by intro u hu; simp at hu; subst hu; rfl
  have hl : [Value.slice A n d].length = 1 * i0.size := by rw [hz1]; rfl
  have hml : (1000001 : Nat) ≤ maxLen := by unfold maxLen; omega
  have grown : ∀ (old : Nat) (row : Option Nat), (∀ k, row = some k → k < w.heap.size → ∃ cur t, Bk w k t cur ∧ ∀ (j : Nat) u, cur[j]? = some u → ∃ A n c, u = .slice A n c) →
      OR (w.drew.alloc (.cells (xs.toArray ++ [Value.slice A n d].toArray ++ Builtin.zeroCells (Value.slice none 0 0).cells (grownCap w (m + 1) old 22 - (m + 1))) 22)) (.slice (some ⟨w.heap.size, 0, none⟩) (m + 1) (grownCap w (m + 1) old 22)) (m + 1) (xs ++ [.slice A n d]) ∧
      w.grownBy (w.drew.alloc (.cells (xs.toArray ++ [Value.slice A n d].toArray ++ Builtin.zeroCells (Value.slice none 0 0).cells (grownCap w (m + 1) old 22 - (m + 1))) 22)) row ∧
      Dk w (w.drew.alloc (.cells (xs.toArray ++ [Value.slice A n d].toArray ++ Builtin.zeroCells (Value.slice none 0 0).cells (grownCap w (m + 1) old 22 - (m + 1))) 22)) := by
    intro old row hrow
    have hge := grownCap_ge w (m + 1) old 22
    have hcm : grownCap w (m + 1) old 22 ≤ maxLen := grownCap_le_maxLen w (m + 1) old 22 (by omega)
    refine ⟨⟨by simp [hown.1], .inr ⟨w.heap.size, _, _, rfl, hge, hcm, alloc_top w.drew _, ?_, ?_, ?_⟩⟩, ⟨rfl, rfl, rfl, by simp, fun k hk _ => by first | exact heap_alloc_old w.drew _ k hk | exact heap_alloc_old w.drew _ hk⟩, ((Dk.refl w).drew).alloc _⟩
    · simp only [Array.size_append, List.size_toArray, size_zeroCells, Value.cells, hown.1, List.length_cons, List.length_nil]
      simp
      omega
    · simp only [Array.toList_append, List.append_assoc]
      rw [← List.append_assoc]
      have : (xs ++ [Value.slice A n d]).length = m + 1 := by simp [hown.1]
      rw [← this]
      exact List.take_left
    · intro j u hj
      have hmem := Array.mem_of_getElem? hj
      simp only [Array.mem_append, List.mem_toArray] at hmem
      rcases hmem with (hx | hx) | hx
      · have hxs : ∀ u ∈ xs, ∃ A n c, u = Value.slice A n c := by
          intro u hu
          rcases hown.2 with ⟨_, e⟩ | ⟨g, cap, cur, _, _, _, _, _, e, hall⟩
          · subst e; cases hu
          · rw [← e] at hu
            have h3 := List.mem_of_mem_take hu
            obtain ⟨k, hk⟩ := List.mem_iff_getElem?.1 h3
            exact hall k u (by simpa using hk)
        exact hxs u hx
      · simp at hx
        exact ⟨A, n, d, hx⟩
      · simp [Builtin.zeroCells, Value.cells] at hx
        obtain ⟨k, _, e⟩ := hx
        simp [Nat.mod_one] at e
        exact ⟨none, 0, 0, e.symm⟩
  rcases hown.2 with ⟨rfl, e⟩ | ⟨g, cap, cur, rfl, h2, h3, hg, h5, htake, hall⟩
  · subst e
    have hm0 : m = 0 := by have := hown.1; simpa using this.symm
    subst hm0
    have hr := run_append_nil (P := Tryz.prog) w 23 ty 22 i0 (.slice none 0 0) ht hi hz0 ad 1 c [.slice A n d] hl hnews (by omega) (by omega) (by rw [hz2]; omega)
    have hgr := grown 0 (Value.ownBlock (.slice none 0 0)) (by intro k hk; cases hk)
    simp only [Nat.zero_add, List.nil_append, Array.empty_append] at hgr ⊢
    exact ⟨_, _, hr, hgr.1, hgr.2.1, hgr.2.2, .inr rfl⟩
  · by_cases hroom : m + 1 ≤ cap
    · have hfit : m * i0.size + [Value.slice A n d].length ≤ cur.size := by rw [hz1, h5]; simp; omega
      have hr := run_append_room (P := Tryz.prog) w 23 ty 22 i0 ht hi g m cap cur hg ad 1 c [.slice A n d] hl hnews h1 hroom hfit
      have hgb : w.grownBy (w.setRow g (cur.toList.take (m * i0.size) ++ [Value.slice A n d] ++ cur.toList.drop (m * i0.size + [Value.slice A n d].length)).toArray) (Value.ownBlock (.slice (some ⟨g, 0, none⟩) m cap)) := ⟨rfl, rfl, rfl, by simp, fun k _ hk => setRow_other w g k _ (fun e => hk (by simp [Value.ownBlock, e]))⟩
      refine ⟨_, _, hr, ⟨by simp [hown.1], .inr ⟨g, cap, _, rfl, hroom, h3, setRow_heap w g cur _ _ _ hg, ?_, ?_, ?_⟩⟩, hgb, dk_of_slices hgb ?_, .inl rfl⟩
      · rw [hz1]
        simp only [List.size_toArray, List.length_append, List.length_take, List.length_drop, Array.length_toList, Nat.mul_one, List.length_cons, List.length_nil]
        omega
      · rw [hz1, Nat.mul_one, htake]
        have : (xs ++ [Value.slice A n d]).length = m + 1 := by simp [hown.1]
        rw [← this]
        exact List.take_left
      · intro j u hj
        have hmem := List.mem_of_getElem? (by simpa using hj : (cur.toList.take (m * i0.size) ++ [Value.slice A n d] ++ cur.toList.drop (m * i0.size + [Value.slice A n d].length))[j]? = some u)
        simp only [List.mem_append] at hmem
        have hin : ∀ u ∈ cur.toList, ∃ A n c, u = Value.slice A n c := by
          intro u hu
          obtain ⟨k, hk⟩ := List.mem_iff_getElem?.1 hu
          exact hall k u (by simpa using hk)
        rcases hmem with (hx | hx) | hx
        · exact hin u (List.mem_of_mem_take hx)
        · simp at hx
          exact ⟨A, n, d, hx⟩
        · exact hin u (List.mem_of_mem_drop hx)
      · intro k hk _
        obtain rfl : g = k := by simpa [Value.ownBlock] using hk
        exact ⟨cur, _, hg, hall⟩
    · have holds : ∀ j u, xs[j]? = some u → w.cell? ((⟨g, 0, none⟩ : Addr).add j) = some u := by
        intro j u hj
        rw [Addr.add_lit, Nat.zero_add, Lib.cell_of_heap hg]
        rw [← htake, List.getElem?_take] at hj
        split at hj
        · simpa using hj
        · cases hj
      have hr := run_append_grow (P := Tryz.prog) w 23 ty 22 i0 (.slice none 0 0) ht hi hz0 ⟨g, 0, none⟩ m cap xs (by rw [hz1, Nat.mul_one]; exact hown.1) holds ad 1 c [.slice A n d] hl hnews (by omega) (by omega) (growslice_fits (by omega) (by rw [hz2]; omega))
      have hgr := grown cap (Value.ownBlock (.slice (some ⟨g, 0, none⟩) m cap)) (by
        intro k hk _
        obtain rfl : g = k := by simpa [Value.ownBlock] using hk
        exact ⟨cur, _, hg, hall⟩)
      exact ⟨_, _, hr, hgr.1, hgr.2.1, hgr.2.2, .inr rfl⟩
theorem wpList_append_sl {ops : Array Oper} {rest : List Oper} {o : Oper} {a : Act} {Q : Exit → Act → World → Prop} {w : World} (hgd : o.guard = none) (s x : Operand)
    (ho : o.op = .call { callee := .builtin .append, args := #[s, x], argTypes := #[23, 23] })
    (v : Value) (m : Nat) (xs : List Value) (hs : a.eval s = v) (hown : OR w v m xs) (ad : Addr) (c : Nat) (A : Option Addr) (n d : Nat) (hx : a.eval x = .slice (some ad) 1 c) (hu : w.cell? ad = some (.slice A n d)) (hm : m ≤ 1000000)
    (h : ∀ v' w', OR w' v' (m + 1) (xs ++ [.slice A n d]) → w.grownBy w' v.ownBlock → Dk w w' → (v'.ownBlock = v.ownBlock ∨ v'.ownBlock = some w.heap.size) → wpList Tryz.prog ops Q rest (a.put o.dst v') w') :
    wpList Tryz.prog ops Q (o :: rest) a w := by
  refine wpList_plain hgd fun K hK => ?_
  obtain ⟨v', w', hr, h2, h3, h4, h5⟩ := run_append_sl w o.type v m xs hown ad c A n d hu hm
  unfold Oper.wp execOp
  simp only [ho, resolve, invoke, builtin, Sem.run_bind, Sem.run_pure, Result.andThen_ok, List.map_toArray, List.map_cons, List.map_nil, hs, hx, hr]
  exact hK _ _ (h v' w' h2 h3 h4 h5)
end Go.Proofs.YtgioppkggpfnoaaGreatDoor.Nu
end

section
/- The walk of dyad.Check, over whatever row of digits. -/
set_option linter.unusedVariables false
namespace Go.Proofs.YtgioppkggpfnoaaGreatDoor.Nu
open Go.RowKit Go.Proofs

theorem RI.back {w w0 : World} {b : Bool} {A : Option Addr} {n c : Nat} {xs : List Nat} (h : RI w0 b A n c (zv b xs)) (hl : RL w A n xs) : RI w b A n c (zv b xs) := by
  refine ⟨h.1, h.2.1, ?_⟩
  have e0 : (zv b xs).natAbs = val xs := by unfold zv; cases b <;> simp
  have h1 := h.2.2.1
  rw [e0] at h1
  have e4 : digs (val xs) = xs := by
    obtain ⟨k, hk⟩ := digs_trim hl.2.2.1
    have : k = 0 := by
      have := congrArg List.length hk
      rw [List.length_append, List.length_replicate, h1, hl.1] at this
      omega
    subst this
    rw [List.replicate_zero, List.append_nil] at hk
    exact hk.symm
  rw [e0]
  unfold RN
  rw [e4]
  exact hl
theorem val_odd {xs : List Nat} (h : 0 < xs.length) : val xs % 2 = dg xs 0 % 2 := by
  cases xs with
  | nil => simp at h
  | cons x xs => simp only [val, dg, List.getD_cons_zero]; omega
theorem zv_odd {w : World} {A : Option Addr} {n : Nat} {xs : List Nat} {b : Bool} (h : RL w A n xs) (hn : 0 < n) : (zv b xs % 2 = 1 ↔ dg xs 0 % 2 = 1) := by
  have h1 := val_odd (xs := xs) (by rw [h.1]; exact hn)
  unfold zv
  cases b
  · simp only [Bool.false_eq_true, if_false]; omega
  · simp only [if_true]; omega

set_option maxRecDepth 100000 in
set_option maxHeartbeats 4000000 in
theorem dcheck_any (w : World) (b : Bool) (A : Option Addr) (n c : Nat) (xs : List Nat) (x : Int) (h : RL w A n xs) (hc : n ≤ c) :
    Calls Tryz.prog 16 #[.agg #[.bool b, .slice A n c, .int .i64 x]] w fun e w' => (∃ r : Int, e = .returned (.int .i64 r) ∧ (r = 0 ↔ n ≤ 512 ∧ RI w b A n c (zv b xs) ∧ D.Can ⟨zv b xs, x⟩ ∧ -65536 ≤ x ∧ x ≤ 65536)) ∧ Below w.heap.size w w' := by
  have H := Lib.hid h
  clear h
  have BX := Lib.hid (boxes1 w 38 #[.bool b, .slice A n c, .int .i64 x])
  have HC := Lib.hid hc
  clear hc
  have BX := Lib.hid (boxes1 w 38 #[.bool b, .slice A n c, .int .i64 x])
  go_enter Tryz.func16, Tryz.ntmps16
  go_wp2_with fail
  generalize w.alloc (.cells #[.bool b, .slice A n c, .int .i64 x] 38) = w0 at *
  obtain ⟨b0, hw⟩ := BX.out
  have Ba_0 := Lib.hid b0
  have HB_0 := Lib.hid hw
  have K := Dk.below (hw.mono (Nat.le_refl _))
  clear BX hw b0
  clear K
  have la := Ba_0.out.lt
  obtain ⟨ca0, ca1, ca2⟩ := Ba_0.out.cells3
  have BW := Lib.hid HB_0.out
  go_wp2_with fail
  refine (wcheck_any _ b A n c xs (H.out.below HB_0.out) HC.out).mono ?_
  rintro e w1 ⟨⟨r, rfl, hr⟩, hb⟩
  clear la ca0 ca1 ca2
  have K := Dk.below hb
  have Ba_1 := Lib.hid (show Bk _ _ _ #[.bool b, .slice A n c, .int .i64 x] from Ba_0.out.below hb)
  have HB_2 := Lib.hid (below_tr HB_0.out hb)
  clear hb
  clear K Ba_0 HB_0
  have HR := Lib.hid hr
  clear hr
  have la := Ba_1.out.lt
  obtain ⟨ca0, ca1, ca2⟩ := Ba_1.out.cells3
  by_cases hr0 : r = 0
  · subst hr0
    have hri := HR.out.1 rfl
    have HI := Lib.hid hri.2
    have hn5 := hri.1
    clear hri HR
    by_cases hn : n = 0
    · have q0 : (n : Int) ≤ 0 := by omega
      have hz : zv b xs = 0 := by have := HI.out.pos; omega
      have HZ := Lib.hid hz
      clear hz
      have HN := Lib.hid hn
      clear hn
      by_cases hx1 : 65536 < x
      · skip
        go_wp2
        go_ret
        exact ⟨⟨1, rfl, by omega, fun h => absurd h.2.2.2.2 (by omega)⟩, HB_2.out⟩
      · by_cases hx2 : x < -65536
        · skip
          go_wp2
          go_ret
          exact ⟨⟨1, rfl, by omega, fun h => absurd h.2.2.2.1 (by omega)⟩, HB_2.out⟩
        · skip
          by_cases hx0 : x = 0
          · have HX0 := Lib.hid hx0
            have q1 : (x == 0) = true := by rw [beq_iff_eq]; exact hx0
            have q2 : (x != 0) = false := by rw [bne, q1]; rfl
            clear hx0
            go_wp2
            go_ret
            exact ⟨⟨0, rfl, fun _ => ⟨hn5, HI.out.back H.out, .inr ⟨HZ.out, HX0.out⟩, by omega, by omega⟩, fun _ => rfl⟩, HB_2.out⟩
          · have q1 : (x == 0) = false := by rw [beq_eq_false_iff_ne]; exact hx0
            have q2 : (x != 0) = true := by rw [bne, q1]; rfl
            have HX0 := Lib.hid hx0
            clear hx0
            go_wp2
            go_ret
            exact ⟨⟨2, rfl, by omega, fun h => by have h1 := h.2.2.1; have h2 := HZ.out; have h3 := HX0.out; unfold D.Can at h1; simp only at h1; omega⟩, HB_2.out⟩
    · have q0 : (0 : Int) < (n : Int) := by omega
      obtain ⟨b1, o1, rfl, hl1, hcc⟩ := H.out.2.2.2 (by omega)
      have x0 : w1.cell? ⟨b1, o1, none⟩ = some (.int .u32 (dg xs 0)) := (HB_2.out.cell (p := ⟨b1, o1, none⟩) hl1).trans (hcc 0 (by omega))
      have HP := Lib.hid (zv_odd (b := b) H.out (by omega))
      have hd := dg_lt H.out.2.2.1 0
      clear hcc hn
      have ha := bits_and_u32_nat (dg xs 0) 1 hd (by omega)
      rw [Nat.and_one_is_mod] at ha
      have HA2 := Lib.hid ha
      clear ha
      generalize dg xs 0 = d at *
      by_cases ho : d % 2 = 1
      · have q5 : (bits .and .u32 (d : Int) 1 == 1) = true := by
          have e := HA2.out
          rw [show (1 : Int) = ((1 : Nat) : Int) from rfl, e]
          rw [ho]; rfl
        have HO := Lib.hid ho
        clear ho
        by_cases hx1 : 65536 < x
        · skip
          go_wp2
          go_ret
          exact ⟨⟨1, rfl, by omega, fun h => absurd h.2.2.2.2 (by omega)⟩, HB_2.out⟩
        · by_cases hx2 : x < -65536
          · skip
            go_wp2
            go_ret
            exact ⟨⟨1, rfl, by omega, fun h => absurd h.2.2.2.1 (by omega)⟩, HB_2.out⟩
          · skip
            go_wp2
            go_ret
            exact ⟨⟨0, rfl, fun _ => ⟨hn5, HI.out.back H.out, .inl (HP.out.2 HO.out), by omega, by omega⟩, fun _ => rfl⟩, HB_2.out⟩
      · have q5 : (bits .and .u32 (d : Int) 1 == 1) = false := by
          have e := HA2.out
          rw [show (1 : Int) = ((1 : Nat) : Int) from rfl, e]
          rw [beq_eq_false_iff_ne]; omega
        have HO := Lib.hid ho
        clear ho
        by_cases hx1 : 65536 < x
        · skip
          go_wp2
          go_ret
          exact ⟨⟨1, rfl, by omega, fun h => absurd h.2.2.2.2 (by omega)⟩, HB_2.out⟩
        · by_cases hx2 : x < -65536
          · skip
            go_wp2
            go_ret
            exact ⟨⟨1, rfl, by omega, fun h => absurd h.2.2.2.1 (by omega)⟩, HB_2.out⟩
          · skip
            go_wp2
            go_ret
            exact ⟨⟨2, rfl, by omega, fun h => by have h1 := h.2.2.1; have h2 := HP.out; have h3 := HO.out; have h4 := HI.out.pos; unfold D.Can at h1; simp only at h1; omega⟩, HB_2.out⟩
  · have q0 : ((r : Int) == 0) = false := by rw [beq_eq_false_iff_ne]; exact hr0
    have q1 : ((r : Int) != 0) = true := by rw [bne, q0]; rfl
    have H0 := Lib.hid hr0
    clear hr0
    go_wp2
    go_ret
    exact ⟨⟨r, rfl, fun h => absurd h H0.out, fun h => HR.out.2 ⟨h.1, h.2.1.below (BW.out)⟩⟩, HB_2.out⟩

end Go.Proofs.YtgioppkggpfnoaaGreatDoor.Nu
end

section
/- Rows of more digits than may be: told at once, no digit is read. -/
set_option linter.unusedVariables false
namespace Go.Proofs.YtgioppkggpfnoaaGreatDoor.Nu
open Go.RowKit Go.Proofs

theorem check_big (w : World) (A : Option Addr) (n c : Nat) (hn : 512 < n) (hm : n ≤ 9223372036854775807) :
    Calls Tryz.prog 63 #[.slice A n c] w fun e w' => e = .returned (.int .i64 11) ∧ w' = w := by
  have q0 : (512 : Int) < (n : Int) := by omega
  go_enter Tryz.func63, Tryz.ntmps63
  go_wp2
  go_ret
  exact ⟨rfl, rfl⟩
set_option maxHeartbeats 2000000 in
theorem wcheck_big (w : World) (b : Bool) (A : Option Addr) (n c : Nat) (hn : 512 < n) (hm : n ≤ 9223372036854775807) :
    Calls Tryz.prog 36 #[.agg #[.bool b, .slice A n c]] w fun e w' => e = .returned (.int .i64 11) ∧ Below w.heap.size w w' := by
  have B0 := Lib.hid (Blk2.new w 36 (.bool b) (.slice A n c))
  have HW := Lib.hid (show Below w.heap.size w (w.alloc (.cells #[.bool b, .slice A n c] 36)) from (Below.refl _ w).alloc (Nat.le_refl _) _)
  go_enter Tryz.func36, Tryz.ntmps36
  go_wp2_with fail
  generalize w.alloc (.cells #[.bool b, .slice A n c] 36) = w0 at *
  refine (check_big w0 A n c hn hm).mono ?_
  rintro e w1 ⟨rfl, rfl⟩
  go_wp2
  go_ret
  exact ⟨rfl, HW.out⟩
set_option maxRecDepth 100000 in
set_option maxHeartbeats 4000000 in
theorem dcheck_big (w : World) (b : Bool) (A : Option Addr) (n c : Nat) (x : Int) (hn : 512 < n) (hm : n ≤ 9223372036854775807) :
    Calls Tryz.prog 16 #[.agg #[.bool b, .slice A n c, .int .i64 x]] w fun e w' => e = .returned (.int .i64 11) ∧ Below w.heap.size w w' := by
  have BX := Lib.hid (boxes1 w 38 #[.bool b, .slice A n c, .int .i64 x])
  go_enter Tryz.func16, Tryz.ntmps16
  go_wp2_with fail
  generalize w.alloc (.cells #[.bool b, .slice A n c, .int .i64 x] 38) = w0 at *
  obtain ⟨b0, hw⟩ := BX.out
  have HB := Lib.hid hw
  have ca0 := b0.cell 0 rfl
  have ca1 := b0.cell 1 rfl
  have ca2 := b0.cell 2 rfl
  clear BX hw b0
  go_wp2_with fail
  refine (wcheck_big _ b A n c hn hm).mono ?_
  rintro e w1 ⟨rfl, hb⟩
  have HB2 := Lib.hid (below_tr HB.out hb)
  clear hb ca0 ca1 ca2
  go_wp2
  go_ret
  exact ⟨rfl, HB2.out⟩
/-- A row of digits, where it isn't too long to be one. -/
def RL2 (w : World) (A : Option Addr) (n : Nat) (xs : List Nat) : Prop := n ≤ 9223372036854775807 ∧ (n ≤ 512 → RL w A n xs)
theorem RL2.below {w w' : World} {A : Option Addr} {n : Nat} {xs : List Nat} (h : RL2 w A n xs) (hb : Below w.heap.size w w') : RL2 w' A n xs := ⟨h.1, fun e => (h.2 e).below hb⟩
theorem RL2.of {w : World} {A : Option Addr} {n : Nat} {xs : List Nat} (h : RL w A n xs) : RL2 w A n xs := ⟨by have := h.2.1; omega, fun _ => h⟩
theorem dcheck_raw (w : World) (b : Bool) (A : Option Addr) (n c : Nat) (xs : List Nat) (x : Int) (h : RL2 w A n xs) (hc : n ≤ c) :
    Calls Tryz.prog 16 #[.agg #[.bool b, .slice A n c, .int .i64 x]] w fun e w' => (∃ r : Int, e = .returned (.int .i64 r) ∧ (r = 0 ↔ n ≤ 512 ∧ RI w b A n c (zv b xs) ∧ D.Can ⟨zv b xs, x⟩ ∧ -65536 ≤ x ∧ x ≤ 65536)) ∧ Below w.heap.size w w' := by
  by_cases hn : n ≤ 512
  · exact dcheck_any w b A n c xs x (h.2 hn) hc
  · refine (dcheck_big w b A n c x (by omega) h.1).mono ?_
    rintro e w' ⟨rfl, hb⟩
    exact ⟨⟨11, rfl, by omega⟩, hb⟩
end Go.Proofs.YtgioppkggpfnoaaGreatDoor.Nu
end

section
/- Rows of dyads that came in, of whatever form; and those that may be. -/
set_option linter.unusedVariables false
namespace Go.Proofs.YtgioppkggpfnoaaGreatDoor.Nu
open Go.RowKit Go.Proofs

/-- The three cells of element j of a row of dyads. -/
def At3 (w : World) (b off j : Nat) (q : Q) (x : Int) : Prop :=
  w.cell? ⟨b, off + j * 3, none⟩ = some (.bool q.b) ∧ w.cell? ⟨b, off + j * 3 + 1, none⟩ = some (.slice q.A q.n q.c) ∧ w.cell? ⟨b, off + j * 3 + 2, none⟩ = some (.int .i64 x)
theorem At3.uniq {w : World} {b off j : Nat} {q q' : Q} {x x' : Int} (h : At3 w b off j q x) (h' : At3 w b off j q' x') : q = q' ∧ x = x' := by
  obtain ⟨a, c, d⟩ := h
  obtain ⟨a', c', d'⟩ := h'
  rw [a] at a'
  rw [c] at c'
  rw [d] at d'
  cases q
  cases q'
  simp only at *
  injection a' with a'
  injection a' with a'
  injection c' with c'
  injection c' with c1 c2 c3
  injection d' with d'
  injection d' with d1 d2
  subst a' c1 c2 c3 d2
  exact ⟨rfl, rfl⟩
/-- A row of dyads of whatever form. -/
def RawD (w : World) (A : Option Addr) (n c : Nat) : Prop :=
  n ≤ c ∧ n ≤ 9223372036854775807 ∧ (0 < n → ∃ b off, A = some ⟨b, off, none⟩ ∧ b < w.heap.size ∧ ∀ j, j < n → ∃ (q : Q) (xs : List Nat) (x : Int), At3 w b off j q x ∧ RL2 w q.A q.n xs ∧ q.n ≤ q.c)
/-- What may be, of its size. -/
def OkD (d : D) : Prop := -65536 ≤ d.x ∧ d.x ≤ 65536 ∧ nb d.z.natAbs ≤ 16384
def Elt (w : World) (b off j : Nat) (d : D) : Prop := ∃ q, At3 w b off j q d.x ∧ RD w q d
theorem Elt.uniq {w : World} {b off j : Nat} {d d' : D} (h : Elt w b off j d) (h' : Elt w b off j d') : d = d' := by
  obtain ⟨q, a, r⟩ := h
  obtain ⟨q', a', r'⟩ := h'
  obtain ⟨rfl, ex⟩ := a.uniq a'
  refine D.ext' ?_ ex
  have h1 := r.1.2.2.1
  have h2 := r'.1.2.2.1
  have e1 := r.1.neg
  have e2 := r'.1.neg
  have e3 : d.z.natAbs = d'.z.natAbs := by
    obtain ⟨l1, _, _, c1⟩ := r.1.2.2
    obtain ⟨l2, _, _, c2⟩ := r'.1.2.2
    apply digs_inj
    apply List.ext_getElem (by rw [l1, l2])
    intro i hi1 hi2
    obtain ⟨b1, o1, e1, _, k1⟩ := c1 (by omega)
    obtain ⟨b2, o2, e2, _, k2⟩ := c2 (by omega)
    rw [e1] at e2
    injection e2 with e2
    injection e2 with e4 e5
    subst e4 e5
    have k3 := (k1 i (by omega)).symm.trans (k2 i (by omega))
    injection k3 with k3
    injection k3 with _ k3
    rw [dg_of hi1, dg_of hi2] at k3
    omega
  rw [e1, e2, e3]
def RowOK (w : World) (A : Option Addr) (n c : Nat) : Prop := ∃ f : Nat → D, RDs w A n c f ∧ ∀ j, j < n → OkD (f j)
theorem RDs.elt {w : World} {n c b off : Nat} {f : Nat → D} (h : RDs w (some ⟨b, off, none⟩) n c f) {j : Nat} (hj : j < n) : Elt w b off j (f j) := by
  obtain ⟨b', off', e, _, hc⟩ := h.2.2 (by omega)
  injection e with e
  injection e with e1 e2
  subst e1 e2
  obtain ⟨q, c0, c1, c2, hr⟩ := hc j hj
  exact ⟨q, ⟨c0, c1, c2⟩, hr⟩
theorem RowOK.mk {w : World} {n c b off : Nat} (hc : n ≤ c) (hn : n ≤ 1000000) (hb : b < w.heap.size) (h : ∀ j, j < n → ∃ d, Elt w b off j d ∧ OkD d) : RowOK w (some ⟨b, off, none⟩) n c := by
  have h2 : ∀ j, ∃ d, j < n → Elt w b off j d ∧ OkD d := fun j => by
    by_cases hj : j < n
    · obtain ⟨d, hd⟩ := h j hj; exact ⟨d, fun _ => hd⟩
    · exact ⟨D.zero, fun e => absurd e hj⟩
  refine ⟨fun j => Classical.choose (h2 j), ⟨hc, hn, fun _ => ⟨b, off, rfl, hb, fun j hj => ?_⟩⟩, fun j hj => (Classical.choose_spec (h2 j) hj).2⟩
  obtain ⟨⟨q, ⟨c0, c1, c2⟩, hr⟩, _⟩ := Classical.choose_spec (h2 j) hj
  exact ⟨q, c0, c1, c2, hr⟩
theorem RowOK.nil (w : World) (A : Option Addr) (c : Nat) : RowOK w A 0 c := ⟨fun _ => D.zero, ⟨Nat.zero_le _, Nat.zero_le _, fun h => absurd h (by omega)⟩, fun j hj => absurd hj (by omega)⟩
/-- What dyad.Check tells of an element: it may be. -/
theorem elt_of_check {w w0 : World} {b off j : Nat} {q : Q} {xs : List Nat} {x : Int} (a : At3 w b off j q x) (hl2 : RL2 w q.A q.n xs) (hn : q.n ≤ 512) (hr : RI w0 q.b q.A q.n q.c (zv q.b xs)) (hcan : D.Can ⟨zv q.b xs, x⟩) (h0 : -65536 ≤ x) (h1 : x ≤ 65536) : ∃ d, Elt w b off j d ∧ OkD d := by
  have hl := hl2.2 hn
  have hri := hr.back hl
  refine ⟨⟨zv q.b xs, x⟩, ⟨q, a, hri, hcan⟩, h0, h1, ?_⟩
  have h2 := (digs_len_le (n := (zv q.b xs).natAbs) (k := q.n)).1 (Nat.le_of_eq hri.2.2.1)
  refine nb_le.2 (Nat.lt_of_lt_of_le h2 ?_)
  rw [show (4294967296 : Nat) = 2 ^ 32 from rfl, ← Nat.pow_mul]
  exact Nat.pow_le_pow_right (by omega) (by omega)
/-- And back. -/
theorem check_of_elt {w w0 : World} {b off j : Nat} {q : Q} {xs : List Nat} {x : Int} {d : D} (a : At3 w b off j q x) (hl2 : RL2 w q.A q.n xs) (he : Elt w b off j d) (ho : OkD d) (hb : Below w.heap.size w w0) :
    q.n ≤ 512 ∧ RI w0 q.b q.A q.n q.c (zv q.b xs) ∧ D.Can ⟨zv q.b xs, x⟩ ∧ -65536 ≤ x ∧ x ≤ 65536 := by
  obtain ⟨q', a', r⟩ := he
  obtain ⟨rfl, rfl⟩ := a.uniq a'
  have hlen := r.1.len (k := 512) ho.2.2
  have hl := hl2.2 hlen
  have e : zv q.b xs = d.z := by
    obtain ⟨l1, _, _, c1⟩ := r.1.2.2
    have e1 : xs = digs d.z.natAbs := by
      apply List.ext_getElem (by rw [l1, hl.1])
      intro i hi1 hi2
      obtain ⟨b1, o1, e1, _, k1⟩ := c1 (by omega)
      obtain ⟨b2, o2, e2, _, k2⟩ := hl.2.2.2 (by have := hl.1; omega)
      rw [e1] at e2
      injection e2 with e2
      injection e2 with e4 e5
      subst e4 e5
      have k3 := (k1 i (by omega)).symm.trans (k2 i (by have := hl.1; omega))
      injection k3 with k3
      injection k3 with _ k3
      rw [dg_of hi1, dg_of hi2] at k3
      omega
    have e2 := r.1.neg
    unfold zv
    rw [e1, val_digs, ← e2]
  rw [e]
  exact ⟨hlen, RI.below r.1 hb, r.2, ho.1, ho.2.1⟩
/-- Rows of rows of whatever form. -/
def RawR (w : World) (A : Option Addr) (m c : Nat) : Prop :=
  m ≤ c ∧ m ≤ 9223372036854775807 ∧ (0 < m → ∃ b off, A = some ⟨b, off, none⟩ ∧ b < w.heap.size ∧ ∀ k, k < m → ∃ A' n' c', w.cell? ⟨b, off + k, none⟩ = some (.slice A' n' c') ∧ RawD w A' n' c')
end Go.Proofs.YtgioppkggpfnoaaGreatDoor.Nu
end

section
/- The walk of zono.Check, over whatever set. -/
set_option linter.unusedVariables false
namespace Go.Proofs.YtgioppkggpfnoaaGreatDoor.Nu
open Go.RowKit Go.Proofs

/-- The k-th of a set's rows: the middle, the sizes, then the ways. -/
def Rk (w : World) (Ac Ag Ar : Option Addr) (nc cc m cg nr cr : Nat) (k : Nat) (A' : Option Addr) (n' c' : Nat) : Prop :=
  (k = 0 ∧ A' = Ac ∧ n' = nc ∧ c' = cc) ∨ (k = 1 ∧ A' = Ar ∧ n' = nr ∧ c' = cr) ∨ (2 ≤ k ∧ ∃ b off, Ag = some ⟨b, off, none⟩ ∧ w.cell? ⟨b, off + (k - 2), none⟩ = some (.slice A' n' c'))
/-- The rows, one behind the other, in a block of the call's own. -/
def CRows (Ac Ag Ar : Option Addr) (nc cc m cg nr cr : Nat) (w : World) (g : Nat) (wx : World) : Prop :=
  g < wx.heap.size ∧ ∀ k, k < 2 + m → ∃ A' n' c', wx.cell? ⟨g, k, none⟩ = some (.slice A' n' c') ∧ Rk w Ac Ag Ar nc cc m cg nr cr k A' n' c' ∧ RawD w A' n' c'
theorem own_two (w : World) (a b : Value) : (w.alloc (.cells #[a, b] 22)).ownsRow 0 22 1 (.slice (some ⟨w.heap.size, 0, none⟩) 2 2) 2 [a, b] :=
  ⟨rfl, .inr ⟨w.heap.size, 2, #[a, b], rfl, Nat.zero_le _, alloc_top w _, Nat.le_refl _, by unfold maxLen; omega, rfl, rfl⟩⟩
theorem own_form {w : World} {v : Value} {n : Nat} {xs : List Value} {E : TypeId} (h : w.ownsRow 0 E 1 v n xs) (hx : n ≠ 0) : ∃ g c, v = .slice (some ⟨g, 0, none⟩) n c := by
  rcases h.2 with ⟨_, e⟩ | ⟨g, cap, cur, e, _⟩
  · exact absurd e hx
  · exact ⟨g, cap, e⟩
theorem raw_news {w : World} {ad : Addr} {m cg : Nat} (h : RawR w (some ad) m cg) : ∃ news : List Value, news.length = m ∧
    (∀ k, k < m → ∃ A' n' c', news[k]? = some (.slice A' n' c') ∧ (∃ b off, (some ad : Option Addr) = some ⟨b, off, none⟩ ∧ w.cell? ⟨b, off + k, none⟩ = some (.slice A' n' c')) ∧ RawD w A' n' c') ∧
    ((∀ u ∈ news, u.oneCell' = true) ∧ ∀ (j : Nat) u, news[j]? = some u → (ad.add j).block < w.heap.size ∧ w.cell? (ad.add j) = some u) := by
  by_cases h0 : m = 0
  · subst h0
    exact ⟨[], rfl, fun k hk => absurd hk (by omega), ⟨(fun u hu => by cases hu), (fun j u hj => by simp at hj)⟩⟩
  · obtain ⟨b, off, e, hb, hc⟩ := h.2.2 (by omega)
    injection e with e
    subst e
    refine ⟨(List.range m).map fun k => (w.cell? ⟨b, off + k, none⟩).getD (.slice none 0 0), by simp, fun k hk => ?_, fun u hu => ?_, fun j u hj => ?_⟩
    · obtain ⟨A', n', c', e1, hr⟩ := hc k hk
      exact ⟨A', n', c', by simp [hk, e1], ⟨b, off, rfl, e1⟩, hr⟩
    · obtain ⟨k, hk, rfl⟩ := List.mem_map.1 hu
      obtain ⟨A', n', c', e1, hr⟩ := hc k (List.mem_range.1 hk)
      rw [e1]; rfl
    · have hjm : j < m := by have := (List.getElem?_eq_some_iff.1 hj).1; simpa using this
      obtain ⟨A', n', c', e1, hr⟩ := hc j hjm
      simp [hjm, e1] at hj
      rw [Addr.add_lit]
      exact ⟨hb, by rw [e1, ← hj]⟩
theorem crows_end {w w0 w2 : World} {Ac Ag Ar : Option Addr} {nr cc m cg cr g cap : Nat} {news : List Value} {zc : Array Value} (HB : Below w.heap.size w w0)
    (hown : w2.ownsRow 0 22 1 (.slice (some ⟨g, 0, none⟩) (2 + m) cap) (2 + m) ([.slice Ac nr cc, .slice Ar nr cr] ++ news))
    (hgr : (w0.alloc (.cells #[.slice Ac nr cc, .slice Ar nr cr] 22)).grownBy w2 (Value.ownBlock (.slice (some ⟨w0.heap.size, 0, none⟩) 2 2)))
    (HC : RawD w Ac nr cc) (HR : RawD w Ar nr cr) (hl : news.length = m)
    (hn : ∀ k, k < m → ∃ A' n' c', news[k]? = some (.slice A' n' c') ∧ (∃ b off, Ag = some ⟨b, off, none⟩ ∧ w.cell? ⟨b, off + k, none⟩ = some (.slice A' n' c')) ∧ RawD w A' n' c') (BZ : Bk w0 w.heap.size 25 zc) :
    CRows Ac Ag Ar nr cc m cg nr cr w g w2 ∧ Bk w2 w.heap.size 25 zc ∧ Below w.heap.size w w2 := by
  have hlt := (hown.lt g rfl).2
  have hrow : (Value.ownBlock (.slice (some ⟨w0.heap.size, 0, none⟩) 2 2)) = some w0.heap.size := rfl
  refine ⟨⟨hlt, fun k hk => ?_⟩, ?_, ?_⟩
  · have hcell := fun u (h : ([Value.slice Ac nr cc, .slice Ar nr cr] ++ news)[k]? = some u) => hown.cells (g := g) rfl k u h
    have hcell2 : ∀ u, ([Value.slice Ac nr cc, .slice Ar nr cr] ++ news)[k]? = some u → w2.cell? ⟨g, k, none⟩ = some u := fun u h => by
      have := hcell u h
      rw [Addr.add_lit, Nat.zero_add] at this
      exact this
    match k, hk with
    | 0, _ => exact ⟨Ac, nr, cc, hcell2 _ rfl, .inl ⟨rfl, rfl, rfl, rfl⟩, HC⟩
    | 1, _ => exact ⟨Ar, nr, cr, hcell2 _ rfl, .inr (.inl ⟨rfl, rfl, rfl, rfl⟩), HR⟩
    | k + 2, hk =>
      obtain ⟨A', n', c', e1, e2, hr⟩ := hn k (by omega)
      exact ⟨A', n', c', hcell2 _ (by simpa using e1), .inr (.inr ⟨by omega, e2⟩), hr⟩
  · have h1 := hgr.block w.heap.size (by rw [World.size_alloc]; have := BZ.lt; omega) (by rw [hrow]; intro e; injection e with e; have := BZ.lt; omega)
    exact h1.trans ((sameA w0 BZ.lt _).trans BZ)
  · exact (below_al HB _).grown hgr (by rw [World.size_alloc]; have := HB.size; omega) (by intro k hk; rw [hrow] at hk; injection hk with hk; have := HB.size; omega)
/-- What zono.Check asks. -/
def ZOK (Ac Ag Ar : Option Addr) (nc cc m cg nr cr : Nat) (w : World) (n : Nat) : Prop :=
  nc = n ∧ nr = n ∧ n ≤ 16 ∧ m ≤ 4096 ∧ (∀ k A' n' c', k < 2 + m → Rk w Ac Ag Ar nc cc m cg nr cr k A' n' c' → n' = n ∧ RowOK w A' n' c') ∧ (∀ j, j < nr → ∀ b off d, Ar = some ⟨b, off, none⟩ → Elt w b off j d → 0 ≤ d.z)

theorem Rk.uniq {w : World} {Ac Ag Ar : Option Addr} {nc cc m cg nr cr k : Nat} {A A' : Option Addr} {n n' c c' : Nat} (h : Rk w Ac Ag Ar nc cc m cg nr cr k A n c) (h' : Rk w Ac Ag Ar nc cc m cg nr cr k A' n' c') : A = A' ∧ n = n' ∧ c = c' := by
  rcases h with ⟨e, rfl, rfl, rfl⟩ | ⟨e, rfl, rfl, rfl⟩ | ⟨e, b, off, hA, hc⟩ <;> rcases h' with ⟨e', rfl, rfl, rfl⟩ | ⟨e', rfl, rfl, rfl⟩ | ⟨e', b', off', hA', hc'⟩
  · exact ⟨rfl, rfl, rfl⟩
  · omega
  · omega
  · omega
  · exact ⟨rfl, rfl, rfl⟩
  · omega
  · omega
  · omega
  · rw [hA] at hA'
    injection hA' with hA'
    injection hA' with h1 h2
    subst h1 h2
    rw [hc] at hc'
    injection hc' with hc'
    injection hc' with h1 h2 h3
    exact ⟨h1, h2, h3⟩
/-- The state ahead of element j of a row. -/
def InRel (w : World) (A : Option Addr) (w2 : World) (j : Nat) (wi : World) : Prop :=
  Below w2.heap.size w2 wi ∧ ∀ j', j' < j → ∃ d, (∃ b off, A = some ⟨b, off, none⟩ ∧ b < w.heap.size ∧ Elt w b off j' d) ∧ OkD d
theorem InRel.row {w w2 wi : World} {A : Option Addr} {n c : Nat} (hraw : RawD w A n c) (hn : n ≤ 1000000) (h : InRel w A w2 n wi) : RowOK w A n c := by
  by_cases h0 : n = 0
  · subst h0; exact RowOK.nil w A c
  · obtain ⟨b, off, rfl, hlt, _⟩ := hraw.2.2 (by omega)
    refine RowOK.mk hraw.1 hn hlt fun j hj => ?_
    obtain ⟨d, ⟨b', off', e, _, he⟩, hok⟩ := h.2 j hj
    injection e with e
    injection e with e1 e2
    subst e1 e2
    exact ⟨d, he, hok⟩
/-- The state ahead of row k. -/
def CkRel (Ac Ag Ar : Option Addr) (nc cc m cg nr cr : Nat) (w : World) (n : Nat) (w2 : World) (k : Nat) (wr : World) : Prop :=
  Below w2.heap.size w2 wr ∧ ∀ k', k' < k → ∀ A' n' c', Rk w Ac Ag Ar nc cc m cg nr cr k' A' n' c' → n' = n ∧ RowOK w A' n' c'

set_option maxRecDepth 100000 in
set_option maxHeartbeats 4000000 in
theorem zcheck_any (w : World) (Ac Ag Ar : Option Addr) (nc cc m cg nr cr n : Nat) (hC : RawD w Ac nc cc) (hG : RawR w Ag m cg) (hR : RawD w Ar nr cr) (hnil : Ag = none → cg = 0) (hn : n ≤ 9223372036854775807) :
    Calls Tryz.prog 10 #[.agg #[.slice Ac nc cc, .slice Ag m cg, .slice Ar nr cr], .int .i64 n] w fun e w' => (∃ r : Int, e = .returned (.int .i64 r) ∧ (r = 0 ↔ ZOK Ac Ag Ar nc cc m cg nr cr w n)) ∧ Below w.heap.size w w' := by
  have HC := Lib.hid hC
  have HG := Lib.hid hG
  have HR := Lib.hid hR
  have HNL := Lib.hid hnil
  have hm2 := hG.2.1
  clear hC hG hR hnil
  have hnc := HC.out.2.1
  have hnr := HR.out.2.1
  have BX := Lib.hid (boxes1 w 25 #[.slice Ac nc cc, .slice Ag m cg, .slice Ar nr cr])
  by_cases h16 : 16 < n
  · have q0 : ¬ (n : Int) < 0 := by omega
    have q1 : (16 : Int) < (n : Int) := by omega
    go_enter Tryz.func10, Tryz.ntmps10
    go_wp2
    go_ret
    exact ⟨⟨20, rfl, by omega, fun h => absurd h (by rintro ⟨_, _, h, _⟩; omega)⟩, BX.out.2⟩
  have q0 : ¬ (n : Int) < 0 := by omega
  have q1 : ¬ (16 : Int) < (n : Int) := by omega
  by_cases hcn : nc = n
  rotate_left
  · have q2 : ((nc : Int) == (n : Int)) = false := by rw [beq_eq_false_iff_ne]; omega
    have q3 : ((nc : Int) != (n : Int)) = true := by rw [bne, q2]; rfl
    have HN := Lib.hid hcn
    clear hcn
    go_enter Tryz.func10, Tryz.ntmps10
    go_wp2
    go_ret
    exact ⟨⟨20, rfl, by omega, fun h => absurd h (by rintro ⟨h, _⟩; exact HN.out h)⟩, BX.out.2⟩
  by_cases hrn : nr = n
  rotate_left
  · have q2 : ((nc : Int) == (n : Int)) = true := by rw [beq_iff_eq]; omega
    have q3 : ((nc : Int) != (n : Int)) = false := by rw [bne, q2]; rfl
    have q4 : ((nr : Int) == (n : Int)) = false := by rw [beq_eq_false_iff_ne]; omega
    have q5 : ((nr : Int) != (n : Int)) = true := by rw [bne, q4]; rfl
    have HN := Lib.hid hrn
    clear hrn hcn
    go_enter Tryz.func10, Tryz.ntmps10
    go_wp2
    go_ret
    exact ⟨⟨20, rfl, by omega, fun h => absurd h (by rintro ⟨_, h, _⟩; exact HN.out h)⟩, BX.out.2⟩
  obtain rfl : nc = n := hcn
  obtain rfl : nr = nc := hrn
  have q2 : ((nr : Int) != (nr : Int)) = false := by simp
  by_cases hm4 : 4096 < m
  · have q6 : (4096 : Int) < (m : Int) := by omega
    go_enter Tryz.func10, Tryz.ntmps10
    go_wp2
    go_ret
    exact ⟨⟨32, rfl, by omega, fun h => absurd h (by rintro ⟨_, _, _, h, _⟩; omega)⟩, BX.out.2⟩
  have q6 : ¬ (4096 : Int) < (m : Int) := by omega
  clear h16
  go_enter Tryz.func10, Tryz.ntmps10
  go_upto_region 5 with (fail)
  generalize w.alloc (.cells #[.slice Ac nr cc, .slice Ag m cg, .slice Ar nr cr] 25) = w0 at *
  obtain ⟨b0, hw⟩ := BX.out
  have BZ := Lib.hid b0
  have HB := Lib.hid hw
  clear b0 hw BX
  have cz0 := BZ.out.cell 0 rfl
  have cz1 := BZ.out.cell 1 rfl
  have cz2 := BZ.out.cell 2 rfl
  have lz := BZ.out.lt
  go_cut [43, 44, 45] (fun s43 s44 s45 wx => ∃ (g cap : Nat), s43 = .slice (some ⟨g, 0, none⟩) (2 + m) cap ∧ s44 = .int .i64 ((2 + m : Nat) : Int) ∧ s45 = .int .i64 0 ∧ CRows Ac Ag Ar nr cc m cg nr cr w g wx ∧ Bk wx w.heap.size 25 #[.slice Ac nr cc, .slice Ag m cg, .slice Ar nr cr] ∧ Below w.heap.size w wx)
  case first =>
    obtain ⟨i0, hi, hz0, hz1, hz2⟩ := info_parts infoL
    have HOW := Lib.hid (own_two w0 (.slice Ac nr cc) (.slice Ar nr cr))
    cases Ag with
    | none =>
      obtain rfl : cg = 0 := HNL.out rfl
      obtain rfl : m = 0 := by have := HG.out.1; omega
      have HX := Lib.hid (crows_end (Ag := none) (cg := 0) (m := 0) (g := w0.heap.size) (cap := 2) (news := []) HB.out HOW.out (World.grownBy.refl _ _) HC.out HR.out rfl (fun k hk => absurd hk (by omega)) BZ.out)
      go_wp2_with fail
      go_meet
      exact ⟨w0.heap.size, 2, rfl, rfl, rfl, HX.out.1, HX.out.2.1, HX.out.2.2⟩
    | some ad =>
      obtain ⟨news, hnl, hnw, hnc1⟩ := raw_news HG.out
      have HNW := Lib.hid hnw
      have HNC := Lib.hid hnc1
      have HLN := Lib.hid hnl
      clear hnl hnw hnc1
      go_wp2_with (at_builtin; refine wpList_append_own_at _ rfl _ _ 23 rfl 0 22 i0 (.slice none 0 0) 1 24 Tryz.underlying23 hi hz0 hz1 hz2 rfl (by decide) (.slice (some ⟨w0.heap.size, 0, none⟩) 2 2) 2 [.slice Ac nr cc, .slice Ar nr cr] rfl HOW.out ad m cg news rfl ?n1 ?n2 ?n3 ?n4 ?n5 ?n6 ?_)
      case n1 => rw [HLN.out]
      case n2 => intro j u hj; exact Lib.cell?_alloc_some _ ((HB.out.cell (HNC.out.2 j u hj).1).trans (HNC.out.2 j u hj).2)
      case n3 => exact HNC.out.1
      case n4 => unfold maxLen; omega
      case n5 => omega
      intro v' w2 hown hgr hnn hob
      obtain ⟨g, cap, rfl⟩ := own_form hown (by omega)
      have HX := Lib.hid (crows_end (cg := cg) (g := g) (cap := cap) HB.out hown hgr HC.out HR.out HLN.out HNW.out BZ.out)
      clear hown hgr cz0 cz1 cz2 hnn hob
      go_wp2_with fail
      go_meet
      exact ⟨g, cap, rfl, rfl, rfl, HX.out.1, HX.out.2.1, HX.out.2.2⟩
  case rest =>
    obtain ⟨w2, rfl⟩ : ∃ x, x = wc := ⟨_, rfl⟩
    obtain ⟨g, cap, rfl, rfl, rfl, hcr, hbz, hbel⟩ := hcut
    have CR := Lib.hid hcr
    have B2 := Lib.hid hbz
    have HB2 := Lib.hid hbel
    clear hcr hbz hbel cz0 cz1 cz2 lz BZ HB
    have H0 := Lib.hid (show CkRel Ac Ag Ar nr cc m cg nr cr w nr w2 0 w2 from ⟨Below.refl _ _, fun k hk => absurd hk (by omega)⟩)
    go_wp2_with fail
    go_loopw [45] (fun k wr => ∃ i : Nat, k = .int .i64 i ∧ i ≤ 2 + m ∧ Hid (CkRel Ac Ag Ar nr cc m cg nr cr w nr w2 i wr)) (fun k _ => 2 + m - (intOf k).toNat)
    case atStart => exact ⟨0, rfl, Nat.zero_le _, H0⟩
    case round =>
      clear H0
      obtain ⟨k, rfl, hk, Hr⟩ := hrel
      by_cases hk2 : k < 2 + m
      · obtain ⟨A', n', c', e1, hrk, hraw⟩ := CR.out.2 k hk2
        obtain ⟨hbel, hgood⟩ := Hr.out
        have x0 : wr.cell? ⟨g, k, none⟩ = some (.slice A' n' c') := (hbel.cell (p := ⟨g, k, none⟩) CR.out.1).trans e1
        have HRK := Lib.hid hrk
        have HRAW := Lib.hid hraw
        have HGOOD := Lib.hid hgood
        have HBR := Lib.hid hbel
        have hn62 := hraw.2.1
        clear hrk hraw hgood hbel e1 Hr
        have q7 : (k : Int) < 2 + (m : Int) := by omega
        have q7' : (k : Int) < ((2 + m : Nat) : Int) := by omega
        have q7'' : k < 2 + m := hk2
        by_cases hnn : n' = nr
        · obtain rfl : nr = n' := hnn.symm
          clear hnn
          go_wp2_with fail
          have I0 := Lib.hid (show InRel w A' w2 0 wr from ⟨HBR.out, fun j hj => absurd hj (by omega)⟩)
          clear x0
          go_loopw [55] (fun j wi => ∃ i : Nat, j = .int .i64 i ∧ i ≤ nr ∧ Hid (InRel w A' w2 i wi)) (fun j _ => nr - (intOf j).toNat)
          case atStart => exact ⟨0, rfl, Nat.zero_le _, I0⟩
          case round =>
            clear I0
            obtain ⟨j, rfl, hj, Hi⟩ := hrel
            by_cases hj2 : j < nr
            · obtain ⟨b1, o1, rfl, hl1, hcc⟩ := HRAW.out.2.2 (by omega)
              obtain ⟨q, xs, x, hat, hrl, hqc⟩ := hcc j hj2
              obtain ⟨hbi, hels⟩ := Hi.out
              have HBI := Lib.hid (HB2.out.trans (hbi.mono HB2.out.size))
              have x1 := (HBI.out.cell (p := ⟨b1, _, none⟩) hl1).trans hat.1
              have x2 := (HBI.out.cell (p := ⟨b1, _, none⟩) hl1).trans hat.2.1
              have x3 := (HBI.out.cell (p := ⟨b1, _, none⟩) hl1).trans hat.2.2
              have HAT := Lib.hid hat
              have HRL := Lib.hid hrl
              have HQC := Lib.hid hqc
              have HBI2 := Lib.hid hbi
              have HELS := Lib.hid hels
              clear hat hrl hqc hbi hels hcc Hi
              have q8 : (j : Int) < (nr : Int) := by omega
              go_wp2_with fail
              have HW1 := Lib.hid (below_al HBI.out (.cells #[.bool q.b, .slice q.A q.n q.c, .int .i64 x] 38))
              have HW2 := Lib.hid ((Below.refl _ wr).alloc (Nat.le_refl _) (.cells #[.bool q.b, .slice q.A q.n q.c, .int .i64 x] 38))
              refine (dcheck_raw _ q.b q.A q.n q.c xs x (HRL.out.below HW1.out) HQC.out).mono ?_
              rintro e w5 ⟨⟨r, rfl, hr⟩, hb⟩
              have HR5 := Lib.hid hr
              have HB5 := Lib.hid (below_tr HW1.out hb)
              have HB6 := Lib.hid (HBI2.out.trans ((below_tr HW2.out hb).mono HBI2.out.size))
              clear hb x1 x2 x3 hr
              by_cases hr0 : r = 0
              · subst hr0
                have hq := HR5.out.1 rfl
                have HE := Lib.hid (elt_of_check HAT.out HRL.out hq.1 hq.2.1 hq.2.2.1 hq.2.2.2.1 hq.2.2.2.2)
                clear hq
                go_wp2
                go_roundw
                case rel =>
                  refine ⟨j + 1, by go_num, hj2, Lib.hid ⟨HB6.out, fun j' hj' => ?_⟩⟩
                  by_cases e : j' = j
                  · subst e
                    obtain ⟨d, h1, h2⟩ := HE.out
                    exact ⟨d, ⟨b1, o1, rfl, hl1, h1⟩, h2⟩
                  · exact HELS.out j' (by omega)
                case measure => simp only [intOf]; omega
              · have q9 : ((r : Int) == 0) = false := by rw [beq_eq_false_iff_ne]; exact hr0
                have q10 : ((r : Int) != 0) = true := by rw [bne, q9]; rfl
                have H0 := Lib.hid hr0
                clear hr0
                go_wp2
                go_ret
                refine ⟨⟨r, rfl, fun h => absurd h H0.out, fun hz => ?_⟩, HB5.out⟩
                obtain ⟨_, hro⟩ := hz.2.2.2.2.1 k _ _ _ hk2 HRK.out
                obtain ⟨f, hf, hok⟩ := hro
                exact HR5.out.2 (check_of_elt HAT.out HRL.out (hf.elt hj2) (hok j hj2) HW1.out)
            · obtain rfl : j = nr := by omega
              obtain ⟨hbi, hels⟩ := Hi.out
              have HBI2 := Lib.hid hbi
              have HRO := Lib.hid (show RowOK w A' j c' from InRel.row HRAW.out (by omega) Hi.out)
              clear hbi hels Hi hj2
              go_wp2
              go_roundw
              case rel =>
                refine ⟨k + 1, by go_num, hk2, Lib.hid ⟨HBI2.out, fun k' hk' A'' n'' c'' h'' => ?_⟩⟩
                by_cases e : k' = k
                · subst e
                  obtain ⟨rfl, rfl, rfl⟩ := h''.uniq HRK.out
                  exact ⟨rfl, HRO.out⟩
                · exact HGOOD.out k' (by omega) _ _ _ h''
              case measure => simp only [intOf]; omega
        · have q8 : ((n' : Int) == (nr : Int)) = false := by rw [beq_eq_false_iff_ne]; omega
          have q9 : ((n' : Int) != (nr : Int)) = true := by rw [bne, q8]; rfl
          have HN := Lib.hid hnn
          clear hnn
          go_wp2
          go_ret
          exact ⟨⟨20, rfl, by omega, fun hz => absurd (hz.2.2.2.2.1 k _ _ _ hk2 HRK.out).1 HN.out⟩, HB2.out.trans (HBR.out.mono HB2.out.size)⟩
      · obtain rfl : k = 2 + m := by omega
        obtain ⟨hbel, hgood⟩ := Hr.out
        have HGOOD := Lib.hid hgood
        have HBR := Lib.hid hbel
        clear hgood hbel Hr hk2
        obtain ⟨f, hf, hok⟩ := (HGOOD.out 1 (by omega) Ar nr cr (.inr (.inl ⟨rfl, rfl, rfl, rfl⟩))).2
        have HF := Lib.hid hf
        have BZ := Lib.hid (B2.out.below HBR.out)
        clear hf hok
        have cz0 := BZ.out.cell 0 rfl
        have cz1 := BZ.out.cell 1 rfl
        have cz2 := BZ.out.cell 2 rfl
        go_wp2_with fail
        have L0 := Lib.hid (show Below w2.heap.size w2 wr ∧ ∀ j, j < 0 → 0 ≤ (f j).z from ⟨HBR.out, fun j hj => absurd hj (by omega)⟩)
        clear cz0 cz1 cz2 BZ HBR
        go_loopw [69] (fun j wi => ∃ i : Nat, j = .int .i64 i ∧ i ≤ nr ∧ Hid (Below w2.heap.size w2 wi ∧ ∀ j, j < i → 0 ≤ (f j).z)) (fun j _ => nr - (intOf j).toNat)
        case atStart => exact ⟨0, rfl, Nat.zero_le _, L0⟩
        case round =>
          clear L0
          obtain ⟨j, rfl, hj, Hi⟩ := hrel
          by_cases hj2 : j < nr
          · obtain ⟨b1, o1, rfl, hl1, hcc⟩ := HF.out.2.2 (by omega)
            obtain ⟨q, c0, c1, c2, hq⟩ := hcc j hj2
            obtain ⟨hbi, hels⟩ := Hi.out
            have HBI := Lib.hid (HB2.out.trans (hbi.mono HB2.out.size))
            have x1 := (HBI.out.cell (p := ⟨b1, _, none⟩) hl1).trans c0
            have x2 := (HBI.out.cell (p := ⟨b1, _, none⟩) hl1).trans c1
            have x3 := (HBI.out.cell (p := ⟨b1, _, none⟩) hl1).trans c2
            have HQ := Lib.hid hq
            have HEL := Lib.hid (show Elt w b1 o1 j (f j) from ⟨q, ⟨c0, c1, c2⟩, hq⟩)
            have HBI2 := Lib.hid hbi
            have HELS := Lib.hid hels
            clear hbi hels hcc Hi c0 c1 c2 hq
            have q8 : (j : Int) < (nr : Int) := by omega
            go_wp2_with fail
            have HW1 := Lib.hid (below_al HBI.out (.cells #[.bool q.b, .slice q.A q.n q.c, .int .i64 (f j).x] 38))
            have HW2 := Lib.hid ((Below.refl _ wr).alloc (Nat.le_refl _) (.cells #[.bool q.b, .slice q.A q.n q.c, .int .i64 (f j).x] 38))
            refine (dsign_q _ q (f j) (HQ.out.below HW1.out)).mono ?_
            rintro e w5 ⟨rfl, hb⟩
            have HB5 := Lib.hid (below_tr HW1.out hb)
            have HB6 := Lib.hid (HBI2.out.trans ((below_tr HW2.out hb).mono HBI2.out.size))
            clear hb x1 x2 x3
            by_cases hz0 : (f j).z < 0
            · have q9 : sgn (f j).z < 0 := by have := sgn_cases (f j).z; omega
              have HZ0 := Lib.hid hz0
              clear hz0
              generalize sgn (f j).z = t at *
              go_wp2
              go_ret
              exact ⟨⟨1, rfl, by omega, fun hz => absurd (hz.2.2.2.2.2 j hj2 b1 o1 (f j) rfl HEL.out) (by have := HZ0.out; omega)⟩, HB5.out⟩
            · have q9 : ¬ sgn (f j).z < 0 := by have := sgn_cases (f j).z; omega
              have HZ0 := Lib.hid hz0
              clear hz0
              generalize sgn (f j).z = t at *
              go_wp2
              go_roundw
              case rel =>
                refine ⟨_, _, _, _, _, _, _, _, _, _, ⟨j + 1, ?_, hj2, Lib.hid ⟨HB6.out, fun j' hj' => ?_⟩⟩, rfl⟩
                · go_num
                · by_cases e : j' = j
                  · subst e; have := HZ0.out; omega
                  · exact HELS.out j' (by omega)
              case measure => simp [intOf]; omega
          · obtain rfl : j = nr := by omega
            obtain ⟨hbi, hels⟩ := Hi.out
            have HBI := Lib.hid (HB2.out.trans (hbi.mono HB2.out.size))
            have HELS := Lib.hid hels
            clear hbi hels Hi hj2
            go_wp2
            go_ret
            refine ⟨⟨0, rfl, fun _ => ⟨rfl, rfl, by omega, by omega, fun k A' n' c' hk h => HGOOD.out k hk A' n' c' h, fun i hi b off d hA hE => ?_⟩, fun _ => rfl⟩, HBI.out⟩
            subst hA
            rw [hE.uniq (HF.out.elt hi)]
            exact HELS.out i hi

end Go.Proofs.YtgioppkggpfnoaaGreatDoor.Nu
end

section
/- zono.Check of a set that may be; and the set that is told by its answer. -/
set_option linter.unusedVariables false
namespace Go.Proofs.YtgioppkggpfnoaaGreatDoor.Nu
open Go.RowKit Go.Proofs

theorem RD.rl {w : World} {q : Q} {d : D} (h : RD w q d) : RL w q.A q.n (digs d.z.natAbs) ∧ q.n ≤ q.c := ⟨h.1.2.2, h.1.2.1⟩
theorem RDs.raw {w : World} {A : Option Addr} {n c : Nat} {f : Nat → D} (h : RDs w A n c f) : RawD w A n c := by
  refine ⟨h.1, Nat.le_trans h.2.1 (by omega), fun h0 => ?_⟩
  obtain ⟨b, off, e, hb, hc⟩ := h.2.2 h0
  refine ⟨b, off, e, hb, fun j hj => ?_⟩
  obtain ⟨q, c0, c1, c2, hr⟩ := hc j hj
  exact ⟨q, _, _, ⟨c0, c1, c2⟩, .of hr.rl.1, hr.rl.2⟩
theorem RDss.raw {w : World} {A : Option Addr} {m c n : Nat} {g : Nat → Nat → D} (h : RDss w A m c n g) : RawR w A m c := by
  refine ⟨h.1, Nat.le_trans h.2.1 (by omega), fun h0 => ?_⟩
  obtain ⟨b, off, e, hb, hc⟩ := h.2.2 h0
  refine ⟨b, off, e, hb, fun k hk => ?_⟩
  obtain ⟨A', c', e1, hr⟩ := hc k hk
  exact ⟨A', n, c', e1, hr.raw⟩
/-- What a set's numbers must be for zono.Check. -/
structure Zo.Ok (z : Zo) : Prop where
  n : z.n ≤ 16
  m : z.m ≤ 4096
  c : ∀ i, i < z.n → OkD (z.c i)
  g : ∀ k i, k < z.m → i < z.n → OkD (z.g k i)
  r : ∀ i, i < z.n → OkD (z.r i)
  p : ∀ i, i < z.n → 0 ≤ (z.r i).z
theorem zok_of {w : World} {Ac Ag Ar : Option Addr} {cc cg cr : Nat} {z : Zo} (h : RZo w ⟨Ac, cc, Ag, cg, Ar, cr⟩ z) (ho : z.Ok) : ZOK Ac Ag Ar z.n cc z.m cg z.n cr w z.n := by
  refine ⟨rfl, rfl, ho.n, ho.m, fun k A' n' c' hk hR => ?_, fun j hj b off d hA hE => ?_⟩
  · rcases hR with ⟨_, rfl, rfl, rfl⟩ | ⟨_, rfl, rfl, rfl⟩ | ⟨h2, b, off, hA, hc⟩
    · exact ⟨rfl, z.c, h.c, ho.c⟩
    · exact ⟨rfl, z.r, h.r, ho.r⟩
    · have hg : RDss w Ag z.m cg z.n z.g := h.g
      obtain ⟨b', off', e, _, hcc⟩ := hg.2.2 (by omega)
      rw [hA] at e
      injection e with e
      injection e with e1 e2
      subst e1 e2
      obtain ⟨A2, c2, e3, hr⟩ := hcc (k - 2) (by omega)
      rw [hc] at e3
      injection e3 with e3
      injection e3 with e4 e5 e6
      subst e4 e5 e6
      exact ⟨rfl, z.g (k - 2), hr, ho.g (k - 2) |> fun f i hi => f i (by omega) hi⟩
  · have hr : RDs w Ar z.n cr z.r := h.r
    subst hA
    rw [hE.uniq (hr.elt hj)]
    exact ho.p j hj
theorem zcheck_good (w : World) (Ac Ag Ar : Option Addr) (cc cg cr : Nat) (z : Zo) (h : RZo w ⟨Ac, cc, Ag, cg, Ar, cr⟩ z) (ho : z.Ok) (hnil : Ag = none → cg = 0) :
    Calls Tryz.prog 10 #[.agg #[.slice Ac z.n cc, .slice Ag z.m cg, .slice Ar z.n cr], .int .i64 z.n] w fun e w' => e = .returned (.int .i64 0) ∧ Below w.heap.size w w' := by
  refine (zcheck_any w Ac Ag Ar z.n cc z.m cg z.n cr z.n (RDs.raw h.c) (RDss.raw h.g) (RDs.raw h.r) hnil (by have := ho.n; omega)).mono ?_
  rintro e w' ⟨⟨r, rfl, hr⟩, hb⟩
  rw [hr.2 (zok_of h ho)]
  exact ⟨rfl, hb⟩
/-- The set that passes. -/
theorem set_of_zok {w : World} {Ac Ag Ar : Option Addr} {nc cc m cg nr cr n : Nat} (h : ZOK Ac Ag Ar nc cc m cg nr cr w n) (hG : RawR w Ag m cg) :
    ∃ z : Zo, nc = z.n ∧ nr = z.n ∧ n = z.n ∧ m = z.m ∧ RZo w ⟨Ac, cc, Ag, cg, Ar, cr⟩ z ∧ z.Ok := by
  obtain ⟨rfl, rfl, h16, hm, hrows, hnn⟩ := h
  obtain ⟨_, fc, hfc, hoc⟩ := hrows 0 Ac nr cc (by omega) (.inl ⟨rfl, rfl, rfl, rfl⟩)
  obtain ⟨_, fr, hfr, hor⟩ := hrows 1 Ar nr cr (by omega) (.inr (.inl ⟨rfl, rfl, rfl, rfl⟩))
  have hg : ∀ k, ∃ g : Nat → D, k < m → ∃ b off A' c', Ag = some ⟨b, off, none⟩ ∧ b < w.heap.size ∧ w.cell? ⟨b, off + k, none⟩ = some (.slice A' nr c') ∧ RDs w A' nr c' g ∧ ∀ i, i < nr → OkD (g i) := fun k => by
    by_cases hk : k < m
    · obtain ⟨b, off, rfl, hb, hc⟩ := hG.2.2 (by omega)
      obtain ⟨A', n', c', e1, hraw⟩ := hc k hk
      obtain ⟨rfl, g, hg, hog⟩ := hrows (k + 2) A' n' c' (by omega) (.inr (.inr ⟨by omega, b, off, rfl, by rw [Nat.add_sub_cancel]; exact e1⟩))
      exact ⟨g, fun _ => ⟨b, off, A', c', rfl, hb, e1, hg, hog⟩⟩
    · exact ⟨fun _ => D.zero, fun e => absurd e hk⟩
  have hG2 : RDss w Ag m cg nr (fun k => Classical.choose (hg k)) := by
    refine ⟨hG.1, by omega, fun h0 => ?_⟩
    obtain ⟨b, off, e, hb, _⟩ := hG.2.2 h0
    refine ⟨b, off, e, hb, fun k hk => ?_⟩
    obtain ⟨b', off', A', c', e', _, e1, h1, _⟩ := Classical.choose_spec (hg k) hk
    rw [e] at e'
    injection e' with e'
    injection e' with e2 e3
    subst e2 e3
    exact ⟨A', c', e1, h1⟩
  refine ⟨⟨nr, fc, m, fun k => Classical.choose (hg k), fr⟩, rfl, rfl, rfl, rfl, ⟨hfc, hG2, hfr⟩, ⟨h16, hm, hoc, fun k i hk hi => ?_, hor, fun i hi => ?_⟩⟩
  · obtain ⟨_, _, _, _, _, _, _, _, ho⟩ := Classical.choose_spec (hg k) hk
    exact ho i hi
  · obtain ⟨b, off, e, _, _⟩ := hfr.2.2 (by show 0 < nr; have : i < nr := hi; omega)
    subst e
    exact hnn i hi b off (fr i) rfl (hfr.elt hi)
end Go.Proofs.YtgioppkggpfnoaaGreatDoor.Nu
end

section
/- Layer 17's small: whatever it says yes to may be, and is of few digits. -/
set_option linter.unusedVariables false
namespace Go.Proofs.YtgioppkggpfnoaaGreatDoor.Nu
open Go.RowKit Go.Proofs

theorem lim_ok {d : D} {E T : Nat} (h : d.Lim E T) (hET : E + T ≤ 16384) : OkD d := ⟨by have := h.1; omega, by have := h.2; omega, Nat.le_trans h.nb hET⟩
theorem dcompare_is (w : World) (p q : Q) (a b : D) (E T : Nat) (z : Int) (h : RD w p a) (h2 : RD w q b) (la : a.Lim E T) (lb : b.Lim E T) (hET : E + T ≤ 16000) (hz : a.cmp b = z) :
    Calls Tryz.prog 12 #[.agg #[.bool p.b, .slice p.A p.n p.c, .int .i64 a.x], .agg #[.bool q.b, .slice q.A q.n q.c, .int .i64 b.x]] w fun e w' => e = .returned (.int .i64 z) ∧ Below w.heap.size w w' := by
  rw [← hz]; exact dcompare_any w p q a b E T h h2 la lb hET
theorem dless_is (w : World) (p q : Q) (a b : D) (E T : Nat) (z : Bool) (h : RD w p a) (h2 : RD w q b) (la : a.Lim E T) (lb : b.Lim E T) (hET : E + T ≤ 16000) (hz : decide (a.cmp b < 0) = z) :
    Calls Tryz.prog 11 #[.agg #[.bool p.b, .slice p.A p.n p.c, .int .i64 a.x], .agg #[.bool q.b, .slice q.A q.n q.c, .int .i64 b.x]] w fun e w' => e = .returned (.bool z) ∧ Below w.heap.size w w' := by
  rw [← hz]; exact dless_any w p q a b E T h h2 la lb hET
theorem dsign_zero (w : World) (q : Q) (d : D) (h : RD w q d) (hz : d.z = 0) :
    Calls Tryz.prog 23 #[.agg #[.bool q.b, .slice q.A q.n q.c, .int .i64 d.x]] w fun e w' => e = .returned (.int .i64 0) ∧ Below w.heap.size w w' := by
  have h1 := dsign_any w q.b q.A q.n q.c d.z d.x h.1
  rw [hz] at h1
  exact h1

/-- A row of numbers that may be, each of a size with which this is tried. -/
def SmRow (w : World) (A : Option Addr) (n c : Nat) : Prop := ∃ f : Nat → D, RDs w A n c f ∧ ∀ j, j < n → OkD (f j) ∧ (f j).Lim 60 124
def SmRel (w : World) (A : Option Addr) (i : Nat) (wi : World) : Prop := Below w.heap.size w wi ∧ ∀ j, j < i → ∃ b off d, A = some ⟨b, off, none⟩ ∧ b < w.heap.size ∧ Elt w b off j d ∧ OkD d ∧ d.Lim 60 124
theorem SmRel.row {w wi : World} {A : Option Addr} {n c : Nat} (h : SmRel w A n wi) (hc : n ≤ c) (hn : n ≤ 1000000) : SmRow w A n c := by
  by_cases h0 : n = 0
  · subst h0
    exact ⟨fun _ => D.zero, ⟨Nat.zero_le _, Nat.zero_le _, fun e => absurd e (by omega)⟩, fun j hj => absurd hj (by omega)⟩
  · obtain ⟨b, off, d0, rfl, hb, _⟩ := h.2 0 (by omega)
    have h2 : ∀ j, ∃ d, j < n → Elt w b off j d ∧ OkD d ∧ d.Lim 60 124 := fun j => by
      by_cases hj : j < n
      · obtain ⟨b', off', d, e, _, he, ho, hl⟩ := h.2 j hj
        injection e with e
        injection e with e1 e2
        subst e1 e2
        exact ⟨d, fun _ => ⟨he, ho, hl⟩⟩
      · exact ⟨D.zero, fun e => absurd e hj⟩
    refine ⟨fun j => Classical.choose (h2 j), ⟨hc, hn, fun _ => ⟨b, off, rfl, hb, fun j hj => ?_⟩⟩, fun j hj => ⟨(Classical.choose_spec (h2 j) hj).2.1, (Classical.choose_spec (h2 j) hj).2.2⟩⟩
    obtain ⟨⟨q, ⟨c0, c1, c2⟩, hr⟩, _⟩ := Classical.choose_spec (h2 j) hj
    exact ⟨q, c0, c1, c2, hr⟩
theorem RDs.uniq {w : World} {A : Option Addr} {n c c' : Nat} {f f' : Nat → D} (h : RDs w A n c f) (h' : RDs w A n c' f') {j : Nat} (hj : j < n) : f j = f' j := by
  obtain ⟨b, off, rfl, _⟩ := h.2.2 (by omega)
  exact (h.elt hj).uniq (h'.elt hj)
/-- Two digits at most, and so high at most. -/
theorem sm_lim {w : World} {q : Q} {d : D} (h : RD w q d) (hn : q.n ≤ 2) (h0 : -60 ≤ d.x) (h1 : d.x ≤ 60) : d.Lim 60 124 := by
  have h2 := (digs_len_le (n := d.z.natAbs) (k := q.n)).1 (Nat.le_of_eq h.1.2.2.1)
  have h3 : d.z.natAbs < 2 ^ 64 := Nat.lt_of_lt_of_le h2 (by
    rw [show (4294967296 : Nat) = 2 ^ 32 from rfl, ← Nat.pow_mul]
    exact Nat.pow_le_pow_right (by omega) (by omega))
  have h4 := nb_le.2 h3
  exact ⟨by omega, by omega⟩
theorem sm_of_check {w w0 : World} {b off j : Nat} {q : Q} {xs : List Nat} {x : Int} (a : At3 w b off j q x) (hl2 : RL2 w q.A q.n xs) (h2 : q.n ≤ 2) (hr : RI w0 q.b q.A q.n q.c (zv q.b xs)) (hcan : D.Can ⟨zv q.b xs, x⟩) (h0 : -60 ≤ x) (h1 : x ≤ 60) : ∃ d, Elt w b off j d ∧ OkD d ∧ d.Lim 60 124 := by
  have hl := hl2.2 (by omega)
  have hri := hr.back hl
  have hrd : RD w q ⟨zv q.b xs, x⟩ := ⟨hri, hcan⟩
  have hlim := sm_lim hrd h2 h0 h1
  exact ⟨⟨zv q.b xs, x⟩, ⟨q, a, hrd⟩, lim_ok hlim (by omega), hlim⟩
end Go.Proofs.YtgioppkggpfnoaaGreatDoor.Nu
end

section
/- Layer 17's fit: whatever set it says yes to may be, is of few places and ways, and of numbers of few digits. -/
set_option linter.unusedVariables false
namespace Go.Proofs.YtgioppkggpfnoaaGreatDoor.Nu
open Go.RowKit Go.Proofs

theorem RawD.below {w w' : World} {A : Option Addr} {n c : Nat} (h : RawD w A n c) (hb : Below w.heap.size w w') : RawD w' A n c := by
  refine ⟨h.1, h.2.1, fun h0 => ?_⟩
  obtain ⟨b, off, e, hlt, hc⟩ := h.2.2 h0
  refine ⟨b, off, e, Nat.lt_of_lt_of_le hlt hb.size, fun j hj => ?_⟩
  obtain ⟨q, xs, x, ⟨c0, c1, c2⟩, hr, hq⟩ := hc j hj
  exact ⟨q, xs, x, ⟨(hb.cell (p := ⟨b, _, none⟩) hlt).trans c0, (hb.cell (p := ⟨b, _, none⟩) hlt).trans c1, (hb.cell (p := ⟨b, _, none⟩) hlt).trans c2⟩, hr.below hb, hq⟩
theorem RawR.below {w w' : World} {A : Option Addr} {m c : Nat} (h : RawR w A m c) (hb : Below w.heap.size w w') : RawR w' A m c := by
  refine ⟨h.1, h.2.1, fun h0 => ?_⟩
  obtain ⟨b, off, e, hlt, hc⟩ := h.2.2 h0
  refine ⟨b, off, e, Nat.lt_of_lt_of_le hlt hb.size, fun k hk => ?_⟩
  obtain ⟨A', n', c', e1, hr⟩ := hc k hk
  exact ⟨A', n', c', (hb.cell (p := ⟨b, _, none⟩) hlt).trans e1, hr.below hb⟩
theorem SmRow.below {w w' : World} {A : Option Addr} {n c : Nat} (h : SmRow w A n c) (hb : Below w.heap.size w w') : SmRow w' A n c := by
  obtain ⟨f, hf, h2⟩ := h
  exact ⟨f, hf.below hb, h2⟩
/-- What is said yes to. -/
def Fits (w : World) (Ac Ag Ar : Option Addr) (nc cc m cg nr cr n : Nat) : Prop :=
  ∃ z : Zo, nc = z.n ∧ nr = z.n ∧ n = z.n ∧ m = z.m ∧ RZo w ⟨Ac, cc, Ag, cg, Ar, cr⟩ z ∧ z.Ok ∧ z.Lim 60 124 ∧ 1 ≤ n ∧ n ≤ 4 ∧ m ≤ 7
theorem Fits.below {w w' : World} {Ac Ag Ar : Option Addr} {nc cc m cg nr cr n : Nat} (h : Fits w Ac Ag Ar nc cc m cg nr cr n) (hb : Below w.heap.size w w') : Fits w' Ac Ag Ar nc cc m cg nr cr n := by
  obtain ⟨z, h1, h2, h3, h4, h5, h6⟩ := h
  exact ⟨z, h1, h2, h3, h4, h5.below hb, h6⟩
/-- The state ahead of row k. -/
def FitRel (Ac Ag Ar : Option Addr) (nc cc m cg nr cr : Nat) (w w0 w2 : World) (k : Nat) (wr : World) : Prop :=
  Below w2.heap.size w2 wr ∧ ∀ k', k' < k → ∀ A' n' c', Rk w Ac Ag Ar nc cc m cg nr cr k' A' n' c' → SmRow w0 A' n' c'
theorem sm_uniq {w : World} {A : Option Addr} {n c c' : Nat} {f : Nat → D} (h : SmRow w A n c) (h' : RDs w A n c' f) (j : Nat) (hj : j < n) : (f j).Lim 60 124 := by
  obtain ⟨f', hf, h2⟩ := h
  rw [← hf.uniq h' hj]
  exact (h2 j hj).2
theorem fits_of {w w0 wr : World} {Ac Ag Ar : Option Addr} {nc cc m cg nr cr n : Nat} (hw : Below w.heap.size w wr) (h0 : Below w0.heap.size w0 wr) (hG : RawR w Ag m cg) (hG0 : RawR w0 Ag m cg) (hz : ZOK Ac Ag Ar nc cc m cg nr cr w0 n)
    (hs : ∀ k', k' < 2 + m → ∀ A' n' c', Rk w Ac Ag Ar nc cc m cg nr cr k' A' n' c' → SmRow wr A' n' c') (h1 : 1 ≤ n) (h4 : n ≤ 4) (h5 : m ≤ 7) : Fits wr Ac Ag Ar nc cc m cg nr cr n := by
  obtain ⟨z, e1, e2, e3, e4, hr, ho⟩ := set_of_zok hz hG0
  have hrr := hr.below h0
  refine ⟨z, e1, e2, e3, e4, hrr, ho, ⟨fun i hi => ?_, fun k i hk hi => ?_, fun i hi => ?_⟩, h1, h4, h5⟩
  · exact sm_uniq (hs 0 (by omega) Ac nc cc (.inl ⟨rfl, rfl, rfl, rfl⟩)) (by rw [e1]; exact hrr.c) i (by omega)
  · obtain ⟨b, off, rfl, hb, hc⟩ := hG.2.2 (by omega)
    obtain ⟨A', n', c', h2, _⟩ := hc k (by omega)
    have hg : RDss wr (some ⟨b, off, none⟩) z.m cg z.n z.g := hrr.g
    obtain ⟨b', off', e, _, hcc⟩ := hg.2.2 (by omega)
    injection e with e
    injection e with e5 e6
    subst e5 e6
    obtain ⟨A2, c2, h3, hrow⟩ := hcc k hk
    rw [(hw.cell (p := ⟨b, _, none⟩) hb).trans h2] at h3
    injection h3 with h3
    injection h3 with e7 e8 e9
    subst e7 e9
    rw [← e8] at hrow
    exact sm_uniq (hs (k + 2) (by omega) A' n' c' (.inr (.inr ⟨by omega, b, off, rfl, by rw [Nat.add_sub_cancel]; exact h2⟩))) hrow i (by omega)
  · exact sm_uniq (hs 1 (by omega) Ar nr cr (.inr (.inl ⟨rfl, rfl, rfl, rfl⟩))) (by rw [e2]; exact hrr.r) i (by omega)
theorem rk_up {w : World} {Ac Ag Ar : Option Addr} {nc cc m cg nr cr k : Nat} {A' : Option Addr} {n' c' : Nat} {w0 : World} (hw : Below w.heap.size w w0) (hG : RawR w Ag m cg) (hk : k < 2 + m) (h : Rk w Ac Ag Ar nc cc m cg nr cr k A' n' c') : Rk w0 Ac Ag Ar nc cc m cg nr cr k A' n' c' := by
  rcases h with h | h | ⟨e, b, off, hA, hc⟩
  · exact .inl h
  · exact .inr (.inl h)
  · obtain ⟨b', off', e', hb, _⟩ := hG.2.2 (by omega)
    rw [hA] at e'
    injection e' with e'
    injection e' with e1 e2
    subst e1 e2
    exact .inr (.inr ⟨e, b, off, hA, (hw.cell (p := ⟨b, _, none⟩) hb).trans hc⟩)

set_option maxRecDepth 100000 in
set_option maxHeartbeats 4000000 in
theorem fit_any (w : World) (Ac Ag Ar : Option Addr) (nc cc m cg nr cr n : Nat) (hC : RawD w Ac nc cc) (hG : RawR w Ag m cg) (hR : RawD w Ar nr cr) (hnil : Ag = none → cg = 0) (hn : n ≤ 9223372036854775807) :
    Calls Tryz.prog 6 #[.agg #[.slice Ac nc cc, .slice Ag m cg, .slice Ar nr cr], .int .i64 n] w fun e w' => (e = .returned (.bool false) ∨ e = .returned (.bool true) ∧ Fits w' Ac Ag Ar nc cc m cg nr cr n) ∧ Below w.heap.size w w' := by
  have HC := Lib.hid hC
  have HG := Lib.hid hG
  have HR := Lib.hid hR
  have HNL := Lib.hid hnil
  have hm2 := hG.2.1
  clear hC hG hR hnil
  have hnc := HC.out.2.1
  have hnr := HR.out.2.1
  have BX := Lib.hid (boxes1 w 25 #[.slice Ac nc cc, .slice Ag m cg, .slice Ar nr cr])
  by_cases h1 : n < 1
  · have q0 : (n : Int) < 1 := by omega
    clear h1
    go_enter Tryz.func6, Tryz.ntmps6
    go_wp2
    go_ret
    exact ⟨.inl rfl, BX.out.2⟩
  have q0 : ¬ (n : Int) < 1 := by omega
  by_cases h4 : 4 < n
  · have q1 : (4 : Int) < (n : Int) := by omega
    clear h1
    go_enter Tryz.func6, Tryz.ntmps6
    go_wp2
    go_ret
    exact ⟨.inl rfl, BX.out.2⟩
  have q1 : ¬ (4 : Int) < (n : Int) := by omega
  by_cases h5 : 7 < m
  · have q2 : (7 : Int) < (m : Int) := by omega
    clear h1 h4
    go_enter Tryz.func6, Tryz.ntmps6
    go_wp2
    go_ret
    exact ⟨.inl rfl, BX.out.2⟩
  have q2 : ¬ (7 : Int) < (m : Int) := by omega
  have k1 : 1 ≤ n := by omega
  have k4 : n ≤ 4 := by omega
  have k5 : m ≤ 7 := by omega
  clear h1 h4 h5
  go_enter Tryz.func6, Tryz.ntmps6
  go_wp2_with fail
  generalize w.alloc (.cells #[.slice Ac nc cc, .slice Ag m cg, .slice Ar nr cr] 25) = w0 at *
  obtain ⟨b0, hw⟩ := BX.out
  have BZ := Lib.hid b0
  have HW := Lib.hid hw
  clear b0 hw BX
  refine (zcheck_any _ Ac Ag Ar nc cc m cg nr cr n (HC.out.below HW.out) (HG.out.below HW.out) (HR.out.below HW.out) HNL.out hn).mono ?_
  rintro e w1 ⟨⟨r, rfl, hr⟩, hb⟩
  have HB := Lib.hid (below_tr HW.out hb)
  have H01 := Lib.hid hb
  have BY := Lib.hid (BZ.out.below hb)
  have HRR := Lib.hid hr
  clear hb hr BZ
  by_cases hr0 : r = 0
  rotate_left
  · have q12 : ((r : Int) == 0) = false := by rw [beq_eq_false_iff_ne]; exact hr0
    have q13 : ((r : Int) != 0) = true := by rw [bne, q12]; rfl
    clear hr0
    go_wp2
    go_ret
    exact ⟨.inl rfl, HB.out⟩
  subst hr0
  have HZ := Lib.hid (HRR.out.1 rfl)
  clear HRR
  have ec : nc = n := HZ.out.1
  have er : nr = n := HZ.out.2.1
  subst ec er
  have cz0 := BY.out.cell 0 rfl
  have cz1 := BY.out.cell 1 rfl
  have cz2 := BY.out.cell 2 rfl
  have lz := BY.out.lt
  go_upto_region 3 with (fail)
  go_cut [34, 35, 36] (fun s43 s44 s45 wx => ∃ (g cap : Nat), s43 = .slice (some ⟨g, 0, none⟩) (2 + m) cap ∧ s44 = .int .i64 (2 + (m : Int)) ∧ s45 = .int .i64 0 ∧ CRows Ac Ag Ar nr cc m cg nr cr w g wx ∧ Bk wx w.heap.size 25 #[.slice Ac nr cc, .slice Ag m cg, .slice Ar nr cr] ∧ Below w.heap.size w wx ∧ Below w0.heap.size w0 wx)
  case first =>
    obtain ⟨i0, hi, hz0, hz1, hz2⟩ := info_parts infoL
    have HOW := Lib.hid (own_two w1 (.slice Ac nr cc) (.slice Ar nr cr))
    cases Ag with
    | none =>
      obtain rfl : cg = 0 := HNL.out rfl
      obtain rfl : m = 0 := by have := HG.out.1; omega
      have HX := Lib.hid (crows_end (Ag := none) (cg := 0) (m := 0) (g := w1.heap.size) (cap := 2) (news := []) HB.out HOW.out (World.grownBy.refl _ _) HC.out HR.out rfl (fun k hk => absurd hk (by omega)) BY.out)
      have HX2 := Lib.hid (below_al H01.out (.cells #[.slice Ac nr cc, .slice Ar nr cr] 22))
      go_wp2_with fail
      go_meet
      exact ⟨w1.heap.size, 2, rfl, rfl, rfl, HX.out.1, HX.out.2.1, HX.out.2.2, HX2.out⟩
    | some ad =>
      obtain ⟨news, hnl, hnw, hnc1⟩ := raw_news HG.out
      have HNW := Lib.hid hnw
      have HNC := Lib.hid hnc1
      have HLN := Lib.hid hnl
      clear hnl hnw hnc1
      go_wp2_with (at_builtin; refine wpList_append_own_at _ rfl _ _ 23 rfl 0 22 i0 (.slice none 0 0) 1 24 Tryz.underlying23 hi hz0 hz1 hz2 rfl (by decide) (.slice (some ⟨w1.heap.size, 0, none⟩) 2 2) 2 [.slice Ac nr cc, .slice Ar nr cr] rfl HOW.out ad m cg news rfl ?n1 ?n2 ?n3 ?n4 ?n5 ?n6 ?_)
      case n1 => rw [HLN.out, Nat.mul_one]
      case n2 => intro j u hj; exact Lib.cell?_alloc_some _ ((HB.out.cell (HNC.out.2 j u hj).1).trans (HNC.out.2 j u hj).2)
      case n3 => exact HNC.out.1
      case n4 => unfold maxLen; omega
      case n5 => omega
      case n6 => exact Nat.zero_le _
      intro v' w2 hown hgr hnn hob
      obtain ⟨g, cap, rfl⟩ := own_form hown (by omega)
      have HX := Lib.hid (crows_end (cg := cg) (g := g) (cap := cap) HB.out hown hgr HC.out HR.out HLN.out HNW.out BY.out)
      have HX2 := Lib.hid (show Below w0.heap.size w0 w2 from (below_al H01.out _).grown hgr (by rw [World.size_alloc]; have := H01.out.size; omega) (by intro k hk; have hrow : (Value.ownBlock (.slice (some ⟨w1.heap.size, 0, none⟩) 2 2)) = some w1.heap.size := rfl; rw [hrow] at hk; injection hk with hk; have := H01.out.size; omega))
      clear hown hgr cz0 cz1 cz2 hnn hob
      go_wp2_with fail
      go_meet
      exact ⟨g, cap, rfl, rfl, rfl, HX.out.1, HX.out.2.1, HX.out.2.2, HX2.out⟩
  case rest =>
    obtain ⟨w2, rfl⟩ : ∃ x, x = wc := ⟨_, rfl⟩
    obtain ⟨g, cap, rfl, rfl, rfl, hcr, hbz, hbel, hbel0⟩ := hcut
    have CR := Lib.hid hcr
    have HB2 := Lib.hid hbel
    have HB0 := Lib.hid hbel0
    clear hcr hbz hbel hbel0 cz0 cz1 cz2 lz BY HB H01
    have H0 := Lib.hid (show FitRel Ac Ag Ar nr cc m cg nr cr w w0 w2 0 w2 from ⟨Below.refl _ _, fun k hk => absurd hk (by omega)⟩)
    go_wp2_with fail
    go_loopw [36] (fun k wr => ∃ i : Nat, k = .int .i64 i ∧ i ≤ 2 + m ∧ Hid (FitRel Ac Ag Ar nr cc m cg nr cr w w0 w2 i wr)) (fun k _ => 2 + m - (intOf k).toNat)
    case atStart => exact ⟨0, rfl, Nat.zero_le _, H0⟩
    case round =>
      clear H0
      obtain ⟨k, rfl, hk, Hr⟩ := hrel
      by_cases hk2 : k < 2 + m
      · obtain ⟨A', n', c', e1, hrk, hraw⟩ := CR.out.2 k hk2
        obtain ⟨hbel, hgood⟩ := Hr.out
        have x0 : wr.cell? ⟨g, k, none⟩ = some (.slice A' n' c') := (hbel.cell (p := ⟨g, k, none⟩) CR.out.1).trans e1
        have HRK := Lib.hid hrk
        have HRAW := Lib.hid hraw
        have HGOOD := Lib.hid hgood
        have HBR := Lib.hid hbel
        have hn62 := hraw.2.1
        clear hrk hraw hgood hbel e1 Hr
        have q7 : (k : Int) < 2 + (m : Int) := by omega
        have q7' : (k : Int) < ((2 + m : Nat) : Int) := by omega
        have q7'' : k < 2 + m := hk2
        obtain ⟨en, f, hf, hok⟩ := HZ.out.2.2.2.2.1 k A' n' c' hk2 (rk_up HW.out HG.out hk2 HRK.out)
        obtain rfl : nr = n' := en.symm
        have HF := Lib.hid hf
        have HOK := Lib.hid hok
        clear hf hok en
        go_wp2_with fail
        have I0 := Lib.hid (show Below w2.heap.size w2 wr ∧ ∀ j, j < 0 → (f j).Lim 60 124 from ⟨HBR.out, fun j hj => absurd hj (by omega)⟩)
        clear x0
        go_loopw [42] (fun j wi => ∃ i : Nat, j = .int .i64 i ∧ i ≤ nr ∧ Hid (Below w2.heap.size w2 wi ∧ ∀ j, j < i → (f j).Lim 60 124)) (fun j _ => nr - (intOf j).toNat)
        case atStart => exact ⟨0, rfl, Nat.zero_le _, I0⟩
        case round =>
          clear I0
          obtain ⟨j, rfl, hj, Hi⟩ := hrel
          have HBX := Lib.hid Hi.out.1
          have HEL := Lib.hid Hi.out.2
          have HBI := Lib.hid (HB0.out.trans (Hi.out.1.mono HB0.out.size))
          have HBB := Lib.hid (HB2.out.trans (Hi.out.1.mono HB2.out.size))
          clear Hi
          by_cases hj2 : j < nr
          · obtain ⟨b1, o1, rfl, hl1, hcc⟩ := HF.out.2.2 (by omega)
            obtain ⟨q, z0, z1, z2, hq⟩ := hcc j hj2
            have x1 := (HBI.out.cell (p := ⟨b1, _, none⟩) hl1).trans z0
            have x2 := (HBI.out.cell (p := ⟨b1, _, none⟩) hl1).trans z1
            have x3 := (HBI.out.cell (p := ⟨b1, _, none⟩) hl1).trans z2
            have HQ := Lib.hid hq
            clear hcc z0 z1 z2 hq
            have q8 : (j : Int) < (nr : Int) := by omega
            have F := Lib.hid (below_al HBB.out (.cells #[.bool q.b, .slice q.A q.n q.c, .int .i64 (f j).x] 38))
            have G := Lib.hid (below_al HBX.out (.cells #[.bool q.b, .slice q.A q.n q.c, .int .i64 (f j).x] 38))
            by_cases h2 : q.n ≤ 2
            · have q9 : ¬ (2 : Int) < (q.n : Int) := by omega
              by_cases hx : (f j).x ≤ 60
              · have q10 : ¬ (60 : Int) < (f j).x := by omega
                by_cases hx' : -60 ≤ (f j).x
                · have q11 : ¬ (f j).x < -60 := by omega
                  have HL := Lib.hid (sm_lim HQ.out h2 hx' hx)
                  go_wp2
                  go_roundw
                  case rel =>
                    refine ⟨j + 1, by go_num, hj2, Lib.hid ⟨G.out, fun j' hj' => ?_⟩⟩
                    by_cases e : j' = j
                    · subst e; exact HL.out
                    · exact HEL.out j' (by omega)
                  case measure => simp only [intOf]; omega
                · have q11 : (f j).x < -60 := by omega
                  go_wp2
                  go_ret
                  exact ⟨.inl rfl, F.out⟩
              · have q10 : (60 : Int) < (f j).x := by omega
                go_wp2
                go_ret
                exact ⟨.inl rfl, F.out⟩
            · have q9 : (2 : Int) < (q.n : Int) := by omega
              go_wp2
              go_ret
              exact ⟨.inl rfl, F.out⟩
          · obtain rfl : j = nr := by omega
            clear hj2
            go_wp2
            go_roundw
            case rel =>
              refine ⟨k + 1, by go_num, hk2, Lib.hid ⟨HBX.out, fun k' hk' A'' n'' c'' h'' => ?_⟩⟩
              by_cases e : k' = k
              · subst e
                obtain ⟨rfl, rfl, rfl⟩ := h''.uniq HRK.out
                exact ⟨f, HF.out, fun j hj => ⟨HOK.out j hj, HEL.out j hj⟩⟩
              · exact HGOOD.out k' (by omega) _ _ _ h''
            case measure => simp only [intOf]; omega
      · obtain rfl : k = 2 + m := by omega
        have HBW := Lib.hid (HB2.out.trans (Hr.out.1.mono HB2.out.size))
        have HF := Lib.hid (fits_of HBW.out (HB0.out.trans (Hr.out.1.mono HB0.out.size)) HG.out (HG.out.below HW.out) HZ.out (fun k' hk' A' n' c' h => (Hr.out.2 k' hk' A' n' c' h).below (HB0.out.trans (Hr.out.1.mono HB0.out.size))) k1 k4 k5)
        clear Hr hk2
        go_wp2
        go_ret
        exact ⟨.inr ⟨rfl, HF.out⟩, HBW.out⟩
end Go.Proofs.YtgioppkggpfnoaaGreatDoor.Nu
end

section
/- What layer 17's laws call, the places said once; and how the answers stand. -/
set_option linter.unusedVariables false
namespace Go.Proofs.YtgioppkggpfnoaaGreatDoor.Nu
open Go.RowKit Go.Proofs

theorem zcheck_at (w : World) (Ac Ag Ar : Option Addr) (cc cg cr : Nat) (z : Zo) (n : Nat) (ez : z.n = n) (h : RZo w ⟨Ac, cc, Ag, cg, Ar, cr⟩ z) (ho : z.Ok) (hnil : Ag = none → cg = 0) :
    Calls Tryz.prog 10 #[.agg #[.slice Ac n cc, .slice Ag z.m cg, .slice Ar n cr], .int .i64 n] w fun e w' => e = .returned (.int .i64 0) ∧ Below w.heap.size w w' := by
  subst ez
  exact zcheck_good w Ac Ag Ar cc cg cr z h ho hnil
theorem Zo.Lim.mono' {z : Zo} {E T E2 T2 : Nat} (h : z.Lim E T) (h1 : E ≤ E2) (h2 : T ≤ T2) : z.Lim E2 T2 := ⟨fun i hi => (h.c i hi).mono h1 h2, fun k i hk hi => (h.g k i hk hi).mono h1 h2, fun i hi => (h.r i hi).mono h1 h2⟩
theorem not_less {p q : D} (h : q.val ≤ p.val) : decide (p.cmp q < 0) = false := decide_eq_false fun e => absurd (cmp_neg_iff.1 e) (Rat.not_lt.2 h)
theorem calls_at {P : Program} {f : FuncId} {args : Array Value} {W W' : World} {post : Ending → World → Prop} (h : Calls P f args W post) (e : W = W') : Calls P f args W' post := e ▸ h
theorem sup_lim {z : Zo} {dir : Nat → Sp} {E T E2 T2 : Nat} (bits : Nat) (lz : z.Lim E T) (ld : ∀ i, i < z.n → (dir i).Lim E2 T2) : (z.sup dir bits).Lim (E + E2) (T + T2 + 1 + (2 * z.n + 2 * z.m) + 2 * z.n) := by
  have h1 := inner_lim (a := pts z.c) bits z.n (fun i hi => pt_lim (lz.c i hi)) ld
  have h2 := supG_lim (bits := bits) lz.g ld h1 z.m (Nat.le_refl _)
  exact (supR_lim (q := 2 * z.n + 2 * z.m) (bits := bits) lz.r ld (h2.mono (Nat.le_refl _) (by omega)) z.n (Nat.le_refl _)).2
theorem sup_limR {z : Zo} {f : Nat → D} (lz : z.Lim 60 160) (hn : z.n ≤ 4) (hm : z.m ≤ 7) (lf : ∀ i, i < z.n → (f i).Lim 60 124) : (z.sup (pts f) 2000).Lim 121 330 := (sup_lim 2000 lz (fun i hi => pt_lim (lf i hi))).mono (by omega) (by omega)
theorem farR {z : Zo} {f : Nat → D} (lz : z.Lim 60 160) (hn : z.n ≤ 4) (hm : z.m ≤ 7) (lf : ∀ i, i < z.n → (f i).Lim 60 124) : (z.sup (pts f) 2000).val = z.far (fun i => (f i).val) := sup_far lz lf (by omega)
end Go.Proofs.YtgioppkggpfnoaaGreatDoor.Nu
end

section
/- The walk of layer 17's first look: a set of three ways. -/
set_option linter.unusedVariables false
namespace Go.Proofs.YtgioppkggpfnoaaGreatDoor.Nu
open Go.RowKit Go.Proofs

theorem few_lim_of {d : D} (h : -2 ≤ d.x ∧ d.x + nb d.z.natAbs ≤ 30) : d.Lim 2 30 := ⟨h.1, h.2⟩

set_option maxRecDepth 100000 in
set_option maxHeartbeats 4000000 in
theorem fewer_any (w : World) (ht : BTab w) :
    Calls Tryz.prog 5 #[] w fun e w' => e = .returned (.bool true) ∧ Below w.heap.size w w' := by
  have HT := Lib.hid ht
  clear ht
  go_enter Tryz.func5, Tryz.ntmps5
  have HB_0 := Lib.hid (show Below w.heap.size w w from Below.refl _ _)
  go_wp2_with fail
  refine (dOf_any _ 1 (0) (by omega) (by omega) (by omega) (by omega) (HT.out.below HB_0.out)).mono ?_
  rintro e w1 ⟨⟨p, rfl, hp⟩, hb⟩
  have K := Dk.below hb
  have HB_1 := Lib.hid (below_tr HB_0.out hb)
  clear hb
  clear K HB_0
  have RP_2 := Lib.hid hp
  clear hp
  go_wp2_with fail
  refine (dOf_any _ 1 (0) (by omega) (by omega) (by omega) (by omega) (HT.out.below HB_1.out)).mono ?_
  rintro e w2 ⟨⟨q, rfl, hq⟩, hb⟩
  have K := Dk.below hb
  have HB_3 := Lib.hid (below_tr HB_1.out hb)
  clear hb
  have RP_4 := Lib.hid (RP_2.out.dk K)
  clear K HB_1 RP_2
  have RQ_5 := Lib.hid hq
  clear hq
  go_wp2_with fail
  refine (dOf_any _ 1 (-2) (by omega) (by omega) (by omega) (by omega) (HT.out.below (below_al HB_3.out _))).mono ?_
  rintro e w3 ⟨⟨r, rfl, hr⟩, hb⟩
  have K := Dk.trans ((Dk.refl _).alloc _) (.below hb)
  have Bone_6 := Lib.hid (show Bk _ _ _ #[.bool p.b, .slice p.A p.n p.c, .int .i64 (D.mk' 1 0).x, .bool q.b, .slice q.A q.n q.c, .int .i64 (D.mk' 1 0).x] from (Bk.new _ 38 #[.bool p.b, .slice p.A p.n p.c, .int .i64 (D.mk' 1 0).x, .bool q.b, .slice q.A q.n q.c, .int .i64 (D.mk' 1 0).x]).below hb)
  have HB_7 := Lib.hid (below_tr (below_al HB_3.out _) hb)
  clear hb
  have RP_8 := Lib.hid (RP_4.out.dk K)
  have RQ_9 := Lib.hid (RQ_5.out.dk K)
  clear K HB_3 RP_4 RQ_5
  have RR_10 := Lib.hid hr
  clear hr
  have n_11 := Bone_6.out.lt
  go_upto_region 2 with (fail)
  have K : Dk w3 (w3.alloc (.cells #[.bool r.b, .slice r.A r.n r.c, .int .i64 (D.mk' 1 (-2)).x, .bool false, .slice none 0 0, .int .i64 0] 38)) := ((Dk.refl _).alloc _)
  have Bone_12 := Lib.hid (show Bk (w3.alloc (.cells #[.bool r.b, .slice r.A r.n r.c, .int .i64 (D.mk' 1 (-2)).x, .bool false, .slice none 0 0, .int .i64 0] 38)) (w2.heap.size) 38 #[.bool p.b, .slice p.A p.n p.c, .int .i64 (D.mk' 1 0).x, .bool q.b, .slice q.A q.n q.c, .int .i64 (D.mk' 1 0).x] from (Bone_6.out.alloc _))
  have Btwo_13 := Lib.hid (show Bk (w3.alloc (.cells #[.bool r.b, .slice r.A r.n r.c, .int .i64 (D.mk' 1 (-2)).x, .bool false, .slice none 0 0, .int .i64 0] 38)) (w3.heap.size) 38 #[.bool r.b, .slice r.A r.n r.c, .int .i64 (D.mk' 1 (-2)).x, .bool false, .slice none 0 0, .int .i64 0] from (Bk.new _ 38 #[.bool r.b, .slice r.A r.n r.c, .int .i64 (D.mk' 1 (-2)).x, .bool false, .slice none 0 0, .int .i64 0]))
  have HB_14 := Lib.hid (show Below w.heap.size w (w3.alloc (.cells #[.bool r.b, .slice r.A r.n r.c, .int .i64 (D.mk' 1 (-2)).x, .bool false, .slice none 0 0, .int .i64 0] 38)) from (below_al HB_7.out _))
  have RP_15 := Lib.hid (RP_8.out.dk K)
  have RQ_16 := Lib.hid (RQ_9.out.dk K)
  have RR_17 := Lib.hid (RR_10.out.dk K)
  clear K Bone_6 HB_7 RP_8 RQ_9 RR_10
  generalize w3.alloc (.cells #[.bool r.b, .slice r.A r.n r.c, .int .i64 (D.mk' 1 (-2)).x, .bool false, .slice none 0 0, .int .i64 0] 38) = w4 at *
  have hmk := fun W => make_2 W
  go_cut [3] (fun s3 wx => ∃ gz g1 gg g2 : Nat, s3 = .pointer (some ⟨gz, 0, none⟩) ∧ FewMem w4 w2.heap.size w3.heap.size gz g1 gg g2 wx)
  case first =>
    go_region
    all_goals (go_wp2_with fail; go_meet; first | (with_reducible exact ⟨w4.heap.size + 1 + 1 + 1, w4.heap.size, w4.heap.size + 1, w4.heap.size + 1 + 1, rfl, few_mk (four3 _ _ _ _ _ _) (od_two (four0 _ _ _ _ _ _)) (od_two (four2 _ _ _ _ _ _)) (four1 _ _ _ _ _ _) (below_dr (below_al (below_al (below_al (below_al (Below.refl _ _) _) _) _) _))⟩) | (with_reducible exact ⟨w4.heap.size + 1 + 1, w4.heap.size, w4.heap.size + 1, w4.heap.size + 1 + 1 + 1, rfl, few_mk (four2 _ _ _ _ _ _) (od_two (four0 _ _ _ _ _ _)) (od_two (four3 _ _ _ _ _ _)) (four1 _ _ _ _ _ _) (below_dr (below_al (below_al (below_al (below_al (Below.refl _ _) _) _) _) _))⟩) | (with_reducible exact ⟨w4.heap.size + 1 + 1 + 1, w4.heap.size, w4.heap.size + 1 + 1, w4.heap.size + 1, rfl, few_mk (four3 _ _ _ _ _ _) (od_two (four0 _ _ _ _ _ _)) (od_two (four1 _ _ _ _ _ _)) (four2 _ _ _ _ _ _) (below_dr (below_al (below_al (below_al (below_al (Below.refl _ _) _) _) _) _))⟩) | (with_reducible exact ⟨w4.heap.size + 1, w4.heap.size, w4.heap.size + 1 + 1, w4.heap.size + 1 + 1 + 1, rfl, few_mk (four1 _ _ _ _ _ _) (od_two (four0 _ _ _ _ _ _)) (od_two (four3 _ _ _ _ _ _)) (four2 _ _ _ _ _ _) (below_dr (below_al (below_al (below_al (below_al (Below.refl _ _) _) _) _) _))⟩) | (with_reducible exact ⟨w4.heap.size + 1 + 1, w4.heap.size, w4.heap.size + 1 + 1 + 1, w4.heap.size + 1, rfl, few_mk (four2 _ _ _ _ _ _) (od_two (four0 _ _ _ _ _ _)) (od_two (four1 _ _ _ _ _ _)) (four3 _ _ _ _ _ _) (below_dr (below_al (below_al (below_al (below_al (Below.refl _ _) _) _) _) _))⟩) | (with_reducible exact ⟨w4.heap.size + 1, w4.heap.size, w4.heap.size + 1 + 1 + 1, w4.heap.size + 1 + 1, rfl, few_mk (four1 _ _ _ _ _ _) (od_two (four0 _ _ _ _ _ _)) (od_two (four2 _ _ _ _ _ _)) (four3 _ _ _ _ _ _) (below_dr (below_al (below_al (below_al (below_al (Below.refl _ _) _) _) _) _))⟩) | (with_reducible exact ⟨w4.heap.size + 1 + 1 + 1, w4.heap.size + 1, w4.heap.size, w4.heap.size + 1 + 1, rfl, few_mk (four3 _ _ _ _ _ _) (od_two (four1 _ _ _ _ _ _)) (od_two (four2 _ _ _ _ _ _)) (four0 _ _ _ _ _ _) (below_dr (below_al (below_al (below_al (below_al (Below.refl _ _) _) _) _) _))⟩) | (with_reducible exact ⟨w4.heap.size + 1 + 1, w4.heap.size + 1, w4.heap.size, w4.heap.size + 1 + 1 + 1, rfl, few_mk (four2 _ _ _ _ _ _) (od_two (four1 _ _ _ _ _ _)) (od_two (four3 _ _ _ _ _ _)) (four0 _ _ _ _ _ _) (below_dr (below_al (below_al (below_al (below_al (Below.refl _ _) _) _) _) _))⟩) | (with_reducible exact ⟨w4.heap.size + 1 + 1 + 1, w4.heap.size + 1, w4.heap.size + 1 + 1, w4.heap.size, rfl, few_mk (four3 _ _ _ _ _ _) (od_two (four1 _ _ _ _ _ _)) (od_two (four0 _ _ _ _ _ _)) (four2 _ _ _ _ _ _) (below_dr (below_al (below_al (below_al (below_al (Below.refl _ _) _) _) _) _))⟩) | (with_reducible exact ⟨w4.heap.size, w4.heap.size + 1, w4.heap.size + 1 + 1, w4.heap.size + 1 + 1 + 1, rfl, few_mk (four0 _ _ _ _ _ _) (od_two (four1 _ _ _ _ _ _)) (od_two (four3 _ _ _ _ _ _)) (four2 _ _ _ _ _ _) (below_dr (below_al (below_al (below_al (below_al (Below.refl _ _) _) _) _) _))⟩) | (with_reducible exact ⟨w4.heap.size + 1 + 1, w4.heap.size + 1, w4.heap.size + 1 + 1 + 1, w4.heap.size, rfl, few_mk (four2 _ _ _ _ _ _) (od_two (four1 _ _ _ _ _ _)) (od_two (four0 _ _ _ _ _ _)) (four3 _ _ _ _ _ _) (below_dr (below_al (below_al (below_al (below_al (Below.refl _ _) _) _) _) _))⟩) | (with_reducible exact ⟨w4.heap.size, w4.heap.size + 1, w4.heap.size + 1 + 1 + 1, w4.heap.size + 1 + 1, rfl, few_mk (four0 _ _ _ _ _ _) (od_two (four1 _ _ _ _ _ _)) (od_two (four2 _ _ _ _ _ _)) (four3 _ _ _ _ _ _) (below_dr (below_al (below_al (below_al (below_al (Below.refl _ _) _) _) _) _))⟩) | (with_reducible exact ⟨w4.heap.size + 1 + 1 + 1, w4.heap.size + 1 + 1, w4.heap.size, w4.heap.size + 1, rfl, few_mk (four3 _ _ _ _ _ _) (od_two (four2 _ _ _ _ _ _)) (od_two (four1 _ _ _ _ _ _)) (four0 _ _ _ _ _ _) (below_dr (below_al (below_al (below_al (below_al (Below.refl _ _) _) _) _) _))⟩) | (with_reducible exact ⟨w4.heap.size + 1, w4.heap.size + 1 + 1, w4.heap.size, w4.heap.size + 1 + 1 + 1, rfl, few_mk (four1 _ _ _ _ _ _) (od_two (four2 _ _ _ _ _ _)) (od_two (four3 _ _ _ _ _ _)) (four0 _ _ _ _ _ _) (below_dr (below_al (below_al (below_al (below_al (Below.refl _ _) _) _) _) _))⟩) | (with_reducible exact ⟨w4.heap.size + 1 + 1 + 1, w4.heap.size + 1 + 1, w4.heap.size + 1, w4.heap.size, rfl, few_mk (four3 _ _ _ _ _ _) (od_two (four2 _ _ _ _ _ _)) (od_two (four0 _ _ _ _ _ _)) (four1 _ _ _ _ _ _) (below_dr (below_al (below_al (below_al (below_al (Below.refl _ _) _) _) _) _))⟩) | (with_reducible exact ⟨w4.heap.size, w4.heap.size + 1 + 1, w4.heap.size + 1, w4.heap.size + 1 + 1 + 1, rfl, few_mk (four0 _ _ _ _ _ _) (od_two (four2 _ _ _ _ _ _)) (od_two (four3 _ _ _ _ _ _)) (four1 _ _ _ _ _ _) (below_dr (below_al (below_al (below_al (below_al (Below.refl _ _) _) _) _) _))⟩) | (with_reducible exact ⟨w4.heap.size + 1, w4.heap.size + 1 + 1, w4.heap.size + 1 + 1 + 1, w4.heap.size, rfl, few_mk (four1 _ _ _ _ _ _) (od_two (four2 _ _ _ _ _ _)) (od_two (four0 _ _ _ _ _ _)) (four3 _ _ _ _ _ _) (below_dr (below_al (below_al (below_al (below_al (Below.refl _ _) _) _) _) _))⟩) | (with_reducible exact ⟨w4.heap.size, w4.heap.size + 1 + 1, w4.heap.size + 1 + 1 + 1, w4.heap.size + 1, rfl, few_mk (four0 _ _ _ _ _ _) (od_two (four2 _ _ _ _ _ _)) (od_two (four1 _ _ _ _ _ _)) (four3 _ _ _ _ _ _) (below_dr (below_al (below_al (below_al (below_al (Below.refl _ _) _) _) _) _))⟩) | (with_reducible exact ⟨w4.heap.size + 1 + 1, w4.heap.size + 1 + 1 + 1, w4.heap.size, w4.heap.size + 1, rfl, few_mk (four2 _ _ _ _ _ _) (od_two (four3 _ _ _ _ _ _)) (od_two (four1 _ _ _ _ _ _)) (four0 _ _ _ _ _ _) (below_dr (below_al (below_al (below_al (below_al (Below.refl _ _) _) _) _) _))⟩) | (with_reducible exact ⟨w4.heap.size + 1, w4.heap.size + 1 + 1 + 1, w4.heap.size, w4.heap.size + 1 + 1, rfl, few_mk (four1 _ _ _ _ _ _) (od_two (four3 _ _ _ _ _ _)) (od_two (four2 _ _ _ _ _ _)) (four0 _ _ _ _ _ _) (below_dr (below_al (below_al (below_al (below_al (Below.refl _ _) _) _) _) _))⟩) | (with_reducible exact ⟨w4.heap.size + 1 + 1, w4.heap.size + 1 + 1 + 1, w4.heap.size + 1, w4.heap.size, rfl, few_mk (four2 _ _ _ _ _ _) (od_two (four3 _ _ _ _ _ _)) (od_two (four0 _ _ _ _ _ _)) (four1 _ _ _ _ _ _) (below_dr (below_al (below_al (below_al (below_al (Below.refl _ _) _) _) _) _))⟩) | (with_reducible exact ⟨w4.heap.size, w4.heap.size + 1 + 1 + 1, w4.heap.size + 1, w4.heap.size + 1 + 1, rfl, few_mk (four0 _ _ _ _ _ _) (od_two (four3 _ _ _ _ _ _)) (od_two (four2 _ _ _ _ _ _)) (four1 _ _ _ _ _ _) (below_dr (below_al (below_al (below_al (below_al (Below.refl _ _) _) _) _) _))⟩) | (with_reducible exact ⟨w4.heap.size + 1, w4.heap.size + 1 + 1 + 1, w4.heap.size + 1 + 1, w4.heap.size, rfl, few_mk (four1 _ _ _ _ _ _) (od_two (four3 _ _ _ _ _ _)) (od_two (four0 _ _ _ _ _ _)) (four2 _ _ _ _ _ _) (below_dr (below_al (below_al (below_al (below_al (Below.refl _ _) _) _) _) _))⟩) | (with_reducible exact ⟨w4.heap.size, w4.heap.size + 1 + 1 + 1, w4.heap.size + 1 + 1, w4.heap.size + 1, rfl, few_mk (four0 _ _ _ _ _ _) (od_two (four3 _ _ _ _ _ _)) (od_two (four1 _ _ _ _ _ _)) (four2 _ _ _ _ _ _) (below_dr (below_al (below_al (below_al (below_al (Below.refl _ _) _) _) _) _))⟩))
  case rest =>
    clear hmk
    obtain ⟨w9, rfl⟩ : ∃ x, x = wc := ⟨_, rfl⟩
    obtain ⟨gz, g1, gg, g2, rfl, hfm⟩ := hcut
    have ZF := Lib.hid (few_set hfm (two_row (f := fwOne) Bone_12.out RP_15.out RQ_16.out rfl rfl) (two_row (f := fwTwo) (q := Q.nil) (b := D.zero) Btwo_13.out RR_17.out (RD.zero _) rfl rfl))
    have BZ := Lib.hid hfm.1
    have BASE := Lib.hid (below_tr HB_14.out hfm.2.2.2.2)
    replace HT := Lib.hid (HT.out.below BASE.out)
    clear hfm Bone_12 Btwo_13 HB_14 RP_15 RQ_16 RR_17
    have HB_900 := Lib.hid (show Below w9.heap.size w9 w9 from Below.refl _ _)
    have lz := BZ.out.lt
    obtain ⟨cz0, cz1, cz2⟩ := BZ.out.cells3
    go_wp2_with fail
    refine (order_fw _ g1 gg g2 (ZF.out.below HB_900.out) (HT.out.below HB_900.out)).mono ?_
    rintro e w10 ⟨⟨Ao, co, Ro, ro, rfl, hz⟩, hb⟩
    clear lz cz0 cz1 cz2
    have K := Dk.below hb
    have Bz_902 := Lib.hid (show Bk _ _ _ #[.slice (some ⟨g1, 0, none⟩) 2 2, .slice (some ⟨gg, 0, none⟩) 3 3, .slice (some ⟨g2, 0, none⟩) 2 2] from BZ.out.below hb)
    have HB_903 := Lib.hid (below_tr HB_900.out hb)
    clear hb
    clear K BZ HB_900
    have ZO := Lib.hid hz
    clear hz
    have BASE_904 := Lib.hid (below_tr BASE.out HB_903.out)
    replace ZF := Lib.hid (ZF.out.below HB_903.out)
    replace HT := Lib.hid (HT.out.below HB_903.out)
    clear HB_903 BASE
    have HB_905 := Lib.hid (show Below w10.heap.size w10 w10 from Below.refl _ _)
    have lz := Bz_902.out.lt
    obtain ⟨cz0, cz1, cz2⟩ := Bz_902.out.cells3
    have n_906 := Bz_902.out.lt
    go_wp2_with fail
    refine (merge_fw _ g1 gg g2 (ZF.out.below (below_al HB_905.out _)) (HT.out.below (below_al HB_905.out _))).mono ?_
    rintro e w11 ⟨⟨Am, cm, Rm, rm, rfl, hz⟩, hb⟩
    clear lz cz0 cz1 cz2
    have K := Dk.trans ((Dk.refl _).alloc _) (.below hb)
    have Bz_907 := Lib.hid (show Bk _ _ _ #[.slice (some ⟨g1, 0, none⟩) 2 2, .slice (some ⟨gg, 0, none⟩) 3 3, .slice (some ⟨g2, 0, none⟩) 2 2] from (Bz_902.out.alloc _).below hb)
    have Bo_908 := Lib.hid (show Bk _ _ _ #[.slice (some ⟨g1, 0, none⟩) 2 2, .slice Ao 2 co, .slice Ro 2 ro] from (Bk.new _ 25 #[.slice (some ⟨g1, 0, none⟩) 2 2, .slice Ao 2 co, .slice Ro 2 ro]).below hb)
    have HB_909 := Lib.hid (below_tr (below_al HB_905.out _) hb)
    clear hb
    clear K Bz_902 HB_905
    have ZM := Lib.hid hz
    clear hz
    have BASE_910 := Lib.hid (below_tr BASE_904.out HB_909.out)
    replace ZF := Lib.hid (ZF.out.below HB_909.out)
    replace HT := Lib.hid (HT.out.below HB_909.out)
    replace ZO := Lib.hid (ZO.out.below HB_909.out)
    clear HB_909 BASE_904
    have HB_911 := Lib.hid (show Below w11.heap.size w11 w11 from Below.refl _ _)
    have lz := Bz_907.out.lt
    obtain ⟨cz0, cz1, cz2⟩ := Bz_907.out.cells3
    have lo := Bo_908.out.lt
    obtain ⟨co0, co1, co2⟩ := Bo_908.out.cells3
    have n_912 := Bz_907.out.lt
    have n_913 := Bo_908.out.lt
    go_wp2_with fail
    refine (norm_fw _ g1 gg g2 (ZF.out.below (below_al HB_911.out _)) (HT.out.below (below_al HB_911.out _))).mono ?_
    rintro e w12 ⟨⟨An, cn, rfl, hz⟩, hb⟩
    clear lz cz0 cz1 cz2 lo co0 co1 co2
    have K := Dk.trans ((Dk.refl _).alloc _) (.below hb)
    have Bz_914 := Lib.hid (show Bk _ _ _ #[.slice (some ⟨g1, 0, none⟩) 2 2, .slice (some ⟨gg, 0, none⟩) 3 3, .slice (some ⟨g2, 0, none⟩) 2 2] from (Bz_907.out.alloc _).below hb)
    have Bo_915 := Lib.hid (show Bk _ _ _ #[.slice (some ⟨g1, 0, none⟩) 2 2, .slice Ao 2 co, .slice Ro 2 ro] from (Bo_908.out.alloc _).below hb)
    have Bm_916 := Lib.hid (show Bk _ _ _ #[.slice (some ⟨g1, 0, none⟩) 2 2, .slice Am 2 cm, .slice Rm 2 rm] from (Bk.new _ 25 #[.slice (some ⟨g1, 0, none⟩) 2 2, .slice Am 2 cm, .slice Rm 2 rm]).below hb)
    have HB_917 := Lib.hid (below_tr (below_al HB_911.out _) hb)
    clear hb
    clear K Bz_907 Bo_908 HB_911
    have ZN := Lib.hid hz
    clear hz
    have BASE_918 := Lib.hid (below_tr BASE_910.out HB_917.out)
    replace ZF := Lib.hid (ZF.out.below HB_917.out)
    replace HT := Lib.hid (HT.out.below HB_917.out)
    replace ZO := Lib.hid (ZO.out.below HB_917.out)
    replace ZM := Lib.hid (ZM.out.below HB_917.out)
    clear HB_917 BASE_910
    have HB_919 := Lib.hid (show Below w12.heap.size w12 w12 from Below.refl _ _)
    have lz := Bz_914.out.lt
    obtain ⟨cz0, cz1, cz2⟩ := Bz_914.out.cells3
    have lo := Bo_915.out.lt
    obtain ⟨co0, co1, co2⟩ := Bo_915.out.cells3
    have lm := Bm_916.out.lt
    obtain ⟨cm0, cm1, cm2⟩ := Bm_916.out.cells3
    go_wp2_with fail
    refine (order_neg _ _ _ _).mono ?_
    rintro e w13 ⟨rfl, hb⟩
    clear lz cz0 cz1 cz2 lo co0 co1 co2 lm cm0 cm1 cm2
    have K := Dk.below hb
    have Bz_920 := Lib.hid (show Bk _ _ _ #[.slice (some ⟨g1, 0, none⟩) 2 2, .slice (some ⟨gg, 0, none⟩) 3 3, .slice (some ⟨g2, 0, none⟩) 2 2] from Bz_914.out.below hb)
    have Bo_921 := Lib.hid (show Bk _ _ _ #[.slice (some ⟨g1, 0, none⟩) 2 2, .slice Ao 2 co, .slice Ro 2 ro] from Bo_915.out.below hb)
    have Bm_922 := Lib.hid (show Bk _ _ _ #[.slice (some ⟨g1, 0, none⟩) 2 2, .slice Am 2 cm, .slice Rm 2 rm] from Bm_916.out.below hb)
    have HB_923 := Lib.hid (below_tr HB_919.out hb)
    clear hb
    clear K Bz_914 Bo_915 Bm_916 HB_919
    have BASE_924 := Lib.hid (below_tr BASE_918.out HB_923.out)
    replace HT := Lib.hid (HT.out.below HB_923.out)
    replace ZO := Lib.hid (ZO.out.below HB_923.out)
    replace ZM := Lib.hid (ZM.out.below HB_923.out)
    replace ZN := Lib.hid (ZN.out.below HB_923.out)
    clear HB_923 BASE_918
    have HB_925 := Lib.hid (show Below w13.heap.size w13 w13 from Below.refl _ _)
    clear ZF
    have lz := Bz_920.out.lt
    obtain ⟨cz0, cz1, cz2⟩ := Bz_920.out.cells3
    have lo := Bo_921.out.lt
    obtain ⟨co0, co1, co2⟩ := Bo_921.out.cells3
    have lm := Bm_922.out.lt
    obtain ⟨cm0, cm1, cm2⟩ := Bm_922.out.cells3
    have n_926 := Bz_920.out.lt
    have n_927 := Bo_921.out.lt
    have n_928 := Bm_922.out.lt
    go_upto_region 7 with (fail)
    clear lz cz0 cz1 cz2 lo co0 co1 co2 lm cm0 cm1 cm2
    have K : Dk w13 (w13.alloc (.cells #[.slice none 0 0, .slice none 0 0, .slice none 0 0] 25)) := ((Dk.refl _).alloc _)
    have Bz_929 := Lib.hid (show Bk (w13.alloc (.cells #[.slice none 0 0, .slice none 0 0, .slice none 0 0] 25)) (gz) 25 #[.slice (some ⟨g1, 0, none⟩) 2 2, .slice (some ⟨gg, 0, none⟩) 3 3, .slice (some ⟨g2, 0, none⟩) 2 2] from (Bz_920.out.alloc _))
    have Bo_930 := Lib.hid (show Bk (w13.alloc (.cells #[.slice none 0 0, .slice none 0 0, .slice none 0 0] 25)) (w10.heap.size) 25 #[.slice (some ⟨g1, 0, none⟩) 2 2, .slice Ao 2 co, .slice Ro 2 ro] from (Bo_921.out.alloc _))
    have Bm_931 := Lib.hid (show Bk (w13.alloc (.cells #[.slice none 0 0, .slice none 0 0, .slice none 0 0] 25)) (w11.heap.size) 25 #[.slice (some ⟨g1, 0, none⟩) 2 2, .slice Am 2 cm, .slice Rm 2 rm] from (Bm_922.out.alloc _))
    have Be_932 := Lib.hid (show Bk (w13.alloc (.cells #[.slice none 0 0, .slice none 0 0, .slice none 0 0] 25)) (w13.heap.size) 25 #[.slice none 0 0, .slice none 0 0, .slice none 0 0] from (Bk.new _ 25 #[.slice none 0 0, .slice none 0 0, .slice none 0 0]))
    have HB_933 := Lib.hid (show Below w13.heap.size w13 (w13.alloc (.cells #[.slice none 0 0, .slice none 0 0, .slice none 0 0] 25)) from (below_al HB_925.out _))
    clear K Bz_920 Bo_921 Bm_922 HB_925
    generalize w13.alloc (.cells #[.slice none 0 0, .slice none 0 0, .slice none 0 0] 25) = w14 at *
    have BASE_934 := Lib.hid (below_tr BASE_924.out HB_933.out)
    replace HT := Lib.hid (HT.out.below HB_933.out)
    replace ZO := Lib.hid (ZO.out.below HB_933.out)
    replace ZM := Lib.hid (ZM.out.below HB_933.out)
    replace ZN := Lib.hid (ZN.out.below HB_933.out)
    clear HB_933 BASE_924
    have HB_935 := Lib.hid (show Below w14.heap.size w14 w14 from Below.refl _ _)
    obtain ⟨b1, o1, rfl, l1, hcc⟩ := ZO.out.r.2.2 (show 0 < 2 by omega)
    obtain ⟨q1, z0, z1, z2, hq⟩ := hcc 0 (show 0 < 2 by omega)
    have Y0 := Lib.hid (show w14.cell? ⟨b1, o1, none⟩ = some (.bool q1.b) from z0)
    have Y1 := Lib.hid (show w14.cell? ⟨b1, o1 + 1, none⟩ = some (.slice q1.A q1.n q1.c) from z1)
    have Y2 := Lib.hid (show w14.cell? ⟨b1, o1 + 2, none⟩ = some (.int .i64 ((redZ fwZ 1 30).r 0).x) from z2)
    have RY_936 := Lib.hid hq
    clear hq
    clear hcc z0 z1 z2
    obtain ⟨b2, o2, rfl, l2, hcc⟩ := ZM.out.g.2.2 (show 0 < (mergeZ fwZ 30).m by rw [fw_merge]; omega)
    obtain ⟨A4, c4, z0, hrow⟩ := hcc 0 (show 0 < (mergeZ fwZ 30).m by rw [fw_merge]; omega)
    have G0 := Lib.hid (show w14.cell? ⟨b2, o2, none⟩ = some (.slice A4 2 c4) from z0)
    have HRW := Lib.hid hrow
    clear hcc z0 hrow
    obtain ⟨b3, o3, rfl, l3, hcc⟩ := HRW.out.2.2 (show 0 < 2 by omega)
    obtain ⟨q2, z0, z1, z2, hq⟩ := hcc 0 (show 0 < 2 by omega)
    have X0 := Lib.hid (show w14.cell? ⟨b3, o3, none⟩ = some (.bool q2.b) from z0)
    have X1 := Lib.hid (show w14.cell? ⟨b3, o3 + 1, none⟩ = some (.slice q2.A q2.n q2.c) from z1)
    have X2 := Lib.hid (show w14.cell? ⟨b3, o3 + 2, none⟩ = some (.int .i64 ((mergeZ fwZ 30).g 0 0).x) from z2)
    have RX_937 := Lib.hid hq
    clear hq
    clear hcc z0 z1 z2
    obtain ⟨b4, o4, rfl, l4, hcc⟩ := ZN.out.2.2 (show 0 < 3 by omega)
    obtain ⟨q3, z0, z1, z2, hq⟩ := hcc 0 (show 0 < 3 by omega)
    have N0 := Lib.hid (show w14.cell? ⟨b4, o4, none⟩ = some (.bool q3.b) from z0)
    have N1 := Lib.hid (show w14.cell? ⟨b4, o4 + 1, none⟩ = some (.slice q3.A q3.n q3.c) from z1)
    have N2 := Lib.hid (show w14.cell? ⟨b4, o4 + 2, none⟩ = some (.int .i64 (spr fwZ 30 (sigD fwZ 30 0)).x) from z2)
    have RN_938 := Lib.hid hq
    clear hq
    clear hcc z0 z1 z2
    have L1 := Lib.hid (show ((redZ fwZ 1 30).r 0).Lim 2 30 from ((redZ_lim fw_lim (show 1 ≤ 3 by omega) 30).r 0 (show 0 < 2 by omega)).mono (by omega) (by omega))
    have L2 := Lib.hid (show ((mergeZ fwZ 30).g 0 0).Lim 2 30 from ((mergeZ_lim fw_lim 30).g 0 0 (show 0 < (mergeZ fwZ 30).m by rw [fw_merge]; omega) (show 0 < 2 by omega)).mono (by omega) (by show 1 + 5 * 3 ≤ 30; omega))
    have L3 := Lib.hid (show (spr fwZ 30 (sigD fwZ 30 0)).Lim 2 30 from (spread_lim 2 30 (fun i hi => fw_lim.g _ i (sigD_lt fwZ 30 (show 0 < 3 by omega)) hi)).mono (by omega) (by omega))
    have lz := Bz_929.out.lt
    obtain ⟨cz0, cz1, cz2⟩ := Bz_929.out.cells3
    have lo := Bo_930.out.lt
    obtain ⟨co0, co1, co2⟩ := Bo_930.out.cells3
    have lm := Bm_931.out.lt
    obtain ⟨cm0, cm1, cm2⟩ := Bm_931.out.cells3
    have le := Be_932.out.lt
    obtain ⟨ce0, ce1, ce2⟩ := Be_932.out.cells3
    have cY0 : w14.cell? ⟨b1, o1, none⟩ = some (.bool q1.b) := (HB_935.out.cell (p := ⟨b1, o1, none⟩) l1).trans Y0.out
    have cY1 : w14.cell? ⟨b1, o1 + 1, none⟩ = some (.slice q1.A q1.n q1.c) := (HB_935.out.cell (p := ⟨b1, o1 + 1, none⟩) l1).trans Y1.out
    have cY2 : w14.cell? ⟨b1, o1 + 2, none⟩ = some (.int .i64 ((redZ fwZ 1 30).r 0).x) := (HB_935.out.cell (p := ⟨b1, o1 + 2, none⟩) l1).trans Y2.out
    have cG0 : w14.cell? ⟨b2, o2, none⟩ = some (.slice (some ⟨b3, o3, none⟩) 2 c4) := (HB_935.out.cell (p := ⟨b2, o2, none⟩) l2).trans G0.out
    have cX0 : w14.cell? ⟨b3, o3, none⟩ = some (.bool q2.b) := (HB_935.out.cell (p := ⟨b3, o3, none⟩) l3).trans X0.out
    have cX1 : w14.cell? ⟨b3, o3 + 1, none⟩ = some (.slice q2.A q2.n q2.c) := (HB_935.out.cell (p := ⟨b3, o3 + 1, none⟩) l3).trans X1.out
    have cX2 : w14.cell? ⟨b3, o3 + 2, none⟩ = some (.int .i64 ((mergeZ fwZ 30).g 0 0).x) := (HB_935.out.cell (p := ⟨b3, o3 + 2, none⟩) l3).trans X2.out
    have cN0 : w14.cell? ⟨b4, o4, none⟩ = some (.bool q3.b) := (HB_935.out.cell (p := ⟨b4, o4, none⟩) l4).trans N0.out
    have cN1 : w14.cell? ⟨b4, o4 + 1, none⟩ = some (.slice q3.A q3.n q3.c) := (HB_935.out.cell (p := ⟨b4, o4 + 1, none⟩) l4).trans N1.out
    have cN2 : w14.cell? ⟨b4, o4 + 2, none⟩ = some (.int .i64 (spr fwZ 30 (sigD fwZ 30 0)).x) := (HB_935.out.cell (p := ⟨b4, o4 + 2, none⟩) l4).trans N2.out
    obtain ⟨SX1, hS1⟩ : ∃ S : World → Prop, ∀ w', S w' ↔ (w'.cell? ⟨w10.heap.size, 0, none⟩ = some (.slice (some ⟨g1, 0, none⟩) 2 2) ∧ w'.cell? ⟨w10.heap.size, 1, none⟩ = some (.slice Ao 2 co) ∧ w'.cell? ⟨w10.heap.size, 2, none⟩ = some (.slice (some ⟨b1, o1, none⟩) 2 ro) ∧ w'.cell? ⟨w11.heap.size, 0, none⟩ = some (.slice (some ⟨g1, 0, none⟩) 2 2) ∧ w'.cell? ⟨w11.heap.size, 1, none⟩ = some (.slice (some ⟨b2, o2, none⟩) 2 cm) ∧ w'.cell? ⟨w11.heap.size, 2, none⟩ = some (.slice Rm 2 rm) ∧ w'.cell? ⟨b1, o1, none⟩ = some (.bool q1.b) ∧ w'.cell? ⟨b1, o1 + 1, none⟩ = some (.slice q1.A q1.n q1.c) ∧ w'.cell? ⟨b1, o1 + 2, none⟩ = some (.int .i64 ((redZ fwZ 1 30).r 0).x) ∧ w'.cell? ⟨b2, o2, none⟩ = some (.slice (some ⟨b3, o3, none⟩) 2 c4) ∧ w'.cell? ⟨b3, o3, none⟩ = some (.bool q2.b) ∧ w'.cell? ⟨b3, o3 + 1, none⟩ = some (.slice q2.A q2.n q2.c) ∧ w'.cell? ⟨b3, o3 + 2, none⟩ = some (.int .i64 ((mergeZ fwZ 30).g 0 0).x) ∧ w'.cell? ⟨b4, o4, none⟩ = some (.bool q3.b) ∧ w'.cell? ⟨b4, o4 + 1, none⟩ = some (.slice q3.A q3.n q3.c) ∧ w'.cell? ⟨b4, o4 + 2, none⟩ = some (.int .i64 (spr fwZ 30 (sigD fwZ 30 0)).x)) := ⟨_, fun _ => Iff.rfl⟩
    have k_939 : SX1 (w14) := (hS1 _).2 ⟨Bo_930.out.cell 0 rfl, Bo_930.out.cell 1 rfl, Bo_930.out.cell 2 rfl, Bm_931.out.cell 0 rfl, Bm_931.out.cell 1 rfl, Bm_931.out.cell 2 rfl, (Below.cell (p := ⟨b1, o1, none⟩) HB_935.out l1).trans Y0.out, (Below.cell (p := ⟨b1, o1 + 1, none⟩) HB_935.out l1).trans Y1.out, (Below.cell (p := ⟨b1, o1 + 2, none⟩) HB_935.out l1).trans Y2.out, (Below.cell (p := ⟨b2, o2, none⟩) HB_935.out l2).trans G0.out, (Below.cell (p := ⟨b3, o3, none⟩) HB_935.out l3).trans X0.out, (Below.cell (p := ⟨b3, o3 + 1, none⟩) HB_935.out l3).trans X1.out, (Below.cell (p := ⟨b3, o3 + 2, none⟩) HB_935.out l3).trans X2.out, (Below.cell (p := ⟨b4, o4, none⟩) HB_935.out l4).trans N0.out, (Below.cell (p := ⟨b4, o4 + 1, none⟩) HB_935.out l4).trans N1.out, (Below.cell (p := ⟨b4, o4 + 2, none⟩) HB_935.out l4).trans N2.out⟩
    have k_940 : SX1 (w14.drew) := (hS1 _).2 ⟨(Bo_930.out.drew).cell 0 rfl, (Bo_930.out.drew).cell 1 rfl, (Bo_930.out.drew).cell 2 rfl, (Bm_931.out.drew).cell 0 rfl, (Bm_931.out.drew).cell 1 rfl, (Bm_931.out.drew).cell 2 rfl, (Below.cell (p := ⟨b1, o1, none⟩) (below_dr HB_935.out) l1).trans Y0.out, (Below.cell (p := ⟨b1, o1 + 1, none⟩) (below_dr HB_935.out) l1).trans Y1.out, (Below.cell (p := ⟨b1, o1 + 2, none⟩) (below_dr HB_935.out) l1).trans Y2.out, (Below.cell (p := ⟨b2, o2, none⟩) (below_dr HB_935.out) l2).trans G0.out, (Below.cell (p := ⟨b3, o3, none⟩) (below_dr HB_935.out) l3).trans X0.out, (Below.cell (p := ⟨b3, o3 + 1, none⟩) (below_dr HB_935.out) l3).trans X1.out, (Below.cell (p := ⟨b3, o3 + 2, none⟩) (below_dr HB_935.out) l3).trans X2.out, (Below.cell (p := ⟨b4, o4, none⟩) (below_dr HB_935.out) l4).trans N0.out, (Below.cell (p := ⟨b4, o4 + 1, none⟩) (below_dr HB_935.out) l4).trans N1.out, (Below.cell (p := ⟨b4, o4 + 2, none⟩) (below_dr HB_935.out) l4).trans N2.out⟩
    have tok_941 : True := trivial
    have tok_942 : True := trivial
    have tok_943 : True := trivial
    have tok_944 : True := trivial
    have tok_945 : True := trivial
    have tok_946 : True := trivial
    go_region_held3 (fun w' => w'.cell? ⟨w10.heap.size, 0, none⟩ = some (.slice (some ⟨g1, 0, none⟩) 2 2) ∧ w'.cell? ⟨w10.heap.size, 1, none⟩ = some (.slice Ao 2 co) ∧ w'.cell? ⟨w10.heap.size, 2, none⟩ = some (.slice (some ⟨b1, o1, none⟩) 2 ro) ∧ w'.cell? ⟨w11.heap.size, 0, none⟩ = some (.slice (some ⟨g1, 0, none⟩) 2 2) ∧ w'.cell? ⟨w11.heap.size, 1, none⟩ = some (.slice (some ⟨b2, o2, none⟩) 2 cm) ∧ w'.cell? ⟨w11.heap.size, 2, none⟩ = some (.slice Rm 2 rm) ∧ w'.cell? ⟨b1, o1, none⟩ = some (.bool q1.b) ∧ w'.cell? ⟨b1, o1 + 1, none⟩ = some (.slice q1.A q1.n q1.c) ∧ w'.cell? ⟨b1, o1 + 2, none⟩ = some (.int .i64 ((redZ fwZ 1 30).r 0).x) ∧ w'.cell? ⟨b2, o2, none⟩ = some (.slice (some ⟨b3, o3, none⟩) 2 c4) ∧ w'.cell? ⟨b3, o3, none⟩ = some (.bool q2.b) ∧ w'.cell? ⟨b3, o3 + 1, none⟩ = some (.slice q2.A q2.n q2.c) ∧ w'.cell? ⟨b3, o3 + 2, none⟩ = some (.int .i64 ((mergeZ fwZ 30).g 0 0).x) ∧ w'.cell? ⟨b4, o4, none⟩ = some (.bool q3.b) ∧ w'.cell? ⟨b4, o4 + 1, none⟩ = some (.slice q3.A q3.n q3.c) ∧ w'.cell? ⟨b4, o4 + 2, none⟩ = some (.int .i64 (spr fwZ 30 (sigD fwZ 30 0)).x)) (first | with_reducible exact (hS1 _).1 k_939 | with_reducible exact (hS1 _).1 k_940 | with_reducible exact (hS1 _).1 k_956 | with_reducible exact (hS1 _).1 k_966 | with_reducible exact (hS1 _).1 k_977 | with_reducible exact (hS1 _).1 k_987 | with_reducible exact (hS1 _).1 k_998 | with_reducible exact (hS1 _).1 k_1008)
      (first
       | (clear tok_941; go_at_call 14; refine (dOf_any _ 1 (-2) (by omega) (by omega) (by omega) (by omega) (HT.out.below (below_dr HB_935.out))).mono ?_; rintro e w15 ⟨⟨u1, rfl, hu⟩, hb⟩; clear lz cz0 cz1 cz2 lo co0 co1 co2 lm cm0 cm1 cm2 le ce0 ce1 ce2 cY0 cY1 cY2 cG0 cX0 cX1 cX2 cN0 cN1 cN2 k_939 k_940; have K := Dk.trans ((Dk.refl _).drew) (.below hb); have Bz_947 := Lib.hid (show Bk _ _ _ #[.slice (some ⟨g1, 0, none⟩) 2 2, .slice (some ⟨gg, 0, none⟩) 3 3, .slice (some ⟨g2, 0, none⟩) 2 2] from (Bz_929.out.drew).below hb); have Bo_948 := Lib.hid (show Bk _ _ _ #[.slice (some ⟨g1, 0, none⟩) 2 2, .slice Ao 2 co, .slice (some ⟨b1, o1, none⟩) 2 ro] from (Bo_930.out.drew).below hb); have Bm_949 := Lib.hid (show Bk _ _ _ #[.slice (some ⟨g1, 0, none⟩) 2 2, .slice (some ⟨b2, o2, none⟩) 2 cm, .slice Rm 2 rm] from (Bm_931.out.drew).below hb); have Be_950 := Lib.hid (show Bk _ _ _ #[.slice none 0 0, .slice none 0 0, .slice none 0 0] from (Be_932.out.drew).below hb); have HB_951 := Lib.hid (below_tr (below_dr HB_935.out) hb); clear hb; have RY_952 := Lib.hid (RY_936.out.dk K); have RX_953 := Lib.hid (RX_937.out.dk K); have RN_954 := Lib.hid (RN_938.out.dk K); clear K Bz_929 Bo_930 Bm_931 Be_932 HB_935 RY_936 RX_937 RN_938; have RU_955 := Lib.hid hu; clear hu; have lz := Bz_947.out.lt; obtain ⟨cz0, cz1, cz2⟩ := Bz_947.out.cells3; have lo := Bo_948.out.lt; obtain ⟨co0, co1, co2⟩ := Bo_948.out.cells3; have lm := Bm_949.out.lt; obtain ⟨cm0, cm1, cm2⟩ := Bm_949.out.cells3; have le := Be_950.out.lt; obtain ⟨ce0, ce1, ce2⟩ := Be_950.out.cells3; have cY0 : w15.cell? ⟨b1, o1, none⟩ = some (.bool q1.b) := (HB_951.out.cell (p := ⟨b1, o1, none⟩) l1).trans Y0.out; have cY1 : w15.cell? ⟨b1, o1 + 1, none⟩ = some (.slice q1.A q1.n q1.c) := (HB_951.out.cell (p := ⟨b1, o1 + 1, none⟩) l1).trans Y1.out; have cY2 : w15.cell? ⟨b1, o1 + 2, none⟩ = some (.int .i64 ((redZ fwZ 1 30).r 0).x) := (HB_951.out.cell (p := ⟨b1, o1 + 2, none⟩) l1).trans Y2.out; have cG0 : w15.cell? ⟨b2, o2, none⟩ = some (.slice (some ⟨b3, o3, none⟩) 2 c4) := (HB_951.out.cell (p := ⟨b2, o2, none⟩) l2).trans G0.out; have cX0 : w15.cell? ⟨b3, o3, none⟩ = some (.bool q2.b) := (HB_951.out.cell (p := ⟨b3, o3, none⟩) l3).trans X0.out; have cX1 : w15.cell? ⟨b3, o3 + 1, none⟩ = some (.slice q2.A q2.n q2.c) := (HB_951.out.cell (p := ⟨b3, o3 + 1, none⟩) l3).trans X1.out; have cX2 : w15.cell? ⟨b3, o3 + 2, none⟩ = some (.int .i64 ((mergeZ fwZ 30).g 0 0).x) := (HB_951.out.cell (p := ⟨b3, o3 + 2, none⟩) l3).trans X2.out; have cN0 : w15.cell? ⟨b4, o4, none⟩ = some (.bool q3.b) := (HB_951.out.cell (p := ⟨b4, o4, none⟩) l4).trans N0.out; have cN1 : w15.cell? ⟨b4, o4 + 1, none⟩ = some (.slice q3.A q3.n q3.c) := (HB_951.out.cell (p := ⟨b4, o4 + 1, none⟩) l4).trans N1.out; have cN2 : w15.cell? ⟨b4, o4 + 2, none⟩ = some (.int .i64 (spr fwZ 30 (sigD fwZ 30 0)).x) := (HB_951.out.cell (p := ⟨b4, o4 + 2, none⟩) l4).trans N2.out; have k_956 : SX1 (w15) := (hS1 _).2 ⟨Bo_948.out.cell 0 rfl, Bo_948.out.cell 1 rfl, Bo_948.out.cell 2 rfl, Bm_949.out.cell 0 rfl, Bm_949.out.cell 1 rfl, Bm_949.out.cell 2 rfl, (Below.cell (p := ⟨b1, o1, none⟩) HB_951.out l1).trans Y0.out, (Below.cell (p := ⟨b1, o1 + 1, none⟩) HB_951.out l1).trans Y1.out, (Below.cell (p := ⟨b1, o1 + 2, none⟩) HB_951.out l1).trans Y2.out, (Below.cell (p := ⟨b2, o2, none⟩) HB_951.out l2).trans G0.out, (Below.cell (p := ⟨b3, o3, none⟩) HB_951.out l3).trans X0.out, (Below.cell (p := ⟨b3, o3 + 1, none⟩) HB_951.out l3).trans X1.out, (Below.cell (p := ⟨b3, o3 + 2, none⟩) HB_951.out l3).trans X2.out, (Below.cell (p := ⟨b4, o4, none⟩) HB_951.out l4).trans N0.out, (Below.cell (p := ⟨b4, o4 + 1, none⟩) HB_951.out l4).trans N1.out, (Below.cell (p := ⟨b4, o4 + 2, none⟩) HB_951.out l4).trans N2.out⟩)
       | (clear tok_942; go_at_call 12; refine (dcompare_is _ q1 u1 ((redZ fwZ 1 30).r 0) (D.mk' 1 (-2)) 2 30 0 RY_952.out RU_955.out L1.out (few_lim_of (by decide +kernel)) (by omega) fw_round).mono ?_; rintro e w16 ⟨rfl, hb⟩; clear lz cz0 cz1 cz2 lo co0 co1 co2 lm cm0 cm1 cm2 le ce0 ce1 ce2 cY0 cY1 cY2 cG0 cX0 cX1 cX2 cN0 cN1 cN2 k_956; have K := Dk.below hb; have Bz_957 := Lib.hid (show Bk _ _ _ #[.slice (some ⟨g1, 0, none⟩) 2 2, .slice (some ⟨gg, 0, none⟩) 3 3, .slice (some ⟨g2, 0, none⟩) 2 2] from Bz_947.out.below hb); have Bo_958 := Lib.hid (show Bk _ _ _ #[.slice (some ⟨g1, 0, none⟩) 2 2, .slice Ao 2 co, .slice (some ⟨b1, o1, none⟩) 2 ro] from Bo_948.out.below hb); have Bm_959 := Lib.hid (show Bk _ _ _ #[.slice (some ⟨g1, 0, none⟩) 2 2, .slice (some ⟨b2, o2, none⟩) 2 cm, .slice Rm 2 rm] from Bm_949.out.below hb); have Be_960 := Lib.hid (show Bk _ _ _ #[.slice none 0 0, .slice none 0 0, .slice none 0 0] from Be_950.out.below hb); have HB_961 := Lib.hid (below_tr HB_951.out hb); clear hb; have RY_962 := Lib.hid (RY_952.out.dk K); have RX_963 := Lib.hid (RX_953.out.dk K); have RN_964 := Lib.hid (RN_954.out.dk K); have RU_965 := Lib.hid (RU_955.out.dk K); clear K Bz_947 Bo_948 Bm_949 Be_950 HB_951 RY_952 RX_953 RN_954 RU_955; have lz := Bz_957.out.lt; obtain ⟨cz0, cz1, cz2⟩ := Bz_957.out.cells3; have lo := Bo_958.out.lt; obtain ⟨co0, co1, co2⟩ := Bo_958.out.cells3; have lm := Bm_959.out.lt; obtain ⟨cm0, cm1, cm2⟩ := Bm_959.out.cells3; have le := Be_960.out.lt; obtain ⟨ce0, ce1, ce2⟩ := Be_960.out.cells3; have cY0 : w16.cell? ⟨b1, o1, none⟩ = some (.bool q1.b) := (HB_961.out.cell (p := ⟨b1, o1, none⟩) l1).trans Y0.out; have cY1 : w16.cell? ⟨b1, o1 + 1, none⟩ = some (.slice q1.A q1.n q1.c) := (HB_961.out.cell (p := ⟨b1, o1 + 1, none⟩) l1).trans Y1.out; have cY2 : w16.cell? ⟨b1, o1 + 2, none⟩ = some (.int .i64 ((redZ fwZ 1 30).r 0).x) := (HB_961.out.cell (p := ⟨b1, o1 + 2, none⟩) l1).trans Y2.out; have cG0 : w16.cell? ⟨b2, o2, none⟩ = some (.slice (some ⟨b3, o3, none⟩) 2 c4) := (HB_961.out.cell (p := ⟨b2, o2, none⟩) l2).trans G0.out; have cX0 : w16.cell? ⟨b3, o3, none⟩ = some (.bool q2.b) := (HB_961.out.cell (p := ⟨b3, o3, none⟩) l3).trans X0.out; have cX1 : w16.cell? ⟨b3, o3 + 1, none⟩ = some (.slice q2.A q2.n q2.c) := (HB_961.out.cell (p := ⟨b3, o3 + 1, none⟩) l3).trans X1.out; have cX2 : w16.cell? ⟨b3, o3 + 2, none⟩ = some (.int .i64 ((mergeZ fwZ 30).g 0 0).x) := (HB_961.out.cell (p := ⟨b3, o3 + 2, none⟩) l3).trans X2.out; have cN0 : w16.cell? ⟨b4, o4, none⟩ = some (.bool q3.b) := (HB_961.out.cell (p := ⟨b4, o4, none⟩) l4).trans N0.out; have cN1 : w16.cell? ⟨b4, o4 + 1, none⟩ = some (.slice q3.A q3.n q3.c) := (HB_961.out.cell (p := ⟨b4, o4 + 1, none⟩) l4).trans N1.out; have cN2 : w16.cell? ⟨b4, o4 + 2, none⟩ = some (.int .i64 (spr fwZ 30 (sigD fwZ 30 0)).x) := (HB_961.out.cell (p := ⟨b4, o4 + 2, none⟩) l4).trans N2.out; have k_966 : SX1 (w16) := (hS1 _).2 ⟨Bo_958.out.cell 0 rfl, Bo_958.out.cell 1 rfl, Bo_958.out.cell 2 rfl, Bm_959.out.cell 0 rfl, Bm_959.out.cell 1 rfl, Bm_959.out.cell 2 rfl, (Below.cell (p := ⟨b1, o1, none⟩) HB_961.out l1).trans Y0.out, (Below.cell (p := ⟨b1, o1 + 1, none⟩) HB_961.out l1).trans Y1.out, (Below.cell (p := ⟨b1, o1 + 2, none⟩) HB_961.out l1).trans Y2.out, (Below.cell (p := ⟨b2, o2, none⟩) HB_961.out l2).trans G0.out, (Below.cell (p := ⟨b3, o3, none⟩) HB_961.out l3).trans X0.out, (Below.cell (p := ⟨b3, o3 + 1, none⟩) HB_961.out l3).trans X1.out, (Below.cell (p := ⟨b3, o3 + 2, none⟩) HB_961.out l3).trans X2.out, (Below.cell (p := ⟨b4, o4, none⟩) HB_961.out l4).trans N0.out, (Below.cell (p := ⟨b4, o4 + 1, none⟩) HB_961.out l4).trans N1.out, (Below.cell (p := ⟨b4, o4 + 2, none⟩) HB_961.out l4).trans N2.out⟩)
       | (clear tok_943; go_at_call 14; refine (dOf_any _ 2 (0) (by omega) (by omega) (by omega) (by omega) (HT.out.below HB_961.out)).mono ?_; rintro e w17 ⟨⟨u2, rfl, hu⟩, hb⟩; clear lz cz0 cz1 cz2 lo co0 co1 co2 lm cm0 cm1 cm2 le ce0 ce1 ce2 cY0 cY1 cY2 cG0 cX0 cX1 cX2 cN0 cN1 cN2 k_966; have K := Dk.below hb; have Bz_967 := Lib.hid (show Bk _ _ _ #[.slice (some ⟨g1, 0, none⟩) 2 2, .slice (some ⟨gg, 0, none⟩) 3 3, .slice (some ⟨g2, 0, none⟩) 2 2] from Bz_957.out.below hb); have Bo_968 := Lib.hid (show Bk _ _ _ #[.slice (some ⟨g1, 0, none⟩) 2 2, .slice Ao 2 co, .slice (some ⟨b1, o1, none⟩) 2 ro] from Bo_958.out.below hb); have Bm_969 := Lib.hid (show Bk _ _ _ #[.slice (some ⟨g1, 0, none⟩) 2 2, .slice (some ⟨b2, o2, none⟩) 2 cm, .slice Rm 2 rm] from Bm_959.out.below hb); have Be_970 := Lib.hid (show Bk _ _ _ #[.slice none 0 0, .slice none 0 0, .slice none 0 0] from Be_960.out.below hb); have HB_971 := Lib.hid (below_tr HB_961.out hb); clear hb; have RY_972 := Lib.hid (RY_962.out.dk K); have RX_973 := Lib.hid (RX_963.out.dk K); have RN_974 := Lib.hid (RN_964.out.dk K); have RU_975 := Lib.hid (RU_965.out.dk K); clear K Bz_957 Bo_958 Bm_959 Be_960 HB_961 RY_962 RX_963 RN_964 RU_965; have RU_976 := Lib.hid hu; clear hu; have lz := Bz_967.out.lt; obtain ⟨cz0, cz1, cz2⟩ := Bz_967.out.cells3; have lo := Bo_968.out.lt; obtain ⟨co0, co1, co2⟩ := Bo_968.out.cells3; have lm := Bm_969.out.lt; obtain ⟨cm0, cm1, cm2⟩ := Bm_969.out.cells3; have le := Be_970.out.lt; obtain ⟨ce0, ce1, ce2⟩ := Be_970.out.cells3; have cY0 : w17.cell? ⟨b1, o1, none⟩ = some (.bool q1.b) := (HB_971.out.cell (p := ⟨b1, o1, none⟩) l1).trans Y0.out; have cY1 : w17.cell? ⟨b1, o1 + 1, none⟩ = some (.slice q1.A q1.n q1.c) := (HB_971.out.cell (p := ⟨b1, o1 + 1, none⟩) l1).trans Y1.out; have cY2 : w17.cell? ⟨b1, o1 + 2, none⟩ = some (.int .i64 ((redZ fwZ 1 30).r 0).x) := (HB_971.out.cell (p := ⟨b1, o1 + 2, none⟩) l1).trans Y2.out; have cG0 : w17.cell? ⟨b2, o2, none⟩ = some (.slice (some ⟨b3, o3, none⟩) 2 c4) := (HB_971.out.cell (p := ⟨b2, o2, none⟩) l2).trans G0.out; have cX0 : w17.cell? ⟨b3, o3, none⟩ = some (.bool q2.b) := (HB_971.out.cell (p := ⟨b3, o3, none⟩) l3).trans X0.out; have cX1 : w17.cell? ⟨b3, o3 + 1, none⟩ = some (.slice q2.A q2.n q2.c) := (HB_971.out.cell (p := ⟨b3, o3 + 1, none⟩) l3).trans X1.out; have cX2 : w17.cell? ⟨b3, o3 + 2, none⟩ = some (.int .i64 ((mergeZ fwZ 30).g 0 0).x) := (HB_971.out.cell (p := ⟨b3, o3 + 2, none⟩) l3).trans X2.out; have cN0 : w17.cell? ⟨b4, o4, none⟩ = some (.bool q3.b) := (HB_971.out.cell (p := ⟨b4, o4, none⟩) l4).trans N0.out; have cN1 : w17.cell? ⟨b4, o4 + 1, none⟩ = some (.slice q3.A q3.n q3.c) := (HB_971.out.cell (p := ⟨b4, o4 + 1, none⟩) l4).trans N1.out; have cN2 : w17.cell? ⟨b4, o4 + 2, none⟩ = some (.int .i64 (spr fwZ 30 (sigD fwZ 30 0)).x) := (HB_971.out.cell (p := ⟨b4, o4 + 2, none⟩) l4).trans N2.out; have k_977 : SX1 (w17) := (hS1 _).2 ⟨Bo_968.out.cell 0 rfl, Bo_968.out.cell 1 rfl, Bo_968.out.cell 2 rfl, Bm_969.out.cell 0 rfl, Bm_969.out.cell 1 rfl, Bm_969.out.cell 2 rfl, (Below.cell (p := ⟨b1, o1, none⟩) HB_971.out l1).trans Y0.out, (Below.cell (p := ⟨b1, o1 + 1, none⟩) HB_971.out l1).trans Y1.out, (Below.cell (p := ⟨b1, o1 + 2, none⟩) HB_971.out l1).trans Y2.out, (Below.cell (p := ⟨b2, o2, none⟩) HB_971.out l2).trans G0.out, (Below.cell (p := ⟨b3, o3, none⟩) HB_971.out l3).trans X0.out, (Below.cell (p := ⟨b3, o3 + 1, none⟩) HB_971.out l3).trans X1.out, (Below.cell (p := ⟨b3, o3 + 2, none⟩) HB_971.out l3).trans X2.out, (Below.cell (p := ⟨b4, o4, none⟩) HB_971.out l4).trans N0.out, (Below.cell (p := ⟨b4, o4 + 1, none⟩) HB_971.out l4).trans N1.out, (Below.cell (p := ⟨b4, o4 + 2, none⟩) HB_971.out l4).trans N2.out⟩)
       | (clear tok_944; go_at_call 12; refine (dcompare_is _ q2 u2 ((mergeZ fwZ 30).g 0 0) (D.mk' 2 0) 2 30 0 RX_973.out RU_976.out L2.out (few_lim_of (by decide +kernel)) (by omega) fw_merge0).mono ?_; rintro e w18 ⟨rfl, hb⟩; clear lz cz0 cz1 cz2 lo co0 co1 co2 lm cm0 cm1 cm2 le ce0 ce1 ce2 cY0 cY1 cY2 cG0 cX0 cX1 cX2 cN0 cN1 cN2 k_977; have K := Dk.below hb; have Bz_978 := Lib.hid (show Bk _ _ _ #[.slice (some ⟨g1, 0, none⟩) 2 2, .slice (some ⟨gg, 0, none⟩) 3 3, .slice (some ⟨g2, 0, none⟩) 2 2] from Bz_967.out.below hb); have Bo_979 := Lib.hid (show Bk _ _ _ #[.slice (some ⟨g1, 0, none⟩) 2 2, .slice Ao 2 co, .slice (some ⟨b1, o1, none⟩) 2 ro] from Bo_968.out.below hb); have Bm_980 := Lib.hid (show Bk _ _ _ #[.slice (some ⟨g1, 0, none⟩) 2 2, .slice (some ⟨b2, o2, none⟩) 2 cm, .slice Rm 2 rm] from Bm_969.out.below hb); have Be_981 := Lib.hid (show Bk _ _ _ #[.slice none 0 0, .slice none 0 0, .slice none 0 0] from Be_970.out.below hb); have HB_982 := Lib.hid (below_tr HB_971.out hb); clear hb; have RY_983 := Lib.hid (RY_972.out.dk K); have RX_984 := Lib.hid (RX_973.out.dk K); have RN_985 := Lib.hid (RN_974.out.dk K); have RU_986 := Lib.hid (RU_976.out.dk K); clear K Bz_967 Bo_968 Bm_969 Be_970 HB_971 RY_972 RX_973 RN_974 RU_976; have lz := Bz_978.out.lt; obtain ⟨cz0, cz1, cz2⟩ := Bz_978.out.cells3; have lo := Bo_979.out.lt; obtain ⟨co0, co1, co2⟩ := Bo_979.out.cells3; have lm := Bm_980.out.lt; obtain ⟨cm0, cm1, cm2⟩ := Bm_980.out.cells3; have le := Be_981.out.lt; obtain ⟨ce0, ce1, ce2⟩ := Be_981.out.cells3; have cY0 : w18.cell? ⟨b1, o1, none⟩ = some (.bool q1.b) := (HB_982.out.cell (p := ⟨b1, o1, none⟩) l1).trans Y0.out; have cY1 : w18.cell? ⟨b1, o1 + 1, none⟩ = some (.slice q1.A q1.n q1.c) := (HB_982.out.cell (p := ⟨b1, o1 + 1, none⟩) l1).trans Y1.out; have cY2 : w18.cell? ⟨b1, o1 + 2, none⟩ = some (.int .i64 ((redZ fwZ 1 30).r 0).x) := (HB_982.out.cell (p := ⟨b1, o1 + 2, none⟩) l1).trans Y2.out; have cG0 : w18.cell? ⟨b2, o2, none⟩ = some (.slice (some ⟨b3, o3, none⟩) 2 c4) := (HB_982.out.cell (p := ⟨b2, o2, none⟩) l2).trans G0.out; have cX0 : w18.cell? ⟨b3, o3, none⟩ = some (.bool q2.b) := (HB_982.out.cell (p := ⟨b3, o3, none⟩) l3).trans X0.out; have cX1 : w18.cell? ⟨b3, o3 + 1, none⟩ = some (.slice q2.A q2.n q2.c) := (HB_982.out.cell (p := ⟨b3, o3 + 1, none⟩) l3).trans X1.out; have cX2 : w18.cell? ⟨b3, o3 + 2, none⟩ = some (.int .i64 ((mergeZ fwZ 30).g 0 0).x) := (HB_982.out.cell (p := ⟨b3, o3 + 2, none⟩) l3).trans X2.out; have cN0 : w18.cell? ⟨b4, o4, none⟩ = some (.bool q3.b) := (HB_982.out.cell (p := ⟨b4, o4, none⟩) l4).trans N0.out; have cN1 : w18.cell? ⟨b4, o4 + 1, none⟩ = some (.slice q3.A q3.n q3.c) := (HB_982.out.cell (p := ⟨b4, o4 + 1, none⟩) l4).trans N1.out; have cN2 : w18.cell? ⟨b4, o4 + 2, none⟩ = some (.int .i64 (spr fwZ 30 (sigD fwZ 30 0)).x) := (HB_982.out.cell (p := ⟨b4, o4 + 2, none⟩) l4).trans N2.out; have k_987 : SX1 (w18) := (hS1 _).2 ⟨Bo_979.out.cell 0 rfl, Bo_979.out.cell 1 rfl, Bo_979.out.cell 2 rfl, Bm_980.out.cell 0 rfl, Bm_980.out.cell 1 rfl, Bm_980.out.cell 2 rfl, (Below.cell (p := ⟨b1, o1, none⟩) HB_982.out l1).trans Y0.out, (Below.cell (p := ⟨b1, o1 + 1, none⟩) HB_982.out l1).trans Y1.out, (Below.cell (p := ⟨b1, o1 + 2, none⟩) HB_982.out l1).trans Y2.out, (Below.cell (p := ⟨b2, o2, none⟩) HB_982.out l2).trans G0.out, (Below.cell (p := ⟨b3, o3, none⟩) HB_982.out l3).trans X0.out, (Below.cell (p := ⟨b3, o3 + 1, none⟩) HB_982.out l3).trans X1.out, (Below.cell (p := ⟨b3, o3 + 2, none⟩) HB_982.out l3).trans X2.out, (Below.cell (p := ⟨b4, o4, none⟩) HB_982.out l4).trans N0.out, (Below.cell (p := ⟨b4, o4 + 1, none⟩) HB_982.out l4).trans N1.out, (Below.cell (p := ⟨b4, o4 + 2, none⟩) HB_982.out l4).trans N2.out⟩)
       | (clear tok_945; go_at_call 14; refine (dOf_any _ 1 (0) (by omega) (by omega) (by omega) (by omega) (HT.out.below HB_982.out)).mono ?_; rintro e w19 ⟨⟨u3, rfl, hu⟩, hb⟩; clear lz cz0 cz1 cz2 lo co0 co1 co2 lm cm0 cm1 cm2 le ce0 ce1 ce2 cY0 cY1 cY2 cG0 cX0 cX1 cX2 cN0 cN1 cN2 k_987; have K := Dk.below hb; have Bz_988 := Lib.hid (show Bk _ _ _ #[.slice (some ⟨g1, 0, none⟩) 2 2, .slice (some ⟨gg, 0, none⟩) 3 3, .slice (some ⟨g2, 0, none⟩) 2 2] from Bz_978.out.below hb); have Bo_989 := Lib.hid (show Bk _ _ _ #[.slice (some ⟨g1, 0, none⟩) 2 2, .slice Ao 2 co, .slice (some ⟨b1, o1, none⟩) 2 ro] from Bo_979.out.below hb); have Bm_990 := Lib.hid (show Bk _ _ _ #[.slice (some ⟨g1, 0, none⟩) 2 2, .slice (some ⟨b2, o2, none⟩) 2 cm, .slice Rm 2 rm] from Bm_980.out.below hb); have Be_991 := Lib.hid (show Bk _ _ _ #[.slice none 0 0, .slice none 0 0, .slice none 0 0] from Be_981.out.below hb); have HB_992 := Lib.hid (below_tr HB_982.out hb); clear hb; have RY_993 := Lib.hid (RY_983.out.dk K); have RX_994 := Lib.hid (RX_984.out.dk K); have RN_995 := Lib.hid (RN_985.out.dk K); have RU_996 := Lib.hid (RU_986.out.dk K); clear K Bz_978 Bo_979 Bm_980 Be_981 HB_982 RY_983 RX_984 RN_985 RU_986; have RU_997 := Lib.hid hu; clear hu; have lz := Bz_988.out.lt; obtain ⟨cz0, cz1, cz2⟩ := Bz_988.out.cells3; have lo := Bo_989.out.lt; obtain ⟨co0, co1, co2⟩ := Bo_989.out.cells3; have lm := Bm_990.out.lt; obtain ⟨cm0, cm1, cm2⟩ := Bm_990.out.cells3; have le := Be_991.out.lt; obtain ⟨ce0, ce1, ce2⟩ := Be_991.out.cells3; have cY0 : w19.cell? ⟨b1, o1, none⟩ = some (.bool q1.b) := (HB_992.out.cell (p := ⟨b1, o1, none⟩) l1).trans Y0.out; have cY1 : w19.cell? ⟨b1, o1 + 1, none⟩ = some (.slice q1.A q1.n q1.c) := (HB_992.out.cell (p := ⟨b1, o1 + 1, none⟩) l1).trans Y1.out; have cY2 : w19.cell? ⟨b1, o1 + 2, none⟩ = some (.int .i64 ((redZ fwZ 1 30).r 0).x) := (HB_992.out.cell (p := ⟨b1, o1 + 2, none⟩) l1).trans Y2.out; have cG0 : w19.cell? ⟨b2, o2, none⟩ = some (.slice (some ⟨b3, o3, none⟩) 2 c4) := (HB_992.out.cell (p := ⟨b2, o2, none⟩) l2).trans G0.out; have cX0 : w19.cell? ⟨b3, o3, none⟩ = some (.bool q2.b) := (HB_992.out.cell (p := ⟨b3, o3, none⟩) l3).trans X0.out; have cX1 : w19.cell? ⟨b3, o3 + 1, none⟩ = some (.slice q2.A q2.n q2.c) := (HB_992.out.cell (p := ⟨b3, o3 + 1, none⟩) l3).trans X1.out; have cX2 : w19.cell? ⟨b3, o3 + 2, none⟩ = some (.int .i64 ((mergeZ fwZ 30).g 0 0).x) := (HB_992.out.cell (p := ⟨b3, o3 + 2, none⟩) l3).trans X2.out; have cN0 : w19.cell? ⟨b4, o4, none⟩ = some (.bool q3.b) := (HB_992.out.cell (p := ⟨b4, o4, none⟩) l4).trans N0.out; have cN1 : w19.cell? ⟨b4, o4 + 1, none⟩ = some (.slice q3.A q3.n q3.c) := (HB_992.out.cell (p := ⟨b4, o4 + 1, none⟩) l4).trans N1.out; have cN2 : w19.cell? ⟨b4, o4 + 2, none⟩ = some (.int .i64 (spr fwZ 30 (sigD fwZ 30 0)).x) := (HB_992.out.cell (p := ⟨b4, o4 + 2, none⟩) l4).trans N2.out; have k_998 : SX1 (w19) := (hS1 _).2 ⟨Bo_989.out.cell 0 rfl, Bo_989.out.cell 1 rfl, Bo_989.out.cell 2 rfl, Bm_990.out.cell 0 rfl, Bm_990.out.cell 1 rfl, Bm_990.out.cell 2 rfl, (Below.cell (p := ⟨b1, o1, none⟩) HB_992.out l1).trans Y0.out, (Below.cell (p := ⟨b1, o1 + 1, none⟩) HB_992.out l1).trans Y1.out, (Below.cell (p := ⟨b1, o1 + 2, none⟩) HB_992.out l1).trans Y2.out, (Below.cell (p := ⟨b2, o2, none⟩) HB_992.out l2).trans G0.out, (Below.cell (p := ⟨b3, o3, none⟩) HB_992.out l3).trans X0.out, (Below.cell (p := ⟨b3, o3 + 1, none⟩) HB_992.out l3).trans X1.out, (Below.cell (p := ⟨b3, o3 + 2, none⟩) HB_992.out l3).trans X2.out, (Below.cell (p := ⟨b4, o4, none⟩) HB_992.out l4).trans N0.out, (Below.cell (p := ⟨b4, o4 + 1, none⟩) HB_992.out l4).trans N1.out, (Below.cell (p := ⟨b4, o4 + 2, none⟩) HB_992.out l4).trans N2.out⟩)
       | (clear tok_946; go_at_call 12; refine (dcompare_is _ q3 u3 (spr fwZ 30 (sigD fwZ 30 0)) (D.mk' 1 0) 2 30 0 RN_995.out RU_997.out L3.out (few_lim_of (by decide +kernel)) (by omega) fw_norm).mono ?_; rintro e w20 ⟨rfl, hb⟩; clear lz cz0 cz1 cz2 lo co0 co1 co2 lm cm0 cm1 cm2 le ce0 ce1 ce2 cY0 cY1 cY2 cG0 cX0 cX1 cX2 cN0 cN1 cN2 k_998; have K := Dk.below hb; have Bz_999 := Lib.hid (show Bk _ _ _ #[.slice (some ⟨g1, 0, none⟩) 2 2, .slice (some ⟨gg, 0, none⟩) 3 3, .slice (some ⟨g2, 0, none⟩) 2 2] from Bz_988.out.below hb); have Bo_1000 := Lib.hid (show Bk _ _ _ #[.slice (some ⟨g1, 0, none⟩) 2 2, .slice Ao 2 co, .slice (some ⟨b1, o1, none⟩) 2 ro] from Bo_989.out.below hb); have Bm_1001 := Lib.hid (show Bk _ _ _ #[.slice (some ⟨g1, 0, none⟩) 2 2, .slice (some ⟨b2, o2, none⟩) 2 cm, .slice Rm 2 rm] from Bm_990.out.below hb); have Be_1002 := Lib.hid (show Bk _ _ _ #[.slice none 0 0, .slice none 0 0, .slice none 0 0] from Be_991.out.below hb); have HB_1003 := Lib.hid (below_tr HB_992.out hb); clear hb; have RY_1004 := Lib.hid (RY_993.out.dk K); have RX_1005 := Lib.hid (RX_994.out.dk K); have RN_1006 := Lib.hid (RN_995.out.dk K); have RU_1007 := Lib.hid (RU_997.out.dk K); clear K Bz_988 Bo_989 Bm_990 Be_991 HB_992 RY_993 RX_994 RN_995 RU_997; have lz := Bz_999.out.lt; obtain ⟨cz0, cz1, cz2⟩ := Bz_999.out.cells3; have lo := Bo_1000.out.lt; obtain ⟨co0, co1, co2⟩ := Bo_1000.out.cells3; have lm := Bm_1001.out.lt; obtain ⟨cm0, cm1, cm2⟩ := Bm_1001.out.cells3; have le := Be_1002.out.lt; obtain ⟨ce0, ce1, ce2⟩ := Be_1002.out.cells3; have cY0 : w20.cell? ⟨b1, o1, none⟩ = some (.bool q1.b) := (HB_1003.out.cell (p := ⟨b1, o1, none⟩) l1).trans Y0.out; have cY1 : w20.cell? ⟨b1, o1 + 1, none⟩ = some (.slice q1.A q1.n q1.c) := (HB_1003.out.cell (p := ⟨b1, o1 + 1, none⟩) l1).trans Y1.out; have cY2 : w20.cell? ⟨b1, o1 + 2, none⟩ = some (.int .i64 ((redZ fwZ 1 30).r 0).x) := (HB_1003.out.cell (p := ⟨b1, o1 + 2, none⟩) l1).trans Y2.out; have cG0 : w20.cell? ⟨b2, o2, none⟩ = some (.slice (some ⟨b3, o3, none⟩) 2 c4) := (HB_1003.out.cell (p := ⟨b2, o2, none⟩) l2).trans G0.out; have cX0 : w20.cell? ⟨b3, o3, none⟩ = some (.bool q2.b) := (HB_1003.out.cell (p := ⟨b3, o3, none⟩) l3).trans X0.out; have cX1 : w20.cell? ⟨b3, o3 + 1, none⟩ = some (.slice q2.A q2.n q2.c) := (HB_1003.out.cell (p := ⟨b3, o3 + 1, none⟩) l3).trans X1.out; have cX2 : w20.cell? ⟨b3, o3 + 2, none⟩ = some (.int .i64 ((mergeZ fwZ 30).g 0 0).x) := (HB_1003.out.cell (p := ⟨b3, o3 + 2, none⟩) l3).trans X2.out; have cN0 : w20.cell? ⟨b4, o4, none⟩ = some (.bool q3.b) := (HB_1003.out.cell (p := ⟨b4, o4, none⟩) l4).trans N0.out; have cN1 : w20.cell? ⟨b4, o4 + 1, none⟩ = some (.slice q3.A q3.n q3.c) := (HB_1003.out.cell (p := ⟨b4, o4 + 1, none⟩) l4).trans N1.out; have cN2 : w20.cell? ⟨b4, o4 + 2, none⟩ = some (.int .i64 (spr fwZ 30 (sigD fwZ 30 0)).x) := (HB_1003.out.cell (p := ⟨b4, o4 + 2, none⟩) l4).trans N2.out; have k_1008 : SX1 (w20) := (hS1 _).2 ⟨Bo_1000.out.cell 0 rfl, Bo_1000.out.cell 1 rfl, Bo_1000.out.cell 2 rfl, Bm_1001.out.cell 0 rfl, Bm_1001.out.cell 1 rfl, Bm_1001.out.cell 2 rfl, (Below.cell (p := ⟨b1, o1, none⟩) HB_1003.out l1).trans Y0.out, (Below.cell (p := ⟨b1, o1 + 1, none⟩) HB_1003.out l1).trans Y1.out, (Below.cell (p := ⟨b1, o1 + 2, none⟩) HB_1003.out l1).trans Y2.out, (Below.cell (p := ⟨b2, o2, none⟩) HB_1003.out l2).trans G0.out, (Below.cell (p := ⟨b3, o3, none⟩) HB_1003.out l3).trans X0.out, (Below.cell (p := ⟨b3, o3 + 1, none⟩) HB_1003.out l3).trans X1.out, (Below.cell (p := ⟨b3, o3 + 2, none⟩) HB_1003.out l3).trans X2.out, (Below.cell (p := ⟨b4, o4, none⟩) HB_1003.out l4).trans N0.out, (Below.cell (p := ⟨b4, o4 + 1, none⟩) HB_1003.out l4).trans N1.out, (Below.cell (p := ⟨b4, o4 + 2, none⟩) HB_1003.out l4).trans N2.out⟩))
    go_wp2
    refine bodyPost_ret (v := .bool true) ?_ rfl ?_
    · simp [results, Tryz.f5, go_sem]
    · exact ⟨rfl, below_tr BASE_934.out HB_1003.out⟩

end Go.Proofs.YtgioppkggpfnoaaGreatDoor.Nu
end

section
/- What layer 17's laws call, whatever the order; what comes of it, plain. -/
set_option linter.unusedVariables false
namespace Go.Proofs.YtgioppkggpfnoaaGreatDoor.Nu
open Go.RowKit Go.Proofs

theorem rds_can {w : World} {A : Option Addr} {n c : Nat} {f : Nat → D} (h : RDs w A n c f) {i : Nat} (hi : i < n) : (f i).Can := by
  obtain ⟨b, off, _, _, hc⟩ := h.2.2 (by omega)
  obtain ⟨q, _, _, _, hr⟩ := hc i hi
  exact hr.2
theorem rzo_can {w : World} {y : ZQ} {z : Zo} (h : RZo w y z) (ho : z.Ok) : z.Can where
  c := fun i hi => rds_can h.c hi
  g := fun k i hk hi => by
    obtain ⟨b, off, _, _, hc⟩ := h.g.2.2 (by omega)
    obtain ⟨A, c, _, hr⟩ := hc k hk
    exact rds_can hr hi
  r := fun i hi => rds_can h.r hi
  p := ho.p
theorem lim_zok {z : Zo} {E T : Nat} (hn : z.n ≤ 16) (hm : z.m ≤ 4096) (hl : z.Lim E T) (hc : z.Can) (hET : E + T ≤ 16384) : z.Ok :=
  ⟨hn, hm, fun i hi => lim_ok (hl.c i hi) hET, fun k i hk hi => lim_ok (hl.g k i hk hi) hET, fun i hi => lim_ok (hl.r i hi) hET, hc.p⟩
/-- A set of so many times as many ways as places, at most. -/
def lowZ (z : Zo) (o bits : Nat) : Zo := if z.m ≤ o * z.n then z else redZ z (z.m - o * z.n) bits
theorem lowZ_n (z : Zo) (o bits : Nat) : (lowZ z o bits).n = z.n := by unfold lowZ; split <;> rfl
theorem lowZ_same {z : Zo} {o : Nat} (bits : Nat) (h : z.m ≤ o * z.n) : lowZ z o bits = z := by unfold lowZ; rw [if_pos h]
theorem lowZ_m (z : Zo) (o bits : Nat) : (lowZ z o bits).m ≤ z.m ∧ (lowZ z o bits).m ≤ o * z.n := by
  unfold lowZ
  split
  · exact ⟨Nat.le_refl _, by assumption⟩
  · constructor
    · show z.m - _ ≤ z.m; omega
    · show z.m - (z.m - o * z.n) ≤ o * z.n; omega
theorem lowZ_lim {z : Zo} {E T : Nat} (h : z.Lim E T) (o bits : Nat) : (lowZ z o bits).Lim E (T + 2 * z.m) := by
  unfold lowZ
  split
  · exact h.mono' (Nat.le_refl _) (by omega)
  · exact (redZ_lim h (Nat.sub_le _ _) bits).mono' (Nat.le_refl _) (by omega)
theorem lowZ_can {z : Zo} (h : z.Can) (o bits : Nat) : (lowZ z o bits).Can := by
  unfold lowZ
  split
  · exact h
  · exact redZ_can h (Nat.sub_le _ _) bits
theorem lowZ_far (z : Zo) (o bits : Nat) (d : Nat → Rat) : z.far d ≤ (lowZ z o bits).far d := by
  unfold lowZ
  split
  · exact Rat.le_refl
  · exact redZ_far z (Nat.sub_le _ _) bits d
set_option maxRecDepth 100000 in
set_option maxHeartbeats 4000000 in
theorem order_bad (w : World) (v0 v1 v2 : Value) (a : Int) (bits : Nat) (h : a < 0 ∨ 64 < a) :
    Calls Tryz.prog 8 #[.agg #[v0, v1, v2], .int .i64 a, .int .i64 bits] w fun e w' => e = .returned (.tuple #[.agg #[.slice none 0 0, .slice none 0 0, .slice none 0 0], .int .i64 32]) ∧ Below w.heap.size w w' := by
  have BX := Lib.hid (boxes2 w 25 #[v0, v1, v2] 25 #[.slice none 0 0, .slice none 0 0, .slice none 0 0])
  rcases h with h | h
  · go_enter Tryz.func8, Tryz.ntmps8
    go_wp2_with fail
    refine bodyPost_ret (v := .tuple #[.agg #[.slice none 0 0, .slice none 0 0, .slice none 0 0], .int .i64 32]) ?_ rfl ?_
    · simp [results, Tryz.f8, go_sem]
    · exact ⟨rfl, BX.out.2.2⟩
  · have q0 : ¬ a < 0 := by omega
    go_enter Tryz.func8, Tryz.ntmps8
    go_wp2_with fail
    refine bodyPost_ret (v := .tuple #[.agg #[.slice none 0 0, .slice none 0 0, .slice none 0 0], .int .i64 32]) ?_ rfl ?_
    · simp [results, Tryz.f8, go_sem]
    · exact ⟨rfl, BX.out.2.2⟩
set_option maxRecDepth 100000 in
set_option maxHeartbeats 4000000 in
theorem order_keep (w : World) (Ac Ag Ar : Option Addr) (n cc m cg r cr o kp bits : Nat) (hkp : kp = o * n) (hk : m ≤ kp) (ho : o ≤ 64) (hb : kp ≤ 1000000) :
    Calls Tryz.prog 8 #[.agg #[.slice Ac n cc, .slice Ag m cg, .slice Ar r cr], .int .i64 o, .int .i64 bits] w fun e w' => e = .returned (.tuple #[.agg #[.slice Ac n cc, .slice Ag m cg, .slice Ar r cr], .int .i64 0]) ∧ Below w.heap.size w w' := by
  have q0 : ¬ (o : Int) < 0 := by omega
  have q1 : ¬ (64 : Int) < (o : Int) := by omega
  have q2 : (o : Int) * (n : Int) = (kp : Int) := by rw [hkp]; simp
  have q3 : IntKind.i64.wrap (kp : Int) = (kp : Int) := by rw [IntKind.wrap_i64]; omega
  have q4 : (m : Int) ≤ (kp : Int) := by omega
  clear hkp hk
  have BX := Lib.hid (boxes2 w 25 #[.slice Ac n cc, .slice Ag m cg, .slice Ar r cr] 25 #[.slice Ac n cc, .slice Ag m cg, .slice Ar r cr])
  go_enter Tryz.func8, Tryz.ntmps8
  go_wp2_with fail
  refine bodyPost_ret (v := .tuple #[.agg #[.slice Ac n cc, .slice Ag m cg, .slice Ar r cr], .int .i64 0]) ?_ rfl ?_
  · simp [results, Tryz.f8, go_sem]
  · exact ⟨rfl, BX.out.2.2⟩
theorem order_at (w : World) (Ac Ag Ar : Option Addr) (cc cg cr : Nat) (z : Zo) (n o bits : Nat) (E T : Nat) (ez : z.n = n) (h : RZo w ⟨Ac, cc, Ag, cg, Ar, cr⟩ z) (hnil : Ag = none → cg = 0) (lz : z.Lim E T) (ho : o ≤ 64) (hm : z.m ≤ 12) (hn : n ≤ 1000) (hET : E + T + 2 * n + 2 * z.m + 8 ≤ 16000) (hb2 : 2 ≤ bits) (hb3 : bits ≤ 4096) (ht : BTab w) :
    Calls Tryz.prog 8 #[.agg #[.slice Ac n cc, .slice Ag z.m cg, .slice Ar n cr], .int .i64 o, .int .i64 bits] w fun e w' => (∃ (Ag' : Option Addr) (cg' : Nat) (AR : Option Addr) (cR : Nat), e = .returned (.tuple #[.agg #[.slice Ac n cc, .slice Ag' (lowZ z o bits).m cg', .slice AR n cR], .int .i64 0]) ∧ RZo w' ⟨Ac, cc, Ag', cg', AR, cR⟩ (lowZ z o bits) ∧ (Ag' = none → cg' = 0)) ∧ Below w.heap.size w w' := by
  subst ez
  by_cases hk : z.m ≤ o * z.n
  · refine (order_keep w Ac Ag Ar z.n cc z.m cg z.n cr o _ bits rfl hk ho ?_).mono fun e w' ⟨he, hb⟩ => ⟨⟨Ag, cg, Ar, cr, by rw [lowZ_same bits hk]; exact he, by rw [lowZ_same bits hk]; exact h.below hb, hnil⟩, hb⟩
    exact Nat.le_trans (Nat.mul_le_mul ho hn) (by omega)
  · have e : lowZ z o bits = redZ z (z.m - o * z.n) bits := by unfold lowZ; rw [if_neg hk]
    rw [e]
    exact order_any w Ac Ag Ar cc cg cr z o (o * z.n) (z.m - o * z.n) bits E T h lz ho rfl (by omega) (by omega) hm hET hb2 hb3 ht
theorem merge_at (w : World) (Ac Ag Ar : Option Addr) (cc cg cr : Nat) (z : Zo) (n bits : Nat) (E T : Nat) (ez : z.n = n) (h : RZo w ⟨Ac, cc, Ag, cg, Ar, cr⟩ z) (lz : z.Lim E T) (hm : z.m ≤ 12) (hET : E + T + 5 * z.m + 10 ≤ 16000) (hb2 : 2 ≤ bits) (hb3 : bits ≤ 4096) (ht : BTab w) :
    Calls Tryz.prog 13 #[.agg #[.slice Ac n cc, .slice Ag z.m cg, .slice Ar n cr], .int .i64 bits] w fun e w' => (∃ (Ag' : Option Addr) (cg' : Nat) (AR : Option Addr) (cR : Nat), e = .returned (.tuple #[.agg #[.slice Ac n cc, .slice Ag' (mergeZ z bits).m cg', .slice AR n cR], .int .i64 0]) ∧ RZo w' ⟨Ac, cc, Ag', cg', AR, cR⟩ (mergeZ z bits) ∧ (Ag' = none → cg' = 0)) ∧ Below w.heap.size w w' := by
  subst ez
  exact merge_any w Ac Ag Ar cc cg cr z bits E T h lz hm hET hb2 hb3 ht
theorem norm_at (w : World) (Ac Ag Ar : Option Addr) (cc cg cr : Nat) (z : Zo) (n bits : Nat) (E T : Nat) (ez : z.n = n) (h : RZo w ⟨Ac, cc, Ag, cg, Ar, cr⟩ z) (lz : z.Lim E T) (hm : z.m ≤ 12) (hET : E + T + 2 * n + 4 ≤ 16000) (hb2 : 2 ≤ bits) (hb3 : bits ≤ 4096) (ht : BTab w) :
    Calls Tryz.prog 15 #[.agg #[.slice Ac n cc, .slice Ag z.m cg, .slice Ar n cr], .int .i64 bits] w fun e w' => (∃ (A : Option Addr) (c : Nat), e = .returned (.tuple #[.slice A z.m c, .int .i64 0]) ∧ RDs w' A z.m c (fun k => spr z bits (sigD z bits k))) ∧ Below w.heap.size w w' := by
  subst ez
  exact norm_any w Ac Ag Ar cc cg cr z bits E T h lz hm hET hb2 hb3 ht
end Go.Proofs.YtgioppkggpfnoaaGreatDoor.Nu
end

section
/- Layer 17's far: how far a set goes in a direction, reckoned with 2000 bits. -/
set_option linter.unusedVariables false
namespace Go.Proofs.YtgioppkggpfnoaaGreatDoor.Nu
open Go.RowKit Go.Proofs

set_option maxRecDepth 100000 in
set_option maxHeartbeats 4000000 in
theorem spoint_copy (w : World) (b : Bool) (A : Option Addr) (n c : Nat) (x : Int) :
    Calls Tryz.prog 21 #[.agg #[.bool b, .slice A n c, .int .i64 x]] w fun e w' => e = .returned (.agg #[.bool b, .slice A n c, .int .i64 x, .bool b, .slice A n c, .int .i64 x]) ∧ Below w.heap.size w w' := by
  have BX := Lib.hid (boxes2 w 38 #[.bool b, .slice A n c, .int .i64 x] 61 #[.bool b, .slice A n c, .int .i64 x, .bool b, .slice A n c, .int .i64 x])
  go_enter Tryz.func21, Tryz.ntmps21
  go_wp2
  refine bodyPost_ret (v := .agg #[.bool b, .slice A n c, .int .i64 x, .bool b, .slice A n c, .int .i64 x]) ?_ rfl ?_
  · simp [results, Tryz.f21, go_sem]
  · exact ⟨rfl, BX.out.2.2⟩
theorem own_below {w w' : World} {base : Nat} {e : TypeId} {size : Nat} {v : Value} {n : Nat} {xs : List Value} (h : w.ownsRow base e size v n xs) (hb : Below w.heap.size w w') : w'.ownsRow base e size v n xs := by
  refine ⟨h.1, ?_⟩
  rcases h.2 with hn | ⟨g, cap, cur, rfl, h1, hg, rest⟩
  · exact .inl hn
  · exact .inr ⟨g, cap, cur, rfl, h1, (hb.block g (Array.getElem?_eq_some_iff.1 hg).1).trans hg, rest⟩
theorem new_row (w : World) (xs : List Value) (t : TypeId) (j : Nat) (u : Value) (h : xs[j]? = some u) : (w.alloc (.cells xs.toArray t)).cell? ((⟨w.heap.size, 0, none⟩ : Addr).add j) = some u := by
  rw [Addr.add_lit, Nat.zero_add]
  exact (Bk.new w t xs.toArray).cell j (by simpa using h)
theorem one6 {a b c d e f : Value} (ha : a.oneCell' = true) (hb : b.oneCell' = true) (hc : c.oneCell' = true) (hd : d.oneCell' = true) (he : e.oneCell' = true) (hf : f.oneCell' = true) : ∀ u ∈ [a, b, c, d, e, f], u.oneCell' = true := by
  intro u hu
  rcases List.mem_cons.1 hu with rfl | hu
  · exact ha
  rcases List.mem_cons.1 hu with rfl | hu
  · exact hb
  rcases List.mem_cons.1 hu with rfl | hu
  · exact hc
  rcases List.mem_cons.1 hu with rfl | hu
  · exact hd
  rcases List.mem_cons.1 hu with rfl | hu
  · exact he
  rcases List.mem_cons.1 hu with rfl | hu
  · exact hf
  cases hu
/-- Element j of a row of points. -/
def PtAt (xs : List Value) (j : Nat) (q : Q) (x : Int) : Prop := xs[j * 6]? = some (.bool q.b) ∧ xs[j * 6 + 1]? = some (.slice q.A q.n q.c) ∧ xs[j * 6 + 2]? = some (.int .i64 x) ∧ xs[j * 6 + 3]? = some (.bool q.b) ∧ xs[j * 6 + 4]? = some (.slice q.A q.n q.c) ∧ xs[j * 6 + 5]? = some (.int .i64 x)
theorem PtAt.app {xs ys : List Value} {j i : Nat} {q : Q} {x : Int} (h : PtAt xs j q x) (hl : xs.length = i * 6) (hj : j < i) : PtAt (xs ++ ys) j q x := by
  have hlt : ∀ c, c < 6 → (xs ++ ys)[j * 6 + c]? = xs[j * 6 + c]? := fun c hc => List.getElem?_append_left (by omega)
  obtain ⟨a0, a1, a2, a3, a4, a5⟩ := h
  exact ⟨(hlt 0 (by omega)).trans a0, (hlt 1 (by omega)).trans a1, (hlt 2 (by omega)).trans a2, (hlt 3 (by omega)).trans a3, (hlt 4 (by omega)).trans a4, (hlt 5 (by omega)).trans a5⟩
theorem PtAt.last {xs : List Value} {i : Nat} (q : Q) (x : Int) (hl : xs.length = i * 6) : PtAt (xs ++ [.bool q.b, .slice q.A q.n q.c, .int .i64 x, .bool q.b, .slice q.A q.n q.c, .int .i64 x]) i q x := by
  have hlt : ∀ c, (xs ++ [Value.bool q.b, .slice q.A q.n q.c, .int .i64 x, .bool q.b, .slice q.A q.n q.c, .int .i64 x])[i * 6 + c]? = [Value.bool q.b, .slice q.A q.n q.c, .int .i64 x, .bool q.b, .slice q.A q.n q.c, .int .i64 x][c]? := fun c => by
    rw [List.getElem?_append_right (by omega), show i * 6 + c - xs.length = c by omega]
  exact ⟨hlt 0, hlt 1, hlt 2, hlt 3, hlt 4, hlt 5⟩
/-- The state ahead of a direction's place: so many spans are laid. -/
def FarRel (w : World) (f : Nat → D) (w0 : World) (i : Nat) (v : Value) (wr : World) : Prop :=
  Below w0.heap.size w0 wr ∧ ∃ xs, wr.ownsRow w0.heap.size 61 6 v i xs ∧ ∀ j, j < i → ∃ q, PtAt xs j q (f j).x ∧ RD w q (f j)
theorem far_next {w w0 w5 w6 : World} {f : Nat → D} {i : Nat} {v v' : Value} {xs : List Value} {q : Q} (hb : Below w0.heap.size w0 w5) (ho : w5.ownsRow w0.heap.size 61 6 v i xs)
    (hn : w6.ownsRow w0.heap.size 61 6 v' (i + 1) (xs ++ [.bool q.b, .slice q.A q.n q.c, .int .i64 (f i).x, .bool q.b, .slice q.A q.n q.c, .int .i64 (f i).x])) (hg : w5.grownBy w6 v.ownBlock) (he : ∀ j, j < i → ∃ q, PtAt xs j q (f j).x ∧ RD w q (f j)) (hq : RD w q (f i)) : FarRel w f w0 (i + 1) v' w6 := by
  refine ⟨hb.grown hg hb.size fun k hk => (ho.lt k hk).1, _, hn, fun j hj => ?_⟩
  by_cases e : j = i
  · subst e
    exact ⟨q, PtAt.last q _ ho.1, hq⟩
  · obtain ⟨q', h1, h2⟩ := he j (by omega)
    exact ⟨q', h1.app ho.1 (by omega), h2⟩
theorem far_end {w w0 wr : World} {f : Nat → D} {n c : Nat} {A : Option Addr} {v : Value} (hd : RDs w A n c f) (h0 : Below w.heap.size w w0) (h : FarRel w f w0 n v wr) : ∃ dA dc, v = .slice dA n dc ∧ RSs wr dA n dc (pts f) := by
  obtain ⟨hb, xs, ho, he⟩ := h
  have hbw := below_tr h0 hb
  rcases ho.2 with ⟨rfl, hx⟩ | ⟨g, cap, cur, rfl, _, hg, hnc, _⟩
  · have hn : n = 0 := by have := ho.1; rw [hx] at this; simp at this; omega
    subst hn
    exact ⟨none, 0, rfl, Nat.le_refl _, Nat.zero_le _, fun h => absurd h (by omega)⟩
  · refine ⟨_, _, rfl, hnc, hd.2.1, fun _ => ⟨g, 0, rfl, (Array.getElem?_eq_some_iff.1 hg).1, fun j hj => ?_⟩⟩
    obtain ⟨q, ⟨a0, a1, a2, a3, a4, a5⟩, hr⟩ := he j hj
    have hc : ∀ k u, xs[k]? = some u → wr.cell? ⟨g, 0 + k, none⟩ = some u := fun k u hu => by
      have := ho.cells (g := g) rfl k u hu
      rw [Addr.add_lit] at this
      exact this
    exact ⟨⟨q, q⟩, hc _ _ a0, hc _ _ a1, hc _ _ a2, hc _ _ a3, hc _ _ a4, hc _ _ a5, hr.below hbw, hr.below hbw⟩

set_option maxRecDepth 100000 in
set_option maxHeartbeats 4000000 in
theorem far_any (w : World) (Ac Ag Ar : Option Addr) (cc cg cr : Nat) (z : Zo) (dA : Option Addr) (dc : Nat) (f : Nat → D) (E T E2 T2 : Nat) (h : RZo w ⟨Ac, cc, Ag, cg, Ar, cr⟩ z) (h2 : RDs w dA z.n dc f) (lz : z.Lim E T) (ld : ∀ i, i < z.n → (f i).Lim E2 T2) (hET : E + E2 + T + T2 + 4 * z.n + 2 * z.m + 10 ≤ 16000) (ht : BTab w) :
    Calls Tryz.prog 9 #[.agg #[.slice Ac z.n cc, .slice Ag z.m cg, .slice Ar z.n cr], .slice dA z.n dc] w fun e w' => (∃ r : Q, e = .returned (.tuple #[.agg #[.bool r.b, .slice r.A r.n r.c, .int .i64 (z.sup (pts f) 2000).x], .bool true]) ∧ RD w' r (z.sup (pts f) 2000)) ∧ Below w.heap.size w w' := by
  have HZ := Lib.hid h
  have HD := Lib.hid h2
  have LZ := Lib.hid lz
  have LD := Lib.hid ld
  have HT := Lib.hid ht
  have n0 := h2.2.1
  clear h h2 lz ld ht
  have BX := Lib.hid (boxes2 w 25 #[.slice Ac z.n cc, .slice Ag z.m cg, .slice Ar z.n cr] 38 #[.bool false, .slice none 0 0, .int .i64 0])
  go_enter Tryz.func9, Tryz.ntmps9
  go_wp2_with fail
  generalize (w.alloc (.cells #[.slice Ac z.n cc, .slice Ag z.m cg, .slice Ar z.n cr] 25)).alloc (.cells #[.bool false, .slice none 0 0, .int .i64 0] 38) = w0 at *
  obtain ⟨b0, b1, hw⟩ := BX.out
  have Bz_0 := Lib.hid b0
  have Bo_0 := Lib.hid b1
  have HB_0 := Lib.hid hw
  have K := Dk.below (hw.mono (Nat.le_refl _))
  clear BX hw b0 b1
  clear K
  have hs0 := HB_0.out.size
  have H0 := Lib.hid (show FarRel w f w0 0 (.slice none 0 0) w0 from ⟨Below.refl _ _, [], World.ownsRow_nil _ _ _ _, fun j hj => absurd hj (by omega)⟩)
  obtain ⟨i0, hi0, hz0, hz1, hz2⟩ := info_parts infoS
  go_loopw [6, 13] (fun s6 k wr => ∃ (i : Nat) (v : Value), k = .int .i64 i ∧ v = s6 ∧ i ≤ z.n ∧ Hid (FarRel w f w0 i v wr)) (fun _ k _ => z.n - (intOf k).toNat)
  case atStart => exact ⟨0, _, rfl, rfl, Nat.zero_le _, H0⟩
  case round =>
    clear H0
    obtain ⟨i, v, rfl, rfl, hi, Hr⟩ := hrel
    by_cases hi2 : i < z.n
    · have q3 : (i : Int) < (z.n : Int) := by omega
      obtain ⟨hbel, xs, hown, hels⟩ := Hr.out
      have HBR := Lib.hid hbel
      have HOW := Lib.hid hown
      have HEL := Lib.hid hels
      clear hbel hown hels Hr
      have HBW := Lib.hid (below_tr HB_0.out HBR.out)
      obtain ⟨A1, o1, rfl, hl1, hcc⟩ := HD.out.2.2 (by omega)
      obtain ⟨q, z0, z1, z2, hq⟩ := hcc i hi2
      have x0 := (HBW.out.cell (p := ⟨A1, o1 + i * 3, none⟩) hl1).trans z0
      have x1 := (HBW.out.cell (p := ⟨A1, o1 + i * 3 + 1, none⟩) hl1).trans z1
      have x2 := (HBW.out.cell (p := ⟨A1, o1 + i * 3 + 2, none⟩) hl1).trans z2
      have RQ := Lib.hid hq
      clear hcc z0 z1 z2 hq
      go_wp2_with fail
      refine (spoint_copy _ q.b q.A q.n q.c (f i).x).mono ?_
      rintro e w5 ⟨rfl, hb⟩
      have HB5 := Lib.hid (below_tr (below_al (Below.refl _ wr) _) hb)
      clear hb x0 x1 x2
      have HOW5 := Lib.hid ((own_below HOW.out HB5.out).alloc (.cells #[.bool q.b, .slice q.A q.n q.c, .int .i64 (f i).x, .bool q.b, .slice q.A q.n q.c, .int .i64 (f i).x] 61))
      have HNW := Lib.hid (new_row w5 [.bool q.b, .slice q.A q.n q.c, .int .i64 (f i).x, .bool q.b, .slice q.A q.n q.c, .int .i64 (f i).x] 61)
      have HBA := Lib.hid (below_al (HBR.out.trans (HB5.out.mono HBR.out.size)) (.cells #[.bool q.b, .slice q.A q.n q.c, .int .i64 (f i).x, .bool q.b, .slice q.A q.n q.c, .int .i64 (f i).x] 61))
      have hsz := HBA.out.size
      clear HOW
      go_wp2_with (at_builtin; refine wpList_append_own_at _ rfl _ _ 59 rfl w0.heap.size 61 i0 (.agg #[.bool false, .slice none 0 0, .int .i64 0, .bool false, .slice none 0 0, .int .i64 0]) 6 80 Tryz.underlying59 hi0 hz0 hz1 hz2 rfl (by decide) v i xs rfl HOW5.out ⟨w5.heap.size, 0, none⟩ 1 1 [.bool q.b, .slice q.A q.n q.c, .int .i64 (f i).x, .bool q.b, .slice q.A q.n q.c, .int .i64 (f i).x] rfl rfl HNW.out (one6 rfl rfl rfl rfl rfl rfl) ?n4 ?n5 hsz ?_)
      case n4 => unfold maxLen; omega
      case n5 => omega
      intro v' w6 hown hgr _ _
      have HN := Lib.hid (show FarRel w f w0 (i + 1) v' w6 from far_next HBA.out HOW5.out hown hgr HEL.out RQ.out)
      clear hown hgr HOW5 HBA HNW hsz
      go_wp2
      go_roundw
      case rel => exact ⟨i + 1, v', by go_num, rfl, hi2, HN⟩
      case measure => simp only [intOf]; omega
    · obtain rfl : i = z.n := by omega
      obtain ⟨dA, dc, rfl, hds⟩ := far_end HD.out HB_0.out Hr.out
      have HS := Lib.hid hds
      have HBR := Lib.hid Hr.out.1
      clear hds Hr hi2
      have HBZ := Lib.hid (below_tr HB_0.out HBR.out)
      have B9z := Lib.hid (Bz_0.out.below HBR.out)
      have B9o := Lib.hid (Bo_0.out.below HBR.out)
      have lz := B9z.out.lt
      obtain ⟨cz0, cz1, cz2⟩ := B9z.out.cells3
      have lo := B9o.out.lt
      obtain ⟨co0, co1, co2⟩ := B9o.out.cells3
      have fo0 := B9o.out.free 0
      have fo1 := B9o.out.free 1
      have fo2 := B9o.out.free 2
      go_wp2_with fail
      refine (support_any _ Ac Ag Ar cc cg cr z dA dc (pts f) 2000 E T E2 T2 (HZ.out.below HBZ.out) HS.out LZ.out (fun i hi => pt_lim (LD.out i hi)) hET (by omega) (by omega) (HT.out.below HBZ.out)).mono ?_
      rintro e w1 ⟨⟨r, rfl, hr⟩, hb⟩
      clear lz cz0 cz1 cz2 lo co0 co1 co2 fo0 fo1 fo2
      have K := Dk.below hb
      have Bz_1 := Lib.hid (show Bk _ _ _ #[.slice Ac z.n cc, .slice Ag z.m cg, .slice Ar z.n cr] from B9z.out.below hb)
      have Bo_2 := Lib.hid (show Bk _ _ _ #[.bool false, .slice none 0 0, .int .i64 0] from B9o.out.below hb)
      have HB_3 := Lib.hid (below_tr HBZ.out hb)
      clear hb
      clear K B9z B9o HBZ
      have RR_4 := Lib.hid hr
      clear hr
      have lz := Bz_1.out.lt
      obtain ⟨cz0, cz1, cz2⟩ := Bz_1.out.cells3
      have lo := Bo_2.out.lt
      obtain ⟨co0, co1, co2⟩ := Bo_2.out.cells3
      have fo0 := Bo_2.out.free 0
      have fo1 := Bo_2.out.free 1
      have fo2 := Bo_2.out.free 2
      have n_5 := Bz_1.out.lt
      have n_6 := Bo_2.out.lt
      go_wp2
      clear lz cz0 cz1 cz2 lo co0 co1 co2 fo0 fo1 fo2
      have K : Dk w1 ((((w1.setCell ⟨w.heap.size + 1, 0, none⟩ (.bool r.b)).setCell ⟨w.heap.size + 1, 1, none⟩ (.slice r.A r.n r.c)).setCell ⟨w.heap.size + 1, 2, none⟩ (.int .i64 (z.sup (pts f) 2000).x)).alloc (.cells #[.bool r.b, .slice r.A r.n r.c, .int .i64 (z.sup (pts f) 2000).x] 38)) := (((((Dk.refl _).set (cs := #[.bool false, .slice none 0 0, .int .i64 0]) Bo_2.out 0 (by intro _ hh; cases hh) (.bool r.b)).set (cs := #[.bool r.b, .slice none 0 0, .int .i64 0]) (Bo_2.out.set 0 (.bool r.b)) 1 (by intro _ hh; cases hh) (.slice r.A r.n r.c)).set (cs := #[.bool r.b, .slice r.A r.n r.c, .int .i64 0]) ((Bo_2.out.set 0 (.bool r.b)).set 1 (.slice r.A r.n r.c)) 2 (by intro _ hh; cases hh) (.int .i64 (z.sup (pts f) 2000).x)).alloc _)
      have y0 := Bz_1.out.lt; have y1 := Bo_2.out.lt; have y2 := HB_3.out.size; have Bz_7 := Lib.hid (show Bk ((((w1.setCell ⟨w.heap.size + 1, 0, none⟩ (.bool r.b)).setCell ⟨w.heap.size + 1, 1, none⟩ (.slice r.A r.n r.c)).setCell ⟨w.heap.size + 1, 2, none⟩ (.int .i64 (z.sup (pts f) 2000).x)).alloc (.cells #[.bool r.b, .slice r.A r.n r.c, .int .i64 (z.sup (pts f) 2000).x] 38)) (w.heap.size) 25 #[.slice Ac z.n cc, .slice Ag z.m cg, .slice Ar z.n cr] from ((((Bz_1.out.ne (by omega) 0 (.bool r.b)).ne (by omega) 1 (.slice r.A r.n r.c)).ne (by omega) 2 (.int .i64 (z.sup (pts f) 2000).x)).alloc _)); clear y0 y1 y2
      have Bo_8 := Lib.hid (show Bk ((((w1.setCell ⟨w.heap.size + 1, 0, none⟩ (.bool r.b)).setCell ⟨w.heap.size + 1, 1, none⟩ (.slice r.A r.n r.c)).setCell ⟨w.heap.size + 1, 2, none⟩ (.int .i64 (z.sup (pts f) 2000).x)).alloc (.cells #[.bool r.b, .slice r.A r.n r.c, .int .i64 (z.sup (pts f) 2000).x] 38)) (w.heap.size + 1) 38 #[.bool r.b, .slice r.A r.n r.c, .int .i64 (z.sup (pts f) 2000).x] from ((((Bo_2.out.set 0 (.bool r.b)).set 1 (.slice r.A r.n r.c)).set 2 (.int .i64 (z.sup (pts f) 2000).x)).alloc _))
      have y0 := HB_3.out.size; have HB_9 := Lib.hid (show Below w.heap.size w ((((w1.setCell ⟨w.heap.size + 1, 0, none⟩ (.bool r.b)).setCell ⟨w.heap.size + 1, 1, none⟩ (.slice r.A r.n r.c)).setCell ⟨w.heap.size + 1, 2, none⟩ (.int .i64 (z.sup (pts f) 2000).x)).alloc (.cells #[.bool r.b, .slice r.A r.n r.c, .int .i64 (z.sup (pts f) 2000).x] 38)) from (below_al (below_st (below_st (below_st HB_3.out 0 (by omega) (.bool r.b)) 1 (by omega) (.slice r.A r.n r.c)) 2 (by omega) (.int .i64 (z.sup (pts f) 2000).x)) _)); clear y0
      have RR_10 := Lib.hid (RR_4.out.dk K)
      clear K Bz_1 Bo_2 HB_3 RR_4
      generalize (((w1.setCell ⟨w.heap.size + 1, 0, none⟩ (.bool r.b)).setCell ⟨w.heap.size + 1, 1, none⟩ (.slice r.A r.n r.c)).setCell ⟨w.heap.size + 1, 2, none⟩ (.int .i64 (z.sup (pts f) 2000).x)).alloc (.cells #[.bool r.b, .slice r.A r.n r.c, .int .i64 (z.sup (pts f) 2000).x] 38) = w2 at *
      have lo := Bo_8.out.lt
      obtain ⟨co0, co1, co2⟩ := Bo_8.out.cells3
      refine bodyPost_ret (v := .tuple #[.agg #[.bool r.b, .slice r.A r.n r.c, .int .i64 (z.sup (pts f) 2000).x], .bool true]) ?_ rfl ?_
      · simp [results, Tryz.f9, go_sem, co0, co1, co2]
      · exact ⟨⟨r, rfl, RR_10.out⟩, HB_9.out⟩

end Go.Proofs.YtgioppkggpfnoaaGreatDoor.Nu
end

section
/- Layer 17's small: the walk. -/
set_option linter.unusedVariables false
namespace Go.Proofs.YtgioppkggpfnoaaGreatDoor.Nu
open Go.RowKit Go.Proofs

set_option maxRecDepth 100000 in
set_option maxHeartbeats 4000000 in
theorem small_any (w : World) (A : Option Addr) (n c : Nat) (h : RawD w A n c) (hn : n ≤ 1000000) :
    Calls Tryz.prog 7 #[.slice A n c] w fun e w' => (e = .returned (.bool false) ∨ e = .returned (.bool true) ∧ SmRow w A n c) ∧ Below w.heap.size w w' := by
  have HA := Lib.hid h
  clear h
  have hc := HA.out.1
  go_enter Tryz.func7, Tryz.ntmps7
  go_wp2_with fail
  have H0 := Lib.hid (show SmRel w A 0 w from ⟨Below.refl _ _, fun j hj => absurd hj (by omega)⟩)
  go_loopw [7] (fun k wr => ∃ i : Nat, k = .int .i64 i ∧ i ≤ n ∧ Hid (SmRel w A i wr)) (fun k _ => n - (intOf k).toNat)
  case atStart => exact ⟨0, rfl, Nat.zero_le _, H0⟩
  case round =>
    clear H0
    obtain ⟨j, rfl, hj, Hi⟩ := hrel
    by_cases hj2 : j < n
    · obtain ⟨b1, o1, rfl, hl1, hcc⟩ := HA.out.2.2 (by omega)
      obtain ⟨q, xs, x, hat, hrl, hqc⟩ := hcc j hj2
      obtain ⟨hbi, hels⟩ := Hi.out
      have HBI := Lib.hid hbi
      have x1 := (HBI.out.cell (p := ⟨b1, _, none⟩) hl1).trans hat.1
      have x2 := (HBI.out.cell (p := ⟨b1, _, none⟩) hl1).trans hat.2.1
      have x3 := (HBI.out.cell (p := ⟨b1, _, none⟩) hl1).trans hat.2.2
      have HAT := Lib.hid hat
      have HRL := Lib.hid hrl
      have HQC := Lib.hid hqc
      have HELS := Lib.hid hels
      clear hat hrl hqc hbi hels hcc Hi
      have q8 : (j : Int) < (n : Int) := by omega
      have F := Lib.hid (below_al HBI.out (.cells #[.bool q.b, .slice q.A q.n q.c, .int .i64 x] 38))
      by_cases h2 : q.n ≤ 2
      · have q9 : ¬ (2 : Int) < (q.n : Int) := by omega
        by_cases hx : x ≤ 60
        · have q10 : ¬ (60 : Int) < x := by omega
          by_cases hx' : -60 ≤ x
          · have q11 : ¬ x < -60 := by omega
            go_wp2_with fail
            refine (dcheck_raw _ q.b q.A q.n q.c xs x (HRL.out.below F.out) HQC.out).mono ?_
            rintro e w5 ⟨⟨r, rfl, hr⟩, hb⟩
            have HR5 := Lib.hid hr
            have HB5 := Lib.hid (below_tr F.out hb)
            clear hb x1 x2 x3 hr
            by_cases hr0 : r = 0
            · subst hr0
              have hq := HR5.out.1 rfl
              have HE := Lib.hid (sm_of_check HAT.out HRL.out h2 hq.2.1 hq.2.2.1 hx' hx)
              clear hq
              go_wp2
              go_roundw
              case rel =>
                refine ⟨j + 1, by go_num, hj2, Lib.hid ⟨HB5.out, fun j' hj' => ?_⟩⟩
                by_cases e : j' = j
                · subst e
                  obtain ⟨d, h1, h2⟩ := HE.out
                  exact ⟨b1, o1, d, rfl, hl1, h1, h2⟩
                · exact HELS.out j' (by omega)
              case measure => simp only [intOf]; omega
            · have q12 : ((r : Int) == 0) = false := by rw [beq_eq_false_iff_ne]; exact hr0
              have q13 : ((r : Int) != 0) = true := by rw [bne, q12]; rfl
              clear hr0
              go_wp2
              go_ret
              exact ⟨.inl rfl, HB5.out⟩
          · have q11 : x < -60 := by omega
            go_wp2
            go_ret
            exact ⟨.inl rfl, F.out⟩
        · have q10 : (60 : Int) < x := by omega
          go_wp2
          go_ret
          exact ⟨.inl rfl, F.out⟩
      · have q9 : (2 : Int) < (q.n : Int) := by omega
        go_wp2
        go_ret
        exact ⟨.inl rfl, F.out⟩
    · obtain rfl : j = n := by omega
      have HRO := Lib.hid (SmRel.row Hi.out hc hn)
      have HBI := Lib.hid Hi.out.1
      clear Hi hj2
      go_wp2
      go_ret
      exact ⟨.inr ⟨rfl, HRO.out⟩, HBI.out⟩
end Go.Proofs.YtgioppkggpfnoaaGreatDoor.Nu
end

section
/- How far a set goes, the places said once. -/
set_option linter.unusedVariables false
namespace Go.Proofs.YtgioppkggpfnoaaGreatDoor.Nu
open Go.RowKit Go.Proofs

theorem far_at (w : World) (Ac Ag Ar : Option Addr) (cc cg cr : Nat) (z : Zo) (n : Nat) (dA : Option Addr) (dc : Nat) (f : Nat → D) (E T E2 T2 : Nat) (ez : z.n = n) (h : RZo w ⟨Ac, cc, Ag, cg, Ar, cr⟩ z) (h2 : RDs w dA n dc f) (lz : z.Lim E T) (ld : ∀ i, i < n → (f i).Lim E2 T2) (hET : E + E2 + T + T2 + 4 * n + 2 * z.m + 10 ≤ 16000) (ht : BTab w) :
    Calls Tryz.prog 9 #[.agg #[.slice Ac n cc, .slice Ag z.m cg, .slice Ar n cr], .slice dA n dc] w fun e w' => (∃ r : Q, e = .returned (.tuple #[.agg #[.bool r.b, .slice r.A r.n r.c, .int .i64 (z.sup (pts f) 2000).x], .bool true]) ∧ RD w' r (z.sup (pts f) 2000)) ∧ Below w.heap.size w w' := by
  subst ez
  exact far_any w Ac Ag Ar cc cg cr z dA dc f E T E2 T2 h h2 lz ld hET ht
end Go.Proofs.YtgioppkggpfnoaaGreatDoor.Nu
end

section
/- What the join and reduce rows of this seat share: the listed table as the walks read it, a world for the witness, the call's end. -/
namespace Go.Proofs.YtgioppkggpfnoaaGreatDoor.Nu
open Go.ChangeShapes Go.WideShapes Go.ChangeAt Go.RowKit Go.Proofs

section
variable {H : Type} {enc : TypeId × Value → H} {P : Program}
theorem post_of_below {f : Func} {s : ChangeSpec} {apart fresh handsOn again : Bool} {W W' : World} {args : Array Value} {v : Value} {ds gs : List (DataW H)} {before pa pv : List MemPlace}
    (hW : DataW.Whole enc P f.params.toList s.vars apart W args.toList ds gs before)
    (hres : ∀ (b : Nat) (sp : Nat → Bool) (hd : Bool), DataW.TrodAll enc P W' b sp hd f.resultTypes.toList (v.resultList f.resultTypes.size) (s.fn H (ds ++ gs)).results [])
    (hargs : ∀ sp : Nat → Bool, (∀ p ∈ before, sp p.block = true) → DataW.TrodAll enc P W' 0 sp true f.params.toList args.toList (s.fn H (ds ++ gs)).args pa)
    (hvars : ∀ sp : Nat → Bool, (∀ p ∈ before, sp p.block = true) → DataW.TrodVars enc P W' sp s.vars (s.fn H (ds ++ gs)).vars pv)
    (hps : before = pa ++ pv) (hb : Below W.heap.size W W')
    (hok : ∀ (j : Nat) (t : TypeId) (r : Value), f.resultTypes[j]? = some t → (v.resultList f.resultTypes.size)[j]? = some r → Value.okWide P W' .any 0 t r) :
    s.post enc P f apart fresh handsOn again W args v W' := by
  have hlt : ∀ p ∈ before, p.block < W.heap.size := fun p hp => hW.lt p hp
  have hold : ∀ p ∈ before, (fun b => decide (b < W.heap.size)) p.block = true := fun p hp => by simpa using hlt p hp
  refine ⟨ds, gs, before, [], pa, pv, hW, hres _ _ _, hargs _ hold, hvars _ hold, World.keptBut_mono (fun p hp => ⟨hp, ?_⟩) (hb.frame (· ∈ before)), fun _ => ?_⟩
  · rw [hps, List.mem_append] at hp
    exact Or.inr hp
  · obtain ⟨_, _, _, _, _, hz, hn⟩ := hW
    refine ⟨hok, _, _, ([] ++ pa) ++ pv, ⟨[] ++ pa, pv, trodAll_append (hargs _ (fun _ _ => rfl)) (hres _ _ _), hvars _ (fun _ _ => rfl), rfl, ?_, ?_⟩, ?_⟩
    · intro b off hp
      have hin : MemPlace.cell b off ∈ before := by rw [hps]; simpa using hp
      rw [hb.frozen (hlt _ hin)]
      exact hz b off hin
    · intro ha
      have := hn ha
      rw [hps] at this
      simpa using this
    · intro p hp _
      rw [hps]
      simpa using hp
end

theorem own : ownKnob Tryz.prog.godebug = none := by kernel_rfl
theorem gBru : Tryz.prog.globalNamed "math/bits.deBruijn32tab" = some 0 := by kernel_rfl
theorem gBruType : (Tryz.prog.globals[0]?).map (·.type) = some 131 := by kernel_rfl
theorem cellsU8 : Tryz.prog.cellsOf 5 = 1 := by kernel_rfl
theorem cellsBru : Tryz.prog.cellsOf 131 = 32 := by kernel_rfl
/-- What the rows list. -/
def laidList {H : Type} : List (String × DataW H) := [("math/bits.deBruijn32tab", Rows.laid_math_bits_deBruijn32tab)]
theorem bruData : (Rows.laid_math_bits_deBruijn32tab : DataW Unit) = Lib.tabData .u8 bruijn := by kernel_rfl
theorem btab {W : World} (h : laidMetH Tryz.prog laidList W) : BTab W := by
  have h' : laidMet Tryz.prog [("math/bits.deBruijn32tab", Rows.laid_math_bits_deBruijn32tab)] W := h
  rw [bruData] at h'
  have hT := Lib.tabIs_of_head (rest := []) gBru gBruType Tryz.underlying131 Tryz.underlying5 cellsU8 cellsBru h'
  have hc : ∀ j v, bruijn[j]? = some v → W.cell? ⟨0, j, none⟩ = some (.int .u8 v) := fun j v hj => by
    have hlt : j < bruijn.length := (List.getElem?_eq_some_iff.1 hj).1
    rw [hT.cell gBru j hlt]
    simp [List.getD, hj]
  exact ⟨cell_lt (hc 0 0 rfl), hc⟩
/-- A world for the witness: the settled one, the listed table as its initialiser laid it. -/
noncomputable def laidWorld (os : Os) : World :=
  let w0 := World.holding Tryz.prog os ⟨#[], #[], []⟩
  { w0 with heap := w0.heap.modify 0 fun
    | .cells _ t frozen => .cells (bruijn.map fun z => Value.int .u8 z).toArray t frozen
    | o => o }
theorem laid_met (os : Os) (args : Array Value) : laidMet Tryz.prog laidList ((laidWorld os).forCall (fun _ _ => 0) ⟨#[], args, []⟩).memory :=
  laidMet_of_run' 10 (by kernel_rfl) (by kernel_rfl)
end Go.Proofs.YtgioppkggpfnoaaGreatDoor.Nu
end

section
/- What a row's arguments are, read raw: rows of digits, numbers times powers of two, lists of them, lists of lists, sets. -/
set_option linter.unusedVariables false
namespace Go.Proofs.YtgioppkggpfnoaaGreatDoor.Nu
open Go.ChangeShapes Go.WideShapes Go.ChangeAt Go.RowKit Go.Proofs

theorem len_two {α : Type} : ∀ {l : List α}, l.length = 2 → ∃ a b, l = [a, b]
  | [a, b], _ => ⟨a, b, rfl⟩
theorem len_three {α : Type} : ∀ {l : List α}, l.length = 3 → ∃ a b c, l = [a, b, c]
  | [a, b, c], _ => ⟨a, b, c, rfl⟩
theorem laidOut : laidOutB Tryz.prog = true := by kernel_rfl
theorem cellsU32 : Tryz.prog.cellsOf 77 = 1 := by kernel_rfl
theorem cellsB : Tryz.prog.cellsOf 4 = 1 := by kernel_rfl
theorem cellsN : Tryz.prog.cellsOf 34 = 1 := by kernel_rfl
theorem cellsI : Tryz.prog.cellsOf 3 = 1 := by kernel_rfl
theorem cellsInt : Tryz.prog.cellsOf 36 = 2 := by kernel_rfl
theorem cellsDy : Tryz.prog.cellsOf 38 = 3 := by kernel_rfl
theorem cellsL : Tryz.prog.cellsOf 22 = 1 := by kernel_rfl
theorem cellsLL : Tryz.prog.cellsOf 23 = 1 := by kernel_rfl
theorem cellsZo : Tryz.prog.cellsOf 25 = 3 := by kernel_rfl
section
variable {H : Type} {enc : TypeId × Value → H} {w : World} {sp : Nat → Bool} {held : Bool} {fuel : Nat} {cs : List Value} {x : DataW H × List MemPlace}
theorem spot_of {w : World} {a : Addr} {v : Value} (h : w.cell? a = some v) : a = ⟨a.block, a.off, none⟩ := by
  obtain ⟨b, o, s⟩ := a
  cases s with
  | none => rfl
  | some k =>
    unfold World.cell? at h
    split at h
    · simp at h
    · cases h
/-- A list's elements: where they lie, each as it reads. -/
theorem list_raw {t e : TypeId} {k : Nat} (ht : Tryz.prog.underlying t = some (.slice e)) (hk : Tryz.prog.cellsOf e = k) (hk0 : 0 < k) (h : DataW.trod enc Tryz.prog w 0 sp held fuel t cs = some x) :
    ∃ (A : Option Addr) (n c : Nat), cs = [.slice A n c] ∧ n ≤ c ∧ n ≤ 9223372036854775807 ∧ (A = none → c = 0) ∧ (0 < n → ∃ b off, A = some ⟨b, off, none⟩ ∧ b < w.heap.size ∧
      ∀ j, j < n → ∃ cs' m y, cs'.length = k ∧ (∀ i, i < k → w.cell? ⟨b, off + j * k + i, none⟩ = cs'[i]?) ∧ DataW.trod enc Tryz.prog w 0 sp held m e cs' = some y) := by
  rcases DataW.trod_slice ht h with ⟨rfl, _⟩ | ⟨a, len, cap, elems, rest, m, _, rfl, _, _, hl, hm, hlen, hel, _, _⟩
  · exact ⟨none, 0, 0, rfl, Nat.le_refl _, by omega, fun _ => rfl, fun h => absurd h (Nat.lt_irrefl _)⟩
  · refine ⟨some a, len, cap, rfl, hl, by have : cap ≤ 2 ^ 63 - 1 := hm; omega, (fun e => by cases e), fun h0 => ?_⟩
    have each : ∀ j, j < len → ∃ cs' y, cs'.length = k ∧ (∀ i, i < k → w.cell? ((a.add (j * k)).add i) = cs'[i]?) ∧ DataW.trod enc Tryz.prog w 0 sp held m e cs' = some y := fun j hj => by
      have hb := hel j hj
      rw [hk] at hb
      obtain ⟨y, hy⟩ : ∃ y, elems[j]? = some y := ⟨elems[j]'(by omega), List.getElem?_eq_getElem (by omega)⟩
      rw [hy] at hb
      obtain ⟨cs', hc, ht'⟩ := Option.bind_eq_some_iff.1 hb
      obtain ⟨_, h1, h2⟩ := World.cells?_some hc
      exact ⟨cs', y, h1, h2, ht'⟩
    have hsp : a = ⟨a.block, a.off, none⟩ := by
      obtain ⟨cs', y, h1, h2, _⟩ := each 0 h0
      have h3 := h2 0 hk0
      obtain ⟨v, hv⟩ : ∃ v, cs'[0]? = some v := ⟨cs'[0]'(by omega), List.getElem?_eq_getElem (by omega)⟩
      rw [hv, Nat.zero_mul] at h3
      have e0 : ∀ a : Addr, a.add 0 = a := fun a => by simp [Addr.add]
      rw [e0, e0] at h3
      exact spot_of h3
    have hadd : ∀ j i, (a.add j).add i = ⟨a.block, a.off + j + i, none⟩ := fun j i => by
      rw [hsp, Addr.add_lit, Addr.add_lit]
    have hlt : a.block < w.heap.size := by
      obtain ⟨cs', y, h1, h2, _⟩ := each 0 h0
      have h3 := h2 0 hk0
      obtain ⟨v, hv⟩ : ∃ v, cs'[0]? = some v := ⟨cs'[0]'(by omega), List.getElem?_eq_getElem (by omega)⟩
      rw [hv, hadd] at h3
      exact cell_lt h3
    refine ⟨a.block, a.off, by rw [← hsp], hlt, fun j hj => ?_⟩
    obtain ⟨cs', y, h1, h2, h3⟩ := each j hj
    exact ⟨cs', m, y, h1, fun i hi => by rw [← hadd]; exact h2 i hi, h3⟩
theorem nat_raw (h : DataW.trod enc Tryz.prog w 0 sp held fuel 34 cs = some x) : ∃ (A : Option Addr) (n c : Nat) (xs : List Nat), cs = [.slice A n c] ∧ RL2 w A n xs ∧ n ≤ c := by
  obtain ⟨A, n, c, rfl, hc, hn, _, hel⟩ := list_raw Tryz.underlying34 cellsU32 (by omega) h
  have each : ∀ j, ∃ z : Nat, j < n → z < 4294967296 ∧ ∃ b off, A = some ⟨b, off, none⟩ ∧ b < w.heap.size ∧ w.cell? ⟨b, off + j, none⟩ = some (.int .u32 z) := fun j => by
    by_cases hj : j < n
    · obtain ⟨b, off, hA, hlt, hh⟩ := hel (by omega)
      obtain ⟨cs', m, y, h1, h2, h3⟩ := hh j hj
      obtain ⟨z, rfl, _, hw⟩ := DataW.trod_int Tryz.underlying77 h3
      have hb := bounds_u32 hw
      refine ⟨z.toNat, fun _ => ⟨by omega, b, off, hA, hlt, ?_⟩⟩
      have h4 := h2 0 (by omega)
      rw [Nat.mul_one, Nat.add_zero] at h4
      rw [h4, show ((z.toNat : Nat) : Int) = z by omega]
      rfl
    · exact ⟨0, fun e => absurd e hj⟩
  refine ⟨A, n, c, (List.range n).map fun j => Classical.choose (each j), rfl, ⟨hn, fun h5 => ⟨by simp, by omega, fun z hz => ?_, fun h0 => ?_⟩⟩, hc⟩
  · obtain ⟨j, hj, rfl⟩ := List.mem_map.1 hz
    exact (Classical.choose_spec (each j) (List.mem_range.1 hj)).1
  · obtain ⟨_, b, off, hA, hlt, _⟩ := Classical.choose_spec (each 0) h0
    refine ⟨b, off, hA, hlt, fun j hj => ?_⟩
    obtain ⟨_, b', off', hA', _, hc'⟩ := Classical.choose_spec (each j) hj
    rw [hA] at hA'
    injection hA' with hA'
    injection hA' with e1 e2
    subst e1 e2
    rw [hc', dg_of (by simpa using hj)]
    simp
theorem int_raw (h : DataW.trod enc Tryz.prog w 0 sp held fuel 36 cs = some x) : ∃ (q : Q) (xs : List Nat), cs = [.bool q.b, .slice q.A q.n q.c] ∧ RL2 w q.A q.n xs ∧ q.n ≤ q.c := by
  obtain ⟨ys, m, _, _, hl, hy, hf⟩ := DataW.trod_struct Tryz.underlying36 h
  rw [cellsInt] at hl
  have h0 : DataW.trod enc Tryz.prog w 0 sp held m 4 ((cs.drop 0).take (Tryz.prog.cellsOf 4)) = ys[0]? := hf 0 _ rfl
  have h1 : DataW.trod enc Tryz.prog w 0 sp held m 34 ((cs.drop 1).take (Tryz.prog.cellsOf 34)) = ys[1]? := hf 1 _ rfl
  simp only [cellsB, cellsN, List.drop_zero] at h0 h1
  obtain ⟨v0, v1, rfl⟩ := len_two hl
  have hy2 : ys.length = 2 := hy
  obtain ⟨y0, e0⟩ : ∃ y, ys[0]? = some y := ⟨ys[0]'(by omega), List.getElem?_eq_getElem (by omega)⟩
  obtain ⟨y1, e1⟩ : ∃ y, ys[1]? = some y := ⟨ys[1]'(by omega), List.getElem?_eq_getElem (by omega)⟩
  rw [e0] at h0
  rw [e1] at h1
  obtain ⟨b, hb, _⟩ := DataW.trod_bool Tryz.underlying4 h0
  obtain ⟨A, n, c, xs, hc, hr, hn⟩ := nat_raw h1
  simp at hb hc
  subst hb hc
  exact ⟨⟨b, A, n, c⟩, xs, rfl, hr, hn⟩
theorem dyad_raw (h : DataW.trod enc Tryz.prog w 0 sp held fuel 38 cs = some x) : ∃ (q : Q) (xs : List Nat) (z : Int), cs = [.bool q.b, .slice q.A q.n q.c, .int .i64 z] ∧ RL2 w q.A q.n xs ∧ q.n ≤ q.c := by
  obtain ⟨ys, m, _, _, hl, hy, hf⟩ := DataW.trod_struct Tryz.underlying38 h
  rw [cellsDy] at hl
  have h0 : DataW.trod enc Tryz.prog w 0 sp held m 36 ((cs.drop 0).take (Tryz.prog.cellsOf 36)) = ys[0]? := hf 0 _ rfl
  have h1 : DataW.trod enc Tryz.prog w 0 sp held m 3 ((cs.drop 2).take (Tryz.prog.cellsOf 3)) = ys[1]? := hf 1 _ rfl
  simp only [cellsInt, cellsI, List.drop_zero] at h0 h1
  obtain ⟨v0, v1, v2, rfl⟩ := len_three hl
  have hy2 : ys.length = 2 := hy
  obtain ⟨y0, e0⟩ : ∃ y, ys[0]? = some y := ⟨ys[0]'(by omega), List.getElem?_eq_getElem (by omega)⟩
  obtain ⟨y1, e1⟩ : ∃ y, ys[1]? = some y := ⟨ys[1]'(by omega), List.getElem?_eq_getElem (by omega)⟩
  rw [e0] at h0
  rw [e1] at h1
  obtain ⟨q, xs, hb, hr, hn⟩ := int_raw h0
  obtain ⟨z, hz, _, _⟩ := DataW.trod_int Tryz.underlying3 h1
  simp at hb hz
  obtain ⟨rfl, rfl⟩ := hb
  subst hz
  exact ⟨q, xs, z, rfl, hr, hn⟩
theorem dyads_raw (h : DataW.trod enc Tryz.prog w 0 sp held fuel 22 cs = some x) : ∃ (A : Option Addr) (n c : Nat), cs = [.slice A n c] ∧ RawD w A n c ∧ (A = none → c = 0) := by
  obtain ⟨A, n, c, rfl, hc, hn, hnil, hel⟩ := list_raw Tryz.underlying22 cellsDy (by omega) h
  refine ⟨A, n, c, rfl, ⟨hc, hn, fun h0 => ?_⟩, hnil⟩
  obtain ⟨b, off, hA, hlt, hh⟩ := hel h0
  refine ⟨b, off, hA, hlt, fun j hj => ?_⟩
  obtain ⟨cs', m, y, h1, h2, h3⟩ := hh j hj
  obtain ⟨q, xs, z, rfl, hr, hq⟩ := dyad_raw h3
  exact ⟨q, xs, z, ⟨h2 0 (by omega), h2 1 (by omega), h2 2 (by omega)⟩, hr, hq⟩
theorem rows_raw (h : DataW.trod enc Tryz.prog w 0 sp held fuel 23 cs = some x) : ∃ (A : Option Addr) (n c : Nat), cs = [.slice A n c] ∧ RawR w A n c ∧ (A = none → c = 0) := by
  obtain ⟨A, n, c, rfl, hc, hn, hnil, hel⟩ := list_raw Tryz.underlying23 cellsL (by omega) h
  refine ⟨A, n, c, rfl, ⟨hc, hn, fun h0 => ?_⟩, hnil⟩
  obtain ⟨b, off, hA, hlt, hh⟩ := hel h0
  refine ⟨b, off, hA, hlt, fun j hj => ?_⟩
  obtain ⟨cs', m, y, h1, h2, h3⟩ := hh j hj
  obtain ⟨A', n', c', rfl, hr, _⟩ := dyads_raw h3
  have h4 := h2 0 (by omega)
  rw [Nat.mul_one, Nat.add_zero] at h4
  exact ⟨A', n', c', h4, hr⟩
theorem set_raw (h : DataW.trod enc Tryz.prog w 0 sp held fuel 25 cs = some x) : ∃ (Ac Ag Ar : Option Addr) (nc cc m cg nr cr : Nat), cs = [.slice Ac nc cc, .slice Ag m cg, .slice Ar nr cr] ∧ RawD w Ac nc cc ∧ RawR w Ag m cg ∧ RawD w Ar nr cr ∧ (Ag = none → cg = 0) := by
  obtain ⟨ys, k, _, _, hl, hy, hf⟩ := DataW.trod_struct Tryz.underlying25 h
  rw [cellsZo] at hl
  have h0 : DataW.trod enc Tryz.prog w 0 sp held k 22 ((cs.drop 0).take (Tryz.prog.cellsOf 22)) = ys[0]? := hf 0 _ rfl
  have h1 : DataW.trod enc Tryz.prog w 0 sp held k 23 ((cs.drop 1).take (Tryz.prog.cellsOf 23)) = ys[1]? := hf 1 _ rfl
  have h2 : DataW.trod enc Tryz.prog w 0 sp held k 22 ((cs.drop 2).take (Tryz.prog.cellsOf 22)) = ys[2]? := hf 2 _ rfl
  simp only [cellsL, cellsLL, List.drop_zero] at h0 h1 h2
  obtain ⟨v0, v1, v2, rfl⟩ := len_three hl
  have hy2 : ys.length = 3 := hy
  obtain ⟨y0, e0⟩ : ∃ y, ys[0]? = some y := ⟨ys[0]'(by omega), List.getElem?_eq_getElem (by omega)⟩
  obtain ⟨y1, e1⟩ : ∃ y, ys[1]? = some y := ⟨ys[1]'(by omega), List.getElem?_eq_getElem (by omega)⟩
  obtain ⟨y2, e2⟩ : ∃ y, ys[2]? = some y := ⟨ys[2]'(by omega), List.getElem?_eq_getElem (by omega)⟩
  rw [e0] at h0
  rw [e1] at h1
  rw [e2] at h2
  obtain ⟨Ac, nc, cc, hc, hrc, _⟩ := dyads_raw h0
  obtain ⟨Ag, m, cg, hg, hrg, hnil⟩ := rows_raw h1
  obtain ⟨Ar, nr, cr, hr, hrr, _⟩ := dyads_raw h2
  simp at hc hg hr
  subst hc hg hr
  exact ⟨Ac, Ag, Ar, nc, cc, m, cg, nr, cr, rfl, hrc, hrg, hrr, hnil⟩
end
set_option maxRecDepth 100000 in
/-- A set that comes in. -/
theorem open_set {H : Type} {enc : TypeId × Value → H} {W : World} {sp : Nat → Bool} {held : Bool} {base : Nat} {v : Value} {d : DataW H} {ps : List MemPlace} (hv : Value.okWide Tryz.prog W .any base 25 v) (h : DataW.Trod enc Tryz.prog W 0 sp held 25 v d ps) :
    ∃ (Ac Ag Ar : Option Addr) (nc cc m cg nr cr : Nat), v = .agg #[.slice Ac nc cc, .slice Ag m cg, .slice Ar nr cr] ∧ RawD W Ac nc cc ∧ RawR W Ag m cg ∧ RawD W Ar nr cr ∧ (Ag = none → cg = 0) := by
  obtain ⟨cs, rfl, _⟩ := okWide_struct Tryz.underlying25 hv
  obtain ⟨n, hn⟩ := h
  obtain ⟨Ac, Ag, Ar, nc, cc, m, cg, nr, cr, e, h1, h2, h3, h4⟩ := set_raw hn
  refine ⟨Ac, Ag, Ar, nc, cc, m, cg, nr, cr, ?_, h1, h2, h3, h4⟩
  have e2 : cs = #[.slice Ac nc cc, .slice Ag m cg, .slice Ar nr cr] := by
    cases cs
    simp only [Value.cells] at e
    rw [e]
  rw [e2]
set_option maxRecDepth 100000 in
theorem open_dyads {H : Type} {enc : TypeId × Value → H} {W : World} {sp : Nat → Bool} {held : Bool} {base : Nat} {v : Value} {d : DataW H} {ps : List MemPlace} (hv : Value.okWide Tryz.prog W .any base 22 v) (h : DataW.Trod enc Tryz.prog W 0 sp held 22 v d ps) :
    ∃ (A : Option Addr) (n c : Nat), v = .slice A n c ∧ RawD W A n c := by
  obtain ⟨a, l, k, rfl⟩ := okWide_slice Tryz.underlying22 hv
  obtain ⟨n, hn⟩ := h
  obtain ⟨A, n, c, e, h1, _⟩ := dyads_raw hn
  refine ⟨A, n, c, ?_, h1⟩
  simp only [Value.cells] at e
  injection e
end Go.Proofs.YtgioppkggpfnoaaGreatDoor.Nu
end
