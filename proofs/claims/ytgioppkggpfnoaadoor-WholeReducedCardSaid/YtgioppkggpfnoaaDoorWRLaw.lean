/- WholeReduced: whatever two sets and direction, the law answers true: what holds two sets of fewer ways each holds the sets themselves, in any direction. Conditions: the row's own (the listed table as the program's text lays it). -/
import Derived.Test.YtgioppkggpfnoaaDoorWR7
set_option linter.all false
namespace Go.Proofs.YtgioppkggpfnoaaDoor
open Go.ChangeShapes Go.WideShapes Go.ChangeAt Go.RowKit
open Go.WideMaps Go.WideElems

namespace wholeReducedLaw
set_option maxRecDepth 100000 in
theorem contract (H : Type) (enc : TypeId × Value → H) (W : World) (base : Nat) (args : Array Value) (ds gs : List (DataW H)) (before : List MemPlace)
    (hval : ∀ (j : Nat) t v, Tryd.f11.params[j]? = some t → args[j]? = some v → Value.okWide Tryd.prog W .any base t v)
    (hW : DataW.Whole enc Tryd.prog Tryd.f11.params.toList Rows.wholeReducedSpec.vars false W args.toList ds gs before) (hL : laidMetH Tryd.prog Rows.wholeReducedRow.laid W) :
    Calls Tryd.prog 11 args W fun e W' => ∃ v, e = .returned v ∧ Rows.wholeReducedSpec.post enc Tryd.prog Tryd.f11 false true false false W args v W' := by
  have hW' := hW
  obtain ⟨p, q, hA0, hV, rfl, hfz, hnd⟩ := hW
  have hA : DataW.TrodAll enc Tryd.prog W 0 (fun _ => true) true Tryd.f11.params.toList args.toList ds p := hA0
  rw [Tryd.params11] at hA hval
  obtain ⟨v0, vs0, d0, ds0, p0, q0, hargs, rfl, rfl, h0, r0⟩ := trodAll_cons hA
  obtain ⟨v1, vs1, d1, ds1, p1, q1, rfl, rfl, rfl, h1, r1⟩ := trodAll_cons r0
  obtain ⟨v2, vs2, d2, ds2, p2, q2, rfl, rfl, rfl, h2, r2⟩ := trodAll_cons r1
  obtain ⟨rfl, rfl, rfl⟩ := trodAll_nil r2
  obtain rfl : args = #[v0, v1, v2] := by cases args; simp_all
  obtain ⟨rfl, rfl⟩ := trodVars_none hV
  have k0 := h0
  have k1 := h1
  have k2 := h2
  obtain ⟨A0c, A0g, A0r, n0, cc0, m0, cg0, nr0, cr0, rfl, a00, a01, a02, a03⟩ := Nu.open_set (hval 0 42 v0 rfl rfl) h0
  obtain ⟨A1c, A1g, A1r, n1, cc1, m1, cg1, nr1, cr1, rfl, a10, a11, a12, a13⟩ := Nu.open_set (hval 1 42 v1 rfl rfl) h1
  obtain ⟨D2, dn2, dc2, rfl, b2⟩ := Nu.open_dyads (hval 2 39 v2 rfl rfl) h2
  clear hA0
  simp only [List.append_nil] at hW'
  have hlt : ∀ x ∈ p0 ++ (p1 ++ p2), x.block < W.heap.size := fun x hx => hW'.lt x hx
  refine (Nu.wred_any W A0c A0g A0r A1c A1g A1r D2 n0 nr0 m0 n1 nr1 m1 dn2 cc0 cg0 cr0 cc1 cg1 cr1 dc2 a00 a01 a02 a03 a10 a11 a12 a13 b2 (Nu.btab hL)).mono fun e W' ⟨he, hg⟩ => ?_
  subst he
  exact ⟨_, rfl, Nu.post_of_below (pa := p0 ++ (p1 ++ p2)) (pv := []) hW' (fun _ _ _ => trodAll_cons_mk (shut_bool Tryd.underlying4 _) trodAll_mk0)
    (fun sp hs => by
      have t2 := trodAll_cons_mk (Trod_stays Nu.laidOut (by kernel_rfl) (of_decide_eq_true (by kernel_rfl)) k2 (fun x hx => hg.same (hlt x (by simp [hx]))) (fun x hx => hs x (by simp [hx]))) trodAll_mk0
      have t1 := trodAll_cons_mk (Trod_stays Nu.laidOut (by kernel_rfl) (of_decide_eq_true (by kernel_rfl)) k1 (fun x hx => hg.same (hlt x (by simp [hx]))) (fun x hx => hs x (by simp [hx]))) t2
      have t0 := trodAll_cons_mk (Trod_stays Nu.laidOut (by kernel_rfl) (of_decide_eq_true (by kernel_rfl)) k0 (fun x hx => hg.same (hlt x (by simp [hx]))) (fun x hx => hs x (by simp [hx]))) t1
      simp only [List.append_nil] at t0
      exact t0)
    (fun _ _ => rfl) (by simp) hg (ok_one (by kernel_rfl) rfl (okWide_bool_mk Tryd.underlying4 _))⟩

theorem reads (os : Os) {H : Type} (enc : TypeId × Value → H) : ∃ places, DataW.whole enc Tryd.prog ((Nu.laidWorld os).forCall (fun _ _ => 0) ⟨#[], #[.agg #[.slice none 0 0, .slice none 0 0, .slice none 0 0], .agg #[.slice none 0 0, .slice none 0 0, .slice none 0 0], .slice none 0 0], []⟩).memory Tryd.f11.params.toList Rows.wholeReducedSpec.vars false #[Value.agg #[.slice none 0 0, .slice none 0 0, .slice none 0 0], Value.agg #[.slice none 0 0, .slice none 0 0, .slice none 0 0], Value.slice none 0 0].toList 8 = some ([.agg [.nil, .nil, .nil], .agg [.nil, .nil, .nil], .nil], [], places) :=
  ⟨[], by kernel_rfl⟩
set_option maxRecDepth 100000 in
theorem lifted (os : Os) (started : os.Started) (H : Type) (enc : TypeId × Value → H) (F : Stop.Interp) :
    ReturnsInHanded {} Tryd.checked os 11 .any ((OpenSpec.ofChange Rows.wholeReducedSpec).preRow enc Tryd.prog Tryd.f11 Rows.wholeReducedRow.domain false Rows.wholeReducedRow.laid) (((OpenSpec.ofChange Rows.wholeReducedSpec).at F).post enc Tryd.prog Tryd.f11 false true false false) := by
  obtain ⟨places, hx⟩ := reads os enc
  refine returnsInHanded_of_row (C := Tryd.checked) (s := OpenSpec.ofChange Rows.wholeReducedSpec) Nu.own started (by kernel_rfl) Tryd.func11
    (witness_row_atRef (enc := enc) (C := Tryd.checked) false (Nu.laidWorld os) #[.agg #[.slice none 0 0, .slice none 0 0, .slice none 0 0], .agg #[.slice none 0 0, .slice none 0 0, .slice none 0 0], .slice none 0 0] rfl (by kernel_rfl) (by kernel_rfl) (by kernel_rfl)
      (OpenSpec.preRow_of_cond 8 hx (by kernel_rfl) (fun k hk => by cases hk) (by kernel_rfl) (Nu.laid_met os _))) ?_
  intro W base args ds gs before hval hW _ _ _ hL _ _
  exact contract H enc W base args ds gs before hval hW hL
theorem said : Rows.WholeReducedSaid :=
  OpenClaim.holds_of_cond 11 Tryd.f11 rfl rfl rfl rfl rfl rfl rfl ⟨rfl, rfl, rfl, rfl, rfl⟩ rfl rfl rfl rfl rfl (by kernel_rfl) Tryd.func11 (by kernel_rfl)
    (of_decide_eq_true (by kernel_rfl)) (by unfold Func.isWrapper; first | (rw [if_pos (by decide +kernel)]; kernel_rfl) | (rw [if_neg (by decide +kernel)]; exact ⟨rfl, rfl⟩))
    (fun os started H enc _ F => by rw [OpenClaim.pre_eq_preRow]; exact lifted os started H enc F)
theorem plain (f : FuncId) (fn : Func) (hf : Tryd.pinned.checked.prog.funcNamed "girdle/girdletop.WholeReduced" = some f) (hfn : Tryd.pinned.checked.prog.funcs[f]? = some fn) :
    false = Tryd.pinned.checked.prog.looks [] ∧ ∀ (j : Nat) t, fn.params[j]? = some t → Tryd.pinned.checked.prog.wantsStandIn t = false := by
  obtain rfl : f = 11 := Option.some.inj ((show Tryd.prog.funcNamed "girdle/girdletop.WholeReduced" = some 11 by kernel_rfl).symm.trans hf) |>.symm
  obtain rfl : fn = Tryd.f11 := (Option.some.inj (Tryd.func11.symm.trans hfn)).symm
  refine ⟨by kernel_rfl, fun j t ht => ?_⟩
  rw [Tryd.params11] at ht
  have hm : t = 42 ∨ t = 39 := by
    have := Array.mem_of_getElem? ht
    simp at this
    omega
  rcases hm with rfl | rfl
  · exact (show Tryd.prog.wantsStandIn 42 = false by kernel_rfl)
  · exact (show Tryd.prog.wantsStandIn 39 = false by kernel_rfl)
end wholeReducedLaw
theorem WholeReduced_holds : Rows.WholeReducedCardSaid :=
  Claim7.holds_tied_plain_at .later [] _ _ _ _ wholeReducedLaw.said (fun _ h => by cases h) (by kernel_rfl) (fun _ h => by cases h) wholeReduced_row_tie rfl ⟨rfl, rfl⟩ (by kernel_rfl) rfl wholeReducedLaw.plain (by kernel_rfl)
end Go.Proofs.YtgioppkggpfnoaaDoor
