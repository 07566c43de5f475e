/- JoinBetween: whatever two sets, whichever corners and in whatever part between them, the law answers true: what lies between goes no further along any place than what holds both. Conditions: the row's own (the listed table as the program's text lays it). -/
import Derived.Test.YtgioppkggpfnoaaDoorJBetween1
import Derived.OpenShut
set_option linter.all false
namespace Go.Proofs.YtgioppkggpfnoaaDoor
open Go.ChangeShapes Go.WideShapes Go.ChangeAt Go.RowKit
open Go.WideMaps Go.WideElems

theorem cells3 : Tryd.prog.cellsOf 3 = 1 := by kernel_rfl
theorem cells33 : Tryd.prog.cellsOf 86 = 3 := by kernel_rfl
set_option maxRecDepth 100000 in
theorem open_int3 {H : Type} {enc : TypeId × Value → H} {W : World} {sp : Nat → Bool} {held : Bool} {base : Nat} {v : Value} {d : DataW H} {ps : List MemPlace} (hv : Value.okWide Tryd.prog W .any base 86 v) (h : DataW.Trod enc Tryd.prog W 0 sp held 86 v d ps) :
    ∃ (a b c : Int), v = .agg #[.int .i64 a, .int .i64 b, .int .i64 c] := by
  have hv2 : ∃ cs, v = .agg cs := by
    simp only [Value.okWide, Tryd.underlying86] at hv
    obtain ⟨cs, h1, _⟩ := hv
    exact ⟨cs, h1⟩
  obtain ⟨cs, rfl⟩ := hv2
  obtain ⟨n, hn⟩ := h
  obtain ⟨ys, k, _, _, hl, hy, hf⟩ := DataW.trod_array Tryd.underlying86 hn
  rw [cells33] at hl
  obtain ⟨v0, v1, v2, e⟩ := Nu.len_three hl
  have hc : cs = #[v0, v1, v2] := by
    cases cs
    simp only [Value.cells] at e
    rw [e]
  subst hc
  have h0 := hf 0 (by omega)
  have h1 := hf 1 (by omega)
  have h2 := hf 2 (by omega)
  simp only [cells3, Value.cells] at h0 h1 h2
  obtain ⟨y0, e0⟩ : ∃ y, ys[0]? = some y := ⟨ys[0]'(by omega), List.getElem?_eq_getElem (by omega)⟩
  obtain ⟨y1, e1⟩ : ∃ y, ys[1]? = some y := ⟨ys[1]'(by omega), List.getElem?_eq_getElem (by omega)⟩
  obtain ⟨y2, e2⟩ : ∃ y, ys[2]? = some y := ⟨ys[2]'(by omega), List.getElem?_eq_getElem (by omega)⟩
  rw [e0] at h0
  rw [e1] at h1
  rw [e2] at h2
  obtain ⟨a, ea, _⟩ := DataW.trod_int Tryd.underlying3 h0
  obtain ⟨b, eb, _⟩ := DataW.trod_int Tryd.underlying3 h1
  obtain ⟨c, ec, _⟩ := DataW.trod_int Tryd.underlying3 h2
  simp at ea eb ec
  subst ea eb ec
  exact ⟨a, b, c, rfl⟩
namespace JoinBetweenLaw
set_option maxRecDepth 100000 in
theorem contract (H : Type) (enc : TypeId × Value → H) (W : World) (base : Nat) (args : Array Value) (ds gs : List (DataW H)) (before : List MemPlace)
    (hval : ∀ (j : Nat) t v, Tryd.f8.params[j]? = some t → args[j]? = some v → Value.okWide Tryd.prog W .any base t v)
    (hW : DataW.Whole enc Tryd.prog Tryd.f8.params.toList Rows.joinBetweenSpec.vars false W args.toList ds gs before) (hL : laidMetH Tryd.prog Rows.joinBetweenRow.laid W) :
    Calls Tryd.prog 8 args W fun e W' => ∃ v, e = .returned v ∧ Rows.joinBetweenSpec.post enc Tryd.prog Tryd.f8 false true false false W args v W' := by
  have hW' := hW
  obtain ⟨p, q, hA0, hV, rfl, hfz, hnd⟩ := hW
  have hA : DataW.TrodAll enc Tryd.prog W 0 (fun _ => true) true Tryd.f8.params.toList args.toList ds p := hA0
  rw [Tryd.params8] at hA hval
  obtain ⟨v0, vs0, d0, ds0, p0, q0, hargs, rfl, rfl, h0, r0⟩ := trodAll_cons hA
  obtain ⟨v1, vs1, d1, ds1, p1, q1, rfl, rfl, rfl, h1, r1⟩ := trodAll_cons r0
  obtain ⟨v2, vs2, d2, ds2, p2, q2, rfl, rfl, rfl, h2, r2⟩ := trodAll_cons r1
  obtain ⟨rfl, rfl, rfl⟩ := trodAll_nil r2
  obtain rfl : args = #[v0, v1, v2] := by cases args; simp_all
  obtain ⟨rfl, rfl⟩ := trodVars_none hV
  have k0 := h0
  have k1 := h1
  have k2 := h2
  obtain ⟨Aac, Aag, Aar, na, cac, ma, cag, ra, car, rfl, a1, a2, a3, a4⟩ := Nu.open_set (hval 0 42 v0 rfl rfl) h0
  obtain ⟨Abc, Abg, Abr, nb, cbc, mb, cbg, rb, cbr, rfl, b1, b2, b3, b4⟩ := Nu.open_set (hval 1 42 v1 rfl rfl) h1
  obtain ⟨n0, n1, n2, rfl⟩ := open_int3 (hval 2 86 v2 rfl rfl) h2
  clear hA0
  simp only [List.append_nil] at hW'
  have hlt : ∀ x ∈ p0 ++ (p1 ++ p2), x.block < W.heap.size := fun x hx => hW'.lt x hx
  refine (Nu.between_any W Aac Aag Aar Abc Abg Abr na ra ma nb rb mb cac cag car cbc cbg cbr n0 n1 n2 a1 a2 a3 a4 b1 b2 b3 b4 (Nu.btab hL)).mono fun e W' ⟨he, hg⟩ => ?_
  subst he
  exact ⟨_, rfl, Nu.post_of_below (pa := p0 ++ (p1 ++ p2)) (pv := []) hW' (fun _ _ _ => trodAll_cons_mk (shut_bool Tryd.underlying4 _) trodAll_mk0)
    (fun sp hs => by
      have t2 := trodAll_cons_mk (Trod_stays Nu.laidOut (by kernel_rfl) (of_decide_eq_true (by kernel_rfl)) k2 (fun x hx => hg.same (hlt x (by simp [hx]))) (fun x hx => hs x (by simp [hx]))) trodAll_mk0
      have t1 := trodAll_cons_mk (Trod_stays Nu.laidOut (by kernel_rfl) (of_decide_eq_true (by kernel_rfl)) k1 (fun x hx => hg.same (hlt x (by simp [hx]))) (fun x hx => hs x (by simp [hx]))) t2
      have t0 := trodAll_cons_mk (Trod_stays Nu.laidOut (by kernel_rfl) (of_decide_eq_true (by kernel_rfl)) k0 (fun x hx => hg.same (hlt x (by simp [hx]))) (fun x hx => hs x (by simp [hx]))) t1
      simp only [List.append_nil] at t0
      exact t0)
    (fun _ _ => rfl) (by simp) hg (ok_one (by kernel_rfl) rfl (okWide_bool_mk Tryd.underlying4 _))⟩

theorem reads (os : Os) {H : Type} (enc : TypeId × Value → H) : ∃ places, DataW.whole enc Tryd.prog ((Nu.laidWorld os).forCall (fun _ _ => 0) ⟨#[], #[.agg #[.slice none 0 0, .slice none 0 0, .slice none 0 0], .agg #[.slice none 0 0, .slice none 0 0, .slice none 0 0], .agg #[.int .i64 0, .int .i64 0, .int .i64 0]], []⟩).memory Tryd.f8.params.toList Rows.joinBetweenSpec.vars false #[Value.agg #[.slice none 0 0, .slice none 0 0, .slice none 0 0], Value.agg #[.slice none 0 0, .slice none 0 0, .slice none 0 0], Value.agg #[.int .i64 0, .int .i64 0, .int .i64 0]].toList 8 = some ([.agg [.nil, .nil, .nil], .agg [.nil, .nil, .nil], .agg [.lit (.int .i64 0), .lit (.int .i64 0), .lit (.int .i64 0)]], [], places) :=
  ⟨[], by kernel_rfl⟩
set_option maxRecDepth 100000 in
theorem lifted (os : Os) (started : os.Started) (H : Type) (enc : TypeId × Value → H) (F : Stop.Interp) :
    ReturnsInHanded {} Tryd.checked os 8 .any ((OpenSpec.ofChange Rows.joinBetweenSpec).preRow enc Tryd.prog Tryd.f8 Rows.joinBetweenRow.domain false Rows.joinBetweenRow.laid) (((OpenSpec.ofChange Rows.joinBetweenSpec).at F).post enc Tryd.prog Tryd.f8 false true false false) := by
  obtain ⟨places, hx⟩ := reads os enc
  refine returnsInHanded_of_row (C := Tryd.checked) (s := OpenSpec.ofChange Rows.joinBetweenSpec) Nu.own started (by kernel_rfl) Tryd.func8
    (witness_row_atRef (enc := enc) (C := Tryd.checked) false (Nu.laidWorld os) #[.agg #[.slice none 0 0, .slice none 0 0, .slice none 0 0], .agg #[.slice none 0 0, .slice none 0 0, .slice none 0 0], .agg #[.int .i64 0, .int .i64 0, .int .i64 0]] rfl (by kernel_rfl) (by kernel_rfl) (by kernel_rfl)
      (OpenSpec.preRow_of_cond 8 hx (by kernel_rfl) (fun k hk => by cases hk) (by kernel_rfl) (Nu.laid_met os _))) ?_
  intro W base args ds gs before hval hW _ _ _ hL _ _
  exact contract H enc W base args ds gs before hval hW hL
theorem said : Rows.JoinBetweenSaid :=
  OpenClaim.holds_of_cond 8 Tryd.f8 rfl rfl rfl rfl rfl rfl rfl ⟨rfl, rfl, rfl, rfl, rfl⟩ rfl rfl rfl rfl rfl (by kernel_rfl) Tryd.func8 (by kernel_rfl)
    (of_decide_eq_true (by kernel_rfl)) (by unfold Func.isWrapper; first | (rw [if_pos (by decide +kernel)]; kernel_rfl) | (rw [if_neg (by decide +kernel)]; exact ⟨rfl, rfl⟩))
    (fun os started H enc _ F => by rw [OpenClaim.pre_eq_preRow]; exact lifted os started H enc F)
theorem plain (f : FuncId) (fn : Func) (hf : Tryd.pinned.checked.prog.funcNamed "girdle/girdlelaw18.JoinBetween" = some f) (hfn : Tryd.pinned.checked.prog.funcs[f]? = some fn) :
    false = Tryd.pinned.checked.prog.looks [] ∧ ∀ (j : Nat) t, fn.params[j]? = some t → Tryd.pinned.checked.prog.wantsStandIn t = false := by
  obtain rfl : f = 8 := Option.some.inj ((show Tryd.prog.funcNamed "girdle/girdlelaw18.JoinBetween" = some 8 by kernel_rfl).symm.trans hf) |>.symm
  obtain rfl : fn = Tryd.f8 := (Option.some.inj (Tryd.func8.symm.trans hfn)).symm
  refine ⟨by kernel_rfl, fun j t ht => ?_⟩
  rw [Tryd.params8] at ht
  have hm : t = 42 ∨ t = 86 := by
    have := Array.mem_of_getElem? ht
    simp at this
    omega
  rcases hm with rfl | rfl
  · exact (show Tryd.prog.wantsStandIn 42 = false by kernel_rfl)
  · exact (show Tryd.prog.wantsStandIn 86 = false by kernel_rfl)
end JoinBetweenLaw
theorem JoinBetween_holds : Rows.JoinBetweenCardSaid :=
  Claim7.holds_tied_plain_at .later [] _ _ _ _ JoinBetweenLaw.said (fun _ h => by cases h) (by kernel_rfl) (fun _ h => by cases h) joinBetween_row_tie rfl ⟨rfl, rfl⟩ (by kernel_rfl) rfl JoinBetweenLaw.plain (by kernel_rfl)
end Go.Proofs.YtgioppkggpfnoaaDoor
