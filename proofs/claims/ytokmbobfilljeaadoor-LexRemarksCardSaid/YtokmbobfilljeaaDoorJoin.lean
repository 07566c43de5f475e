/- The walk of lex.Join: the text that the plain law's joinTo says. -/
import Derived.Test.YtokmbobfilljeaaDoorScan
set_option linter.unusedVariables false
namespace Go.Proofs.YtokmbobfilljeaaDoor.Lx
open Go.RowKit Go.Proofs

def kindAt (ts : List Tok) (n : Nat) : Nat := (ts[n]?.map (·.kind)).getD 9
def textAt (ts : List Tok) (n : Nat) : List UInt8 := (ts[n]?.map (·.text)).getD []
def posAt (ts : List Tok) (n : Nat) : Nat := (ts[n]?.map (·.pos)).getD 0
def sepB (ts : List Tok) (n : Nat) : Bool := decide (0 < n ∧ kindAt ts n ≠ 4 ∧ kindAt ts n ≠ 3 ∧ kindAt ts (n - 1) ≠ 3)
def joinTo (ts : List Tok) : Nat → List UInt8
  | 0 => []
  | n + 1 => joinTo ts n ++ ((if sepB ts n then [32] else []) ++ textAt ts n)

/-- A row of tokens that can be read. -/
def TokRow (w : World) (A : Option Addr) (ts : List Tok) : Prop :=
  0 < ts.length → ∃ g, A = some ⟨g, 0, none⟩ ∧ g < w.heap.size ∧ ∀ j u, (tokCells ts)[j]? = some u → w.cell? ⟨g, j, none⟩ = some u

theorem tokCells_get (ts : List Tok) : ∀ n : Nat, n < ts.length → (tokCells ts)[n * 3]? = some (.int .i64 (kindAt ts n)) ∧ (tokCells ts)[n * 3 + 1]? = some (.int .i64 (posAt ts n)) ∧ (tokCells ts)[n * 3 + 2]? = some (.string ⟨(textAt ts n).toArray⟩) := by
  induction ts with
  | nil => intro n h; simp at h
  | cons t ts ih =>
    intro n h
    cases n with
    | zero => simp [tokCells, kindAt, posAt, textAt]
    | succ n =>
      have := ih n (by simpa using h)
      have e0 : (n + 1) * 3 = n * 3 + 1 + 1 + 1 := by omega
      simp only [tokCells, e0, kindAt, posAt, textAt, List.getElem?_cons_succ] at this ⊢
      exact this
theorem TokRow.at_ {w wr : World} {A : Option Addr} {ts : List Tok} (h : TokRow w A ts) (hB : Below w.heap.size w wr) (h0 : 0 < ts.length) : ∃ g, A = some ⟨g, 0, none⟩ ∧ ∀ n, n < ts.length →
    wr.cell? ⟨g, n * 3, none⟩ = some (.int .i64 (kindAt ts n)) ∧ wr.cell? ⟨g, n * 3 + 1, none⟩ = some (.int .i64 (posAt ts n)) ∧ wr.cell? ⟨g, n * 3 + 2, none⟩ = some (.string ⟨(textAt ts n).toArray⟩) := by
  obtain ⟨g, rfl, hg, hc⟩ := h h0
  refine ⟨g, rfl, fun n hn => ?_⟩
  obtain ⟨a, b, c⟩ := tokCells_get ts n hn
  exact ⟨(hB.cell (p := ⟨g, n * 3, none⟩) hg).trans (hc _ _ a), (hB.cell (p := ⟨g, n * 3 + 1, none⟩) hg).trans (hc _ _ b), (hB.cell (p := ⟨g, n * 3 + 2, none⟩) hg).trans (hc _ _ c)⟩
theorem TokRow.below {w w' : World} {A : Option Addr} {ts : List Tok} (h : TokRow w A ts) (hB : Below w.heap.size w w') : TokRow w' A ts := fun h0 => by
  obtain ⟨g, rfl, hg, hc⟩ := h h0
  exact ⟨g, rfl, Nat.lt_of_lt_of_le hg hB.size, fun j u hj => (hB.cell (p := ⟨g, j, none⟩) hg).trans (hc j u hj)⟩
theorem TokRow.of_own {w : World} {base c : Nat} {A : Option Addr} {ts : List Tok} {n : Nat} (h : w.ownsRow base 30 3 (.slice A n c) ts.length (tokCells ts)) : TokRow w A ts ∧ n = ts.length := by
  rcases h.2 with ⟨hv, hl⟩ | ⟨g, cap, cur, hv, hb, hh, h1, h2, h3, h4⟩
  · injection hv with _ hn; exact ⟨fun h0 => by omega, by omega⟩
  · injection hv with hA hn
    subst hA
    refine ⟨fun _ => ⟨g, rfl, (Array.getElem?_eq_some_iff.1 hh).1, fun j u hj => ?_⟩, hn⟩
    rw [Lib.cell_of_heap hh, ← Array.getElem?_toList]
    have hj' : j < ts.length * 3 := by rw [← tokCells_length]; exact (List.getElem?_eq_some_iff.1 hj).1
    rw [← h4, List.getElem?_take, if_pos hj'] at hj
    exact hj

theorem joinTo_len (ts : List Tok) (n N : Nat) (h : ∀ i, (textAt ts i).length ≤ N) : (joinTo ts n).length ≤ n * (N + 1) := by
  induction n with
  | zero => simp [joinTo]
  | succ n ih =>
    have := h n
    simp only [joinTo, List.length_append]
    have : (if sepB ts n then ([32] : List UInt8) else []).length ≤ 1 := by split <;> simp
    rw [Nat.succ_mul]; omega
theorem byteCells_append (a b : List UInt8) : Lib.byteCells (a ++ b) = Lib.byteCells a ++ Lib.byteCells b := by simp [Lib.byteCells]
theorem isBuilder_alloc {T e : TypeId} {B b : Nat} {bs : List Value} {w : World} (h : Lib.IsBuilder T e B b bs w) (o : Obj) : Lib.IsBuilder T e B b bs (w.alloc o) := by
  have key : ∀ p, Lib.BuilderAt T e B b p bs w → Lib.BuilderAt T e B b p bs (w.alloc o) := by
    intro p hp
    have hlt := hp.lt
    obtain ⟨hB, v, hbk, hown, hne⟩ := hp
    exact ⟨hB, v, by rw [Lib.alloc_old _ _ _ hlt]; exact hbk, hown.alloc _, hne⟩
  rcases h with h | h
  · exact .inl (key _ h)
  · exact .inr (key _ h)
theorem kept_cells {w w' : World} {b k : Nat} {x y z : Value} (h : Lib.OthersKept 5 (some b) w w') (hk : w.heap[k]? = some (.cells #[x, y, z] 30 (0, 0))) (hb : k ≠ b) :
    w'.cell? ⟨k, 0, none⟩ = some x ∧ w'.cell? ⟨k, 1, none⟩ = some y ∧ w'.cell? ⟨k, 2, none⟩ = some z := by
  have h1 := h k _ hk (by simpa using hb) (by intro c fz e; injection e with _ e2; cases e2)
  exact ⟨by rw [Lib.cell_of_heap h1]; rfl, by rw [Lib.cell_of_heap h1]; rfl, by rw [Lib.cell_of_heap h1]; rfl⟩

theorem alloc_top (W : World) (o : Obj) : (W.alloc o).heap[W.heap.size]? = some o := by show (W.heap.push _)[W.heap.size]? = _; simp
set_option maxHeartbeats 8000000 in
set_option maxRecDepth 100000 in
theorem join_any (A : Option Addr) (c N : Nat) (ts : List Tok) (w : World) (hrow : TokRow w A ts) (hN : ts.length * (N + 1) ≤ 100000000) (hts : ∀ i, (textAt ts i).length ≤ N) :
    Calls Tryd.prog 11 #[.slice A ts.length c] w fun e w' => e = .returned (.string ⟨(joinTo ts ts.length).toArray⟩) ∧ Below w.heap.size w w' := by
  have htl : ts.length ≤ 100000000 := Nat.le_trans (Nat.le_mul_of_pos_right _ (Nat.succ_pos N)) hN
  have Hrow := Lib.hid hrow
  have Hlen := Lib.hid (fun n (h : n ≤ ts.length) => Nat.le_trans (joinTo_len ts n N hts) (Nat.le_trans (Nat.mul_le_mul_right _ h) hN))
  clear hrow hN hts
  go_enter Tryd.func11, Tryd.ntmps11
  go_wp2
  go_loopw [8] (fun i wr => ∃ n : Nat, i = .int .i64 n ∧ n ≤ ts.length ∧ Lib.IsBuilder 48 5 w.heap.size w.heap.size (Lib.byteCells (joinTo ts n)) wr ∧ Below w.heap.size w wr) (fun i _ => ts.length - (intOf i).toNat)
  case atStart => exact ⟨0, rfl, Nat.zero_le _, Lib.fresh_isBuilder 48 5 w, (Below.refl _ _).alloc (Nat.le_refl _) _⟩
  case round =>
    obtain ⟨n, rfl, hn, hbu, hB⟩ := hrel
    have hsz := hB.size
    by_cases hlt : n < ts.length
    · obtain ⟨g, rfl, hcells⟩ := Hrow.out.at_ hB (by omega)
      obtain ⟨k0, k1, k2⟩ := hcells n hlt
      have hpr : 0 < n → wr.cell? ⟨g, (n - 1) * 3, none⟩ = some (.int .i64 (kindAt ts (n - 1))) := fun h => (hcells (n - 1) (by omega)).1
      clear hcells
      obtain ⟨K, hK⟩ : ∃ K, kindAt ts n = K := ⟨_, rfl⟩
      obtain ⟨X, hX⟩ : ∃ X : ByteArray, (⟨(textAt ts n).toArray⟩ : ByteArray) = X := ⟨_, rfl⟩
      obtain ⟨Q, hQ⟩ : ∃ Q, posAt ts n = Q := ⟨_, rfl⟩
      obtain ⟨L, hL⟩ : ∃ L, kindAt ts (n - 1) = L := ⟨_, rfl⟩
      rw [hK] at k0
      rw [hX] at k2
      rw [hQ] at k1
      rw [hL] at hpr
      have hXt : X.data.toList = textAt ts n := by rw [← hX]
      have HX := Lib.hid hXt
      clear hX hXt hQ
      have Hbu := Lib.hid hbu
      have hbs : wr.heap.size ≠ w.heap.size := by have := (by rcases hbu with h | h <;> exact h.lt : w.heap.size < wr.heap.size); omega
      have hbsz : w.heap.size < wr.heap.size := by omega
      have hlen1 := Hlen.out (n + 1) (by omega)
      have hblk := alloc_top wr (.cells #[.int .i64 K, .int .i64 Q, .string X] 30)
      have Hblk := Lib.hid hblk
      clear hbu hblk
      have hXl : X.size ≤ 100000000 := by
        have h1 : (joinTo ts (n + 1)).length = (joinTo ts n).length + ((if sepB ts n then ([32] : List UInt8) else []).length + (textAt ts n).length) := by simp [joinTo]
        have h2 := Lib.size_eq X
        rw [HX.out] at h2
        omega
      by_cases h0 : n = 0
      · have h0' : decide (0 < n) = false := by simp; omega
        have Hs : Hid (sepB ts n = false) := Lib.hid (by simp [sepB, hK, hL]; omega)
        have Hj : Hid (Lib.byteCells (joinTo ts (n + 1)) = Lib.byteCells (joinTo ts n) ++ Lib.strCells X) := Lib.hid (by simp [joinTo, Hs.out, Lib.byteCells, Lib.strCells, HX.out])
        have hcap : (Lib.byteCells (joinTo ts n)).length + 1 + X.size ≤ 100000001 := by
          have h1 := congrArg List.length Hj.out
          simp [Lib.byteCells_length, Lib.strCells_length] at h1
          rw [Lib.byteCells_length]; omega
        have hKn : 0 ≤ (K : Int) := by omega
        have Hn0 := Lib.hid h0
        clear h0
        clear hK hL hlen1
        go_wp2_with fail
        refine (writeString w.heap.size w.heap.size _ X _ (isBuilder_alloc Hbu.out _) (by omega) (by simp; omega)).mono ?_
        rintro e w2 ⟨rfl, hb2, hB2, hk2⟩
        go_wp2
        go_roundw
        case rel => exact ⟨n + 1, by go_num, by omega, .inr (by rw [Hj.out]; exact hb2), (hB.alloc hB.size _).trans hB2⟩
        case measure => simp [intOf]; omega
      · have h0' : 0 < n := by omega
        by_cases h4 : K = 4
        · have Hs : Hid (sepB ts n = false) := Lib.hid (by simp [sepB, hK, hL]; omega)
          have Hj : Hid (Lib.byteCells (joinTo ts (n + 1)) = Lib.byteCells (joinTo ts n) ++ Lib.strCells X) := Lib.hid (by simp [joinTo, Hs.out, Lib.byteCells, Lib.strCells, HX.out])
          have hcap : (Lib.byteCells (joinTo ts n)).length + 1 + X.size ≤ 100000001 := by
            have h1 := congrArg List.length Hj.out
            simp [Lib.byteCells_length, Lib.strCells_length] at h1
            rw [Lib.byteCells_length]; omega
          have hKn : 0 ≤ (K : Int) := by omega
          have q4 : ((K : Int) != 4) = false := by simp; omega
          clear h4
          clear hK hL hlen1
          go_wp2_with fail
          refine (writeString w.heap.size w.heap.size _ X _ (isBuilder_alloc Hbu.out _) (by omega) (by simp; omega)).mono ?_
          rintro e w2 ⟨rfl, hb2, hB2, hk2⟩
          go_wp2
          go_roundw
          case rel => exact ⟨n + 1, by go_num, by omega, .inr (by rw [Hj.out]; exact hb2), (hB.alloc hB.size _).trans hB2⟩
          case measure => simp [intOf]; omega
        · have q4 : ((K : Int) != 4) = true := by simp; omega
          by_cases h3 : K = 3
          · have Hs : Hid (sepB ts n = false) := Lib.hid (by simp [sepB, hK, hL]; omega)
            have Hj : Hid (Lib.byteCells (joinTo ts (n + 1)) = Lib.byteCells (joinTo ts n) ++ Lib.strCells X) := Lib.hid (by simp [joinTo, Hs.out, Lib.byteCells, Lib.strCells, HX.out])
            have hcap : (Lib.byteCells (joinTo ts n)).length + 1 + X.size ≤ 100000001 := by
              have h1 := congrArg List.length Hj.out
              simp [Lib.byteCells_length, Lib.strCells_length] at h1
              rw [Lib.byteCells_length]; omega
            have hKn : 0 ≤ (K : Int) := by omega
            have q3 : ((K : Int) != 3) = false := by simp; omega
            clear h3 h4
            clear hK hL hlen1
            go_wp2_with fail
            refine (writeString w.heap.size w.heap.size _ X _ (isBuilder_alloc Hbu.out _) (by omega) (by simp; omega)).mono ?_
            rintro e w2 ⟨rfl, hb2, hB2, hk2⟩
            go_wp2
            go_roundw
            case rel => exact ⟨n + 1, by go_num, by omega, .inr (by rw [Hj.out]; exact hb2), (hB.alloc hB.size _).trans hB2⟩
            case measure => simp [intOf]; omega
          · have q3 : ((K : Int) != 3) = true := by simp; omega
            by_cases hl3 : L = 3
            · have Hs : Hid (sepB ts n = false) := Lib.hid (by simp [sepB, hK, hL]; omega)
              have Hj : Hid (Lib.byteCells (joinTo ts (n + 1)) = Lib.byteCells (joinTo ts n) ++ Lib.strCells X) := Lib.hid (by simp [joinTo, Hs.out, Lib.byteCells, Lib.strCells, HX.out])
              have hcap : (Lib.byteCells (joinTo ts n)).length + 1 + X.size ≤ 100000001 := by
                have h1 := congrArg List.length Hj.out
                simp [Lib.byteCells_length, Lib.strCells_length] at h1
                rw [Lib.byteCells_length]; omega
              have hKn : 0 ≤ (K : Int) := by omega
              have ql : ((L : Int) != 3) = false := by simp; omega
              have hpr' := hpr h0'
              have hpr2 : (wr.alloc (.cells #[.int .i64 K, .int .i64 Q, .string X] 30)).cell? ⟨g, (n - 1) * 3, none⟩ = some (.int .i64 L) := (((Below.refl wr.heap.size wr).alloc (Nat.le_refl _) _).cell (p := ⟨g, (n - 1) * 3, none⟩) (World.block_lt_of_cell? _ _ hpr')).trans hpr'
              clear h3 h4 hl3
              clear hK hL hlen1
              go_wp2_with fail
              refine (writeString w.heap.size w.heap.size _ X _ (isBuilder_alloc Hbu.out _) (by omega) (by simp; omega)).mono ?_
              rintro e w2 ⟨rfl, hb2, hB2, hk2⟩
              go_wp2
              go_roundw
              case rel => exact ⟨n + 1, by go_num, by omega, .inr (by rw [Hj.out]; exact hb2), (hB.alloc hB.size _).trans hB2⟩
              case measure => simp [intOf]; omega
            · have ql : ((L : Int) != 3) = true := by simp; omega
              have Hs : Hid (sepB ts n = true) := Lib.hid (by simp [sepB, hK, hL]; omega)
              have Hj : Hid (Lib.byteCells (joinTo ts (n + 1)) = Lib.byteCells (joinTo ts n) ++ [.int .u8 32] ++ Lib.strCells X) := Lib.hid (by simp [joinTo, Hs.out, Lib.byteCells, Lib.strCells, HX.out])
              have hcap : (Lib.byteCells (joinTo ts n)).length + 1 + X.size ≤ 100000001 := by
                have h1 := congrArg List.length Hj.out
                simp [Lib.byteCells_length, Lib.strCells_length] at h1
                rw [Lib.byteCells_length]; omega
              have hKn : 0 ≤ (K : Int) := by omega
              clear h3 h4 hl3
              clear hK hL hlen1
              have hpr' := hpr h0'
              have hpr2 : (wr.alloc (.cells #[.int .i64 K, .int .i64 Q, .string X] 30)).cell? ⟨g, (n - 1) * 3, none⟩ = some (.int .i64 L) := (((Below.refl wr.heap.size wr).alloc (Nat.le_refl _) _).cell (p := ⟨g, (n - 1) * 3, none⟩) (World.block_lt_of_cell? _ _ hpr')).trans hpr'
              go_wp2_with fail
              refine (writeByte w.heap.size w.heap.size _ 32 _ (isBuilder_alloc Hbu.out _) (by omega) (by simp; omega)).mono ?_
              rintro e w1 ⟨rfl, hb1, hB1, hk1⟩
              obtain ⟨d0, d1, d2⟩ := kept_cells hk1 Hblk.out hbs
              have hsz1 := hB1.size
              go_wp2_with fail
              refine (writeString w.heap.size w.heap.size _ X _ (.inr hb1) (by simp; omega) (by simp at hsz1; omega)).mono ?_
              rintro e w2 ⟨rfl, hb2, hB2, hk2⟩
              go_wp2
              go_roundw
              case rel => exact ⟨n + 1, by go_num, by omega, .inr (by rw [Hj.out]; simpa using hb2), ((hB.alloc hB.size _).trans hB1).trans hB2⟩
              case measure => simp [intOf]; omega
    · obtain rfl : n = ts.length := by omega
      go_wp2_with fail
      refine (Tryd.Builder_String_any w.heap.size w.heap.size _ _ hbu hB.size).mono ?_
      rintro e w2 ⟨rfl, hB2⟩
      go_wp2
      go_ret
      exact ⟨rfl, hB.trans hB2⟩
    end Go.Proofs.YtokmbobfilljeaaDoor.Lx
