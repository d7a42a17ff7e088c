/- The stable sort of at most 20 least distances. -/
import Derived.Test.YtajkmlejklgbbaaCmp
import Derived.BigRegion
namespace Go.Proofs.Ytajkmlejklgbbaa
open Go.RowKit

theorem lst_ty : ElemTy Try.prog 30 73 3 24 :=
  ElemTy.of (z := .agg #[.int .i64 0, .int .i64 0, .int .i64 0]) Try.underlying30 (by kernel_rfl) rfl (by omega)

def bub : Nat → List Lst → List Lst
  | 0, L => L
  | j + 1, L => match L[j + 1]?, L[j]? with
    | some x, some y => if cmpL x y < 0 then bub j ((L.set (j + 1) y).set j x) else L
    | _, _ => L
def srtN : Nat → Nat → List Lst → List Lst
  | 0, _, L => L
  | m + 1, i, L => srtN m (i + 1) (bub i L)
def srt (L : List Lst) : List Lst := srtN (L.length - 1) 1 L

theorem bub_yes {j : Nat} {L : List Lst} {x y : Lst} (hx : L[j + 1]? = some x) (hy : L[j]? = some y) (h : cmpL x y < 0) : bub (j + 1) L = bub j ((L.set (j + 1) y).set j x) := by
  rw [bub, hx, hy]; simp [h]
theorem bub_no {j : Nat} {L : List Lst} {x y : Lst} (hx : L[j + 1]? = some x) (hy : L[j]? = some y) (h : ¬ cmpL x y < 0) : bub (j + 1) L = L := by
  rw [bub, hx, hy]; simp [h]
theorem bub_length (j : Nat) (L : List Lst) : (bub j L).length = L.length := by
  induction j generalizing L with
  | zero => rfl
  | succ j ih =>
    rw [bub]
    split
    · split
      · rw [ih]; simp
      · rfl
    · rfl

theorem bub_step {j : Nat} {L : List Lst} {x y : Lst} (h0 : 0 < j) (hx : L[j]? = some x) (hy : L[j - 1]? = some y) (h : cmpL x y < 0) : bub j L = bub (j - 1) ((L.set j y).set (j - 1) x) := by
  obtain ⟨i, rfl⟩ : ∃ i, j = i + 1 := ⟨j - 1, by omega⟩
  exact bub_yes hx hy h
theorem bub_stop {j : Nat} {L : List Lst} {x y : Lst} (h0 : 0 < j) (hx : L[j]? = some x) (hy : L[j - 1]? = some y) (h : ¬ cmpL x y < 0) : bub j L = L := by
  obtain ⟨i, rfl⟩ : ∃ i, j = i + 1 := ⟨j - 1, by omega⟩
  exact bub_no hx hy h
theorem srt_step {n k : Nat} {L L' : List Lst} (h : k < n) (hb : L' = bub k L) : srtN (n - (k + 1)) (k + 1) L' = srtN (n - k) k L := by
  rw [show n - k = (n - (k + 1)) + 1 by omega, srtN, hb]

def SortPost (w : World) (v : Value) (B n : Nat) (L : List Lst) (e : Ending) (w' : World) : Prop :=
  e = .returned (.tuple #[]) ∧ w'.ownsRow B 73 3 v n (lsts L) ∧ w.grownBy w' v.ownBlock

set_option maxHeartbeats 1000000 in
theorem insertion_any (A : Option Addr) (n c B : Nat) (l : List Lst) (w : World) (hn : n = l.length) (hn2 : n ≤ 1000000) (_hB : B ≤ w.heap.size)
    (h : w.ownsRow B 73 3 (.slice A n c) n (lsts l)) :
    Calls Try.prog 58 #[.slice A n c, .int .i64 0, .int .i64 n, Value.func (Fn.func 35) #[] #[]] w (SortPost w (.slice A n c) B n (srt l)) := by
  have HN := hide hn
  clear hn
  go_enter Try.func58, Try.ntmps58
  go_wp2
  go_loopw [8] (fun i wr => ∃ (k : Nat) (L : List Lst), 1 ≤ k ∧ i = .int .i64 k ∧ L.length = n ∧ srtN (n - k) k L = srtN (n - 1) 1 l ∧ wr.ownsRow B 73 3 (.slice A n c) n (lsts L) ∧ w.grownBy wr (Value.slice A n c).ownBlock)
    (fun i _ => n - (intOf i).toNat)
  case atStart => exact ⟨1, l, by omega, rfl, HN.out.symm, rfl, h, ⟨rfl, rfl, rfl, Nat.le_refl _, fun _ _ _ => rfl⟩⟩
  case round =>
    obtain ⟨k, L, hk, rfl, hL, hsr, hown, hg⟩ := hrel
    have HL := hide hL
    have HS := hide hsr
    clear hL hsr h
    by_cases hlt : k < n
    · obtain ⟨g, cap, hv, hBg, hgw⟩ := hown.form (by omega)
      injection hv with hA hc1 hc
      subst hA hc
      obtain ⟨wo, rfl⟩ : ∃ wo : World, wo = wr := ⟨_, rfl⟩
      go_wp2
      go_loopw [9] (fun i wr => ∃ (j : Nat) (L' : List Lst), j ≤ k ∧ i = .int .i64 j ∧ L'.length = n ∧ bub j L' = bub k L ∧ wr.ownsRow B 73 3 (.slice (some ⟨g, 0, none⟩) n c) n (lsts L') ∧ w.grownBy wr (some g) ∧ g < wr.heap.size)
        (fun i _ => (intOf i).toNat)
      case atStart => exact ⟨k, L, Nat.le_refl _, rfl, HL.out, rfl, hown, hg, hgw⟩
      case round =>
        obtain ⟨j, L', hj, rfl, hL', hbub, hown', hg', hgw'⟩ := hrel
        have HL' := hide hL'
        have HB' := hide hbub
        clear hL' hbub hown hg hgw
        by_cases hj0 : 0 < j
        · obtain ⟨x, hx⟩ : ∃ x, L'[j]? = some x := ⟨_, List.getElem?_eq_getElem (by have := HL'.out; omega)⟩
          obtain ⟨y, hy⟩ : ∃ y, L'[j - 1]? = some y := ⟨_, List.getElem?_eq_getElem (by have := HL'.out; omega)⟩
          have gx := fun i hi => flat_get Lst.cells 3 (fun _ => rfl) L' j i x hx hi
          have gy := fun i hi => flat_get Lst.cells 3 (fun _ => rfl) L' (j - 1) i y hy hi
          have HX := hide hx
          have HY := hide hy
          have cx0 := (hown'.cellAt (j * 3) (by omega)).trans (gx 0 (by omega))
          have cx1 := (hown'.cellAt (j * 3 + 1) (by omega)).trans (gx 1 (by omega))
          have cx2 := (hown'.cellAt (j * 3 + 2) (by omega)).trans (gx 2 (by omega))
          have cy0 := (hown'.cellAt ((j - 1) * 3) (by omega)).trans (gy 0 (by omega))
          have cy1 := (hown'.cellAt ((j - 1) * 3 + 1) (by omega)).trans (gy 1 (by omega))
          have cy2 := (hown'.cellAt ((j - 1) * 3 + 2) (by omega)).trans (gy 2 (by omega))
          clear hx hy gx gy
          simp only [Lst.cells, List.getElem?_cons_zero, List.getElem?_cons_succ] at cx0 cx1 cx2 cy0 cy1 cy2
          have i0 : (0 : Int) ≤ (j : Int) := by omega
          have i1 : (j : Int) < (n : Int) := by omega
          have i2 : (0 : Int) ≤ (j : Int) - 1 := by omega
          have i3 : (j : Int) - 1 < (n : Int) := by omega
          have i4 : IntKind.i64.wrap ((j : Int) - 1) = (j : Int) - 1 := IntWalk.i64_in _ (by omega)
          have i6 : (1 : Int) ≤ (j : Int) := by omega
          have i7 : (j : Int) < (n : Int) + 1 := by omega
          have i5 : ((j : Int) - 1).toNat = j - 1 := by omega
          go_wp2_with fail
          go_region_held3 (fun w' => w'.cell? ⟨g, j * 3, none⟩ = some (Value.int IntKind.i64 x.f) ∧ w'.cell? ⟨g, j * 3 + 1, none⟩ = some (Value.int IntKind.i64 x.l) ∧ w'.cell? ⟨g, j * 3 + 2, none⟩ = some (Value.int IntKind.i64 x.d) ∧
              w'.cell? ⟨g, (j - 1) * 3, none⟩ = some (Value.int IntKind.i64 y.f) ∧ w'.cell? ⟨g, (j - 1) * 3 + 1, none⟩ = some (Value.int IntKind.i64 y.l) ∧ w'.cell? ⟨g, (j - 1) * 3 + 2, none⟩ = some (Value.int IntKind.i64 y.d))
            (first | go_keep | (go_split_ands; refine ⟨?_, ?_, ?_, ?_, ?_, ?_⟩ <;> (rw [hb1.cell (by simp; omega)]; assumption)))
            (first | (go_at_call 35; refine (cmpL_any x y _).mono ?_; rintro e w1 ⟨rfl, hb1⟩))
          replace hb1 : Below wr.heap.size wr w1 := below_undrew hb1
          have dx0 := (hb1.cell (p := ⟨g, j * 3, none⟩) hgw').trans cx0
          have dx1 := (hb1.cell (p := ⟨g, j * 3 + 1, none⟩) hgw').trans cx1
          have dx2 := (hb1.cell (p := ⟨g, j * 3 + 2, none⟩) hgw').trans cx2
          have dy0 := (hb1.cell (p := ⟨g, (j - 1) * 3, none⟩) hgw').trans cy0
          have dy1 := (hb1.cell (p := ⟨g, (j - 1) * 3 + 1, none⟩) hgw').trans cy1
          have dy2 := (hb1.cell (p := ⟨g, (j - 1) * 3 + 2, none⟩) hgw').trans cy2
          by_cases hneg : cmpL x y < 0
          · have hown1 := own_below hown' hb1 (Nat.le_refl _)
            have fr : ∀ i, w1.frozen? ⟨g, i, none⟩ = false := fun i => hown1.frozenAt i
            clear cx0 cx1 cx2 cy0 cy1 cy2
            go_wp2_with fail
            go_region
            go_wp2_with fail
            obtain ⟨o1, e1⟩ := own_set3 (fun _ => rfl) hown1 j (by rw [HL'.out]; omega) y _ _ _ rfl
            obtain ⟨o2, e2⟩ := own_set3 (fun _ => rfl) o1 (j - 1) (by rw [List.length_set, HL'.out]; omega) x _ _ _ rfl
            go_roundw
            case rel =>
              have e3 := grown_drew (grown_trans e1 e2)
              exact ⟨j - 1, (L'.set j y).set (j - 1) x, by omega, by go_num, by simpa using HL'.out, (bub_step hj0 HX.out HY.out hneg).symm.trans HB'.out, o2.drew, grown_trans (grown_of_below hg' hb1) e3, Nat.lt_of_lt_of_le (Nat.lt_of_lt_of_le hgw' hb1.size) e3.size⟩
            case measure => simp [intOf]; omega
          · have hneg' : decide (cmpL x y < 0) = false := by simpa using hneg
            go_wp2_with fail
            go_roundw
            case rel => exact ⟨k + 1, L', by omega, by go_num, HL'.out, by rw [← HS.out]; exact srt_step hlt ((bub_stop hj0 HX.out HY.out hneg).symm.trans HB'.out), own_below hown' hb1 (Nat.le_refl _), grown_of_below hg' hb1⟩
            case measure => simp [intOf]; omega
        · obtain rfl : j = 0 := by omega
          have i0 : decide ((0 : Int) < ((0 : Nat) : Int)) = false := by simp
          go_wp2_with fail
          go_quiet (fail)
          go_wp2_with fail
          go_roundw
          case rel => exact ⟨k + 1, L', by omega, by go_num, HL'.out, by rw [← HS.out]; exact srt_step hlt HB'.out, hown', grown_drewN hg' _⟩
          case measure => simp [intOf]; omega
    · have hs : L = srt l := by
        have := HS.out
        rw [show n - k = 0 by omega] at this
        rw [srt, ← HN.out, ← this]
        rfl
      have HS' := hide hs
      go_wp2
      go_end0
      exact ⟨rfl, by rw [← HS'.out]; exact hown, hg⟩

theorem SortPost.rfl_ {w : World} {v : Value} {B n : Nat} {L : List Lst} (h : w.ownsRow B 73 3 v n (lsts L)) : SortPost w v B n L (.returned (.tuple #[])) w :=
  ⟨rfl, h, ⟨rfl, rfl, rfl, Nat.le_refl _, fun _ _ _ => rfl⟩⟩

set_option maxHeartbeats 400000 in
theorem insertion_nothing (v : Value) (n m : Int) (w : World) (h : m ≤ n + 1) (h0 : 0 ≤ n) (h1 : n ≤ 1000000) :
    Calls Try.prog 58 #[v, .int .i64 n, .int .i64 m, Value.func (Fn.func 35) #[] #[]] w fun e w' => e = .returned (.tuple #[]) ∧ w = w' := by
  go_enter Try.func58, Try.ntmps58
  go_wp2
  go_rounds 1
  go_end0
  exact ⟨rfl, rfl⟩

set_option maxHeartbeats 1000000 in
theorem stable_any (A : Option Addr) (n c B : Nat) (l : List Lst) (w : World) (hn : n = l.length) (hn2 : n ≤ 20) (hB : B ≤ w.heap.size)
    (h : w.ownsRow B 73 3 (.slice A n c) n (lsts l)) :
    Calls Try.prog 49 #[.slice A n c, .int .i64 n, Value.func (Fn.func 35) #[] #[]] w (SortPost w (.slice A n c) B n (srt l)) := by
  have HN := hide hn
  clear hn
  by_cases h20 : n = 20
  · subst h20
    go_enter Try.func49, Try.ntmps49
    go_wp2_with fail
    refine wp_loop_rounds 2 ?_
    rw [rounds_succ]
    go_wp2_with fail
    refine (insertion_any A 20 c B l w HN.out (by omega) hB h).mono ?_
    rintro e w1 ⟨rfl, o1, g1⟩
    go_wp2_with fail
    rw [rounds_succ]
    go_wp2_with fail
    refine (insertion_nothing _ 20 20 _ (by omega) (by omega) (by omega)).mono ?_
    rintro e w2 ⟨rfl, rfl⟩
    go_wp2_with fail
    refine wp_loop_rounds 1 ?_
    rw [rounds_succ]
    go_wp2_with fail
    go_end0
    exact ⟨rfl, o1, g1⟩
  · go_enter Try.func49, Try.ntmps49
    go_wp2_with fail
    refine wp_loop_rounds 1 ?_
    rw [rounds_succ]
    go_wp2_with fail
    refine (insertion_any A n c B l w HN.out (by omega) hB h).mono ?_
    rintro e w1 ⟨rfl, o1, g1⟩
    go_wp2_with fail
    refine wp_loop_rounds 1 ?_
    rw [rounds_succ]
    go_wp2_with fail
    go_end0
    exact ⟨rfl, o1, g1⟩

set_option maxHeartbeats 400000 in
theorem SortStable_any (A : Option Addr) (n c B : Nat) (l : List Lst) (w : World) (hn : n = l.length) (hn2 : n ≤ 20) (hB : B ≤ w.heap.size)
    (h : w.ownsRow B 73 3 (.slice A n c) n (lsts l)) :
    Calls Try.prog 34 #[.slice A n c, Value.func (Fn.func 35) #[] #[]] w (SortPost w (.slice A n c) B n (srt l)) := by
  have HN := hide hn
  clear hn
  go_enter Try.func34, Try.ntmps34
  go_wp2_with fail
  refine (stable_any A n c B l w HN.out (by omega) hB h).mono ?_
  rintro e w1 ⟨rfl, o1, g1⟩
  go_wp2_with fail
  go_end0
  exact ⟨rfl, o1, g1⟩

end Go.Proofs.Ytajkmlejklgbbaa
