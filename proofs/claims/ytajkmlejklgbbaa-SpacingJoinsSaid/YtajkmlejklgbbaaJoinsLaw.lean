/- The law SpacingJoins, walked. -/
import Derived.Test.YtajkmlejklgbbaaKnown
import Derived.Test.YtajkmlejklgbbaaSame
import Derived.Test.YtajkmlejklgbbaaStep
namespace Go.Proofs.Ytajkmlejklgbbaa
open Go.RowKit

theorem Rds.pref {w : World} {B : Nat} {A : Option Addr} {xs ys : List Value} (h : Rds w B A (xs ++ ys)) : Rds w B A xs := by
  rcases h with h | ⟨b, off, e, hb, hc⟩
  · exact .inl (List.append_eq_nil_iff.1 h).1
  · exact .inr ⟨b, off, e, hb, fun j u hu => hc j u (by rw [List.getElem?_append_left (List.getElem?_eq_some_iff.1 hu).1]; exact hu)⟩
theorem colss_ty : ElemTy Try.prog 45 29 1 24 :=
  ElemTy.of (z := .slice none 0 0) Try.underlying45 (by kernel_rfl) rfl (by omega)
theorem vals_one (M : List (Sl Col)) : ∀ u ∈ vals M, u.oneCell' = true := by
  intro u hu
  simp only [vals, List.mem_flatMap, List.mem_cons, List.not_mem_nil, or_false] at hu
  obtain ⟨a, _, rfl⟩ := hu
  rfl
def cuts (M : List (Sl Col)) (k : Nat) : List (Sl Col) := (M.take k).map (Sl.cut 20)
theorem cuts_succ (M : List (Sl Col)) (k : Nat) (s : Sl Col) (h : M[k]? = some s) : vals (cuts M (k + 1)) = vals (cuts M k) ++ [.slice s.A (min s.n 20) s.c] := by
  rw [cuts, List.take_add_one, h, Option.toList_some, List.map_append, vals, List.flatMap_append]
  rfl

def JE (p : Col) (M : List (Sl Col)) : Int := if measErr M ≠ 0 then measErr M else colErr [p]
def JoinAll (w : World) (p : Col) (M : List (Sl Col)) (e : Ending) (w' : World) : Prop :=
  ∃ (A7 : Option Addr) (n7 c7 : Nat), e = .returned (.tuple #[.slice A7 n7 c7, .int .i64 (JE p M)]) ∧ (JE p M ≠ 0 → n7 = 0) ∧ (JE p M = 0 → n7 = (joinL p M).length ∧ Rds w' w'.heap.size A7 (cols (joinL p M))) ∧ Below w.heap.size w w'
theorem joinL_len20 (p : Col) (M : List (Sl Col)) (h : ∀ s ∈ M, s.l.length ≤ 20) : (joinL p M).length ≤ 1 + 20 * M.length := by
  have : (M.flatMap fun s => s.l).length ≤ 20 * M.length := by
    induction M with
    | nil => simp
    | cons m M ih =>
      have h0 := h m (by simp)
      have := ih fun s hs => h s (by simp [hs])
      simp only [List.flatMap_cons, List.length_append, List.length_cons]
      omega
  simp only [joinL, List.length_cons, List.length_drop]
  omega
theorem join_all (A : Option Addr) (n c : Nat) (M : List (Sl Col)) (p : Col) (w : World) (hn : n = M.length) (hm : n ≤ 6) (h : Rds w w.heap.size A (vals M)) (hg : ∀ s ∈ M, Sl.Good Col.cells Col.wf w s)
    (h20 : ∀ s ∈ M, s.n ≤ 20) :
    Calls Try.prog 22 #[.slice A n c, .agg #[.int .i64 p.l, .int .i64 p.r, .int .i64 p.t]] w (JoinAll w p M) := by
  by_cases hgood : ∀ s ∈ M, SlOk s
  · have hz : measErr M = 0 := measErr_ok fun j s hj => hgood s (List.mem_of_getElem? hj)
    have hj : JE p M = colErr [p] := by rw [JE, if_neg (by rw [hz]; simp)]
    refine (join_good A n c M p w hn (by omega) h hg hgood).mono fun e w' hr => ?_
    rcases hr with ⟨hp, he, hb⟩ | ⟨_, hl, _⟩ | ⟨hp, hl, v, he, ho, hb⟩
    · exact ⟨none, 0, 0, by rw [hj]; exact he, fun _ => rfl, fun h => absurd h (by rw [hj]; exact hp), hb⟩
    · have := joinL_len20 p M fun s hs => by rw [← (hg s hs).len]; exact h20 s hs
      omega
    · obtain ⟨A7, c7, rfl, -, -, -⟩ := own_form ho
      exact ⟨A7, _, c7, by rw [hj, hp]; exact he, fun h => absurd (hj.trans hp) h, fun _ => ⟨rfl, Rds.own ho⟩, hb⟩
  · have hne : measErr M ≠ 0 := by
      intro hz
      apply hgood
      clear h hg h20 hgood hn
      induction M with
      | nil => intro s hs; cases hs
      | cons m M ih =>
        rw [measErr] at hz
        by_cases h0 : m.n = 0
        · rw [if_pos h0] at hz; cases hz
        · rw [if_neg h0] at hz
          by_cases h1 : colErr m.l = 0
          · rw [if_neg (by simpa using h1)] at hz
            intro s hs
            rcases List.mem_cons.1 hs with rfl | hs
            · exact ⟨h0, h1⟩
            · exact ih hz s hs
          · rw [if_pos h1] at hz; exact absurd hz h1
    have hj : JE p M = measErr M := by rw [JE, if_pos hne]
    refine (join_bad A n c M p w hn (by omega) h hg hgood).mono fun e w' hr => ?_
    exact ⟨none, 0, 0, by rw [hj]; exact hr.1, fun _ => rfl, fun h => absurd h (by rw [hj]; exact hne), hr.2⟩

/-- what the law's second loop has found so far -/
def WantOk (M : List (Sl Col)) (i : Nat) (wv : Int) : Prop := (wv = 0 ∧ ∀ (j : Nat) (s : Sl Col), j < i → M[j]? = some s → SlOk s) ∨ (wv ≠ 0 ∧ wv = measErr M)
/-- the list while a measure is copied -/
def joinT (p : Col) (M : List (Sl Col)) (i : Nat) (l : List Col) (t : Nat) : List Col := joinL p (M.take i) ++ (if i = 0 then (l.take t).drop 1 else l.take t)
theorem joinT_zero (p : Col) (M : List (Sl Col)) (i : Nat) (l : List Col) : joinT p M i l 0 = joinL p (M.take i) := by simp [joinT]
theorem joinT_skip (p : Col) (M : List (Sl Col)) (l : List Col) : joinT p M 0 l (0 + 1) = joinT p M 0 l 0 := by
  cases l <;> simp [joinT]
theorem joinT_succ (p : Col) (M : List (Sl Col)) (i : Nat) (l : List Col) (t : Nat) (x : Col) (hx : l[t]? = some x) (h : ¬ (i = 0 ∧ t = 0)) : joinT p M i l (t + 1) = joinT p M i l t ++ [x] := by
  unfold joinT
  rw [List.take_add_one, hx, Option.toList_some, List.append_assoc]
  congr 1
  split
  · rename_i h0
    have hlt := (List.getElem?_eq_some_iff.1 hx).1
    rw [List.drop_append_of_le_length (by rw [List.length_take]; omega)]
  · rfl

theorem rel_joinT {p x : Col} {M1 : List (Sl Col)} {q t : Nat} {sl : List Col} {w3 wr w5 : World} {o : Obj} {v v' : Value} (hs : joinT p M1 q sl (t + 1) = joinT p M1 q sl t ++ [x])
    (ho : wr.ownsRow w3.heap.size 41 3 v (joinT p M1 q sl t).length (cols (joinT p M1 q sl t))) (hb3 : Below w3.heap.size w3 wr)
    (o5 : w5.ownsRow w3.heap.size 41 3 v' ((joinT p M1 q sl t).length + 1) (cols (joinT p M1 q sl t) ++ cols [x])) (g5 : (wr.alloc o).grownBy w5 v.ownBlock) :
    w5.ownsRow w3.heap.size 41 3 v' (joinT p M1 q sl (t + 1)).length (cols (joinT p M1 q sl (t + 1))) ∧ Below w3.heap.size w3 w5 := by
  rw [hs, List.length_append, ← flat_cols_append]
  exact ⟨o5, (hb3.alloc hb3.size o).grown g5 (by have := hb3.size; simp; omega) fun k hk => (ho.lt k hk).1⟩

set_option maxRecDepth 100000 in
set_option maxHeartbeats 4000000 in
theorem joins_law (A : Option Addr) (n c : Nat) (M : List (Sl Col)) (p : Col) (w : World) (hn : n = M.length) (_hc : n ≤ c) (_hm : c ≤ 9223372036854775807) (h : Rds w w.heap.size A (vals M)) (hg : ∀ s ∈ M, Sl.Good Col.cells Col.wf w s) :
    Calls Try.prog 7 #[.slice A n c, .agg #[.int .i64 p.l, .int .i64 p.r, .int .i64 p.t]] w fun e w' => e = .returned (.bool true) ∧ Below w.heap.size w w' := by
  have HN := hide hn
  have HG := hide hg
  have H := hide h
  clear hn hg h
  go_enter Try.func7, Try.ntmps7
  go_wp2_with fail
  go_loopg [5, 6] 6 (fun gk v i wr => ∃ k : Nat, k ≤ n ∧ k ≤ 6 ∧ i = .int .i64 k ∧ 6 ≤ gk + k ∧ wr.ownsRow (w.heap.size + 1) 29 1 v k (vals (cuts M k)) ∧ Below (w.heap.size + 1) (w.alloc (.cells #[.int .i64 p.l, .int .i64 p.r, .int .i64 p.t] 41)) wr)
  case atStart => exact ⟨0, by omega, by omega, rfl, by omega, World.ownsRow_nil _ _ _ _, Below.refl _ _⟩
  case round =>
    obtain ⟨k, hk, hk6, rfl, hgk, hown, hb1⟩ := hrel
    have hsz := hb1.size
    simp only [World.size_alloc] at hsz
    have hb : Below w.heap.size w wr := ((Below.refl _ w).alloc (Nat.le_refl _) _).trans (hb1.mono (by omega))
    by_cases hlt : k < n ∧ k < 6
    · obtain ⟨hlt1, hlt2⟩ := hlt
      obtain ⟨s, hs⟩ : ∃ s, M[k]? = some s := ⟨_, List.getElem?_eq_getElem (by have := HN.out; omega)⟩
      obtain ⟨b, off, rfl, hbB, c0⟩ := (H.out.below hb).sl hs
      have hgs := HG.out s (List.mem_of_getElem? hs)
      have hl2 := hgs.cap
      have hl3 := len63 hgs.max
      have HCS := hide (cuts_succ M k s hs)
      obtain ⟨A5, c5, rfl, -, -, -⟩ := own_form hown
      have hne : some b ≠ (Value.slice A5 k c5).ownBlock := fun e => by have := hown.lt b e.symm; omega
      obtain ⟨sA, sn, sc, sl⟩ := s
      dsimp only at c0 hl2 hl3 HCS
      have hrd : Rds wr wr.heap.size sA (cols sl) := (hgs.rds.below hb).more hb.size
      have HO := hide hown
      have HB := hide hb1
      have HNE := hide hne
      have hbw : b < wr.heap.size := by omega
      have i1 : (k : Int) < (n : Int) := by omega
      have i2 : (0 : Int) ≤ (k : Int) := by omega
      have i3 : (0 : Int) ≤ (sn : Int) := by omega
      have i4 : (sn : Int) ≤ (sc : Int) := by omega
      clear hgs hs hown hb1 hb hne hrd
      go_wp2_with fail
      rcases (show sn ≤ 20 ∨ 20 < sn by omega) with h20 | h20
      · rw [show min sn 20 = sn by omega] at HCS
        have i5 : (sn : Int) ≤ (20 : Int) := by omega
        have i6 : ¬ (20 : Int) < (sn : Int) := by omega
        go_region_held3 (fun w' => w'.cell? ⟨b, off + k, none⟩ = some (.slice sA sn sc))
          (first | go_keep | (rw [g3.cell_far _ (by simp; omega) HNE.out]; assumption))
          (first | ((refine step_app rfl (.tmp 23) (.tmp 35) 45 rfl (w.heap.size + 1) colss_ty _ k (vals (cuts M k)) rfl ((HO.out.alloc _).drew) (wr.heap.size + 1) (some ⟨wr.heap.size, 0, none⟩) 1 1 [.slice sA sn sc] rfl rfl (Rds.at_new_drew rfl #[.slice sA sn sc] _) (by simp; rfl) (by simp only [maxLen]; omega) (by omega) (by simp; omega) ?_); intro v' w3 o3 g3 b3))
        go_wp2_with fail
        go_roundg (gk - 1)
        case measure => omega
        case rel => exact ⟨k + 1, by omega, by omega, by go_num, by omega, by rw [HCS.out]; exact o3, (grown_below (v := Value.slice A5 k c5) ((HB.out.alloc hsz (.cells #[.slice sA sn sc] 29)).drew) ((HO.out.alloc _).drew) g3 (by simp; omega))⟩
      · rw [show min sn 20 = 20 by omega] at HCS
        have i5 : (20 : Int) < (sn : Int) := by omega
        have i6 : (20 : Int) ≤ (sc : Int) := by omega
        go_region_held3 (fun w' => w'.cell? ⟨b, off + k, none⟩ = some (.slice sA sn sc))
          (first | go_keep | (rw [g3.cell_far _ (by simp; omega) HNE.out]; assumption))
          (first | ((refine step_app rfl (.tmp 23) (.tmp 35) 45 rfl (w.heap.size + 1) colss_ty _ k (vals (cuts M k)) rfl ((HO.out.alloc _).drew) (wr.heap.size + 1) (some ⟨wr.heap.size, 0, none⟩) 1 1 [.slice sA 20 sc] rfl rfl (Rds.at_new_drew rfl #[.slice sA 20 sc] _) (by simp; rfl) (by simp only [maxLen]; omega) (by omega) (by simp; omega) ?_); intro v' w3 o3 g3 b3))
        go_wp2_with fail
        go_roundg (gk - 1)
        case measure => omega
        case rel => exact ⟨k + 1, by omega, by omega, by go_num, by omega, by rw [HCS.out]; exact o3, (grown_below (v := Value.slice A5 k c5) ((HB.out.alloc hsz (.cells #[.slice sA 20 sc] 29)).drew) ((HO.out.alloc _).drew) g3 (by simp; omega))⟩
    · have HK := hide hlt
      obtain ⟨A5, c5, rfl, -, -, -⟩ := own_form hown
      obtain ⟨M1, hM1⟩ : ∃ M1, M1 = cuts M k := ⟨_, rfl⟩
      have hl1 : k = M1.length := by rw [hM1, cuts, List.length_map, List.length_take, ← HN.out]; omega
      have hg1 : ∀ s ∈ M1, Sl.Good Col.cells Col.wf w s ∧ s.n ≤ 20 := by
        rw [hM1]
        intro s hs
        simp only [cuts, List.mem_map] at hs
        obtain ⟨a, ha, rfl⟩ := hs
        exact ⟨(HG.out a (List.mem_of_mem_take ha)).cut 20, by simp only [Sl.cut]; omega⟩
      rw [← hM1] at hown
      have hrd : Rds wr wr.heap.size A5 (vals M1) := Rds.own hown
      have hg2 : ∀ s ∈ M1, Sl.Good Col.cells Col.wf wr s := fun s hs => (hg1 s hs).1.up hb fun _ h => h
      have p0 : wr.cell? ⟨w.heap.size, 0, none⟩ = some (.int .i64 p.l) := (hb1.cell (p := ⟨w.heap.size, 0, none⟩) (Nat.lt_succ_self _)).trans ((cell_of_row _ _ 0 _ _ _ (heap_alloc_new w _)).trans rfl)
      have p1 : wr.cell? ⟨w.heap.size, 1, none⟩ = some (.int .i64 p.r) := (hb1.cell (p := ⟨w.heap.size, 1, none⟩) (Nat.lt_succ_self _)).trans ((cell_of_row _ _ 1 _ _ _ (heap_alloc_new w _)).trans rfl)
      have p2 : wr.cell? ⟨w.heap.size, 2, none⟩ = some (.int .i64 p.t) := (hb1.cell (p := ⟨w.heap.size, 2, none⟩) (Nat.lt_succ_self _)).trans ((cell_of_row _ _ 2 _ _ _ (heap_alloc_new w _)).trans rfl)
      have P0 := hide p0
      have P1 := hide p1
      have P2 := hide p2
      have HL1 := hide hl1
      have HG1 := hide fun s hs => (hg1 s hs).2
      have HG2 := hide hg2
      have HRD := hide hrd
      have HBw := hide hb
      have hex : (n : Int) ≤ (k : Int) ∨ ((k : Int) < (n : Int) ∧ (6 : Int) ≤ (k : Int)) := by omega
      clear hM1 hl1 hg1 hown hrd hg2 hb hb1 HN HG H
      rcases hex with hx | ⟨hx1, hx2⟩
      all_goals
        go_wp2_with fail
        refine (join_all A5 k c5 M1 p _ HL1.out (by omega) HRD.out HG2.out HG1.out).mono ?_
        rintro e w2 ⟨A7, n7, c7, rfl, hj1, hj2, hb2⟩
        have HJ1 := hide hj1
        have HJ2 := hide hj2
        obtain ⟨je, hje⟩ : ∃ je, je = JE p M1 := ⟨_, rfl⟩
        rw [← hje] at HJ1 HJ2
        rw [← hje]
        have HJE := hide hje
        have b2 := HBw.out.trans (hb2.mono HBw.out.size)
        have q0 := (hb2.cell (p := ⟨w.heap.size, 0, none⟩) (by show w.heap.size < _; omega)).trans P0.out
        have q1 := (hb2.cell (p := ⟨w.heap.size, 1, none⟩) (by show w.heap.size < _; omega)).trans P1.out
        have q2 := (hb2.cell (p := ⟨w.heap.size, 2, none⟩) (by show w.heap.size < _; omega)).trans P2.out
        have r2 := (HRD.out.below hb2).more hb2.size
        have HB2 := hide hb2
        have hz2 : w.heap.size < w2.heap.size := by have := hb2.size; omega
        clear hj1 hj2 hje hb2
        go_wp2_with fail
        refine (known_any _).mono ?_
        rintro e w3 ⟨rfl, hb3⟩
        have b3 := b2.trans (hb3.mono b2.size)
        have t0 := (hb3.cell (p := ⟨w.heap.size, 0, none⟩) hz2).trans q0
        have t1 := (hb3.cell (p := ⟨w.heap.size, 1, none⟩) hz2).trans q1
        have t2 := (hb3.cell (p := ⟨w.heap.size, 2, none⟩) hz2).trans q2
        have r3 := (r2.below hb3).more hb3.size
        have hj3 : je = 0 → n7 = (joinL p M1).length ∧ Rds w3 w3.heap.size A7 (cols (joinL p M1)) := fun h => ⟨(HJ2.out h).1, ((HJ2.out h).2.below hb3).more hb3.size⟩
        have HJ3 := hide hj3
        have hz3 : w.heap.size < w3.heap.size := by have := hb3.size; omega
        have B3 := hide b3
        have R3 := hide r3
        have HOW := hide (HB2.out.trans (hb3.mono HB2.out.size))
        clear hj3 q0 q1 q2 r2 b2 hb3 b3 r3
        go_wp2_with fail
        have hone : (w3.alloc (.cells #[.int .i64 p.l, .int .i64 p.r, .int .i64 p.t] 41)).ownsRow w3.heap.size 41 3 (.slice (some ⟨w3.heap.size, 0, none⟩) 1 1) 1 (cols [p]) :=
          ⟨rfl, .inr ⟨w3.heap.size, 1, _, rfl, Nat.le_refl _, heap_alloc_new w3 _, Nat.le_refl _, by simp only [maxLen]; omega, rfl, rfl⟩⟩
        have HONE := hide hone
        clear hone t0 t1 t2
        go_loopg [9, 10, 11] k (fun gk wn v i wr => ∃ (q : Nat) (wv : Int), q ≤ k ∧ wn = .int .i64 wv ∧ i = .int .i64 q ∧ k ≤ gk + q ∧ WantOk M1 q wv ∧
          wr.ownsRow w3.heap.size 41 3 v (joinL p (M1.take q)).length (cols (joinL p (M1.take q))) ∧ Below w3.heap.size w3 wr)
        case atStart => exact ⟨0, 0, by omega, rfl, rfl, by omega, .inl ⟨rfl, fun j s hj => absurd hj (by omega)⟩, HONE.out, (Below.refl _ w3).alloc (Nat.le_refl _) _⟩
        case round =>
          obtain ⟨q, wv, hq, rfl, rfl, hgk, hwo, hown, hb3⟩ := hrel
          have hb : Below w.heap.size w wr := B3.out.trans (hb3.mono B3.out.size)
          by_cases hgo : q < k ∧ wv = 0
          · obtain ⟨hqk, rfl⟩ := hgo
            have hall : ∀ (j : Nat) (s : Sl Col), j < q → M1[j]? = some s → SlOk s := by
              rcases hwo with ⟨_, h⟩ | ⟨h, _⟩
              · exact h
              · exact absurd rfl h
            obtain ⟨s, hs⟩ : ∃ s, M1[q]? = some s := ⟨_, List.getElem?_eq_getElem (by have := HL1.out; omega)⟩
            obtain ⟨b, off, hA, hbB, c0⟩ := (R3.out.below hb3).sl hs
            subst hA
            have hat := measErr_at hall hs
            have hgs := HG2.out s (List.mem_of_getElem? hs)
            have hs20 := HG1.out s (List.mem_of_getElem? hs)
            obtain ⟨sA, sn, sc, sl⟩ := s
            dsimp only at c0 hat hs20
            have hl2 : sn ≤ sc := hgs.cap
            have hl3 : sc ≤ 9223372036854775807 := len63 hgs.max
            have HL := hide (show sn = sl.length from hgs.len)
            have HALL := hide hall
            have HO := hide hown
            have HB := hide hb
            have HB3 := hide hb3
            have HS := hide hs
            have hrd3 : Rds w3 w3.heap.size sA (cols sl) := (hgs.rds.below HOW.out).more HOW.out.size
            have HRD3 := hide hrd3
            have hrd : Rds wr wr.heap.size sA (cols sl) := (hrd3.below hb3).more hb3.size
            have HRDS := hide hrd
            clear hrd3 hgs hown hb hb3 hs hall hwo hrd
            by_cases h0 : sn = 0
            · rw [if_pos h0] at hat
              subst h0
              have hje : je = 4 := by rw [HJE.out, JE, if_pos (by rw [hat]; decide), hat]
              have hn7 := HJ1.out (by rw [hje]; decide)
              subst hje hn7
              have HB' := HB.out
              clear hat
              go_wp2_with fail
              go_ret
              exact ⟨rfl, HB.out⟩
            · rw [if_neg h0] at hat
              have hsn1 : 1 ≤ sn := by omega
              have h01 : ((sn : Int) == 0) = false := by simpa using h0
              obtain ⟨b2, off2, hA2, hbb2, -⟩ := HRDS.out.get (k := 0) (by rw [cols_length, ← HL.out]; omega)
              subst hA2
              have HAT := hide hat
              clear hat h0
              go_wp2_with fail
              refine (lcheck_any _ sn sc sl _ HL.out (by omega) HRDS.out).mono ?_
              rintro e w4 ⟨rfl, rfl⟩
              have hcnt := joinL_len20 p (M1.take q) fun s hs => by rw [← (HG2.out s (List.mem_of_mem_take hs)).len]; exact HG1.out s (List.mem_of_mem_take hs)
              rw [List.length_take] at hcnt
              have hcnt2 : (joinL p (M1.take q)).length ≤ 121 := by have := HL1.out; omega
              have HCN := hide hcnt2
              clear hcnt hcnt2
              obtain ⟨gq, rfl⟩ : ∃ gq : Nat, gq = gk := ⟨_, rfl⟩
              obtain ⟨wo, rfl⟩ : ∃ wo : World, wo = wr := ⟨_, rfl⟩
              have HSZ3 := hide HB3.out.size
              go_wp2_with fail
              go_loopg [10, 12] sn (fun gk v i wr => ∃ t : Nat, t ≤ sn ∧ i = .int .i64 t ∧ sn ≤ gk + t ∧ wr.ownsRow w3.heap.size 41 3 v (joinT p M1 q sl t).length (cols (joinT p M1 q sl t)) ∧ Below w3.heap.size w3 wr)
              case atStart => exact ⟨0, by omega, rfl, by omega, by rw [joinT_zero]; exact HO.out, HB3.out⟩
              case round =>
                obtain ⟨t, ht, rfl, hgt, hown, hb3⟩ := hrel
                have c0' := (R3.out.below hb3).sl HS.out
                obtain ⟨bq, offq, hq1, hq2, hq3⟩ := c0'
                simp only [Option.some.injEq, Addr.mk.injEq, and_true] at hq1
                obtain ⟨rfl, rfl⟩ := hq1
                dsimp only at hq3
                have hcn := HCN.out
                have hjl : (joinT p M1 q sl t).length ≤ 141 := by
                  have : (joinT p M1 q sl t).length ≤ (joinL p (M1.take q)).length + t := by
                    unfold joinT
                    rw [List.length_append]
                    have h1 : (if q = 0 then (sl.take t).drop 1 else sl.take t).length ≤ (sl.take t).length := by split <;> simp
                    have h2 : (sl.take t).length ≤ t := List.length_take_le _ _
                    omega
                  omega
                have HJL := hide hjl
                clear hcn hjl
                by_cases htl : t < sn
                · obtain ⟨x, hx⟩ : ∃ x, sl[t]? = some x := ⟨_, List.getElem?_eq_getElem (by have := HL.out; omega)⟩
                  obtain ⟨bx, ox, hA, hbx, d0, d1, d2⟩ := (HRD3.out.below hb3).col hx
                  simp only [Option.some.injEq, Addr.mk.injEq, and_true] at hA
                  obtain ⟨rfl, rfl⟩ := hA
                  have HO' := hide hown
                  have HB3' := hide hb3
                  have hsw := hb3.size
                  have hbqw : b < wr.heap.size := by omega
                  have hb2w : b2 < wr.heap.size := by omega
                  have HX := hide hx
                  clear hown hb3 hx
                  rcases (show (q ≤ 0 ∧ t ≤ 0) ∨ 0 < q ∨ (q ≤ 0 ∧ 0 < t) by omega) with ⟨e1, e2⟩ | e1 | ⟨e1, e2⟩
                  · have hsk : joinT p M1 q sl (t + 1) = joinT p M1 q sl t := by
                      obtain rfl : q = 0 := by omega
                      obtain rfl : t = 0 := by omega
                      exact joinT_skip p M1 sl
                    have HSK := hide hsk
                    clear hsk
                    go_wp2_with fail
                    go_roundg (gk - 1)
                    case measure => omega
                    case rel => exact ⟨t + 1, by omega, by go_num, by omega, by rw [HSK.out]; exact HO'.out, HB3'.out⟩
                  all_goals
                    have hsk := joinT_succ p M1 q sl t x HX.out (by omega)
                    have HSK := hide hsk
                    clear hsk
                    go_wp2_with (at_builtin; go_must (refine wpList_app rfl (.tmp 83) (.tmp 91) 29 rfl w3.heap.size cols_ty _ _ _ rfl (HO'.out.alloc _) (wr.heap.size + 1) (some ⟨wr.heap.size, 0, none⟩) 1 1 (cols [x]) rfl rfl (Rds.new wr #[.int .i64 x.l, .int .i64 x.r, .int .i64 x.t] _) (cols_one _) (by have := HJL.out; simp only [maxLen]; omega) (by have := HJL.out; omega) (by simp; omega) ?_); intro v' w5 o5 g5 b5)
                    have R := rel_joinT HSK.out HO'.out HB3'.out o5 g5
                    go_wp2_with fail
                    go_roundg (gk - 1)
                    case measure => omega
                    case rel => exact ⟨t + 1, by omega, by go_num, by omega, R.1, R.2⟩
                · have htt : t = sn := by omega
                  have hne : ∀ (j : Nat) (s : Sl Col), j < q → M1[j]? = some s → s.l ≠ [] := fun j s hj hs e =>
                    (HALL.out j s hj hs).1 (by rw [(HG2.out s (List.mem_of_getElem? hs)).len, e]; rfl)
                  have hfull : joinT p M1 q sl t = joinL p (M1.take (q + 1)) := by
                    have e : sl.take t = sl := List.take_of_length_le (by rw [← HL.out]; omega)
                    rw [joinL_take p M1 q _ HS.out hne]
                    unfold joinT
                    rw [e]
                  rw [hfull] at hown
                  have hwo : WantOk M1 (q + 1) (colErr sl) := by
                    by_cases he : colErr sl = 0
                    · refine .inl ⟨he, fun j s hj hs => ?_⟩
                      by_cases hjq : j = q
                      · subst hjq
                        rw [HS.out] at hs
                        cases hs
                        exact ⟨by show sn ≠ 0; omega, he⟩
                      · exact HALL.out j s (by omega) hs
                    · exact .inr ⟨he, by rw [HAT.out, if_pos he]⟩
                  have HWO := hide hwo
                  have HO' := hide hown
                  have HB3' := hide hb3
                  clear hown hb3 hwo hfull hne
                  go_wp2_with fail
                  go_roundg (gq - 1)
                  case measure => omega
                  case rel => exact ⟨q + 1, colErr sl, by omega, rfl, by go_num, by omega, HWO.out, HO'.out, HB3'.out⟩
          · by_cases hw0 : wv = 0
            · subst hw0
              have hqk : q = k := by omega
              subst hqk
              have hall : ∀ (j : Nat) (s : Sl Col), M1[j]? = some s → SlOk s := by
                rcases hwo with ⟨_, h⟩ | ⟨h, _⟩
                · exact fun j s hj => h j s (by have := (List.getElem?_eq_some_iff.1 hj).1; have := HL1.out; omega) hj
                · exact absurd rfl h
              have hje : je = colErr [p] := by rw [HJE.out, JE, if_neg (by rw [measErr_ok hall]; simp)]
              have htk : M1.take q = M1 := List.take_of_length_le (by rw [← HL1.out]; exact Nat.le_refl _)
              rw [htk] at hown
              have hq20 := joinL_len20 p M1 fun s hs => by rw [← (HG2.out s hs).len]; exact HG1.out s hs
              obtain ⟨Aw, cw, rfl, hAw, hcw, hcwm⟩ := own_form hown
              have hqr := (Rds.own hown)
              have hq1 : Rds wr wr.heap.size Aw (cols [p]) := by
                have e : cols (joinL p M1) = cols [p] ++ cols ((M1.flatMap fun s => s.l).drop 1) := by rw [flat_cols_append]; rfl
                rw [e] at hqr
                exact hqr.pref
              obtain ⟨cnt, hC⟩ : ∃ cnt, cnt = (joinL p M1).length := ⟨_, rfl⟩
              have hC1 : 1 ≤ cnt := by rw [hC]; simp [joinL]
              rw [← hC] at hq20 hcw hown
              have hj3 := HJ3.out
              rw [← hC] at hj3
              have hj3' : je = 0 → n7 = cnt ∧ Rds wr wr.heap.size A7 (cols (joinL p M1)) := fun h => ⟨(hj3 h).1, ((hj3 h).2.below hb3).more hb3.size⟩
              have HJ4 := hide hj3'
              have HQ1 := hide hq1
              have HQR := hide hqr
              have HC := hide hC
              have HB := hide hb
              have HJe := hide hje
              have hl1 := HL1.out
              have hcnt : cnt ≤ 121 := by omega
              have hcw1 : cnt ≤ cw := by omega
              have hcw2 : cw ≤ 9223372036854775807 := len63 hcwm
              rw [← hC]
              clear hall hwo htk hown hq20 hAw hqr hq1 hC hj3 hj3' hb hb3 hje hl1 hcw hgo hcwm
              go_wp2_with fail
              refine (lcheck_any Aw 1 cw [p] _ rfl (by omega) HQ1.out).mono ?_
              rw [← HJe.out]
              rintro e w5 ⟨rfl, rfl⟩
              by_cases hj0 : je = 0
              · obtain ⟨e7, r7⟩ := HJ4.out hj0
                subst hj0
                have HR7 := hide r7
                subst e7
                clear r7
                go_wp2_with fail
                refine (same_true A7 Aw _ c7 cw (joinL p M1) _ HC.out (by omega) HR7.out HQR.out).mono ?_
                rintro e w6 ⟨rfl, hb6⟩
                go_wp2_with fail
                go_ret
                exact ⟨rfl, HB.out.trans (hb6.mono HB.out.size)⟩
              · have e7 := HJ1.out hj0
                subst e7
                have hb1 : (je == 0) = false := by simpa using hj0
                have hb2 : (je != 0) = true := by simpa using hj0
                clear hj0
                go_wp2_with fail
                go_ret
                exact ⟨rfl, HB.out⟩
            · have hje : je = wv := by
                rcases hwo with ⟨h, _⟩ | ⟨_, h⟩
                · exact absurd h hw0
                · rw [HJE.out, JE, if_pos (by rw [← h]; exact hw0), h]
              have e7 := HJ1.out (by rw [hje]; exact hw0)
              subst e7
              subst hje
              have hb1 : (je == 0) = false := by simpa using hw0
              have hb2 : (je != 0) = true := by simpa using hw0
              have HB := hide hb
              clear hw0 hwo hgo hown hb hb3
              rcases (show q < k ∨ k ≤ q by omega) with hqk | hqk
              all_goals
                go_wp2_with fail
                go_ret
                exact ⟨rfl, HB.out⟩

theorem dec_colss : Dec Try.prog 45 (fun s : Sl (Sl Col) => [s.val]) (Sl.Good (fun s : Sl Col => [s.val]) (Sl.Good Col.cells Col.wf)) :=
  Dec.slice Try.underlying45 (sz := 1) dec_cols (by kernel_rfl) (fun _ => rfl) (by omega)

theorem spacingJoins_walk {w : World} (a : Sl (Sl Col)) (ha : Sl.Good (fun s : Sl Col => [s.val]) (Sl.Good Col.cells Col.wf) w a) (p : Col) (_ : Col.wf w p) :
    Calls Try.prog 7 #[.slice a.A a.n a.c, .agg (Col.cells p).toArray] w fun e w' => e = .returned (.bool true) ∧ Below w.heap.size w w' :=
  joins_law a.A a.n a.c a.l p w ha.len ha.cap (len63 ha.max) ha.rds ha.all

end Go.Proofs.Ytajkmlejklgbbaa
