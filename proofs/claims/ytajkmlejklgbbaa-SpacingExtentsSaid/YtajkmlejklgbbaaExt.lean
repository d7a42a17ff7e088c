/- spacing.Extents: the function that widens a column, and the whole. -/
import Derived.Test.YtajkmlejklgbbaaMark
import Derived.Test.YtajkmlejklgbbaaJoin
import Derived.Test.YtajkmlejklgbbaaPlace
import Derived.Lib.MinMax
import Derived.Deep.AppendLies
import Derived.Laws.MakeOwn
import Derived.OneCell
namespace Go.Proofs.Ytajkmlejklgbbaa
open Go.RowKit

theorem cols_set0 : ∀ (l : List Col) (k : Nat) (c : Col) (v : Int), l[k]? = some c → (cols l).set (k * 3) (.int .i64 v) = cols (l.set k ⟨v, c.r, c.t⟩)
  | [], _, _, _, h => by simp at h
  | x :: l, 0, c, v, h => by cases h; rfl
  | x :: l, k + 1, c, v, h => by
    have e := cols_set0 l k c v h
    simp only [cols, List.flatMap_cons, Col.cells, List.set_cons_succ, List.cons_append, List.nil_append] at e ⊢
    rw [show (k + 1) * 3 = k * 3 + 1 + 1 + 1 by omega, List.set_cons_succ, List.set_cons_succ, List.set_cons_succ, e]
theorem cols_set1 : ∀ (l : List Col) (k : Nat) (c : Col) (v : Int), l[k]? = some c → (cols l).set (k * 3 + 1) (.int .i64 v) = cols (l.set k ⟨c.l, v, c.t⟩)
  | [], _, _, _, h => by simp at h
  | x :: l, 0, c, v, h => by cases h; rfl
  | x :: l, k + 1, c, v, h => by
    have e := cols_set1 l k c v h
    simp only [cols, List.flatMap_cons, Col.cells, List.set_cons_succ, List.cons_append, List.nil_append] at e ⊢
    rw [show (k + 1) * 3 = k * 3 + 1 + 1 + 1 by omega, List.set_cons_succ, List.set_cons_succ, e]
theorem cols_set2 : ∀ (l : List Col) (k : Nat) (c : Col) (v : Int), l[k]? = some c → (cols l).set (k * 3 + 2) (.int .i64 v) = cols (l.set k ⟨c.l, c.r, v⟩)
  | [], _, _, _, h => by simp at h
  | x :: l, 0, c, v, h => by cases h; rfl
  | x :: l, k + 1, c, v, h => by
    have e := cols_set2 l k c v h
    simp only [cols, List.flatMap_cons, Col.cells, List.set_cons_succ, List.cons_append, List.nil_append] at e ⊢
    rw [show (k + 1) * 3 = k * 3 + 2 + 1 by omega, List.set_cons_succ, e]
section
variable {w : World} {base g n cap : Nat}
theorem own_wide {l : List Col} (h : w.ownsRow base 41 3 (.slice (some ⟨g, 0, none⟩) n cap) n (cols l)) {k : Nat} {c : Col} (hk : l[k]? = some c) (u v : Int) :
    ((w.setCell ⟨g, k * 3, none⟩ (.int .i64 u)).setCell ⟨g, k * 3 + 1, none⟩ (.int .i64 v)).ownsRow base 41 3 (.slice (some ⟨g, 0, none⟩) n cap) n (cols (l.set k ⟨u, v, c.t⟩)) := by
  obtain ⟨h1, -⟩ := h.stored (k * 3) (.int .i64 u)
  obtain ⟨h2, -⟩ := h1.stored (k * 3 + 1) (.int .i64 v)
  rw [cols_set0 l k c u hk, cols_set1 (l.set k ⟨u, c.r, c.t⟩) k ⟨u, c.r, c.t⟩ v (by rw [List.getElem?_set_self (List.getElem?_eq_some_iff.1 hk).1]), List.set_set] at h2
  exact h2
end

def Mk.val (m : Mk) : Value := .agg #[.int .i64 m.c, .int .i64 m.i, .int .i64 m.s, .int .i64 m.f, .int .i64 m.l, .int .i64 m.g, .int .i64 m.a, .int .i64 m.b, .int .i64 m.lf, .int .i64 m.bt, .int .i64 m.rt, .int .i64 m.tp]

/-- what the columns' variable and its row are -/
structure Cv (w : World) (ob base n : Nat) (v : Value) (cs : List Col) : Prop where
  lt : ob < w.heap.size
  lo : v.ownBlock ≠ some ob
  fz : w.frozen? ⟨ob, 0, none⟩ = false
  le : base ≤ w.heap.size
  cell : w.cell? ⟨ob, 0, none⟩ = some v
  own : w.ownsRow base 41 3 v n (cols cs)
theorem Cv.on {w w' : World} {ob base n : Nat} {v : Value} {cs : List Col} (h : Cv w ob base n v cs) (hb : Below w.heap.size w w') : Cv w' ob base n v cs :=
  ⟨by have := hb.size; have := h.lt; omega, h.lo, (hb.frozen (p := ⟨_, _, none⟩) h.lt).trans h.fz, Nat.le_trans h.le hb.size, (hb.cell (p := ⟨_, _, none⟩) h.lt).trans h.cell, own_below h.own hb (Nat.le_refl _)⟩

set_option maxRecDepth 100000 in
set_option maxHeartbeats 2000000 in
theorem widen_bad (m : Mk) (ob base n : Nat) (v : Value) (cs : List Col) (w : World) (hv : Cv w ob base n v cs) (hb : m.bad n) :
    Calls Try.prog 38 #[.agg #[.int .i64 m.c, .int .i64 m.i, .int .i64 m.s, .int .i64 m.f, .int .i64 m.l, .int .i64 m.g, .int .i64 m.a, .int .i64 m.b, .int .i64 m.lf, .int .i64 m.bt, .int .i64 m.rt, .int .i64 m.tp], .pointer (some ⟨ob, 0, none⟩)] w fun e w' =>
      e = .returned (.int .i64 2) ∧ Below w.heap.size w w' := by
  obtain ⟨hlt, hlo, hfz, hle, hc, ho⟩ := hv
  obtain ⟨A1, cc1, rfl, -, -, -⟩ := own_form ho
  have HB := hide ((Below.refl w.heap.size w).alloc (Nat.le_refl _) (.cells #[.int .i64 m.c, .int .i64 m.i, .int .i64 m.s, .int .i64 m.f, .int .i64 m.l, .int .i64 m.g, .int .i64 m.a, .int .i64 m.b, .int .i64 m.lf, .int .i64 m.bt, .int .i64 m.rt, .int .i64 m.tp] 59))
  have hcs : m.f < 0 ∨ (¬ m.f < 0 ∧ m.l < m.f) ∨ (¬ m.f < 0 ∧ ¬ m.l < m.f ∧ (n : Int) ≤ m.l) ∨ (¬ m.f < 0 ∧ ¬ m.l < m.f ∧ ¬ (n : Int) ≤ m.l ∧ ¬ m.f < m.l ∧ m.lf < -65536) ∨ (¬ m.f < 0 ∧ ¬ m.l < m.f ∧ ¬ (n : Int) ≤ m.l ∧ ¬ m.f < m.l ∧ ¬ m.lf < -65536 ∧ 65536 < m.rt) := by
    unfold Mk.bad at hb
    omega
  clear ho hb hfz
  rcases hcs with h1 | ⟨h1, h2⟩ | ⟨h1, h2, h3⟩ | ⟨h1, h2, h3, h4, h5⟩ | ⟨h1, h2, h3, h4, h5, h6⟩
  all_goals
    go_enter Try.func38, Try.ntmps38
    go_wp2_with fail
    go_ret
    exact ⟨rfl, HB.out⟩

set_option maxRecDepth 100000 in
set_option maxHeartbeats 2000000 in
theorem widen_ok (m : Mk) (ob base n : Nat) (v : Value) (cs : List Col) (w : World) (hv : Cv w ob base n v cs) (hn : n = cs.length) (hm : n ≤ 4096) (hb : ¬ m.bad n) (hml : m.lf ≤ 9223372036854775807) :
    Calls Try.prog 38 #[.agg #[.int .i64 m.c, .int .i64 m.i, .int .i64 m.s, .int .i64 m.f, .int .i64 m.l, .int .i64 m.g, .int .i64 m.a, .int .i64 m.b, .int .i64 m.lf, .int .i64 m.bt, .int .i64 m.rt, .int .i64 m.tp], .pointer (some ⟨ob, 0, none⟩)] w fun e w' =>
      e = .returned (.int .i64 0) ∧ Cv w' ob base n v (wid cs m) ∧ Below base w w' := by
  have HV := hide hv
  have HN := hide hn
  obtain ⟨hlt, hlo, hfz, hle, hc, ho⟩ := hv
  have hcs : ¬ m.f < 0 ∧ ¬ m.l < m.f ∧ ¬ (n : Int) ≤ m.l ∧ (m.f < m.l ∨ (m.f = m.l ∧ ¬ m.lf < -65536 ∧ ¬ 65536 < m.rt)) := by
    unfold Mk.bad at hb
    omega
  obtain ⟨h1, h2, h3, h4⟩ := hcs
  rcases h4 with h4 | ⟨h4, h5, h6⟩
  · obtain ⟨A1, cc1, rfl, -, -, -⟩ := own_form ho
    have HW := hide (wid_two (cs := cs) (m := m) (by omega))
    clear ho hb hn
    go_enter Try.func38, Try.ntmps38
    go_wp2_with fail
    go_ret
    rw [HW.out]
    have ba := (Below.refl w.heap.size w).alloc (Nat.le_refl _) (.cells #[.int .i64 m.c, .int .i64 m.i, .int .i64 m.s, .int .i64 m.f, .int .i64 m.l, .int .i64 m.g, .int .i64 m.a, .int .i64 m.b, .int .i64 m.lf, .int .i64 m.bt, .int .i64 m.rt, .int .i64 m.tp] 59)
    exact ⟨rfl, HV.out.on ba, ba.mono hle⟩
  · obtain ⟨k, hk⟩ : ∃ k : Nat, m.f = k := ⟨m.f.toNat, by omega⟩
    have hkn : k < n := by omega
    obtain ⟨cc, hcc⟩ : ∃ cc, cs[k]? = some cc := ⟨_, List.getElem?_eq_getElem (by omega)⟩
    obtain ⟨g, cap, rfl, hgb, -⟩ := World.ownsRow.form ho (by omega)
    obtain ⟨b, off, e1, hgl, c0, c1, -⟩ := (Rds.own ho).col hcc
    simp only [Option.some.injEq, Addr.mk.injEq, and_true] at e1
    obtain ⟨rfl, rfl⟩ := e1
    rw [Nat.zero_add] at c0 c1
    have hl : m.l = k := by omega
    have HW := hide (wid_one (cs := cs) (m := m) (c := cc) h4 (by rw [hk]; simpa using hcc))
    obtain ⟨x, hx⟩ : ∃ x, x = max cc.l (-m.lf) := ⟨_, rfl⟩
    obtain ⟨y, hy⟩ : ∃ y, y = max cc.r m.rt := ⟨_, rfl⟩
    rw [← hx, ← hy] at HW
    have HO := hide (own_wide ho hcc x y)
    have hx' := hx.symm
    have hy' := hy.symm
    have i1 : IntKind.i64.wrap (-m.lf) = -m.lf := IntWalk.i64_in _ (by omega)
    have i2 : ((k : Int)).toNat = k := by omega
    have i3 : (0 : Int) ≤ (k : Int) := by omega
    have i4 : (k : Int) < (n : Int) := by omega
    have f0 := World.ownsRow.frozenAt ho (k * 3)
    have f1 := World.ownsRow.frozenAt ho (k * 3 + 1)
    have hne : g ≠ ob := fun e => hlo (by rw [e]; rfl)
    obtain ⟨mf, hmf⟩ : ∃ mf, mf = m.f := ⟨_, rfl⟩
    clear ho hb hn hx hy hcc
    rw [hk] at h1 h2
    rw [hl] at h2 h3
    go_enter Try.func38, Try.ntmps38
    rw [hk, hl]
    go_upto_region 8 with fail
    go_region
    go_wp2_with fail
    go_ret
    rw [HW.out, hk, show ((k : Int)).toNat = k from i2]
    have h2 : Cv ((w.setCell ⟨g, k * 3, none⟩ (.int .i64 x)).setCell ⟨g, k * 3 + 1, none⟩ (.int .i64 y)) ob base n (.slice (some ⟨g, 0, none⟩) n cap) (cs.set k ⟨x, y, cc.t⟩) :=
      ⟨by simpa [World.setCell] using hlt, hlo, by simpa using hfz, by simpa [World.setCell] using hle, by
        rw [World.cell?_setCell_other _ _ _ _ (by intro e; injection e with e; omega), World.cell?_setCell_other _ _ _ _ (by intro e; injection e with e; omega)]; exact hc, HO.out⟩
    exact ⟨rfl, (h2.on ((Below.refl _ _).alloc (Nat.le_refl _) _)).on (Below.drew (Below.refl _ _)), Below.drew ((((Below.refl base w).setCell (by exact hgb) _).setCell (by exact hgb) _).alloc (by simpa [World.setCell] using hle) _)⟩

def extPost (w : World) (ts : List Int) (M : List Mk) (e : Ending) (w' : World) : Prop :=
  (¬ extOk ts M ∧ e = .returned (.tuple #[.slice none 0 0, .int .i64 2]) ∧ Below w.heap.size w w') ∨
  (extOk ts M ∧ ∃ v, e = .returned (.tuple #[v, .int .i64 0]) ∧ w'.ownsRow w.heap.size 41 3 v ts.length (cols (wids M (tcols ts))) ∧ Below w.heap.size w w')

theorem Rds.mk {w : World} {B : Nat} {A : Option Addr} {l : List Mk} (h : Rds w B A (mks l)) {k : Nat} {m : Mk} (hk : l[k]? = some m) :
    ∃ b off, A = some ⟨b, off, none⟩ ∧ b < B ∧ ∀ (j : Nat) (u : Value), m.cells[j]? = some u → w.cell? ⟨b, off + k * 12 + j, none⟩ = some u := by
  obtain ⟨hlt, -⟩ := List.getElem?_eq_some_iff.1 hk
  obtain ⟨b, off, e, hb, hc⟩ := h.get (k := k * 12) (by rw [mks, flat_length Mk.cells 12 (fun _ => rfl)]; omega)
  refine ⟨b, off, e, hb, fun j u hu => ?_⟩
  have g := flat_get Mk.cells 12 (fun _ => rfl) l k j m hk (by have := (List.getElem?_eq_some_iff.1 hu).1; simpa [Mk.cells] using this)
  have := hc (k * 12 + j) u (g.trans hu)
  rw [← Nat.add_assoc] at this
  exact this

theorem run_make0_cols (m : Nat) (hm : m ≤ 10000) (W : World) :
    (Instr.makeSlice 29 (.int .i64 0) (.int .i64 (m : Int))).run Try.prog W = .ok (.slice (some ⟨W.heap.size, 0, none⟩) 0 m) (W.alloc (.cells (madeCells #[.int .i64 0, .int .i64 0, .int .i64 0] (m * 3)) 41)) := by
  obtain ⟨i, hi, hz, h1, h2⟩ := info_parts (P := Try.prog) (e := 41) (z := .agg #[.int .i64 0, .int .i64 0, .int .i64 0]) (size := 3) (bytes := 24) (by kernel_rfl)
  have hr := run_make (P := Try.prog) W 29 41 i _ Try.underlying29 hi hz .i64 .i64 0 m (by omega) (by omega) (by rw [h2]; omega) (by omega)
  simp only [Int.toNat_natCast, h1] at hr
  exact hr
theorem Cv.start (w : World) (m : Nat) (hm : m ≤ 4096) : Cv ((w.alloc (.cells (madeCells #[.int .i64 0, .int .i64 0, .int .i64 0] (m * 3)) 41)).alloc (.cells #[.slice (some ⟨w.heap.size, 0, none⟩) 0 m] 29)) (w.heap.size + 1) w.heap.size 0 (.slice (some ⟨w.heap.size, 0, none⟩) 0 m) (tcols []) := by
  refine ⟨by simp, by simp [Value.ownBlock], by simp [go_sem], by simp; omega, by simp [go_sem], ?_⟩
  exact (World.ownsRow_made w _ m (Nat.le_refl _) (by simp only [maxLen]; omega) (by simp [size_madeCells])).alloc _
theorem Cv.push {w w3 : World} {ob base n : Nat} {v v' : Value} {cs : List Col} {c : Col} (h : Cv w ob base n v cs) (o : w3.ownsRow base 41 3 v' (n + 1) (cols cs ++ c.cells)) (g : w.grownBy w3 v.ownBlock) (b : v'.ownBlock = v.ownBlock ∨ v'.ownBlock = some w.heap.size) :
    Cv (w3.setCell ⟨ob, 0, none⟩ v') ob base (n + 1) v' (cs ++ [c]) := by
  have hne : v'.ownBlock ≠ some ob := by
    rcases b with b | b
    · rw [b]; exact h.lo
    · rw [b]; intro e; have := h.lt; cases e; omega
  have hcell : w3.cell? ⟨ob, 0, none⟩ = some v := (g.cell_far ⟨_, _, none⟩ h.lt h.lo.symm).trans h.cell
  refine ⟨by have := g.size; have := h.lt; simp [World.setCell]; omega, hne, by simpa using (g.frozen_far ⟨_, _, none⟩ h.lt h.lo.symm).trans h.fz, by have := g.size; have := h.le; simp [World.setCell]; omega, World.cell?_setCell_same _ _ _ (u := v) hcell, ?_⟩
  rw [show cols (cs ++ [c]) = cols cs ++ c.cells by simp [cols]]
  exact ownsRow_setCell_other o hne _
theorem tin_any (n : Int) (w : World) : Calls Try.prog 31 #[.int .i64 n, .int .i64 15482880] w fun e w' => e = .returned (.bool (decide (¬ tbad n))) ∧ w = w' := by
  obtain ⟨v, hv⟩ : ∃ v, v = decide (¬ tbad n) := ⟨_, rfl⟩
  rw [← hv]
  rcases (show n < 0 ∨ (0 ≤ n ∧ ¬ n ≤ 15482880) ∨ (0 ≤ n ∧ n ≤ 15482880) by omega) with h | ⟨h, h2⟩ | ⟨h, h2⟩
  · have HE := hide (show v = false by rw [hv]; simp; unfold tbad; omega)
    clear hv
    go_enter Try.func31, Try.ntmps31
    go_wp2_with fail
    go_ret
    exact ⟨by rw [HE.out]; rfl, rfl⟩
  · have HE := hide (show v = false by rw [hv]; simp; unfold tbad; omega)
    clear hv
    go_enter Try.func31, Try.ntmps31
    go_wp2_with fail
    go_ret
    exact ⟨by rw [HE.out]; first | rfl | simp [h2], rfl⟩
  · have HE := hide (show v = true by rw [hv]; simp; unfold tbad; omega)
    clear hv
    go_enter Try.func31, Try.ntmps31
    go_wp2_with fail
    go_ret
    exact ⟨by rw [HE.out]; first | rfl | simp [h2], rfl⟩

set_option maxRecDepth 100000 in
set_option maxHeartbeats 8000000 in
theorem Extents_any (A A' : Option Addr) (n c n' c' : Nat) (ts : List Int) (M : List Mk) (w : World) (hn : n = ts.length) (hm : n ≤ 4096) (h : Rds w w.heap.size A (ts.map (Value.int .i64)))
    (hn' : n' = M.length) (hm' : n' ≤ 9223372036854775807) (h' : Rds w w.heap.size A' (mks M)) (hw : ∀ m ∈ M, m.lf ≤ 9223372036854775807) :
    Calls Try.prog 24 #[.slice A n c, .slice A' n' c'] w (extPost w ts M) := by
  have HN := hide hn
  have HN' := hide hn'
  have HR := hide h
  have HR' := hide h'
  have HW := hide hw
  have hmk := run_make0_cols n (by omega)
  have HC0 := hide (Cv.start w n hm)
  have HB0 := hide (((Below.refl w.heap.size w).alloc (Nat.le_refl _) (.cells (madeCells #[.int .i64 0, .int .i64 0, .int .i64 0] (n * 3)) 41)).alloc (by simp) (.cells #[.slice (some ⟨w.heap.size, 0, none⟩) 0 n] 29))
  have hlim : ¬ (4096 : Int) < (n : Int) := by omega
  clear hn hn' h h' hw
  go_enter Try.func24, Try.ntmps24
  go_wp2_with fail
  generalize (w.alloc (.cells (madeCells #[.int .i64 0, .int .i64 0, .int .i64 0] (n * 3)) 41)).alloc (.cells #[.slice (some ⟨w.heap.size, 0, none⟩) 0 n] 29) = w1 at HC0 HB0 ⊢
  obtain ⟨ob, hob'⟩ : ∃ ob, ob = w.heap.size + 1 := ⟨_, rfl⟩
  rw [← hob'] at HC0 ⊢
  have hob : w.heap.size ≤ ob := by omega
  clear hmk hob'
  go_loopg [8, 21] n (fun gl s8 s21 wr => ∃ (k : Nat) (v : Value), s21 = .int .i64 k ∧ k ≤ n ∧ n ≤ gl + k ∧ Hid (∀ j t, j < k → ts[j]? = some t → ¬ tbad t) ∧ Hid (Cv wr ob w.heap.size k v (tcols (ts.take k))) ∧ Hid (Below w.heap.size w wr))
  case atStart => exact ⟨0, _, rfl, Nat.zero_le _, by omega, hide (fun j t hj => absurd hj (by omega)), HC0, HB0⟩
  case round =>
    obtain ⟨k, v, rfl, hk, hgk, HOK, HC, HB⟩ := hrel
    by_cases hlt : k < n
    · obtain ⟨t, ht⟩ : ∃ t, ts[k]? = some t := ⟨_, List.getElem?_eq_getElem (by have := HN.out; omega)⟩
      obtain ⟨b, off, rfl, hbB, c0⟩ := (HR.out.below HB.out).int ht
      have i2 : ((k : Int)).toNat = k := by omega
      have i3 : (0 : Int) ≤ (k : Int) := by omega
      have i4 : (k : Int) < (n : Int) := by omega
      have HT := hide ht
      clear ht
      go_wp2_with fail
      refine (tin_any t _).mono ?_
      by_cases htb : tbad t
      · rw [show decide (¬ tbad t) = false by simpa using htb]
        rintro e w2 ⟨rfl, rfl⟩
        go_wp2_with fail
        go_ret2
        exact .inl ⟨fun hh => hh.1 t (List.mem_of_getElem? HT.out) htb, rfl, HB.out⟩
      · rw [show decide (¬ tbad t) = true by simpa using htb]
        rintro e w2 ⟨rfl, rfl⟩
        have HCa := hide (HC.out.on ((Below.refl wr.heap.size wr).alloc (Nat.le_refl _) (.cells #[.int .i64 0, .int .i64 0, .int .i64 t] 41)))
        have hcell := HC.out.cell
        have hsz := HB.out.size
        go_wp2_with (at_builtin; go_must (refine wpList_app rfl (.tmp 28) (.tmp 31) 29 rfl w.heap.size cols_ty _ _ _ rfl HCa.out.own (wr.heap.size + 1) (some ⟨wr.heap.size, 0, none⟩) 1 1 (Col.cells ⟨0, 0, t⟩) rfl rfl ?_ (fun u hu => cols_one [⟨0, 0, t⟩] u (by simpa [cols] using hu)) (by simp only [maxLen]; omega) (by omega) (by simp; omega) ?_); exact Rds.at_new (by simp) _ _; intro v' w3 o3 g3 b3; obtain ⟨A2, cc2, rfl, -, -, -⟩ := own_form o3; have q0 := (g3.cell_far ⟨_, _, none⟩ HCa.out.lt HCa.out.lo.symm).trans HCa.out.cell; have q1 := (g3.frozen_far ⟨_, _, none⟩ HCa.out.lt HCa.out.lo.symm).trans HCa.out.fz)
        go_roundg (gk - 1)
        case measure => omega
        case rel =>
          refine ⟨k + 1, .slice A2 (k + 1) cc2, by go_num, by omega, by omega, hide fun j t' hj ht' => ?_, hide ?_, hide ((grown_below (HB.out.alloc hsz _) HCa.out.own g3 HCa.out.le).setCell (show w.heap.size ≤ (⟨ob, 0, none⟩ : Addr).block from hob) _)⟩
          · by_cases hjk : j = k
            · subst hjk; rw [HT.out] at ht'; cases ht'; exact htb
            · exact HOK.out j t' (by omega) ht'
          · rw [tcols_snoc ts k t HT.out]
            exact HCa.out.push o3 g3 b3
    · have hkn : k = n := by omega
      subst hkn
      have HTO := hide (show ∀ t ∈ ts, ¬ tbad t from fun t ht => by
        obtain ⟨j, hj⟩ := List.getElem?_of_mem ht
        exact HOK.out j t (by have := (List.getElem?_eq_some_iff.1 hj).1; have := HN.out; omega) hj)
      rw [List.take_of_length_le (by have := HN.out; omega)] at HC
      clear HOK hgk
      go_wp2_with fail
      go_loopg [12, 37] n' (fun gl s12 s37 wo => ∃ (q : Nat) (u : Value), s37 = .int .i64 q ∧ q ≤ n' ∧ n' ≤ gl + q ∧ Hid (∀ j m, j < q → M[j]? = some m → ¬ m.bad k) ∧ Hid (Cv wo ob w.heap.size k u (wids (M.take q) (tcols ts))) ∧ Hid (Below w.heap.size w wo))
      case atStart => exact ⟨0, v, rfl, Nat.zero_le _, by omega, hide (fun j m hj => absurd hj (by omega)), HC, HB⟩
      case round =>
        clear HC HB
        obtain ⟨q, u, rfl, hq, hgq, HMO, HC, HB⟩ := hrel
        by_cases hlt2 : q < n'
        · obtain ⟨m, hm0⟩ : ∃ m, M[q]? = some m := ⟨_, List.getElem?_eq_getElem (by have := HN'.out; omega)⟩
          obtain ⟨b, off, rfl, hbB, hcs⟩ := Rds.mk (HR'.out.below HB.out) hm0
          have c0 := hcs 0 _ rfl
          have c1 := hcs 1 _ rfl
          have c2 := hcs 2 _ rfl
          have c3 := hcs 3 _ rfl
          have c4 := hcs 4 _ rfl
          have c5 := hcs 5 _ rfl
          have c6 := hcs 6 _ rfl
          have c7 := hcs 7 _ rfl
          have c8 := hcs 8 _ rfl
          have c9 := hcs 9 _ rfl
          have c10 := hcs 10 _ rfl
          have c11 := hcs 11 _ rfl
          rw [Nat.add_zero] at c0
          have i2 : ((q : Int)).toNat = q := by omega
          have i3 : (0 : Int) ≤ (q : Int) := by omega
          have i4 : (q : Int) < (n' : Int) := by omega
          have HM := hide hm0
          have HCa := hide (HC.out.on ((Below.refl wr.heap.size wr).alloc (Nat.le_refl _) (.cells #[.int .i64 m.c, .int .i64 m.i, .int .i64 m.s, .int .i64 m.f, .int .i64 m.l, .int .i64 m.g, .int .i64 m.a, .int .i64 m.b, .int .i64 m.lf, .int .i64 m.bt, .int .i64 m.rt, .int .i64 m.tp] 59)))
          have HBa := hide (HB.out.alloc HB.out.size (.cells #[.int .i64 m.c, .int .i64 m.i, .int .i64 m.s, .int .i64 m.f, .int .i64 m.l, .int .i64 m.g, .int .i64 m.a, .int .i64 m.b, .int .i64 m.lf, .int .i64 m.bt, .int .i64 m.rt, .int .i64 m.tp] 59))
          clear hm0 hcs
          go_wp2_with fail
          by_cases hbad : m.bad k
          · refine (widen_bad m ob w.heap.size k u _ _ HCa.out hbad).mono ?_
            rintro e w2 ⟨rfl, hb⟩
            have HB2 := hide (HBa.out.trans (hb.mono HBa.out.size))
            clear hb c0 c1 c2 c3 c4 c5 c6 c7 c8 c9 c10 c11
            go_wp2_with fail
            go_ret2
            exact .inl ⟨fun hh => hh.2 m (List.mem_of_getElem? HM.out) (by rw [← HN.out]; exact hbad), rfl, HB2.out⟩
          · refine (widen_ok m ob w.heap.size k u _ _ HCa.out (by rw [wids_length, tcols_length]; exact HN.out) hm hbad (HW.out m (List.mem_of_getElem? HM.out))).mono ?_
            rintro e w2 ⟨rfl, hcv, hb⟩
            have HC2 := hide hcv
            have HB2 := hide (HBa.out.trans hb)
            clear hb hcv c0 c1 c2 c3 c4 c5 c6 c7 c8 c9 c10 c11
            go_wp2_with fail
            go_roundg (gk - 1)
            case measure => omega
            case rel =>
              refine ⟨q + 1, u, by go_num, by omega, by omega, hide fun j m' hj hm' => ?_, hide ?_, HB2⟩
              · by_cases hjq : j = q
                · subst hjq; rw [HM.out] at hm'; cases hm'; exact hbad
                · exact HMO.out j m' (by omega) hm'
              · rw [wids_snoc M _ q m HM.out]
                exact HC2.out
        · have hqn : q = n' := by omega
          subst hqn
          have hall : M.take q = M := List.take_of_length_le (by have := HN'.out; omega)
          rw [hall] at HC
          have hcell := HC.out.cell
          clear hall hgq
          go_wp2_with fail
          go_ret2
          refine .inr ⟨⟨HTO.out, fun m hm => ?_⟩, u, rfl, by rw [← HN.out]; exact HC.out.own, HB.out⟩
          obtain ⟨j, hj⟩ := List.getElem?_of_mem hm
          rw [← HN.out]
          exact HMO.out j m (by have := (List.getElem?_eq_some_iff.1 hj).1; have := HN'.out; omega) hj

end Go.Proofs.Ytajkmlejklgbbaa
