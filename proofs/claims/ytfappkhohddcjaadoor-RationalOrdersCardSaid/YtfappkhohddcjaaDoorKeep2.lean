/- Facts on several blocks of two cells, carried through a region. -/
import Derived.Test.YtfappkhohddcjaaDoorKeep
namespace Go.Proofs.YtfappkhohddcjaaDoor
open Go.RowKit

def K6 (w0 : World) (x0 : Nat) (a0 b0 : Int) (x1 : Nat) (a1 b1 : Int) (x2 : Nat) (a2 b2 : Int) (x3 : Nat) (a3 b3 : Int) (x4 : Nat) (a4 b4 : Int) (x5 : Nat) (a5 b5 : Int) (w : World) : Prop := w.cell? ⟨x0, 0, none⟩ = some (.int .i64 a0) ∧ w.cell? ⟨x0, 1, none⟩ = some (.int .i64 b0) ∧ w.cell? ⟨x1, 0, none⟩ = some (.int .i64 a1) ∧ w.cell? ⟨x1, 1, none⟩ = some (.int .i64 b1) ∧ w.cell? ⟨x2, 0, none⟩ = some (.int .i64 a2) ∧ w.cell? ⟨x2, 1, none⟩ = some (.int .i64 b2) ∧ w.cell? ⟨x3, 0, none⟩ = some (.int .i64 a3) ∧ w.cell? ⟨x3, 1, none⟩ = some (.int .i64 b3) ∧ w.cell? ⟨x4, 0, none⟩ = some (.int .i64 a4) ∧ w.cell? ⟨x4, 1, none⟩ = some (.int .i64 b4) ∧ w.cell? ⟨x5, 0, none⟩ = some (.int .i64 a5) ∧ w.cell? ⟨x5, 1, none⟩ = some (.int .i64 b5) ∧ Two w x0 a0 b0 ∧ Two w x1 a1 b1 ∧ Two w x2 a2 b2 ∧ Two w x3 a3 b3 ∧ Two w x4 a4 b4 ∧ Two w x5 a5 b5 ∧ Below w0.heap.size w0 w
section
variable {w0 w1 w2 : World} {x0 x1 x2 x3 x4 x5 : Nat} {a0 b0 a1 b1 a2 b2 a3 b3 a4 b4 a5 b5 : Int}
theorem K6.of (h0 : Two w1 x0 a0 b0) (h1 : Two w1 x1 a1 b1) (h2 : Two w1 x2 a2 b2) (h3 : Two w1 x3 a3 b3) (h4 : Two w1 x4 a4 b4) (h5 : Two w1 x5 a5 b5) (hb : Below w0.heap.size w0 w1) : K6 w0 x0 a0 b0 x1 a1 b1 x2 a2 b2 x3 a3 b3 x4 a4 b4 x5 a5 b5 w1 := ⟨h0.c0, h0.c1, h1.c0, h1.c1, h2.c0, h2.c1, h3.c0, h3.c1, h4.c0, h4.c1, h5.c0, h5.c1, h0, h1, h2, h3, h4, h5, hb⟩
theorem K6.next (h : K6 w0 x0 a0 b0 x1 a1 b1 x2 a2 b2 x3 a3 b3 x4 a4 b4 x5 a5 b5 w1) (k : Below w1.heap.size w1 w2) : K6 w0 x0 a0 b0 x1 a1 b1 x2 a2 b2 x3 a3 b3 x4 a4 b4 x5 a5 b5 w2 := by
  obtain ⟨_, _, _, _, _, _, _, _, _, _, _, _, h0, h1, h2, h3, h4, h5, hb⟩ := h
  exact K6.of (h0.on k h0.lt) (h1.on k h1.lt) (h2.on k h2.lt) (h3.on k h3.lt) (h4.on k h4.lt) (h5.on k h5.lt) (on_tr hb k)
theorem K6.bel (h : K6 w0 x0 a0 b0 x1 a1 b1 x2 a2 b2 x3 a3 b3 x4 a4 b4 x5 a5 b5 w1) : Below w0.heap.size w0 w1 := by
  obtain ⟨_, _, _, _, _, _, _, _, _, _, _, _, h0, h1, h2, h3, h4, h5, hb⟩ := h
  exact hb
theorem K6.hid (h : K6 w0 x0 a0 b0 x1 a1 b1 x2 a2 b2 x3 a3 b3 x4 a4 b4 x5 a5 b5 w1) : Hid (K6 w0 x0 a0 b0 x1 a1 b1 x2 a2 b2 x3 a3 b3 x4 a4 b4 x5 a5 b5 w1) := h
theorem K6.t0 (h : K6 w0 x0 a0 b0 x1 a1 b1 x2 a2 b2 x3 a3 b3 x4 a4 b4 x5 a5 b5 w1) : Two w1 x0 a0 b0 := by
  obtain ⟨_, _, _, _, _, _, _, _, _, _, _, _, h0, h1, h2, h3, h4, h5, hb⟩ := h
  exact h0
theorem K6.t1 (h : K6 w0 x0 a0 b0 x1 a1 b1 x2 a2 b2 x3 a3 b3 x4 a4 b4 x5 a5 b5 w1) : Two w1 x1 a1 b1 := by
  obtain ⟨_, _, _, _, _, _, _, _, _, _, _, _, h0, h1, h2, h3, h4, h5, hb⟩ := h
  exact h1
theorem K6.t2 (h : K6 w0 x0 a0 b0 x1 a1 b1 x2 a2 b2 x3 a3 b3 x4 a4 b4 x5 a5 b5 w1) : Two w1 x2 a2 b2 := by
  obtain ⟨_, _, _, _, _, _, _, _, _, _, _, _, h0, h1, h2, h3, h4, h5, hb⟩ := h
  exact h2
theorem K6.t3 (h : K6 w0 x0 a0 b0 x1 a1 b1 x2 a2 b2 x3 a3 b3 x4 a4 b4 x5 a5 b5 w1) : Two w1 x3 a3 b3 := by
  obtain ⟨_, _, _, _, _, _, _, _, _, _, _, _, h0, h1, h2, h3, h4, h5, hb⟩ := h
  exact h3
theorem K6.t4 (h : K6 w0 x0 a0 b0 x1 a1 b1 x2 a2 b2 x3 a3 b3 x4 a4 b4 x5 a5 b5 w1) : Two w1 x4 a4 b4 := by
  obtain ⟨_, _, _, _, _, _, _, _, _, _, _, _, h0, h1, h2, h3, h4, h5, hb⟩ := h
  exact h4
theorem K6.t5 (h : K6 w0 x0 a0 b0 x1 a1 b1 x2 a2 b2 x3 a3 b3 x4 a4 b4 x5 a5 b5 w1) : Two w1 x5 a5 b5 := by
  obtain ⟨_, _, _, _, _, _, _, _, _, _, _, _, h0, h1, h2, h3, h4, h5, hb⟩ := h
  exact h5
theorem K6.st (h : K6 w0 x0 a0 b0 x1 a1 b1 x2 a2 b2 x3 a3 b3 x4 a4 b4 x5 a5 b5 w1) {k : Nat} (hk : k ≠ x0 ∧ k ≠ x1 ∧ k ≠ x2 ∧ k ≠ x3 ∧ k ≠ x4 ∧ k ≠ x5) (hb : w0.heap.size ≤ k) (u v : Value) : K6 w0 x0 a0 b0 x1 a1 b1 x2 a2 b2 x3 a3 b3 x4 a4 b4 x5 a5 b5 ((w1.setCell ⟨k, 0, none⟩ u).setCell ⟨k, 1, none⟩ v) := by
  obtain ⟨_, _, _, _, _, _, _, _, _, _, _, _, h0, h1, h2, h3, h4, h5, hb0⟩ := h
  exact K6.of ((h0.setOther _ _ (by omega) _).setOther _ _ (by omega) _) ((h1.setOther _ _ (by omega) _).setOther _ _ (by omega) _) ((h2.setOther _ _ (by omega) _).setOther _ _ (by omega) _) ((h3.setOther _ _ (by omega) _).setOther _ _ (by omega) _) ((h4.setOther _ _ (by omega) _).setOther _ _ (by omega) _) ((h5.setOther _ _ (by omega) _).setOther _ _ (by omega) _) ((hb0.setCell (by exact hb) _).setCell (by exact hb) _)
theorem K6.fin1 (h : K6 w0 x0 a0 b0 x1 a1 b1 x2 a2 b2 x3 a3 b3 x4 a4 b4 x5 a5 b5 w1) {k : Nat} {a b : Int} (hz : Two w1 k a b) (hk : k ≠ x0 ∧ k ≠ x1 ∧ k ≠ x2 ∧ k ≠ x3 ∧ k ≠ x4 ∧ k ≠ x5) (hb : w0.heap.size ≤ k) (m n : Int) : ∃ y, k = y ∧ Two ((w1.setCell ⟨k, 0, none⟩ (.int .i64 m)).setCell ⟨k, 1, none⟩ (.int .i64 n)) y m n ∧ K6 w0 x0 a0 b0 x1 a1 b1 x2 a2 b2 x3 a3 b3 x4 a4 b4 x5 a5 b5 ((w1.setCell ⟨k, 0, none⟩ (.int .i64 m)).setCell ⟨k, 1, none⟩ (.int .i64 n)) :=
  ⟨k, rfl, hz.set m n, h.st hk hb _ _⟩
theorem K6.fin2 (h : K6 w0 x0 a0 b0 x1 a1 b1 x2 a2 b2 x3 a3 b3 x4 a4 b4 x5 a5 b5 w1) (m n : Int) (t : TypeId) : ∃ y, w1.heap.size = y ∧ Two (w1.alloc (.cells #[.int .i64 m, .int .i64 n] t)) y m n ∧ K6 w0 x0 a0 b0 x1 a1 b1 x2 a2 b2 x3 a3 b3 x4 a4 b4 x5 a5 b5 (w1.alloc (.cells #[.int .i64 m, .int .i64 n] t)) :=
  ⟨_, rfl, Two.new w1 m n t, h.next ((Below.refl _ _).alloc (Nat.le_refl _) _)⟩
end

def K7 (w0 : World) (x0 : Nat) (a0 b0 : Int) (x1 : Nat) (a1 b1 : Int) (x2 : Nat) (a2 b2 : Int) (x3 : Nat) (a3 b3 : Int) (x4 : Nat) (a4 b4 : Int) (x5 : Nat) (a5 b5 : Int) (x6 : Nat) (a6 b6 : Int) (w : World) : Prop := w.cell? ⟨x0, 0, none⟩ = some (.int .i64 a0) ∧ w.cell? ⟨x0, 1, none⟩ = some (.int .i64 b0) ∧ w.cell? ⟨x1, 0, none⟩ = some (.int .i64 a1) ∧ w.cell? ⟨x1, 1, none⟩ = some (.int .i64 b1) ∧ w.cell? ⟨x2, 0, none⟩ = some (.int .i64 a2) ∧ w.cell? ⟨x2, 1, none⟩ = some (.int .i64 b2) ∧ w.cell? ⟨x3, 0, none⟩ = some (.int .i64 a3) ∧ w.cell? ⟨x3, 1, none⟩ = some (.int .i64 b3) ∧ w.cell? ⟨x4, 0, none⟩ = some (.int .i64 a4) ∧ w.cell? ⟨x4, 1, none⟩ = some (.int .i64 b4) ∧ w.cell? ⟨x5, 0, none⟩ = some (.int .i64 a5) ∧ w.cell? ⟨x5, 1, none⟩ = some (.int .i64 b5) ∧ w.cell? ⟨x6, 0, none⟩ = some (.int .i64 a6) ∧ w.cell? ⟨x6, 1, none⟩ = some (.int .i64 b6) ∧ Two w x0 a0 b0 ∧ Two w x1 a1 b1 ∧ Two w x2 a2 b2 ∧ Two w x3 a3 b3 ∧ Two w x4 a4 b4 ∧ Two w x5 a5 b5 ∧ Two w x6 a6 b6 ∧ Below w0.heap.size w0 w
section
variable {w0 w1 w2 : World} {x0 x1 x2 x3 x4 x5 x6 : Nat} {a0 b0 a1 b1 a2 b2 a3 b3 a4 b4 a5 b5 a6 b6 : Int}
theorem K7.of (h0 : Two w1 x0 a0 b0) (h1 : Two w1 x1 a1 b1) (h2 : Two w1 x2 a2 b2) (h3 : Two w1 x3 a3 b3) (h4 : Two w1 x4 a4 b4) (h5 : Two w1 x5 a5 b5) (h6 : Two w1 x6 a6 b6) (hb : Below w0.heap.size w0 w1) : K7 w0 x0 a0 b0 x1 a1 b1 x2 a2 b2 x3 a3 b3 x4 a4 b4 x5 a5 b5 x6 a6 b6 w1 := ⟨h0.c0, h0.c1, h1.c0, h1.c1, h2.c0, h2.c1, h3.c0, h3.c1, h4.c0, h4.c1, h5.c0, h5.c1, h6.c0, h6.c1, h0, h1, h2, h3, h4, h5, h6, hb⟩
theorem K7.next (h : K7 w0 x0 a0 b0 x1 a1 b1 x2 a2 b2 x3 a3 b3 x4 a4 b4 x5 a5 b5 x6 a6 b6 w1) (k : Below w1.heap.size w1 w2) : K7 w0 x0 a0 b0 x1 a1 b1 x2 a2 b2 x3 a3 b3 x4 a4 b4 x5 a5 b5 x6 a6 b6 w2 := by
  obtain ⟨_, _, _, _, _, _, _, _, _, _, _, _, _, _, h0, h1, h2, h3, h4, h5, h6, hb⟩ := h
  exact K7.of (h0.on k h0.lt) (h1.on k h1.lt) (h2.on k h2.lt) (h3.on k h3.lt) (h4.on k h4.lt) (h5.on k h5.lt) (h6.on k h6.lt) (on_tr hb k)
theorem K7.bel (h : K7 w0 x0 a0 b0 x1 a1 b1 x2 a2 b2 x3 a3 b3 x4 a4 b4 x5 a5 b5 x6 a6 b6 w1) : Below w0.heap.size w0 w1 := by
  obtain ⟨_, _, _, _, _, _, _, _, _, _, _, _, _, _, h0, h1, h2, h3, h4, h5, h6, hb⟩ := h
  exact hb
theorem K7.hid (h : K7 w0 x0 a0 b0 x1 a1 b1 x2 a2 b2 x3 a3 b3 x4 a4 b4 x5 a5 b5 x6 a6 b6 w1) : Hid (K7 w0 x0 a0 b0 x1 a1 b1 x2 a2 b2 x3 a3 b3 x4 a4 b4 x5 a5 b5 x6 a6 b6 w1) := h
theorem K7.t0 (h : K7 w0 x0 a0 b0 x1 a1 b1 x2 a2 b2 x3 a3 b3 x4 a4 b4 x5 a5 b5 x6 a6 b6 w1) : Two w1 x0 a0 b0 := by
  obtain ⟨_, _, _, _, _, _, _, _, _, _, _, _, _, _, h0, h1, h2, h3, h4, h5, h6, hb⟩ := h
  exact h0
theorem K7.t1 (h : K7 w0 x0 a0 b0 x1 a1 b1 x2 a2 b2 x3 a3 b3 x4 a4 b4 x5 a5 b5 x6 a6 b6 w1) : Two w1 x1 a1 b1 := by
  obtain ⟨_, _, _, _, _, _, _, _, _, _, _, _, _, _, h0, h1, h2, h3, h4, h5, h6, hb⟩ := h
  exact h1
theorem K7.t2 (h : K7 w0 x0 a0 b0 x1 a1 b1 x2 a2 b2 x3 a3 b3 x4 a4 b4 x5 a5 b5 x6 a6 b6 w1) : Two w1 x2 a2 b2 := by
  obtain ⟨_, _, _, _, _, _, _, _, _, _, _, _, _, _, h0, h1, h2, h3, h4, h5, h6, hb⟩ := h
  exact h2
theorem K7.t3 (h : K7 w0 x0 a0 b0 x1 a1 b1 x2 a2 b2 x3 a3 b3 x4 a4 b4 x5 a5 b5 x6 a6 b6 w1) : Two w1 x3 a3 b3 := by
  obtain ⟨_, _, _, _, _, _, _, _, _, _, _, _, _, _, h0, h1, h2, h3, h4, h5, h6, hb⟩ := h
  exact h3
theorem K7.t4 (h : K7 w0 x0 a0 b0 x1 a1 b1 x2 a2 b2 x3 a3 b3 x4 a4 b4 x5 a5 b5 x6 a6 b6 w1) : Two w1 x4 a4 b4 := by
  obtain ⟨_, _, _, _, _, _, _, _, _, _, _, _, _, _, h0, h1, h2, h3, h4, h5, h6, hb⟩ := h
  exact h4
theorem K7.t5 (h : K7 w0 x0 a0 b0 x1 a1 b1 x2 a2 b2 x3 a3 b3 x4 a4 b4 x5 a5 b5 x6 a6 b6 w1) : Two w1 x5 a5 b5 := by
  obtain ⟨_, _, _, _, _, _, _, _, _, _, _, _, _, _, h0, h1, h2, h3, h4, h5, h6, hb⟩ := h
  exact h5
theorem K7.t6 (h : K7 w0 x0 a0 b0 x1 a1 b1 x2 a2 b2 x3 a3 b3 x4 a4 b4 x5 a5 b5 x6 a6 b6 w1) : Two w1 x6 a6 b6 := by
  obtain ⟨_, _, _, _, _, _, _, _, _, _, _, _, _, _, h0, h1, h2, h3, h4, h5, h6, hb⟩ := h
  exact h6
theorem K7.st (h : K7 w0 x0 a0 b0 x1 a1 b1 x2 a2 b2 x3 a3 b3 x4 a4 b4 x5 a5 b5 x6 a6 b6 w1) {k : Nat} (hk : k ≠ x0 ∧ k ≠ x1 ∧ k ≠ x2 ∧ k ≠ x3 ∧ k ≠ x4 ∧ k ≠ x5 ∧ k ≠ x6) (hb : w0.heap.size ≤ k) (u v : Value) : K7 w0 x0 a0 b0 x1 a1 b1 x2 a2 b2 x3 a3 b3 x4 a4 b4 x5 a5 b5 x6 a6 b6 ((w1.setCell ⟨k, 0, none⟩ u).setCell ⟨k, 1, none⟩ v) := by
  obtain ⟨_, _, _, _, _, _, _, _, _, _, _, _, _, _, h0, h1, h2, h3, h4, h5, h6, hb0⟩ := h
  exact K7.of ((h0.setOther _ _ (by omega) _).setOther _ _ (by omega) _) ((h1.setOther _ _ (by omega) _).setOther _ _ (by omega) _) ((h2.setOther _ _ (by omega) _).setOther _ _ (by omega) _) ((h3.setOther _ _ (by omega) _).setOther _ _ (by omega) _) ((h4.setOther _ _ (by omega) _).setOther _ _ (by omega) _) ((h5.setOther _ _ (by omega) _).setOther _ _ (by omega) _) ((h6.setOther _ _ (by omega) _).setOther _ _ (by omega) _) ((hb0.setCell (by exact hb) _).setCell (by exact hb) _)
theorem K7.fin1 (h : K7 w0 x0 a0 b0 x1 a1 b1 x2 a2 b2 x3 a3 b3 x4 a4 b4 x5 a5 b5 x6 a6 b6 w1) {k : Nat} {a b : Int} (hz : Two w1 k a b) (hk : k ≠ x0 ∧ k ≠ x1 ∧ k ≠ x2 ∧ k ≠ x3 ∧ k ≠ x4 ∧ k ≠ x5 ∧ k ≠ x6) (hb : w0.heap.size ≤ k) (m n : Int) : ∃ y, k = y ∧ Two ((w1.setCell ⟨k, 0, none⟩ (.int .i64 m)).setCell ⟨k, 1, none⟩ (.int .i64 n)) y m n ∧ K7 w0 x0 a0 b0 x1 a1 b1 x2 a2 b2 x3 a3 b3 x4 a4 b4 x5 a5 b5 x6 a6 b6 ((w1.setCell ⟨k, 0, none⟩ (.int .i64 m)).setCell ⟨k, 1, none⟩ (.int .i64 n)) :=
  ⟨k, rfl, hz.set m n, h.st hk hb _ _⟩
theorem K7.fin2 (h : K7 w0 x0 a0 b0 x1 a1 b1 x2 a2 b2 x3 a3 b3 x4 a4 b4 x5 a5 b5 x6 a6 b6 w1) (m n : Int) (t : TypeId) : ∃ y, w1.heap.size = y ∧ Two (w1.alloc (.cells #[.int .i64 m, .int .i64 n] t)) y m n ∧ K7 w0 x0 a0 b0 x1 a1 b1 x2 a2 b2 x3 a3 b3 x4 a4 b4 x5 a5 b5 x6 a6 b6 (w1.alloc (.cells #[.int .i64 m, .int .i64 n] t)) :=
  ⟨_, rfl, Two.new w1 m n t, h.next ((Below.refl _ _).alloc (Nat.le_refl _) _)⟩
end

def K8 (w0 : World) (x0 : Nat) (a0 b0 : Int) (x1 : Nat) (a1 b1 : Int) (x2 : Nat) (a2 b2 : Int) (x3 : Nat) (a3 b3 : Int) (x4 : Nat) (a4 b4 : Int) (x5 : Nat) (a5 b5 : Int) (x6 : Nat) (a6 b6 : Int) (x7 : Nat) (a7 b7 : Int) (w : World) : Prop := w.cell? ⟨x0, 0, none⟩ = some (.int .i64 a0) ∧ w.cell? ⟨x0, 1, none⟩ = some (.int .i64 b0) ∧ w.cell? ⟨x1, 0, none⟩ = some (.int .i64 a1) ∧ w.cell? ⟨x1, 1, none⟩ = some (.int .i64 b1) ∧ w.cell? ⟨x2, 0, none⟩ = some (.int .i64 a2) ∧ w.cell? ⟨x2, 1, none⟩ = some (.int .i64 b2) ∧ w.cell? ⟨x3, 0, none⟩ = some (.int .i64 a3) ∧ w.cell? ⟨x3, 1, none⟩ = some (.int .i64 b3) ∧ w.cell? ⟨x4, 0, none⟩ = some (.int .i64 a4) ∧ w.cell? ⟨x4, 1, none⟩ = some (.int .i64 b4) ∧ w.cell? ⟨x5, 0, none⟩ = some (.int .i64 a5) ∧ w.cell? ⟨x5, 1, none⟩ = some (.int .i64 b5) ∧ w.cell? ⟨x6, 0, none⟩ = some (.int .i64 a6) ∧ w.cell? ⟨x6, 1, none⟩ = some (.int .i64 b6) ∧ w.cell? ⟨x7, 0, none⟩ = some (.int .i64 a7) ∧ w.cell? ⟨x7, 1, none⟩ = some (.int .i64 b7) ∧ Two w x0 a0 b0 ∧ Two w x1 a1 b1 ∧ Two w x2 a2 b2 ∧ Two w x3 a3 b3 ∧ Two w x4 a4 b4 ∧ Two w x5 a5 b5 ∧ Two w x6 a6 b6 ∧ Two w x7 a7 b7 ∧ Below w0.heap.size w0 w
section
variable {w0 w1 w2 : World} {x0 x1 x2 x3 x4 x5 x6 x7 : Nat} {a0 b0 a1 b1 a2 b2 a3 b3 a4 b4 a5 b5 a6 b6 a7 b7 : Int}
theorem K8.of (h0 : Two w1 x0 a0 b0) (h1 : Two w1 x1 a1 b1) (h2 : Two w1 x2 a2 b2) (h3 : Two w1 x3 a3 b3) (h4 : Two w1 x4 a4 b4) (h5 : Two w1 x5 a5 b5) (h6 : Two w1 x6 a6 b6) (h7 : Two w1 x7 a7 b7) (hb : Below w0.heap.size w0 w1) : K8 w0 x0 a0 b0 x1 a1 b1 x2 a2 b2 x3 a3 b3 x4 a4 b4 x5 a5 b5 x6 a6 b6 x7 a7 b7 w1 := ⟨h0.c0, h0.c1, h1.c0, h1.c1, h2.c0, h2.c1, h3.c0, h3.c1, h4.c0, h4.c1, h5.c0, h5.c1, h6.c0, h6.c1, h7.c0, h7.c1, h0, h1, h2, h3, h4, h5, h6, h7, hb⟩
theorem K8.next (h : K8 w0 x0 a0 b0 x1 a1 b1 x2 a2 b2 x3 a3 b3 x4 a4 b4 x5 a5 b5 x6 a6 b6 x7 a7 b7 w1) (k : Below w1.heap.size w1 w2) : K8 w0 x0 a0 b0 x1 a1 b1 x2 a2 b2 x3 a3 b3 x4 a4 b4 x5 a5 b5 x6 a6 b6 x7 a7 b7 w2 := by
  obtain ⟨_, _, _, _, _, _, _, _, _, _, _, _, _, _, _, _, h0, h1, h2, h3, h4, h5, h6, h7, hb⟩ := h
  exact K8.of (h0.on k h0.lt) (h1.on k h1.lt) (h2.on k h2.lt) (h3.on k h3.lt) (h4.on k h4.lt) (h5.on k h5.lt) (h6.on k h6.lt) (h7.on k h7.lt) (on_tr hb k)
theorem K8.bel (h : K8 w0 x0 a0 b0 x1 a1 b1 x2 a2 b2 x3 a3 b3 x4 a4 b4 x5 a5 b5 x6 a6 b6 x7 a7 b7 w1) : Below w0.heap.size w0 w1 := by
  obtain ⟨_, _, _, _, _, _, _, _, _, _, _, _, _, _, _, _, h0, h1, h2, h3, h4, h5, h6, h7, hb⟩ := h
  exact hb
theorem K8.hid (h : K8 w0 x0 a0 b0 x1 a1 b1 x2 a2 b2 x3 a3 b3 x4 a4 b4 x5 a5 b5 x6 a6 b6 x7 a7 b7 w1) : Hid (K8 w0 x0 a0 b0 x1 a1 b1 x2 a2 b2 x3 a3 b3 x4 a4 b4 x5 a5 b5 x6 a6 b6 x7 a7 b7 w1) := h
theorem K8.t0 (h : K8 w0 x0 a0 b0 x1 a1 b1 x2 a2 b2 x3 a3 b3 x4 a4 b4 x5 a5 b5 x6 a6 b6 x7 a7 b7 w1) : Two w1 x0 a0 b0 := by
  obtain ⟨_, _, _, _, _, _, _, _, _, _, _, _, _, _, _, _, h0, h1, h2, h3, h4, h5, h6, h7, hb⟩ := h
  exact h0
theorem K8.t1 (h : K8 w0 x0 a0 b0 x1 a1 b1 x2 a2 b2 x3 a3 b3 x4 a4 b4 x5 a5 b5 x6 a6 b6 x7 a7 b7 w1) : Two w1 x1 a1 b1 := by
  obtain ⟨_, _, _, _, _, _, _, _, _, _, _, _, _, _, _, _, h0, h1, h2, h3, h4, h5, h6, h7, hb⟩ := h
  exact h1
theorem K8.t2 (h : K8 w0 x0 a0 b0 x1 a1 b1 x2 a2 b2 x3 a3 b3 x4 a4 b4 x5 a5 b5 x6 a6 b6 x7 a7 b7 w1) : Two w1 x2 a2 b2 := by
  obtain ⟨_, _, _, _, _, _, _, _, _, _, _, _, _, _, _, _, h0, h1, h2, h3, h4, h5, h6, h7, hb⟩ := h
  exact h2
theorem K8.t3 (h : K8 w0 x0 a0 b0 x1 a1 b1 x2 a2 b2 x3 a3 b3 x4 a4 b4 x5 a5 b5 x6 a6 b6 x7 a7 b7 w1) : Two w1 x3 a3 b3 := by
  obtain ⟨_, _, _, _, _, _, _, _, _, _, _, _, _, _, _, _, h0, h1, h2, h3, h4, h5, h6, h7, hb⟩ := h
  exact h3
theorem K8.t4 (h : K8 w0 x0 a0 b0 x1 a1 b1 x2 a2 b2 x3 a3 b3 x4 a4 b4 x5 a5 b5 x6 a6 b6 x7 a7 b7 w1) : Two w1 x4 a4 b4 := by
  obtain ⟨_, _, _, _, _, _, _, _, _, _, _, _, _, _, _, _, h0, h1, h2, h3, h4, h5, h6, h7, hb⟩ := h
  exact h4
theorem K8.t5 (h : K8 w0 x0 a0 b0 x1 a1 b1 x2 a2 b2 x3 a3 b3 x4 a4 b4 x5 a5 b5 x6 a6 b6 x7 a7 b7 w1) : Two w1 x5 a5 b5 := by
  obtain ⟨_, _, _, _, _, _, _, _, _, _, _, _, _, _, _, _, h0, h1, h2, h3, h4, h5, h6, h7, hb⟩ := h
  exact h5
theorem K8.t6 (h : K8 w0 x0 a0 b0 x1 a1 b1 x2 a2 b2 x3 a3 b3 x4 a4 b4 x5 a5 b5 x6 a6 b6 x7 a7 b7 w1) : Two w1 x6 a6 b6 := by
  obtain ⟨_, _, _, _, _, _, _, _, _, _, _, _, _, _, _, _, h0, h1, h2, h3, h4, h5, h6, h7, hb⟩ := h
  exact h6
theorem K8.t7 (h : K8 w0 x0 a0 b0 x1 a1 b1 x2 a2 b2 x3 a3 b3 x4 a4 b4 x5 a5 b5 x6 a6 b6 x7 a7 b7 w1) : Two w1 x7 a7 b7 := by
  obtain ⟨_, _, _, _, _, _, _, _, _, _, _, _, _, _, _, _, h0, h1, h2, h3, h4, h5, h6, h7, hb⟩ := h
  exact h7
theorem K8.st (h : K8 w0 x0 a0 b0 x1 a1 b1 x2 a2 b2 x3 a3 b3 x4 a4 b4 x5 a5 b5 x6 a6 b6 x7 a7 b7 w1) {k : Nat} (hk : k ≠ x0 ∧ k ≠ x1 ∧ k ≠ x2 ∧ k ≠ x3 ∧ k ≠ x4 ∧ k ≠ x5 ∧ k ≠ x6 ∧ k ≠ x7) (hb : w0.heap.size ≤ k) (u v : Value) : K8 w0 x0 a0 b0 x1 a1 b1 x2 a2 b2 x3 a3 b3 x4 a4 b4 x5 a5 b5 x6 a6 b6 x7 a7 b7 ((w1.setCell ⟨k, 0, none⟩ u).setCell ⟨k, 1, none⟩ v) := by
  obtain ⟨_, _, _, _, _, _, _, _, _, _, _, _, _, _, _, _, h0, h1, h2, h3, h4, h5, h6, h7, hb0⟩ := h
  exact K8.of ((h0.setOther _ _ (by omega) _).setOther _ _ (by omega) _) ((h1.setOther _ _ (by omega) _).setOther _ _ (by omega) _) ((h2.setOther _ _ (by omega) _).setOther _ _ (by omega) _) ((h3.setOther _ _ (by omega) _).setOther _ _ (by omega) _) ((h4.setOther _ _ (by omega) _).setOther _ _ (by omega) _) ((h5.setOther _ _ (by omega) _).setOther _ _ (by omega) _) ((h6.setOther _ _ (by omega) _).setOther _ _ (by omega) _) ((h7.setOther _ _ (by omega) _).setOther _ _ (by omega) _) ((hb0.setCell (by exact hb) _).setCell (by exact hb) _)
theorem K8.fin1 (h : K8 w0 x0 a0 b0 x1 a1 b1 x2 a2 b2 x3 a3 b3 x4 a4 b4 x5 a5 b5 x6 a6 b6 x7 a7 b7 w1) {k : Nat} {a b : Int} (hz : Two w1 k a b) (hk : k ≠ x0 ∧ k ≠ x1 ∧ k ≠ x2 ∧ k ≠ x3 ∧ k ≠ x4 ∧ k ≠ x5 ∧ k ≠ x6 ∧ k ≠ x7) (hb : w0.heap.size ≤ k) (m n : Int) : ∃ y, k = y ∧ Two ((w1.setCell ⟨k, 0, none⟩ (.int .i64 m)).setCell ⟨k, 1, none⟩ (.int .i64 n)) y m n ∧ K8 w0 x0 a0 b0 x1 a1 b1 x2 a2 b2 x3 a3 b3 x4 a4 b4 x5 a5 b5 x6 a6 b6 x7 a7 b7 ((w1.setCell ⟨k, 0, none⟩ (.int .i64 m)).setCell ⟨k, 1, none⟩ (.int .i64 n)) :=
  ⟨k, rfl, hz.set m n, h.st hk hb _ _⟩
theorem K8.fin2 (h : K8 w0 x0 a0 b0 x1 a1 b1 x2 a2 b2 x3 a3 b3 x4 a4 b4 x5 a5 b5 x6 a6 b6 x7 a7 b7 w1) (m n : Int) (t : TypeId) : ∃ y, w1.heap.size = y ∧ Two (w1.alloc (.cells #[.int .i64 m, .int .i64 n] t)) y m n ∧ K8 w0 x0 a0 b0 x1 a1 b1 x2 a2 b2 x3 a3 b3 x4 a4 b4 x5 a5 b5 x6 a6 b6 x7 a7 b7 (w1.alloc (.cells #[.int .i64 m, .int .i64 n] t)) :=
  ⟨_, rfl, Two.new w1 m n t, h.next ((Below.refl _ _).alloc (Nat.le_refl _) _)⟩
end

def K9 (w0 : World) (x0 : Nat) (a0 b0 : Int) (x1 : Nat) (a1 b1 : Int) (x2 : Nat) (a2 b2 : Int) (x3 : Nat) (a3 b3 : Int) (x4 : Nat) (a4 b4 : Int) (x5 : Nat) (a5 b5 : Int) (x6 : Nat) (a6 b6 : Int) (x7 : Nat) (a7 b7 : Int) (x8 : Nat) (a8 b8 : Int) (w : World) : Prop := w.cell? ⟨x0, 0, none⟩ = some (.int .i64 a0) ∧ w.cell? ⟨x0, 1, none⟩ = some (.int .i64 b0) ∧ w.cell? ⟨x1, 0, none⟩ = some (.int .i64 a1) ∧ w.cell? ⟨x1, 1, none⟩ = some (.int .i64 b1) ∧ w.cell? ⟨x2, 0, none⟩ = some (.int .i64 a2) ∧ w.cell? ⟨x2, 1, none⟩ = some (.int .i64 b2) ∧ w.cell? ⟨x3, 0, none⟩ = some (.int .i64 a3) ∧ w.cell? ⟨x3, 1, none⟩ = some (.int .i64 b3) ∧ w.cell? ⟨x4, 0, none⟩ = some (.int .i64 a4) ∧ w.cell? ⟨x4, 1, none⟩ = some (.int .i64 b4) ∧ w.cell? ⟨x5, 0, none⟩ = some (.int .i64 a5) ∧ w.cell? ⟨x5, 1, none⟩ = some (.int .i64 b5) ∧ w.cell? ⟨x6, 0, none⟩ = some (.int .i64 a6) ∧ w.cell? ⟨x6, 1, none⟩ = some (.int .i64 b6) ∧ w.cell? ⟨x7, 0, none⟩ = some (.int .i64 a7) ∧ w.cell? ⟨x7, 1, none⟩ = some (.int .i64 b7) ∧ w.cell? ⟨x8, 0, none⟩ = some (.int .i64 a8) ∧ w.cell? ⟨x8, 1, none⟩ = some (.int .i64 b8) ∧ Two w x0 a0 b0 ∧ Two w x1 a1 b1 ∧ Two w x2 a2 b2 ∧ Two w x3 a3 b3 ∧ Two w x4 a4 b4 ∧ Two w x5 a5 b5 ∧ Two w x6 a6 b6 ∧ Two w x7 a7 b7 ∧ Two w x8 a8 b8 ∧ Below w0.heap.size w0 w
section
variable {w0 w1 w2 : World} {x0 x1 x2 x3 x4 x5 x6 x7 x8 : Nat} {a0 b0 a1 b1 a2 b2 a3 b3 a4 b4 a5 b5 a6 b6 a7 b7 a8 b8 : Int}
theorem K9.of (h0 : Two w1 x0 a0 b0) (h1 : Two w1 x1 a1 b1) (h2 : Two w1 x2 a2 b2) (h3 : Two w1 x3 a3 b3) (h4 : Two w1 x4 a4 b4) (h5 : Two w1 x5 a5 b5) (h6 : Two w1 x6 a6 b6) (h7 : Two w1 x7 a7 b7) (h8 : Two w1 x8 a8 b8) (hb : Below w0.heap.size w0 w1) : K9 w0 x0 a0 b0 x1 a1 b1 x2 a2 b2 x3 a3 b3 x4 a4 b4 x5 a5 b5 x6 a6 b6 x7 a7 b7 x8 a8 b8 w1 := ⟨h0.c0, h0.c1, h1.c0, h1.c1, h2.c0, h2.c1, h3.c0, h3.c1, h4.c0, h4.c1, h5.c0, h5.c1, h6.c0, h6.c1, h7.c0, h7.c1, h8.c0, h8.c1, h0, h1, h2, h3, h4, h5, h6, h7, h8, hb⟩
theorem K9.next (h : K9 w0 x0 a0 b0 x1 a1 b1 x2 a2 b2 x3 a3 b3 x4 a4 b4 x5 a5 b5 x6 a6 b6 x7 a7 b7 x8 a8 b8 w1) (k : Below w1.heap.size w1 w2) : K9 w0 x0 a0 b0 x1 a1 b1 x2 a2 b2 x3 a3 b3 x4 a4 b4 x5 a5 b5 x6 a6 b6 x7 a7 b7 x8 a8 b8 w2 := by
  obtain ⟨_, _, _, _, _, _, _, _, _, _, _, _, _, _, _, _, _, _, h0, h1, h2, h3, h4, h5, h6, h7, h8, hb⟩ := h
  exact K9.of (h0.on k h0.lt) (h1.on k h1.lt) (h2.on k h2.lt) (h3.on k h3.lt) (h4.on k h4.lt) (h5.on k h5.lt) (h6.on k h6.lt) (h7.on k h7.lt) (h8.on k h8.lt) (on_tr hb k)
theorem K9.bel (h : K9 w0 x0 a0 b0 x1 a1 b1 x2 a2 b2 x3 a3 b3 x4 a4 b4 x5 a5 b5 x6 a6 b6 x7 a7 b7 x8 a8 b8 w1) : Below w0.heap.size w0 w1 := by
  obtain ⟨_, _, _, _, _, _, _, _, _, _, _, _, _, _, _, _, _, _, h0, h1, h2, h3, h4, h5, h6, h7, h8, hb⟩ := h
  exact hb
theorem K9.hid (h : K9 w0 x0 a0 b0 x1 a1 b1 x2 a2 b2 x3 a3 b3 x4 a4 b4 x5 a5 b5 x6 a6 b6 x7 a7 b7 x8 a8 b8 w1) : Hid (K9 w0 x0 a0 b0 x1 a1 b1 x2 a2 b2 x3 a3 b3 x4 a4 b4 x5 a5 b5 x6 a6 b6 x7 a7 b7 x8 a8 b8 w1) := h
theorem K9.t0 (h : K9 w0 x0 a0 b0 x1 a1 b1 x2 a2 b2 x3 a3 b3 x4 a4 b4 x5 a5 b5 x6 a6 b6 x7 a7 b7 x8 a8 b8 w1) : Two w1 x0 a0 b0 := by
  obtain ⟨_, _, _, _, _, _, _, _, _, _, _, _, _, _, _, _, _, _, h0, h1, h2, h3, h4, h5, h6, h7, h8, hb⟩ := h
  exact h0
theorem K9.t1 (h : K9 w0 x0 a0 b0 x1 a1 b1 x2 a2 b2 x3 a3 b3 x4 a4 b4 x5 a5 b5 x6 a6 b6 x7 a7 b7 x8 a8 b8 w1) : Two w1 x1 a1 b1 := by
  obtain ⟨_, _, _, _, _, _, _, _, _, _, _, _, _, _, _, _, _, _, h0, h1, h2, h3, h4, h5, h6, h7, h8, hb⟩ := h
  exact h1
theorem K9.t2 (h : K9 w0 x0 a0 b0 x1 a1 b1 x2 a2 b2 x3 a3 b3 x4 a4 b4 x5 a5 b5 x6 a6 b6 x7 a7 b7 x8 a8 b8 w1) : Two w1 x2 a2 b2 := by
  obtain ⟨_, _, _, _, _, _, _, _, _, _, _, _, _, _, _, _, _, _, h0, h1, h2, h3, h4, h5, h6, h7, h8, hb⟩ := h
  exact h2
theorem K9.t3 (h : K9 w0 x0 a0 b0 x1 a1 b1 x2 a2 b2 x3 a3 b3 x4 a4 b4 x5 a5 b5 x6 a6 b6 x7 a7 b7 x8 a8 b8 w1) : Two w1 x3 a3 b3 := by
  obtain ⟨_, _, _, _, _, _, _, _, _, _, _, _, _, _, _, _, _, _, h0, h1, h2, h3, h4, h5, h6, h7, h8, hb⟩ := h
  exact h3
theorem K9.t4 (h : K9 w0 x0 a0 b0 x1 a1 b1 x2 a2 b2 x3 a3 b3 x4 a4 b4 x5 a5 b5 x6 a6 b6 x7 a7 b7 x8 a8 b8 w1) : Two w1 x4 a4 b4 := by
  obtain ⟨_, _, _, _, _, _, _, _, _, _, _, _, _, _, _, _, _, _, h0, h1, h2, h3, h4, h5, h6, h7, h8, hb⟩ := h
  exact h4
theorem K9.t5 (h : K9 w0 x0 a0 b0 x1 a1 b1 x2 a2 b2 x3 a3 b3 x4 a4 b4 x5 a5 b5 x6 a6 b6 x7 a7 b7 x8 a8 b8 w1) : Two w1 x5 a5 b5 := by
  obtain ⟨_, _, _, _, _, _, _, _, _, _, _, _, _, _, _, _, _, _, h0, h1, h2, h3, h4, h5, h6, h7, h8, hb⟩ := h
  exact h5
theorem K9.t6 (h : K9 w0 x0 a0 b0 x1 a1 b1 x2 a2 b2 x3 a3 b3 x4 a4 b4 x5 a5 b5 x6 a6 b6 x7 a7 b7 x8 a8 b8 w1) : Two w1 x6 a6 b6 := by
  obtain ⟨_, _, _, _, _, _, _, _, _, _, _, _, _, _, _, _, _, _, h0, h1, h2, h3, h4, h5, h6, h7, h8, hb⟩ := h
  exact h6
theorem K9.t7 (h : K9 w0 x0 a0 b0 x1 a1 b1 x2 a2 b2 x3 a3 b3 x4 a4 b4 x5 a5 b5 x6 a6 b6 x7 a7 b7 x8 a8 b8 w1) : Two w1 x7 a7 b7 := by
  obtain ⟨_, _, _, _, _, _, _, _, _, _, _, _, _, _, _, _, _, _, h0, h1, h2, h3, h4, h5, h6, h7, h8, hb⟩ := h
  exact h7
theorem K9.t8 (h : K9 w0 x0 a0 b0 x1 a1 b1 x2 a2 b2 x3 a3 b3 x4 a4 b4 x5 a5 b5 x6 a6 b6 x7 a7 b7 x8 a8 b8 w1) : Two w1 x8 a8 b8 := by
  obtain ⟨_, _, _, _, _, _, _, _, _, _, _, _, _, _, _, _, _, _, h0, h1, h2, h3, h4, h5, h6, h7, h8, hb⟩ := h
  exact h8
theorem K9.st (h : K9 w0 x0 a0 b0 x1 a1 b1 x2 a2 b2 x3 a3 b3 x4 a4 b4 x5 a5 b5 x6 a6 b6 x7 a7 b7 x8 a8 b8 w1) {k : Nat} (hk : k ≠ x0 ∧ k ≠ x1 ∧ k ≠ x2 ∧ k ≠ x3 ∧ k ≠ x4 ∧ k ≠ x5 ∧ k ≠ x6 ∧ k ≠ x7 ∧ k ≠ x8) (hb : w0.heap.size ≤ k) (u v : Value) : K9 w0 x0 a0 b0 x1 a1 b1 x2 a2 b2 x3 a3 b3 x4 a4 b4 x5 a5 b5 x6 a6 b6 x7 a7 b7 x8 a8 b8 ((w1.setCell ⟨k, 0, none⟩ u).setCell ⟨k, 1, none⟩ v) := by
  obtain ⟨_, _, _, _, _, _, _, _, _, _, _, _, _, _, _, _, _, _, h0, h1, h2, h3, h4, h5, h6, h7, h8, hb0⟩ := h
  exact K9.of ((h0.setOther _ _ (by omega) _).setOther _ _ (by omega) _) ((h1.setOther _ _ (by omega) _).setOther _ _ (by omega) _) ((h2.setOther _ _ (by omega) _).setOther _ _ (by omega) _) ((h3.setOther _ _ (by omega) _).setOther _ _ (by omega) _) ((h4.setOther _ _ (by omega) _).setOther _ _ (by omega) _) ((h5.setOther _ _ (by omega) _).setOther _ _ (by omega) _) ((h6.setOther _ _ (by omega) _).setOther _ _ (by omega) _) ((h7.setOther _ _ (by omega) _).setOther _ _ (by omega) _) ((h8.setOther _ _ (by omega) _).setOther _ _ (by omega) _) ((hb0.setCell (by exact hb) _).setCell (by exact hb) _)
theorem K9.fin1 (h : K9 w0 x0 a0 b0 x1 a1 b1 x2 a2 b2 x3 a3 b3 x4 a4 b4 x5 a5 b5 x6 a6 b6 x7 a7 b7 x8 a8 b8 w1) {k : Nat} {a b : Int} (hz : Two w1 k a b) (hk : k ≠ x0 ∧ k ≠ x1 ∧ k ≠ x2 ∧ k ≠ x3 ∧ k ≠ x4 ∧ k ≠ x5 ∧ k ≠ x6 ∧ k ≠ x7 ∧ k ≠ x8) (hb : w0.heap.size ≤ k) (m n : Int) : ∃ y, k = y ∧ Two ((w1.setCell ⟨k, 0, none⟩ (.int .i64 m)).setCell ⟨k, 1, none⟩ (.int .i64 n)) y m n ∧ K9 w0 x0 a0 b0 x1 a1 b1 x2 a2 b2 x3 a3 b3 x4 a4 b4 x5 a5 b5 x6 a6 b6 x7 a7 b7 x8 a8 b8 ((w1.setCell ⟨k, 0, none⟩ (.int .i64 m)).setCell ⟨k, 1, none⟩ (.int .i64 n)) :=
  ⟨k, rfl, hz.set m n, h.st hk hb _ _⟩
theorem K9.fin2 (h : K9 w0 x0 a0 b0 x1 a1 b1 x2 a2 b2 x3 a3 b3 x4 a4 b4 x5 a5 b5 x6 a6 b6 x7 a7 b7 x8 a8 b8 w1) (m n : Int) (t : TypeId) : ∃ y, w1.heap.size = y ∧ Two (w1.alloc (.cells #[.int .i64 m, .int .i64 n] t)) y m n ∧ K9 w0 x0 a0 b0 x1 a1 b1 x2 a2 b2 x3 a3 b3 x4 a4 b4 x5 a5 b5 x6 a6 b6 x7 a7 b7 x8 a8 b8 (w1.alloc (.cells #[.int .i64 m, .int .i64 n] t)) :=
  ⟨_, rfl, Two.new w1 m n t, h.next ((Below.refl _ _).alloc (Nat.le_refl _) _)⟩
end

def K10 (w0 : World) (x0 : Nat) (a0 b0 : Int) (x1 : Nat) (a1 b1 : Int) (x2 : Nat) (a2 b2 : Int) (x3 : Nat) (a3 b3 : Int) (x4 : Nat) (a4 b4 : Int) (x5 : Nat) (a5 b5 : Int) (x6 : Nat) (a6 b6 : Int) (x7 : Nat) (a7 b7 : Int) (x8 : Nat) (a8 b8 : Int) (x9 : Nat) (a9 b9 : Int) (w : World) : Prop := w.cell? ⟨x0, 0, none⟩ = some (.int .i64 a0) ∧ w.cell? ⟨x0, 1, none⟩ = some (.int .i64 b0) ∧ w.cell? ⟨x1, 0, none⟩ = some (.int .i64 a1) ∧ w.cell? ⟨x1, 1, none⟩ = some (.int .i64 b1) ∧ w.cell? ⟨x2, 0, none⟩ = some (.int .i64 a2) ∧ w.cell? ⟨x2, 1, none⟩ = some (.int .i64 b2) ∧ w.cell? ⟨x3, 0, none⟩ = some (.int .i64 a3) ∧ w.cell? ⟨x3, 1, none⟩ = some (.int .i64 b3) ∧ w.cell? ⟨x4, 0, none⟩ = some (.int .i64 a4) ∧ w.cell? ⟨x4, 1, none⟩ = some (.int .i64 b4) ∧ w.cell? ⟨x5, 0, none⟩ = some (.int .i64 a5) ∧ w.cell? ⟨x5, 1, none⟩ = some (.int .i64 b5) ∧ w.cell? ⟨x6, 0, none⟩ = some (.int .i64 a6) ∧ w.cell? ⟨x6, 1, none⟩ = some (.int .i64 b6) ∧ w.cell? ⟨x7, 0, none⟩ = some (.int .i64 a7) ∧ w.cell? ⟨x7, 1, none⟩ = some (.int .i64 b7) ∧ w.cell? ⟨x8, 0, none⟩ = some (.int .i64 a8) ∧ w.cell? ⟨x8, 1, none⟩ = some (.int .i64 b8) ∧ w.cell? ⟨x9, 0, none⟩ = some (.int .i64 a9) ∧ w.cell? ⟨x9, 1, none⟩ = some (.int .i64 b9) ∧ Two w x0 a0 b0 ∧ Two w x1 a1 b1 ∧ Two w x2 a2 b2 ∧ Two w x3 a3 b3 ∧ Two w x4 a4 b4 ∧ Two w x5 a5 b5 ∧ Two w x6 a6 b6 ∧ Two w x7 a7 b7 ∧ Two w x8 a8 b8 ∧ Two w x9 a9 b9 ∧ Below w0.heap.size w0 w
section
variable {w0 w1 w2 : World} {x0 x1 x2 x3 x4 x5 x6 x7 x8 x9 : Nat} {a0 b0 a1 b1 a2 b2 a3 b3 a4 b4 a5 b5 a6 b6 a7 b7 a8 b8 a9 b9 : Int}
theorem K10.of (h0 : Two w1 x0 a0 b0) (h1 : Two w1 x1 a1 b1) (h2 : Two w1 x2 a2 b2) (h3 : Two w1 x3 a3 b3) (h4 : Two w1 x4 a4 b4) (h5 : Two w1 x5 a5 b5) (h6 : Two w1 x6 a6 b6) (h7 : Two w1 x7 a7 b7) (h8 : Two w1 x8 a8 b8) (h9 : Two w1 x9 a9 b9) (hb : Below w0.heap.size w0 w1) : K10 w0 x0 a0 b0 x1 a1 b1 x2 a2 b2 x3 a3 b3 x4 a4 b4 x5 a5 b5 x6 a6 b6 x7 a7 b7 x8 a8 b8 x9 a9 b9 w1 := ⟨h0.c0, h0.c1, h1.c0, h1.c1, h2.c0, h2.c1, h3.c0, h3.c1, h4.c0, h4.c1, h5.c0, h5.c1, h6.c0, h6.c1, h7.c0, h7.c1, h8.c0, h8.c1, h9.c0, h9.c1, h0, h1, h2, h3, h4, h5, h6, h7, h8, h9, hb⟩
theorem K10.next (h : K10 w0 x0 a0 b0 x1 a1 b1 x2 a2 b2 x3 a3 b3 x4 a4 b4 x5 a5 b5 x6 a6 b6 x7 a7 b7 x8 a8 b8 x9 a9 b9 w1) (k : Below w1.heap.size w1 w2) : K10 w0 x0 a0 b0 x1 a1 b1 x2 a2 b2 x3 a3 b3 x4 a4 b4 x5 a5 b5 x6 a6 b6 x7 a7 b7 x8 a8 b8 x9 a9 b9 w2 := by
  obtain ⟨_, _, _, _, _, _, _, _, _, _, _, _, _, _, _, _, _, _, _, _, h0, h1, h2, h3, h4, h5, h6, h7, h8, h9, hb⟩ := h
  exact K10.of (h0.on k h0.lt) (h1.on k h1.lt) (h2.on k h2.lt) (h3.on k h3.lt) (h4.on k h4.lt) (h5.on k h5.lt) (h6.on k h6.lt) (h7.on k h7.lt) (h8.on k h8.lt) (h9.on k h9.lt) (on_tr hb k)
theorem K10.bel (h : K10 w0 x0 a0 b0 x1 a1 b1 x2 a2 b2 x3 a3 b3 x4 a4 b4 x5 a5 b5 x6 a6 b6 x7 a7 b7 x8 a8 b8 x9 a9 b9 w1) : Below w0.heap.size w0 w1 := by
  obtain ⟨_, _, _, _, _, _, _, _, _, _, _, _, _, _, _, _, _, _, _, _, h0, h1, h2, h3, h4, h5, h6, h7, h8, h9, hb⟩ := h
  exact hb
theorem K10.hid (h : K10 w0 x0 a0 b0 x1 a1 b1 x2 a2 b2 x3 a3 b3 x4 a4 b4 x5 a5 b5 x6 a6 b6 x7 a7 b7 x8 a8 b8 x9 a9 b9 w1) : Hid (K10 w0 x0 a0 b0 x1 a1 b1 x2 a2 b2 x3 a3 b3 x4 a4 b4 x5 a5 b5 x6 a6 b6 x7 a7 b7 x8 a8 b8 x9 a9 b9 w1) := h
theorem K10.t0 (h : K10 w0 x0 a0 b0 x1 a1 b1 x2 a2 b2 x3 a3 b3 x4 a4 b4 x5 a5 b5 x6 a6 b6 x7 a7 b7 x8 a8 b8 x9 a9 b9 w1) : Two w1 x0 a0 b0 := by
  obtain ⟨_, _, _, _, _, _, _, _, _, _, _, _, _, _, _, _, _, _, _, _, h0, h1, h2, h3, h4, h5, h6, h7, h8, h9, hb⟩ := h
  exact h0
theorem K10.t1 (h : K10 w0 x0 a0 b0 x1 a1 b1 x2 a2 b2 x3 a3 b3 x4 a4 b4 x5 a5 b5 x6 a6 b6 x7 a7 b7 x8 a8 b8 x9 a9 b9 w1) : Two w1 x1 a1 b1 := by
  obtain ⟨_, _, _, _, _, _, _, _, _, _, _, _, _, _, _, _, _, _, _, _, h0, h1, h2, h3, h4, h5, h6, h7, h8, h9, hb⟩ := h
  exact h1
theorem K10.t2 (h : K10 w0 x0 a0 b0 x1 a1 b1 x2 a2 b2 x3 a3 b3 x4 a4 b4 x5 a5 b5 x6 a6 b6 x7 a7 b7 x8 a8 b8 x9 a9 b9 w1) : Two w1 x2 a2 b2 := by
  obtain ⟨_, _, _, _, _, _, _, _, _, _, _, _, _, _, _, _, _, _, _, _, h0, h1, h2, h3, h4, h5, h6, h7, h8, h9, hb⟩ := h
  exact h2
theorem K10.t3 (h : K10 w0 x0 a0 b0 x1 a1 b1 x2 a2 b2 x3 a3 b3 x4 a4 b4 x5 a5 b5 x6 a6 b6 x7 a7 b7 x8 a8 b8 x9 a9 b9 w1) : Two w1 x3 a3 b3 := by
  obtain ⟨_, _, _, _, _, _, _, _, _, _, _, _, _, _, _, _, _, _, _, _, h0, h1, h2, h3, h4, h5, h6, h7, h8, h9, hb⟩ := h
  exact h3
theorem K10.t4 (h : K10 w0 x0 a0 b0 x1 a1 b1 x2 a2 b2 x3 a3 b3 x4 a4 b4 x5 a5 b5 x6 a6 b6 x7 a7 b7 x8 a8 b8 x9 a9 b9 w1) : Two w1 x4 a4 b4 := by
  obtain ⟨_, _, _, _, _, _, _, _, _, _, _, _, _, _, _, _, _, _, _, _, h0, h1, h2, h3, h4, h5, h6, h7, h8, h9, hb⟩ := h
  exact h4
theorem K10.t5 (h : K10 w0 x0 a0 b0 x1 a1 b1 x2 a2 b2 x3 a3 b3 x4 a4 b4 x5 a5 b5 x6 a6 b6 x7 a7 b7 x8 a8 b8 x9 a9 b9 w1) : Two w1 x5 a5 b5 := by
  obtain ⟨_, _, _, _, _, _, _, _, _, _, _, _, _, _, _, _, _, _, _, _, h0, h1, h2, h3, h4, h5, h6, h7, h8, h9, hb⟩ := h
  exact h5
theorem K10.t6 (h : K10 w0 x0 a0 b0 x1 a1 b1 x2 a2 b2 x3 a3 b3 x4 a4 b4 x5 a5 b5 x6 a6 b6 x7 a7 b7 x8 a8 b8 x9 a9 b9 w1) : Two w1 x6 a6 b6 := by
  obtain ⟨_, _, _, _, _, _, _, _, _, _, _, _, _, _, _, _, _, _, _, _, h0, h1, h2, h3, h4, h5, h6, h7, h8, h9, hb⟩ := h
  exact h6
theorem K10.t7 (h : K10 w0 x0 a0 b0 x1 a1 b1 x2 a2 b2 x3 a3 b3 x4 a4 b4 x5 a5 b5 x6 a6 b6 x7 a7 b7 x8 a8 b8 x9 a9 b9 w1) : Two w1 x7 a7 b7 := by
  obtain ⟨_, _, _, _, _, _, _, _, _, _, _, _, _, _, _, _, _, _, _, _, h0, h1, h2, h3, h4, h5, h6, h7, h8, h9, hb⟩ := h
  exact h7
theorem K10.t8 (h : K10 w0 x0 a0 b0 x1 a1 b1 x2 a2 b2 x3 a3 b3 x4 a4 b4 x5 a5 b5 x6 a6 b6 x7 a7 b7 x8 a8 b8 x9 a9 b9 w1) : Two w1 x8 a8 b8 := by
  obtain ⟨_, _, _, _, _, _, _, _, _, _, _, _, _, _, _, _, _, _, _, _, h0, h1, h2, h3, h4, h5, h6, h7, h8, h9, hb⟩ := h
  exact h8
theorem K10.t9 (h : K10 w0 x0 a0 b0 x1 a1 b1 x2 a2 b2 x3 a3 b3 x4 a4 b4 x5 a5 b5 x6 a6 b6 x7 a7 b7 x8 a8 b8 x9 a9 b9 w1) : Two w1 x9 a9 b9 := by
  obtain ⟨_, _, _, _, _, _, _, _, _, _, _, _, _, _, _, _, _, _, _, _, h0, h1, h2, h3, h4, h5, h6, h7, h8, h9, hb⟩ := h
  exact h9
theorem K10.st (h : K10 w0 x0 a0 b0 x1 a1 b1 x2 a2 b2 x3 a3 b3 x4 a4 b4 x5 a5 b5 x6 a6 b6 x7 a7 b7 x8 a8 b8 x9 a9 b9 w1) {k : Nat} (hk : k ≠ x0 ∧ k ≠ x1 ∧ k ≠ x2 ∧ k ≠ x3 ∧ k ≠ x4 ∧ k ≠ x5 ∧ k ≠ x6 ∧ k ≠ x7 ∧ k ≠ x8 ∧ k ≠ x9) (hb : w0.heap.size ≤ k) (u v : Value) : K10 w0 x0 a0 b0 x1 a1 b1 x2 a2 b2 x3 a3 b3 x4 a4 b4 x5 a5 b5 x6 a6 b6 x7 a7 b7 x8 a8 b8 x9 a9 b9 ((w1.setCell ⟨k, 0, none⟩ u).setCell ⟨k, 1, none⟩ v) := by
  obtain ⟨_, _, _, _, _, _, _, _, _, _, _, _, _, _, _, _, _, _, _, _, h0, h1, h2, h3, h4, h5, h6, h7, h8, h9, hb0⟩ := h
  exact K10.of ((h0.setOther _ _ (by omega) _).setOther _ _ (by omega) _) ((h1.setOther _ _ (by omega) _).setOther _ _ (by omega) _) ((h2.setOther _ _ (by omega) _).setOther _ _ (by omega) _) ((h3.setOther _ _ (by omega) _).setOther _ _ (by omega) _) ((h4.setOther _ _ (by omega) _).setOther _ _ (by omega) _) ((h5.setOther _ _ (by omega) _).setOther _ _ (by omega) _) ((h6.setOther _ _ (by omega) _).setOther _ _ (by omega) _) ((h7.setOther _ _ (by omega) _).setOther _ _ (by omega) _) ((h8.setOther _ _ (by omega) _).setOther _ _ (by omega) _) ((h9.setOther _ _ (by omega) _).setOther _ _ (by omega) _) ((hb0.setCell (by exact hb) _).setCell (by exact hb) _)
theorem K10.fin1 (h : K10 w0 x0 a0 b0 x1 a1 b1 x2 a2 b2 x3 a3 b3 x4 a4 b4 x5 a5 b5 x6 a6 b6 x7 a7 b7 x8 a8 b8 x9 a9 b9 w1) {k : Nat} {a b : Int} (hz : Two w1 k a b) (hk : k ≠ x0 ∧ k ≠ x1 ∧ k ≠ x2 ∧ k ≠ x3 ∧ k ≠ x4 ∧ k ≠ x5 ∧ k ≠ x6 ∧ k ≠ x7 ∧ k ≠ x8 ∧ k ≠ x9) (hb : w0.heap.size ≤ k) (m n : Int) : ∃ y, k = y ∧ Two ((w1.setCell ⟨k, 0, none⟩ (.int .i64 m)).setCell ⟨k, 1, none⟩ (.int .i64 n)) y m n ∧ K10 w0 x0 a0 b0 x1 a1 b1 x2 a2 b2 x3 a3 b3 x4 a4 b4 x5 a5 b5 x6 a6 b6 x7 a7 b7 x8 a8 b8 x9 a9 b9 ((w1.setCell ⟨k, 0, none⟩ (.int .i64 m)).setCell ⟨k, 1, none⟩ (.int .i64 n)) :=
  ⟨k, rfl, hz.set m n, h.st hk hb _ _⟩
theorem K10.fin2 (h : K10 w0 x0 a0 b0 x1 a1 b1 x2 a2 b2 x3 a3 b3 x4 a4 b4 x5 a5 b5 x6 a6 b6 x7 a7 b7 x8 a8 b8 x9 a9 b9 w1) (m n : Int) (t : TypeId) : ∃ y, w1.heap.size = y ∧ Two (w1.alloc (.cells #[.int .i64 m, .int .i64 n] t)) y m n ∧ K10 w0 x0 a0 b0 x1 a1 b1 x2 a2 b2 x3 a3 b3 x4 a4 b4 x5 a5 b5 x6 a6 b6 x7 a7 b7 x8 a8 b8 x9 a9 b9 (w1.alloc (.cells #[.int .i64 m, .int .i64 n] t)) :=
  ⟨_, rfl, Two.new w1 m n t, h.next ((Below.refl _ _).alloc (Nat.le_refl _) _)⟩
end

def K11 (w0 : World) (x0 : Nat) (a0 b0 : Int) (x1 : Nat) (a1 b1 : Int) (x2 : Nat) (a2 b2 : Int) (x3 : Nat) (a3 b3 : Int) (x4 : Nat) (a4 b4 : Int) (x5 : Nat) (a5 b5 : Int) (x6 : Nat) (a6 b6 : Int) (x7 : Nat) (a7 b7 : Int) (x8 : Nat) (a8 b8 : Int) (x9 : Nat) (a9 b9 : Int) (x10 : Nat) (a10 b10 : Int) (w : World) : Prop := w.cell? ⟨x0, 0, none⟩ = some (.int .i64 a0) ∧ w.cell? ⟨x0, 1, none⟩ = some (.int .i64 b0) ∧ w.cell? ⟨x1, 0, none⟩ = some (.int .i64 a1) ∧ w.cell? ⟨x1, 1, none⟩ = some (.int .i64 b1) ∧ w.cell? ⟨x2, 0, none⟩ = some (.int .i64 a2) ∧ w.cell? ⟨x2, 1, none⟩ = some (.int .i64 b2) ∧ w.cell? ⟨x3, 0, none⟩ = some (.int .i64 a3) ∧ w.cell? ⟨x3, 1, none⟩ = some (.int .i64 b3) ∧ w.cell? ⟨x4, 0, none⟩ = some (.int .i64 a4) ∧ w.cell? ⟨x4, 1, none⟩ = some (.int .i64 b4) ∧ w.cell? ⟨x5, 0, none⟩ = some (.int .i64 a5) ∧ w.cell? ⟨x5, 1, none⟩ = some (.int .i64 b5) ∧ w.cell? ⟨x6, 0, none⟩ = some (.int .i64 a6) ∧ w.cell? ⟨x6, 1, none⟩ = some (.int .i64 b6) ∧ w.cell? ⟨x7, 0, none⟩ = some (.int .i64 a7) ∧ w.cell? ⟨x7, 1, none⟩ = some (.int .i64 b7) ∧ w.cell? ⟨x8, 0, none⟩ = some (.int .i64 a8) ∧ w.cell? ⟨x8, 1, none⟩ = some (.int .i64 b8) ∧ w.cell? ⟨x9, 0, none⟩ = some (.int .i64 a9) ∧ w.cell? ⟨x9, 1, none⟩ = some (.int .i64 b9) ∧ w.cell? ⟨x10, 0, none⟩ = some (.int .i64 a10) ∧ w.cell? ⟨x10, 1, none⟩ = some (.int .i64 b10) ∧ Two w x0 a0 b0 ∧ Two w x1 a1 b1 ∧ Two w x2 a2 b2 ∧ Two w x3 a3 b3 ∧ Two w x4 a4 b4 ∧ Two w x5 a5 b5 ∧ Two w x6 a6 b6 ∧ Two w x7 a7 b7 ∧ Two w x8 a8 b8 ∧ Two w x9 a9 b9 ∧ Two w x10 a10 b10 ∧ Below w0.heap.size w0 w
section
variable {w0 w1 w2 : World} {x0 x1 x2 x3 x4 x5 x6 x7 x8 x9 x10 : Nat} {a0 b0 a1 b1 a2 b2 a3 b3 a4 b4 a5 b5 a6 b6 a7 b7 a8 b8 a9 b9 a10 b10 : Int}
theorem K11.of (h0 : Two w1 x0 a0 b0) (h1 : Two w1 x1 a1 b1) (h2 : Two w1 x2 a2 b2) (h3 : Two w1 x3 a3 b3) (h4 : Two w1 x4 a4 b4) (h5 : Two w1 x5 a5 b5) (h6 : Two w1 x6 a6 b6) (h7 : Two w1 x7 a7 b7) (h8 : Two w1 x8 a8 b8) (h9 : Two w1 x9 a9 b9) (h10 : Two w1 x10 a10 b10) (hb : Below w0.heap.size w0 w1) : K11 w0 x0 a0 b0 x1 a1 b1 x2 a2 b2 x3 a3 b3 x4 a4 b4 x5 a5 b5 x6 a6 b6 x7 a7 b7 x8 a8 b8 x9 a9 b9 x10 a10 b10 w1 := ⟨h0.c0, h0.c1, h1.c0, h1.c1, h2.c0, h2.c1, h3.c0, h3.c1, h4.c0, h4.c1, h5.c0, h5.c1, h6.c0, h6.c1, h7.c0, h7.c1, h8.c0, h8.c1, h9.c0, h9.c1, h10.c0, h10.c1, h0, h1, h2, h3, h4, h5, h6, h7, h8, h9, h10, hb⟩
theorem K11.next (h : K11 w0 x0 a0 b0 x1 a1 b1 x2 a2 b2 x3 a3 b3 x4 a4 b4 x5 a5 b5 x6 a6 b6 x7 a7 b7 x8 a8 b8 x9 a9 b9 x10 a10 b10 w1) (k : Below w1.heap.size w1 w2) : K11 w0 x0 a0 b0 x1 a1 b1 x2 a2 b2 x3 a3 b3 x4 a4 b4 x5 a5 b5 x6 a6 b6 x7 a7 b7 x8 a8 b8 x9 a9 b9 x10 a10 b10 w2 := by
  obtain ⟨_, _, _, _, _, _, _, _, _, _, _, _, _, _, _, _, _, _, _, _, _, _, h0, h1, h2, h3, h4, h5, h6, h7, h8, h9, h10, hb⟩ := h
  exact K11.of (h0.on k h0.lt) (h1.on k h1.lt) (h2.on k h2.lt) (h3.on k h3.lt) (h4.on k h4.lt) (h5.on k h5.lt) (h6.on k h6.lt) (h7.on k h7.lt) (h8.on k h8.lt) (h9.on k h9.lt) (h10.on k h10.lt) (on_tr hb k)
theorem K11.bel (h : K11 w0 x0 a0 b0 x1 a1 b1 x2 a2 b2 x3 a3 b3 x4 a4 b4 x5 a5 b5 x6 a6 b6 x7 a7 b7 x8 a8 b8 x9 a9 b9 x10 a10 b10 w1) : Below w0.heap.size w0 w1 := by
  obtain ⟨_, _, _, _, _, _, _, _, _, _, _, _, _, _, _, _, _, _, _, _, _, _, h0, h1, h2, h3, h4, h5, h6, h7, h8, h9, h10, hb⟩ := h
  exact hb
theorem K11.hid (h : K11 w0 x0 a0 b0 x1 a1 b1 x2 a2 b2 x3 a3 b3 x4 a4 b4 x5 a5 b5 x6 a6 b6 x7 a7 b7 x8 a8 b8 x9 a9 b9 x10 a10 b10 w1) : Hid (K11 w0 x0 a0 b0 x1 a1 b1 x2 a2 b2 x3 a3 b3 x4 a4 b4 x5 a5 b5 x6 a6 b6 x7 a7 b7 x8 a8 b8 x9 a9 b9 x10 a10 b10 w1) := h
theorem K11.t0 (h : K11 w0 x0 a0 b0 x1 a1 b1 x2 a2 b2 x3 a3 b3 x4 a4 b4 x5 a5 b5 x6 a6 b6 x7 a7 b7 x8 a8 b8 x9 a9 b9 x10 a10 b10 w1) : Two w1 x0 a0 b0 := by
  obtain ⟨_, _, _, _, _, _, _, _, _, _, _, _, _, _, _, _, _, _, _, _, _, _, h0, h1, h2, h3, h4, h5, h6, h7, h8, h9, h10, hb⟩ := h
  exact h0
theorem K11.t1 (h : K11 w0 x0 a0 b0 x1 a1 b1 x2 a2 b2 x3 a3 b3 x4 a4 b4 x5 a5 b5 x6 a6 b6 x7 a7 b7 x8 a8 b8 x9 a9 b9 x10 a10 b10 w1) : Two w1 x1 a1 b1 := by
  obtain ⟨_, _, _, _, _, _, _, _, _, _, _, _, _, _, _, _, _, _, _, _, _, _, h0, h1, h2, h3, h4, h5, h6, h7, h8, h9, h10, hb⟩ := h
  exact h1
theorem K11.t2 (h : K11 w0 x0 a0 b0 x1 a1 b1 x2 a2 b2 x3 a3 b3 x4 a4 b4 x5 a5 b5 x6 a6 b6 x7 a7 b7 x8 a8 b8 x9 a9 b9 x10 a10 b10 w1) : Two w1 x2 a2 b2 := by
  obtain ⟨_, _, _, _, _, _, _, _, _, _, _, _, _, _, _, _, _, _, _, _, _, _, h0, h1, h2, h3, h4, h5, h6, h7, h8, h9, h10, hb⟩ := h
  exact h2
theorem K11.t3 (h : K11 w0 x0 a0 b0 x1 a1 b1 x2 a2 b2 x3 a3 b3 x4 a4 b4 x5 a5 b5 x6 a6 b6 x7 a7 b7 x8 a8 b8 x9 a9 b9 x10 a10 b10 w1) : Two w1 x3 a3 b3 := by
  obtain ⟨_, _, _, _, _, _, _, _, _, _, _, _, _, _, _, _, _, _, _, _, _, _, h0, h1, h2, h3, h4, h5, h6, h7, h8, h9, h10, hb⟩ := h
  exact h3
theorem K11.t4 (h : K11 w0 x0 a0 b0 x1 a1 b1 x2 a2 b2 x3 a3 b3 x4 a4 b4 x5 a5 b5 x6 a6 b6 x7 a7 b7 x8 a8 b8 x9 a9 b9 x10 a10 b10 w1) : Two w1 x4 a4 b4 := by
  obtain ⟨_, _, _, _, _, _, _, _, _, _, _, _, _, _, _, _, _, _, _, _, _, _, h0, h1, h2, h3, h4, h5, h6, h7, h8, h9, h10, hb⟩ := h
  exact h4
theorem K11.t5 (h : K11 w0 x0 a0 b0 x1 a1 b1 x2 a2 b2 x3 a3 b3 x4 a4 b4 x5 a5 b5 x6 a6 b6 x7 a7 b7 x8 a8 b8 x9 a9 b9 x10 a10 b10 w1) : Two w1 x5 a5 b5 := by
  obtain ⟨_, _, _, _, _, _, _, _, _, _, _, _, _, _, _, _, _, _, _, _, _, _, h0, h1, h2, h3, h4, h5, h6, h7, h8, h9, h10, hb⟩ := h
  exact h5
theorem K11.t6 (h : K11 w0 x0 a0 b0 x1 a1 b1 x2 a2 b2 x3 a3 b3 x4 a4 b4 x5 a5 b5 x6 a6 b6 x7 a7 b7 x8 a8 b8 x9 a9 b9 x10 a10 b10 w1) : Two w1 x6 a6 b6 := by
  obtain ⟨_, _, _, _, _, _, _, _, _, _, _, _, _, _, _, _, _, _, _, _, _, _, h0, h1, h2, h3, h4, h5, h6, h7, h8, h9, h10, hb⟩ := h
  exact h6
theorem K11.t7 (h : K11 w0 x0 a0 b0 x1 a1 b1 x2 a2 b2 x3 a3 b3 x4 a4 b4 x5 a5 b5 x6 a6 b6 x7 a7 b7 x8 a8 b8 x9 a9 b9 x10 a10 b10 w1) : Two w1 x7 a7 b7 := by
  obtain ⟨_, _, _, _, _, _, _, _, _, _, _, _, _, _, _, _, _, _, _, _, _, _, h0, h1, h2, h3, h4, h5, h6, h7, h8, h9, h10, hb⟩ := h
  exact h7
theorem K11.t8 (h : K11 w0 x0 a0 b0 x1 a1 b1 x2 a2 b2 x3 a3 b3 x4 a4 b4 x5 a5 b5 x6 a6 b6 x7 a7 b7 x8 a8 b8 x9 a9 b9 x10 a10 b10 w1) : Two w1 x8 a8 b8 := by
  obtain ⟨_, _, _, _, _, _, _, _, _, _, _, _, _, _, _, _, _, _, _, _, _, _, h0, h1, h2, h3, h4, h5, h6, h7, h8, h9, h10, hb⟩ := h
  exact h8
theorem K11.t9 (h : K11 w0 x0 a0 b0 x1 a1 b1 x2 a2 b2 x3 a3 b3 x4 a4 b4 x5 a5 b5 x6 a6 b6 x7 a7 b7 x8 a8 b8 x9 a9 b9 x10 a10 b10 w1) : Two w1 x9 a9 b9 := by
  obtain ⟨_, _, _, _, _, _, _, _, _, _, _, _, _, _, _, _, _, _, _, _, _, _, h0, h1, h2, h3, h4, h5, h6, h7, h8, h9, h10, hb⟩ := h
  exact h9
theorem K11.t10 (h : K11 w0 x0 a0 b0 x1 a1 b1 x2 a2 b2 x3 a3 b3 x4 a4 b4 x5 a5 b5 x6 a6 b6 x7 a7 b7 x8 a8 b8 x9 a9 b9 x10 a10 b10 w1) : Two w1 x10 a10 b10 := by
  obtain ⟨_, _, _, _, _, _, _, _, _, _, _, _, _, _, _, _, _, _, _, _, _, _, h0, h1, h2, h3, h4, h5, h6, h7, h8, h9, h10, hb⟩ := h
  exact h10
theorem K11.st (h : K11 w0 x0 a0 b0 x1 a1 b1 x2 a2 b2 x3 a3 b3 x4 a4 b4 x5 a5 b5 x6 a6 b6 x7 a7 b7 x8 a8 b8 x9 a9 b9 x10 a10 b10 w1) {k : Nat} (hk : k ≠ x0 ∧ k ≠ x1 ∧ k ≠ x2 ∧ k ≠ x3 ∧ k ≠ x4 ∧ k ≠ x5 ∧ k ≠ x6 ∧ k ≠ x7 ∧ k ≠ x8 ∧ k ≠ x9 ∧ k ≠ x10) (hb : w0.heap.size ≤ k) (u v : Value) : K11 w0 x0 a0 b0 x1 a1 b1 x2 a2 b2 x3 a3 b3 x4 a4 b4 x5 a5 b5 x6 a6 b6 x7 a7 b7 x8 a8 b8 x9 a9 b9 x10 a10 b10 ((w1.setCell ⟨k, 0, none⟩ u).setCell ⟨k, 1, none⟩ v) := by
  obtain ⟨_, _, _, _, _, _, _, _, _, _, _, _, _, _, _, _, _, _, _, _, _, _, h0, h1, h2, h3, h4, h5, h6, h7, h8, h9, h10, hb0⟩ := h
  exact K11.of ((h0.setOther _ _ (by omega) _).setOther _ _ (by omega) _) ((h1.setOther _ _ (by omega) _).setOther _ _ (by omega) _) ((h2.setOther _ _ (by omega) _).setOther _ _ (by omega) _) ((h3.setOther _ _ (by omega) _).setOther _ _ (by omega) _) ((h4.setOther _ _ (by omega) _).setOther _ _ (by omega) _) ((h5.setOther _ _ (by omega) _).setOther _ _ (by omega) _) ((h6.setOther _ _ (by omega) _).setOther _ _ (by omega) _) ((h7.setOther _ _ (by omega) _).setOther _ _ (by omega) _) ((h8.setOther _ _ (by omega) _).setOther _ _ (by omega) _) ((h9.setOther _ _ (by omega) _).setOther _ _ (by omega) _) ((h10.setOther _ _ (by omega) _).setOther _ _ (by omega) _) ((hb0.setCell (by exact hb) _).setCell (by exact hb) _)
theorem K11.fin1 (h : K11 w0 x0 a0 b0 x1 a1 b1 x2 a2 b2 x3 a3 b3 x4 a4 b4 x5 a5 b5 x6 a6 b6 x7 a7 b7 x8 a8 b8 x9 a9 b9 x10 a10 b10 w1) {k : Nat} {a b : Int} (hz : Two w1 k a b) (hk : k ≠ x0 ∧ k ≠ x1 ∧ k ≠ x2 ∧ k ≠ x3 ∧ k ≠ x4 ∧ k ≠ x5 ∧ k ≠ x6 ∧ k ≠ x7 ∧ k ≠ x8 ∧ k ≠ x9 ∧ k ≠ x10) (hb : w0.heap.size ≤ k) (m n : Int) : ∃ y, k = y ∧ Two ((w1.setCell ⟨k, 0, none⟩ (.int .i64 m)).setCell ⟨k, 1, none⟩ (.int .i64 n)) y m n ∧ K11 w0 x0 a0 b0 x1 a1 b1 x2 a2 b2 x3 a3 b3 x4 a4 b4 x5 a5 b5 x6 a6 b6 x7 a7 b7 x8 a8 b8 x9 a9 b9 x10 a10 b10 ((w1.setCell ⟨k, 0, none⟩ (.int .i64 m)).setCell ⟨k, 1, none⟩ (.int .i64 n)) :=
  ⟨k, rfl, hz.set m n, h.st hk hb _ _⟩
theorem K11.fin2 (h : K11 w0 x0 a0 b0 x1 a1 b1 x2 a2 b2 x3 a3 b3 x4 a4 b4 x5 a5 b5 x6 a6 b6 x7 a7 b7 x8 a8 b8 x9 a9 b9 x10 a10 b10 w1) (m n : Int) (t : TypeId) : ∃ y, w1.heap.size = y ∧ Two (w1.alloc (.cells #[.int .i64 m, .int .i64 n] t)) y m n ∧ K11 w0 x0 a0 b0 x1 a1 b1 x2 a2 b2 x3 a3 b3 x4 a4 b4 x5 a5 b5 x6 a6 b6 x7 a7 b7 x8 a8 b8 x9 a9 b9 x10 a10 b10 (w1.alloc (.cells #[.int .i64 m, .int .i64 n] t)) :=
  ⟨_, rfl, Two.new w1 m n t, h.next ((Below.refl _ _).alloc (Nat.le_refl _) _)⟩
end

end Go.Proofs.YtfappkhohddcjaaDoor
