/- Facts on several blocks of two cells, carried through a region. -/
import Derived.Test.YtfappkhohddcjaaDoorRat10
namespace Go.Proofs.YtfappkhohddcjaaDoor
open Go.RowKit

def K1 (w0 : World) (x0 : Nat) (a0 b0 : Int) (w : World) : Prop := w.cell? ⟨x0, 0, none⟩ = some (.int .i64 a0) ∧ w.cell? ⟨x0, 1, none⟩ = some (.int .i64 b0) ∧ Two w x0 a0 b0 ∧ Below w0.heap.size w0 w
section
variable {w0 w1 w2 : World} {x0 : Nat} {a0 b0 : Int}
theorem K1.of (h0 : Two w1 x0 a0 b0) (hb : Below w0.heap.size w0 w1) : K1 w0 x0 a0 b0 w1 := ⟨h0.c0, h0.c1, h0, hb⟩
theorem K1.next (h : K1 w0 x0 a0 b0 w1) (k : Below w1.heap.size w1 w2) : K1 w0 x0 a0 b0 w2 := by
  obtain ⟨_, _, h0, hb⟩ := h
  exact K1.of (h0.on k h0.lt) (on_tr hb k)
theorem K1.bel (h : K1 w0 x0 a0 b0 w1) : Below w0.heap.size w0 w1 := by
  obtain ⟨_, _, h0, hb⟩ := h
  exact hb
theorem K1.hid (h : K1 w0 x0 a0 b0 w1) : Hid (K1 w0 x0 a0 b0 w1) := h
theorem K1.t0 (h : K1 w0 x0 a0 b0 w1) : Two w1 x0 a0 b0 := by
  obtain ⟨_, _, h0, hb⟩ := h
  exact h0
end

def K2 (w0 : World) (x0 : Nat) (a0 b0 : Int) (x1 : Nat) (a1 b1 : Int) (w : World) : Prop := w.cell? ⟨x0, 0, none⟩ = some (.int .i64 a0) ∧ w.cell? ⟨x0, 1, none⟩ = some (.int .i64 b0) ∧ w.cell? ⟨x1, 0, none⟩ = some (.int .i64 a1) ∧ w.cell? ⟨x1, 1, none⟩ = some (.int .i64 b1) ∧ Two w x0 a0 b0 ∧ Two w x1 a1 b1 ∧ Below w0.heap.size w0 w
section
variable {w0 w1 w2 : World} {x0 x1 : Nat} {a0 b0 a1 b1 : Int}
theorem K2.of (h0 : Two w1 x0 a0 b0) (h1 : Two w1 x1 a1 b1) (hb : Below w0.heap.size w0 w1) : K2 w0 x0 a0 b0 x1 a1 b1 w1 := ⟨h0.c0, h0.c1, h1.c0, h1.c1, h0, h1, hb⟩
theorem K2.next (h : K2 w0 x0 a0 b0 x1 a1 b1 w1) (k : Below w1.heap.size w1 w2) : K2 w0 x0 a0 b0 x1 a1 b1 w2 := by
  obtain ⟨_, _, _, _, h0, h1, hb⟩ := h
  exact K2.of (h0.on k h0.lt) (h1.on k h1.lt) (on_tr hb k)
theorem K2.bel (h : K2 w0 x0 a0 b0 x1 a1 b1 w1) : Below w0.heap.size w0 w1 := by
  obtain ⟨_, _, _, _, h0, h1, hb⟩ := h
  exact hb
theorem K2.hid (h : K2 w0 x0 a0 b0 x1 a1 b1 w1) : Hid (K2 w0 x0 a0 b0 x1 a1 b1 w1) := h
theorem K2.t0 (h : K2 w0 x0 a0 b0 x1 a1 b1 w1) : Two w1 x0 a0 b0 := by
  obtain ⟨_, _, _, _, h0, h1, hb⟩ := h
  exact h0
theorem K2.t1 (h : K2 w0 x0 a0 b0 x1 a1 b1 w1) : Two w1 x1 a1 b1 := by
  obtain ⟨_, _, _, _, h0, h1, hb⟩ := h
  exact h1
end

def K3 (w0 : World) (x0 : Nat) (a0 b0 : Int) (x1 : Nat) (a1 b1 : Int) (x2 : Nat) (a2 b2 : Int) (w : World) : Prop := w.cell? ⟨x0, 0, none⟩ = some (.int .i64 a0) ∧ w.cell? ⟨x0, 1, none⟩ = some (.int .i64 b0) ∧ w.cell? ⟨x1, 0, none⟩ = some (.int .i64 a1) ∧ w.cell? ⟨x1, 1, none⟩ = some (.int .i64 b1) ∧ w.cell? ⟨x2, 0, none⟩ = some (.int .i64 a2) ∧ w.cell? ⟨x2, 1, none⟩ = some (.int .i64 b2) ∧ Two w x0 a0 b0 ∧ Two w x1 a1 b1 ∧ Two w x2 a2 b2 ∧ Below w0.heap.size w0 w
section
variable {w0 w1 w2 : World} {x0 x1 x2 : Nat} {a0 b0 a1 b1 a2 b2 : Int}
theorem K3.of (h0 : Two w1 x0 a0 b0) (h1 : Two w1 x1 a1 b1) (h2 : Two w1 x2 a2 b2) (hb : Below w0.heap.size w0 w1) : K3 w0 x0 a0 b0 x1 a1 b1 x2 a2 b2 w1 := ⟨h0.c0, h0.c1, h1.c0, h1.c1, h2.c0, h2.c1, h0, h1, h2, hb⟩
theorem K3.next (h : K3 w0 x0 a0 b0 x1 a1 b1 x2 a2 b2 w1) (k : Below w1.heap.size w1 w2) : K3 w0 x0 a0 b0 x1 a1 b1 x2 a2 b2 w2 := by
  obtain ⟨_, _, _, _, _, _, h0, h1, h2, hb⟩ := h
  exact K3.of (h0.on k h0.lt) (h1.on k h1.lt) (h2.on k h2.lt) (on_tr hb k)
theorem K3.bel (h : K3 w0 x0 a0 b0 x1 a1 b1 x2 a2 b2 w1) : Below w0.heap.size w0 w1 := by
  obtain ⟨_, _, _, _, _, _, h0, h1, h2, hb⟩ := h
  exact hb
theorem K3.hid (h : K3 w0 x0 a0 b0 x1 a1 b1 x2 a2 b2 w1) : Hid (K3 w0 x0 a0 b0 x1 a1 b1 x2 a2 b2 w1) := h
theorem K3.t0 (h : K3 w0 x0 a0 b0 x1 a1 b1 x2 a2 b2 w1) : Two w1 x0 a0 b0 := by
  obtain ⟨_, _, _, _, _, _, h0, h1, h2, hb⟩ := h
  exact h0
theorem K3.t1 (h : K3 w0 x0 a0 b0 x1 a1 b1 x2 a2 b2 w1) : Two w1 x1 a1 b1 := by
  obtain ⟨_, _, _, _, _, _, h0, h1, h2, hb⟩ := h
  exact h1
theorem K3.t2 (h : K3 w0 x0 a0 b0 x1 a1 b1 x2 a2 b2 w1) : Two w1 x2 a2 b2 := by
  obtain ⟨_, _, _, _, _, _, h0, h1, h2, hb⟩ := h
  exact h2
end

def K4 (w0 : World) (x0 : Nat) (a0 b0 : Int) (x1 : Nat) (a1 b1 : Int) (x2 : Nat) (a2 b2 : Int) (x3 : Nat) (a3 b3 : Int) (w : World) : Prop := w.cell? ⟨x0, 0, none⟩ = some (.int .i64 a0) ∧ w.cell? ⟨x0, 1, none⟩ = some (.int .i64 b0) ∧ w.cell? ⟨x1, 0, none⟩ = some (.int .i64 a1) ∧ w.cell? ⟨x1, 1, none⟩ = some (.int .i64 b1) ∧ w.cell? ⟨x2, 0, none⟩ = some (.int .i64 a2) ∧ w.cell? ⟨x2, 1, none⟩ = some (.int .i64 b2) ∧ w.cell? ⟨x3, 0, none⟩ = some (.int .i64 a3) ∧ w.cell? ⟨x3, 1, none⟩ = some (.int .i64 b3) ∧ Two w x0 a0 b0 ∧ Two w x1 a1 b1 ∧ Two w x2 a2 b2 ∧ Two w x3 a3 b3 ∧ Below w0.heap.size w0 w
section
variable {w0 w1 w2 : World} {x0 x1 x2 x3 : Nat} {a0 b0 a1 b1 a2 b2 a3 b3 : Int}
theorem K4.of (h0 : Two w1 x0 a0 b0) (h1 : Two w1 x1 a1 b1) (h2 : Two w1 x2 a2 b2) (h3 : Two w1 x3 a3 b3) (hb : Below w0.heap.size w0 w1) : K4 w0 x0 a0 b0 x1 a1 b1 x2 a2 b2 x3 a3 b3 w1 := ⟨h0.c0, h0.c1, h1.c0, h1.c1, h2.c0, h2.c1, h3.c0, h3.c1, h0, h1, h2, h3, hb⟩
theorem K4.next (h : K4 w0 x0 a0 b0 x1 a1 b1 x2 a2 b2 x3 a3 b3 w1) (k : Below w1.heap.size w1 w2) : K4 w0 x0 a0 b0 x1 a1 b1 x2 a2 b2 x3 a3 b3 w2 := by
  obtain ⟨_, _, _, _, _, _, _, _, h0, h1, h2, h3, hb⟩ := h
  exact K4.of (h0.on k h0.lt) (h1.on k h1.lt) (h2.on k h2.lt) (h3.on k h3.lt) (on_tr hb k)
theorem K4.bel (h : K4 w0 x0 a0 b0 x1 a1 b1 x2 a2 b2 x3 a3 b3 w1) : Below w0.heap.size w0 w1 := by
  obtain ⟨_, _, _, _, _, _, _, _, h0, h1, h2, h3, hb⟩ := h
  exact hb
theorem K4.hid (h : K4 w0 x0 a0 b0 x1 a1 b1 x2 a2 b2 x3 a3 b3 w1) : Hid (K4 w0 x0 a0 b0 x1 a1 b1 x2 a2 b2 x3 a3 b3 w1) := h
theorem K4.t0 (h : K4 w0 x0 a0 b0 x1 a1 b1 x2 a2 b2 x3 a3 b3 w1) : Two w1 x0 a0 b0 := by
  obtain ⟨_, _, _, _, _, _, _, _, h0, h1, h2, h3, hb⟩ := h
  exact h0
theorem K4.t1 (h : K4 w0 x0 a0 b0 x1 a1 b1 x2 a2 b2 x3 a3 b3 w1) : Two w1 x1 a1 b1 := by
  obtain ⟨_, _, _, _, _, _, _, _, h0, h1, h2, h3, hb⟩ := h
  exact h1
theorem K4.t2 (h : K4 w0 x0 a0 b0 x1 a1 b1 x2 a2 b2 x3 a3 b3 w1) : Two w1 x2 a2 b2 := by
  obtain ⟨_, _, _, _, _, _, _, _, h0, h1, h2, h3, hb⟩ := h
  exact h2
theorem K4.t3 (h : K4 w0 x0 a0 b0 x1 a1 b1 x2 a2 b2 x3 a3 b3 w1) : Two w1 x3 a3 b3 := by
  obtain ⟨_, _, _, _, _, _, _, _, h0, h1, h2, h3, hb⟩ := h
  exact h3
end

def K5 (w0 : World) (x0 : Nat) (a0 b0 : Int) (x1 : Nat) (a1 b1 : Int) (x2 : Nat) (a2 b2 : Int) (x3 : Nat) (a3 b3 : Int) (x4 : Nat) (a4 b4 : Int) (w : World) : Prop := w.cell? ⟨x0, 0, none⟩ = some (.int .i64 a0) ∧ w.cell? ⟨x0, 1, none⟩ = some (.int .i64 b0) ∧ w.cell? ⟨x1, 0, none⟩ = some (.int .i64 a1) ∧ w.cell? ⟨x1, 1, none⟩ = some (.int .i64 b1) ∧ w.cell? ⟨x2, 0, none⟩ = some (.int .i64 a2) ∧ w.cell? ⟨x2, 1, none⟩ = some (.int .i64 b2) ∧ w.cell? ⟨x3, 0, none⟩ = some (.int .i64 a3) ∧ w.cell? ⟨x3, 1, none⟩ = some (.int .i64 b3) ∧ w.cell? ⟨x4, 0, none⟩ = some (.int .i64 a4) ∧ w.cell? ⟨x4, 1, none⟩ = some (.int .i64 b4) ∧ Two w x0 a0 b0 ∧ Two w x1 a1 b1 ∧ Two w x2 a2 b2 ∧ Two w x3 a3 b3 ∧ Two w x4 a4 b4 ∧ Below w0.heap.size w0 w
section
variable {w0 w1 w2 : World} {x0 x1 x2 x3 x4 : Nat} {a0 b0 a1 b1 a2 b2 a3 b3 a4 b4 : Int}
theorem K5.of (h0 : Two w1 x0 a0 b0) (h1 : Two w1 x1 a1 b1) (h2 : Two w1 x2 a2 b2) (h3 : Two w1 x3 a3 b3) (h4 : Two w1 x4 a4 b4) (hb : Below w0.heap.size w0 w1) : K5 w0 x0 a0 b0 x1 a1 b1 x2 a2 b2 x3 a3 b3 x4 a4 b4 w1 := ⟨h0.c0, h0.c1, h1.c0, h1.c1, h2.c0, h2.c1, h3.c0, h3.c1, h4.c0, h4.c1, h0, h1, h2, h3, h4, hb⟩
theorem K5.next (h : K5 w0 x0 a0 b0 x1 a1 b1 x2 a2 b2 x3 a3 b3 x4 a4 b4 w1) (k : Below w1.heap.size w1 w2) : K5 w0 x0 a0 b0 x1 a1 b1 x2 a2 b2 x3 a3 b3 x4 a4 b4 w2 := by
  obtain ⟨_, _, _, _, _, _, _, _, _, _, h0, h1, h2, h3, h4, hb⟩ := h
  exact K5.of (h0.on k h0.lt) (h1.on k h1.lt) (h2.on k h2.lt) (h3.on k h3.lt) (h4.on k h4.lt) (on_tr hb k)
theorem K5.bel (h : K5 w0 x0 a0 b0 x1 a1 b1 x2 a2 b2 x3 a3 b3 x4 a4 b4 w1) : Below w0.heap.size w0 w1 := by
  obtain ⟨_, _, _, _, _, _, _, _, _, _, h0, h1, h2, h3, h4, hb⟩ := h
  exact hb
theorem K5.hid (h : K5 w0 x0 a0 b0 x1 a1 b1 x2 a2 b2 x3 a3 b3 x4 a4 b4 w1) : Hid (K5 w0 x0 a0 b0 x1 a1 b1 x2 a2 b2 x3 a3 b3 x4 a4 b4 w1) := h
theorem K5.t0 (h : K5 w0 x0 a0 b0 x1 a1 b1 x2 a2 b2 x3 a3 b3 x4 a4 b4 w1) : Two w1 x0 a0 b0 := by
  obtain ⟨_, _, _, _, _, _, _, _, _, _, h0, h1, h2, h3, h4, hb⟩ := h
  exact h0
theorem K5.t1 (h : K5 w0 x0 a0 b0 x1 a1 b1 x2 a2 b2 x3 a3 b3 x4 a4 b4 w1) : Two w1 x1 a1 b1 := by
  obtain ⟨_, _, _, _, _, _, _, _, _, _, h0, h1, h2, h3, h4, hb⟩ := h
  exact h1
theorem K5.t2 (h : K5 w0 x0 a0 b0 x1 a1 b1 x2 a2 b2 x3 a3 b3 x4 a4 b4 w1) : Two w1 x2 a2 b2 := by
  obtain ⟨_, _, _, _, _, _, _, _, _, _, h0, h1, h2, h3, h4, hb⟩ := h
  exact h2
theorem K5.t3 (h : K5 w0 x0 a0 b0 x1 a1 b1 x2 a2 b2 x3 a3 b3 x4 a4 b4 w1) : Two w1 x3 a3 b3 := by
  obtain ⟨_, _, _, _, _, _, _, _, _, _, h0, h1, h2, h3, h4, hb⟩ := h
  exact h3
theorem K5.t4 (h : K5 w0 x0 a0 b0 x1 a1 b1 x2 a2 b2 x3 a3 b3 x4 a4 b4 w1) : Two w1 x4 a4 b4 := by
  obtain ⟨_, _, _, _, _, _, _, _, _, _, h0, h1, h2, h3, h4, hb⟩ := h
  exact h4
end

section
variable (w : World) (a0 b0 a1 b1 a2 b2 : Int) (t : TypeId)
theorem box2_bel : Below w.heap.size w ((w.alloc (.cells #[.int .i64 a0, .int .i64 b0] t)).alloc (.cells #[.int .i64 a1, .int .i64 b1] t)) := (S2.new w a0 b0 a1 b1 t).bel
theorem box2_0 : Two ((w.alloc (.cells #[.int .i64 a0, .int .i64 b0] t)).alloc (.cells #[.int .i64 a1, .int .i64 b1] t)) w.heap.size a0 b0 := (S2.new w a0 b0 a1 b1 t).tx
theorem box2_1 : Two ((w.alloc (.cells #[.int .i64 a0, .int .i64 b0] t)).alloc (.cells #[.int .i64 a1, .int .i64 b1] t)) (w.heap.size + 1) a1 b1 := (S2.new w a0 b0 a1 b1 t).ty
theorem box3_bel : Below w.heap.size w (((w.alloc (.cells #[.int .i64 a0, .int .i64 b0] t)).alloc (.cells #[.int .i64 a1, .int .i64 b1] t)).alloc (.cells #[.int .i64 a2, .int .i64 b2] t)) := (S2.new w a0 b0 a1 b1 t).bel.alloc (by simp; omega) _
theorem box3_0 : Two (((w.alloc (.cells #[.int .i64 a0, .int .i64 b0] t)).alloc (.cells #[.int .i64 a1, .int .i64 b1] t)).alloc (.cells #[.int .i64 a2, .int .i64 b2] t)) w.heap.size a0 b0 := (box2_0 w a0 b0 a1 b1 t).on ((Below.refl _ _).alloc (Nat.le_refl _) _) (by simp; omega)
theorem box3_1 : Two (((w.alloc (.cells #[.int .i64 a0, .int .i64 b0] t)).alloc (.cells #[.int .i64 a1, .int .i64 b1] t)).alloc (.cells #[.int .i64 a2, .int .i64 b2] t)) (w.heap.size + 1) a1 b1 := (box2_1 w a0 b0 a1 b1 t).on ((Below.refl _ _).alloc (Nat.le_refl _) _) (by simp)
theorem box3_2 : Two (((w.alloc (.cells #[.int .i64 a0, .int .i64 b0] t)).alloc (.cells #[.int .i64 a1, .int .i64 b1] t)).alloc (.cells #[.int .i64 a2, .int .i64 b2] t)) (w.heap.size + 2) a2 b2 := by
  have := Two.new ((w.alloc (.cells #[.int .i64 a0, .int .i64 b0] t)).alloc (.cells #[.int .i64 a1, .int .i64 b1] t)) a2 b2 t
  simpa using this
end

end Go.Proofs.YtfappkhohddcjaaDoor
