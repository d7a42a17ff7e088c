/- Springs in memory. -/
import Derived.Test.YtajkmlejklgbbaaBase
namespace Go.Proofs.Ytajkmlejklgbbaa
open Go.RowKit

structure Spr where
  n : Int
  m : Int
def Spr.cells (c : Spr) : List Value := [.int .i64 c.n, .int .i64 c.m]
def sprs (l : List Spr) : List Value := l.flatMap Spr.cells
theorem sprs_length (l : List Spr) : (sprs l).length = l.length * 2 := flat_length _ 2 (fun _ => rfl) l
theorem sprs_one (l : List Spr) : ∀ u ∈ sprs l, u.oneCell' = true := by
  intro u hu
  simp only [sprs, List.mem_flatMap] at hu
  obtain ⟨a, _, ha⟩ := hu
  simp only [Spr.cells, List.mem_cons, List.not_mem_nil, or_false] at ha
  rcases ha with rfl | rfl <;> rfl
theorem spr_one (c : Spr) : ∀ u ∈ c.cells, u.oneCell' = true := by
  intro u hu
  simp only [Spr.cells, List.mem_cons, List.not_mem_nil, or_false] at hu
  rcases hu with rfl | rfl <;> rfl
theorem spr_new {w : World} {b : Nat} {a m : Int} (hb : w.heap.size = b) (c : Spr) (ha : c.n = a) (hm : c.m = m) :
    Rds (w.alloc (.cells #[.int .i64 a, .int .i64 m] 38)) (b + 1) (some ⟨b, 0, none⟩) c.cells := by
  subst ha hm
  exact Rds.at_new hb _ _
theorem spr_ty : ElemTy Try.prog 31 38 2 16 :=
  ElemTy.of (z := .agg #[.int .i64 0, .int .i64 0]) Try.underlying31 (by kernel_rfl) rfl (by omega)

theorem Rds.spr {w : World} {B : Nat} {A : Option Addr} {l : List Spr} (h : Rds w B A (sprs l)) {k : Nat} {c : Spr} (hk : l[k]? = some c) :
    ∃ b off, A = some ⟨b, off, none⟩ ∧ b < B ∧ w.cell? ⟨b, off + k * 2, none⟩ = some (.int .i64 c.n) ∧
      w.cell? ⟨b, off + k * 2 + 1, none⟩ = some (.int .i64 c.m) := by
  obtain ⟨hlt, -⟩ := List.getElem?_eq_some_iff.1 hk
  obtain ⟨b, off, e, hb, hc⟩ := h.get (k := k * 2) (by rw [sprs_length]; omega)
  have g := fun j hj => flat_get Spr.cells 2 (fun _ => rfl) l k j c hk hj
  refine ⟨b, off, e, hb, hc _ _ (g 0 (by omega)), ?_⟩
  have := hc _ _ (g 1 (by omega)); rw [Nat.add_assoc]; exact this

def Spr.ok (s : Spr) : Prop := 0 ≤ s.n ∧ s.n ≤ 1048576 ∧ 0 ≤ s.m ∧ s.m ≤ 1048576
instance Spr.decOk (s : Spr) : Decidable s.ok := by unfold Spr.ok; exact inferInstance
theorem Spr.ok_of {s : Spr} (h : s.ok) : 0 ≤ s.n ∧ s.n ≤ 1048576 ∧ 0 ≤ s.m ∧ s.m ≤ 1048576 := h
theorem Spr.nok_of {s : Spr} (h : ¬ s.ok) : s.n < 0 ∨ 1048576 < s.n ∨ s.m < 0 ∨ 1048576 < s.m := by unfold Spr.ok at h; omega
def spErr (l : List Spr) : Int := if l.length > 8192 then 9 else if ∀ s ∈ l, s.ok then 0 else 2
theorem spErr_bad (l : List Spr) {s : Spr} (hl : ¬ 8192 < l.length) (h : s ∈ l) (hs : ¬ s.ok) : spErr l = 2 := by
  rw [spErr, if_neg hl, if_neg (fun hh => hs (hh s h))]
theorem spErr_ok (l : List Spr) (hl : ¬ 8192 < l.length) (h : ∀ j s, j < l.length → l[j]? = some s → s.ok) : spErr l = 0 := by
  rw [spErr, if_neg hl, if_pos]
  intro c hc
  obtain ⟨j, hj⟩ := List.getElem?_of_mem hc
  exact h j c (List.getElem?_eq_some_iff.1 hj).1 hj
theorem spErr_all (l : List Spr) (h : spErr l = 0) : l.length ≤ 8192 ∧ ∀ s ∈ l, s.ok := by
  unfold spErr at h
  by_cases h1 : l.length > 8192
  · rw [if_pos h1] at h; omega
  · rw [if_neg h1] at h
    by_cases h2 : ∀ s ∈ l, s.ok
    · exact ⟨by omega, h2⟩
    · rw [if_neg h2] at h; omega

end Go.Proofs.Ytajkmlejklgbbaa
