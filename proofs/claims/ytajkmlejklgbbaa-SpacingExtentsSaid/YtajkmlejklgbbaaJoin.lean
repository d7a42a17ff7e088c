/- spacing.Join. -/
import Derived.Test.YtajkmlejklgbbaaChk
import Derived.Test.YtajkmlejklgbbaaDec
namespace Go.Proofs.Ytajkmlejklgbbaa
open Go.RowKit

def vals (M : List (Sl Col)) : List Value := M.flatMap fun s => [s.val]
theorem vals_length (M : List (Sl Col)) : (vals M).length = M.length := by have := flat_length (fun s : Sl Col => [s.val]) 1 (fun _ => rfl) M; simpa [vals] using this
theorem cols_ty : ElemTy Try.prog 29 41 3 24 :=
  ElemTy.of (z := .agg #[.int .i64 0, .int .i64 0, .int .i64 0]) Try.underlying29 (by kernel_rfl) rfl (by omega)
theorem cols_one (l : List Col) : ∀ u ∈ cols l, u.oneCell' = true := by
  intro u hu
  simp only [cols, List.mem_flatMap] at hu
  obtain ⟨a, _, ha⟩ := hu
  simp only [Col.cells, List.mem_cons, List.not_mem_nil, or_false] at ha
  rcases ha with rfl | rfl | rfl <;> rfl
theorem Rds.sl {w : World} {B : Nat} {A : Option Addr} {M : List (Sl Col)} (h : Rds w B A (vals M)) {k : Nat} {s : Sl Col} (hk : M[k]? = some s) :
    ∃ b off, A = some ⟨b, off, none⟩ ∧ b < B ∧ w.cell? ⟨b, off + k, none⟩ = some (.slice s.A s.n s.c) := by
  obtain ⟨hlt, -⟩ := List.getElem?_eq_some_iff.1 hk
  obtain ⟨b, off, e, hb, hc⟩ := h.get (k := k) (by rw [vals_length]; omega)
  have g := flat_get (fun s : Sl Col => [s.val]) 1 (fun _ => rfl) M k 0 s hk (by omega)
  rw [Nat.mul_one, Nat.add_zero] at g
  exact ⟨b, off, e, hb, hc _ _ g⟩

/-- the first error of measures -/
def measErr : List (Sl Col) → Int
  | [] => 0
  | m :: M => if m.n = 0 then 4 else if colErr m.l ≠ 0 then colErr m.l else measErr M
/-- the columns of measures behind a prefix -/
def joinL (p : Col) (M : List (Sl Col)) : List Col := p :: (M.flatMap fun s => s.l).drop 1
def joinErr (p : Col) (M : List (Sl Col)) : Int :=
  if measErr M ≠ 0 then measErr M else if colErr [p] ≠ 0 then colErr [p] else if 4096 < (joinL p M).length then 9 else 0
def SlOk (s : Sl Col) : Prop := s.n ≠ 0 ∧ colErr s.l = 0
theorem measErr_ok {M : List (Sl Col)} (h : ∀ (j : Nat) (s : Sl Col), M[j]? = some s → SlOk s) : measErr M = 0 := by
  induction M with
  | nil => rfl
  | cons m M ih =>
    have h0 := h 0 m rfl
    rw [measErr, if_neg h0.1, if_neg (by rw [h0.2]; simp)]
    exact ih fun j s hj => h (j + 1) s hj
theorem measErr_at {M : List (Sl Col)} {k : Nat} {s : Sl Col} (h : ∀ (j : Nat) (s : Sl Col), j < k → M[j]? = some s → SlOk s) (hk : M[k]? = some s) : measErr M = if s.n = 0 then 4 else if colErr s.l ≠ 0 then colErr s.l else measErr (M.drop (k + 1)) := by
  induction M generalizing k with
  | nil => simp at hk
  | cons m M ih =>
    cases k with
    | zero => simp at hk; subst hk; rfl
    | succ k =>
      have h0 := h 0 m (by omega) rfl
      rw [measErr, if_neg h0.1, if_neg (by rw [h0.2]; simp)]
      exact ih (fun j s hj hs => h (j + 1) s (by omega) hs) (by simpa using hk)

theorem colErr_all2 (l : List Col) (h : colErr l = 0) : l.length ≤ 4096 ∧ ∀ c ∈ l, c.ok := by
  unfold colErr at h
  by_cases h1 : l.length > 4096
  · rw [if_pos h1] at h; omega
  · rw [if_neg h1] at h
    by_cases h2 : ∀ c ∈ l, c.ok
    · exact ⟨by omega, h2⟩
    · rw [if_neg h2] at h; omega

def JoinErrPost (w : World) (err : Int) (e : Ending) (w' : World) : Prop := e = .returned (.tuple #[.slice none 0 0, .int .i64 err]) ∧ Below w.heap.size w w'
def JoinPost (w : World) (L : List Col) (e : Ending) (w' : World) : Prop :=
  ∃ v, e = .returned (.tuple #[v, .int .i64 0]) ∧ w'.ownsRow w.heap.size 41 3 v L.length (cols L) ∧ Below w.heap.size w w'

theorem joinL_take (p : Col) (M : List (Sl Col)) (k : Nat) (s : Sl Col) (hk : M[k]? = some s) (hok : ∀ (j : Nat) (s : Sl Col), j < k → M[j]? = some s → s.l ≠ []) :
    joinL p (M.take (k + 1)) = joinL p (M.take k) ++ (if k = 0 then s.l.drop 1 else s.l) := by
  unfold joinL
  rw [List.take_add_one, hk, Option.toList_some, List.flatMap_append]
  cases k with
  | zero => simp
  | succ k =>
    simp only [List.flatMap_cons, List.flatMap_nil, List.append_nil, Nat.succ_ne_zero, if_false, List.cons_append]
    congr 1
    rw [List.drop_append_of_le_length]
    cases hM : M with
    | nil => rw [hM] at hk; simp at hk
    | cons m M' =>
      have := hok 0 m (by omega) (by rw [hM]; rfl)
      cases hl : m.l with
      | nil => exact absurd hl this
      | cons a t => simp [hl]

end Go.Proofs.Ytajkmlejklgbbaa
