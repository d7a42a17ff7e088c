/- slices.Clone of least distances. -/
import Derived.Test.YtajkmlejklgbbaaSort
namespace Go.Proofs.Ytajkmlejklgbbaa
open Go.RowKit

theorem lsts_one (l : List Lst) : ∀ u ∈ lsts l, u.oneCell' = true := by
  intro u hu
  simp only [lsts, List.mem_flatMap] at hu
  obtain ⟨a, _, ha⟩ := hu
  simp only [Lst.cells, List.mem_cons, List.not_mem_nil, or_false] at ha
  rcases ha with rfl | rfl | rfl <;> rfl

def ClonePost (w : World) (n : Nat) (l : List Lst) (e : Ending) (w' : World) : Prop :=
  ∃ v, e = .returned v ∧ w'.ownsRow w.heap.size 73 3 v n (lsts l) ∧ Below w.heap.size w w'

set_option maxHeartbeats 400000 in
theorem clone_any (A : Option Addr) (n c : Nat) (l : List Lst) (w : World) (hn : n = l.length) (hn2 : n ≤ 1000000) (hA : A = none → n = 0)
    (h : Rds w w.heap.size A (lsts l)) :
    Calls Try.prog 33 #[.slice A n c] w (ClonePost w n l) := by
  have HN := hide hn
  have hnil := fun (w : World) => Lib.run_eql_slice_nil (P := Try.prog) w 30 73 A n c 0 0 Try.underlying30
  clear hn
  cases A with
  | none =>
    have h0 := hA rfl
    have hl : l = [] := List.eq_nil_of_length_eq_zero (by rw [← HN.out]; exact h0)
    clear hA
    subst h0 hl
    go_enter Try.func33, Try.ntmps33
    go_wp2
    go_ret
    exact ⟨_, rfl, World.ownsRow_nil _ _ _ _, Below.refl _ _⟩
  | some ad =>
    clear hA
    go_enter Try.func33, Try.ntmps33
    have hmade : (w.alloc (.cells #[] 73)).ownsRow w.heap.size 73 3 (.slice (some ⟨w.heap.size, 0, none⟩) 0 0) 0 [] := World.ownsRow_made _ _ _ (Nat.le_refl _) (Nat.zero_le _) rfl
    have hr := h.on (B' := w.heap.size) ((Below.refl _ w).alloc (Nat.le_refl _) (.cells #[] 73)) (Nat.le_refl _)
    have hl3 : (lsts l).length = n * 3 := by rw [lsts_length, HN.out]
    have HL := hide hl3
    clear hl3
    go_wp2_with (at_builtin; refine wpList_app rfl (.tmp 5) (.tmp 6) 30 rfl w.heap.size lst_ty (.slice (some ⟨w.heap.size, 0, none⟩) 0 0) 0 [] rfl hmade w.heap.size (some ad) n c (lsts l) rfl HL.out hr (lsts_one l) (by simp only [maxLen]; omega) (by omega) (by simp) ?_; intro v' w1 o1 g1 b1)
    go_ret
    refine ⟨_, rfl, by simpa using o1, ((Below.refl _ w).alloc (Nat.le_refl _) _).grown g1 (by simp) ?_⟩
    intro k hk
    have : w.heap.size = k := by simpa [Value.ownBlock] using hk
    omega

end Go.Proofs.Ytajkmlejklgbbaa
