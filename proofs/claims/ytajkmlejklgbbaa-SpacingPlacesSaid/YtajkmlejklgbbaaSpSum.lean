/- spring.length, sum, minimal, total. -/
import Derived.Test.YtajkmlejklgbbaaSpChk
namespace Go.Proofs.Ytajkmlejklgbbaa
open Go.RowKit

def lenF (s : Spr) (num den : Int) : Int := max s.m (s.n * num / den)
theorem lenF_bnd {s : Spr} {num den : Int} (h : s.ok) (h0 : 0 ≤ num) (h1 : num ≤ 268435456) (h2 : 1 ≤ den) :
    0 ≤ s.n * num ∧ s.n * num ≤ 281474976710656 ∧ 0 ≤ s.n * num / den ∧ s.n * num / den ≤ 281474976710656 ∧ 0 ≤ lenF s num den ∧ lenF s num den ≤ 281474976710656 := by
  obtain ⟨a0, a1, a2, a3⟩ := Spr.ok_of h
  have e0 : 0 ≤ s.n * num := Int.mul_nonneg a0 h0
  have e1 : s.n * num ≤ 1048576 * 268435456 := Int.mul_le_mul a1 h1 h0 (by omega)
  have e2 : 0 ≤ s.n * num / den := Int.ediv_nonneg e0 (by omega)
  have e3 : s.n * num / den ≤ s.n * num := Int.ediv_le_self _ e0
  unfold lenF
  omega

set_option maxHeartbeats 1000000 in
theorem length_any (s : Spr) (num den : Int) (w : World) (h : s.ok) (h0 : 0 ≤ num) (h1 : num ≤ 268435456) (h2 : 1 ≤ den) (h3 : den ≤ 268435456) :
    Calls Try.prog 48 #[.agg #[.int .i64 s.n, .int .i64 s.m], .agg #[.int .i64 num, .int .i64 den]] w fun e w' => e = .returned (.int .i64 (lenF s num den)) ∧ Below w.heap.size w w' := by
  obtain ⟨b0, b1, b2, b3, b4, b5⟩ := lenF_bnd h h0 h1 h2
  obtain ⟨a0, a1, a2, a3⟩ := Spr.ok_of h
  obtain ⟨q, hq⟩ : ∃ q, q = s.n * num / den := ⟨_, rfl⟩
  have i1 : IntKind.i64.wrap (s.n * num) = s.n * num := IntWalk.i64_in _ (by omega)
  have i2 : (s.n * num).tdiv den = q := by rw [hq]; exact Int.tdiv_eq_ediv_of_nonneg b0
  have i3 : IntKind.i64.wrap q = q := IntWalk.i64_in _ (by omega)
  have i4 : ¬ den = 0 := by omega
  rcases (show (s.m < q ∧ lenF s num den = q) ∨ (¬ s.m < q ∧ lenF s num den = s.m) by unfold lenF; omega) with ⟨hm, hl⟩ | ⟨hm, hl⟩
  all_goals
    have HL := hide hl
    have HQ := hide hq
    clear hl hq b2 b3 b4 b5
    go_enter Try.func48, Try.ntmps48
    go_wp2_with fail
    go_quiet (fail)
    go_wp2_with fail
    go_ret
    exact ⟨ret_int HL.out.symm, below_drewN (by go_grown) _⟩

def lens (l : List Spr) (num den : Int) : Int := (l.map fun s => lenF s num den).sum
theorem lens_snoc (l : List Spr) (s : Spr) (num den : Int) : lens (l ++ [s]) num den = lens l num den + lenF s num den := by simp [lens]
theorem lens_bnd (l : List Spr) (num den : Int) (h : ∀ s ∈ l, s.ok) (h0 : 0 ≤ num) (h1 : num ≤ 268435456) (h2 : 1 ≤ den) : 0 ≤ lens l num den ∧ lens l num den ≤ 281474976710656 * l.length := by
  induction l with
  | nil => simp [lens]
  | cons s l ih =>
    have a := lenF_bnd (h s (by simp)) h0 h1 h2
    have b := ih fun x hx => h x (by simp [hx])
    have e : lens (s :: l) num den = lenF s num den + lens l num den := by simp [lens]
    rw [e, List.length_cons]
    omega
def mins (l : List Spr) : Int := (l.map Spr.m).sum
theorem mins_snoc (l : List Spr) (s : Spr) : mins (l ++ [s]) = mins l + s.m := by simp [mins]
theorem mins_bnd (l : List Spr) (h : ∀ s ∈ l, s.ok) : 0 ≤ mins l ∧ mins l ≤ 1048576 * l.length := by
  induction l with
  | nil => simp [mins]
  | cons s l ih =>
    have a := Spr.ok_of (h s (by simp))
    have b := ih fun x hx => h x (by simp [hx])
    have e : mins (s :: l) = s.m + mins l := by simp [mins]
    rw [e, List.length_cons]
    omega

set_option maxHeartbeats 1000000 in
theorem min1_any (s : Spr) (w : World) :
    Calls Try.prog 54 #[.agg #[.int .i64 s.n, .int .i64 s.m]] w fun e w' => e = .returned (.int .i64 s.m) ∧ Below w.heap.size w w' := by
  go_enter Try.func54, Try.ntmps54
  go_wp2_with fail
  go_ret
  exact ⟨rfl, by go_grown⟩

set_option maxHeartbeats 1000000 in
theorem tot1_any (s : Spr) (num den : Int) (b : Nat) (w : World) (hb : b < w.heap.size) (c0 : w.cell? ⟨b, 0, none⟩ = some (.int .i64 num)) (c1 : w.cell? ⟨b, 1, none⟩ = some (.int .i64 den))
    (h : s.ok) (h0 : 0 ≤ num) (h1 : num ≤ 268435456) (h2 : 1 ≤ den) (h3 : den ≤ 268435456) :
    Calls Try.prog 57 #[.agg #[.int .i64 s.n, .int .i64 s.m], .pointer (some ⟨b, 0, none⟩)] w fun e w' => e = .returned (.int .i64 (lenF s num den)) ∧ Below w.heap.size w w' := by
  go_enter Try.func57, Try.ntmps57
  go_wp2_with fail
  refine (length_any s num den _ h h0 h1 h2 h3).mono ?_
  rintro e w1 ⟨rfl, hb1⟩
  go_wp2_with fail
  go_ret
  exact ⟨rfl, ((Below.refl _ w).alloc (Nat.le_refl _) _).trans (hb1.mono (by simp))⟩

end Go.Proofs.Ytajkmlejklgbbaa
