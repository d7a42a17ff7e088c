/- Cmp, Sign, Floor, Ceil, Round of rational.R. -/
import Derived.Test.YtfappkhohddcjaaDoorRat6
namespace Go.Proofs.YtfappkhohddcjaaDoor
open Go.RowKit

/-- a boxed fraction, and what is older -/
structure S1 (w0 : World) (k : Nat) (n1 d1 : Int) (w' : World) : Prop where
  tx : Two w' k n1 d1
  bel : Below w0.heap.size w0 w'
/-- two boxed fractions, and what is older -/
structure S2 (w0 : World) (k : Nat) (n1 d1 n2 d2 : Int) (w' : World) : Prop where
  tx : Two w' k n1 d1
  ty : Two w' (k + 1) n2 d2
  bel : Below w0.heap.size w0 w'
section
variable {w0 w1 w2 : World} {k : Nat} {n1 d1 n2 d2 : Int}
theorem Two.drew (h : Two w1 k n1 d1) : Two w1.drew k n1 d1 := h.on (Below.drew (Below.refl _ w1)) h.lt
theorem S1.on (h : S1 w0 k n1 d1 w1) (hb : Below w1.heap.size w1 w2) : S1 w0 k n1 d1 w2 := ⟨h.tx.on hb h.tx.lt, on_tr h.bel hb⟩
theorem S1.drew (h : S1 w0 k n1 d1 w1) : S1 w0 k n1 d1 w1.drew := h.on (Below.drew (Below.refl _ w1))
theorem S1.all (h : S1 w0 k n1 d1 w1) : w1.cell? ⟨k, 0, none⟩ = some (.int .i64 n1) ∧ w1.cell? ⟨k, 1, none⟩ = some (.int .i64 d1) ∧ S1 w0 k n1 d1 w1 := ⟨h.tx.c0, h.tx.c1, h⟩
theorem S1.next (h : w1.cell? ⟨k, 0, none⟩ = some (.int .i64 n1) ∧ w1.cell? ⟨k, 1, none⟩ = some (.int .i64 d1) ∧ S1 w0 k n1 d1 w1) (hb : Below w1.heap.size w1 w2) :
    w2.cell? ⟨k, 0, none⟩ = some (.int .i64 n1) ∧ w2.cell? ⟨k, 1, none⟩ = some (.int .i64 d1) ∧ S1 w0 k n1 d1 w2 := (h.2.2.on hb).all
theorem S2.on (h : S2 w0 k n1 d1 n2 d2 w1) (hb : Below w1.heap.size w1 w2) : S2 w0 k n1 d1 n2 d2 w2 := ⟨h.tx.on hb h.tx.lt, h.ty.on hb h.ty.lt, on_tr h.bel hb⟩
theorem S2.drew (h : S2 w0 k n1 d1 n2 d2 w1) : S2 w0 k n1 d1 n2 d2 w1.drew := h.on (Below.drew (Below.refl _ w1))
theorem S2.all (h : S2 w0 k n1 d1 n2 d2 w1) : w1.cell? ⟨k, 0, none⟩ = some (.int .i64 n1) ∧ w1.cell? ⟨k, 1, none⟩ = some (.int .i64 d1) ∧ w1.cell? ⟨k + 1, 0, none⟩ = some (.int .i64 n2) ∧ w1.cell? ⟨k + 1, 1, none⟩ = some (.int .i64 d2) ∧ S2 w0 k n1 d1 n2 d2 w1 := ⟨h.tx.c0, h.tx.c1, h.ty.c0, h.ty.c1, h⟩
theorem S2.next (h : w1.cell? ⟨k, 0, none⟩ = some (.int .i64 n1) ∧ w1.cell? ⟨k, 1, none⟩ = some (.int .i64 d1) ∧ w1.cell? ⟨k + 1, 0, none⟩ = some (.int .i64 n2) ∧ w1.cell? ⟨k + 1, 1, none⟩ = some (.int .i64 d2) ∧ S2 w0 k n1 d1 n2 d2 w1) (hb : Below w1.heap.size w1 w2) :
    w2.cell? ⟨k, 0, none⟩ = some (.int .i64 n1) ∧ w2.cell? ⟨k, 1, none⟩ = some (.int .i64 d1) ∧ w2.cell? ⟨k + 1, 0, none⟩ = some (.int .i64 n2) ∧ w2.cell? ⟨k + 1, 1, none⟩ = some (.int .i64 d2) ∧ S2 w0 k n1 d1 n2 d2 w2 := (h.2.2.2.2.on hb).all
theorem S1.fin (h : w1.cell? ⟨k, 0, none⟩ = some (.int .i64 n1) ∧ w1.cell? ⟨k, 1, none⟩ = some (.int .i64 d1) ∧ S1 w0 k n1 d1 w1) : Below w0.heap.size w0 w1 := h.2.2.bel
theorem S2.fin (h : w1.cell? ⟨k, 0, none⟩ = some (.int .i64 n1) ∧ w1.cell? ⟨k, 1, none⟩ = some (.int .i64 d1) ∧ w1.cell? ⟨k + 1, 0, none⟩ = some (.int .i64 n2) ∧ w1.cell? ⟨k + 1, 1, none⟩ = some (.int .i64 d2) ∧ S2 w0 k n1 d1 n2 d2 w1) : Below w0.heap.size w0 w1 := h.2.2.2.2.bel
theorem same_below {F : FuncId} {P : Program} {args : Array Value} {w : World} {v : Value} (h : Calls P F args w fun e w' => e = .returned v ∧ w = w') : Calls P F args w fun e w' => e = .returned v ∧ Below w.heap.size w w' :=
  h.mono fun _ _ ⟨h1, h2⟩ => ⟨h1, h2 ▸ Below.refl _ _⟩
theorem S1.new (w : World) (a b : Int) (t : TypeId) : S1 w w.heap.size a b (w.alloc (.cells #[.int .i64 a, .int .i64 b] t)) := ⟨Two.new w a b t, (Below.refl _ w).alloc (Nat.le_refl _) _⟩
theorem S2.new (w : World) (a b c d : Int) (t : TypeId) : S2 w w.heap.size a b c d ((w.alloc (.cells #[.int .i64 a, .int .i64 b] t)).alloc (.cells #[.int .i64 c, .int .i64 d] t)) := by
  refine ⟨(Two.new w a b t).on ((Below.refl _ _).alloc (Nat.le_refl _) _) (by simp), ?_, ((Below.refl _ w).alloc (Nat.le_refl _) _).alloc (by simp) _⟩
  have := Two.new (w.alloc (.cells #[.int .i64 a, .int .i64 b] t)) c d t
  simpa using this
end



set_option maxRecDepth 100000 in
set_option maxHeartbeats 2000000 in
theorem Floor_any (n d : Int) (w : World) (h1 : Fq n d) :
    Calls Tryd.prog 18 #[.agg #[.int .i64 n, .int .i64 (d - 1)]] w fun e w' => e = .returned (.int .i64 (n / d)) ∧ Below w.heap.size w w' := by
  obtain ⟨a1, a2, a3, a4⟩ := h1
  have HF := hide (fun W => same_below (floor_any n d W ⟨by omega, by omega⟩ (by omega) (by omega)))
  have HD := hide (fun W => Den_any n d W (by omega) (by omega))
  have HS := hide (S1.new w n (d - 1) 24)
  go_enter Tryd.func18, Tryd.ntmps18
  go_wp2_with fail
  generalize w.alloc (.cells #[.int .i64 n, .int .i64 (d - 1)] 24) = wX at HS ⊢
  go_region_held3 (fun w' => w'.cell? ⟨w.heap.size, 0, none⟩ = some (.int .i64 n) ∧ w'.cell? ⟨w.heap.size, 1, none⟩ = some (.int .i64 (d - 1)) ∧ S1 w w.heap.size n (d - 1) w')
    (first | (exact HS.out.drew.all) | (exact S1.next (by assumption) (by assumption)))
    (first | (go_at_call 40; refine (HD.out _).mono ?_; rintro e w' ⟨rfl, hb'⟩) | (go_at_call 47; refine (HF.out _).mono ?_; rintro e w' ⟨rfl, hb'⟩))
  all_goals
    go_wp2_with fail
    go_ret
    exact ⟨rfl, S1.fin (by assumption)⟩

set_option maxRecDepth 100000 in
set_option maxHeartbeats 2000000 in
theorem Ceil_any (n d : Int) (w : World) (h1 : Fq n d) :
    Calls Tryd.prog 19 #[.agg #[.int .i64 n, .int .i64 (d - 1)]] w fun e w' => e = .returned (.int .i64 (-(-n / d))) ∧ Below w.heap.size w w' := by
  obtain ⟨a1, a2, a3, a4⟩ := h1
  have i1 : IntKind.i64.wrap (-n) = -n := IntWalk.i64_in _ (by omega)
  have hbd := floor_bnd (a := -n) (b := d) ⟨by omega, by omega⟩ (by omega)
  have HF := hide (fun W => same_below (floor_any (-n) d W ⟨by omega, by omega⟩ (by omega) (by omega)))
  obtain ⟨g, hg⟩ : ∃ g, g = -n / d := ⟨_, rfl⟩
  rw [← hg] at HF hbd ⊢
  have i2 : IntKind.i64.wrap (-g) = -g := IntWalk.i64_in _ (by omega)
  clear hg
  have HD := hide (fun W => Den_any n d W (by omega) (by omega))
  have HS := hide (S1.new w n (d - 1) 24)
  go_enter Tryd.func19, Tryd.ntmps19
  go_wp2_with fail
  generalize w.alloc (.cells #[.int .i64 n, .int .i64 (d - 1)] 24) = wX at HS ⊢
  go_region_held3 (fun w' => w'.cell? ⟨w.heap.size, 0, none⟩ = some (.int .i64 n) ∧ w'.cell? ⟨w.heap.size, 1, none⟩ = some (.int .i64 (d - 1)) ∧ S1 w w.heap.size n (d - 1) w')
    (first | (exact HS.out.drew.all) | (exact S1.next (by assumption) (by assumption)))
    (first | (go_at_call 40; refine (HD.out _).mono ?_; rintro e w' ⟨rfl, hb'⟩) | (go_at_call 47; refine (HF.out _).mono ?_; rintro e w' ⟨rfl, hb'⟩))
  all_goals
    go_wp2_with fail
    go_ret
    exact ⟨rfl, S1.fin (by assumption)⟩

set_option maxRecDepth 100000 in
set_option maxHeartbeats 2000000 in
theorem Round_any (n d : Int) (w : World) (h1 : Fq n d) :
    Calls Tryd.prog 21 #[.agg #[.int .i64 n, .int .i64 (d - 1)]] w fun e w' => e = .returned (.int .i64 ((2 * n + d) / (2 * d))) ∧ Below w.heap.size w w' := by
  obtain ⟨a1, a2, a3, a4⟩ := h1
  have i1 : IntKind.i64.wrap (2 * n) = 2 * n := IntWalk.i64_in _ (by omega)
  have i2 : IntKind.i64.wrap (2 * d) = 2 * d := IntWalk.i64_in _ (by omega)
  have i3 : IntKind.i64.wrap (2 * n + d) = 2 * n + d := IntWalk.i64_in _ (by omega)
  have HF := hide (fun W => same_below (floor_any (2 * n + d) (2 * d) W ⟨by omega, by omega⟩ (by omega) (by omega)))
  have HD := hide (fun W => Den_any n d W (by omega) (by omega))
  have HS := hide (S1.new w n (d - 1) 24)
  go_enter Tryd.func21, Tryd.ntmps21
  go_wp2_with fail
  generalize w.alloc (.cells #[.int .i64 n, .int .i64 (d - 1)] 24) = wX at HS ⊢
  go_region_held3 (fun w' => w'.cell? ⟨w.heap.size, 0, none⟩ = some (.int .i64 n) ∧ w'.cell? ⟨w.heap.size, 1, none⟩ = some (.int .i64 (d - 1)) ∧ S1 w w.heap.size n (d - 1) w')
    (first | (exact HS.out.drew.all) | (exact S1.next (by assumption) (by assumption)))
    (first | (go_at_call 40; refine (HD.out _).mono ?_; rintro e w' ⟨rfl, hb'⟩) | (go_at_call 47; refine (HF.out _).mono ?_; rintro e w' ⟨rfl, hb'⟩))
  all_goals
    go_wp2_with fail
    go_ret
    exact ⟨rfl, S1.fin (by assumption)⟩

set_option maxRecDepth 100000 in
set_option maxHeartbeats 2000000 in
theorem Cmp_any (n1 d1 n2 d2 : Int) (w : World) (h1 : Fq n1 d1) (h2 : Fq n2 d2) :
    Calls Tryd.prog 42 #[.agg #[.int .i64 n1, .int .i64 (d1 - 1)], .agg #[.int .i64 n2, .int .i64 (d2 - 1)]] w fun e w' => e = .returned (.int .i64 (cmpQ (n1 * d2) (n2 * d1))) ∧ Below w.heap.size w w' := by
  obtain ⟨a1, a2, a3, a4⟩ := h1
  obtain ⟨b1, b2, b3, b4⟩ := h2
  have p1 := mul_bnd a1 a2 (show -1073741824 ≤ d2 by omega) b4
  have p2 := mul_bnd b1 b2 (show -1073741824 ≤ d1 by omega) a4
  have HD := hide (fun W => Den_any n1 d1 W (by omega) (by omega))
  have HE := hide (fun W => Den_any n2 d2 W (by omega) (by omega))
  have HS := hide (S2.new w n1 (d1 - 1) n2 (d2 - 1) 24)
  obtain ⟨x, hx⟩ : ∃ x, x = n1 * d2 := ⟨_, rfl⟩
  obtain ⟨y, hy⟩ : ∃ y, y = n2 * d1 := ⟨_, rfl⟩
  have i1 : IntKind.i64.wrap (n1 * d2) = x := by rw [hx]; exact IntWalk.i64_in _ (by omega)
  have i2 : IntKind.i64.wrap (n2 * d1) = y := by rw [hy]; exact IntWalk.i64_in _ (by omega)
  rw [← hx, ← hy]
  rcases (show x < y ∨ (¬ x < y ∧ y < x) ∨ (¬ x < y ∧ ¬ y < x) by omega) with h | ⟨h, h'⟩ | ⟨h, h'⟩
  · have HV := hide (show cmpQ x y = -1 by rw [cmpQ, if_pos h])
    clear hx hy p1 p2
    go_enter Tryd.func42, Tryd.ntmps42
    go_wp2_with fail
    generalize (w.alloc (.cells #[.int .i64 n1, .int .i64 (d1 - 1)] 24)).alloc (.cells #[.int .i64 n2, .int .i64 (d2 - 1)] 24) = wX at HS ⊢
    go_region_held3 (fun w' => w'.cell? ⟨w.heap.size, 0, none⟩ = some (.int .i64 n1) ∧ w'.cell? ⟨w.heap.size, 1, none⟩ = some (.int .i64 (d1 - 1)) ∧ w'.cell? ⟨w.heap.size + 1, 0, none⟩ = some (.int .i64 n2) ∧ w'.cell? ⟨w.heap.size + 1, 1, none⟩ = some (.int .i64 (d2 - 1)) ∧ S2 w w.heap.size n1 (d1 - 1) n2 (d2 - 1) w')
      (first | (exact HS.out.drew.all) | (exact S2.next (by assumption) (by assumption)))
      (first | (go_at_call 40; refine (HD.out _).mono ?_; rintro e w' ⟨rfl, hb'⟩) | (go_at_call 40; refine (HE.out _).mono ?_; rintro e w' ⟨rfl, hb'⟩))
    all_goals
      go_wp2_with fail
      go_ret
      exact ⟨ret_int HV.out.symm, S2.fin (by assumption)⟩
  · have HV := hide (show cmpQ x y = 1 by rw [cmpQ, if_neg h, if_pos h'])
    clear hx hy p1 p2
    go_enter Tryd.func42, Tryd.ntmps42
    go_wp2_with fail
    generalize (w.alloc (.cells #[.int .i64 n1, .int .i64 (d1 - 1)] 24)).alloc (.cells #[.int .i64 n2, .int .i64 (d2 - 1)] 24) = wX at HS ⊢
    go_region_held3 (fun w' => w'.cell? ⟨w.heap.size, 0, none⟩ = some (.int .i64 n1) ∧ w'.cell? ⟨w.heap.size, 1, none⟩ = some (.int .i64 (d1 - 1)) ∧ w'.cell? ⟨w.heap.size + 1, 0, none⟩ = some (.int .i64 n2) ∧ w'.cell? ⟨w.heap.size + 1, 1, none⟩ = some (.int .i64 (d2 - 1)) ∧ S2 w w.heap.size n1 (d1 - 1) n2 (d2 - 1) w')
      (first | (exact HS.out.drew.all) | (exact S2.next (by assumption) (by assumption)))
      (first | (go_at_call 40; refine (HD.out _).mono ?_; rintro e w' ⟨rfl, hb'⟩) | (go_at_call 40; refine (HE.out _).mono ?_; rintro e w' ⟨rfl, hb'⟩))
    all_goals
      go_wp2_with fail
      go_ret
      exact ⟨ret_int HV.out.symm, S2.fin (by assumption)⟩
  · have HV := hide (show cmpQ x y = 0 by rw [cmpQ, if_neg h, if_neg h'])
    clear hx hy p1 p2
    go_enter Tryd.func42, Tryd.ntmps42
    go_wp2_with fail
    generalize (w.alloc (.cells #[.int .i64 n1, .int .i64 (d1 - 1)] 24)).alloc (.cells #[.int .i64 n2, .int .i64 (d2 - 1)] 24) = wX at HS ⊢
    go_region_held3 (fun w' => w'.cell? ⟨w.heap.size, 0, none⟩ = some (.int .i64 n1) ∧ w'.cell? ⟨w.heap.size, 1, none⟩ = some (.int .i64 (d1 - 1)) ∧ w'.cell? ⟨w.heap.size + 1, 0, none⟩ = some (.int .i64 n2) ∧ w'.cell? ⟨w.heap.size + 1, 1, none⟩ = some (.int .i64 (d2 - 1)) ∧ S2 w w.heap.size n1 (d1 - 1) n2 (d2 - 1) w')
      (first | (exact HS.out.drew.all) | (exact S2.next (by assumption) (by assumption)))
      (first | (go_at_call 40; refine (HD.out _).mono ?_; rintro e w' ⟨rfl, hb'⟩) | (go_at_call 40; refine (HE.out _).mono ?_; rintro e w' ⟨rfl, hb'⟩))
    all_goals
      go_wp2_with fail
      go_ret
      exact ⟨ret_int HV.out.symm, S2.fin (by assumption)⟩

end Go.Proofs.YtfappkhohddcjaaDoor
