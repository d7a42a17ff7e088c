/- Add, Sub, Mul, Div of rational.R. -/
import Derived.Test.YtfappkhohddcjaaDoorRat7
namespace Go.Proofs.YtfappkhohddcjaaDoor
open Go.RowKit

/-- two boxed fractions, the result's block, and what is older -/
structure S3 (w0 : World) (k : Nat) (n1 d1 n2 d2 : Int) (w' : World) : Prop where
  tx : Two w' k n1 d1
  ty : Two w' (k + 1) n2 d2
  tz : ∃ a b, Two w' (k + 2) a b
  hk : k = w0.heap.size
  bel : Below w0.heap.size w0 w'
section
variable {w0 w1 w2 : World} {k : Nat} {n1 d1 n2 d2 : Int}
theorem S3.on (h : S3 w0 k n1 d1 n2 d2 w1) (hb : Below w1.heap.size w1 w2) : S3 w0 k n1 d1 n2 d2 w2 :=
  let ⟨a, b, hz⟩ := h.tz
  ⟨h.tx.on hb h.tx.lt, h.ty.on hb h.ty.lt, ⟨a, b, hz.on hb hz.lt⟩, h.hk, on_tr h.bel hb⟩
theorem S3.drew (h : S3 w0 k n1 d1 n2 d2 w1) : S3 w0 k n1 d1 n2 d2 w1.drew := h.on (Below.drew (Below.refl _ w1))
theorem Two.setOther (h : Two w1 k n1 d1) (b : Nat) (o : Nat) (hk : b ≠ k) (v : Value) : Two (w1.setCell ⟨b, o, none⟩ v) k n1 d1 := by
  refine ⟨by simpa [World.setCell] using h.lt, ?_, ?_, ?_, ?_⟩
  · rw [World.cell?_setCell_other _ _ _ _ (by intro e; injection e with e _; omega)]; exact h.c0
  · rw [World.cell?_setCell_other _ _ _ _ (by intro e; injection e with e _; omega)]; exact h.c1
  · simpa using h.f0
  · simpa using h.f1
theorem S3.set (h : S3 w0 k n1 d1 n2 d2 w1) (a b : Int) : S3 w0 k n1 d1 n2 d2 ((w1.setCell ⟨k + 2, 0, none⟩ (.int .i64 a)).setCell ⟨k + 2, 1, none⟩ (.int .i64 b)) :=
  let ⟨_, _, hz⟩ := h.tz
  ⟨(h.tx.setOther _ _ (by omega) _).setOther _ _ (by omega) _, (h.ty.setOther _ _ (by omega) _).setOther _ _ (by omega) _, ⟨a, b, hz.set a b⟩, h.hk, (h.bel.setCell (by have := h.hk; show w0.heap.size ≤ k + 2; omega) _).setCell (by have := h.hk; show w0.heap.size ≤ k + 2; omega) _⟩
def S3c (w0 : World) (k : Nat) (n1 d1 n2 d2 : Int) (w1 : World) : Prop := w1.cell? ⟨k, 0, none⟩ = some (.int .i64 n1) ∧ w1.cell? ⟨k, 1, none⟩ = some (.int .i64 d1) ∧ w1.cell? ⟨k + 1, 0, none⟩ = some (.int .i64 n2) ∧ w1.cell? ⟨k + 1, 1, none⟩ = some (.int .i64 d2) ∧ S3 w0 k n1 d1 n2 d2 w1
theorem S3.all (h : S3 w0 k n1 d1 n2 d2 w1) : S3c w0 k n1 d1 n2 d2 w1 := ⟨h.tx.c0, h.tx.c1, h.ty.c0, h.ty.c1, h⟩
theorem S3c.next (h : S3c w0 k n1 d1 n2 d2 w1) (hb : Below w1.heap.size w1 w2) : S3c w0 k n1 d1 n2 d2 w2 := (h.2.2.2.2.on hb).all
theorem S3c.set (h : S3c w0 k n1 d1 n2 d2 w1) (a b : Int) : S3c w0 k n1 d1 n2 d2 ((w1.setCell ⟨k + 2, 0, none⟩ (.int .i64 a)).setCell ⟨k + 2, 1, none⟩ (.int .i64 b)) := (h.2.2.2.2.set a b).all
theorem S3c.fin (h : S3c w0 k n1 d1 n2 d2 w1) : Below w0.heap.size w0 w1 := h.2.2.2.2.bel
theorem S3.new (w : World) (a b c d x y : Int) (t : TypeId) : S3 w w.heap.size a b c d (((w.alloc (.cells #[.int .i64 a, .int .i64 b] t)).alloc (.cells #[.int .i64 c, .int .i64 d] t)).alloc (.cells #[.int .i64 x, .int .i64 y] t)) := by
  have h2 := S2.new w a b c d t
  refine ⟨h2.tx.on ((Below.refl _ _).alloc (Nat.le_refl _) _) h2.tx.lt, h2.ty.on ((Below.refl _ _).alloc (Nat.le_refl _) _) h2.ty.lt, ⟨x, y, ?_⟩, rfl, h2.bel.alloc (by simp; omega) _⟩
  have := Two.new ((w.alloc (.cells #[.int .i64 a, .int .i64 b] t)).alloc (.cells #[.int .i64 c, .int .i64 d] t)) x y t
  simpa using this
end

set_option maxRecDepth 100000 in
set_option maxHeartbeats 8000000 in
theorem Mul_any (n1 d1 n2 d2 : Int) (w : World) (h1 : Fq n1 d1) (h2 : Fq n2 d2) :
    Calls Tryd.prog 32 #[.agg #[.int .i64 n1, .int .i64 (d1 - 1)], .agg #[.int .i64 n2, .int .i64 (d2 - 1)]] w fun e w' => e = .returned (.tuple #[.agg #[.int .i64 (ofF (n1 * n2) (d1 * d2)).n, .int .i64 ((ofF (n1 * n2) (d1 * d2)).d - 1)], .int .i64 (ofF (n1 * n2) (d1 * d2)).e]) ∧ Below w.heap.size w w' := by
  obtain ⟨a1, a2, a3, a4⟩ := h1
  obtain ⟨b1, b2, b3, b4⟩ := h2
  have p1 := mul_bnd a1 a2 (show -1073741824 ≤ d2 by omega) b4
  have p2 := mul_bnd b1 b2 (show -1073741824 ≤ d1 by omega) a4
  have p3 := mul_bnd (show -1073741824 ≤ d1 by omega) a4 (show -1073741824 ≤ d2 by omega) b4
  have p4 := mul_bnd a1 a2 b1 b2
  have p5 := mul_bnd (show -1073741824 ≤ d1 by omega) a4 b1 b2
  have i1 : IntKind.i64.wrap (n1 * n2) = n1 * n2 := IntWalk.i64_in _ (by omega)
  have i2 : IntKind.i64.wrap (d1 * d2) = d1 * d2 := IntWalk.i64_in _ (by omega)
  have HOF := hide (fun W => Of_any (n1 * n2) (d1 * d2) W ⟨by omega, by omega⟩ ⟨by omega, by omega⟩)
  obtain ⟨F, hF⟩ : ∃ F, F = ofF (n1 * n2) (d1 * d2) := ⟨_, rfl⟩
  rw [← hF] at HOF
  rw [← hF]
  have HD := hide (fun W => Den_any n1 d1 W (by omega) (by omega))
  have HE := hide (fun W => Den_any n2 d2 W (by omega) (by omega))
  have HS := hide (S3.new w n1 (d1 - 1) n2 (d2 - 1) 0 0 24)
  clear hF p1 p2 p3 p4 p5
  go_enter Tryd.func32, Tryd.ntmps32
  go_wp2_with fail
  generalize ((w.alloc (.cells #[.int .i64 n1, .int .i64 (d1 - 1)] 24)).alloc (.cells #[.int .i64 n2, .int .i64 (d2 - 1)] 24)).alloc (.cells #[.int .i64 0, .int .i64 0] 24) = wX at HS ⊢
  go_region_held3 (fun w' => w'.cell? ⟨w.heap.size, 0, none⟩ = some (.int .i64 n1) ∧ w'.cell? ⟨w.heap.size, 1, none⟩ = some (.int .i64 (d1 - 1)) ∧ w'.cell? ⟨w.heap.size + 1, 0, none⟩ = some (.int .i64 n2) ∧ w'.cell? ⟨w.heap.size + 1, 1, none⟩ = some (.int .i64 (d2 - 1)) ∧ S3 w w.heap.size n1 (d1 - 1) n2 (d2 - 1) w')
    (first | (exact HS.out.drew.all) | (exact S3c.next (by assumption) (by assumption)) | (exact S3c.set (by assumption) _ _))
    (first | (go_at_call 40; refine (HD.out _).mono ?_; rintro e w' ⟨rfl, hb'⟩) | (go_at_call 40; refine (HE.out _).mono ?_; rintro e w' ⟨rfl, hb'⟩) | (go_at_call 29; refine (HOF.out _).mono ?_; rintro e w' ⟨rfl, hb'⟩; obtain ⟨_, _, hz⟩ := (S3c.next (by assumption) hb').2.2.2.2.tz; have r0 := hz.c0; have r1 := hz.c1; have f0 := hz.f0; have f1 := hz.f1; have d0 := (hz.set F.n (F.d - 1)).c0; have d1 := (hz.set F.n (F.d - 1)).c1))
  all_goals
    go_wp2_with fail
    refine bodyPost_ret (v := .tuple #[.agg #[.int .i64 F.n, .int .i64 (F.d - 1)], .int .i64 F.e]) (by simp [results, Tryd.results32, go_sem, *]) rfl ?_
    exact ⟨rfl, S3c.fin (by assumption)⟩

set_option maxRecDepth 100000 in
set_option maxHeartbeats 8000000 in
theorem Div_any (n1 d1 n2 d2 : Int) (w : World) (h1 : Fq n1 d1) (h2 : Fq n2 d2) :
    Calls Tryd.prog 36 #[.agg #[.int .i64 n1, .int .i64 (d1 - 1)], .agg #[.int .i64 n2, .int .i64 (d2 - 1)]] w fun e w' => e = .returned (.tuple #[.agg #[.int .i64 (ofF (n1 * d2) (d1 * n2)).n, .int .i64 ((ofF (n1 * d2) (d1 * n2)).d - 1)], .int .i64 (ofF (n1 * d2) (d1 * n2)).e]) ∧ Below w.heap.size w w' := by
  obtain ⟨a1, a2, a3, a4⟩ := h1
  obtain ⟨b1, b2, b3, b4⟩ := h2
  have p1 := mul_bnd a1 a2 (show -1073741824 ≤ d2 by omega) b4
  have p2 := mul_bnd b1 b2 (show -1073741824 ≤ d1 by omega) a4
  have p3 := mul_bnd (show -1073741824 ≤ d1 by omega) a4 (show -1073741824 ≤ d2 by omega) b4
  have p4 := mul_bnd a1 a2 b1 b2
  have p5 := mul_bnd (show -1073741824 ≤ d1 by omega) a4 b1 b2
  have i1 : IntKind.i64.wrap (n1 * d2) = n1 * d2 := IntWalk.i64_in _ (by omega)
  have i2 : IntKind.i64.wrap (d1 * n2) = d1 * n2 := IntWalk.i64_in _ (by omega)
  have HOF := hide (fun W => Of_any (n1 * d2) (d1 * n2) W ⟨by omega, by omega⟩ ⟨by omega, by omega⟩)
  obtain ⟨F, hF⟩ : ∃ F, F = ofF (n1 * d2) (d1 * n2) := ⟨_, rfl⟩
  rw [← hF] at HOF
  rw [← hF]
  have HD := hide (fun W => Den_any n1 d1 W (by omega) (by omega))
  have HE := hide (fun W => Den_any n2 d2 W (by omega) (by omega))
  have HS := hide (S3.new w n1 (d1 - 1) n2 (d2 - 1) 0 0 24)
  clear hF p1 p2 p3 p4 p5
  go_enter Tryd.func36, Tryd.ntmps36
  go_wp2_with fail
  generalize ((w.alloc (.cells #[.int .i64 n1, .int .i64 (d1 - 1)] 24)).alloc (.cells #[.int .i64 n2, .int .i64 (d2 - 1)] 24)).alloc (.cells #[.int .i64 0, .int .i64 0] 24) = wX at HS ⊢
  go_region_held3 (fun w' => w'.cell? ⟨w.heap.size, 0, none⟩ = some (.int .i64 n1) ∧ w'.cell? ⟨w.heap.size, 1, none⟩ = some (.int .i64 (d1 - 1)) ∧ w'.cell? ⟨w.heap.size + 1, 0, none⟩ = some (.int .i64 n2) ∧ w'.cell? ⟨w.heap.size + 1, 1, none⟩ = some (.int .i64 (d2 - 1)) ∧ S3 w w.heap.size n1 (d1 - 1) n2 (d2 - 1) w')
    (first | (exact HS.out.drew.all) | (exact S3c.next (by assumption) (by assumption)) | (exact S3c.set (by assumption) _ _))
    (first | (go_at_call 40; refine (HD.out _).mono ?_; rintro e w' ⟨rfl, hb'⟩) | (go_at_call 40; refine (HE.out _).mono ?_; rintro e w' ⟨rfl, hb'⟩) | (go_at_call 29; refine (HOF.out _).mono ?_; rintro e w' ⟨rfl, hb'⟩; obtain ⟨_, _, hz⟩ := (S3c.next (by assumption) hb').2.2.2.2.tz; have r0 := hz.c0; have r1 := hz.c1; have f0 := hz.f0; have f1 := hz.f1; have d0 := (hz.set F.n (F.d - 1)).c0; have d1 := (hz.set F.n (F.d - 1)).c1))
  all_goals
    go_wp2_with fail
    refine bodyPost_ret (v := .tuple #[.agg #[.int .i64 F.n, .int .i64 (F.d - 1)], .int .i64 F.e]) (by simp [results, Tryd.results36, go_sem, *]) rfl ?_
    exact ⟨rfl, S3c.fin (by assumption)⟩

set_option maxRecDepth 100000 in
set_option maxHeartbeats 8000000 in
theorem Add_any (n1 d1 n2 d2 : Int) (w : World) (h1 : Fq n1 d1) (h2 : Fq n2 d2) :
    Calls Tryd.prog 31 #[.agg #[.int .i64 n1, .int .i64 (d1 - 1)], .agg #[.int .i64 n2, .int .i64 (d2 - 1)]] w fun e w' => e = .returned (.tuple #[.agg #[.int .i64 (ofF (n1 * d2 + n2 * d1) (d1 * d2)).n, .int .i64 ((ofF (n1 * d2 + n2 * d1) (d1 * d2)).d - 1)], .int .i64 (ofF (n1 * d2 + n2 * d1) (d1 * d2)).e]) ∧ Below w.heap.size w w' := by
  obtain ⟨a1, a2, a3, a4⟩ := h1
  obtain ⟨b1, b2, b3, b4⟩ := h2
  have p1 := mul_bnd a1 a2 (show -1073741824 ≤ d2 by omega) b4
  have p2 := mul_bnd b1 b2 (show -1073741824 ≤ d1 by omega) a4
  have p3 := mul_bnd (show -1073741824 ≤ d1 by omega) a4 (show -1073741824 ≤ d2 by omega) b4
  have p4 := mul_bnd a1 a2 b1 b2
  have p5 := mul_bnd (show -1073741824 ≤ d1 by omega) a4 b1 b2
  have i1 : IntKind.i64.wrap (n1 * d2) = n1 * d2 := IntWalk.i64_in _ (by omega)
  have i2 : IntKind.i64.wrap (n2 * d1) = n2 * d1 := IntWalk.i64_in _ (by omega)
  have i3 : IntKind.i64.wrap (n1 * d2 + n2 * d1) = n1 * d2 + n2 * d1 := IntWalk.i64_in _ (by omega)
  have i4 : IntKind.i64.wrap (d1 * d2) = d1 * d2 := IntWalk.i64_in _ (by omega)
  have HOF := hide (fun W => Of_any (n1 * d2 + n2 * d1) (d1 * d2) W ⟨by omega, by omega⟩ ⟨by omega, by omega⟩)
  obtain ⟨F, hF⟩ : ∃ F, F = ofF (n1 * d2 + n2 * d1) (d1 * d2) := ⟨_, rfl⟩
  rw [← hF] at HOF
  rw [← hF]
  have HD := hide (fun W => Den_any n1 d1 W (by omega) (by omega))
  have HE := hide (fun W => Den_any n2 d2 W (by omega) (by omega))
  have HS := hide (S3.new w n1 (d1 - 1) n2 (d2 - 1) 0 0 24)
  clear hF p1 p2 p3 p4 p5
  go_enter Tryd.func31, Tryd.ntmps31
  go_wp2_with fail
  generalize ((w.alloc (.cells #[.int .i64 n1, .int .i64 (d1 - 1)] 24)).alloc (.cells #[.int .i64 n2, .int .i64 (d2 - 1)] 24)).alloc (.cells #[.int .i64 0, .int .i64 0] 24) = wX at HS ⊢
  go_region_held3 (fun w' => w'.cell? ⟨w.heap.size, 0, none⟩ = some (.int .i64 n1) ∧ w'.cell? ⟨w.heap.size, 1, none⟩ = some (.int .i64 (d1 - 1)) ∧ w'.cell? ⟨w.heap.size + 1, 0, none⟩ = some (.int .i64 n2) ∧ w'.cell? ⟨w.heap.size + 1, 1, none⟩ = some (.int .i64 (d2 - 1)) ∧ S3 w w.heap.size n1 (d1 - 1) n2 (d2 - 1) w')
    (first | (exact HS.out.drew.all) | (exact S3c.next (by assumption) (by assumption)) | (exact S3c.set (by assumption) _ _))
    (first | (go_at_call 40; refine (HD.out _).mono ?_; rintro e w' ⟨rfl, hb'⟩) | (go_at_call 40; refine (HE.out _).mono ?_; rintro e w' ⟨rfl, hb'⟩) | (go_at_call 29; refine (HOF.out _).mono ?_; rintro e w' ⟨rfl, hb'⟩; obtain ⟨_, _, hz⟩ := (S3c.next (by assumption) hb').2.2.2.2.tz; have r0 := hz.c0; have r1 := hz.c1; have f0 := hz.f0; have f1 := hz.f1; have d0 := (hz.set F.n (F.d - 1)).c0; have d1 := (hz.set F.n (F.d - 1)).c1))
  all_goals
    go_wp2_with fail
    refine bodyPost_ret (v := .tuple #[.agg #[.int .i64 F.n, .int .i64 (F.d - 1)], .int .i64 F.e]) (by simp [results, Tryd.results31, go_sem, *]) rfl ?_
    exact ⟨rfl, S3c.fin (by assumption)⟩

set_option maxRecDepth 100000 in
set_option maxHeartbeats 8000000 in
theorem Sub_any (n1 d1 n2 d2 : Int) (w : World) (h1 : Fq n1 d1) (h2 : Fq n2 d2) :
    Calls Tryd.prog 34 #[.agg #[.int .i64 n1, .int .i64 (d1 - 1)], .agg #[.int .i64 n2, .int .i64 (d2 - 1)]] w fun e w' => e = .returned (.tuple #[.agg #[.int .i64 (ofF (n1 * d2 + -n2 * d1) (d1 * d2)).n, .int .i64 ((ofF (n1 * d2 + -n2 * d1) (d1 * d2)).d - 1)], .int .i64 (ofF (n1 * d2 + -n2 * d1) (d1 * d2)).e]) ∧ Below w.heap.size w w' := by
  have HOF := hide (fun W => Add_any n1 d1 (-n2) d2 W h1 ⟨by have := h2.2.1; omega, by have := h2.1; omega, h2.2.2⟩)
  have HD := hide (fun W => Neg_any n2 (d2 - 1) W ⟨by have := h2.1; omega, by have := h2.2.1; omega⟩)
  obtain ⟨F, hF⟩ : ∃ F, F = ofF (n1 * d2 + -n2 * d1) (d1 * d2) := ⟨_, rfl⟩
  rw [← hF] at HOF
  rw [← hF]
  have HS := hide (S3.new w n1 (d1 - 1) n2 (d2 - 1) 0 0 24)
  clear hF h1 h2
  go_enter Tryd.func34, Tryd.ntmps34
  go_wp2_with fail
  generalize ((w.alloc (.cells #[.int .i64 n1, .int .i64 (d1 - 1)] 24)).alloc (.cells #[.int .i64 n2, .int .i64 (d2 - 1)] 24)).alloc (.cells #[.int .i64 0, .int .i64 0] 24) = wX at HS ⊢
  go_region_held3 (fun w' => w'.cell? ⟨w.heap.size, 0, none⟩ = some (.int .i64 n1) ∧ w'.cell? ⟨w.heap.size, 1, none⟩ = some (.int .i64 (d1 - 1)) ∧ w'.cell? ⟨w.heap.size + 1, 0, none⟩ = some (.int .i64 n2) ∧ w'.cell? ⟨w.heap.size + 1, 1, none⟩ = some (.int .i64 (d2 - 1)) ∧ S3 w w.heap.size n1 (d1 - 1) n2 (d2 - 1) w')
    (first | (exact HS.out.drew.all) | (exact S3c.next (by assumption) (by assumption)) | (exact S3c.set (by assumption) _ _))
    (first | (go_at_call 38; refine (HD.out _).mono ?_; rintro e w' ⟨rfl, hb'⟩) | (go_at_call 31; refine (HOF.out _).mono ?_; rintro e w' ⟨rfl, hb'⟩; obtain ⟨_, _, hz⟩ := (S3c.next (by assumption) hb').2.2.2.2.tz; have r0 := hz.c0; have r1 := hz.c1; have f0 := hz.f0; have f1 := hz.f1; have d0 := (hz.set F.n (F.d - 1)).c0; have d1 := (hz.set F.n (F.d - 1)).c1))
  all_goals
    go_wp2_with fail
    refine bodyPost_ret (v := .tuple #[.agg #[.int .i64 F.n, .int .i64 (F.d - 1)], .int .i64 F.e]) (by simp [results, Tryd.results34, go_sem, *]) rfl ?_
    exact ⟨rfl, S3c.fin (by assumption)⟩

end Go.Proofs.YtfappkhohddcjaaDoor
