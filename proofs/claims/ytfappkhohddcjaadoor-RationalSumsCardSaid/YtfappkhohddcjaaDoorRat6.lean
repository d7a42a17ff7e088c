/- The reference's Add, Mul, Div, Neg, Cmp, Floor; Neg. -/
import Derived.Test.YtfappkhohddcjaaDoorRat4
import Derived.Test.YtfappkhohddcjaaDoorRat5
namespace Go.Proofs.YtfappkhohddcjaaDoor
open Go.RowKit

/-- a fraction of bounded size -/
def Fq (n d : Int) : Prop := -1073741824 ≤ n ∧ n ≤ 1073741824 ∧ 1 ≤ d ∧ d ≤ 1073741824
theorem mul_bnd {a b : Int} (h1 : -1073741824 ≤ a) (h2 : a ≤ 1073741824) (h3 : -1073741824 ≤ b) (h4 : b ≤ 1073741824) : -1152921504606846976 ≤ a * b ∧ a * b ≤ 1152921504606846976 := by
  have key : ∀ x y : Int, 0 ≤ x → x ≤ 1073741824 → 0 ≤ y → y ≤ 1073741824 → 0 ≤ x * y ∧ x * y ≤ 1152921504606846976 := fun x y a1 a2 a3 a4 => by
    have := Int.mul_nonneg a1 a3
    have : x * y ≤ 1073741824 * 1073741824 := Int.mul_le_mul a2 a4 a3 (by omega)
    omega
  rcases (show 0 ≤ a ∨ a < 0 by omega) with ha | ha <;> rcases (show 0 ≤ b ∨ b < 0 by omega) with hb | hb
  · have := key a b ha h2 hb h4; omega
  · have := key a (-b) ha h2 (by omega) (by omega); rw [Int.mul_neg] at this; omega
  · have := key (-a) b (by omega) (by omega) hb h4; rw [Int.neg_mul] at this; omega
  · have := key (-a) (-b) (by omega) (by omega) (by omega) (by omega); rw [Int.neg_mul_neg] at this; omega

set_option maxRecDepth 100000 in
set_option maxHeartbeats 2000000 in
theorem RAdd_any (n1 d1 n2 d2 : Int) (w : World) (h1 : Fq n1 d1) (h2 : Fq n2 d2) :
    Calls Tryd.prog 33 #[.agg #[.int .i64 n1, .int .i64 d1], .agg #[.int .i64 n2, .int .i64 d2]] w fun e w' => e = .returned (.tuple #[.agg #[.int .i64 (ofF (n1 * d2 + n2 * d1) (d1 * d2)).n, .int .i64 (ofF (n1 * d2 + n2 * d1) (d1 * d2)).d], .int .i64 (ofF (n1 * d2 + n2 * d1) (d1 * d2)).e]) ∧ Below w.heap.size w w' := by
  obtain ⟨a1, a2, a3, a4⟩ := h1
  obtain ⟨b1, b2, b3, b4⟩ := h2
  have p1 := mul_bnd a1 a2 (show -1073741824 ≤ d2 by omega) b4
  have p2 := mul_bnd b1 b2 (show -1073741824 ≤ d1 by omega) a4
  have p3 := mul_bnd (show -1073741824 ≤ d1 by omega) a4 (show -1073741824 ≤ d2 by omega) b4
  have p4 := mul_bnd a1 a2 b1 b2
  have p5 := mul_bnd (show -1073741824 ≤ d1 by omega) a4 b1 b2
  have i1 : IntKind.i64.wrap (n1 * d2) = n1 * d2 := IntWalk.i64_in _ (by omega)
  have i2 : IntKind.i64.wrap (n2 * d1) = n2 * d1 := IntWalk.i64_in _ (by omega)
  have i3 : IntKind.i64.wrap (n1 * d2 + n2 * d1) = n1 * d2 + n2 * d1 := IntWalk.i64_in _ (by omega)
  have i4 : IntKind.i64.wrap (d1 * d2) = d1 * d2 := IntWalk.i64_in _ (by omega)
  have HOF := hide (fun W => ROf_any (n1 * d2 + n2 * d1) (d1 * d2) W ⟨by omega, by omega⟩ ⟨by omega, by omega⟩)
  obtain ⟨F, hF⟩ : ∃ F, F = ofF (n1 * d2 + n2 * d1) (d1 * d2) := ⟨_, rfl⟩
  rw [← hF] at HOF
  rw [← hF]
  have HT0 := hide ((Two.new ((w.alloc (.cells #[.int .i64 n1, .int .i64 d1] 26)).alloc (.cells #[.int .i64 n2, .int .i64 d2] 26)) 0 0 26))
  have HB0 := hide (((((Below.refl w.heap.size w).alloc (Nat.le_refl _) (.cells #[.int .i64 n1, .int .i64 d1] 26)).alloc (by simp) (.cells #[.int .i64 n2, .int .i64 d2] 26)).alloc (by simp; omega) (.cells #[.int .i64 0, .int .i64 0] 26)))
  rw [show ((w.alloc (.cells #[.int .i64 n1, .int .i64 d1] 26)).alloc (.cells #[.int .i64 n2, .int .i64 d2] 26)).heap.size = w.heap.size + 1 + 1 by simp] at HT0
  clear hF p1 p2 p3 p4 p5
  go_enter Tryd.func33, Tryd.ntmps33
  go_wp2_with fail
  refine (HOF.out _).mono ?_
  rintro e w2 ⟨rfl, hb⟩
  have HB2 := hide (on_tr HB0.out hb)
  have HT2 := hide (HT0.out.on hb HT0.out.lt)
  clear hb
  have r0 := HT2.out.c0
  have r1 := HT2.out.c1
  have f0 := HT2.out.f0
  have f1 := HT2.out.f1
  have e0 := (HT2.out.set F.n F.d).c0
  have e1 := (HT2.out.set F.n F.d).c1
  go_wp2_with fail
  refine bodyPost_ret (v := .tuple #[.agg #[.int .i64 F.n, .int .i64 F.d], .int .i64 F.e]) (by simp [results, Tryd.results33, go_sem, e0, e1]) rfl ?_
  exact ⟨rfl, (HB2.out.setCell (by simp; omega) _).setCell (by simp; omega) _⟩

set_option maxRecDepth 100000 in
set_option maxHeartbeats 2000000 in
theorem RMul_any (n1 d1 n2 d2 : Int) (w : World) (h1 : Fq n1 d1) (h2 : Fq n2 d2) :
    Calls Tryd.prog 35 #[.agg #[.int .i64 n1, .int .i64 d1], .agg #[.int .i64 n2, .int .i64 d2]] w fun e w' => e = .returned (.tuple #[.agg #[.int .i64 (ofF (n1 * n2) (d1 * d2)).n, .int .i64 (ofF (n1 * n2) (d1 * d2)).d], .int .i64 (ofF (n1 * n2) (d1 * d2)).e]) ∧ Below w.heap.size w w' := by
  obtain ⟨a1, a2, a3, a4⟩ := h1
  obtain ⟨b1, b2, b3, b4⟩ := h2
  have p1 := mul_bnd a1 a2 (show -1073741824 ≤ d2 by omega) b4
  have p2 := mul_bnd b1 b2 (show -1073741824 ≤ d1 by omega) a4
  have p3 := mul_bnd (show -1073741824 ≤ d1 by omega) a4 (show -1073741824 ≤ d2 by omega) b4
  have p4 := mul_bnd a1 a2 b1 b2
  have p5 := mul_bnd (show -1073741824 ≤ d1 by omega) a4 b1 b2
  have i1 : IntKind.i64.wrap (n1 * n2) = n1 * n2 := IntWalk.i64_in _ (by omega)
  have i2 : IntKind.i64.wrap (d1 * d2) = d1 * d2 := IntWalk.i64_in _ (by omega)
  have HOF := hide (fun W => ROf_any (n1 * n2) (d1 * d2) W ⟨by omega, by omega⟩ ⟨by omega, by omega⟩)
  obtain ⟨F, hF⟩ : ∃ F, F = ofF (n1 * n2) (d1 * d2) := ⟨_, rfl⟩
  rw [← hF] at HOF
  rw [← hF]
  have HT0 := hide ((Two.new ((w.alloc (.cells #[.int .i64 n1, .int .i64 d1] 26)).alloc (.cells #[.int .i64 n2, .int .i64 d2] 26)) 0 0 26))
  have HB0 := hide (((((Below.refl w.heap.size w).alloc (Nat.le_refl _) (.cells #[.int .i64 n1, .int .i64 d1] 26)).alloc (by simp) (.cells #[.int .i64 n2, .int .i64 d2] 26)).alloc (by simp; omega) (.cells #[.int .i64 0, .int .i64 0] 26)))
  rw [show ((w.alloc (.cells #[.int .i64 n1, .int .i64 d1] 26)).alloc (.cells #[.int .i64 n2, .int .i64 d2] 26)).heap.size = w.heap.size + 1 + 1 by simp] at HT0
  clear hF p1 p2 p3 p4 p5
  go_enter Tryd.func35, Tryd.ntmps35
  go_wp2_with fail
  refine (HOF.out _).mono ?_
  rintro e w2 ⟨rfl, hb⟩
  have HB2 := hide (on_tr HB0.out hb)
  have HT2 := hide (HT0.out.on hb HT0.out.lt)
  clear hb
  have r0 := HT2.out.c0
  have r1 := HT2.out.c1
  have f0 := HT2.out.f0
  have f1 := HT2.out.f1
  have e0 := (HT2.out.set F.n F.d).c0
  have e1 := (HT2.out.set F.n F.d).c1
  go_wp2_with fail
  refine bodyPost_ret (v := .tuple #[.agg #[.int .i64 F.n, .int .i64 F.d], .int .i64 F.e]) (by simp [results, Tryd.results35, go_sem, e0, e1]) rfl ?_
  exact ⟨rfl, (HB2.out.setCell (by simp; omega) _).setCell (by simp; omega) _⟩

set_option maxRecDepth 100000 in
set_option maxHeartbeats 2000000 in
theorem RDiv_any (n1 d1 n2 d2 : Int) (w : World) (h1 : Fq n1 d1) (h2 : Fq n2 d2) :
    Calls Tryd.prog 37 #[.agg #[.int .i64 n1, .int .i64 d1], .agg #[.int .i64 n2, .int .i64 d2]] w fun e w' => e = .returned (.tuple #[.agg #[.int .i64 (ofF (n1 * d2) (d1 * n2)).n, .int .i64 (ofF (n1 * d2) (d1 * n2)).d], .int .i64 (ofF (n1 * d2) (d1 * n2)).e]) ∧ Below w.heap.size w w' := by
  obtain ⟨a1, a2, a3, a4⟩ := h1
  obtain ⟨b1, b2, b3, b4⟩ := h2
  have p1 := mul_bnd a1 a2 (show -1073741824 ≤ d2 by omega) b4
  have p2 := mul_bnd b1 b2 (show -1073741824 ≤ d1 by omega) a4
  have p3 := mul_bnd (show -1073741824 ≤ d1 by omega) a4 (show -1073741824 ≤ d2 by omega) b4
  have p4 := mul_bnd a1 a2 b1 b2
  have p5 := mul_bnd (show -1073741824 ≤ d1 by omega) a4 b1 b2
  have i1 : IntKind.i64.wrap (n1 * d2) = n1 * d2 := IntWalk.i64_in _ (by omega)
  have i2 : IntKind.i64.wrap (d1 * n2) = d1 * n2 := IntWalk.i64_in _ (by omega)
  have HOF := hide (fun W => ROf_any (n1 * d2) (d1 * n2) W ⟨by omega, by omega⟩ ⟨by omega, by omega⟩)
  obtain ⟨F, hF⟩ : ∃ F, F = ofF (n1 * d2) (d1 * n2) := ⟨_, rfl⟩
  rw [← hF] at HOF
  rw [← hF]
  have HT0 := hide ((Two.new ((w.alloc (.cells #[.int .i64 n1, .int .i64 d1] 26)).alloc (.cells #[.int .i64 n2, .int .i64 d2] 26)) 0 0 26))
  have HB0 := hide (((((Below.refl w.heap.size w).alloc (Nat.le_refl _) (.cells #[.int .i64 n1, .int .i64 d1] 26)).alloc (by simp) (.cells #[.int .i64 n2, .int .i64 d2] 26)).alloc (by simp; omega) (.cells #[.int .i64 0, .int .i64 0] 26)))
  rw [show ((w.alloc (.cells #[.int .i64 n1, .int .i64 d1] 26)).alloc (.cells #[.int .i64 n2, .int .i64 d2] 26)).heap.size = w.heap.size + 1 + 1 by simp] at HT0
  clear hF p1 p2 p3 p4 p5
  go_enter Tryd.func37, Tryd.ntmps37
  go_wp2_with fail
  refine (HOF.out _).mono ?_
  rintro e w2 ⟨rfl, hb⟩
  have HB2 := hide (on_tr HB0.out hb)
  have HT2 := hide (HT0.out.on hb HT0.out.lt)
  clear hb
  have r0 := HT2.out.c0
  have r1 := HT2.out.c1
  have f0 := HT2.out.f0
  have f1 := HT2.out.f1
  have e0 := (HT2.out.set F.n F.d).c0
  have e1 := (HT2.out.set F.n F.d).c1
  go_wp2_with fail
  refine bodyPost_ret (v := .tuple #[.agg #[.int .i64 F.n, .int .i64 F.d], .int .i64 F.e]) (by simp [results, Tryd.results37, go_sem, e0, e1]) rfl ?_
  exact ⟨rfl, (HB2.out.setCell (by simp; omega) _).setCell (by simp; omega) _⟩

set_option maxHeartbeats 1000000 in
theorem RNeg_any (n d : Int) (w : World) (h1 : bigr n) :
    Calls Tryd.prog 20 #[.agg #[.int .i64 n, .int .i64 d]] w fun e w' => e = .returned (.agg #[.int .i64 (-n), .int .i64 d]) ∧ Below w.heap.size w w' := by
  obtain ⟨a1, a2⟩ := h1
  have i1 : IntKind.i64.wrap (-n) = -n := IntWalk.i64_in _ (by omega)
  go_enter Tryd.func20, Tryd.ntmps20
  go_wp2_with fail
  refine bodyPost_ret (v := .agg #[.int .i64 (-n), .int .i64 d]) (by simp [results, Tryd.results20, go_sem]) rfl ?_
  exact ⟨rfl, by go_grown⟩

set_option maxHeartbeats 1000000 in
theorem Neg_any (n d : Int) (w : World) (h1 : bigr n) :
    Calls Tryd.prog 38 #[.agg #[.int .i64 n, .int .i64 d]] w fun e w' => e = .returned (.agg #[.int .i64 (-n), .int .i64 d]) ∧ Below w.heap.size w w' := by
  obtain ⟨a1, a2⟩ := h1
  have i1 : IntKind.i64.wrap (-n) = -n := IntWalk.i64_in _ (by omega)
  go_enter Tryd.func38, Tryd.ntmps38
  go_wp2_with fail
  refine bodyPost_ret (v := .agg #[.int .i64 (-n), .int .i64 d]) (by simp [results, Tryd.results38, go_sem]) rfl ?_
  exact ⟨rfl, by go_grown⟩

def cmpQ (x y : Int) : Int := if x < y then -1 else if y < x then 1 else 0

set_option maxHeartbeats 1000000 in
theorem RCmp_any (n1 d1 n2 d2 : Int) (w : World) (h1 : Fq n1 d1) (h2 : Fq n2 d2) :
    Calls Tryd.prog 43 #[.agg #[.int .i64 n1, .int .i64 d1], .agg #[.int .i64 n2, .int .i64 d2]] w fun e w' => e = .returned (.int .i64 (cmpQ (n1 * d2) (n2 * d1))) ∧ Below w.heap.size w w' := by
  obtain ⟨a1, a2, a3, a4⟩ := h1
  obtain ⟨b1, b2, b3, b4⟩ := h2
  have p1 := mul_bnd a1 a2 (show -1073741824 ≤ d2 by omega) b4
  have p2 := mul_bnd b1 b2 (show -1073741824 ≤ d1 by omega) a4
  have i1 : IntKind.i64.wrap (n1 * d2) = n1 * d2 := IntWalk.i64_in _ (by omega)
  have i2 : IntKind.i64.wrap (n2 * d1) = n2 * d1 := IntWalk.i64_in _ (by omega)
  obtain ⟨z, hz⟩ : ∃ z, z = n1 * d2 - n2 * d1 := ⟨_, rfl⟩
  have i3 : IntKind.i64.wrap (n1 * d2 - n2 * d1) = z := by rw [hz]; exact IntWalk.i64_in _ (by omega)
  rcases (show z < 0 ∨ 0 < z ∨ z = 0 by omega) with h | h | h
  · have HV := hide (show cmpQ (n1 * d2) (n2 * d1) = -1 by rw [cmpQ, if_pos (by omega)])
    clear hz p1 p2
    go_enter Tryd.func43, Tryd.ntmps43
    go_wp2_with fail
    go_ret
    exact ⟨ret_int HV.out.symm, by go_grown⟩
  · have HV := hide (show cmpQ (n1 * d2) (n2 * d1) = 1 by rw [cmpQ, if_neg (by omega), if_pos (by omega)])
    have h' : ¬ z < 0 := by omega
    clear hz p1 p2
    go_enter Tryd.func43, Tryd.ntmps43
    go_wp2_with fail
    go_ret
    exact ⟨ret_int HV.out.symm, by go_grown⟩
  · have HV := hide (show cmpQ (n1 * d2) (n2 * d1) = 0 by rw [cmpQ, if_neg (by omega), if_neg (by omega)])
    rw [h] at i3
    clear hz p1 p2 h
    go_enter Tryd.func43, Tryd.ntmps43
    go_wp2_with fail
    go_ret
    exact ⟨ret_int HV.out.symm, by go_grown⟩

set_option maxHeartbeats 1000000 in
theorem RFloor_any (a b : Int) (w : World) (ha : bigr a) (hb : 0 < b) (hb2 : b ≤ 4611686018427387904) :
    Calls Tryd.prog 16 #[.agg #[.int .i64 a, .int .i64 b]] w fun e w' => e = .returned (.int .i64 (a / b)) ∧ Below w.heap.size w w' := by
  have hbd := floor_bnd ha hb
  obtain ⟨h1, h2⟩ := ha
  obtain ⟨f, hf⟩ : ∃ f, f = a / b := ⟨_, rfl⟩
  have hb0 : ¬ b = 0 := by omega
  have hmm := Int.mul_ediv_add_emod a b
  have hm := Int.emod_lt_of_pos a hb
  have hm0 := Int.emod_nonneg a hb0
  rw [← hf] at hbd hmm
  rw [← hf]
  have hcm : b * f = f * b := Int.mul_comm _ _
  rcases floor_cases a b hb with ⟨h0, e1, -, e3⟩ | ⟨h0, -, e1, e3⟩ | ⟨h0, -, e1, e3⟩
  · rw [← hf] at e1 e3
    have i1 : IntKind.i64.wrap f = f := IntWalk.i64_in _ (by omega)
    obtain ⟨g, hg⟩ : ∃ g, g = f * b := ⟨_, rfl⟩
    have i2 : IntKind.i64.wrap (f * b) = g := by rw [hg]; exact IntWalk.i64_in _ (by omega)
    have i3 : ¬ a < g := by omega
    clear hf hmm hcm e3 hg
    go_enter Tryd.func16, Tryd.ntmps16
    go_wp2_with fail
    go_ret
    exact ⟨rfl, by go_grown⟩
  · rw [e1, ← hf] at e3
    rw [← hf] at e1
    have i1 : IntKind.i64.wrap f = f := IntWalk.i64_in _ (by omega)
    have i2 : IntKind.i64.wrap (f * b) = a := by rw [e3]; exact IntWalk.i64_in _ (by omega)
    clear hf hmm hcm e3
    go_enter Tryd.func16, Tryd.ntmps16
    go_wp2_with fail
    go_ret
    exact ⟨rfl, by go_grown⟩
  · rw [e1, ← hf] at e3
    rw [← hf] at e1
    have hfi : IntKind.i64.wrap (f + 1) = f + 1 := IntWalk.i64_in _ (by omega)
    have hfi2 : IntKind.i64.wrap (f + 1 - 1) = f := by rw [show f + 1 - 1 = f by omega]; exact IntWalk.i64_in _ (by omega)
    have hx : (f + 1) * b = f * b + b := by rw [Int.add_mul, Int.one_mul]
    obtain ⟨g, hg⟩ : ∃ g, g = (f + 1) * b := ⟨_, rfl⟩
    have i2 : IntKind.i64.wrap ((f + 1) * b) = g := by rw [hg]; exact IntWalk.i64_in _ (by omega)
    have i3 : a < g := by omega
    clear hf hmm hcm e3 hg hx
    go_enter Tryd.func16, Tryd.ntmps16
    go_wp2_with fail
    go_ret
    exact ⟨by first | rfl | simp, by go_grown⟩

end Go.Proofs.YtfappkhohddcjaaDoor
