/- spring.compare, find$1, sort.Search at it, slices.MinFunc at compare. -/
import Derived.Test.YtajkmlejklgbbaaSpTot
import Derived.Test.YtajkmlejklgbbaaSpBal
import Derived.Test.YtajkmlejklgbbaaSpCmp
namespace Go.Proofs.Ytajkmlejklgbbaa
open Go.RowKit

def cmpF (a b c d : Int) : Int := cmpS (a * d) (c * b)

theorem Rds.on2 {w w' : World} {A : Option Addr} {xs : List Value} (h : Rds w w.heap.size A xs) (hb : Below w.heap.size w w') : Rds w' w'.heap.size A xs := (h.below hb).more hb.size
theorem find1_tr {w w1 w2 : World} (h : Below w.heap.size w w1) (h2 : Below w1.heap.size w1 w2) : Below w.heap.size w w2 := h.trans (h2.mono h.size)
theorem below5 {a b c d : Prop} {B : Nat} {w w' : World} (h : a ∧ b ∧ c ∧ d ∧ Below B w w') : Below B w w' := h.2.2.2.2
theorem find1_keep {w w' : World} {a b c d : Nat} {x y z t : Value} (h : Below w.heap.size w w') (ha : a < w.heap.size) (hb : b < w.heap.size) (hc : c < w.heap.size) (hd : d < w.heap.size)
    (h1 : w.cell? ⟨a, 0, none⟩ = some x) (h2 : w.cell? ⟨b, 0, none⟩ = some y) (h3 : w.cell? ⟨c, 0, none⟩ = some z) (h4 : w.cell? ⟨d, 0, none⟩ = some t) :
    w'.cell? ⟨a, 0, none⟩ = some x ∧ w'.cell? ⟨b, 0, none⟩ = some y ∧ w'.cell? ⟨c, 0, none⟩ = some z ∧ w'.cell? ⟨d, 0, none⟩ = some t ∧ Below w.heap.size w w' :=
  ⟨(h.cell (p := ⟨a, 0, none⟩) ha).trans h1, (h.cell (p := ⟨b, 0, none⟩) hb).trans h2, (h.cell (p := ⟨c, 0, none⟩) hc).trans h3, (h.cell (p := ⟨d, 0, none⟩) hd).trans h4, h⟩

set_option maxHeartbeats 1000000 in
theorem compare_any (a b c d : Int) (w : World) (a0 : 0 ≤ a) (a1 : a ≤ 268435456) (b0 : 1 ≤ b) (b1 : b ≤ 268435456) (c0 : 0 ≤ c) (c1 : c ≤ 268435456) (d0 : 1 ≤ d) (d1 : d ≤ 268435456) :
    Calls Try.prog 46 #[.agg #[.int .i64 a, .int .i64 b], .agg #[.int .i64 c, .int .i64 d]] w fun e w' => e = .returned (.int .i64 (cmpF a b c d)) ∧ Below w.heap.size w w' := by
  have e1 : 0 ≤ a * d := Int.mul_nonneg a0 (by omega)
  have e2 : a * d ≤ 268435456 * 268435456 := Int.mul_le_mul a1 d1 (by omega) (by omega)
  have e3 : 0 ≤ c * b := Int.mul_nonneg c0 (by omega)
  have e4 : c * b ≤ 268435456 * 268435456 := Int.mul_le_mul c1 b1 (by omega) (by omega)
  have i1 : IntKind.i64.wrap (a * d) = a * d := IntWalk.i64_in _ (by omega)
  have i2 : IntKind.i64.wrap (c * b) = c * b := IntWalk.i64_in _ (by omega)
  obtain ⟨x, hx⟩ : ∃ x, x = a * d := ⟨_, rfl⟩
  obtain ⟨y, hy⟩ : ∃ y, y = c * b := ⟨_, rfl⟩
  have HC := hide (show cmpF a b c d = cmpS x y by rw [cmpF, hx, hy])
  clear hx hy e1 e2 e3 e4 a0 a1 b0 b1 c0 c1 d0 d1
  go_enter Try.func46, Try.ntmps46
  go_wp2_with fail
  refine (CompareS_any _ _ _).mono ?_
  rintro e w1 ⟨rfl, rfl⟩
  go_wp2_with fail
  go_ret
  exact ⟨ret_int (by first | exact HC.out.symm | rfl), by go_grown⟩

set_option maxHeartbeats 1000000 in
theorem find1_any (A : Option Addr) (n c : Nat) (l : List Spr) (num den width : Int) (k : Int) (bl bn bd bw : Nat) (w : World) (hn : n = l.length) (hm : n ≤ 8192) (hok : ∀ s ∈ l, s.ok)
    (h0 : 0 ≤ num) (h1 : num + 1 + k ≤ 268435456) (hk0 : 0 ≤ k) (h2 : 1 ≤ den) (h3 : den ≤ 268435456)
    (h : Rds w w.heap.size A (sprs l)) (cl : w.cell? ⟨bl, 0, none⟩ = some (.slice A n c)) (cn : w.cell? ⟨bn, 0, none⟩ = some (.int .i64 num)) (cd : w.cell? ⟨bd, 0, none⟩ = some (.int .i64 den))
    (cw : w.cell? ⟨bw, 0, none⟩ = some (.int .i64 width)) (hbl : bl < w.heap.size) (hbn : bn < w.heap.size) (hbd : bd < w.heap.size) (hbw : bw < w.heap.size) :
    Calls Try.prog 56 #[.int .i64 k, .pointer (some ⟨bl, 0, none⟩), .pointer (some ⟨bn, 0, none⟩), .pointer (some ⟨bd, 0, none⟩), .pointer (some ⟨bw, 0, none⟩)] w
      fun e w' => e = .returned (.bool (decide (width < lens l (num + 1 + k) den))) ∧ Below w.heap.size w w' := by
  have i1 : IntKind.i64.wrap (num + 1) = num + 1 := IntWalk.i64_in _ (by omega)
  have i2 : IntKind.i64.wrap (num + 1 + k) = num + 1 + k := IntWalk.i64_in _ (by omega)
  have HN := hide hn
  have HOK := hide hok
  have HR := hide h
  have hb0 : Below w.heap.size w w := Below.refl _ _
  have C1 := hide cl
  have C2 := hide cn
  have C3 := hide cd
  have C4 := hide cw
  clear hn hok h
  go_enter Try.func56, Try.ntmps56
  go_wp2_with fail
  go_region_held3 (fun w' => w'.cell? ⟨bl, 0, none⟩ = some (.slice A n c) ∧ w'.cell? ⟨bn, 0, none⟩ = some (.int .i64 num) ∧ w'.cell? ⟨bd, 0, none⟩ = some (.int .i64 den) ∧ w'.cell? ⟨bw, 0, none⟩ = some (.int .i64 width) ∧ Below w.heap.size w w')
    (first | (go_keep; done) | (exact find1_keep (Below.drew (Below.refl _ _)) hbl hbn hbd hbw C1.out C2.out C3.out C4.out) | (exact find1_keep (find1_tr (below5 (by assumption)) (by assumption)) hbl hbn hbd hbw C1.out C2.out C3.out C4.out) | (exact find1_keep (Below.drew (below5 (by assumption))) hbl hbn hbd hbw C1.out C2.out C3.out C4.out))
    (first | (go_at_call 47; refine (total_any A n c l _ _ _ HN.out hm (Rds.on2 HR.out (below5 (by assumption))) HOK.out (by omega) (by omega) (by omega) (by omega)).mono ?_; rintro e w' ⟨rfl, hb'⟩))
  go_wp2_with fail
  go_ret
  exact ⟨rfl, below5 (by assumption)⟩

end Go.Proofs.Ytajkmlejklgbbaa
