/- sort.Search at find$1; slices.MinFunc at compare. -/
import Derived.Test.YtajkmlejklgbbaaSpFind
namespace Go.Proofs.Ytajkmlejklgbbaa
open Go.RowKit

set_option maxHeartbeats 1000000 in
theorem search_any (A : Option Addr) (n c : Nat) (l : List Spr) (num den width : Int) (m : Nat) (bl bn bd bw : Nat) (w : World) (hn : n = l.length) (hm : n ≤ 8192) (hok : ∀ s ∈ l, s.ok)
    (h0 : 0 ≤ num) (h1 : num + 1 + m ≤ 268435456) (h2 : 1 ≤ den) (h3 : den ≤ 268435456)
    (h : Rds w w.heap.size A (sprs l)) (cl : w.cell? ⟨bl, 0, none⟩ = some (.slice A n c)) (cn : w.cell? ⟨bn, 0, none⟩ = some (.int .i64 num)) (cd : w.cell? ⟨bd, 0, none⟩ = some (.int .i64 den))
    (cw : w.cell? ⟨bw, 0, none⟩ = some (.int .i64 width)) (hbl : bl < w.heap.size) (hbn : bn < w.heap.size) (hbd : bd < w.heap.size) (hbw : bw < w.heap.size) :
    Calls Try.prog 55 #[.int .i64 m, Value.func (Fn.func 56) #[] #[.pointer (some ⟨bl, 0, none⟩), .pointer (some ⟨bn, 0, none⟩), .pointer (some ⟨bd, 0, none⟩), .pointer (some ⟨bw, 0, none⟩)]] w
      fun e w' => ∃ k : Nat, e = .returned (.int .i64 k) ∧ k ≤ m ∧ (∀ t : Nat, t < k → lens l (num + 1 + t) den ≤ width) ∧ (k < m → width < lens l (num + 1 + k) den) ∧ Below w.heap.size w w' := by
  have HN := hide hn
  have HOK := hide hok
  have HR := hide h
  have C1 := hide cl
  have C2 := hide cn
  have C3 := hide cd
  have C4 := hide cw
  clear hn hok h cl cn cd cw
  go_enter Try.func55, Try.ntmps55
  go_wp2_with fail
  go_loopg [5, 6] m (fun gk s5 s6 wr => ∃ lo hi : Nat, s5 = .int .i64 lo ∧ s6 = .int .i64 hi ∧ lo ≤ hi ∧ hi ≤ m ∧ hi - lo ≤ gk ∧ Below w.heap.size w wr ∧
    Hid ((∀ t : Nat, t < lo → lens l (num + 1 + t) den ≤ width) ∧ (∀ t : Nat, hi ≤ t → t < m → width < lens l (num + 1 + t) den)))
  case atStart => exact ⟨0, m, rfl, rfl, Nat.zero_le _, Nat.le_refl _, by omega, Below.refl _ _, (⟨fun t ht => absurd ht (Nat.not_lt_zero _), fun t h1 h2 => absurd h2 (by omega)⟩ : (∀ t : Nat, t < 0 → lens l (num + 1 + t) den ≤ width) ∧ (∀ t : Nat, m ≤ t → t < m → width < lens l (num + 1 + t) den))⟩
  case round =>
    obtain ⟨lo, hi, rfl, rfl, hlh, hin, hg, hb, I⟩ := hrel
    by_cases hlt : lo < hi
    · have HB := hide hb
      have hsz := hb.size
      clear hb
      by_cases hp : width < lens l (num + 1 + ((lo : Int) + (hi : Int)) / 2) den
      · have hd := decide_eq_true hp
        have HP := hide hp
        have hc := find1_any A n c l num den width (((lo : Int) + (hi : Int)) / 2) bl bn bd bw wr HN.out hm HOK.out h0 (by omega) (by omega) h2 h3 (Rds.on2 HR.out HB.out)
          ((HB.out.cell (p := ⟨bl, 0, none⟩) hbl).trans C1.out) ((HB.out.cell (p := ⟨bn, 0, none⟩) hbn).trans C2.out) ((HB.out.cell (p := ⟨bd, 0, none⟩) hbd).trans C3.out) ((HB.out.cell (p := ⟨bw, 0, none⟩) hbw).trans C4.out)
          (by omega) (by omega) (by omega) (by omega)
        rw [hd] at hc
        have HC := hide hc
        clear hc hd hp
        go_wp2_with fail
        refine HC.out.mono ?_
        rintro e w1 ⟨rfl, hb1⟩
        go_wp2_with fail
        go_roundg ((lo + hi) / 2 - lo)
        case measure => omega
        case rel =>
          refine ⟨lo, (lo + hi) / 2, rfl, by rw [show ((lo : Int) + (hi : Int)) / 2 = (((lo + hi) / 2 : Nat) : Int) by omega], by omega, by omega, Nat.le_refl _, find1_tr HB.out hb1, ?_⟩
          exact hide ⟨I.out.1, fun t ht htm => Int.lt_of_lt_of_le HP.out (lens_mono (fun s hs => (Spr.ok_of (HOK.out s hs)).1) h2 h2 (Int.mul_le_mul_of_nonneg_right (by omega) (by omega)))⟩
      · have hd := decide_eq_false hp
        have HP := hide (show lens l (num + 1 + ((lo : Int) + (hi : Int)) / 2) den ≤ width by omega)
        have hc := find1_any A n c l num den width (((lo : Int) + (hi : Int)) / 2) bl bn bd bw wr HN.out hm HOK.out h0 (by omega) (by omega) h2 h3 (Rds.on2 HR.out HB.out)
          ((HB.out.cell (p := ⟨bl, 0, none⟩) hbl).trans C1.out) ((HB.out.cell (p := ⟨bn, 0, none⟩) hbn).trans C2.out) ((HB.out.cell (p := ⟨bd, 0, none⟩) hbd).trans C3.out) ((HB.out.cell (p := ⟨bw, 0, none⟩) hbw).trans C4.out)
          (by omega) (by omega) (by omega) (by omega)
        rw [hd] at hc
        have HC := hide hc
        clear hc hd hp
        go_wp2_with fail
        refine HC.out.mono ?_
        rintro e w1 ⟨rfl, hb1⟩
        go_wp2_with fail
        go_roundg (hi - ((lo + hi) / 2 + 1))
        case measure => omega
        case rel =>
          refine ⟨(lo + hi) / 2 + 1, hi, by rw [show ((lo : Int) + (hi : Int)) / 2 + 1 = (((lo + hi) / 2 + 1 : Nat) : Int) by omega], rfl, by omega, hin, Nat.le_refl _, find1_tr HB.out hb1, ?_⟩
          exact hide ⟨fun t ht => Int.le_trans (lens_mono (fun s hs => (Spr.ok_of (HOK.out s hs)).1) h2 h2 (Int.mul_le_mul_of_nonneg_right (by omega) (by omega))) HP.out, I.out.2⟩
    · obtain rfl : hi = lo := by omega
      go_wp2_with fail
      go_ret
      exact ⟨hi, rfl, hin, I.out.1, fun h => I.out.2 hi (Nat.le_refl _) h, hb⟩

/-- forces in memory -/
def frcs (l : List (Int × Int)) : List Value := l.flatMap fun f => [.int .i64 f.1, .int .i64 f.2]
theorem frcs_length (l : List (Int × Int)) : (frcs l).length = l.length * 2 := flat_length _ 2 (fun _ => rfl) l
theorem frc_ty : ElemTy Try.prog 89 87 2 16 :=
  ElemTy.of (z := .agg #[.int .i64 0, .int .i64 0]) Try.underlying89 (by kernel_rfl) rfl (by omega)
theorem Rds.frc {w : World} {B : Nat} {A : Option Addr} {l : List (Int × Int)} (h : Rds w B A (frcs l)) {k : Nat} {c : Int × Int} (hk : l[k]? = some c) :
    ∃ b off, A = some ⟨b, off, none⟩ ∧ b < B ∧ w.cell? ⟨b, off + k * 2, none⟩ = some (.int .i64 c.1) ∧ w.cell? ⟨b, off + k * 2 + 1, none⟩ = some (.int .i64 c.2) := by
  obtain ⟨hlt, -⟩ := List.getElem?_eq_some_iff.1 hk
  obtain ⟨b, off, e, hb, hc⟩ := h.get (k := k * 2) (by rw [frcs_length]; omega)
  have g := fun j hj => flat_get (fun f : Int × Int => [Value.int .i64 f.1, Value.int .i64 f.2]) 2 (fun _ => rfl) l k j c hk hj
  refine ⟨b, off, e, hb, hc _ _ (g 0 (by omega)), ?_⟩
  have := hc _ _ (g 1 (by omega)); rw [Nat.add_assoc]; exact this

end Go.Proofs.Ytajkmlejklgbbaa
