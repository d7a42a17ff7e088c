/- spacing.Springs where it returns an error; the plain springs. -/
import Derived.Test.YtajkmlejklgbbaaChk
import Derived.Test.YtajkmlejklgbbaaNat
import Derived.Test.YtajkmlejklgbbaaClone
import Derived.Test.YtajkmlejklgbbaaSp
namespace Go.Proofs.Ytajkmlejklgbbaa
open Go.RowKit

theorem Rds.lst {w : World} {B : Nat} {A : Option Addr} {l : List Lst} (h : Rds w B A (lsts l)) {k : Nat} {c : Lst} (hk : l[k]? = some c) :
    ∃ b off, A = some ⟨b, off, none⟩ ∧ b < B ∧ w.cell? ⟨b, off + k * 3, none⟩ = some (.int .i64 c.f) ∧
      w.cell? ⟨b, off + k * 3 + 1, none⟩ = some (.int .i64 c.l) ∧ w.cell? ⟨b, off + k * 3 + 2, none⟩ = some (.int .i64 c.d) := by
  obtain ⟨hlt, -⟩ := List.getElem?_eq_some_iff.1 hk
  obtain ⟨b, off, e, hb, hc⟩ := h.get (k := k * 3) (by rw [lsts_length]; omega)
  have g := fun j hj => flat_get Lst.cells 3 (fun _ => rfl) l k j c hk hj
  refine ⟨b, off, e, hb, hc _ _ (g 0 (by omega)), ?_, ?_⟩
  · have := hc _ _ (g 1 (by omega)); rw [Nat.add_assoc]; exact this
  · have := hc _ _ (g 2 (by omega)); rw [Nat.add_assoc]; exact this

/-- a least distance fits so many columns -/
def Lst.ok (m : Nat) (x : Lst) : Prop := 0 ≤ x.f ∧ x.f < x.l ∧ x.l < m ∧ 0 ≤ x.d ∧ x.d ≤ 65536
instance (m : Nat) (x : Lst) : Decidable (x.ok m) := by unfold Lst.ok; exact inferInstance
theorem Lst.ok_of {m : Nat} {x : Lst} (h : x.ok m) : 0 ≤ x.f ∧ x.f < x.l ∧ x.l < m ∧ 0 ≤ x.d ∧ x.d ≤ 65536 := h
theorem Lst.nok_of {m : Nat} {x : Lst} (h : ¬ x.ok m) : x.f < 0 ∨ x.l ≤ x.f ∨ m ≤ x.l ∨ x.d < 0 ∨ 65536 < x.d := by unfold Lst.ok at h; omega

def Col.nz (c : Col) : Bool := !(c.l == 0 && c.r == 0 && c.t == 0)
theorem run_neq_col (c : Col) (w : World) : (binOp .neq 41 (.agg #[.int .i64 c.l, .int .i64 c.r, .int .i64 c.t]) (.agg #[.int .i64 0, .int .i64 0, .int .i64 0])).run Try.prog w = .ok (.bool c.nz) w := by
  go_simp
  unfold Col.nz
  split <;> simp_all
  split <;> simp_all
  split <;> simp_all

def sprErr (l : List Col) (s g : Int) (L : List Lst) : Int :=
  if colErr l ≠ 0 then colErr l else if ¬ (1 ≤ s ∧ s ≤ 15482880 ∧ 0 ≤ g ∧ g ≤ 1024) then 2 else if ∀ x ∈ L, x.ok l.length then 0 else 2

def NilErr (w : World) (err : Int) (e : Ending) (w' : World) : Prop := e = .returned (.tuple #[.slice none 0 0, .int .i64 err]) ∧ Below w.heap.size w w'

set_option maxRecDepth 100000 in
set_option maxHeartbeats 1000000 in
theorem Springs_err1 (A A' : Option Addr) (n c n' c' : Nat) (l : List Col) (s g : Int) (w : World) (hn : n = l.length) (hm : n ≤ 9223372036854775807)
    (h : Rds w w.heap.size A (cols l)) (he : colErr l ≠ 0) :
    Calls Try.prog 16 #[.slice A n c, .int .i64 s, .int .i64 g, .slice A' n' c'] w (NilErr w (colErr l)) := by
  have HN := hide hn
  have he' : (colErr l != 0) = true := by simpa using he
  clear hn he
  go_enter Try.func16, Try.ntmps16
  go_wp2_with fail
  refine (check_any A n c l _ HN.out hm h).mono ?_
  rintro e w1 ⟨rfl, hb1⟩
  go_wp2_with fail
  go_ret2
  exact ⟨rfl, hb1⟩

set_option maxRecDepth 100000 in
set_option maxHeartbeats 1000000 in
theorem Springs_err2 (A A' : Option Addr) (n c n' c' : Nat) (l : List Col) (s g : Int) (w : World) (hn : n = l.length) (hm : n ≤ 9223372036854775807)
    (h : Rds w w.heap.size A (cols l)) (he : colErr l = 0) (hs : ¬ (1 ≤ s ∧ s ≤ 15482880 ∧ 0 ≤ g ∧ g ≤ 1024)) :
    Calls Try.prog 16 #[.slice A n c, .int .i64 s, .int .i64 g, .slice A' n' c'] w (NilErr w 2) := by
  have HN := hide hn
  have he' : (colErr l != 0) = false := by simpa using he
  clear hn
  have hs' : s < 1 ∨ 15482880 < s ∨ g < 0 ∨ 1024 < g := by omega
  clear hs
  go_enter Try.func16, Try.ntmps16
  go_wp2_with fail
  refine (check_any A n c l _ HN.out hm h).mono ?_
  rintro e w1 ⟨rfl, hb1⟩
  go_wp2_with (first | (go_at_call 32; fail) | (go_at_call 31; go_in))
  all_goals
    first
    | (go_ret2; exact ⟨rfl, hb1⟩)
    | (exfalso; simp only [Bool.not_eq_false', decide_eq_true_eq] at *; omega)

set_option maxRecDepth 100000 in
set_option maxHeartbeats 1000000 in
theorem Springs_err3 (A A' : Option Addr) (n c n' c' : Nat) (l : List Col) (s g : Int) (L : List Lst) (w : World) (hn : n = l.length) (hm : n ≤ 9223372036854775807)
    (h : Rds w w.heap.size A (cols l)) (he : colErr l = 0) (hs : 1 ≤ s ∧ s ≤ 15482880 ∧ 0 ≤ g ∧ g ≤ 1024)
    (hn' : n' = L.length) (hm' : n' ≤ 9223372036854775807) (h' : Rds w w.heap.size A' (lsts L)) (hL : ¬ ∀ x ∈ L, x.ok n) :
    Calls Try.prog 16 #[.slice A n c, .int .i64 s, .int .i64 g, .slice A' n' c'] w (NilErr w 2) := by
  have HN := hide hn
  have HN' := hide hn'
  have he' : (colErr l != 0) = false := by simpa using he
  have HL := hide hL
  obtain ⟨hs1, hs2, hs3, hs4⟩ := hs
  clear hn hn' hL he
  go_enter Try.func16, Try.ntmps16
  go_wp2_with fail
  refine (check_any A n c l _ HN.out hm h).mono ?_
  rintro e w1 ⟨rfl, hb1⟩
  go_wp2_with (go_at_call 31; go_in)
  go_loopw [42] (fun i wr => ∃ k : Nat, k ≤ n' ∧ i = .int .i64 k ∧ (∀ j c, j < k → L[j]? = some c → c.ok n) ∧ Below w.heap.size w wr) (fun i _ => n' - (intOf i).toNat)
  case atStart => exact ⟨0, Nat.zero_le _, rfl, fun j c hj => absurd hj (by omega), hb1⟩
  case round =>
    obtain ⟨k, hk, rfl, hok, hb⟩ := hrel
    by_cases hlt : k < n'
    · obtain ⟨x, hx⟩ : ∃ x, L[k]? = some x := ⟨_, List.getElem?_eq_getElem (by have := HN'.out; omega)⟩
      obtain ⟨b, off, rfl, hbB, c0, c1, c2⟩ := (h'.below hb).lst hx
      have HX := hide hx
      have HOK := hide hok
      have HB := hide hb
      clear hx hok h' hb h hb1
      by_cases hxo : x.ok n
      · obtain ⟨g0, g1, g2, g3, g4⟩ := Lst.ok_of hxo
        go_wp2_with (go_at_call 31; go_in)
        go_roundw
        case rel =>
          refine ⟨k + 1, by omega, by go_num, ?_, ?_⟩
          · intro j c' hj hc'
            by_cases hjk : j = k
            · subst hjk; rw [HX.out] at hc'; cases hc'; exact hxo
            · exact HOK.out j c' (by omega) hc'
          · exact HB.out.alloc HB.out.size _
        case measure => simp [intOf]; omega
      · have hcc := Lst.nok_of hxo
        clear hxo
        go_wp2_with (go_at_call 31; go_in)
        all_goals
          first
          | (go_ret2; exact ⟨rfl, HB.out.alloc HB.out.size _⟩)
          | (exfalso; simp only [Bool.not_eq_false', decide_eq_true_eq] at *; omega)
    · exfalso
      refine HL.out fun x hx => ?_
      obtain ⟨j, hj⟩ := List.getElem?_of_mem hx
      exact hok j x (by have := (List.getElem?_eq_some_iff.1 hj).1; have := HN'.out; omega) hj

end Go.Proofs.Ytajkmlejklgbbaa
