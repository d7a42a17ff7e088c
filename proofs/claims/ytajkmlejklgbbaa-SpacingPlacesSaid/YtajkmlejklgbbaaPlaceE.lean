/- spacing.Place: the roads that end with an error, and those of no or one column. -/
import Derived.Test.YtajkmlejklgbbaaPlace
namespace Go.Proofs.Ytajkmlejklgbbaa
open Go.RowKit

def placeErr (l : List Col) (s : List Spr) (width : Int) : Int := if fitsE l s ≠ 0 then fitsE l s else if width < 0 ∨ 67108864 < width then 2 else if width < widA l s then 28 else 0

set_option maxRecDepth 100000 in
set_option maxHeartbeats 2000000 in
theorem Place_err (A A' : Option Addr) (n c n' c' : Nat) (l : List Col) (s : List Spr) (width : Int) (w : World) (hn : n = l.length) (hm : n ≤ 9223372036854775807) (h : Rds w w.heap.size A (cols l))
    (hn' : n' = s.length) (hm' : n' ≤ 9223372036854775807) (h' : Rds w w.heap.size A' (sprs s)) (he : placeErr l s width ≠ 0) :
    Calls Try.prog 28 #[.slice A n c, .slice A' n' c', .int .i64 width] w fun e w' => e = .returned (.tuple #[.slice none 0 0, .int .i64 (placeErr l s width)]) ∧ Below w.heap.size w w' := by
  by_cases hf : fitsE l s = 0
  · have HF := hide hf
    have HN := hide hn
    have HN' := hide hn'
    have HR := hide h
    have HR' := hide h'
    have hWA : placeErr l s width = if width < 0 ∨ 67108864 < width then 2 else if width < widA l s then 28 else 0 := by rw [placeErr, if_neg (by simpa using hf)]
    by_cases hw : width < 0 ∨ 67108864 < width
    · rw [if_pos hw] at hWA
      rw [hWA]
      have HIN := hide (show decide (0 ≤ width ∧ width ≤ 67108864) = false by simp; omega)
      clear hn hn' h h' he hf hw hWA
      go_enter Try.func28, Try.ntmps28
      go_wp2_with fail
      refine (Width_ok A A' n c n' c' l s _ HN.out HR.out HN'.out HR'.out HF.out).mono ?_
      rintro e w1 ⟨rfl, hb⟩
      have HB1 := hide hb
      clear hb
      go_wp2_with fail
      refine (in_any width 67108864 _).mono ?_
      rw [HIN.out]
      rintro e w1' ⟨rfl, rfl⟩
      go_wp2_with fail
      go_ret2
      exact ⟨rfl, HB1.out⟩
    · rw [if_neg hw] at hWA
      have hlt : width < widA l s := by
        by_cases h1 : width < widA l s
        · exact h1
        · rw [if_neg h1] at hWA; exact absurd hWA he
      rw [if_pos hlt] at hWA
      rw [hWA]
      have HIN := hide (show decide (0 ≤ width ∧ width ≤ 67108864) = true by simp; omega)
      obtain ⟨wa, hwa⟩ : ∃ wa, wa = widA l s := ⟨_, rfl⟩
      obtain ⟨wb, hwb⟩ : ∃ wb, wb = widB l s := ⟨_, rfl⟩
      have HWA := hide hwa
      have HWB := hide hwb
      rw [← hwa] at hlt
      clear hn hn' h h' he hf hw hWA hwa hwb
      go_enter Try.func28, Try.ntmps28
      go_wp2_with fail
      refine (Width_ok A A' n c n' c' l s _ HN.out HR.out HN'.out HR'.out HF.out).mono ?_
      rw [← HWA.out, ← HWB.out]
      rintro e w1 ⟨rfl, hb⟩
      have HB1 := hide hb
      clear hb
      go_wp2_with fail
      refine (in_any width 67108864 _).mono ?_
      rw [HIN.out]
      rintro e w1' ⟨rfl, rfl⟩
      go_wp2_with fail
      go_ret2
      exact ⟨rfl, HB1.out⟩
  · have hWA : placeErr l s width = fitsE l s := by rw [placeErr, if_pos hf]
    rw [hWA]
    have hne : (fitsE l s != 0) = true := by simpa using hf
    have HF := hide hf
    have HN := hide hn
    have HN' := hide hn'
    have HR := hide h
    have HR' := hide h'
    clear hf hWA he hn hn' h h'
    go_enter Try.func28, Try.ntmps28
    go_wp2_with fail
    refine (Width_bad A A' n c n' c' l s _ HN.out hm HR.out HN'.out hm' HR'.out HF.out).mono ?_
    rintro e w1 ⟨rfl, hb⟩
    have HB1 := hide hb
    clear hb
    go_wp2_with fail
    go_ret2
    exact ⟨rfl, HB1.out⟩

set_option maxRecDepth 100000 in
set_option maxHeartbeats 2000000 in
theorem Place_nil (A A' : Option Addr) (c c' : Nat) (width : Int) (w : World) (hw : 0 ≤ width ∧ width ≤ 67108864) :
    Calls Try.prog 28 #[.slice A 0 c, .slice A' 0 c', .int .i64 width] w fun e w' => e = .returned (.tuple #[.slice none 0 0, .int .i64 0]) ∧ Below w.heap.size w w' := by
  have HIN := hide (show decide (0 ≤ width ∧ width ≤ 67108864) = true by simp; omega)
  have hlt : ¬ width < 0 := by omega
  have HF := hide (show fitsE [] [] = 0 by decide)
  go_enter Try.func28, Try.ntmps28
  go_wp2_with fail
  refine (Width_ok A A' 0 c 0 c' [] [] _ rfl (.nil) rfl (.nil) HF.out).mono ?_
  rw [show widA [] [] = 0 from rfl, show widB [] [] = 0 from rfl]
  rintro e w1 ⟨rfl, hb⟩
  have HB1 := hide hb
  clear hb
  go_wp2_with fail
  refine (in_any width 67108864 _).mono ?_
  rw [HIN.out]
  rintro e w1' ⟨rfl, rfl⟩
  go_wp2_with fail
  go_ret2
  exact ⟨rfl, HB1.out⟩

set_option maxRecDepth 100000 in
set_option maxHeartbeats 2000000 in
theorem Place_one (A A' : Option Addr) (c c' : Nat) (a : Col) (width : Int) (w : World) (h : Rds w w.heap.size A (cols [a])) (ha : a.ok) (hw : 0 ≤ width ∧ width ≤ 67108864) (hw2 : widA [a] [] ≤ width) :
    Calls Try.prog 28 #[.slice A 1 c, .slice A' 0 c', .int .i64 width] w fun e w' => ∃ A2 : Option Addr, e = .returned (.tuple #[.slice A2 1 1, .int .i64 0]) ∧
      Rds w' w'.heap.size A2 [.int .i64 a.l] ∧ Below w.heap.size w w' := by
  have HIN := hide (show decide (0 ≤ width ∧ width ≤ 67108864) = true by simp; omega)
  have HF := hide (show fitsE [a] [] = 0 by
    have : colErr [a] = 0 := by simp [colErr, ha]
    rw [fitsE, if_neg (by simpa using this), if_neg (by simp)]; rfl)
  have HR := hide h
  obtain ⟨wa, hwa⟩ : ∃ wa, wa = widA [a] [] := ⟨_, rfl⟩
  obtain ⟨wb, hwb⟩ : ∃ wb, wb = widB [a] [] := ⟨_, rfl⟩
  have HWA := hide hwa
  have HWB := hide hwb
  rw [← hwa] at hw2
  have hlt : ¬ width < wa := by omega
  clear h hwa hwb
  go_enter Try.func28, Try.ntmps28
  go_wp2_with fail
  refine (Width_ok A A' 1 c 0 c' [a] [] _ rfl HR.out rfl (.nil) HF.out).mono ?_
  rw [← HWA.out, ← HWB.out]
  rintro e w1 ⟨rfl, hb⟩
  have HB1 := hide hb
  clear hb
  go_wp2_with fail
  refine (in_any width 67108864 _).mono ?_
  rw [HIN.out]
  rintro e w1' ⟨rfl, rfl⟩
  obtain ⟨b, off, rfl, hbB, c0, -, -⟩ := (Rds.on2 HR.out HB1.out).col (show [a][0]? = some a from rfl)
  rw [Nat.zero_mul, Nat.add_zero] at c0
  have HOO := hide (own_one w1 a.l)
  go_wp2_with fail
  go_ret2
  exact ⟨_, rfl, Rds.own HOO.out, HB1.out.trans (((Below.refl _ w1).alloc (Nat.le_refl _) _).mono HB1.out.size)⟩

end Go.Proofs.Ytajkmlejklgbbaa
