/- The reference's digits. -/
import Derived.Test.YtfappkhohddcjaaDoorRat9
import Derived.Laws.IdiomStrings
namespace Go.Proofs.YtfappkhohddcjaaDoor
open Go.RowKit

theorem tdiv10 (n : Nat) : (n : Int).tdiv 10 = ((n / 10 : Nat) : Int) := by rw [Int.tdiv_eq_ediv_of_nonneg (by omega)]; omega
theorem tmod10 (n : Nat) : (n : Int).tmod 10 = ((n % 10 : Nat) : Int) := by rw [Int.tmod_eq_emod_of_nonneg (by omega)]; omega

theorem decDigits_len (n : Nat) (h : n ≤ 9999999999) : (Lib.decDigits n).length ≤ 21 := by
  have := Lib.itoa_length_le (n : Int) (by omega) (by omega)
  rw [Lib.itoa_nonneg] at this
  exact this

set_option maxHeartbeats 1000000 in
theorem digits_any (n : Nat) : ∀ (w : World), n ≤ 9999999999 →
    Calls Tryd.prog 52 #[.int .i64 n] w fun e w' => e = .returned (.string ⟨(Lib.decDigits n).toArray⟩) ∧ Below w.heap.size w w' := by
  induction n using Nat.strongRecOn with
  | _ n ih =>
  intro w hn
  have i1 : IntKind.i64.wrap ((n % 10 : Nat) : Int) = ((n % 10 : Nat) : Int) := IntWalk.i64_in _ (by omega)
  have i2 : IntKind.i64.wrap (48 + ((n % 10 : Nat) : Int)) = 48 + ((n % 10 : Nat) : Int) := IntWalk.i64_in _ (by omega)
  have i3 : IntKind.u8.wrap (48 + ((n % 10 : Nat) : Int)) = 48 + ((n % 10 : Nat) : Int) := by
    show (48 + ((n % 10 : Nat) : Int)) % 256 = _
    omega
  have i4 : IntKind.i64.wrap ((n / 10 : Nat) : Int) = ((n / 10 : Nat) : Int) := IntWalk.i64_in _ (by omega)
  have t1 := tdiv10 n
  have t2 := tmod10 n
  have hc := run_convert_bytes_back (P := Tryd.prog) (w.alloc (.cells #[.int .u8 (48 + (n : Int) % 10)] 5)) 74 9 5 ⟨w.heap.size, 0, none⟩ 1 [UInt8.ofNat (48 + n % 10)] Tryd.underlying74 Tryd.underlying5 Tryd.underlying9
    (fun j hj => by
      obtain rfl : j = 0 := by simpa using hj
      have e : ((UInt8.ofNat (48 + n % 10)).toNat : Int) = 48 + (n : Int) % 10 := by
        rw [show (UInt8.ofNat (48 + n % 10)).toNat = 48 + n % 10 by simp; omega]; omega
      simp only [List.getElem_cons_zero, e]
      simp [go_sem, Addr.add])
  simp only [List.length_singleton] at hc
  obtain ⟨b, hb⟩ : ∃ b, b = UInt8.ofNat (48 + n % 10) := ⟨_, rfl⟩
  rw [← hb] at hc
  by_cases h : n < 10
  · have hg : ¬ 9 < (n : Int) := by omega
    have HV := hide (show Lib.decDigits n = [b] by rw [Lib.decDigits, dif_pos h, hb, Nat.mod_eq_of_lt h])
    clear hb ih
    go_enter Tryd.func52, Tryd.ntmps52
    go_wp2_with fail
    go_ret
    exact ⟨by rw [HV.out]; rfl, by go_grown⟩
  · have hg : 9 < (n : Int) := by omega
    have HI := hide (fun W => ih (n / 10) (by omega) W (by omega))
    have e3 : ((n / 10 : Nat) : Int) = (n : Int) / 10 := by omega
    rw [e3] at HI
    have hl := decDigits_len (n / 10) (by omega)
    have HV := hide (show Lib.decDigits n = Lib.decDigits (n / 10) ++ [b] by rw [Lib.decDigits, dif_neg h, hb])
    obtain ⟨D, hD⟩ : ∃ D, D = Lib.decDigits (n / 10) := ⟨_, rfl⟩
    rw [← hD] at HI hl HV
    have hl2 : ¬ 9223372036854775807 < D.length + 1 := by omega
    clear ih i4 hb hD hl
    go_enter Tryd.func52, Tryd.ntmps52
    go_wp2_with fail
    refine (HI.out _).mono ?_
    rintro e w1 ⟨rfl, hb⟩
    go_wp2_with fail
    go_ret
    exact ⟨by rw [HV.out]; exact congrArg (fun s => Ending.returned (.string s)) (ByteArray.mk_append_mk _ _), ((Below.refl _ _).alloc (Nat.le_refl _) _).trans (hb.mono (by simp))⟩

theorem itoa_abs (n : Int) : Lib.itoa n = if n < 0 then 45 :: Lib.decDigits n.natAbs else Lib.decDigits n.natAbs := by
  unfold Lib.itoa
  by_cases h : n < 0
  · rw [if_pos h, if_pos h]
  · rw [if_neg h, if_neg h, show n.toNat = n.natAbs by omega]

set_option maxHeartbeats 2000000 in
theorem RText_any (n d : Int) (w : World) (h1 : Fq n d) :
    Calls Tryd.prog 27 #[.agg #[.int .i64 n, .int .i64 d]] w fun e w' => e = .returned (.string ⟨(textF n d).toArray⟩) ∧ Below w.heap.size w w' := by
  obtain ⟨a1, a2, a3, a4⟩ := h1
  have HM := hide (fun W => magn_any n W ⟨by omega, by omega⟩)
  have HI := hide (fun W => digits_any n.natAbs W (by omega))
  have HJ := hide (fun W => digits_any d.toNat W (by omega))
  rw [show ((d.toNat : Nat) : Int) = d by omega] at HJ
  have l1 := decDigits_len n.natAbs (by omega)
  have l2 := decDigits_len d.toNat (by omega)
  have i1 : IntKind.i64.wrap ((n.natAbs : Nat) : Int) = ((n.natAbs : Nat) : Int) := IntWalk.i64_in _ (by omega)
  have HS := hide (S1.new w n d 26)
  have HV := hide (show textF n d = (if n < 0 then 45 :: Lib.decDigits n.natAbs else Lib.decDigits n.natAbs) ++ if 1 < d then 47 :: Lib.decDigits d.toNat else [] by
    rw [textF, itoa_abs n, itoa_abs d, if_neg (show ¬ d < 0 by omega), show d.toNat = d.natAbs by omega])
  obtain ⟨D, hD⟩ : ∃ D, D = Lib.decDigits n.natAbs := ⟨_, rfl⟩
  obtain ⟨E, hE⟩ : ∃ E, E = Lib.decDigits d.toNat := ⟨_, rfl⟩
  obtain ⟨m, hm⟩ : ∃ m, m = n.natAbs := ⟨_, rfl⟩
  rw [← hD] at HI HV l1
  rw [← hE] at HJ HV l2
  rw [← hm] at HI HM i1
  clear hD hE hm
  rcases (show n < 0 ∨ ¬ n < 0 by omega) with hn | hn <;> rcases (show 1 < d ∨ d = 1 by omega) with hd | hd
  · have HV2 := hide (show textF n d = 45 :: D ++ 47 :: E by rw [HV.out, if_pos hn, if_pos hd])
    have hd' : ¬ d = 1 := by omega
    have g1 : ¬ 9223372036854775807 < 1 + D.length := by omega
    have g2 : ¬ 9223372036854775807 < 1 + D.length + 1 := by omega
    have g3 : ¬ 9223372036854775807 < 1 + D.length + 1 + E.length := by omega
    clear HV l1 l2
    go_enter Tryd.func27, Tryd.ntmps27
    go_wp2_with fail
    generalize w.alloc (.cells #[.int .i64 n, .int .i64 d] 26) = wX at HS ⊢
    have c0 := HS.out.tx.c0
    have c1 := HS.out.tx.c1
    go_wp2_with fail
    refine (HM.out _).mono ?_
    rintro e w1 ⟨rfl, rfl⟩
    go_wp2_with fail
    refine (HI.out _).mono ?_
    rintro e w2 ⟨rfl, hb⟩
    have HS2 := hide (HS.out.on hb)
    have d0 := HS2.out.tx.c0
    have d1 := HS2.out.tx.c1
    clear hb c0 c1
    go_wp2_with fail
    refine (HJ.out _).mono ?_
    rintro e w3 ⟨rfl, hb⟩
    have HS3 := hide (HS2.out.on hb)
    clear hb d0 d1
    go_wp2_with fail
    go_ret
    exact ⟨by rw [HV2.out]; exact congrArg (fun s => Ending.returned (.string s)) (by first | rfl | simp [ByteArray.mk_append_mk] | (ext1; simp)), HS3.out.bel⟩
  · have HV2 := hide (show textF n d = 45 :: D by rw [HV.out, if_pos hn, if_neg (by omega), List.append_nil])
    subst hd
    have g1 : ¬ 9223372036854775807 < 1 + D.length := by omega
    clear HV l1 l2
    go_enter Tryd.func27, Tryd.ntmps27
    go_wp2_with fail
    generalize w.alloc (.cells #[.int .i64 n, .int .i64 1] 26) = wX at HS ⊢
    have c0 := HS.out.tx.c0
    have c1 := HS.out.tx.c1
    go_wp2_with fail
    refine (HM.out _).mono ?_
    rintro e w1 ⟨rfl, rfl⟩
    go_wp2_with fail
    refine (HI.out _).mono ?_
    rintro e w2 ⟨rfl, hb⟩
    have HS2 := hide (HS.out.on hb)
    have d0 := HS2.out.tx.c0
    have d1 := HS2.out.tx.c1
    clear hb c0 c1
    go_wp2_with fail
    go_ret
    exact ⟨by rw [HV2.out]; exact congrArg (fun s => Ending.returned (.string s)) (by first | rfl | simp [ByteArray.mk_append_mk] | (ext1; simp)), HS2.out.bel⟩
  · have HV2 := hide (show textF n d = D ++ 47 :: E by rw [HV.out, if_neg hn, if_pos hd])
    have hd' : ¬ d = 1 := by omega
    have g1 : ¬ 9223372036854775807 < D.length := by omega
    have g2 : ¬ 9223372036854775807 < D.length + 1 := by omega
    have g3 : ¬ 9223372036854775807 < D.length + 1 + E.length := by omega
    clear HV l1 l2
    go_enter Tryd.func27, Tryd.ntmps27
    go_wp2_with fail
    generalize w.alloc (.cells #[.int .i64 n, .int .i64 d] 26) = wX at HS ⊢
    have c0 := HS.out.tx.c0
    have c1 := HS.out.tx.c1
    go_wp2_with fail
    refine (HM.out _).mono ?_
    rintro e w1 ⟨rfl, rfl⟩
    go_wp2_with fail
    refine (HI.out _).mono ?_
    rintro e w2 ⟨rfl, hb⟩
    have HS2 := hide (HS.out.on hb)
    have d0 := HS2.out.tx.c0
    have d1 := HS2.out.tx.c1
    clear hb c0 c1
    go_wp2_with fail
    refine (HJ.out _).mono ?_
    rintro e w3 ⟨rfl, hb⟩
    have HS3 := hide (HS2.out.on hb)
    clear hb d0 d1
    go_wp2_with fail
    go_ret
    exact ⟨by rw [HV2.out]; exact congrArg (fun s => Ending.returned (.string s)) (by first | rfl | simp [ByteArray.mk_append_mk] | (ext1; simp)), HS3.out.bel⟩
  · have HV2 := hide (show textF n d = D by rw [HV.out, if_neg hn, if_neg (by omega), List.append_nil])
    subst hd
    have g1 : ¬ 9223372036854775807 < D.length := by omega
    clear HV l1 l2
    go_enter Tryd.func27, Tryd.ntmps27
    go_wp2_with fail
    generalize w.alloc (.cells #[.int .i64 n, .int .i64 1] 26) = wX at HS ⊢
    have c0 := HS.out.tx.c0
    have c1 := HS.out.tx.c1
    go_wp2_with fail
    refine (HM.out _).mono ?_
    rintro e w1 ⟨rfl, rfl⟩
    go_wp2_with fail
    refine (HI.out _).mono ?_
    rintro e w2 ⟨rfl, hb⟩
    have HS2 := hide (HS.out.on hb)
    have d0 := HS2.out.tx.c0
    have d1 := HS2.out.tx.c1
    clear hb c0 c1
    go_wp2_with fail
    go_ret
    exact ⟨by rw [HV2.out]; exact congrArg (fun s => Ending.returned (.string s)) (by first | rfl | simp [ByteArray.mk_append_mk] | (ext1; simp)), HS2.out.bel⟩
end Go.Proofs.YtfappkhohddcjaaDoor
