/- rational.Sum. -/
import Derived.Test.YtfappkhohddcjaaDoorOfL
import Derived.Test.YtfappkhohddcjaaDoorTake
namespace Go.Proofs.YtfappkhohddcjaaDoor
open Go.RowKit

def frC (x : Fr) : List Value := [.int .i64 x.n, .int .i64 (x.d - 1)]
theorem frs_length (l : List Fr) : (l.flatMap frC).length = l.length * 2 := flat_length _ 2 (fun _ => rfl) l
theorem Rds.fr {w : World} {B : Nat} {A : Option Addr} {l : List Fr} (h : Rds w B A (l.flatMap frC)) {k : Nat} {c : Fr} (hk : l[k]? = some c) :
    ∃ b off, A = some ⟨b, off, none⟩ ∧ b < B ∧ w.cell? ⟨b, off + k * 2, none⟩ = some (.int .i64 c.n) ∧
      w.cell? ⟨b, off + k * 2 + 1, none⟩ = some (.int .i64 (c.d - 1)) := by
  obtain ⟨hlt, -⟩ := List.getElem?_eq_some_iff.1 hk
  obtain ⟨b, off, e, hb, hc⟩ := h.get (k := k * 2) (by rw [frs_length]; omega)
  have g := fun j hj => flat_get frC 2 (fun _ => rfl) l k j c hk hj
  refine ⟨b, off, e, hb, hc _ _ (g 0 (by omega)), ?_⟩
  have := hc _ _ (g 1 (by omega)); rw [Nat.add_assoc]; exact this

def stepS (S x : Fr) : Fr := if S.e = 0 then ofF (S.n * x.d + x.n * S.d) (S.d * x.d) else S
def sumS (l : List Fr) : Fr := l.foldl stepS ⟨0, 1, 0⟩
theorem sumS_snoc (l : List Fr) (x : Fr) : sumS (l ++ [x]) = stepS (sumS l) x := by simp [sumS, List.foldl_append]
theorem sumS_fq (l : List Fr) : Fq (sumS l).n (sumS l).d ∧ (¬ (sumS l).e = 0 → (sumS l).n = 0 ∧ (sumS l).d = 1) := by
  have key : ∀ (l : List Fr) (S : Fr), (Fq S.n S.d ∧ (¬ S.e = 0 → S.n = 0 ∧ S.d = 1)) → (Fq (l.foldl stepS S).n (l.foldl stepS S).d ∧ (¬ (l.foldl stepS S).e = 0 → (l.foldl stepS S).n = 0 ∧ (l.foldl stepS S).d = 1)) := by
    intro l
    induction l with
    | nil => exact fun S h => h
    | cons x l ih =>
      intro S h
      refine ih _ ?_
      unfold stepS
      split
      · exact ⟨ofF_fq _ _, ofF_err _ _⟩
      · exact h
  exact key l _ ⟨⟨by simp, by simp, by simp, by simp⟩, fun h => absurd rfl h⟩
theorem foldS_stuck (l : List Fr) (S : Fr) (h : ¬ S.e = 0) : l.foldl stepS S = S := by
  induction l with
  | nil => rfl
  | cons x l ih => rw [List.foldl_cons, stepS, if_neg h, ih]
theorem sumS_stuck (l : List Fr) (k : Nat) (h : ¬ (sumS (l.take k)).e = 0) : sumS l = sumS (l.take k) := by
  have e : l = l.take k ++ l.drop k := (List.take_append_drop k l).symm
  have h1 : sumS l = (l.drop k).foldl stepS (sumS (l.take k)) := by
    rw [sumS, sumS, ← List.foldl_append, ← e]
  rw [h1, foldS_stuck _ _ h]

theorem S2.set2 {w0 w1 : World} {k : Nat} {a b c d : Int} (h : S2 w0 k a b c d w1) (hk : w0.heap.size ≤ k) (m n : Int) : S2 w0 k a b m n ((w1.setCell ⟨k + 1, 0, none⟩ (.int .i64 m)).setCell ⟨k + 1, 1, none⟩ (.int .i64 n)) :=
  ⟨(h.tx.setOther _ _ (by omega) _).setOther _ _ (by omega) _, h.ty.set m n, (h.bel.setCell (by show w0.heap.size ≤ k + 1; omega) _).setCell (by show w0.heap.size ≤ k + 1; omega) _⟩

set_option maxRecDepth 100000 in
set_option maxHeartbeats 8000000 in
theorem Sum_any (A : Option Addr) (n c : Nat) (l : List Fr) (w : World) (hn : n = l.length) (hm : n ≤ 9223372036854775807) (hl : ∀ x ∈ l, Fq x.n x.d) (h : Rds w w.heap.size A (l.flatMap frC)) :
    Calls Tryd.prog 44 #[.slice A n c] w fun e w' => e = .returned (.tuple #[.agg #[.int .i64 (sumS l).n, .int .i64 ((sumS l).d - 1)], .int .i64 (sumS l).e]) ∧ Below w.heap.size w w' := by
  have HN := hide hn
  have HL := hide hl
  have HR := hide h
  obtain ⟨T, hT⟩ : ∃ T, T = sumS l := ⟨_, rfl⟩
  have HT := hide hT
  rw [← hT]
  clear hn hl h hT
  have HS0 := hide (S2.new w 0 0 0 0 24)
  go_enter Tryd.func44, Tryd.ntmps44
  go_wp2_with fail
  generalize (w.alloc (.cells #[.int .i64 0, .int .i64 0] 24)).alloc (.cells #[.int .i64 0, .int .i64 0] 24) = wX at HS0 ⊢
  go_loopg [3, 10] n (fun gl s3 s10 wr => ∃ k : Nat, ∃ S : Fr, s3 = .int .i64 0 ∧ s10 = .int .i64 k ∧ k ≤ n ∧ n ≤ gl + k ∧ Hid (S = sumS (l.take k)) ∧ Hid (S.e = 0) ∧ Hid (S2 w w.heap.size 0 0 S.n (S.d - 1) wr))
  case atStart => exact ⟨0, ⟨0, 1, 0⟩, rfl, rfl, Nat.zero_le _, by omega, hide rfl, hide rfl, HS0⟩
  case round =>
    obtain ⟨k, S, rfl, rfl, hk, hgk, HSS, HSE, HS⟩ := hrel
    by_cases hlt : k < n
    · obtain ⟨x, hx⟩ : ∃ x, l[k]? = some x := ⟨_, List.getElem?_eq_getElem (by rw [← HN.out]; exact hlt)⟩
      obtain ⟨b, off, rfl, hbB, cx0, cx1⟩ := (HR.out.below HS.out.bel).fr hx
      have HFq := hide (HL.out x (List.mem_of_getElem? hx))
      have HSq := hide (show Fq S.n S.d by rw [HSS.out]; exact (sumS_fq _).1)
      have HTK := hide (show sumS (l.take (k + 1)) = ofF (S.n * x.d + x.n * S.d) (S.d * x.d) by
        rw [List.take_add_one, hx, Option.toList_some, sumS_snoc, ← HSS.out, stepS, if_pos HSE.out])
      have HAD := hide (fun W => Add_any S.n S.d x.n x.d W HSq.out HFq.out)
      obtain ⟨V, hV⟩ : ∃ V, V = ofF (S.n * x.d + x.n * S.d) (S.d * x.d) := ⟨_, rfl⟩
      rw [← hV] at HTK HAD
      have i3 : ((k : Int)).toNat = k := by omega
      have i4 : (0 : Int) ≤ (k : Int) := by omega
      have i5 : (k : Int) < (n : Int) := by omega
      have i6 : IntKind.i64.wrap ((k : Int) + 1) = (k : Int) + 1 := IntWalk.i64_in _ (by omega)
      have HS1 := hide (HS.out.on ((Below.refl wr.heap.size wr).alloc (Nat.le_refl _) (.cells #[.int .i64 x.n, .int .i64 (x.d - 1)] 24)))
      have y0 := HS1.out.ty.c0
      have y1 := HS1.out.ty.c1
      clear hx hV
      go_wp2_with fail
      generalize wr.alloc (.cells #[.int .i64 x.n, .int .i64 (x.d - 1)] 24) = wY at HS1 ⊢
      clear y0 y1
      refine (HAD.out _).mono ?_
      rintro e w2 ⟨rfl, hb⟩
      have HS2 := hide (HS1.out.on hb)
      clear hb
      have r0 := HS2.out.ty.c0
      have r1 := HS2.out.ty.c1
      have r2 := HS2.out.ty.f0
      have r3 := HS2.out.ty.f1
      have HS3 := hide (HS2.out.set2 (Nat.le_refl _) V.n (V.d - 1))
      by_cases hVe : V.e = 0
      · rw [hVe]
        have HVE := hide hVe
        clear hVe
        go_wp2_with fail
        go_roundg (gk - 1)
        case measure => omega
        case rel => exact ⟨k + 1, V, rfl, by go_num, by omega, by omega, hide HTK.out.symm, HVE, HS3⟩
      · have hVe' : (V.e != 0) = true := by simpa using hVe
        have HV := hide (show T = V by rw [HT.out, sumS_stuck l (k + 1) (by rw [HTK.out]; exact hVe), HTK.out])
        have HV2 := hide (show V.n = 0 ∧ V.d = 1 by
          have := (sumS_fq (l.take (k + 1))).2 (by rw [HTK.out]; exact hVe)
          rw [HTK.out] at this; exact this)
        have q0 := HS3.out.tx.c0
        have q1 := HS3.out.tx.c1
        have q2 := HS3.out.tx.f0
        have q3 := HS3.out.tx.f1
        have d0 := (HS3.out.tx.set 0 0).c0
        have d1 := (HS3.out.tx.set 0 0).c1
        clear hVe
        go_wp2_with fail
        refine bodyPost_ret (v := .tuple #[.agg #[.int .i64 0, .int .i64 0], .int .i64 V.e]) (by simp [results, Tryd.results44, go_sem, *]) rfl ?_
        exact ⟨by rw [HV.out, HV2.out.1, HV2.out.2] <;> rfl, (HS3.out.set1 (Nat.le_refl _) _ _).bel⟩
    · have hkn : k = n := by omega
      have HV := hide (show T = S by rw [HT.out, HSS.out, List.take_of_length_le (by rw [← HN.out]; omega)])
      have y0 := HS.out.ty.c0
      have y1 := HS.out.ty.c1
      have q0 := HS.out.tx.c0
      have q1 := HS.out.tx.c1
      have q2 := HS.out.tx.f0
      have q3 := HS.out.tx.f1
      have d0 := (HS.out.tx.set S.n (S.d - 1)).c0
      have d1 := (HS.out.tx.set S.n (S.d - 1)).c1
      have hlt' : ¬ (k : Int) < (n : Int) := by omega
      clear hkn
      go_wp2_with fail
      refine bodyPost_ret (v := .tuple #[.agg #[.int .i64 S.n, .int .i64 (S.d - 1)], .int .i64 0]) (by simp [results, Tryd.results44, go_sem, *]) rfl ?_
      exact ⟨by rw [HV.out, HSE.out], (HS.out.set1 (Nat.le_refl _) _ _).bel⟩

end Go.Proofs.YtfappkhohddcjaaDoor
