/- The law's small; the reference's divisor and Force; the law SpringForces, walked. -/
import Derived.Test.YtcnejnaeahffhaaRef30
import Derived.Test.YtcnejnaeahffhaaDec30
namespace Go.Proofs.Ytcnejnaeahffhaa
open Go.RowKit

structure P2 where
  a : Int
  b : Int
def P2.cells (p : P2) : List Value := [.int .u8 p.a, .int .u8 p.b]
def P2.wf (_ : World) (p : P2) : Prop := (0 ≤ p.a ∧ p.a ≤ 255) ∧ 0 ≤ p.b ∧ p.b ≤ 255
theorem u8_of {x : Int} (h : (Lit.int .u8 x).wf = true) : 0 ≤ x ∧ x ≤ 255 := by
  have h : IntKind.u8.min ≤ x ∧ x ≤ IntKind.u8.max := by simpa [Lit.wf] using h
  exact h
set_option maxRecDepth 100000 in
theorem dec_p2 : Dec Try.prog 61 P2.cells P2.wf := by
  intro H enc w fuel cs x h
  obtain ⟨xs, m, _, _, hl, hxl, hg⟩ := DataW.trod_array Try.underlying61 h
  have hc : Try.prog.cellsOf 61 = 2 := by kernel_rfl
  have hc1 : Try.prog.cellsOf 5 = 1 := by kernel_rfl
  rw [hc] at hl
  match cs, hl, xs, hxl with
  | [c0, c1], _, [z0, z1], _ =>
    have g0 := hg 0 (by omega)
    have g1 := hg 1 (by omega)
    rw [hc1] at g0 g1
    obtain ⟨a0, e0, _, w0⟩ := DataW.trod_int Try.underlying5 g0
    obtain ⟨a1, e1, _, w1⟩ := DataW.trod_int Try.underlying5 g1
    simp at e0 e1
    exact ⟨⟨a0, a1⟩, by rw [e0, e1]; rfl, u8_of w0, u8_of w1⟩
theorem dec_p2s : Dec Try.prog 22 (fun s : Sl P2 => [s.val]) (Sl.Good P2.cells P2.wf) :=
  Dec.slice Try.underlying22 (sz := 2) dec_p2 (by kernel_rfl) (fun _ => rfl) (by omega)
theorem Rds.p2 {w : World} {B : Nat} {A : Option Addr} {l : List P2} (h : Rds w B A (l.flatMap P2.cells)) {k : Nat} {c : P2} (hk : l[k]? = some c) :
    ∃ b off, A = some ⟨b, off, none⟩ ∧ b < B ∧ w.cell? ⟨b, off + k * 2, none⟩ = some (.int .u8 c.a) ∧ w.cell? ⟨b, off + k * 2 + 1, none⟩ = some (.int .u8 c.b) := by
  obtain ⟨hlt, -⟩ := List.getElem?_eq_some_iff.1 hk
  obtain ⟨b, off, e, hb, hc⟩ := h.get (k := k * 2) (by rw [flat_length P2.cells 2 (fun _ => rfl)]; omega)
  have g := fun j hj => flat_get P2.cells 2 (fun _ => rfl) l k j c hk hj
  refine ⟨b, off, e, hb, hc _ _ (g 0 (by omega)), ?_⟩
  have := hc _ _ (g 1 (by omega)); rw [Nat.add_assoc]; exact this

def toS (p : P2) : Spr := ⟨p.a % 61, p.b % 41⟩
def smallL (l : List P2) : List Spr := (l.take 8).map toS
theorem smallL_len (l : List P2) : (smallL l).length ≤ 8 := by simp [smallL]; omega
theorem smallL_mem {l : List P2} {s : Spr} (h : s ∈ smallL l) : 0 ≤ s.n ∧ s.n ≤ 60 ∧ 0 ≤ s.m ∧ s.m ≤ 40 := by
  obtain ⟨p, _, rfl⟩ := List.mem_map.1 h
  unfold toS
  simp only
  omega
theorem smallL_ok (l : List P2) : ∀ s ∈ smallL l, s.ok := fun s hs => by
  have := smallL_mem hs
  exact ⟨this.1, by omega, this.2.2.1, by omega⟩
theorem smallL_mins (l : List P2) : 0 ≤ mins (smallL l) ∧ mins (smallL l) ≤ 320 := by
  have key : ∀ k : List Spr, (∀ s ∈ k, 0 ≤ s.m ∧ s.m ≤ 40) → 0 ≤ mins k ∧ mins k ≤ 40 * k.length := by
    intro k
    induction k with
    | nil => intro _; simp [mins]
    | cons s k ih =>
      intro h
      have h1 := h s (by simp)
      have h2 := ih fun x hx => h x (by simp [hx])
      have e : mins (s :: k) = s.m + mins k := by simp [mins]
      rw [e, List.length_cons]
      omega
  have := key (smallL l) fun s hs => ⟨(smallL_mem hs).2.2.1, (smallL_mem hs).2.2.2⟩
  have := smallL_len l
  omega

theorem rs_ty : ElemTy Try.prog 24 45 2 16 :=
  ElemTy.of (z := .agg #[.int .i64 0, .int .i64 0]) Try.underlying24 (by kernel_rfl) rfl (by omega)

set_option maxRecDepth 100000 in
set_option maxHeartbeats 2000000 in
theorem small_any (A : Option Addr) (n c : Nat) (l : List P2) (w : World) (hn : n = l.length) (h : Rds w w.heap.size A (l.flatMap P2.cells)) (hwf : ∀ p ∈ l, P2.wf w p) :
    Calls Try.prog 13 #[.slice A n c] w fun e w' => ∃ (A' : Option Addr) (c' : Nat), e = .returned (.slice A' (smallL l).length c') ∧ Rds w' w'.heap.size A' (sprs (smallL l)) ∧ Below w.heap.size w w' := by
  have HN := hide hn
  have HR := hide h
  have HW := hide hwf
  clear hn h hwf
  go_enter Try.func13, Try.ntmps13
  go_wp2_with fail
  go_loopg [3, 4] n (fun gk v i wr => ∃ k : Nat, k ≤ n ∧ k ≤ 8 ∧ i = .int .i64 k ∧ n ≤ gk + k ∧ Hid (wr.ownsRow w.heap.size 45 2 v k (sprs ((l.take k).map toS))) ∧ Hid (Below w.heap.size w wr))
  case atStart => exact ⟨0, Nat.zero_le _, by omega, rfl, by omega, World.ownsRow_nil _ _ _ _, Below.refl _ _⟩
  case round =>
    obtain ⟨k, hk, hk8, rfl, hgk, HO, HB⟩ := hrel
    obtain ⟨A1, cc1, rfl, hA1, hcc1, hcc1m⟩ := own_form HO.out
    have fin : (k = n ∨ k = 8) → smallL l = (l.take k).map toS ∧ (smallL l).length = k := by
      intro hh
      have e : l.take 8 = l.take k := by
        rcases hh with hh | hh
        · rw [List.take_of_length_le (by have := HN.out; omega), List.take_of_length_le (by have := HN.out; omega)]
        · rw [hh]
      refine ⟨by rw [smallL, e], by rw [smallL, e, List.length_map, List.length_take]; have := HN.out; omega⟩
    have FIN := hide fin
    clear fin
    rcases (show k = n ∨ (k < n ∧ k = 8) ∨ (k < n ∧ k < 8) by omega) with hlt | ⟨hlt, hlt8⟩ | ⟨hlt, hlt8⟩
    · obtain ⟨f1, f2⟩ := FIN.out (.inl hlt)
      rw [← f1] at HO
      have F2 := hide f2
      have hnl : ¬ k < n := by omega
      clear f1 f2
      go_wp2_with fail
      go_ret
      refine ⟨A1, cc1, by rw [F2.out]; rfl, ?_, HB.out⟩
      exact Rds.own HO.out
    · obtain ⟨f1, f2⟩ := FIN.out (.inr hlt8)
      rw [← f1] at HO
      have F2 := hide f2
      clear f1 f2
      subst hlt8
      go_wp2_with fail
      go_ret
      first
        | exact ⟨A1, cc1, by rw [F2.out]; rfl, Rds.own HO.out, HB.out⟩
        | exact ⟨A1, ⟨cc1, by rw [F2.out]; rfl⟩, Rds.own HO.out, HB.out⟩
    · obtain ⟨x, hx⟩ : ∃ x, l[k]? = some x := ⟨_, List.getElem?_eq_getElem (by have := HN.out; omega)⟩
      obtain ⟨b, off, rfl, hbB, -, -⟩ := HR.out.p2 hx
      obtain ⟨b', off', e1, hbB', c0, c1⟩ := (Rds.on2 HR.out HB.out).p2 hx
      simp only [Option.some.injEq, Addr.mk.injEq, and_true] at e1
      obtain ⟨rfl, rfl⟩ := e1
      obtain ⟨⟨x0, x1⟩, x2, x3⟩ := HW.out x (List.mem_of_getElem? hx)
      have hsz := HB.out.size
      have HFT := hide (show sprs ((l.take (k + 1)).map toS) = sprs ((l.take k).map toS) ++ (toS x).cells by
        rw [List.take_add_one, hx, Option.toList_some, List.map_append, sprs, List.flatMap_append]; simp [sprs])
      have i1 : IntKind.i64.wrap (k : Int) = (k : Int) := IntWalk.i64_in _ (by omega)
      have i3 : ((k : Int)).toNat = k := by omega
      have i4 : (0 : Int) ≤ (k : Int) := by omega
      have i5 : (k : Int) < (n : Int) := by omega
      have u1 : IntKind.i64.wrap x.a = x.a := IntWalk.i64_in _ (by omega)
      have u2 : IntKind.i64.wrap x.b = x.b := IntWalk.i64_in _ (by omega)
      have u3 : x.a.tmod 61 = x.a % 61 := Int.tmod_eq_emod_of_nonneg x0
      have u4 : x.b.tmod 41 = x.b % 41 := Int.tmod_eq_emod_of_nonneg x2
      have u5 : IntKind.i64.wrap (x.a % 61) = x.a % 61 := IntWalk.i64_in _ (by omega)
      have u6 : IntKind.i64.wrap (x.b % 41) = x.b % 41 := IntWalk.i64_in _ (by omega)
      clear hx FIN
      go_upto_region 5 with fail
      go_region_held3 (fun w' => w'.cell? ⟨b, off + k * 2, none⟩ = some (.int .u8 x.a) ∧ w'.cell? ⟨b, off + k * 2 + 1, none⟩ = some (.int .u8 x.b))
        (first | (go_keep; done) | (exact ⟨(app_keep ((HO.out.alloc _).drew) g3 hbB (by simp; omega) _).trans (and_l (by assumption)), (app_keep ((HO.out.alloc _).drew) g3 hbB (by simp; omega) _).trans (and_r (by assumption))⟩))
        (first | ((refine step_app rfl (.tmp 15) (.tmp 31) 24 rfl w.heap.size rs_ty _ k (sprs ((l.take k).map toS)) rfl ((HO.out.alloc _).drew) (wr.heap.size + 1) (some ⟨wr.heap.size, 0, none⟩) 1 1 (toS x).cells rfl rfl (Rds.at_new_drew rfl #[.int .i64 (x.a % 61), .int .i64 (x.b % 41)] _) (spr_one _) (by simp only [maxLen]; omega) (by omega) (by simp; omega) ?_); intro v' w3 o3 g3 b3))
      all_goals
        go_wp2_with fail
        go_roundg (gk - 1)
        case measure => omega
        case rel =>
          refine ⟨k + 1, by omega, by omega, by go_num, by omega, hide (by rw [HFT.out]; exact o3), hide (grown_below (v := Value.slice A1 k cc1) ((HB.out.alloc hsz _).drew) ((HO.out.alloc _).drew) g3 (by simp; omega))⟩

set_option maxHeartbeats 1000000 in
theorem divisor_any (b : Nat) : ∀ (a : Nat) (w : World), a ≤ 268435456 → b ≤ 268435456 → Calls Try.prog 34 #[.int .i64 a, .int .i64 b] w fun e w' => e = .returned (.int .i64 (Nat.gcd a b : Nat)) ∧ w = w' := by
  induction b using Nat.strongRecOn with
  | ind b ih =>
    intro a w ha hb
    by_cases hb0 : b = 0
    · subst hb0
      go_enter Try.func34, Try.ntmps34
      go_wp2_with fail
      go_ret
      exact ⟨ret_int (by rw [Nat.gcd_zero_right]), rfl⟩
    · have hbn : ((b : Int) == 0) = false := by simpa using hb0
      have hb0' : ¬ (b : Int) = 0 := by omega
      have hlt2 : a % b < b := Nat.mod_lt _ (by omega)
      have e1 : (a : Int).tmod (b : Int) = ((a % b : Nat) : Int) := by rw [Int.tmod_eq_emod_of_nonneg (by omega)]; exact (Int.natCast_emod a b).symm
      have e2 : IntKind.i64.wrap ((a % b : Nat) : Int) = ((a % b : Nat) : Int) := IntWalk.i64_in _ (by omega)
      have HG2 := hide (show Nat.gcd b (a % b) = Nat.gcd a b by rw [Nat.gcd_comm b, ← Nat.gcd_rec, Nat.gcd_comm])
      obtain ⟨r, hr⟩ : ∃ r, r = a % b := ⟨_, rfl⟩
      rw [← hr] at hlt2 e1 e2 HG2
      have HI := hide (ih r hlt2 b w hb (by omega))
      clear hr ih
      go_enter Try.func34, Try.ntmps34
      go_wp2_with fail
      refine HI.out.mono ?_
      rw [HG2.out]
      rintro e w1 ⟨rfl, rfl⟩
      go_wp2_with fail
      go_ret
      exact ⟨rfl, rfl⟩

theorem BestOf.ref {l : List Spr} {width : Int} {P : Int → Prop} {p q x k : Int} (h : BestOf l width P p q) (hn : ∀ s ∈ l, 0 ≤ s.n ∧ 0 ≤ s.m) (hx : 0 < x) (hxm : x ≤ 1048576) {s : Spr} (hs : s ∈ l) (hsx : s.n = x) (hk : 0 ≤ k)
    (h1 : lens l k x ≤ width) (h2 : width < lens l (k + 1) x) : BestOf l width (fun n => P n ∨ n = x) (if k * q > p * x then k else p) (if k * q > p * x then x else q) := by
  have hmax : ∀ k', 0 ≤ k' → lens l k' x ≤ width → k' ≤ k := by
    intro k' _ h3
    rcases Int.lt_or_le k k' with h4 | h4
    · have := lens_mono (a := k + 1) (c := k') (fun t ht => (hn t ht).1) (show (1 : Int) ≤ x by omega) (show (1 : Int) ≤ x by omega) (Int.mul_le_mul_of_nonneg_right (by omega) (by omega))
      omega
    · exact h4
  have hkw : k ≤ width := by
    have e1 := lens_ge (a := k) (b := x) (fun t ht => (hn t ht).2) hs
    have e2 := lenF_own (s := s) (by omega) k
    rw [hsx] at e2
    omega
  by_cases hc : k * q > p * x
  · rw [if_pos hc, if_pos hc]
    refine ⟨hk, hkw, by omega, hxm, h1, .inr ⟨s, hs, by omega, hsx.symm⟩, fun n hP n0 k' k0 hk' => ?_⟩
    rcases hP with hP | rfl
    · have b1 := h.max n hP n0 k' k0 hk'
      apply cancel_le h.q1
      have c1 : k' * q * x ≤ p * n * x := Int.mul_le_mul_of_nonneg_right b1 (by omega)
      have c2 : p * x * n ≤ k * q * n := Int.mul_le_mul_of_nonneg_right (by omega) (by omega)
      have e1 : k' * x * q = k' * q * x := Int.mul_right_comm _ _ _
      have e2 : p * n * x = p * x * n := Int.mul_right_comm _ _ _
      have e3 : k * n * q = k * q * n := Int.mul_right_comm _ _ _
      omega
    · exact Int.mul_le_mul_of_nonneg_right (hmax k' k0 hk') (by omega)
  · rw [if_neg hc, if_neg hc]
    refine ⟨h.p0, h.pw, h.q1, h.qm, h.fit, h.step, fun n hP n0 k' k0 hk' => ?_⟩
    rcases hP with hP | rfl
    · exact h.max n hP n0 k' k0 hk'
    · have := Int.mul_le_mul_of_nonneg_right (hmax k' k0 hk') (show 0 ≤ q by have := h.q1; omega)
      omega

set_option maxRecDepth 100000 in
set_option maxHeartbeats 4000000 in
theorem rforce_any (A : Option Addr) (n c : Nat) (l : List Spr) (width : Int) (w : World) (hn : n = l.length) (hm : n ≤ 8192) (h : Rds w w.heap.size A (sprs l)) (hok : ∀ s ∈ l, s.ok)
    (hw0 : 0 ≤ width) (hw1 : width ≤ 67108864) (hmin : mins l ≤ width) :
    Calls Try.prog 18 #[.slice A n c, .int .i64 width] w fun e w' => ∃ p q : Int, e = .returned (.tuple #[.int .i64 p, .int .i64 q]) ∧ Low l width p q ∧ Below w.heap.size w w' := by
  have HN := hide hn
  have HR := hide h
  have HOK := hide hok
  have HNM := hide (show ∀ s ∈ l, 0 ≤ s.n ∧ 0 ≤ s.m from fun s hs => ⟨(Spr.ok_of (hok s hs)).1, (Spr.ok_of (hok s hs)).2.2.1⟩)
  have HST := hide (BestOf.start (fun s hs => (Spr.ok_of (hok s hs)).2.2.1) hw0 hmin)
  clear hn h hok hmin
  go_enter Try.func18, Try.ntmps18
  go_wp2_with fail
  go_loopg [6, 7, 8] n (fun gk s6 s7 i wr => ∃ (k : Nat) (p q : Int), k ≤ n ∧ i = .int .i64 k ∧ n ≤ gk + k ∧ s6 = .int .i64 p ∧ s7 = .int .i64 q ∧ Hid (Below w.heap.size w wr) ∧ Hid (BestOf l width (fun x => ∃ s ∈ l.take k, s.n = x) p q))
  case atStart => exact ⟨0, 0, 1, Nat.zero_le _, rfl, by omega, rfl, rfl, Below.refl _ _, hide (HST.out.imp fun x ⟨s, hs, _⟩ => by simp at hs)⟩
  case round =>
    obtain ⟨k, p, q, hk, rfl, hgk, rfl, rfl, HB, HBE⟩ := hrel
    obtain ⟨gm, rfl⟩ : ∃ gm : Nat, gm = gk := ⟨_, rfl⟩
    have p0 := HBE.out.p0
    have pw := HBE.out.pw
    have q1 := HBE.out.q1
    have qm := HBE.out.qm
    by_cases hlt : k < n
    · obtain ⟨x, hx⟩ : ∃ x, l[k]? = some x := ⟨_, List.getElem?_eq_getElem (by have := HN.out; omega)⟩
      obtain ⟨b, off, rfl, hbB, c0, -⟩ := (Rds.on2 HR.out HB.out).spr hx
      obtain ⟨x0, x1, x2, x3⟩ := Spr.ok_of (HOK.out x (List.mem_of_getElem? hx))
      have HXM := hide (List.mem_of_getElem? hx)
      have HTK := hide (show ∀ y, (∃ s ∈ l.take (k + 1), s.n = y) → (∃ s ∈ l.take k, s.n = y) ∨ y = x.n from fun y ⟨s, hs, e⟩ => by
        rw [List.take_add_one, hx, Option.toList_some] at hs
        rcases List.mem_append.1 hs with hs | hs
        · exact .inl ⟨s, hs, e⟩
        · rw [List.mem_singleton.1 hs] at e; exact .inr e.symm)
      clear hx
      rcases (show x.n = 0 ∨ 0 < x.n by omega) with hx0 | hx0
      · rw [hx0] at c0
        have HNEW := hide (HBE.out.imp0 (P' := fun y => ∃ s ∈ l.take (k + 1), s.n = y) fun y hy h => by
          rcases HTK.out y h with h | h
          · exact h
          · omega)
        go_wp2_with fail
        go_roundg (gm - 1)
        case measure => omega
        case rel => exact ⟨k + 1, p, q, by omega, by go_num, by omega, rfl, rfl, HB, HNEW⟩
      · have hxe : (x.n == 0) = false := by simp; omega
        have HM0 := hide (lens_zero (l := l) fun s hs => (HNM.out s hs).2)
        have hfit0 : lens l 0 x.n ≤ width := by
          have e1 := lens_mono (l := l) (a := 0) (b := x.n) (c := 0) (d := 1) (fun s hs => (HNM.out s hs).1) (by omega) (by omega) (by omega)
          have e2 := HST.out.fit
          omega
        have HF0 := hide hfit0
        clear hfit0
        go_wp2_with fail
        go_loopg [10] (67108865 : Nat) (fun gk s10 wr2 => ∃ j : Nat, s10 = .int .i64 j ∧ (j : Int) ≤ width ∧ 67108865 ≤ gk + j ∧ Hid (lens l j x.n ≤ width) ∧ Hid (Below w.heap.size w wr2))
        case atStart => exact ⟨0, rfl, by omega, by omega, HF0, HB⟩
        case round =>
          obtain ⟨j, rfl, hjw, hgj, HFJ, HBJ⟩ := hrel
          have HTO := hide (rtotal_any _ n c l ((j : Int) + 1) x.n _ HN.out hm (Rds.on2 HR.out HBJ.out) HOK.out (by omega) (by omega) (by omega) (by omega))
          obtain ⟨T, hT⟩ : ∃ T, T = lens l ((j : Int) + 1) x.n := ⟨_, rfl⟩
          rw [← hT] at HTO
          have HT := hide hT
          have j1 : IntKind.i64.wrap ((j : Int) + 1) = (j : Int) + 1 := IntWalk.i64_in _ (by omega)
          rcases (show T ≤ width ∨ width < T by omega) with hc | hc
          · have hjw2 : (j : Int) + 1 ≤ width := by
              have e1 := lens_ge (a := (j : Int) + 1) (b := x.n) (fun t ht => (HNM.out t ht).2) HXM.out
              have e2 := lenF_own (s := x) hx0 ((j : Int) + 1)
              omega
            have HNEW := hide (show lens l ((j + 1 : Nat) : Int) x.n ≤ width by rw [show ((j + 1 : Nat) : Int) = (j : Int) + 1 by omega, ← hT]; exact hc)
            clear hT
            go_wp2_with fail
            refine HTO.out.mono ?_
            rintro e w1 ⟨rfl, hb⟩
            have HB1 := hide (find1_tr HBJ.out hb)
            clear hb
            go_wp2_with fail
            go_roundg (gk - 1)
            case measure => omega
            case rel => exact ⟨j + 1, by go_num, by omega, by omega, HNEW, HB1⟩
          · have hnle : ¬ T ≤ width := by omega
            have HREF := hide ((HBE.out.ref (fun t ht => HNM.out t ht) hx0 x1 HXM.out rfl (k := (j : Int)) (by omega) HFJ.out (by rw [← hT]; exact hc)).imp (P' := fun y => ∃ s ∈ l.take (k + 1), s.n = y) HTK.out)
            have m0 : 0 ≤ (j : Int) * q := Int.mul_nonneg (by omega) (by omega)
            have m1 : (j : Int) * q ≤ 67108864 * 1048576 := Int.mul_le_mul (by omega) qm (by omega) (by omega)
            have m2 : 0 ≤ p * x.n := Int.mul_nonneg p0 (by omega)
            have m3 : p * x.n ≤ 67108864 * 1048576 := Int.mul_le_mul (by omega) x1 (by omega) (by omega)
            have m4 : IntKind.i64.wrap ((j : Int) * q) = (j : Int) * q := IntWalk.i64_in _ (by omega)
            have m5 : IntKind.i64.wrap (p * x.n) = p * x.n := IntWalk.i64_in _ (by omega)
            clear hT m0 m1 m2 m3
            rcases (show p * x.n < (j : Int) * q ∨ (j : Int) * q ≤ p * x.n by omega) with hq | hq
            · rw [if_pos (by omega), if_pos (by omega)] at HREF
              go_wp2_with fail
              refine HTO.out.mono ?_
              rintro e w1 ⟨rfl, hb⟩
              have HB1 := hide (find1_tr HBJ.out hb)
              clear hb
              go_wp2_with fail
              go_roundg (gm - 1)
              case measure => omega
              case rel => exact ⟨k + 1, j, x.n, by omega, by go_num, by omega, rfl, rfl, HB1, HREF⟩
            · rw [if_neg (by omega), if_neg (by omega)] at HREF
              have hq2 : ¬ p * x.n < (j : Int) * q := by omega
              go_wp2_with fail
              refine HTO.out.mono ?_
              rintro e w1 ⟨rfl, hb⟩
              have HB1 := hide (find1_tr HBJ.out hb)
              clear hb
              go_wp2_with fail
              go_roundg (gm - 1)
              case measure => omega
              case rel => exact ⟨k + 1, p, q, by omega, by go_num, by omega, rfl, rfl, HB1, HREF⟩
    · have hall : l.take k = l := List.take_of_length_le (by have := HN.out; omega)
      rw [hall] at HBE
      obtain ⟨P, hP⟩ : ∃ P : Nat, (P : Int) = p := ⟨p.toNat, by omega⟩
      obtain ⟨Q, hQ⟩ : ∃ Q : Nat, (Q : Int) = q := ⟨q.toNat, by omega⟩
      have hQ1 : 1 ≤ Q := by omega
      have hP2 : P ≤ 67108864 := by omega
      have hQ2 : Q ≤ 1048576 := by omega
      subst hP hQ
      have HD := hide (fun W => divisor_any P Q W (by omega) (by omega))
      obtain ⟨a, ha⟩ : ∃ a, a = Nat.gcd Q P := ⟨_, rfl⟩
      have HA := hide (show a = Nat.gcd P Q by rw [ha, Nat.gcd_comm])
      rw [← ha] at HD
      have hG0 : 0 < Nat.gcd P Q := Nat.gcd_pos_of_pos_right _ hQ1
      have ha0 : ¬ (a : Int) = 0 := by have := HA.out; omega
      have e1 : (P : Int).tdiv (a : Int) = ((P / a : Nat) : Int) := by rw [Int.tdiv_eq_ediv_of_nonneg (by omega)]; exact (Int.natCast_ediv P a).symm
      have e2 : (Q : Int).tdiv (a : Int) = ((Q / a : Nat) : Int) := by rw [Int.tdiv_eq_ediv_of_nonneg (by omega)]; exact (Int.natCast_ediv Q a).symm
      have HLOW := hide (show Low l width ((P / a : Nat) : Int) ((Q / a : Nat) : Int) from by
        have d1 : a ∣ P := by rw [HA.out]; exact Nat.gcd_dvd_left _ _
        have d2 : a ∣ Q := by rw [HA.out]; exact Nat.gcd_dvd_right _ _
        have hbf := HBE.out
        rw [show (P : Int) = ((P / a : Nat) : Int) * (a : Int) by rw [← Int.natCast_mul, Nat.div_mul_cancel d1], show (Q : Int) = ((Q / a : Nat) : Int) * (a : Int) by rw [← Int.natCast_mul, Nat.div_mul_cancel d2]] at hbf
        exact Low.of (fun s hs => (HNM.out s hs).1) (by omega) hbf (Int.ofNat_le.2 (Nat.div_pos (Nat.le_of_dvd hQ1 d2) (by omega : 0 < a))) (Int.natCast_nonneg _)
          (by rw [HA.out]; exact Nat.coprime_div_gcd_div_gcd hG0))
      obtain ⟨p', hp'⟩ : ∃ p' : Int, p' = ((P / a : Nat) : Int) := ⟨_, rfl⟩
      obtain ⟨q', hq'⟩ : ∃ q' : Int, q' = ((Q / a : Nat) : Int) := ⟨_, rfl⟩
      rw [← hp'] at HLOW e1
      rw [← hq'] at HLOW e2
      have v0 := HLOW.out.p0
      have v1 := HLOW.out.pw
      have v2 := HLOW.out.q1
      have v3 := HLOW.out.qm
      have i1 : IntKind.i64.wrap p' = p' := IntWalk.i64_in _ (by omega)
      have i2 : IntKind.i64.wrap q' = q' := IntWalk.i64_in _ (by omega)
      clear hp' hq' hall HBE ha
      go_wp2_with fail
      refine (HD.out _).mono ?_
      rintro e w1 ⟨rfl, rfl⟩
      go_wp2_with fail
      go_quiet (fail)
      go_wp2_with fail
      go_ret2
      exact ⟨p', q', rfl, HLOW.out, below_drewN HB.out _⟩

set_option maxRecDepth 100000 in
set_option maxHeartbeats 2000000 in
theorem forces_law (A : Option Addr) (n c : Nat) (x : List P2) (b : Int) (w : World) (hb0 : 0 ≤ b) (hb1 : b ≤ 65535) (hn : n = x.length) (h : Rds w w.heap.size A (x.flatMap P2.cells)) (hwf : ∀ p ∈ x, P2.wf w p) :
    Calls Try.prog 3 #[.slice A n c, .int .u16 b] w fun e w' => e = .returned (.bool true) ∧ Below w.heap.size w w' := by
  have HS := hide (small_any A n c x w hn h hwf)
  obtain ⟨l, hl⟩ : ∃ l, l = smallL x := ⟨_, rfl⟩
  have hok := smallL_ok x
  have hmn := smallL_mins x
  have hln := smallL_len x
  rw [← hl] at HS hok hmn hln
  have HOK := hide hok
  have HNM := hide (show ∀ s ∈ l, 0 ≤ s.n ∧ 0 ≤ s.m from fun s hs => ⟨(Spr.ok_of (hok s hs)).1, (Spr.ok_of (hok s hs)).2.2.1⟩)
  obtain ⟨m, hm⟩ : ∃ m, m = l.length := ⟨_, rfl⟩
  rw [← hm] at HS hln
  have HM := hide hm
  obtain ⟨M, hM⟩ : ∃ M, M = mins l := ⟨_, rfl⟩
  rw [← hM] at hmn
  obtain ⟨r, hr⟩ : ∃ r, r = b % 301 := ⟨_, rfl⟩
  have r0 : 0 ≤ r := by omega
  have r1 : r ≤ 300 := by omega
  have i0 : IntKind.i64.wrap b = b := IntWalk.i64_in _ (by omega)
  have i1 : b.tmod 301 = r := by rw [hr]; exact Int.tmod_eq_emod_of_nonneg hb0
  have i2 : IntKind.i64.wrap r = r := IntWalk.i64_in _ (by omega)
  have i3 : IntKind.i64.wrap (M + r) = M + r := IntWalk.i64_in _ (by omega)
  have HFE := hide (show fitErr l (M + r) = 0 by
    have hsp : spErr l = 0 := by rw [spErr, if_neg (by omega), if_pos hok]
    rw [fitErr, if_neg (by rw [hsp]; simp), if_neg (by omega), if_neg (by omega)])
  have HMW := hide (show mins l ≤ M + r by omega)
  have HT := hide (fun (A2 : Option Addr) (c2 : Nat) W (hW : Rds W W.heap.size A2 (sprs l)) => show Calls Try.prog 14 #[.slice A2 m c2, .int .i64 0, .int .i64 1] W fun e w' => e = .returned (.int .i64 M) ∧ Below W.heap.size W w' from by
    have := rtotal_any A2 m c2 l 0 1 W HM.out (by omega) hW HOK.out (by omega) (by omega) (by omega) (by omega)
    rw [lens_zero fun s hs => (HNM.out s hs).2, ← hM] at this
    exact this)
  clear hl hok hm hM hr hn h hwf
  go_enter Try.func3, Try.ntmps3
  go_wp2_with fail
  refine HS.out.mono ?_
  rintro e w1 ⟨A1, c1, rfl, hr1, hb⟩
  have HB1 := hide hb
  have HR1 := hide hr1
  clear hb hr1
  go_wp2_with fail
  refine (HT.out A1 c1 _ HR1.out).mono ?_
  rintro e w2 ⟨rfl, hb⟩
  have HB2 := hide (find1_tr HB1.out hb)
  have HR2 := hide (Rds.on2 HR1.out hb)
  clear hb
  go_wp2_with fail
  refine (own_any A1 m c1 l _ HM.out (by omega) HR2.out).mono ?_
  rintro e w3 ⟨A3, c3, rfl, hr3, hb⟩
  have HB3 := hide (find1_tr HB2.out hb)
  have HR3 := hide (Rds.on2 HR2.out hb)
  clear hb
  go_wp2_with fail
  refine (Force_ok A3 m c3 l (M + r) _ HM.out hr3 HFE.out).mono ?_
  rintro e w4 ⟨p, q, rfl, hlow, hb⟩
  have HB4 := hide (find1_tr HB3.out hb)
  have HR4 := hide (Rds.on2 HR3.out hb)
  have HLOW := hide hlow
  clear hb hr3 hlow
  go_wp2_with fail
  refine (known_any _).mono ?_
  rintro e w5 ⟨rfl, hb⟩
  have HB5 := hide (find1_tr HB4.out hb)
  have HR5 := hide (Rds.on2 HR4.out hb)
  clear hb
  go_wp2_with fail
  refine (rforce_any A1 m c1 l (M + r) _ HM.out (by omega) HR5.out HOK.out (by omega) (by omega) HMW.out).mono ?_
  rintro e w6 ⟨p2, q2, rfl, hlow2, hb⟩
  obtain ⟨rfl, rfl⟩ := HLOW.out.unique (fun s hs => (HNM.out s hs).1) hlow2
  have HB6 := hide (find1_tr HB5.out hb)
  clear hb hlow2
  go_wp2_with fail
  go_ret
  exact ⟨rfl, HB6.out⟩

theorem springForces_walk {w : World} (a : Sl P2) (ha : Sl.Good P2.cells P2.wf w a) (y : Int) (hy : (Lit.int .u16 y).wf = true) :
    Calls Try.prog 3 #[.slice a.A a.n a.c, .int .u16 y] w fun e w' => e = .returned (.bool true) ∧ Below w.heap.size w w' := by
  have h2 : 0 ≤ y ∧ y ≤ 65535 := by
    have h : IntKind.u16.min ≤ y ∧ y ≤ IntKind.u16.max := by simpa [Lit.wf] using hy
    exact h
  exact forces_law a.A a.n a.c a.l y w h2.1 h2.2 ha.len ha.rds ha.all

end Go.Proofs.Ytcnejnaeahffhaa
