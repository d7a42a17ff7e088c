/- The walk of RationalSums. -/
import Derived.Test.YtfappkhohddcjaaDoorSum01
import Derived.Test.YtfappkhohddcjaaDoorKn01
import Derived.Test.YtfappkhohddcjaaDoorDoor01
import Derived.Deep.AppendLies
namespace Go.Proofs.YtfappkhohddcjaaDoor
open Go.RowKit

theorem frs_ty : ElemTy Tryd.prog 60 24 2 16 :=
  ElemTy.of (z := .agg #[.int .i64 0, .int .i64 0]) Tryd.underlying60 (by kernel_rfl) rfl (by omega)
theorem fr_one (x : Fr) : ∀ u ∈ frC x, u.oneCell' = true := by
  intro u hu
  simp only [frC, List.mem_cons, List.not_mem_nil, or_false] at hu
  rcases hu with rfl | rfl <;> rfl
def ofP (p : Int × Int) : Fr := ofF (clN p.1) (clD p.2)
theorem Rds.pr {w : World} {B : Nat} {A : Option Addr} {l : List (Int × Int)} (h : Rds w B A (l.flatMap pairC)) {k : Nat} {c : Int × Int} (hk : l[k]? = some c) :
    ∃ b off, A = some ⟨b, off, none⟩ ∧ b < B ∧ w.cell? ⟨b, off + k * 2, none⟩ = some (.int .i64 c.1) ∧
      w.cell? ⟨b, off + k * 2 + 1, none⟩ = some (.int .i64 c.2) := by
  obtain ⟨hlt, -⟩ := List.getElem?_eq_some_iff.1 hk
  obtain ⟨b, off, e, hb, hc⟩ := h.get (k := k * 2) (by rw [flat_length pairC 2 (fun _ => rfl)]; omega)
  have g := fun j hj => flat_get pairC 2 (fun _ => rfl) l k j c hk hj
  refine ⟨b, off, e, hb, hc _ _ (g 0 (by omega)), ?_⟩
  have := hc _ _ (g 1 (by omega)); rw [Nat.add_assoc]; exact this

/-- the pair's cells, below what the round makes -/
def PC (wo : World) (b o1 o2 : Nat) (x y : Int) (w' : World) : Prop :=
  w'.cell? ⟨b, o1, none⟩ = some (.int .i64 x) ∧ w'.cell? ⟨b, o2, none⟩ = some (.int .i64 y) ∧ b < wo.heap.size ∧ Below wo.heap.size wo w'
section
variable {wo w1 w2 : World} {b o1 o2 : Nat} {x y : Int}
theorem PC.of (h1 : wo.cell? ⟨b, o1, none⟩ = some (.int .i64 x)) (h2 : wo.cell? ⟨b, o2, none⟩ = some (.int .i64 y)) (hb : b < wo.heap.size) {w' : World} (k : Below wo.heap.size wo w') : PC wo b o1 o2 x y w' :=
  ⟨(k.cell (p := ⟨_, _, none⟩) hb).trans h1, (k.cell (p := ⟨_, _, none⟩) hb).trans h2, hb, k⟩
theorem PC.next (h : PC wo b o1 o2 x y w1) (k : Below w1.heap.size w1 w2) : PC wo b o1 o2 x y w2 := by
  obtain ⟨h1, h2, h3, h4⟩ := h
  have := h4.size
  exact ⟨(k.cell (p := ⟨_, _, none⟩) (show b < w1.heap.size by omega)).trans h1, (k.cell (p := ⟨_, _, none⟩) (show b < w1.heap.size by omega)).trans h2, h3, on_tr h4 k⟩
theorem PC.st (h : PC wo b o1 o2 x y w1) {k : Nat} (hk : wo.heap.size ≤ k) (u v : Value) : PC wo b o1 o2 x y ((w1.setCell ⟨k, 0, none⟩ u).setCell ⟨k, 1, none⟩ v) := by
  obtain ⟨h1, h2, h3, h4⟩ := h
  refine ⟨?_, ?_, h3, (h4.setCell (by exact hk) _).setCell (by exact hk) _⟩
  · rw [World.cell?_setCell_other _ _ _ _ (by intro e; injection e with e _; omega), World.cell?_setCell_other _ _ _ _ (by intro e; injection e with e _; omega)]; exact h1
  · rw [World.cell?_setCell_other _ _ _ _ (by intro e; injection e with e _; omega), World.cell?_setCell_other _ _ _ _ (by intro e; injection e with e _; omega)]; exact h2
theorem Two.grown {k : Nat} {u v : Int} {row : Option Nat} (h : Two w1 k u v) (hg : w1.grownBy w2 row) (hne : some k ≠ row) : Two w2 k u v :=
  ⟨by have := hg.size; have := h.lt; omega, (hg.cell_far ⟨_, _, none⟩ h.lt hne).trans h.c0, (hg.cell_far ⟨_, _, none⟩ h.lt hne).trans h.c1, (hg.frozen_far ⟨_, _, none⟩ h.lt hne).trans h.f0, (hg.frozen_far ⟨_, _, none⟩ h.lt hne).trans h.f1⟩
theorem S2.drew_ {k : Nat} {a b u v : Int} (h : S2 w1 k a b u v w2) : S2 w1 k a b u v w2.drew := ⟨h.tx.drew, h.ty.drew, Below.drew h.bel⟩
theorem two_new_set (W : World) (p : Nat) (a b : Value) (u v : Int) (t : TypeId) : Two (((W.setCell ⟨p, 0, none⟩ a).setCell ⟨p, 1, none⟩ b).alloc (.cells #[.int .i64 u, .int .i64 v] t)) W.heap.size u v := by
  have := Two.new ((W.setCell ⟨p, 0, none⟩ a).setCell ⟨p, 1, none⟩ b) u v t
  simpa [World.setCell] using this
theorem PCd (h : PC wo b o1 o2 x y w1) : (World.cell? (w1.drew) ⟨b, o1, none⟩ = some (.int .i64 x) ∧ World.cell? (w1.drew) ⟨b, o2, none⟩ = some (.int .i64 y) ∧ b < wo.heap.size ∧ Below wo.heap.size wo (w1.drew)) := PC.next h (Below.drew (Below.refl _ _))
theorem PCa (h : PC wo b o1 o2 x y w1) (o : Obj) : (World.cell? (w1.alloc o) ⟨b, o1, none⟩ = some (.int .i64 x) ∧ World.cell? (w1.alloc o) ⟨b, o2, none⟩ = some (.int .i64 y) ∧ b < wo.heap.size ∧ Below wo.heap.size wo (w1.alloc o)) := PC.next h ((Below.refl _ _).alloc (Nat.le_refl _) o)
theorem PCad (h : PC wo b o1 o2 x y w1) (o : Obj) : (World.cell? ((w1.alloc o).drew) ⟨b, o1, none⟩ = some (.int .i64 x) ∧ World.cell? ((w1.alloc o).drew) ⟨b, o2, none⟩ = some (.int .i64 y) ∧ b < wo.heap.size ∧ Below wo.heap.size wo ((w1.alloc o).drew)) := PC.next (PC.next h ((Below.refl _ _).alloc (Nat.le_refl _) o)) (Below.drew (Below.refl _ _))
theorem PCaa (h : PC wo b o1 o2 x y w1) (o p : Obj) : (World.cell? ((w1.alloc o).alloc p) ⟨b, o1, none⟩ = some (.int .i64 x) ∧ World.cell? ((w1.alloc o).alloc p) ⟨b, o2, none⟩ = some (.int .i64 y) ∧ b < wo.heap.size ∧ Below wo.heap.size wo ((w1.alloc o).alloc p)) := PC.next (PC.next h ((Below.refl _ _).alloc (Nat.le_refl _) o)) ((Below.refl _ _).alloc (Nat.le_refl _) p)
theorem PCaad (h : PC wo b o1 o2 x y w1) (o p : Obj) : (World.cell? (((w1.alloc o).alloc p).drew) ⟨b, o1, none⟩ = some (.int .i64 x) ∧ World.cell? (((w1.alloc o).alloc p).drew) ⟨b, o2, none⟩ = some (.int .i64 y) ∧ b < wo.heap.size ∧ Below wo.heap.size wo (((w1.alloc o).alloc p).drew)) := PC.next (PC.next (PC.next h ((Below.refl _ _).alloc (Nat.le_refl _) o)) ((Below.refl _ _).alloc (Nat.le_refl _) p)) (Below.drew (Below.refl _ _))
theorem PCs (h : PC wo b o1 o2 x y w1) {k : Nat} (hk : wo.heap.size ≤ k) (u v : Value) : (World.cell? ((w1.setCell ⟨k, 0, none⟩ u).setCell ⟨k, 1, none⟩ v) ⟨b, o1, none⟩ = some (.int .i64 x) ∧ World.cell? ((w1.setCell ⟨k, 0, none⟩ u).setCell ⟨k, 1, none⟩ v) ⟨b, o2, none⟩ = some (.int .i64 y) ∧ b < wo.heap.size ∧ Below wo.heap.size wo ((w1.setCell ⟨k, 0, none⟩ u).setCell ⟨k, 1, none⟩ v)) := PC.st h hk u v
theorem PCsa (h : PC wo b o1 o2 x y w1) {k : Nat} (hk : wo.heap.size ≤ k) (u v : Value) (o : Obj) : (World.cell? (((w1.setCell ⟨k, 0, none⟩ u).setCell ⟨k, 1, none⟩ v).alloc o) ⟨b, o1, none⟩ = some (.int .i64 x) ∧ World.cell? (((w1.setCell ⟨k, 0, none⟩ u).setCell ⟨k, 1, none⟩ v).alloc o) ⟨b, o2, none⟩ = some (.int .i64 y) ∧ b < wo.heap.size ∧ Below wo.heap.size wo (((w1.setCell ⟨k, 0, none⟩ u).setCell ⟨k, 1, none⟩ v).alloc o)) := PC.next (PC.st h hk u v) ((Below.refl _ _).alloc (Nat.le_refl _) o)
theorem PCss (h : PC wo b o1 o2 x y w1) {k : Nat} (hk : wo.heap.size ≤ k) (u v : Value) {k' : Nat} (hk' : wo.heap.size ≤ k') (u' v' : Value) : (World.cell? ((((w1.setCell ⟨k, 0, none⟩ u).setCell ⟨k, 1, none⟩ v).setCell ⟨k', 0, none⟩ u').setCell ⟨k', 1, none⟩ v') ⟨b, o1, none⟩ = some (.int .i64 x) ∧ World.cell? ((((w1.setCell ⟨k, 0, none⟩ u).setCell ⟨k, 1, none⟩ v).setCell ⟨k', 0, none⟩ u').setCell ⟨k', 1, none⟩ v') ⟨b, o2, none⟩ = some (.int .i64 y) ∧ b < wo.heap.size ∧ Below wo.heap.size wo ((((w1.setCell ⟨k, 0, none⟩ u).setCell ⟨k, 1, none⟩ v).setCell ⟨k', 0, none⟩ u').setCell ⟨k', 1, none⟩ v')) := PC.st (PC.st h hk u v) hk' u' v'
theorem PC.bel (h : PC wo b o1 o2 x y w1) : Below wo.heap.size wo w1 := h.2.2.2
end

set_option maxRecDepth 100000 in
set_option maxHeartbeats 16000000 in
theorem sums_law (A : Option Addr) (n c : Nat) (l : List (Int × Int)) (w : World) (hn : n = l.length) (hm : n ≤ 9223372036854775807) (h : Rds w w.heap.size A (l.flatMap pairC)) (ht : Tab w) :
    Calls Tryd.prog 12 #[.slice A n c] w fun e w' => e = .returned (.bool true) ∧ Below w.heap.size w w' := by
  have HN := hide hn
  have HR := hide h
  have HT := hide ht
  clear hn h ht
  have HK := hide (fun W (h : Tab W) => known_any W h)
  have HQ0 := hide (Two.new w 0 1 26)
  have HB0 := hide ((Below.refl w.heap.size w).alloc (Nat.le_refl _) (.cells #[.int .i64 0, .int .i64 1] 26))
  go_enter Tryd.func12, Tryd.ntmps12
  go_wp2_with fail
  generalize w.alloc (.cells #[.int .i64 0, .int .i64 1] 26) = wX at HQ0 HB0 ⊢
  go_outline
  go_loopg [3, 5, 6] 20 (fun gl s3 s5 s6 wr => ∃ k : Nat, ∃ S : Fr, s5 = .int .i64 S.e ∧ s6 = .int .i64 k ∧ k ≤ n ∧ k ≤ 20 ∧ 20 ≤ gl + k ∧ Hid (S = sumS ((l.take k).map ofP)) ∧ Hid (wr.ownsRow (w.heap.size + 1) 24 2 s3 k (((l.take k).map ofP).flatMap frC)) ∧ Hid (Two wr w.heap.size S.n S.d) ∧ Hid (Below w.heap.size w wr))
  case atStart => exact ⟨0, ⟨0, 1, 0⟩, rfl, rfl, Nat.zero_le _, by omega, by omega, hide rfl, hide (World.ownsRow_nil _ _ _ _), HQ0, HB0⟩
  case round =>
    obtain ⟨k, S, rfl, rfl, hk, hk20, hgk, HSS, HO, HQ, HB⟩ := hrel
    obtain ⟨A1, cc1, rfl, hA1, hcc1, hcc1m⟩ := own_form HO.out
    by_cases hlt : k < n ∧ k < 20
    · obtain ⟨h1, h2⟩ := hlt
      obtain ⟨x, hx⟩ : ∃ x, l[k]? = some x := ⟨_, List.getElem?_eq_getElem (by rw [← HN.out]; exact h1)⟩
      obtain ⟨b, off, rfl, hbB, cx0, cx1⟩ := (HR.out.below HB.out).pr hx
      have i3 : ((k : Int)).toNat = k := by omega
      have i4 : (0 : Int) ≤ (k : Int) := by omega
      have i5 : (k : Int) < (n : Int) := by omega
      have i6 : IntKind.i64.wrap ((k : Int) + 1) = (k : Int) + 1 := IntWalk.i64_in _ (by omega)
      have i7 : (k : Int) < 20 := by omega
      have HOF := hide (fun W => of_any x.1 x.2 W)
      have HTK := hide (show (l.take (k + 1)).map ofP = (l.take k).map ofP ++ [ofP x] by rw [List.take_add_one, hx, Option.toList_some, List.map_append]; rfl)
      obtain ⟨F, hF⟩ : ∃ F, F = ofP x := ⟨_, rfl⟩
      have hF' : ofF (clN x.1) (clD x.2) = F := hF.symm
      rw [hF'] at HOF
      rw [← hF] at HTK
      have HFL := hide (show Fq F.n F.d by rw [hF]; exact ofF_fq _ _)
      have HSq := hide (show Fq S.n S.d by rw [HSS.out]; exact (sumS_fq _).1)
      have hbw : b < wr.heap.size := by have := HB.out.size; omega
      have HP := hide (PC.of (wo := wr) cx0 cx1 hbw (Below.refl _ _))
      clear hx hF hF' hbB
      have HLTs := hide (fun g (e : (Value.slice A1 k cc1).ownBlock = some g) => (HO.out.lt g e).2)
      go_upto_region 6 with fail
      go_cut [7, 8] (fun v7 v8 wx => ∃ k7 k8 : Nat, v7 = .pointer (some ⟨k7, 0, none⟩) ∧ v8 = .pointer (some ⟨k8, 0, none⟩) ∧ wr.heap.size ≤ k8 ∧ Two wx k7 F.n (F.d - 1) ∧ Two wx k8 F.n F.d ∧ Below wr.heap.size wr wx)
      case first =>
        go_region_held3 (fun w' => w'.cell? ⟨b, off + k * 2, none⟩ = some (.int .i64 x.1) ∧ w'.cell? ⟨b, off + k * 2 + 1, none⟩ = some (.int .i64 x.2) ∧ b < wr.heap.size ∧ Below wr.heap.size wr w') (first | assumption | (with_reducible exact PCd HP.out) | (with_reducible exact PCa HP.out _) | (with_reducible exact PCad HP.out _) | (with_reducible exact PCaa HP.out _ _) | (with_reducible exact PCaad HP.out _ _) | exact hPK | (with_reducible exact PCa hPK _) | (with_reducible exact PCaa hPK _ _) | (with_reducible exact PCs hPK (by first | omega | (simp; omega)) _ _) | (with_reducible exact PCsa hPK (by first | omega | (simp; omega)) _ _ _) | (with_reducible exact PCss hPK (by first | omega | (simp; omega)) _ _ (by first | omega | (simp; omega)) _ _)) (first | (go_at_call 14; (with_reducible refine (HOF.out _).mono ?_); rintro e w' ⟨rfl, hb'⟩; have hPK := PC.next (by assumption) hb'; have l_B := hPK.bel.size; (first | (have hS := (S2.new2 _ 0 0 0 0 _ _).on hb'; have hzA := hS.tx; have hzB := hS.ty; have z0 := hzA.c0; have z1 := hzA.c1; have z2 := hzA.f0; have z3 := hzA.f1; have z4 := hzB.c0; have z5 := hzB.c1; have z6 := hzB.f0; have z7 := hzB.f1; have z8 := hzA.lt; have z9 := hzB.lt) | (have hS := (S2.new2 _ 0 0 0 0 _ _).drew.on hb'; have hzA := hS.tx; have hzB := hS.ty; have z0 := hzA.c0; have z1 := hzA.c1; have z2 := hzA.f0; have z3 := hzA.f1; have z4 := hzB.c0; have z5 := hzB.c1; have z6 := hzB.f0; have z7 := hzB.f1; have z8 := hzA.lt; have z9 := hzB.lt) | (have hz := (Two.new _ 0 0 _).on hb' (by simp); have z0 := hz.c0; have z1 := hz.c1; have z2 := hz.f0; have z3 := hz.f1; have z8 := hz.lt) | (have hz := ((Two.new _ 0 0 _).drew).on hb' (by simp); have z0 := hz.c0; have z1 := hz.c1; have z2 := hz.f0; have z3 := hz.f1; have z8 := hz.lt) | skip)))
        · go_wp2_with fail
          go_meet
          exact ⟨w'.heap.size, w'.heap.size + 1, rfl, rfl, by omega, (S2.new2 w' F.n (F.d - 1) F.n F.d _ _).tx, (S2.new2 w' F.n (F.d - 1) F.n F.d _ _).ty, (hPK.bel.alloc (by omega) _).alloc (by simp; omega) _⟩
        · go_wp2_with fail
          go_meet
          exact ⟨w'.heap.size + 1, w'.heap.size, rfl, rfl, by omega, (S2.new2 w' F.n F.d F.n (F.d - 1) _ _).ty, (S2.new2 w' F.n F.d F.n (F.d - 1) _ _).tx, (hPK.bel.alloc (by omega) _).alloc (by simp; omega) _⟩
        · go_wp2_with fail
          go_meet
          exact ⟨wr.heap.size, w'.heap.size, rfl, rfl, by omega, (hz.set F.n (F.d - 1)).on ((Below.refl _ _).alloc (Nat.le_refl _) _) (hz.set F.n (F.d - 1)).lt, two_new_set _ _ _ _ _ _ _, ((hPK.bel.setCell (Nat.le_refl _) _).setCell (Nat.le_refl _) _).alloc (by simp [World.setCell]; omega) _⟩
        · go_wp2_with fail
          go_meet
          exact ⟨wr.heap.size, wr.heap.size + 1, rfl, rfl, by omega, ((hzA.set F.n (F.d - 1)).setOther _ _ (by omega) _).setOther _ _ (by omega) _, ((hzB.setOther _ _ (by omega) _).setOther _ _ (by omega) _).set F.n F.d, (((hPK.bel.setCell (Nat.le_refl _) _).setCell (Nat.le_refl _) _).setCell (Nat.le_succ _) _).setCell (Nat.le_succ _) _⟩
        · go_wp2_with fail
          go_meet
          exact ⟨w'.heap.size, wr.heap.size, rfl, rfl, by omega, two_new_set _ _ _ _ _ _ _, (hz.set F.n F.d).on ((Below.refl _ _).alloc (Nat.le_refl _) _) (hz.set F.n F.d).lt, ((hPK.bel.setCell (Nat.le_refl _) _).setCell (Nat.le_refl _) _).alloc (by simp [World.setCell]; omega) _⟩
        · go_wp2_with fail
          go_meet
          exact ⟨wr.heap.size + 1, wr.heap.size, rfl, rfl, by omega, ((hzB.set F.n (F.d - 1)).setOther _ _ (by omega) _).setOther _ _ (by omega) _, ((hzA.setOther _ _ (by omega) _).setOther _ _ (by omega) _).set F.n F.d, (((hPK.bel.setCell (Nat.le_succ _) _).setCell (Nat.le_succ _) _).setCell (Nat.le_refl _) _).setCell (Nat.le_refl _) _⟩
      case rest =>
        obtain ⟨k7, k8, rfl, rfl, g8, h7, h8, hb⟩ := hcut
        have H7 := hide h7
        have H8 := hide h8
        have HOx := hide (own_below HO.out hb (Nat.le_refl _))
        have HQx := hide (HQ.out.on hb HQ.out.lt)
        have HBx := hide (on_tr HB.out hb)
        have HNE := hide (show some k8 ≠ (Value.slice A1 k cc1).ownBlock from fun e => by have := HLTs.out k8 e.symm; omega)
        clear h7 h8 hb HO HQ HB HP
        have c0 := H7.out.c0
        have c1 := H7.out.c1
        have hsz := HQx.out.lt
        have HPO := hide (show ∀ (v' : Value) (W : World), W.ownsRow (w.heap.size + 1) 24 2 v' (k + 1) (((l.take k).map ofP).flatMap frC ++ [.int .i64 F.n, .int .i64 (F.d - 1)]) → W.ownsRow (w.heap.size + 1) 24 2 v' (k + 1) (((l.take (k + 1)).map ofP).flatMap frC) from fun v' W h => by
          rw [HTK.out, List.flatMap_append]; exact h)
        by_cases hS : S.e = 0
        · have hS0 : (S.e == 0) = true := by simpa using hS
          have HRA := hide (fun W => RAdd_any S.n S.d F.n F.d W HSq.out HFL.out)
          obtain ⟨V, hV⟩ : ∃ V, V = ofF (S.n * F.d + F.n * S.d) (S.d * F.d) := ⟨_, rfl⟩
          rw [← hV] at HRA
          have HVS := hide (show V = sumS ((l.take (k + 1)).map ofP) by rw [HTK.out, sumS_snoc, ← HSS.out, stepS, if_pos hS, hV])
          clear hS hV
          go_wp2_with (at_builtin; go_must (refine wpList_app rfl (.tmp 36) (.tmp 38) 60 rfl (w.heap.size + 1) frs_ty _ k (((l.take k).map ofP).flatMap frC) rfl (HOx.out.alloc _) (wc.heap.size + 1) (some ⟨wc.heap.size, 0, none⟩) 1 1 [.int .i64 F.n, .int .i64 (F.d - 1)] rfl rfl ?_ (fr_one F) (by simp only [maxLen]; omega) (by omega) (by simp; omega) ?_); exact Rds.at_new (by simp) _ _; intro v' w3 o3 g3 b3; have hbg := grown_below (Below.refl (w.heap.size + 1) _) (HOx.out.alloc (.cells #[.int .i64 F.n, .int .i64 (F.d - 1)] 24)) g3 (by simp; omega); have HQ3 := hide ((HQx.out.on ((Below.refl _ _).alloc (Nat.le_refl _) (.cells #[.int .i64 F.n, .int .i64 (F.d - 1)] 24)) HQx.out.lt).on hbg (Nat.lt_succ_self _)); have H83 := hide ((H8.out.on ((Below.refl _ _).alloc (Nat.le_refl _) (.cells #[.int .i64 F.n, .int .i64 (F.d - 1)] 24)) H8.out.lt).grown g3 HNE.out); have HB3 := hide (HBx.out.trans ((((Below.refl _ _).alloc (Nat.le_refl _) (.cells #[.int .i64 F.n, .int .i64 (F.d - 1)] 24)).mono (Nat.le_of_lt hsz)).trans (hbg.mono (Nat.le_succ _)))); have q0 := HQ3.out.c0; have q1 := HQ3.out.c1; have q2 := H83.out.c0; have q3 := H83.out.c1)
          clear q0 q1 q2 q3 c0 c1
          refine (HRA.out _).mono ?_
          rintro e w4 ⟨rfl, hb4⟩
          have HQ4 := hide (HQ3.out.on hb4 HQ3.out.lt)
          have HO4 := hide (own_below o3 hb4 (Nat.le_refl _))
          have HB4 := hide (on_tr HB3.out hb4)
          clear hb4
          have q0 := HQ4.out.c0
          have q1 := HQ4.out.c1
          have q2 := HQ4.out.f0
          have q3 := HQ4.out.f1
          go_wp2_with fail
          go_roundg (gk - 1)
          case measure => omega
          case rel =>
            exact ⟨k + 1, V, rfl, by go_num, by omega, by omega, by omega, HVS, hide (ownsRow_setCell_below (ownsRow_setCell_below (HPO.out _ _ HO4.out) (Nat.lt_succ_self _) _) (Nat.lt_succ_self _) _), hide (HQ4.out.set V.n V.d), hide ((HB4.out.setCell (Nat.le_refl _) _).setCell (Nat.le_refl _) _)⟩
        · have hS0 : (S.e == 0) = false := by simpa using hS
          have HVS := hide (show S = sumS ((l.take (k + 1)).map ofP) by rw [HTK.out, sumS_snoc, ← HSS.out, stepS, if_neg hS])
          clear hS
          go_wp2_with (at_builtin; go_must (refine wpList_app rfl (.tmp 36) (.tmp 38) 60 rfl (w.heap.size + 1) frs_ty _ k (((l.take k).map ofP).flatMap frC) rfl (HOx.out.alloc _) (wc.heap.size + 1) (some ⟨wc.heap.size, 0, none⟩) 1 1 [.int .i64 F.n, .int .i64 (F.d - 1)] rfl rfl ?_ (fr_one F) (by simp only [maxLen]; omega) (by omega) (by simp; omega) ?_); exact Rds.at_new (by simp) _ _; intro v' w3 o3 g3 b3; have hbg := grown_below (Below.refl (w.heap.size + 1) _) (HOx.out.alloc (.cells #[.int .i64 F.n, .int .i64 (F.d - 1)] 24)) g3 (by simp; omega); have HQ3 := hide ((HQx.out.on ((Below.refl _ _).alloc (Nat.le_refl _) (.cells #[.int .i64 F.n, .int .i64 (F.d - 1)] 24)) HQx.out.lt).on hbg (Nat.lt_succ_self _)); have HB3 := hide (HBx.out.trans ((((Below.refl _ _).alloc (Nat.le_refl _) (.cells #[.int .i64 F.n, .int .i64 (F.d - 1)] 24)).mono (Nat.le_of_lt hsz)).trans (hbg.mono (Nat.le_succ _)))))
          go_roundg (gk - 1)
          case measure => omega
          case rel =>
            exact ⟨k + 1, S, rfl, by go_num, by omega, by omega, by omega, HVS, hide (HPO.out _ _ o3), HQ3, HB3⟩
    · have hf : Hid (∀ x ∈ (l.take k).map ofP, Fq x.n x.d) := hide (fun x hx => by
        obtain ⟨p, -, rfl⟩ := List.mem_map.1 hx
        exact ofF_fq _ _)
      have HSM := hide (Sum_any A1 k cc1 ((l.take k).map ofP) wr (by rw [List.length_map, List.length_take]; have := HN.out; omega) (by omega) hf.out (Rds.own HO.out))
      rw [← HSS.out] at HSM
      have HSA := hide (fun W => same_any S W (by rw [HSS.out]; exact (sumS_fq _).1) (by rw [HSS.out]; exact (sumS_fq _).2))
      clear hf
      have hcl : (¬ (k : Int) < (n : Int)) ∨ ((k : Int) < (n : Int) ∧ ¬ (k : Int) < 20) := by omega
      rcases hcl with g1 | ⟨g1, g2⟩
      all_goals
        go_wp2_with fail
        refine HSM.out.mono ?_
        rintro e w2 ⟨rfl, hb⟩
        have HQ2 := hide (HQ.out.on hb HQ.out.lt)
        have HB2 := hide (on_tr HB.out hb)
        clear hb
        have HX3 := hide (Two.new w2 S.n (S.d - 1) 24)
        have HQ3 := hide (HQ2.out.on ((Below.refl w2.heap.size w2).alloc (Nat.le_refl _) (.cells #[.int .i64 S.n, .int .i64 (S.d - 1)] 24)) HQ2.out.lt)
        have HB3 := hide (HB2.out.alloc HB2.out.size (.cells #[.int .i64 S.n, .int .i64 (S.d - 1)] 24))
        go_wp2_with fail
        generalize w2.alloc (.cells #[.int .i64 S.n, .int .i64 (S.d - 1)] 24) = w3 at HX3 HQ3 HB3 ⊢
        generalize w2.heap.size = hx at HX3 ⊢
        refine (HK.out _ (HT.out.on HB3.out)).mono ?_
        rintro e w4 ⟨rfl, hb⟩
        have HX4 := hide (HX3.out.on hb HX3.out.lt)
        have HQ4 := hide (HQ3.out.on hb HQ3.out.lt)
        have HB4 := hide (on_tr HB3.out hb)
        clear hb
        have c0 := HX4.out.c0
        have c1 := HX4.out.c1
        have c2 := HQ4.out.c0
        have c3 := HQ4.out.c1
        go_wp2_with fail
        refine (HSA.out _).mono ?_
        rintro e w5 ⟨rfl, hb⟩
        have HB5 := hide (on_tr HB4.out hb)
        clear hb
        go_wp2_with fail
        go_ret
        exact ⟨by first | rfl | simp, HB5.out⟩

end Go.Proofs.YtfappkhohddcjaaDoor
