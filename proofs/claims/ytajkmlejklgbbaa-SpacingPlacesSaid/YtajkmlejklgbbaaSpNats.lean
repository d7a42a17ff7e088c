/- spring.naturals. -/
import Derived.Test.YtajkmlejklgbbaaSpFind
import Derived.Test.YtajkmlejklgbbaaShelf
import Derived.Lib.OwnBridge
namespace Go.Proofs.Ytajkmlejklgbbaa
open Go.RowKit

/-- the natural lengths that are not 0, each one *)-/
structure Nats (l : List Spr) (ns : List Int) : Prop where
  sub : ∀ x ∈ ns, 0 < x ∧ ∃ s ∈ l, s.n = x
  sup : ∀ s ∈ l, 0 < s.n → s.n ∈ ns
  len : ns.length ≤ l.length

def rawN (l : List Spr) : List Int := (l.map Spr.n).filter fun x => decide (0 < x)
theorem rawN_take (l : List Spr) (k : Nat) (s : Spr) (h : l[k]? = some s) : rawN (l.take (k + 1)) = rawN (l.take k) ++ if 0 < s.n then [s.n] else [] := by
  unfold rawN
  rw [List.take_add_one, h, Option.toList_some, List.map_append, List.filter_append]
  congr 1
  by_cases hs : 0 < s.n
  · simp [hs]
  · simp [hs]
theorem rawN_len (l : List Spr) : (rawN l).length ≤ l.length := by
  unfold rawN
  exact Nat.le_trans (List.length_filter_le _ _) (by simp)

theorem compact_mem (zs : List Int) (x : Int) : x ∈ Go.Lib.compact zs ↔ x ∈ zs := by
  have hget : ∀ j, j < zs.length → zs.toArray[j]! = zs[j]! := by
    intro j hj
    rw [getElem!_pos _ j (by simpa using hj), getElem!_pos _ j hj]
    simp
  constructor
  · intro h
    unfold Go.Lib.compact Go.Lib.compactUpTo at h
    obtain ⟨j, hj, rfl⟩ := List.mem_map.1 h
    have hj := List.mem_range.1 (List.mem_filter.1 hj).1
    rw [hget j hj, getElem!_pos _ j hj]
    exact List.getElem_mem hj
  · intro h
    obtain ⟨j, hj, rfl⟩ := List.getElem_of_mem h
    have key : ∀ j, (hj : j < zs.length) → zs[j]! ∈ Go.Lib.compact zs := by
      intro j
      induction j with
      | zero =>
        intro hj
        unfold Go.Lib.compact Go.Lib.compactUpTo
        refine List.mem_map.2 ⟨0, List.mem_filter.2 ⟨List.mem_range.2 hj, by simp [Go.Lib.keeps]⟩, hget 0 hj⟩
      | succ j ih =>
        intro hj
        by_cases he : zs[j + 1]! = zs[j]!
        · rw [he]; exact ih (by omega)
        · unfold Go.Lib.compact Go.Lib.compactUpTo
          refine List.mem_map.2 ⟨j + 1, List.mem_filter.2 ⟨List.mem_range.2 hj, ?_⟩, hget _ hj⟩
          have h1 := hget (j + 1) hj
          have h2 := hget j (by omega)
          exact Go.Lib.keeps_pos (by rw [h1, Nat.add_sub_cancel, h2]; exact he)
    have := key j hj
    rwa [getElem!_pos _ j hj] at this
theorem compact_len (zs : List Int) : (Go.Lib.compact zs).length ≤ zs.length := Go.Lib.compact_length_le zs

theorem nats_of (l : List Spr) : Nats l (Go.Lib.compact ((rawN l).mergeSort fun x y => decide (x ≤ y))) := by
  have hmem : ∀ x, x ∈ Go.Lib.compact ((rawN l).mergeSort fun x y => decide (x ≤ y)) ↔ x ∈ rawN l := fun x => by rw [compact_mem]; exact List.mem_mergeSort
  refine ⟨fun x hx => ?_, fun s hs h0 => ?_, ?_⟩
  · have := (hmem x).1 hx
    unfold rawN at this
    obtain ⟨h1, h2⟩ := List.mem_filter.1 this
    obtain ⟨s, hs, rfl⟩ := List.mem_map.1 h1
    exact ⟨by simpa using h2, s, hs, rfl⟩
  · exact (hmem _).2 (List.mem_filter.2 ⟨List.mem_map.2 ⟨s, hs, rfl⟩, by simpa using h0⟩)
  · have h1 := compact_len ((rawN l).mergeSort fun x y => decide (x ≤ y))
    rw [List.length_mergeSort] at h1
    exact Nat.le_trans h1 (rawN_len l)

theorem below_grew {B : Nat} {w0 w : World} (h : Below B w0 w) (hB : B ≤ w.heap.size) (os : Array Obj) : Below B w0 (Go.Sort.grow w os) :=
  h.trans ⟨rfl, rfl, rfl, by simp [Go.Sort.grow], fun k hk => by simp only [Go.Sort.grow]; rw [Array.getElem?_append_left (by omega)]⟩

theorem int_ty : ElemTy Try.prog 51 3 1 8 :=
  ElemTy.of (z := .int .i64 0) Try.underlying51 (by kernel_rfl) rfl (by omega)

/-- what Compact leaves is a slice that holds the compacted list -/
theorem nats_left {w : World} {g q : Nat} {zs : List Int} (hH : Go.Sort.Holds (Value.int .i64) w g 0 zs.toArray) (hg : g < w.heap.size) :
    Rds (Go.Sort.putRow (Value.int .i64) (Go.Sort.ahead w q) g 0 (Go.Lib.compact zs ++ List.replicate (zs.length - (Go.Lib.compact zs).length) 0).toArray)
      (Go.Sort.putRow (Value.int .i64) (Go.Sort.ahead w q) g 0 (Go.Lib.compact zs ++ List.replicate (zs.length - (Go.Lib.compact zs).length) 0).toArray).heap.size (some ⟨g, 0, none⟩) ((Go.Lib.compact zs).map (Value.int .i64)) := by
  have hlen := compact_len zs
  have h2 := Go.Sort.holds_putRow (Value.int .i64) (Go.Sort.ahead w q) g 0 _ (Go.Lib.compact zs ++ List.replicate (zs.length - (Go.Lib.compact zs).length) 0).toArray (Go.Sort.holds_ahead _ w q g 0 _ hH) (by simp; omega)
  refine .inr ⟨g, 0, rfl, by simpa [Go.Sort.putRow, Go.Sort.mapBlock, Go.Sort.ahead] using hg, fun j u hu => ?_⟩
  rw [List.getElem?_map] at hu
  obtain ⟨x, hx, rfl⟩ := Option.map_eq_some_iff.1 hu
  obtain ⟨hj, hx⟩ := List.getElem?_eq_some_iff.1 hx
  have := (h2 j (by simp; omega)).1
  rw [this]
  rw [getElem!_pos _ j (by simp; omega)]
  simp only [List.getElem_toArray]
  rw [List.getElem_append_left hj, hx]

set_option maxRecDepth 100000 in
set_option maxHeartbeats 2000000 in
theorem naturals_any (A : Option Addr) (n c : Nat) (l : List Spr) (w : World) (hn : n = l.length) (hm : n ≤ 8192) (h : Rds w w.heap.size A (sprs l)) (hok : ∀ s ∈ l, s.ok) :
    Calls Try.prog 42 #[.slice A n c] w fun e w' => ∃ (A' : Option Addr) (c' : Nat) (ns : List Int), e = .returned (.slice A' ns.length c') ∧
      Rds w' w'.heap.size A' (ns.map (Value.int .i64)) ∧ Nats l ns ∧ Below w.heap.size w w' ∧ (∀ b off sp, A' = some ⟨b, off, sp⟩ → ns ≠ [] → w.heap.size ≤ b) := by
  have HN := hide hn
  have HOK := hide hok
  have HR := hide h
  clear hn hok h
  go_enter Try.func42, Try.ntmps42
  go_wp2_with fail
  go_loopg [3, 8] n (fun gk v i wr => ∃ k : Nat, k ≤ n ∧ i = .int .i64 k ∧ n ≤ gk + k ∧ wr.ownsRow w.heap.size 3 1 v (rawN (l.take k)).length ((rawN (l.take k)).map (Value.int .i64)) ∧ Below w.heap.size w wr)
  case atStart => exact ⟨0, Nat.zero_le _, rfl, by omega, World.ownsRow_nil _ _ _ _, Below.refl _ _⟩
  case round =>
    obtain ⟨k, hk, rfl, hgk, hown, hb⟩ := hrel
    have hsz := hb.size
    have hlr := rawN_len (l.take k)
    have hlk : (l.take k).length ≤ k := List.length_take_le _ _
    by_cases hlt : k < n
    · obtain ⟨x, hx⟩ : ∃ x, l[k]? = some x := ⟨_, List.getElem?_eq_getElem (by have := HN.out; omega)⟩
      obtain ⟨b, off, rfl, hbB, c0, c1⟩ := (HR.out.below hb).spr hx
      have hs := rawN_take l k x hx
      obtain ⟨m, hm2⟩ : ∃ m, m = (rawN (l.take k)).length := ⟨_, rfl⟩
      have HM := hide hm2
      rw [← hm2] at hown
      have hmb : m ≤ 8192 := by omega
      clear hm2 hlr hlk
      obtain ⟨A1, cc1, rfl, hA1, hcc1, hcc1m⟩ := own_form hown
      have HS := hide hs
      have HO := hide hown
      have HB := hide hb
      clear hx hown hb hs HR
      by_cases hpos : 0 < x.n
      · go_wp2_with (at_builtin; go_must (refine wpList_app rfl (.tmp 15) (.tmp 18) 51 rfl w.heap.size int_ty _ m ((rawN (l.take k)).map (Value.int .i64)) rfl ((HO.out.alloc _).alloc _) (wr.heap.size + 1 + 1) (some ⟨wr.heap.size + 1, 0, none⟩) 1 1 [.int .i64 x.n] rfl rfl ?_ (by simp; rfl) (by simp only [maxLen]; omega) (by omega) (by simp; omega) ?_); exact Rds.at_new (by simp) _ _; intro v' w3 o3 g3 b3)
        go_roundg (gk - 1)
        case measure => omega
        case rel =>
          refine ⟨k + 1, by omega, by go_num, by omega, ?_, grown_below (v := Value.slice A1 m cc1) ((HB.out.alloc hsz _).alloc (by simp; omega) _) ((HO.out.alloc _).alloc _) g3 (by simp; omega)⟩
          rw [HS.out, if_pos hpos, List.length_append, List.map_append, ← HM.out]
          exact o3
      · go_wp2_with fail
        go_roundg (gk - 1)
        case measure => omega
        case rel =>
          refine ⟨k + 1, by omega, by go_num, by omega, ?_, HB.out.alloc hsz _⟩
          rw [HS.out, if_neg (by omega), List.append_nil, ← HM.out]
          exact HO.out.alloc _
    · have hall : l.take k = l := List.take_of_length_le (by have := HN.out; omega)
      rw [hall] at hown hlr
      clear hall hlk
      obtain ⟨zs, hzs⟩ : ∃ zs, zs = rawN l := ⟨_, rfl⟩
      have hN := nats_of l
      rw [← hzs] at hown hlr hN
      obtain ⟨m, hm2⟩ : ∃ m, m = zs.length := ⟨_, rfl⟩
      rw [← hm2] at hown hlr
      rcases (show m = 0 ∨ 0 < m by omega) with h0 | h0
      · subst h0
        obtain rfl : zs = [] := List.eq_nil_of_length_eq_zero hm2.symm
        obtain ⟨A1, cc1, rfl, hA1, hcc1, hcc1m⟩ := own_form hown
        have HB := hide hb
        have HNS := hide hN
        clear hown hb hN hzs hm2 hlr
        go_wp2_with fail
        refine (Try.slices_Sort_int_none A1 cc1 _).mono ?_
        rintro e w2 ⟨rfl, rfl⟩
        go_wp2_with fail
        refine (Try.slices_Compact_int_empty A1 cc1 _).mono ?_
        rintro e w3 ⟨rfl, rfl⟩
        go_wp2_with fail
        go_ret
        exact ⟨A1, cc1, [], rfl, .inl rfl, (by have h := HNS.out; simp only [List.mergeSort_nil] at h; exact h), HB.out, fun _ _ _ _ h => absurd rfl h⟩
      · obtain ⟨A1, cc1, rfl, -, -, -⟩ := own_form hown
        have hv : Value.slice A1 m cc1 ≠ .slice none 0 0 := by
          intro e
          injection e with _ e2 _
          omega
        obtain ⟨g, cap, hvv, hbg, hgl, hncap, hcm, hlen, hH⟩ := Go.Lib.holds_of_ownsRow hown hv
        have hl2 : (zs.mergeSort fun x y => decide (x ≤ y)).length = m := by rw [List.length_mergeSort]; exact hlen
        have hlr8 : m ≤ 8192 := by have := HN.out; omega
        have hsort := Try.slices_Sort_int g 0 cap zs wr hH hgl (by omega)
        rw [hlen] at hsort
        have HSO := hide hsort
        have HH := hide hH
        have HB := hide hb
        have HNS := hide hN
        have HL2 := hide hl2
        clear hown hb hN hzs hm2 hlr hsort hH hv hlen hl2
        injection hvv with e1 _ e3
        subst e1
        subst e3
        go_wp2_with fail
        refine HSO.out.mono ?_
        rintro e w2 ⟨rfl, nn, os, rfl⟩
        have hg2 : g < (Go.Sort.grow (Go.Sort.putRow (Value.int .i64) (Go.Sort.ahead wr nn) g 0 (zs.mergeSort fun x y => decide (x ≤ y)).toArray) os).heap.size := by
          simp [Go.Sort.grow, Go.Sort.putRow, Go.Sort.mapBlock, Go.Sort.ahead]; omega
        have hH2 : Go.Sort.Holds (Value.int .i64) (Go.Sort.grow (Go.Sort.putRow (Value.int .i64) (Go.Sort.ahead wr nn) g 0 (zs.mergeSort fun x y => decide (x ≤ y)).toArray) os) g 0 (zs.mergeSort fun x y => decide (x ≤ y)).toArray :=
          Go.Sort.holds_grow _ _ os g 0 _ (by simpa [Go.Sort.putRow, Go.Sort.mapBlock, Go.Sort.ahead] using hgl) (Go.Sort.holds_putRow _ _ g 0 _ _ (Go.Sort.holds_ahead _ wr nn g 0 _ HH.out) (by simp))
        have hb2 : Below w.heap.size w (Go.Sort.grow (Go.Sort.putRow (Value.int .i64) (Go.Sort.ahead wr nn) g 0 (zs.mergeSort fun x y => decide (x ≤ y)).toArray) os) :=
          below_grew (Go.Lib.below_putRow HB.out hbg) (by simpa [Go.Sort.putRow, Go.Sort.mapBlock, Go.Sort.ahead] using hsz) os
        generalize Go.Sort.grow (Go.Sort.putRow (Value.int .i64) (Go.Sort.ahead wr nn) g 0 (zs.mergeSort fun x y => decide (x ≤ y)).toArray) os = w2 at hg2 hH2 hb2 ⊢
        generalize zs.mergeSort (fun x y => decide (x ≤ y)) = ys at hH2 HL2 HNS
        have hcomp := Try.slices_Compact_int g 0 cc1 ys w2 hH2 (by have := HL2.out; omega) (by have := HL2.out; omega)
        rw [HL2.out] at hcomp
        have HC := hide hcomp
        have H2 := hide hH2
        have HB2 := hide hb2
        clear hcomp hH2 hb2 HSO HH
        go_wp2_with fail
        refine HC.out.mono ?_
        rintro e w3 ⟨rfl, q, rfl⟩
        have hr3 := nats_left (q := q) H2.out hg2
        rw [HL2.out] at hr3
        have hb3 : Below w.heap.size w (Go.Sort.putRow (Value.int .i64) (Go.Sort.ahead w2 q) g 0 (Go.Lib.compact ys ++ List.replicate (m - (Go.Lib.compact ys).length) 0).toArray) := Go.Lib.below_putRow HB2.out hbg
        generalize Go.Sort.putRow (Value.int .i64) (Go.Sort.ahead w2 q) g 0 (Go.Lib.compact ys ++ List.replicate (m - (Go.Lib.compact ys).length) 0).toArray = w3 at hr3 hb3 ⊢
        have HR3 := hide hr3
        have HB3 := hide hb3
        clear hr3 hb3 HC H2 HB2
        go_wp2_with fail
        go_ret
        exact ⟨_, cc1, _, rfl, HR3.out, HNS.out, HB3.out, fun b off sp e _ => by injection e with e; injection e with e; omega⟩

end Go.Proofs.Ytajkmlejklgbbaa
