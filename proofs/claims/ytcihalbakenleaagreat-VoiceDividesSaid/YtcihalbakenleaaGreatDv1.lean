/- Part 1 of what the statements need: lemmas and walks. -/
import Derived.Test.YtcihalbakenleaaGreatRows
import Derived.WalkKit
import Derived.WalkSpells
import Derived.WalkLawsBesides
import Derived.Handy
import Derived.Deep.AppendLies
import Derived.Deep.Draws
import Derived.Maps.AppendAt
import Derived.Deep.QuietTactic
import Derived.BigQuiet
import Derived.Deep.RegionHeld3
import Derived.Deep.RegionWith
import Derived.Deep.DeepCutAuto
import Derived.Deep.LoopGhost
import Derived.BigRegion
set_option linter.unusedVariables false
namespace Go.Proofs.YtcihalbakenleaaGreat
theorem R.{u} {α : Sort u} {a : α} : a = a := rfl
theorem lb {a b : Nat} (h : Nat.ble a b = true := by exact rfl) : a ≤ b := Nat.le_of_ble_eq_true h
open Go.RowKit
def Rds (w : World) (B : Nat) (A : Option Addr) (xs : List Value) : Prop :=
 xs = [] ∨ ∃ b off, A = some ⟨b, off, none⟩ ∧ b < B ∧ ∀ j u, xs[j]? = some u → w.cell? ⟨b, off + j, none⟩ = some u
section
variable {w w' : World} {B B' : Nat} {A : Option Addr} {xs : List Value}
end
section
variable {α : Type} (f : α → List Value) (sz : Nat)
end
def ElemTy (P : Program) (t e : TypeId) (size bytes : Nat) : Prop :=
 P.underlying t = some (.slice e) ∧ 0 < size ∧ ∃ i z, P.info? e = some i ∧ i.zero = some z ∧ i.size = size ∧ i.bytes = bytes ∧ z.cells.size = size
theorem ElemTy.of {P : Program} {t e : TypeId} {z : Value} {size bytes : Nat} (ht : P.underlying t = some (.slice e))
  (h : (P.info? e).map (fun i => (i.zero, i.size, i.bytes)) = some (some z, size, bytes)) (hz : z.cells.size = size) (hs : 0 < size) : ElemTy P t e size bytes := by
 obtain ⟨i, h1, h2, h3, h4⟩ := info_parts h
 exact ⟨ht, hs, i, z, h1, h2, h3, h4, hz⟩
section
variable {P : Program} {w : World}
theorem Xi (base : Nat) {t ty e : TypeId} {size bytes : Nat} (T : ElemTy P t e size bytes) {v : Value} {n : Nat} {xs : List Value}
  (hown : w.ownsRow base e size v n xs) (c : Nat) : (Builtin.append_ #[t, t] ty #[v, .slice none 0 c]).run P w = .ok v w := by
 obtain ⟨ht, _, i, z, hi, _⟩ := T
 rcases hown.2 with ⟨rfl, rfl⟩ | ⟨g, cap, cur, rfl, _, _, hnc, _⟩
 ·simp [Builtin.append_, run_underlying ht, sizeOf, typeInfo, hi, Builtin.lenOf, Builtin.firstCells]
 ·simp [Builtin.append_, run_underlying ht, sizeOf, typeInfo, hi, Builtin.lenOf, Builtin.firstCells, hnc, storeCells]
theorem Ad1 (base : Nat) {t ty e : TypeId} {size bytes : Nat} (T : ElemTy P t e size bytes) {v : Value} {n : Nat} {xs : List Value}
  (hown : w.ownsRow base e size v n xs) {B : Nat} {A : Option Addr} {m : Nat} (c : Nat) {news : List Value} (hl : news.length = m * size) (hr : Rds w B A news)
  (h1 : ∀ u ∈ news, u.oneCell' = true) (h63 : n + m ≤ maxLen) (hbytes : (n + m) * bytes ≤ 140737488355328) (hbase : base ≤ w.heap.size) :
  ∃ v' w', (Builtin.append_ #[t, t] ty #[v, .slice A m c]).run P w = .ok v' w' ∧ w'.ownsRow base e size v' (n + m) (xs ++ news) ∧ w.grownBy w' v.ownBlock ∧
   (v'.ownBlock = v.ownBlock ∨ v'.ownBlock = some w.heap.size) := by
 have T' := T
 obtain ⟨ht, hs, i, z, hi, hz, hz1, hz2, hz3⟩ := T'
 have two : news = [] → m = 0 := by
  rintro rfl
  have := hl.symm
  simp only [List.length_nil, Nat.mul_eq_zero] at this
  omega
 rcases A with _ | ad
 ·have hn : news = [] := by
   rcases hr with h | ⟨_, _, h, _⟩
   ·exact h
   ·cases h
  have hm := two hn
  subst hn hm
  exact ⟨v, w, Xi base T hown c, by simpa using hown, ⟨rfl, rfl, rfl, Nat.le_refl _, fun _ _ _ => rfl⟩, .inl rfl⟩
 ·have hcells : ∀ j u, news[j]? = some u → w.cell? (ad.add j) = some u := by
   intro j u hu
   rcases hr with h | ⟨b, off, h, _, hc⟩
   ·subst h; simp at hu
   ·injection h with h
    subst h
    rw [Go.WideShapes.add_plain]
    exact hc j u hu
  obtain ⟨v', w', hrun, h2, h3, _, h5⟩ := run_append_own_at (P := P) w base t ty e i z size bytes ht hi hz hz1 hz2 hz3 hs v n xs hown ad m c news hl hcells h1 h63 hbytes hbase
  exact ⟨v', w', hrun, h2, h3, h5⟩
end
section
variable {w w' : World} {base e size n cap : Nat} {v : Value} {xs : List Value}
theorem Rds.own {A : Option Addr} (h : w.ownsRow base e size (.slice A n cap) n xs) : Rds w w.heap.size A xs := by
 rcases Nat.eq_zero_or_pos n with h0 | h0
 ·subst h0
  have h1 := h.1
  rw [Nat.zero_mul] at h1
  exact .inl (List.eq_nil_of_length_eq_zero h1)
 ·obtain ⟨g, cap', hv, _, hlt⟩ := h.form h0
  injection hv with hA
  subst hA
  refine .inr ⟨g, 0, rfl, hlt, fun j u hu => ?_⟩
  have := h.cells (g := g) rfl j u hu
  rw [Go.WideShapes.add_plain] at this
  exact this
theorem Ry (h : w.ownsRow base e size v n xs) : ∃ A c, v = .slice A n c ∧ (A = none → c = 0) ∧ n ≤ c ∧ c ≤ maxLen := by
 rcases h.2 with ⟨rfl, rfl⟩ | ⟨g, cap, cur, rfl, _, _, h1, h2, _⟩
 ·exact ⟨none, 0, rfl, fun _ => rfl, Nat.le_refl _, by simp only [maxLen]; omega⟩
 ·exact ⟨_, cap, rfl, fun h => by simp at h, h1, h2⟩
end
section
variable {α : Type} (f : α → List Value)
end
section
variable {w : World} {base e g n cap : Nat} {α : Type} {f : α → List Value}
end
end Go.Proofs.YtcihalbakenleaaGreat
