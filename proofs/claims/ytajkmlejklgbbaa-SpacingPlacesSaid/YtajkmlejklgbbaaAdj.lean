/- How least distances lengthen springs: plain lists. -/
import Derived.Test.YtajkmlejklgbbaaSprA
namespace Go.Proofs.Ytajkmlejklgbbaa
open Go.RowKit

def sumM (l : List Spr) : Int := (l.map Spr.m).sum
def adj (out : List Spr) (x : Lst) : List Spr :=
  match out[x.l.toNat - 1]? with
  | some s => out.set (x.l.toNat - 1) ⟨s.n, s.m + max 0 (x.d - sumM ((out.drop x.f.toNat).take (x.l.toNat - x.f.toNat)))⟩
  | none => out
def adjs (M : List Lst) (out : List Spr) : List Spr := M.foldl adj out

theorem adj_length (out : List Spr) (x : Lst) : (adj out x).length = out.length := by
  unfold adj; split <;> simp
theorem adjs_length (M : List Lst) (out : List Spr) : (adjs M out).length = out.length := by
  unfold adjs
  induction M generalizing out with
  | nil => rfl
  | cons x M ih => rw [List.foldl_cons, ih, adj_length]
theorem adjs_snoc (M : List Lst) (out : List Spr) (k : Nat) (x : Lst) (hx : M[k]? = some x) : adjs (M.take (k + 1)) out = adj (adjs (M.take k) out) x := by
  unfold adjs
  rw [List.take_add_one, hx, Option.toList_some, List.foldl_append]
  rfl

theorem adj_eq {out : List Spr} {F G : Nat} {d : Int} {y : Spr} {S m : Int} (hy : out[G - 1]? = some y) (hS : S = sumM ((out.drop F).take (G - F))) (hm : m = y.m + max 0 (d - S)) :
    adj out ⟨F, G, d⟩ = out.set (G - 1) ⟨y.n, m⟩ := by
  unfold adj
  simp only [Int.toNat_natCast, hy]
  rw [← hS, hm]

/-- all minimal lengths lie in a range -/
def Bnd (out : List Spr) : Prop := ∀ s ∈ out, 0 ≤ s.m ∧ s.m ≤ 132096
theorem sumM_nil : sumM [] = 0 := rfl
theorem sumM_cons (s : Spr) (l : List Spr) : sumM (s :: l) = s.m + sumM l := by simp [sumM]
theorem sumM_append (l l' : List Spr) : sumM (l ++ l') = sumM l + sumM l' := by simp [sumM]
theorem sumM_bnd (l : List Spr) (h : Bnd l) : 0 ≤ sumM l ∧ sumM l ≤ 132096 * l.length := by
  induction l with
  | nil => simp [sumM]
  | cons s l ih =>
    have h1 := h s (by simp)
    have h2 := ih fun x hx => h x (by simp [hx])
    rw [sumM_cons, List.length_cons]
    omega
theorem Bnd.take {l : List Spr} (h : Bnd l) (k : Nat) : Bnd (l.take k) := fun s hs => h s (List.mem_of_mem_take hs)
theorem Bnd.drop {l : List Spr} (h : Bnd l) (k : Nat) : Bnd (l.drop k) := fun s hs => h s (List.mem_of_mem_drop hs)
theorem sumM_mem (l : List Spr) (h : Bnd l) (s : Spr) (hs : s ∈ l) : s.m ≤ sumM l := by
  induction l with
  | nil => simp at hs
  | cons t l ih =>
    have h1 := h t (by simp)
    have h2 : Bnd l := fun x hx => h x (by simp [hx])
    have h3 := (sumM_bnd l h2).1
    rw [sumM_cons]
    rcases List.mem_cons.1 hs with rfl | hs
    · omega
    · have := ih h2 hs; omega
theorem adj_bnd {out : List Spr} (h : Bnd out) {x : Lst} {m : Nat} (hx : x.ok m) : Bnd (adj out x) := by
  obtain ⟨h0, h1, h2, h3, h4⟩ := Lst.ok_of hx
  unfold adj
  split
  · rename_i s hs
    intro t ht
    rcases List.mem_or_eq_of_mem_set ht with ht | rfl
    · exact h t ht
    · have hb := h s (List.mem_of_getElem? hs)
      have hm : s ∈ (out.drop x.f.toNat).take (x.l.toNat - x.f.toNat) := by
        refine List.mem_of_getElem? (i := x.l.toNat - 1 - x.f.toNat) ?_
        rw [List.getElem?_take, if_pos (by omega), List.getElem?_drop, ← hs]
        congr 1
        omega
      have := sumM_mem _ ((h.drop _).take _) s hm
      dsimp only
      omega
  · exact h
theorem adjs_bnd {out : List Spr} (h : Bnd out) {M : List Lst} {m : Nat} (hM : ∀ x ∈ M, x.ok m) : Bnd (adjs M out) := by
  unfold adjs
  induction M generalizing out with
  | nil => exact h
  | cons x M ih => exact ih (adj_bnd h (hM x (by simp))) fun y hy => hM y (by simp [hy])

theorem bub_mem (j : Nat) (L : List Lst) : ∀ x ∈ bub j L, x ∈ L := by
  induction j generalizing L with
  | zero => exact fun x hx => hx
  | succ j ih =>
    intro x hx
    rw [bub] at hx
    split at hx
    · rename_i a b ha hb
      split at hx
      · have := ih _ x hx
        rcases List.mem_or_eq_of_mem_set this with h | rfl
        · rcases List.mem_or_eq_of_mem_set h with h | rfl
          · exact h
          · exact List.mem_of_getElem? hb
        · exact List.mem_of_getElem? ha
      · exact hx
    · exact hx
theorem srtN_mem (m i : Nat) (L : List Lst) : ∀ x ∈ srtN m i L, x ∈ L := by
  induction m generalizing i L with
  | zero => exact fun x hx => hx
  | succ m ih => intro x hx; exact bub_mem _ _ x (ih _ _ x hx)
theorem srt_mem (L : List Lst) : ∀ x ∈ srt L, x ∈ L := srtN_mem _ _ _
theorem srtN_length (m i : Nat) (L : List Lst) : (srtN m i L).length = L.length := by
  induction m generalizing i L with
  | zero => rfl
  | succ m ih => rw [srtN, ih, bub_length]
theorem srt_length (L : List Lst) : (srt L).length = L.length := srtN_length _ _ _

end Go.Proofs.Ytajkmlejklgbbaa
