/- api.Mark as data of our own, and what Extents makes of ticks and marks: plain lists. -/
import Derived.Test.YtajkmlejklgbbaaDec
import Derived.Test.YtajkmlejklgbbaaChk
namespace Go.Proofs.Ytajkmlejklgbbaa
open Go.RowKit

/-- a type all of whose cells are ints -/
def Ints (P : Program) (t : TypeId) : Prop :=
  ∀ (H : Type) (enc : TypeId × Value → H) (w : World) (fuel : Nat) (cs : List Value) (x : DataW H × List MemPlace),
    DataW.trod enc P w 0 (fun _ => true) true fuel t cs = some x → cs.length = P.cellsOf t ∧ ∀ (j : Nat) (c : Value), cs[j]? = some c → ∃ v : Int, c = .int .i64 v ∧ in64 v
theorem Ints.int {P : Program} {t : TypeId} (ht : P.underlying t = some (.int .i64)) (hc : P.cellsOf t = 1) : Ints P t := by
  intro H enc w fuel cs x h
  obtain ⟨n, rfl, _, hw⟩ := DataW.trod_int ht h
  refine ⟨hc.symm, fun j c hj => ⟨n, ?_, hw⟩⟩
  match j, hj with
  | 0, hj => exact (Option.some.inj hj).symm
theorem Ints.struct {P : Program} {t : TypeId} {fs : Array Field} (ht : P.underlying t = some (.struct fs))
    (hcov : (List.range (P.cellsOf t)).all (fun j => fs.toList.any fun f => decide (f.offset ≤ j) && decide (j < f.offset + P.cellsOf f.type)) = true)
    (hf : ∀ f ∈ fs.toList, Ints P f.type) : Ints P t := by
  intro H enc w fuel cs x h
  obtain ⟨xs, n, _, _, hl, hxl, hg⟩ := DataW.trod_struct ht h
  refine ⟨hl, fun j c hj => ?_⟩
  have hjl : j < P.cellsOf t := by rw [← hl]; exact (List.getElem?_eq_some_iff.1 hj).1
  have h1 := List.all_eq_true.1 hcov j (List.mem_range.2 hjl)
  obtain ⟨f, hfm, h2⟩ := List.any_eq_true.1 h1
  rw [Bool.and_eq_true, decide_eq_true_eq, decide_eq_true_eq] at h2
  obtain ⟨i, hi⟩ := List.getElem?_of_mem hfm
  have hix : i < xs.length := by rw [hxl]; simpa using (List.getElem?_eq_some_iff.1 hi).1
  have g := hg i f (by simpa using hi)
  rw [List.getElem?_eq_getElem hix] at g
  obtain ⟨_, hc⟩ := hf f hfm H enc w n _ _ g
  refine hc (j - f.offset) c ?_
  rw [List.getElem?_take, if_pos (by omega), List.getElem?_drop, ← hj]
  congr 1
  omega

structure Mk where
  (c i s f l g a b lf bt rt tp : Int)
def Mk.cells (m : Mk) : List Value := [.int .i64 m.c, .int .i64 m.i, .int .i64 m.s, .int .i64 m.f, .int .i64 m.l, .int .i64 m.g, .int .i64 m.a, .int .i64 m.b, .int .i64 m.lf, .int .i64 m.bt, .int .i64 m.rt, .int .i64 m.tp]
def mks (l : List Mk) : List Value := l.flatMap Mk.cells
def Mk.wf (_ : World) (m : Mk) : Prop := in64 m.f ∧ in64 m.l ∧ in64 m.lf ∧ in64 m.rt
theorem ints_int : Ints Try.prog 3 := Ints.int Try.underlying3 (by kernel_rfl)
theorem ints_id : Ints Try.prog 55 := Ints.struct Try.underlying55 (by kernel_rfl) (fun f hf => by
  simp only [List.mem_cons, List.not_mem_nil, or_false] at hf
  rcases hf with rfl | rfl <;> exact ints_int)
theorem ints_box : Ints Try.prog 57 := Ints.struct Try.underlying57 (by kernel_rfl) (fun f hf => by
  simp only [List.mem_cons, List.not_mem_nil, or_false] at hf
  rcases hf with rfl | rfl | rfl | rfl <;> exact ints_int)
theorem ints_mark : Ints Try.prog 59 := Ints.struct Try.underlying59 (by kernel_rfl) (fun f hf => by
  simp only [List.mem_cons, List.not_mem_nil, or_false] at hf
  rcases hf with rfl | rfl | rfl | rfl | rfl | rfl | rfl | rfl
  all_goals first | exact ints_int | exact ints_id | exact ints_box)
theorem dec_mark : Dec Try.prog 59 Mk.cells Mk.wf := by
  intro H enc w fuel cs x h
  obtain ⟨hl, hc⟩ := ints_mark H enc w fuel cs x h
  have h12 : Try.prog.cellsOf 59 = 12 := by kernel_rfl
  rw [h12] at hl
  match cs, hl with
  | [c0, c1, c2, c3, c4, c5, c6, c7, c8, c9, c10, c11], _ =>
    obtain ⟨a0, rfl, -⟩ := hc 0 _ rfl
    obtain ⟨a1, rfl, -⟩ := hc 1 _ rfl
    obtain ⟨a2, rfl, -⟩ := hc 2 _ rfl
    obtain ⟨a3, rfl, w3⟩ := hc 3 _ rfl
    obtain ⟨a4, rfl, w4⟩ := hc 4 _ rfl
    obtain ⟨a5, rfl, -⟩ := hc 5 _ rfl
    obtain ⟨a6, rfl, -⟩ := hc 6 _ rfl
    obtain ⟨a7, rfl, -⟩ := hc 7 _ rfl
    obtain ⟨a8, rfl, w8⟩ := hc 8 _ rfl
    obtain ⟨a9, rfl, -⟩ := hc 9 _ rfl
    obtain ⟨a10, rfl, w10⟩ := hc 10 _ rfl
    obtain ⟨a11, rfl, -⟩ := hc 11 _ rfl
    exact ⟨⟨a0, a1, a2, a3, a4, a5, a6, a7, a8, a9, a10, a11⟩, rfl, w3, w4, w8, w10⟩
theorem dec_marks : Dec Try.prog 52 (fun s : Sl Mk => [s.val]) (Sl.Good Mk.cells Mk.wf) :=
  Dec.slice Try.underlying52 (sz := 12) dec_mark (by kernel_rfl) (fun _ => rfl) (by omega)
theorem dec_ticks : Dec Try.prog 51 (fun s : Sl Int => [s.val]) (Sl.Good (fun x : Int => [Value.int .i64 x]) (fun _ x => in64 x)) :=
  Dec.slice Try.underlying51 (sz := 1) (Dec.int Try.underlying3) (by kernel_rfl) (fun _ => rfl) (by omega)

/-- the columns with given ticks -/
def tcols (ts : List Int) : List Col := ts.map fun t => ⟨0, 0, t⟩
theorem tcols_snoc (ts : List Int) (k : Nat) (t : Int) (h : ts[k]? = some t) : tcols (ts.take (k + 1)) = tcols (ts.take k) ++ [⟨0, 0, t⟩] := by
  rw [List.take_add_one, h, Option.toList_some, tcols, List.map_append]; rfl
theorem tcols_length (ts : List Int) : (tcols ts).length = ts.length := by simp [tcols]
/-- which marks are refused, n columns being there -/
def Mk.bad (n : Nat) (m : Mk) : Prop := m.f < 0 ∨ m.l < m.f ∨ (n : Int) ≤ m.l ∨ (m.f = m.l ∧ (m.lf < -65536 ∨ 65536 < m.rt))
instance Mk.decBad (n : Nat) (m : Mk) : Decidable (m.bad n) := by unfold Mk.bad; exact inferInstance
/-- what a mark makes of the columns -/
def wid (cs : List Col) (m : Mk) : List Col :=
  if m.f = m.l then
    match cs[m.f.toNat]? with
    | some c => cs.set m.f.toNat ⟨max c.l (-m.lf), max c.r m.rt, c.t⟩
    | none => cs
  else cs
def wids (M : List Mk) (cs : List Col) : List Col := M.foldl wid cs
theorem wid_length (cs : List Col) (m : Mk) : (wid cs m).length = cs.length := by
  unfold wid
  split
  · split <;> simp
  · rfl
theorem wids_snoc (M : List Mk) (cs : List Col) (k : Nat) (m : Mk) (h : M[k]? = some m) : wids (M.take (k + 1)) cs = wid (wids (M.take k) cs) m := by
  unfold wids
  rw [List.take_add_one, h, Option.toList_some, List.foldl_append]
  rfl
theorem wids_length (M : List Mk) (cs : List Col) : (wids M cs).length = cs.length := by
  unfold wids
  induction M generalizing cs with
  | nil => rfl
  | cons m M ih => rw [List.foldl_cons, ih, wid_length]
theorem wid_two {cs : List Col} {m : Mk} (h : m.f ≠ m.l) : wid cs m = cs := by rw [wid, if_neg h]
theorem wid_one {cs : List Col} {m : Mk} {c : Col} (h : m.f = m.l) (hc : cs[m.f.toNat]? = some c) : wid cs m = cs.set m.f.toNat ⟨max c.l (-m.lf), max c.r m.rt, c.t⟩ := by
  rw [wid, if_pos h, hc]
def tbad (t : Int) : Prop := t < 0 ∨ 15482880 < t
instance tbadDec (t : Int) : Decidable (tbad t) := by unfold tbad; exact inferInstance
/-- all is well -/
def extOk (ts : List Int) (M : List Mk) : Prop := (∀ t ∈ ts, ¬ tbad t) ∧ ∀ m ∈ M, ¬ m.bad ts.length

end Go.Proofs.Ytajkmlejklgbbaa
