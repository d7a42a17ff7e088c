/- From a walk to a row: a law that returns true and leaves all that was there as it was; arguments opened by their types. -/
import Derived.Test.YtajkmlejklgbbaaBase
import Derived.ProofKit
import Derived.OpenShut
import Derived.Deep.Slices
import Derived.Deep.Fields
import Derived.ChangeSame
namespace Go.Proofs.Ytajkmlejklgbbaa
open Go.RowKit Go.ChangeShapes Go.WideShapes Go.ChangeAt Go.Deep

theorem own_ : ownKnob Try.prog.godebug = none := by kernel_rfl
theorem laid_out : laidOutB Try.prog = true := by kernel_rfl

section
variable {H : Type} {enc : TypeId × Value → H} {P : Program}
theorem trodAll_stays (hl : laidOutB P = true) {ts : List TypeId} (hts : ∀ t ∈ ts, P.readableRec t = true ∧ t < P.types.size) {W W' : World} {sp : Nat → Bool} :
    ∀ {vs : List Value} {ds : List (DataW H)} {ps : List MemPlace}, DataW.TrodAll enc P W 0 (fun _ => true) true ts vs ds ps → (∀ p ∈ ps, W.sameAt W' p) → (∀ p ∈ ps, sp p.block = true) →
      DataW.TrodAll enc P W' 0 sp true ts vs ds ps := by
  induction ts with
  | nil =>
    intro vs ds ps h _ _
    obtain ⟨rfl, rfl, rfl⟩ := trodAll_nil h
    exact trodAll_mk0
  | cons t ts ih =>
    intro vs ds ps h hs hp
    obtain ⟨v, vs', d, ds', p, q, rfl, rfl, rfl, h1, h2⟩ := trodAll_cons h
    have ht := hts t (by simp)
    exact trodAll_cons_mk (WideElems.Trod_stays hl ht.1 ht.2 h1 (fun x hx => hs x (by simp [hx])) fun x hx => hp x (by simp [hx]))
      (ih (fun t ht => hts t (by simp [ht])) h2 (fun x hx => hs x (by simp [hx])) fun x hx => hp x (by simp [hx]))

/-- the row's last step: the call returned true and below the old heap nothing has turned -/
theorem law_post {f : Func} {s : ChangeSpec} {fresh : Bool} {W W' : World} {args : Array Value} {ds gs : List (DataW H)} {before : List MemPlace} {tb : TypeId}
    (hl : laidOutB P = true) (hts : ∀ t ∈ f.params.toList, P.readableRec t = true ∧ t < P.types.size) (hr : f.resultTypes = #[tb]) (hb : P.underlying tb = some .bool)
    (hv : s.vars = []) (hs : s.fn H (ds ++ gs) = { results := [.lit (.bool true)], args := ds, vars := [] })
    (hW : DataW.Whole enc P f.params.toList s.vars false W args.toList ds gs before) (hbel : Below W.heap.size W W') :
    s.post enc P f false fresh false false W args (.bool true) W' := by
  have hlt : ∀ p ∈ before, p.block < W.heap.size := fun p hp => hW.lt p hp
  have hW0 := hW
  obtain ⟨p, q, hA, hV, hbe, hz, hn⟩ := hW0
  have hq : q = [] := by
    rw [hv] at hV
    exact (trodVars_none hV).2
  subst hq
  simp only [List.append_nil] at hbe
  subst hbe
  have hargs : ∀ sp : Nat → Bool, (∀ x ∈ before, sp x.block = true) → DataW.TrodAll enc P W' 0 sp true f.params.toList args.toList (s.fn H (ds ++ gs)).args before := by
    intro sp hsp
    rw [hs]
    exact trodAll_stays hl hts hA (fun x hx => hbel.same (hlt x hx)) hsp
  have hold : ∀ x ∈ before, (fun b => decide (b < W.heap.size)) x.block = true := fun x hx => by simpa using hlt x hx
  refine ⟨ds, gs, before, [], before, [], hW, ?_, hargs _ hold, ?_, ?_, fun h => by cases h⟩
  · rw [hs, hr]
    exact trodAll_cons_mk (shut_bool hb _) trodAll_mk0
  · rw [hs, hv]
    rfl
  · exact World.keptBut_mono (fun x hx => ⟨hx, Or.inr (Or.inl hx)⟩) (hbel.frame (· ∈ before))
end

/-- what a value of a type holds, read as data of our own -/
def Dec (P : Program) (t : TypeId) {α : Type} (f : α → List Value) (ok : World → α → Prop) : Prop :=
  ∀ (H : Type) (enc : TypeId × Value → H) (w : World) (fuel : Nat) (cs : List Value) (x : DataW H × List MemPlace),
    DataW.trod enc P w 0 (fun _ => true) true fuel t cs = some x → ∃ a, cs = f a ∧ ok w a

theorem Dec.int {P : Program} {t : TypeId} {k : IntKind} (ht : P.underlying t = some (.int k)) : Dec P t (fun n => [.int k n]) (fun _ n => (Lit.int k n).wf = true) := by
  intro H enc w fuel cs x h
  obtain ⟨n, rfl, _, hw⟩ := DataW.trod_int ht h
  exact ⟨n, rfl, hw⟩

theorem Dec.ints2 {P : Program} {t : TypeId} {f0 f1 : Field} (ht : P.underlying t = some (.struct #[f0, f1])) (hone : oneCellFields P #[f0, f1] = true) (hC : P.cellsOf t = 2)
    (h0 : P.underlying f0.type = some (.int .i64)) (h1 : P.underlying f1.type = some (.int .i64)) {α : Type} {f : α → List Value} {ok : World → α → Prop}
    (mk : ∀ w x0 x1, (Lit.int .i64 x0).wf = true → (Lit.int .i64 x1).wf = true → ∃ a, f a = [.int .i64 x0, .int .i64 x1] ∧ ok w a) : Dec P t f ok := by
  intro H enc w fuel cs x h
  obtain ⟨xs, n, _, _, hl, hxl, hg⟩ := DataW.trod_struct ht h
  rw [hC] at hl
  match cs, hl, xs, hxl with
  | [c0, c1], _, [z0, z1], _ =>
    obtain ⟨o0, k0⟩ := hone_of hone 0 f0 rfl
    have g0 := hg 0 f0 rfl
    rw [o0, k0] at g0
    obtain ⟨a0, e0, _, w0⟩ := DataW.trod_int h0 g0
    simp at e0
    obtain ⟨o1, k1⟩ := hone_of hone 1 f1 rfl
    have g1 := hg 1 f1 rfl
    rw [o1, k1] at g1
    obtain ⟨a1, e1, _, w1⟩ := DataW.trod_int h1 g1
    simp at e1
    obtain ⟨r, hr, hok⟩ := mk w a0 a1 w0 w1
    exact ⟨r, by rw [hr, e0, e1], hok⟩
theorem Dec.ints3 {P : Program} {t : TypeId} {f0 f1 f2 : Field} (ht : P.underlying t = some (.struct #[f0, f1, f2])) (hone : oneCellFields P #[f0, f1, f2] = true) (hC : P.cellsOf t = 3)
    (h0 : P.underlying f0.type = some (.int .i64)) (h1 : P.underlying f1.type = some (.int .i64)) (h2 : P.underlying f2.type = some (.int .i64)) {α : Type} {f : α → List Value} {ok : World → α → Prop}
    (mk : ∀ w x0 x1 x2, (Lit.int .i64 x0).wf = true → (Lit.int .i64 x1).wf = true → (Lit.int .i64 x2).wf = true → ∃ a, f a = [.int .i64 x0, .int .i64 x1, .int .i64 x2] ∧ ok w a) : Dec P t f ok := by
  intro H enc w fuel cs x h
  obtain ⟨xs, n, _, _, hl, hxl, hg⟩ := DataW.trod_struct ht h
  rw [hC] at hl
  match cs, hl, xs, hxl with
  | [c0, c1, c2], _, [z0, z1, z2], _ =>
    obtain ⟨o0, k0⟩ := hone_of hone 0 f0 rfl
    have g0 := hg 0 f0 rfl
    rw [o0, k0] at g0
    obtain ⟨a0, e0, _, w0⟩ := DataW.trod_int h0 g0
    simp at e0
    obtain ⟨o1, k1⟩ := hone_of hone 1 f1 rfl
    have g1 := hg 1 f1 rfl
    rw [o1, k1] at g1
    obtain ⟨a1, e1, _, w1⟩ := DataW.trod_int h1 g1
    simp at e1
    obtain ⟨o2, k2⟩ := hone_of hone 2 f2 rfl
    have g2 := hg 2 f2 rfl
    rw [o2, k2] at g2
    obtain ⟨a2, e2, _, w2⟩ := DataW.trod_int h2 g2
    simp at e2
    obtain ⟨r, hr, hok⟩ := mk w a0 a1 a2 w0 w1 w2
    exact ⟨r, by rw [hr, e0, e1, e2], hok⟩

/-- a slice as it comes in -/
structure Sl (α : Type) where
  A : Option Addr
  n : Nat
  c : Nat
  l : List α
def Sl.val {α : Type} (s : Sl α) : Value := .slice s.A s.n s.c
structure Sl.Good {α : Type} (f : α → List Value) (okw : World → α → Prop) (w : World) (s : Sl α) : Prop where
  len : s.n = s.l.length
  cap : s.n ≤ s.c
  max : s.c ≤ maxLen
  nil : s.A = none → s.c = 0
  rds : Rds w w.heap.size s.A (s.l.flatMap f)
  all : ∀ a ∈ s.l, okw w a

theorem Dec.slice {P : Program} {t e : TypeId} {α : Type} {f : α → List Value} {ok : World → α → Prop} {sz : Nat} (ht : P.underlying t = some (.slice e)) (he : Dec P e f ok)
    (hsz : P.cellsOf e = sz) (hf : ∀ a, (f a).length = sz) (hpos : 0 < sz) : Dec P t (fun s : Sl α => [s.val]) (Sl.Good f ok) := by
  intro H enc w fuel cs x h
  rcases Go.Deep.open_slice ht h with ⟨rfl, rfl⟩ | ⟨a, len, cap, m, n, D, Pl, rfl, hb, hl, hm, hmm, rfl, hx⟩
  · exact ⟨⟨none, 0, 0, []⟩, rfl, ⟨rfl, Nat.le_refl _, Nat.zero_le _, fun _ => rfl, .inl rfl, fun a h => by cases h⟩⟩
  · simp only [if_true] at hmm
    obtain rfl : cap = m := hmm.symm
    rw [hsz] at hx
    by_cases hl0 : len = 0
    · subst hl0
      exact ⟨⟨some a, 0, cap, []⟩, rfl, ⟨rfl, Nat.zero_le _, hm, (fun h => by cases h), .inl rfl, (fun a h => by cases h)⟩⟩
    obtain ⟨F, hF⟩ : ∃ F : Nat → α, ∀ i, i < len → w.cells? 0 (a.add (i * sz)) sz = some (f (F i)) ∧ ok w (F i) := by
      have hne : Nonempty α := by
        obtain ⟨cs', _, h2⟩ := hx 0 (by omega)
        obtain ⟨y, _⟩ := he _ _ _ _ _ _ h2
        exact ⟨y⟩
      have : ∀ i, ∃ y : α, i < len → w.cells? 0 (a.add (i * sz)) sz = some (f y) ∧ ok w y := by
        intro i
        by_cases hi : i < len
        · obtain ⟨cs', h1, h2⟩ := hx i (by omega)
          obtain ⟨y, rfl, hy⟩ := he _ _ _ _ _ _ h2
          exact ⟨y, fun _ => ⟨h1, hy⟩⟩
        · exact ⟨Classical.choice hne, fun h => absurd h hi⟩
      exact ⟨fun i => Classical.choose (this i), fun i hi => Classical.choose_spec (this i) hi⟩
    have hlen : ((List.range len).map F).length = len := by simp
    refine ⟨⟨some a, len, cap, (List.range len).map F⟩, rfl, ⟨hlen.symm, hl, hm, (fun h => by cases h), ?_, ?_⟩⟩
    · by_cases h0 : len = 0
      · subst h0; exact .inl rfl
      · have c0 := (hF 0 (by omega)).1
        obtain ⟨_, hl0, hat⟩ := World.cells?_some c0
        obtain ⟨b, off, sp⟩ := a
        have hc : ∀ i j, i < len → j < sz → w.cell? ((⟨b, off, sp⟩ : Addr).add (i * sz + j)) = (f (F i))[j]? := by
          intro i j hi hj
          obtain ⟨_, _, hat⟩ := World.cells?_some (hF i hi).1
          rw [← Go.Deep.add_add]
          exact hat j hj
        have h00 := hc 0 0 (by omega) hpos
        have hv0 : (f (F 0))[0]? = some ((f (F 0))[0]'(by rw [hf]; exact hpos)) := List.getElem?_eq_getElem _
        rw [hv0] at h00
        have hsp : sp = none := by simpa [Addr.add] using World.cell?_spot h00
        subst hsp
        have hbl : b < w.heap.size := by simpa [Addr.add] using World.block_lt_of_cell? w _ h00
        refine .inr ⟨b, off, rfl, hbl, fun j u hu => ?_⟩
        have hjl : j < len * sz := by
          have := (List.getElem?_eq_some_iff.1 hu).1
          rw [flat_length f sz hf, hlen] at this
          exact this
        have hj1 : j / sz < len := Nat.div_lt_of_lt_mul (by rw [Nat.mul_comm]; exact hjl)
        have hj2 : j % sz < sz := Nat.mod_lt _ hpos
        have hj3 : j / sz * sz + j % sz = j := by rw [Nat.mul_comm]; exact Nat.div_add_mod j sz
        have hk : ((List.range len).map F)[j / sz]? = some (F (j / sz)) := by simp [hj1]
        have := flat_get f sz hf _ (j / sz) (j % sz) _ hk hj2
        rw [hj3] at this
        dsimp only at hu
        rw [this] at hu
        have hcc := hc (j / sz) (j % sz) hj1 hj2
        rw [hj3, Go.WideShapes.add_plain] at hcc
        rw [hcc]
        exact hu
    · intro y hy
      simp only [List.mem_map, List.mem_range] at hy
      obtain ⟨i, hi, rfl⟩ := hy
      exact (hF i hi).2

section
variable {H : Type} {enc : TypeId × Value → H} {P : Program} {w : World}
theorem open_sl {α : Type} {f : α → List Value} {ok : World → α → Prop} {r : Reach} {b0 : Nat} {t e : TypeId} {v : Value} {d : DataW H} {p : List MemPlace} (ht : P.underlying t = some (.slice e))
    (hD : Dec P t (fun s : Sl α => [s.val]) (Sl.Good f ok)) (hv : Value.okWide P w r b0 t v) (h : DataW.Trod enc P w 0 (fun _ => true) true t v d p) :
    ∃ s : Sl α, v = .slice s.A s.n s.c ∧ Sl.Good f ok w s := by
  obtain ⟨a, len, cap, rfl⟩ := okWide_slice ht hv
  obtain ⟨fuel, hf⟩ := h
  obtain ⟨s, hs, hok⟩ := hD _ _ _ _ _ _ hf
  refine ⟨s, ?_, hok⟩
  have : [Value.slice a len cap] = [s.val] := hs
  simpa [Sl.val] using this
theorem open_st {α : Type} {f : α → List Value} {ok : World → α → Prop} {r : Reach} {b0 : Nat} {t : TypeId} {fs : Array Field} {v : Value} {d : DataW H} {p : List MemPlace} (ht : P.underlying t = some (.struct fs))
    (hD : Dec P t f ok) (hv : Value.okWide P w r b0 t v) (h : DataW.Trod enc P w 0 (fun _ => true) true t v d p) :
    ∃ a : α, v = .agg (f a).toArray ∧ ok w a := by
  obtain ⟨cs, rfl, _⟩ := okWide_struct ht hv
  obtain ⟨fuel, hf⟩ := h
  obtain ⟨a, ha, hok⟩ := hD _ _ _ _ _ _ hf
  refine ⟨a, ?_, hok⟩
  have : cs.toList = f a := ha
  rw [← this]
end

end Go.Proofs.Ytajkmlejklgbbaa
