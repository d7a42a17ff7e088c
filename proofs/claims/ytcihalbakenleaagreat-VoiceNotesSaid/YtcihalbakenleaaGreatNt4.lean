/- Part 4 of what the statements need: lemmas and walks. -/
import Derived.Laws.StructEq
import Derived.Test.YtcihalbakenleaaGreatNt3
set_option linter.unusedVariables false
set_option maxRecDepth 20000
set_option maxHeartbeats 8000000
namespace Go.Proofs.YtcihalbakenleaaGreat
open Go.RowKit
section
variable {P : Program} {n : Nat} {f : Fr} {h : Xh}
theorem RV.cells {a t m i : Nat} {l : List S} {ds : List D} (ha : Nat.blt a n = true) (hf : f a = .ptr i 0 0) (hi : h i = some (.box l)) (hs : aggB P t m = true) (hm : m ≤ l.length) (hd : datas (l.take m) = some ds) : RV P n f h (.cell a t) (.agg ds) := fun E H β act w hsim hfv => by
 have g := hfv.slot a (blt_lt ha)
 rw [hf] at g
 obtain ⟨L, h1, h2⟩ := vs_ptr g
 rw [Nat.zero_mul, Nat.zero_add] at h2
 have hp : Pure P ⟨none, .load t (.tmp 0), t, "", #[], none⟩ (fun _ => .ptr i 0 0) h (.agg ((l.drop 0).take m)) := p_load_boxs rfl rfl hs hi (by omega)
 obtain ⟨u, r1, r2⟩ := hp E H β (fun _ => act.tmps.getD a undef) w hsim (fun x _ => by rw [h2]; have := VS.ptr (H := H) 0 0 h1; rw [Nat.zero_mul, Nat.zero_add] at this; exact this)
 rw [load_run rfl h2] at r1
 refine ⟨u, ?_, ?_⟩
 ·unfold rvRun
  simp only [Sem.run_bind, h2, asAddr, Sem.run_pure, Result.andThen_ok]
  generalize (loadVar t ⟨L.b, 0, none⟩).run P w = r at r1
  cases r with
  | ok v w' => simp only [Result.andThen_ok, Result.ok.injEq, Next.value.injEq] at r1; obtain ⟨rfl, rfl⟩ := r1; rfl
  | halt x w' => simp [Result.andThen] at r1
 ·have := r2.norm
  rw [List.drop_zero] at this
  unfold norm at this
  simp only [hd] at this
  exact vs_d this
end
theorem k_round {α : Type} {n : Nat} {I : α → Prop} {F : α → Fr} {G : α → Xh} {μ : α → Nat} {x : α} {K : Kont} {f : Fr} {h : Xh} (x' : α) (h1 : I x') (h2 : μ x' < μ x) (h3 : FSub n f (F x')) (h4 : HSub h (G x')) :
  kthen (fun f' h' => ∃ x', I x' ∧ μ x' < μ x ∧ FSub n f' (F x') ∧ HSub h' (G x')) K .normal f h := ⟨x', h1, h2, h3, h4⟩
section
variable {P : Program} {n : Nat} {ops : Array Oper} {rest : List Oper} {K : Kont} {f : Fr} {h : Xh} {o : Oper} {F : FuncId} {ds : List D} {args : Array Operand} {tys : Array TypeId} {r : D}
theorem XL.call1 (ho : o.op = .call { callee := .value (.func F), args := args, argTypes := tys }) (hw : wantB ops f n o.guard = some true) (hx : XC P F ds (fun d => d = r))
  (ha : args.toList.map (ev f) = ds.map S.d) (hr : XL P n ops rest K (fput f o.dst (.d r)) h) : XL P n ops (o :: rest) K f h :=
 XL.call ho hw hx ha (by rintro _ rfl; exact hr)
theorem XL.callv1 {x : Operand} {ps cs : List D} (ho : o.op = .call { callee := .value x, args := args, argTypes := tys }) (hw : wantB ops f n o.guard = some true) (hxe : ev f x = .d (.fn F ps cs))
  (hx : XC P F (ps ++ ds ++ cs) (fun d => d = r)) (ha : args.toList.map (ev f) = ds.map S.d) (hr : XL P n ops rest K (fput f o.dst (.d r)) h) : XL P n ops (o :: rest) K f h :=
 XL.callv ho hw hxe hx ha (by rintro _ rfl; exact hr)
end
section
variable {P : Program} {o : Oper} {e : Operand → S} {h : Xh}
theorem p_notdec {t : TypeId} {x : Operand} {p : Prop} [Decidable p] (ho : o.op = .unOp .not t x) (hx : e x = .d (.v (.bool (decide p)))) : Pure P o e h (.d (.v (.bool (decide (¬ p))))) := by
 have := p_not (P := P) (h := h) ho hx
 rwa [← decide_not] at this
/-- structs compared: their cells, plain values -/
def plains : List D → Option (List Value)
 | [] => some []
 | .v x :: l => match plains l with | some vs => some (x :: vs) | none => none
 | _ :: _ => none
theorem plains_spec : ∀ {l : List D} {vs : List Value}, plains l = some vs → l = vs.map D.v
 | [], vs, h => by cases h; rfl
 | .v x :: l, vs, h => by
  unfold plains at h
  cases hd : plains l with
  | none => rw [hd] at h; cases h
  | some vs' => rw [hd] at h; cases h; rw [List.map_cons, ← plains_spec hd]
theorem vd_plains {H : Hp} {u : Value} {l : List D} {vs : List Value} (hv : VD H u (.agg l)) (hp : plains l = some vs) : u = .agg vs.toArray := by
 obtain ⟨cs, rfl, h1, h2⟩ := vd_agg hv
 have := plains_spec hp
 subst this
 congr 1
 apply Array.ext'
 refine List.ext_getElem? fun i => ?_
 by_cases hi : i < cs.size
 ·have hc : cs[i]? = some cs[i] := Array.getElem?_eq_getElem hi
  rw [List.length_map] at h1
  have hl : vs[i]? = some vs[i] := List.getElem?_eq_getElem (by omega)
  have := vd_v (h2 i _ (.v vs[i]) hc (by rw [List.getElem?_map, hl]; rfl))
  rw [Array.getElem?_toList, hc, this]
  simp [hl]
 ·rw [List.length_map] at h1
  rw [List.getElem?_eq_none (by simpa using hi), List.getElem?_eq_none (by simp; omega)]
theorem p_binagg {op : BinOp} {t t' : TypeId} {x y : Operand} {la lb : List D} {va vb : List Value} {r : Value} (ho : o.op = .binOp op t x y t') (hx : e x = .d (.agg la)) (hy : e y = .d (.agg lb)) (ha : plains la = some va) (hb : plains lb = some vb)
  (hg : P.eqGuardType P.depth t = false) (hr : ∀ w, (binOp op t (.agg va.toArray) (.agg vb.toArray)).run P w = .ok r w) : Pure P o e h (.d (.v r)) := fun E H β ρ w _ hop => by
 have g1 := hop x (by rw [ho]; simp [Op.operands])
 have g2 := hop y (by rw [ho]; simp [Op.operands])
 rw [hx] at g1
 rw [hy] at g2
 refine ⟨r, ?_, .d (.v _)⟩
 unfold execOp
 simp only [ho, vd_plains (vs_d g1) ha, vd_plains (vs_d g2) hb, Sem.run_bind, run_eqGuard_agg w op t x y va.toArray vb.toArray hg, Result.andThen_ok, hr, Sem.run_pure]
/-- an array's element in a variable -/
theorem p_idx_arr {t m k i off : Nat} {x y : Operand} {el : TypeId} {ik : IntKind} (ho : o.op = .indexAddr t x y) (hx : e x = .ptr i 0 off) (hy : e y = .d (.v (.int ik k))) (hu : P.underlying t = some (.array m el)) (hz : sizeB P el 1 = true) (hk : k < m) : Pure P o e h (.ptr i 0 (off + k)) := fun E H β ρ w _ hop => by
 have g := hop x (by rw [ho]; simp [Op.operands])
 have g2 := hop y (by rw [ho]; simp [Op.operands])
 rw [hx] at g
 rw [hy] at g2
 obtain ⟨L, h1, h2⟩ := vs_ptr g
 have hlt : (0 : Int) ≤ (k : Int) ∧ (k : Int) < (m : Int) := ⟨by omega, by omega⟩
 refine ⟨.pointer (some ⟨L.b, 0 * L.sz + (off + k), none⟩), ?_, .ptr 0 (off + k) h1⟩
 unfold execOp
 simp only [ho, h2, vs_v g2, Instr.indexAt, asIntOf, Instr.sureAddr, Sem.run_bind, run_underlying hu, Result.andThen_ok, Sem.run_pure, hlt, and_self, if_true, sizeB.run hz, Int.toNat_natCast, Nat.mul_one]
 rw [Go.WideShapes.add_plain, Nat.add_assoc]
end
end Go.Proofs.YtcihalbakenleaaGreat
namespace Go.Proofs.YtcihalbakenleaaGreat
open Go.RowKit
def iv (k : Int) : List D := [.v (.int .i64 k)]
def ints (l : List Int) : List (List D) := l.map iv
structure Pit where
 step : Int
 alter : Int
 oct : Int
 deriving DecidableEq
def Pit.c (p : Pit) : List D := [.v (.int .i64 p.step), .v (.int .i64 p.alter), .v (.int .i64 p.oct)]
structure Hd where
 p : Pit
 tied : Bool
 sh : Int
 deriving DecidableEq
def Hd.c (h : Hd) : List D := [.v (.int .i64 h.p.step), .v (.int .i64 h.p.alter), .v (.int .i64 h.p.oct), .v (.bool h.tied), .v (.int .i64 h.sh)]
structure Gr where
 p : Pit
 log : Int
 slash : Bool
 deriving DecidableEq
def Gr.c (g : Gr) : List D := [.v (.int .i64 g.p.step), .v (.int .i64 g.p.alter), .v (.int .i64 g.p.oct), .v (.int .i64 g.log), .v (.bool g.slash)]
structure Sy where
 text : List UInt8
 link : Int
 deriving DecidableEq
def Sy.c (s : Sy) : List D := [.v (.string ⟨s.text.toArray⟩), .v (.int .i64 s.link)]
structure Val where
 log : Int
 dots : Int
 deriving DecidableEq
def Val.c (v : Val) : List D := [.v (.int .i64 v.log), .v (.int .i64 v.dots)]
structure Ev where
 site : Int
 num : Int
 kind : Int
 v : Val
 heads : List Hd
 graces : List Gr
 art : Int
 orn : Int
 dyn : Int
 lyr : List Sy
 stem : Int
 beam : Int
def hdsD (l : List Hd) : D := .sl 5 (l.map Hd.c)
def grsD (l : List Gr) : D := .sl 5 (l.map Gr.c)
def sysD (l : List Sy) : D := .sl 2 (l.map Sy.c)
def Ev.c (e : Ev) : List D := [.v (.int .i64 e.site), .v (.int .i64 e.num), .v (.int .i64 e.kind), .v (.int .i64 e.v.log), .v (.int .i64 e.v.dots), .sl 5 (e.heads.map Hd.c), .sl 5 (e.graces.map Gr.c),
 .v (.int .i64 e.art), .v (.int .i64 e.orn), .v (.int .i64 e.dyn), .sl 2 (e.lyr.map Sy.c), .v (.int .i64 e.stem), .v (.int .i64 e.beam)]
structure Tp where
 first : Int
 count : Int
 actual : Int
 normal : Int
 deriving DecidableEq
def Tp.c (t : Tp) : List D := [.v (.int .i64 t.first), .v (.int .i64 t.count), .v (.int .i64 t.actual), .v (.int .i64 t.normal)]
structure Vo where
 evs : List Ev
 tups : List Tp
def Vo.c (v : Vo) : List D := [.sl 13 (v.evs.map Ev.c), .sl 4 (v.tups.map Tp.c)]
structure Me where
 count : Int
 unit : Int
 g0 : Int
 g1 : Int
 g2 : Int
 g3 : Int
 g4 : Int
 g5 : Int
 deriving DecidableEq
def Me.gs (m : Me) : List Int := [m.g0, m.g1, m.g2, m.g3, m.g4, m.g5]
def Me.c (m : Me) : List D := [.v (.int .i64 m.count), .v (.int .i64 m.unit), .v (.int .i64 m.g0), .v (.int .i64 m.g1), .v (.int .i64 m.g2), .v (.int .i64 m.g3), .v (.int .i64 m.g4), .v (.int .i64 m.g5)]
structure Pl where
 m : Me
 off : Int
 len : Int
def Pl.c (p : Pl) : List D := [.v (.int .i64 p.m.count), .v (.int .i64 p.m.unit), .v (.int .i64 p.m.g0), .v (.int .i64 p.m.g1), .v (.int .i64 p.m.g2), .v (.int .i64 p.m.g3), .v (.int .i64 p.m.g4), .v (.int .i64 p.m.g5), .v (.int .i64 p.off), .v (.int .i64 p.len)]
theorem drop_cons {α : Type} {l : List α} {k : Nat} {x : α} (h : l[k]? = some x) : l.drop k = x :: l.drop (k + 1) := by
 obtain ⟨hk, e⟩ := List.getElem?_eq_some_iff.1 h
 rw [← e]; exact List.drop_eq_getElem_cons hk
theorem text_list (l : List UInt8) : (ByteArray.mk l.toArray).toList = l := by rw [ByteArray.toList_eq]
theorem text_get {l : List UInt8} {k : Nat} {b : UInt8} (h : l[k]? = some b) : (ByteArray.mk l.toArray)[k]? = some b := by
 obtain ⟨hk, e⟩ := List.getElem?_eq_some_iff.1 h
 have hk' : k < (ByteArray.mk l.toArray).size := by simpa [ByteArray.size] using hk
 rw [getElem?_pos (ByteArray.mk l.toArray) k hk', ← e]
 rfl
theorem map_get {α : Type} {f : α → List D} {l : List α} {k : Nat} {x : α} (h : l[k]? = some x) : (l.map f)[k]? = some (f x) := by rw [List.getElem?_map, h]; rfl
theorem get_ex {α : Type} {l : List α} {k : Nat} (h : k < l.length) : ∃ x, l[k]? = some x := ⟨_, List.getElem?_eq_getElem h⟩
abbrev dI (n : Int) : D := .v (.int .i64 n)
abbrev dB (b : Bool) : D := .v (.bool b)
/-- no more than an int -/
def I64 (n : Int) : Prop := -9223372036854775808 ≤ n ∧ n ≤ 9223372036854775807
end Go.Proofs.YtcihalbakenleaaGreat
namespace Go.Proofs.YtcihalbakenleaaGreat
open Go.RowKit Go.ChangeShapes Go.WideShapes Go.ChangeAt Go.Deep
/-- the world's single cells -/
def Hw (w : World) : Hp := fun b o => match w.cell? ⟨b, o, none⟩ with
  | some u => if u.oneCell' = true then some u else none
  | none => none
theorem Hw.imm (w : World) : Imm (Hw w) w := fun b o u h => by
  unfold Hw at h
  split at h
  · rename_i v hv
    split at h
    · rename_i h1; cases h; exact ⟨hv, h1⟩
    · cases h
  · cases h
theorem Hw.mk {w : World} {b o : Nat} {u : Value} (h : w.cell? ⟨b, o, none⟩ = some u) (h1 : u.oneCell' = true) : Hw w b o = some u := by
  unfold Hw; rw [h]; simp [h1]
/-- cells that show data -/
structure VDs (H : Hp) (cs : List Value) (ds : List D) : Prop where
  len : cs.length = ds.length
  vd : ∀ (i : Nat) (x : Value) (d : D), cs[i]? = some x → ds[i]? = some d → VD H x d
  one : ∀ x ∈ cs, x.oneCell' = true
theorem VDs.nil (H : Hp) : VDs H [] [] := ⟨rfl, fun i x d h _ => by simp at h, fun x h => by cases h⟩
theorem VDs.app {H : Hp} {a b : List Value} {x y : List D} (h : VDs H a x) (k : VDs H b y) : VDs H (a ++ b) (x ++ y) := by
  refine ⟨by rw [List.length_append, List.length_append, h.len, k.len], fun i u d hu hd => ?_, fun u hu => ?_⟩
  · by_cases hi : i < a.length
    · rw [List.getElem?_append_left hi] at hu
      rw [List.getElem?_append_left (by rw [← h.len]; exact hi)] at hd
      exact h.vd i u d hu hd
    · rw [List.getElem?_append_right (by omega)] at hu
      rw [List.getElem?_append_right (by rw [← h.len]; omega), ← h.len] at hd
      exact k.vd _ u d hu hd
  · rcases List.mem_append.1 hu with e | e
    · exact h.one u e
    · exact k.one u e
theorem VDs.single {H : Hp} {u : Value} {d : D} (h : VD H u d) (h1 : u.oneCell' = true) : VDs H [u] [d] := by
  refine ⟨rfl, fun i x e hx he => ?_, fun x hx => by rw [List.mem_singleton.1 hx]; exact h1⟩
  match i with
  | 0 => cases hx; cases he; exact h
  | i + 1 => simp at hx
/-- what a value of a type holds, as data that fits -/
def DecQ (P : Program) (t : TypeId) (Q : List D → Prop) : Prop :=
  ∀ (H : Type) (enc : TypeId × Value → H) (w : World) (fuel : Nat) (cs : List Value) (x : DataW H × List MemPlace),
    DataW.trod enc P w 0 (fun _ => true) true fuel t cs = some x → ∃ ds, VDs (Hw w) cs ds ∧ Q ds
def QInt (ds : List D) : Prop := ∃ n : Int, ds = [.v (.int .i64 n)] ∧ -9223372036854775808 ≤ n ∧ n ≤ 9223372036854775807
def QBool (ds : List D) : Prop := ∃ b : Bool, ds = [.v (.bool b)]
def QStr (ds : List D) : Prop := ∃ s : ByteArray, ds = [.v (.string s)]
def QSl (sz : Nat) (Q : List D → Prop) (ds : List D) : Prop := ∃ l : List (List D), ds = [.sl sz l] ∧ ∀ x ∈ l, Q x
def QS : List (List D → Prop) → List D → Prop
  | [], ds => ds = []
  | Q :: r, ds => ∃ a b, ds = a ++ b ∧ Q a ∧ QS r b
theorem DecQ.int {P : Program} {t : TypeId} (ht : P.underlying t = some (.int .i64)) : DecQ P t QInt := by
  intro H enc w fuel cs x h
  obtain ⟨n, rfl, _, hw⟩ := DataW.trod_int ht h
  refine ⟨[.v (.int .i64 n)], VDs.single (.v _) rfl, n, rfl, ?_⟩
  simp [Lit.wf, IntKind.min, IntKind.max, IntKind.signed, IntKind.bits] at hw
  omega
theorem DecQ.bool {P : Program} {t : TypeId} (ht : P.underlying t = some .bool) : DecQ P t QBool := by
  intro H enc w fuel cs x h
  obtain ⟨b, rfl, _⟩ := DataW.trod_bool ht h
  exact ⟨[.v (.bool b)], VDs.single (.v _) rfl, b, rfl⟩
theorem DecQ.str {P : Program} {t : TypeId} (ht : P.underlying t = some .string) : DecQ P t QStr := by
  intro H enc w fuel cs x h
  obtain ⟨s, rfl, _, _⟩ := DataW.trod_string ht h
  exact ⟨[.v (.string s)], VDs.single (.v _) rfl, s, rfl⟩
/-- pieces that lie one behind the other -/
def contB (P : Program) : Nat → List (TypeId × Nat) → Nat → Bool
  | o, [], n => o == n
  | o, (t, f) :: r, n => f == o && contB P (o + P.cellsOf t) r n
theorem pieces {P : Program} {H : Type} {enc : TypeId × Value → H} {w : World} {m : Nat} {cs : List Value} : ∀ (ps : List (TypeId × Nat)) (Qs : List (List D → Prop)) (o : Nat), ps.length = Qs.length → contB P o ps cs.length = true →
    (∀ (i : Nat) t f Q, ps[i]? = some (t, f) → Qs[i]? = some Q → DecQ P t Q) →
    (∀ (i : Nat) t f, ps[i]? = some (t, f) → ∃ y, DataW.trod enc P w 0 (fun _ => true) true m t ((cs.drop f).take (P.cellsOf t)) = some y) →
    ∃ ds, VDs (Hw w) (cs.drop o) ds ∧ QS Qs ds
  | [], [], o, _, hc, _, _ => by
    simp [contB] at hc
    exact ⟨[], by rw [List.drop_eq_nil_of_le (by omega)]; exact VDs.nil _, rfl⟩
  | (t, f) :: ps, Q :: Qs, o, hl, hc, hq, ht => by
    simp only [contB, Bool.and_eq_true, beq_iff_eq] at hc
    obtain ⟨rfl, hc⟩ := hc
    obtain ⟨y, hy⟩ := ht 0 t f rfl
    obtain ⟨a, ha, hQ⟩ := hq 0 t f Q rfl rfl _ _ _ _ _ _ hy
    obtain ⟨b, hb, hR⟩ := pieces ps Qs (f + P.cellsOf t) (by simpa using hl) hc (fun i t' f' Q' h1 h2 => hq (i + 1) t' f' Q' h1 h2) fun i t' f' h1 => ht (i + 1) t' f' h1
    refine ⟨a ++ b, ?_, a, b, rfl, hQ, hR⟩
    have : cs.drop f = (cs.drop f).take (P.cellsOf t) ++ cs.drop (f + P.cellsOf t) := by rw [← List.drop_drop, List.take_append_drop]
    rw [this]
    exact ha.app hb
theorem DecQ.struct {P : Program} {t : TypeId} {fs : Array Field} (Qs : List (List D → Prop)) (ht : P.underlying t = some (.struct fs)) (hl : fs.toList.length = Qs.length) (hc : contB P 0 (fs.toList.map fun f => (f.type, f.offset)) (P.cellsOf t) = true)
    (hq : ∀ (i : Nat) f Q, fs.toList[i]? = some f → Qs[i]? = some Q → DecQ P f.type Q) : DecQ P t (QS Qs) := by
  intro H enc w fuel cs x h
  obtain ⟨xs, n, _, _, hcl, hxl, hg⟩ := DataW.trod_struct ht h
  have := pieces (P := P) (enc := enc) (w := w) (m := n) (cs := cs) (fs.toList.map fun f => (f.type, f.offset)) Qs 0 (by rw [List.length_map]; exact hl) (by rw [hcl]; exact hc) (fun i t' f' Q' h1 h2 => ?_) fun i t' f' h1 => ?_
  · rwa [List.drop_zero] at this
  · rw [List.getElem?_map] at h1
    cases hf : fs.toList[i]? with
    | none => rw [hf] at h1; cases h1
    | some f => rw [hf] at h1; cases h1; exact hq i f Q' hf h2
  · rw [List.getElem?_map] at h1
    cases hf : fs.toList[i]? with
    | none => rw [hf] at h1; cases h1
    | some f =>
      rw [hf] at h1; cases h1
      have hfa : fs[i]? = some f := by simpa using hf
      have hi : i < xs.length := by rw [hxl]; exact (Array.getElem?_eq_some_iff.1 hfa).1
      exact ⟨xs[i], by rw [hg i f hfa, List.getElem?_eq_getElem hi]⟩
theorem DecQ.array {P : Program} {t e : TypeId} {n : Nat} {Q : List D → Prop} (ht : P.underlying t = some (.array n e)) (hc : contB P 0 ((List.range n).map fun i => (e, i * P.cellsOf e)) (P.cellsOf t) = true) (hq : DecQ P e Q) : DecQ P t (QS (List.replicate n Q)) := by
  intro H enc w fuel cs x h
  obtain ⟨xs, m, _, _, hcl, hxl, hg⟩ := DataW.trod_array ht h
  have := pieces (P := P) (enc := enc) (w := w) (m := m) (cs := cs) ((List.range n).map fun i => (e, i * P.cellsOf e)) (List.replicate n Q) 0 (by simp) (by rw [hcl]; exact hc) (fun i t' f' Q' h1 h2 => ?_) fun i t' f' h1 => ?_
  · rwa [List.drop_zero] at this
  · rw [List.getElem?_map] at h1
    rw [List.getElem?_replicate] at h2
    split at h2
    · cases h2
      rename_i hi
      rw [List.getElem?_range hi] at h1
      cases h1; exact hq
    · cases h2
  · have hi : i < n := by have := (List.getElem?_eq_some_iff.1 h1).1; simpa using this
    rw [List.getElem?_map, List.getElem?_range hi] at h1
    cases h1
    exact ⟨xs[i], by rw [hg i hi, List.getElem?_eq_getElem (by omega)]⟩
theorem DecQ.slice {P : Program} {t e : TypeId} {Q : List D → Prop} {sz : Nat} (ht : P.underlying t = some (.slice e)) (he : DecQ P e Q) (hsz : P.cellsOf e = sz) (hpos : 0 < sz) : DecQ P t (QSl sz Q) := by
  intro H enc w fuel cs x h
  rcases Go.Deep.open_slice ht h with ⟨rfl, rfl⟩ | ⟨a, len, cap, m, n, D0, Pl, rfl, hb, hl, hm, hmm, rfl, hx⟩
  · exact ⟨[.sl sz []], VDs.single (.emp none 0 sz (fun _ => rfl) (Nat.zero_le _)) rfl, [], rfl, fun x h => by cases h⟩
  · simp only [if_true] at hmm
    obtain rfl : cap = m := hmm.symm
    rw [hsz] at hx
    by_cases hl0 : len = 0
    · subst hl0
      exact ⟨[.sl sz []], VDs.single (.emp (some a) cap sz (fun h => by cases h) hm) rfl, [], rfl, fun x h => by cases h⟩
    obtain ⟨F, hF⟩ : ∃ F : Nat → List Value × List D, ∀ i, i < len → w.cells? 0 (a.add (i * sz)) sz = some (F i).1 ∧ VDs (Hw w) (F i).1 (F i).2 ∧ Q (F i).2 := by
      have : ∀ i, ∃ y : List Value × List D, i < len → w.cells? 0 (a.add (i * sz)) sz = some y.1 ∧ VDs (Hw w) y.1 y.2 ∧ Q y.2 := by
        intro i
        by_cases hi : i < len
        · obtain ⟨cs', h1, h2⟩ := hx i (by omega)
          obtain ⟨ds, h3, h4⟩ := he _ _ _ _ _ _ h2
          exact ⟨(cs', ds), fun _ => ⟨h1, h3, h4⟩⟩
        · exact ⟨([], []), fun h => absurd h hi⟩
      exact ⟨fun i => Classical.choose (this i), fun i hi => Classical.choose_spec (this i) hi⟩
    have hlen : ∀ i, i < len → (F i).1.length = sz := fun i hi => by
      obtain ⟨_, h, _⟩ := World.cells?_some (hF i hi).1
      exact h
    obtain ⟨b, off, sp⟩ := a
    have hc : ∀ i j, i < len → j < sz → w.cell? ((⟨b, off, sp⟩ : Addr).add (i * sz + j)) = (F i).1[j]? := by
      intro i j hi hj
      obtain ⟨_, _, hat⟩ := World.cells?_some (hF i hi).1
      rw [← Go.Deep.add_add]
      exact hat j hj
    have h00 := hc 0 0 (by omega) hpos
    have hv0 : (F 0).1[0]? = some ((F 0).1[0]'(by rw [hlen 0 (by omega)]; exact hpos)) := List.getElem?_eq_getElem _
    rw [hv0] at h00
    have hsp : sp = none := by simpa [Addr.add] using World.cell?_spot h00
    subst hsp
    have hcell : ∀ i j u, i < len → (F i).1[j]? = some u → Hw w b (off + (i * sz + j)) = some u := by
      intro i j u hi hu
      have hj : j < sz := by rw [← hlen i hi]; exact (List.getElem?_eq_some_iff.1 hu).1
      have := hc i j hi hj
      rw [Go.WideShapes.add_plain, hu] at this
      exact Hw.mk this ((hF i hi).2.1.one u (List.mem_of_getElem? hu))
    have hk : ∀ k e, ((List.range len).map fun i => (F i).2)[k]? = some e → k < len ∧ e = (F k).2 := by
      intro k e he
      have hkl : k < len := by have := (List.getElem?_eq_some_iff.1 he).1; simpa using this
      rw [List.getElem?_map, List.getElem?_range hkl] at he
      cases he; exact ⟨hkl, rfl⟩
    refine ⟨[.sl sz ((List.range len).map fun i => (F i).2)], VDs.single (.sl b off len cap sz _ (fun k j => (F k).1[j]?.getD undef) (by simp) hl hm (fun e he => ?_) (fun k j e d h1 h2 => ?_) (fun k j e d h1 h2 => ?_)) rfl, _, rfl, fun y hy => ?_⟩
    · obtain ⟨i, hi, rfl⟩ := List.mem_map.1 he
      have hi := List.mem_range.1 hi
      rw [← (hF i hi).2.1.len, hlen i hi]
    · obtain ⟨hkl, rfl⟩ := hk k e h1
      have hj : j < (F k).1.length := by rw [(hF k hkl).2.1.len]; exact (List.getElem?_eq_some_iff.1 h2).1
      have hu : (F k).1[j]? = some (F k).1[j] := List.getElem?_eq_getElem hj
      rw [hcell k j _ hkl hu, hu]; rfl
    · obtain ⟨hkl, rfl⟩ := hk k e h1
      have hj : j < (F k).1.length := by rw [(hF k hkl).2.1.len]; exact (List.getElem?_eq_some_iff.1 h2).1
      have hu : (F k).1[j]? = some (F k).1[j] := List.getElem?_eq_getElem hj
      rw [hu]
      exact (hF k hkl).2.1.vd j _ d hu h2
    · obtain ⟨i, hi, rfl⟩ := List.mem_map.1 hy
      exact (hF i (List.mem_range.1 hi)).2.2
section
variable {H : Type} {enc : TypeId × Value → H} {P : Program} {w : World}
theorem openD_st {Q : List D → Prop} {r : Reach} {b0 : Nat} {t : TypeId} {fs : Array Field} {v : Value} {d : DataW H} {p : List MemPlace} (ht : P.underlying t = some (.struct fs))
    (hD : DecQ P t Q) (hv : Value.okWide P w r b0 t v) (h : DataW.Trod enc P w 0 (fun _ => true) true t v d p) : ∃ ds, VD (Hw w) v (.agg ds) ∧ Q ds := by
  obtain ⟨cs, rfl, _⟩ := okWide_struct ht hv
  obtain ⟨fuel, hf⟩ := h
  obtain ⟨ds, h1, h2⟩ := hD _ _ _ _ _ _ hf
  exact ⟨ds, .agg cs ds (by have := h1.len; simpa [Value.cells] using this) fun i x d hx hd => h1.vd i x d (by simpa [Value.cells] using hx) hd, h2⟩
theorem openD_ar {Q : List D → Prop} {r : Reach} {b0 : Nat} {t e : TypeId} {n : Nat} {v : Value} {d : DataW H} {p : List MemPlace} (ht : P.underlying t = some (.array n e))
    (hD : DecQ P t Q) (hv : Value.okWide P w r b0 t v) (h : DataW.Trod enc P w 0 (fun _ => true) true t v d p) : ∃ ds, VD (Hw w) v (.agg ds) ∧ Q ds := by
  obtain ⟨cs, rfl⟩ : ∃ cs, v = .agg cs := by
    simp only [Value.okWide, ht] at hv
    obtain ⟨cs, h1, _⟩ := hv
    exact ⟨cs, h1⟩
  obtain ⟨fuel, hf⟩ := h
  obtain ⟨ds, h1, h2⟩ := hD _ _ _ _ _ _ hf
  exact ⟨ds, .agg cs ds (by have := h1.len; simpa [Value.cells] using this) fun i x d hx hd => h1.vd i x d (by simpa [Value.cells] using hx) hd, h2⟩
end
/-- a law over data returns true and leaves all that was there -/
theorem XC.law {P : Program} {F : FuncId} {ds : List D} {w : World} {vs : Array Value} (hx : XC P F ds (fun r => r = .v (.bool true))) (hs : vs.size = ds.length) (hv : ∀ (i : Nat) (x : Value) (d : D), vs[i]? = some x → ds[i]? = some d → VD (Hw w) x d) :
    Calls P F vs w fun e w' => e = .returned (.bool true) ∧ Below w.heap.size w w' :=
  (hx.calls (Hw w) w vs (Hw.imm w) hs hv).mono fun e w' ⟨H', u, r, e1, e2, _, _, _, hb, hu⟩ => by
    subst e2
    cases hu
    exact ⟨e1, hb⟩
end Go.Proofs.YtcihalbakenleaaGreat
namespace Go.Proofs.YtcihalbakenleaaGreat
open Go.RowKit
theorem sz_3 : sizeB Tryz.prog 3 1 = true := by kernel_rfl
theorem zero_3 : zeroB Tryz.prog 3 (.int .i64 0) := by unfold zeroB; kernel_rfl
theorem sc_3 : scB Tryz.prog 3 = true := by kernel_rfl
theorem sz_4 : sizeB Tryz.prog 4 1 = true := by kernel_rfl
theorem sc_4 : scB Tryz.prog 4 = true := by kernel_rfl
theorem sc_9 : scB Tryz.prog 9 = true := by kernel_rfl
theorem sz_22 : sizeB Tryz.prog 22 1 = true := by kernel_rfl
theorem zero_22 : zeroB Tryz.prog 22 (.slice none 0 0) := by unfold zeroB; kernel_rfl
theorem sc_22 : scB Tryz.prog 22 = true := by kernel_rfl
theorem el_22 : elB Tryz.prog 22 13 = true := by kernel_rfl
theorem elt_22 : ElemTy Tryz.prog 22 60 13 152 := ElemTy.of (z := (.agg #[.int .i64 0, .int .i64 0, .int .i64 0, .int .i64 0, .int .i64 0, .slice none 0 0, .slice none 0 0, .int .i64 0, .int .i64 0, .int .i64 0, .slice none 0 0, .int .i64 0, .int .i64 0])) Tryz.underlying22 (by kernel_rfl) rfl (by omega)
theorem sz_23 : sizeB Tryz.prog 23 1 = true := by kernel_rfl
theorem zero_23 : zeroB Tryz.prog 23 (.slice none 0 0) := by unfold zeroB; kernel_rfl
theorem sc_23 : scB Tryz.prog 23 = true := by kernel_rfl
theorem el_23 : elB Tryz.prog 23 4 = true := by kernel_rfl
theorem elt_23 : ElemTy Tryz.prog 23 102 4 32 := ElemTy.of (z := (.agg #[.int .i64 0, .int .i64 0, .int .i64 0, .int .i64 0])) Tryz.underlying23 (by kernel_rfl) rfl (by omega)
theorem sz_25 : sizeB Tryz.prog 25 2 = true := by kernel_rfl
theorem zero_25 : zeroB Tryz.prog 25 (.agg #[.slice none 0 0, .slice none 0 0]) := by unfold zeroB; kernel_rfl
theorem agg_25 : aggB Tryz.prog 25 2 = true := by kernel_rfl
theorem str_25 : strB Tryz.prog 25 [(0, 1), (1, 1)] = true := by kernel_rfl
theorem fld_25_0 : fldB Tryz.prog 25 0 0 = true := by kernel_rfl
theorem fld_25_1 : fldB Tryz.prog 25 1 1 = true := by kernel_rfl
theorem zero_26 : zeroB Tryz.prog 26 (.agg #[.int .i64 0, .int .i64 0, .int .i64 0, .int .i64 0, .int .i64 0, .int .i64 0]) := by unfold zeroB; kernel_rfl
theorem agg_26 : aggB Tryz.prog 26 6 = true := by kernel_rfl
theorem zero_28 : zeroB Tryz.prog 28 (.agg #[.int .i64 0, .int .i64 0, .int .i64 0, .int .i64 0, .int .i64 0, .int .i64 0, .int .i64 0, .int .i64 0]) := by unfold zeroB; kernel_rfl
theorem agg_28 : aggB Tryz.prog 28 8 = true := by kernel_rfl
theorem str_28 : strB Tryz.prog 28 [(0, 1), (1, 1), (2, 6)] = true := by kernel_rfl
theorem fld_28_0 : fldB Tryz.prog 28 0 0 = true := by kernel_rfl
theorem fld_28_1 : fldB Tryz.prog 28 1 1 = true := by kernel_rfl
theorem fld_28_2 : fldB Tryz.prog 28 2 2 = true := by kernel_rfl
theorem sz_30 : sizeB Tryz.prog 30 10 = true := by kernel_rfl
theorem zero_30 : zeroB Tryz.prog 30 (.agg #[.int .i64 0, .int .i64 0, .int .i64 0, .int .i64 0, .int .i64 0, .int .i64 0, .int .i64 0, .int .i64 0, .int .i64 0, .int .i64 0]) := by unfold zeroB; kernel_rfl
theorem agg_30 : aggB Tryz.prog 30 10 = true := by kernel_rfl
theorem str_30 : strB Tryz.prog 30 [(0, 8), (8, 1), (9, 1)] = true := by kernel_rfl
theorem fld_30_0 : fldB Tryz.prog 30 0 0 = true := by kernel_rfl
theorem fld_30_1 : fldB Tryz.prog 30 1 8 = true := by kernel_rfl
theorem fld_30_2 : fldB Tryz.prog 30 2 9 = true := by kernel_rfl
theorem sz_33 : sizeB Tryz.prog 33 1 = true := by kernel_rfl
theorem zero_33 : zeroB Tryz.prog 33 (.int .i64 0) := by unfold zeroB; kernel_rfl
theorem sc_33 : scB Tryz.prog 33 = true := by kernel_rfl
theorem sz_48 : sizeB Tryz.prog 48 1 = true := by kernel_rfl
theorem sc_48 : scB Tryz.prog 48 = true := by kernel_rfl
theorem el_48 : elB Tryz.prog 48 5 = true := by kernel_rfl
theorem elt_48 : ElemTy Tryz.prog 48 91 5 40 := ElemTy.of (z := (.agg #[.int .i64 0, .int .i64 0, .int .i64 0, .bool false, .int .i64 0])) Tryz.underlying48 (by kernel_rfl) rfl (by omega)
theorem sz_54 : sizeB Tryz.prog 54 2 = true := by kernel_rfl
theorem zero_54 : zeroB Tryz.prog 54 (.agg #[.int .i64 0, .int .i64 0]) := by unfold zeroB; kernel_rfl
theorem agg_54 : aggB Tryz.prog 54 2 = true := by kernel_rfl
theorem str_54 : strB Tryz.prog 54 [(0, 1), (1, 1)] = true := by kernel_rfl
theorem fld_54_0 : fldB Tryz.prog 54 0 0 = true := by kernel_rfl
theorem fld_54_1 : fldB Tryz.prog 54 1 1 = true := by kernel_rfl
theorem sz_56 : sizeB Tryz.prog 56 2 = true := by kernel_rfl
theorem zero_56 : zeroB Tryz.prog 56 (.agg #[.int .i64 0, .int .i64 0]) := by unfold zeroB; kernel_rfl
theorem agg_56 : aggB Tryz.prog 56 2 = true := by kernel_rfl
theorem str_56 : strB Tryz.prog 56 [(0, 1), (1, 1)] = true := by kernel_rfl
theorem fld_56_0 : fldB Tryz.prog 56 0 0 = true := by kernel_rfl
theorem fld_56_1 : fldB Tryz.prog 56 1 1 = true := by kernel_rfl
theorem sz_57 : sizeB Tryz.prog 57 1 = true := by kernel_rfl
theorem sc_57 : scB Tryz.prog 57 = true := by kernel_rfl
theorem el_57 : elB Tryz.prog 57 5 = true := by kernel_rfl
theorem elt_57 : ElemTy Tryz.prog 57 138 5 40 := ElemTy.of (z := (.agg #[.int .i64 0, .int .i64 0, .int .i64 0, .int .i64 0, .bool false])) Tryz.underlying57 (by kernel_rfl) rfl (by omega)
theorem sz_58 : sizeB Tryz.prog 58 1 = true := by kernel_rfl
theorem sc_58 : scB Tryz.prog 58 = true := by kernel_rfl
theorem el_58 : elB Tryz.prog 58 2 = true := by kernel_rfl
theorem elt_58 : ElemTy Tryz.prog 58 140 2 24 := ElemTy.of (z := (.agg #[.string ⟨#[]⟩, .int .i64 0])) Tryz.underlying58 (by kernel_rfl) rfl (by omega)
theorem sz_60 : sizeB Tryz.prog 60 13 = true := by kernel_rfl
theorem zero_60 : zeroB Tryz.prog 60 (.agg #[.int .i64 0, .int .i64 0, .int .i64 0, .int .i64 0, .int .i64 0, .slice none 0 0, .slice none 0 0, .int .i64 0, .int .i64 0, .int .i64 0, .slice none 0 0, .int .i64 0, .int .i64 0]) := by unfold zeroB; kernel_rfl
theorem agg_60 : aggB Tryz.prog 60 13 = true := by kernel_rfl
theorem str_60 : strB Tryz.prog 60 [(0, 2), (2, 1), (3, 2), (5, 1), (6, 1), (7, 1), (8, 1), (9, 1), (10, 1), (11, 1), (12, 1)] = true := by kernel_rfl
theorem fld_60_0 : fldB Tryz.prog 60 0 0 = true := by kernel_rfl
theorem fld_60_1 : fldB Tryz.prog 60 1 2 = true := by kernel_rfl
theorem fld_60_2 : fldB Tryz.prog 60 2 3 = true := by kernel_rfl
theorem fld_60_3 : fldB Tryz.prog 60 3 5 = true := by kernel_rfl
theorem fld_60_4 : fldB Tryz.prog 60 4 6 = true := by kernel_rfl
theorem fld_60_5 : fldB Tryz.prog 60 5 7 = true := by kernel_rfl
theorem fld_60_6 : fldB Tryz.prog 60 6 8 = true := by kernel_rfl
theorem fld_60_7 : fldB Tryz.prog 60 7 9 = true := by kernel_rfl
theorem fld_60_8 : fldB Tryz.prog 60 8 10 = true := by kernel_rfl
theorem fld_60_9 : fldB Tryz.prog 60 9 11 = true := by kernel_rfl
theorem fld_60_10 : fldB Tryz.prog 60 10 12 = true := by kernel_rfl
theorem el_64 : elB Tryz.prog 64 1 = true := by kernel_rfl
theorem elt_64 : ElemTy Tryz.prog 64 3 1 8 := ElemTy.of (z := (.int .i64 0)) Tryz.underlying64 (by kernel_rfl) rfl (by omega)
theorem zero_89 : zeroB Tryz.prog 89 (.agg #[.int .i64 0, .int .i64 0, .int .i64 0]) := by unfold zeroB; kernel_rfl
theorem agg_89 : aggB Tryz.prog 89 3 = true := by kernel_rfl
theorem str_89 : strB Tryz.prog 89 [(0, 1), (1, 1), (2, 1)] = true := by kernel_rfl
theorem fld_89_0 : fldB Tryz.prog 89 0 0 = true := by kernel_rfl
theorem fld_89_1 : fldB Tryz.prog 89 1 1 = true := by kernel_rfl
theorem fld_89_2 : fldB Tryz.prog 89 2 2 = true := by kernel_rfl
theorem sz_91 : sizeB Tryz.prog 91 5 = true := by kernel_rfl
theorem zero_91 : zeroB Tryz.prog 91 (.agg #[.int .i64 0, .int .i64 0, .int .i64 0, .bool false, .int .i64 0]) := by unfold zeroB; kernel_rfl
theorem agg_91 : aggB Tryz.prog 91 5 = true := by kernel_rfl
theorem str_91 : strB Tryz.prog 91 [(0, 3), (3, 1), (4, 1)] = true := by kernel_rfl
theorem fld_91_0 : fldB Tryz.prog 91 0 0 = true := by kernel_rfl
theorem fld_91_1 : fldB Tryz.prog 91 1 3 = true := by kernel_rfl
theorem fld_91_2 : fldB Tryz.prog 91 2 4 = true := by kernel_rfl
theorem sz_102 : sizeB Tryz.prog 102 4 = true := by kernel_rfl
theorem zero_102 : zeroB Tryz.prog 102 (.agg #[.int .i64 0, .int .i64 0, .int .i64 0, .int .i64 0]) := by unfold zeroB; kernel_rfl
theorem agg_102 : aggB Tryz.prog 102 4 = true := by kernel_rfl
theorem fld_102_0 : fldB Tryz.prog 102 0 0 = true := by kernel_rfl
theorem fld_102_1 : fldB Tryz.prog 102 1 1 = true := by kernel_rfl
theorem fld_102_2 : fldB Tryz.prog 102 2 2 = true := by kernel_rfl
theorem fld_102_3 : fldB Tryz.prog 102 3 3 = true := by kernel_rfl
theorem el_106 : elB Tryz.prog 106 2 = true := by kernel_rfl
theorem elt_106 : ElemTy Tryz.prog 106 56 2 16 := ElemTy.of (z := (.agg #[.int .i64 0, .int .i64 0])) Tryz.underlying106 (by kernel_rfl) rfl (by omega)
theorem sz_138 : sizeB Tryz.prog 138 5 = true := by kernel_rfl
theorem zero_138 : zeroB Tryz.prog 138 (.agg #[.int .i64 0, .int .i64 0, .int .i64 0, .int .i64 0, .bool false]) := by unfold zeroB; kernel_rfl
theorem agg_138 : aggB Tryz.prog 138 5 = true := by kernel_rfl
theorem fld_138_0 : fldB Tryz.prog 138 0 0 = true := by kernel_rfl
theorem fld_138_1 : fldB Tryz.prog 138 1 3 = true := by kernel_rfl
theorem sz_140 : sizeB Tryz.prog 140 2 = true := by kernel_rfl
theorem zero_140 : zeroB Tryz.prog 140 (.agg #[.string ⟨#[]⟩, .int .i64 0]) := by unfold zeroB; kernel_rfl
theorem agg_140 : aggB Tryz.prog 140 2 = true := by kernel_rfl
theorem str_140 : strB Tryz.prog 140 [(0, 1), (1, 1)] = true := by kernel_rfl
theorem fld_140_0 : fldB Tryz.prog 140 0 0 = true := by kernel_rfl
theorem fld_140_1 : fldB Tryz.prog 140 1 1 = true := by kernel_rfl
theorem el_177 : elB Tryz.prog 177 1 = true := by kernel_rfl
theorem el_180 : elB Tryz.prog 180 1 = true := by kernel_rfl
theorem sz_210 : sizeB Tryz.prog 210 7 = true := by kernel_rfl
theorem zero_210 : zeroB Tryz.prog 210 (.agg #[.int .i64 0, .int .i64 0, .int .i64 0, .int .i64 0, .int .i64 0, .int .i64 0, .int .i64 0]) := by unfold zeroB; kernel_rfl
theorem agg_210 : aggB Tryz.prog 210 7 = true := by kernel_rfl
theorem callable_8 : Callable Tryz.prog 8 := ⟨_, Tryz.func8, rfl, by decide⟩
theorem callable_13 : Callable Tryz.prog 13 := ⟨_, Tryz.func13, rfl, by decide⟩
theorem callable_14 : Callable Tryz.prog 14 := ⟨_, Tryz.func14, rfl, by decide⟩
theorem callable_15 : Callable Tryz.prog 15 := ⟨_, Tryz.func15, rfl, by decide⟩
theorem callable_18 : Callable Tryz.prog 18 := ⟨_, Tryz.func18, rfl, by decide⟩
theorem callable_20 : Callable Tryz.prog 20 := ⟨_, Tryz.func20, rfl, by decide⟩
theorem callable_22 : Callable Tryz.prog 22 := ⟨_, Tryz.func22, rfl, by decide⟩
theorem callable_27 : Callable Tryz.prog 27 := ⟨_, Tryz.func27, rfl, by decide⟩
theorem callable_30 : Callable Tryz.prog 30 := ⟨_, Tryz.func30, rfl, by decide⟩
theorem callable_34 : Callable Tryz.prog 34 := ⟨_, Tryz.func34, rfl, by decide⟩
theorem callable_35 : Callable Tryz.prog 35 := ⟨_, Tryz.func35, rfl, by decide⟩
theorem callable_36 : Callable Tryz.prog 36 := ⟨_, Tryz.func36, rfl, by decide⟩
theorem callable_37 : Callable Tryz.prog 37 := ⟨_, Tryz.func37, rfl, by decide⟩
theorem callable_38 : Callable Tryz.prog 38 := ⟨_, Tryz.func38, rfl, by decide⟩
theorem callable_46 : Callable Tryz.prog 46 := ⟨_, Tryz.func46, rfl, by decide⟩
theorem callable_47 : Callable Tryz.prog 47 := ⟨_, Tryz.func47, rfl, by decide⟩
theorem callable_48 : Callable Tryz.prog 48 := ⟨_, Tryz.func48, rfl, by decide⟩
theorem callable_51 : Callable Tryz.prog 51 := ⟨_, Tryz.func51, rfl, by decide⟩
theorem callable_52 : Callable Tryz.prog 52 := ⟨_, Tryz.func52, rfl, by decide⟩
theorem callable_56 : Callable Tryz.prog 56 := ⟨_, Tryz.func56, rfl, by decide⟩
theorem callable_59 : Callable Tryz.prog 59 := ⟨_, Tryz.func59, rfl, by decide⟩
theorem callable_60 : Callable Tryz.prog 60 := ⟨_, Tryz.func60, rfl, by decide⟩
theorem callable_61 : Callable Tryz.prog 61 := ⟨_, Tryz.func61, rfl, by decide⟩
theorem callable_62 : Callable Tryz.prog 62 := ⟨_, Tryz.func62, rfl, by decide⟩
theorem callable_63 : Callable Tryz.prog 63 := ⟨_, Tryz.func63, rfl, by decide⟩
theorem callable_64 : Callable Tryz.prog 64 := ⟨_, Tryz.func64, rfl, by decide⟩
theorem callable_65 : Callable Tryz.prog 65 := ⟨_, Tryz.func65, rfl, by decide⟩
theorem callable_68 : Callable Tryz.prog 68 := ⟨_, Tryz.func68, rfl, by decide⟩
theorem callable_69 : Callable Tryz.prog 69 := ⟨_, Tryz.func69, rfl, by decide⟩
theorem callable_70 : Callable Tryz.prog 70 := ⟨_, Tryz.func70, rfl, by decide⟩
theorem callable_71 : Callable Tryz.prog 71 := ⟨_, Tryz.func71, rfl, by decide⟩
theorem callable_75 : Callable Tryz.prog 75 := ⟨_, Tryz.func75, rfl, by decide⟩
theorem callable_76 : Callable Tryz.prog 76 := ⟨_, Tryz.func76, rfl, by decide⟩
theorem callable_77 : Callable Tryz.prog 77 := ⟨_, Tryz.func77, rfl, by decide⟩
theorem callable_78 : Callable Tryz.prog 78 := ⟨_, Tryz.func78, rfl, by decide⟩
theorem callable_79 : Callable Tryz.prog 79 := ⟨_, Tryz.func79, rfl, by decide⟩
theorem callable_80 : Callable Tryz.prog 80 := ⟨_, Tryz.func80, rfl, by decide⟩
theorem callable_81 : Callable Tryz.prog 81 := ⟨_, Tryz.func81, rfl, by decide⟩
theorem callable_82 : Callable Tryz.prog 82 := ⟨_, Tryz.func82, rfl, by decide⟩
theorem callable_84 : Callable Tryz.prog 84 := ⟨_, Tryz.func84, rfl, by decide⟩
theorem callable_87 : Callable Tryz.prog 87 := ⟨_, Tryz.func87, rfl, by decide⟩
theorem callable_88 : Callable Tryz.prog 88 := ⟨_, Tryz.func88, rfl, by decide⟩
theorem callable_93 : Callable Tryz.prog 93 := ⟨_, Tryz.func93, rfl, by decide⟩
theorem callable_94 : Callable Tryz.prog 94 := ⟨_, Tryz.func94, rfl, by decide⟩
theorem callable_95 : Callable Tryz.prog 95 := ⟨_, Tryz.func95, rfl, by decide⟩
theorem callable_96 : Callable Tryz.prog 96 := ⟨_, Tryz.func96, rfl, by decide⟩
theorem callable_99 : Callable Tryz.prog 99 := ⟨_, Tryz.func99, rfl, by decide⟩
theorem callable_100 : Callable Tryz.prog 100 := ⟨_, Tryz.func100, rfl, by decide⟩
theorem callable_101 : Callable Tryz.prog 101 := ⟨_, Tryz.func101, rfl, by decide⟩
theorem callable_102 : Callable Tryz.prog 102 := ⟨_, Tryz.func102, rfl, by decide⟩
theorem callable_103 : Callable Tryz.prog 103 := ⟨_, Tryz.func103, rfl, by decide⟩
theorem callable_104 : Callable Tryz.prog 104 := ⟨_, Tryz.func104, rfl, by decide⟩
theorem callable_105 : Callable Tryz.prog 105 := ⟨_, Tryz.func105, rfl, by decide⟩
theorem callable_106 : Callable Tryz.prog 106 := ⟨_, Tryz.func106, rfl, by decide⟩
theorem callable_107 : Callable Tryz.prog 107 := ⟨_, Tryz.func107, rfl, by decide⟩
theorem callable_108 : Callable Tryz.prog 108 := ⟨_, Tryz.func108, rfl, by decide⟩
theorem callable_109 : Callable Tryz.prog 109 := ⟨_, Tryz.func109, rfl, by decide⟩
theorem callable_115 : Callable Tryz.prog 115 := ⟨_, Tryz.func115, rfl, by decide⟩
theorem callable_116 : Callable Tryz.prog 116 := ⟨_, Tryz.func116, rfl, by decide⟩
theorem callable_117 : Callable Tryz.prog 117 := ⟨_, Tryz.func117, rfl, by decide⟩
theorem callable_118 : Callable Tryz.prog 118 := ⟨_, Tryz.func118, rfl, by decide⟩
theorem callable_119 : Callable Tryz.prog 119 := ⟨_, Tryz.func119, rfl, by decide⟩
theorem callable_120 : Callable Tryz.prog 120 := ⟨_, Tryz.func120, rfl, by decide⟩
theorem callable_121 : Callable Tryz.prog 121 := ⟨_, Tryz.func121, rfl, by decide⟩
theorem callable_122 : Callable Tryz.prog 122 := ⟨_, Tryz.func122, rfl, by decide⟩
theorem callable_123 : Callable Tryz.prog 123 := ⟨_, Tryz.func123, rfl, by decide⟩
theorem callable_124 : Callable Tryz.prog 124 := ⟨_, Tryz.func124, rfl, by decide⟩
theorem callable_125 : Callable Tryz.prog 125 := ⟨_, Tryz.func125, rfl, by decide⟩
theorem callable_126 : Callable Tryz.prog 126 := ⟨_, Tryz.func126, rfl, by decide⟩
theorem callable_127 : Callable Tryz.prog 127 := ⟨_, Tryz.func127, rfl, by decide⟩
theorem callable_128 : Callable Tryz.prog 128 := ⟨_, Tryz.func128, rfl, by decide⟩
theorem callable_130 : Callable Tryz.prog 130 := ⟨_, Tryz.func130, rfl, by decide⟩
theorem callable_132 : Callable Tryz.prog 132 := ⟨_, Tryz.func132, rfl, by decide⟩
theorem callable_133 : Callable Tryz.prog 133 := ⟨_, Tryz.func133, rfl, by decide⟩
theorem callable_134 : Callable Tryz.prog 134 := ⟨_, Tryz.func134, rfl, by decide⟩
theorem callable_138 : Callable Tryz.prog 138 := ⟨_, Tryz.func138, rfl, by decide⟩
theorem callable_139 : Callable Tryz.prog 139 := ⟨_, Tryz.func139, rfl, by decide⟩
theorem callable_140 : Callable Tryz.prog 140 := ⟨_, Tryz.func140, rfl, by decide⟩
theorem callable_141 : Callable Tryz.prog 141 := ⟨_, Tryz.func141, rfl, by decide⟩
theorem callable_142 : Callable Tryz.prog 142 := ⟨_, Tryz.func142, rfl, by decide⟩
theorem callable_143 : Callable Tryz.prog 143 := ⟨_, Tryz.func143, rfl, by decide⟩
theorem callable_144 : Callable Tryz.prog 144 := ⟨_, Tryz.func144, rfl, by decide⟩
theorem callable_145 : Callable Tryz.prog 145 := ⟨_, Tryz.func145, rfl, by decide⟩
theorem callable_148 : Callable Tryz.prog 148 := ⟨_, Tryz.func148, rfl, by decide⟩
theorem callable_149 : Callable Tryz.prog 149 := ⟨_, Tryz.func149, rfl, by decide⟩
theorem callable_150 : Callable Tryz.prog 150 := ⟨_, Tryz.func150, rfl, by decide⟩
theorem callable_151 : Callable Tryz.prog 151 := ⟨_, Tryz.func151, rfl, by decide⟩
theorem callable_152 : Callable Tryz.prog 152 := ⟨_, Tryz.func152, rfl, by decide⟩
theorem callable_153 : Callable Tryz.prog 153 := ⟨_, Tryz.func153, rfl, by decide⟩
theorem callable_154 : Callable Tryz.prog 154 := ⟨_, Tryz.func154, rfl, by decide⟩
theorem callable_155 : Callable Tryz.prog 155 := ⟨_, Tryz.func155, rfl, by decide⟩
theorem callable_156 : Callable Tryz.prog 156 := ⟨_, Tryz.func156, rfl, by decide⟩
theorem callable_157 : Callable Tryz.prog 157 := ⟨_, Tryz.func157, rfl, by decide⟩
theorem callable_158 : Callable Tryz.prog 158 := ⟨_, Tryz.func158, rfl, by decide⟩
theorem callable_159 : Callable Tryz.prog 159 := ⟨_, Tryz.func159, rfl, by decide⟩
theorem callable_160 : Callable Tryz.prog 160 := ⟨_, Tryz.func160, rfl, by decide⟩
theorem callable_161 : Callable Tryz.prog 161 := ⟨_, Tryz.func161, rfl, by decide⟩
theorem callable_162 : Callable Tryz.prog 162 := ⟨_, Tryz.func162, rfl, by decide⟩
theorem callable_163 : Callable Tryz.prog 163 := ⟨_, Tryz.func163, rfl, by decide⟩
theorem callable_164 : Callable Tryz.prog 164 := ⟨_, Tryz.func164, rfl, by decide⟩
theorem callable_165 : Callable Tryz.prog 165 := ⟨_, Tryz.func165, rfl, by decide⟩
theorem callable_166 : Callable Tryz.prog 166 := ⟨_, Tryz.func166, rfl, by decide⟩
theorem callable_167 : Callable Tryz.prog 167 := ⟨_, Tryz.func167, rfl, by decide⟩
theorem callable_168 : Callable Tryz.prog 168 := ⟨_, Tryz.func168, rfl, by decide⟩
theorem callable_170 : Callable Tryz.prog 170 := ⟨_, Tryz.func170, rfl, by decide⟩
theorem callable_171 : Callable Tryz.prog 171 := ⟨_, Tryz.func171, rfl, by decide⟩
theorem callable_172 : Callable Tryz.prog 172 := ⟨_, Tryz.func172, rfl, by decide⟩
theorem callable_173 : Callable Tryz.prog 173 := ⟨_, Tryz.func173, rfl, by decide⟩
theorem callable_174 : Callable Tryz.prog 174 := ⟨_, Tryz.func174, rfl, by decide⟩
theorem callable_175 : Callable Tryz.prog 175 := ⟨_, Tryz.func175, rfl, by decide⟩
theorem callable_176 : Callable Tryz.prog 176 := ⟨_, Tryz.func176, rfl, by decide⟩
theorem callable_177 : Callable Tryz.prog 177 := ⟨_, Tryz.func177, rfl, by decide⟩
theorem callable_178 : Callable Tryz.prog 178 := ⟨_, Tryz.func178, rfl, by decide⟩
theorem callable_179 : Callable Tryz.prog 179 := ⟨_, Tryz.func179, rfl, by decide⟩
theorem callable_180 : Callable Tryz.prog 180 := ⟨_, Tryz.func180, rfl, by decide⟩
theorem callable_181 : Callable Tryz.prog 181 := ⟨_, Tryz.func181, rfl, by decide⟩
theorem callable_183 : Callable Tryz.prog 183 := ⟨_, Tryz.func183, rfl, by decide⟩
theorem callable_184 : Callable Tryz.prog 184 := ⟨_, Tryz.func184, rfl, by decide⟩
theorem callable_185 : Callable Tryz.prog 185 := ⟨_, Tryz.func185, rfl, by decide⟩
theorem callable_186 : Callable Tryz.prog 186 := ⟨_, Tryz.func186, rfl, by decide⟩
theorem callable_187 : Callable Tryz.prog 187 := ⟨_, Tryz.func187, rfl, by decide⟩
theorem callable_188 : Callable Tryz.prog 188 := ⟨_, Tryz.func188, rfl, by decide⟩
theorem callable_189 : Callable Tryz.prog 189 := ⟨_, Tryz.func189, rfl, by decide⟩
theorem callable_190 : Callable Tryz.prog 190 := ⟨_, Tryz.func190, rfl, by decide⟩
theorem callable_191 : Callable Tryz.prog 191 := ⟨_, Tryz.func191, rfl, by decide⟩
theorem callable_192 : Callable Tryz.prog 192 := ⟨_, Tryz.func192, rfl, by decide⟩
end Go.Proofs.YtcihalbakenleaaGreat
namespace Go.Proofs.YtcihalbakenleaaGreat
open Go.RowKit
section
variable {P : Program} {n : Nat} {ops : Array Oper} {rest : List Oper} {K : Kont} {f : Fr} {h : Xh} {o : Oper} {e : Operand → S} {α : Type}
theorem XL.len {t el : TypeId} {x : Operand} {sz : Nat} {g : α → List D} {l : List α} (ho : o.op = .call { callee := .builtin .len, args := #[x], argTypes := #[t] }) (hw : wantB ops f n o.guard = some true) (hx : ev f x = .d (.sl sz (l.map g))) (hu : P.underlying t = some (.slice el))
  (hr : l.length ≤ 9223372036854775807 → XL P n ops rest K (fput f o.dst (.d (.v (.int .i64 (l.length : Nat))))) h) : XL P n ops (o :: rest) K f h := by
 refine XL.stepR (f' := f) (h' := h) (R := fun s => s = .d (.v (.int .i64 (l.length : Nat))) ∧ l.length ≤ 9223372036854775807) hw (fun E H β a w hs hf hop => ?_) (by rintro s ⟨rfl, h⟩; exact hr h)
 have g1 := hop x (by rw [ho]; simp [Op.operands, Call.operands])
 rw [hx] at g1
 obtain ⟨A, c, h1, h2, h3, _⟩ := vd_sl (vs_d g1)
 have hrun := len_run (P := P) ho hu h1 w
 unfold Oper.wp
 rw [hrun]
 rw [List.length_map] at h2
 exact ⟨H, β, _, _, rfl, hs, hf, .d (.v _), by rw [List.length_map], by unfold maxLen at h3; omega⟩
theorem p_buildarr {t m sz : Nat} {el : TypeId} {parts : Array (Nat × Operand)} {z : Value} {r : List S} (ho : o.op = .build t parts) (hu : P.underlying t = some (.array m el)) (hs : sizeB P el sz = true) (hz : zeroB P t z) (hr : fillS h (fun i => some (i * sz, sz)) e (z.cells.toList.map fun x => .d (.v x)) parts.toList = some r) :
  Pure P o e h (.agg r) := fun E H β ρ w hsim hop => by
 have hc0 : CellsAt H β z.cells (z.cells.toList.map fun x => .d (.v x)) := ⟨by simp, fun j v s hj hs' => by
  rw [List.getElem?_map, Array.getElem?_toList, hj] at hs'
  cases hs'
  exact .d (.v _)⟩
 obtain ⟨ys, y1, y2⟩ := fill_spec hsim (ρ := ρ) parts.toList _ r z.cells hc0 (fun x hx => hop x (by rw [ho]; simpa [Op.operands] using hx)) hr
 refine ⟨.agg ys, ?_, .agg ys r y2.1 y2.2⟩
 have hfl : (parts.map fun (i, x) => (i, ρ x)).toList = parts.toList.map fun (i, x) => (i, ρ x) := by simp
 unfold execOp
 simp only [ho, Instr.build, Sem.run_bind, zeroB.run hz, Result.andThen_ok, run_underlying hu, sizeB.run hs, hfl, y1, Sem.run_pure]
/-- the same at an index that is some number -/
theorem p_index1i {t m k : Nat} {x y : Operand} {l : List D} {d : D} {el : TypeId} {ik : IntKind} {a : Int} (ho : o.op = .index t x y) (hx : e x = .d (.agg l)) (hy : e y = .d (.v (.int ik a))) (ha : a = (k : Int)) (hu : P.underlying t = some (.array m el)) (hs : scB P el = true) (h1 : sizeB P el 1 = true) (hk : k < m) (hd : l[k]? = some d) : Pure P o e h (.d d) := by
 subst ha; exact p_index1 ho hx hy hu hs h1 hk hd
theorem p_lenm {t el : TypeId} {x : Operand} {sz : Nat} {g : α → List D} {l : List α} (ho : o.op = .call { callee := .builtin .len, args := #[x], argTypes := #[t] }) (hx : e x = .d (.sl sz (l.map g))) (hu : P.underlying t = some (.slice el)) : Pure P o e h (.d (.v (.int .i64 (l.length : Nat)))) := by
 have := p_len (P := P) (h := h) ho hx hu
 rwa [List.length_map] at this
theorem p_len_ownm {t el : TypeId} {x : Operand} {i sz : Nat} {ty : TypeId} {g : α → List D} {l : List α} (ho : o.op = .call { callee := .builtin .len, args := #[x], argTypes := #[t] }) (hx : e x = .own i) (hi : h i = some (.row ty sz (l.map g))) (hu : P.underlying t = some (.slice el)) : Pure P o e h (.d (.v (.int .i64 (l.length : Nat)))) := by
 have := p_len_own (P := P) ho hx hi hu
 rwa [List.length_map] at this
theorem p_idx_map {t sz : Nat} {x y : Operand} {g : α → List D} {l : List α} {a : α} {k : Nat} {ik : IntKind} (ho : o.op = .indexAddr t x y) (hx : e x = .d (.sl sz (l.map g))) (hy : e y = .d (.v (.int ik k))) (hf : elB P t sz = true) (hk : l[k]? = some a) : Pure P o e h (.d (.pt (g a))) :=
 p_idx_sl ho hx hy hf (by rw [List.getElem?_map, hk]; rfl)
theorem p_idx_ownm {t sz : Nat} {x y : Operand} {i k : Nat} {ik : IntKind} {ty : TypeId} {g : α → List D} {l : List α} (ho : o.op = .indexAddr t x y) (hx : e x = .own i) (hy : e y = .d (.v (.int ik k))) (hi : h i = some (.row ty sz (l.map g))) (hf : elB P t sz = true) (hk : k < l.length) : Pure P o e h (.ptr i k 0) :=
 p_idx_own ho hx hy hi hf (by rw [List.length_map]; exact hk)
theorem p_idx_mapi {t sz : Nat} {x y : Operand} {g : α → List D} {l : List α} {b : α} {k : Nat} {ik : IntKind} {a : Int} (ho : o.op = .indexAddr t x y) (hx : e x = .d (.sl sz (l.map g))) (hy : e y = .d (.v (.int ik a))) (ha : a = (k : Int)) (hf : elB P t sz = true) (hk : l[k]? = some b) : Pure P o e h (.d (.pt (g b))) := by
 subst ha; exact p_idx_map ho hx hy hf hk
theorem p_idx_owni {t sz : Nat} {x y : Operand} {i k : Nat} {ik : IntKind} {a : Int} {ty : TypeId} {g : α → List D} {l : List α} (ho : o.op = .indexAddr t x y) (hx : e x = .own i) (hy : e y = .d (.v (.int ik a))) (ha : a = (k : Int)) (hi : h i = some (.row ty sz (l.map g))) (hf : elB P t sz = true) (hk : k < l.length) : Pure P o e h (.ptr i k 0) := by
 subst ha; exact p_idx_ownm ho hx hy hi hf hk
theorem p_slice_map {t sz : Nat} {x : Operand} {lo hi : Option Operand} {g : α → List D} {l : List α} {a b : Nat} (ho : o.op = .slice t x lo hi none) (hx : e x = .d (.sl sz (l.map g))) (hf : elB P t sz = true)
  (hlo : Bd e lo 0 a) (hhi : Bd e hi l.length b) (hab : a ≤ b) (hb : b ≤ l.length) : Pure P o e h (.d (.sl sz (((l.take b).drop a).map g))) := by
 have := p_slice (P := P) (h := h) ho hx hf hlo (b := b) (by rw [List.length_map]; exact hhi) hab (by rw [List.length_map]; exact hb)
 rwa [← List.map_take, ← List.map_drop] at this
theorem map_app {g : α → List D} {l l' : List α} : l.map g ++ l'.map g = (l ++ l').map g := by rw [List.map_append]
end
/-- a region whose order is left open, step by step -/
def ChK (P : Program) (n : Nat) (ops : Array Oper) (rest : List Oper) (f : Fr) (h : Xh) (acc : List (List Nat × S)) (G : List (List Nat × S) → Fr → Xh → Prop) : Prop := ∃ L f' h', Ch P n ops rest f h L f' h' ∧ G (acc ++ L) f' h'
section
variable {P : Program} {n : Nat} {ops : Array Oper} {rest : List Oper} {f : Fr} {h h1 : Xh} {o : Oper} {s : S} {ids : List Nat} {acc : List (List Nat × S)} {G : List (List Nat × S) → Fr → Xh → Prop}
theorem ChK.nil (hg : G acc f h) : ChK P n ops [] f h acc G := ⟨[], f, h, .nil _ _, by rw [List.append_nil]; exact hg⟩
theorem ChK.cons (hw : wantB ops f n o.guard = some true) (hc : CStep P o f h ids s h1) (hr : ChK P n ops rest (fput f o.dst s) h1 (acc ++ [(ids, s)]) G) : ChK P n ops (o :: rest) f h acc G := by
 obtain ⟨L, f', h', k1, k2⟩ := hr
 exact ⟨(ids, s) :: L, f', h', .cons hw hc k1, by rw [List.append_assoc] at k2; exact k2⟩
theorem ChK.skip (hw : wantB ops f n o.guard = some false) (hr : ChK P n ops rest (fput f o.dst (.d (.v undef))) h (acc ++ [([], .d (.v undef))]) G) : ChK P n ops (o :: rest) f h acc G := by
 obtain ⟨L, f', h', k1, k2⟩ := hr
 exact ⟨_ :: L, f', h', .skip hw k1, by rw [List.append_assoc] at k2; exact k2⟩
theorem xw_any {id : Nat} {l : List Oper} {K : Kont} (sites : List Nat) (hm : P.follows .mixedOrders = true) (hin : l.all (inN n) = true) (hreg : regB l.toArray l = true) (hnd : sites.Nodup)
  (hc : ChK P n l.toArray l (fkills f sites) (hkills h sites) [] (fun L f' h' => L.flatMap (·.1) = sites ∧ K .normal f' h')) : XW P n (.region id l.toArray true) K f h := by
 obtain ⟨L, f', h', k1, k2, k3⟩ := hc
 exact xw_draw sites hm hin hreg k1 k2 hnd k3
end
theorem sApp {e : TypeId} {sz : Nat} {α : Type} {g : α → List D} {l l' : List α} {a : α} {ds : List D} (hd : ds = g a) (hl : l' = l ++ [a]) : some (XO.row e sz (l.map g ++ [ds])) = some (XO.row e sz (l'.map g)) := by rw [hl, hd, List.map_append]; rfl
theorem sApps {e : TypeId} {sz : Nat} {α : Type} {g : α → List D} {l l' m : List α} (hl : l' = l ++ m) : some (XO.row e sz (l.map g ++ m.map g)) = some (XO.row e sz (l'.map g)) := by rw [hl, List.map_append]
theorem take_snoc {α : Type} {l : List α} {k : Nat} {x : α} (h : l[k]? = some x) : l.take (k + 1) = l.take k ++ [x] := by rw [List.take_add_one, h, Option.toList_some]
theorem rI {a b : Int} (h : a = b) : D.v (.int .i64 a) = .v (.int .i64 b) := by rw [h]
theorem rB {a b : Bool} (h : a = b) : D.v (.bool a) = .v (.bool b) := by rw [h]
theorem sI {a b : Int} (h : a = b) : S.d (.v (.int .i64 a)) = .d (.v (.int .i64 b)) := by rw [h]
theorem sB {a b : Bool} (h : a = b) : S.d (.v (.bool a)) = .d (.v (.bool b)) := by rw [h]
theorem r2 {a b a' b' : D} (h : a = a') (h' : b = b') : D.tup [a, b] = .tup [a', b'] := by rw [h, h']
theorem r3 {a b c a' b' c' : D} (h : a = a') (h' : b = b') (h'' : c = c') : D.tup [a, b, c] = .tup [a', b', c'] := by rw [h, h', h'']
theorem rSl {sz : Nat} {α : Type} {g : α → List D} {l l' : List α} (h : l = l') : D.sl sz (l.map g) = .sl sz (l'.map g) := by rw [h]
theorem sRow {e : TypeId} {sz : Nat} {α : Type} {g : α → List D} {l l' : List α} (h : l = l') : some (XO.row e sz (l.map g)) = some (XO.row e sz (l'.map g)) := by rw [h]
end Go.Proofs.YtcihalbakenleaaGreat
namespace Go.Proofs.YtcihalbakenleaaGreat
open Go.RowKit
mutual
/-- what data may be taken for -/
inductive DSub : D → D → Prop where
  | same {d d' : D} (h : d = d') : DSub d d'
  | nil (sz : Nat) : DSub (.v (.slice none 0 0)) (.sl sz [])
  | agg {l l' : List D} (h : DSubL l l') : DSub (.agg l) (.agg l')
inductive DSubL : List D → List D → Prop where
  | nil : DSubL [] []
  | cons {d d' : D} {l l' : List D} (h : DSub d d') (hl : DSubL l l') : DSubL (d :: l) (d' :: l')
end
theorem DSubL.length : ∀ {l l' : List D}, DSubL l l' → l.length = l'.length
  | _, _, .nil => rfl
  | _, _, .cons _ hl => by simp [hl.length]
theorem DSubL.get : ∀ {l l' : List D}, DSubL l l' → ∀ {i : Nat} {d' : D}, l'[i]? = some d' → ∃ d, l[i]? = some d ∧ DSub d d'
  | _, _, .cons h _, 0, _, e => by simp at e; subst e; exact ⟨_, rfl, h⟩
  | _, _, .cons _ hl, i + 1, d', e => by
    obtain ⟨d, h1, h2⟩ := hl.get (i := i) (d' := d') (by simpa using e)
    exact ⟨d, by simpa using h1, h2⟩
mutual
theorem DSub.vd : ∀ {d d' : D}, DSub d d' → ∀ {H : Hp} {u : Value}, VD H u d → VD H u d'
  | _, _, .same h, _, _, hv => by subst h; exact hv
  | _, _, .nil sz, _, _, hv => by rw [vd_v hv]; exact .emp none 0 sz (fun _ => rfl) (Nat.zero_le _)
  | _, _, .agg h, H, u, hv => by
    obtain ⟨cs, rfl, h1, h2⟩ := vd_agg hv
    refine .agg cs _ (h1.trans h.length) fun i x d' hx hd => ?_
    exact DSubL.vd h hd fun d hd' => h2 i x d hx hd'
theorem DSubL.vd : ∀ {l l' : List D}, DSubL l l' → ∀ {i : Nat} {d' : D}, l'[i]? = some d' → ∀ {H : Hp} {x : Value}, (∀ d, l[i]? = some d → VD H x d) → VD H x d'
  | _, _, .cons h _, 0, _, e, _, _, hv => by simp at e; subst e; exact h.vd (hv _ rfl)
  | _, _, .cons _ hl, i + 1, d', e, _, _, hv => DSubL.vd hl (i := i) (by simpa using e) fun d hd => hv d (by simpa using hd)
end
theorem RV.sub {P : Program} {n : Nat} {f : Fr} {h : Xh} {rv : ResultVar} {d d' : D} (hr : RV P n f h rv d) (hs : DSub d d') : RV P n f h rv d' := fun E H β a w h1 h2 => by
  obtain ⟨u, e, v⟩ := hr E H β a w h1 h2
  exact ⟨u, e, hs.vd v⟩
/-- operands that hold data, as data they may be taken for -/
inductive AS (f : Fr) : List Operand → List D → Prop where
  | nil : AS f [] []
  | cons {x : Operand} {l : List Operand} {d d' : D} {ds : List D} (hx : ev f x = .d d) (hs : DSub d d') (hl : AS f l ds) : AS f (x :: l) (d' :: ds)
theorem AS.len {f : Fr} {l : List Operand} {ds : List D} (h : AS f l ds) : l.length = ds.length := by
  induction h with
  | nil => rfl
  | cons _ _ _ ih => simp [ih]
theorem AS.get {f : Fr} {l : List Operand} {ds : List D} (h : AS f l ds) : ∀ {i : Nat} {x : Operand} {d : D}, l[i]? = some x → ds[i]? = some d → ∃ d0, ev f x = .d d0 ∧ DSub d0 d := by
  induction h with
  | nil => intro i x d h; simp at h
  | @cons x l d d' ds hx hs _ ih =>
    intro i y e h1 h2
    cases i with
    | zero => simp at h1 h2; subst h1 h2; exact ⟨d, hx, hs⟩
    | succ i => exact ih (by simpa using h1) (by simpa using h2)
theorem AS.vd {f : Fr} {H : Hp} {β : Bt} {a : Act} {args : Array Operand} {ds : List D} (ha : AS f args.toList ds) (hv : ∀ x ∈ args, VS H β (a.eval x) (ev f x)) :
    (args.map a.eval).size = ds.length ∧ ∀ (i : Nat) (x : Value) (d : D), (args.map a.eval)[i]? = some x → ds[i]? = some d → VD H x d := by
  have hl := ha.len
  rw [Array.length_toList] at hl
  refine ⟨by simpa using hl, fun i x d hx hd => ?_⟩
  have hi : i < args.size := by have := (List.getElem?_eq_some_iff.1 hd).1; omega
  have hx' : x = a.eval args[i] := by
    rw [Array.getElem?_map, Array.getElem?_eq_getElem hi] at hx
    simpa using hx.symm
  obtain ⟨d0, h1, h2⟩ := ha.get (i := i) (x := args[i]) (by rw [Array.getElem?_toList, Array.getElem?_eq_getElem hi]) hd
  have := hv args[i] (Array.getElem_mem hi)
  rw [h1] at this
  rw [hx']
  exact h2.vd (vs_d this)
section
variable {P : Program} {n : Nat} {ops : Array Oper} {rest : List Oper} {K : Kont} {f : Fr} {h : Xh} {o : Oper} {F : FuncId} {ds : List D} {args : Array Operand} {tys : Array TypeId} {r : D}
theorem XL.calls (ho : o.op = .call { callee := .value (.func F), args := args, argTypes := tys }) (hw : wantB ops f n o.guard = some true) (hx : XC P F ds (fun d => d = r))
    (ha : AS f args.toList ds) (hr : XL P n ops rest K (fput f o.dst (.d r)) h) : XL P n ops (o :: rest) K f h := by
  refine XL.stepR (f' := f) (h' := h) (R := fun s => s = .d r) hw (fun E H β a w hs hf hop => ?_) (by rintro s rfl; exact hr)
  have hop' : ∀ x ∈ args, VS H β (a.eval x) (ev f x) := fun x hx => hop x (by rw [ho]; simp [Op.operands, Call.operands, hx])
  obtain ⟨hsz, hvd⟩ := ha.vd hop'
  have hrun : (execOp a.eval o).run P w = .ok (.enter F (args.map a.eval)) w := by
    have := hx.callable.run (args.map a.eval) w
    unfold execOp
    simp only [ho, resolve, Act.eval, Deferred.ofValue, Sem.run_bind, Sem.run_pure, Result.andThen_ok, invoke, Array.append_empty, Array.empty_append]
    exact this
  unfold Oper.wp
  rw [hrun]
  refine (hx.calls H w _ hs.imm hsz hvd).mono ?_
  rintro e w' ⟨H', u, r', rfl, rfl, hle, hnew, him, hb, hu⟩
  exact ⟨H', β, u, .d r', rfl, hs.call hb hle hnew him, hf.mono hle (fun _ _ h => h), .d hu, rfl⟩
theorem CStep.calls (ho : o.op = .call { callee := .value (.func F), args := args, argTypes := tys }) (hx : XC P F ds (fun d => d = r)) (ha : AS f args.toList ds) : CStep P o f h [] (.d r) h :=
  ⟨HLe.refl _, fun _ _ e => .inl e, fun hF hle E H β a w hs _ hop => by
    have hop' : ∀ x ∈ args, VS H β (a.eval x) (ev f x) := fun x hx => hop x (by rw [ho]; simp [Op.operands, Call.operands, hx])
    obtain ⟨hsz, hvd⟩ := ha.vd hop'
    have hrun : (execOp a.eval o).run P w = .ok (.enter F (args.map a.eval)) w := by
      have := hx.callable.run (args.map a.eval) w
      unfold execOp
      simp only [ho, resolve, Act.eval, Deferred.ofValue, Sem.run_bind, Sem.run_pure, Result.andThen_ok, invoke, Array.append_empty, Array.empty_append]
      exact this
    unfold Oper.wp
    rw [hrun]
    refine (hx.calls H w _ hs.imm hsz hvd).mono ?_
    rintro e w' ⟨H', u, r', rfl, rfl, hle', hnew, him, hb, hu⟩
    exact ⟨H', β, u, rfl, hs.call hb hle' hnew him, hle', fun _ _ h => h, fun _ _ => rfl, .d hu⟩⟩
/-- an own row's elements taken for others -/
theorem OKo.sub {base : Nat} {w : World} {H : Hp} {β : Bt} {L : Loc} {e : TypeId} {sz : Nat} {l l' : List (List D)} (hk : OKo base w H β L (.row e sz l)) (hl : l.length = l'.length) (hs : ∀ (k : Nat) (x x' : List D), l[k]? = some x → l'[k]? = some x' → DSubL x x') : OKo base w H β L (.row e sz l') := by
  obtain ⟨h0, hz, hv, us, h2, h3, h4⟩ := hk
  have hget : ∀ (k : Nat) (x' : List D), l'[k]? = some x' → ∃ x, l[k]? = some x ∧ DSubL x x' := fun k x' hx' => by
    have hk : k < l.length := by rw [hl]; exact (List.getElem?_eq_some_iff.1 hx').1
    exact ⟨_, List.getElem?_eq_getElem hk, hs k _ x' (List.getElem?_eq_getElem hk) hx'⟩
  refine ⟨h0, fun x' hx' => ?_, hv, us, by rw [← hl]; exact h2, h3, fun k j x' d' hx' hd' => ?_⟩
  · obtain ⟨k, hk⟩ := List.getElem?_of_mem hx'
    obtain ⟨x, h1, h2⟩ := hget k x' hk
    rw [← h2.length]
    exact hz x (List.mem_of_getElem? h1)
  · obtain ⟨x, h1, h2⟩ := hget k x' hx'
    obtain ⟨d, h5, h6⟩ := h2.get hd'
    obtain ⟨u, h7, h8⟩ := h4 k j x d h1 h5
    exact ⟨u, h7, h6.vd h8⟩
theorem Sim.rowsub {E : Env} {H : Hp} {β : Bt} {w : World} (s : Sim E H β h w) {i : Nat} {e : TypeId} {sz : Nat} {l l' : List (List D)} (hi : h i = some (.row e sz l)) (hl : l.length = l'.length) (hs : ∀ (k : Nat) (x x' : List D), l[k]? = some x → l'[k]? = some x' → DSubL x x') :
    Sim E H β (h.set i (.row e sz l')) w := by
  have aux : ∀ j o L, h.set i (.row e sz l') j = some o → β j = some L → ∃ o', h j = some o' ∧ o.blk L = o'.blk L ∧ (OKo E.w.heap.size w H β L o' → OKo E.w.heap.size w H β L o) := by
    intro j o L ho hL
    by_cases e' : i = j
    · subst e'
      rw [Xh.set_same] at ho
      cases ho
      exact ⟨_, hi, rfl, fun hk => hk.sub hl hs⟩
    · rw [Xh.set_ne _ _ e'] at ho
      exact ⟨o, ho, rfl, fun hk => hk⟩
  refine ⟨s.below, s.ext, s.new, s.imm, fun j o L ho hL => ?_, fun j o L ho hL b hb => ?_, fun j j' o o' L L' b hjj ho ho' hL hL' hb => ?_, fun j o ho hg => ?_⟩
  rotate_left 3
  · by_cases e' : i = j
    · subst e'; rw [Xh.set_same] at ho; cases ho; cases hg
    · rw [Xh.set_ne _ _ e'] at ho; exact s.dom j o ho hg
  · obtain ⟨o', h1, _, h3⟩ := aux j o L ho hL
    exact h3 (s.obj j o' L h1 hL)
  · obtain ⟨o', h1, h2, _⟩ := aux j o L ho hL
    rw [h2] at hb
    exact s.sep j o' L h1 hL b hb
  · obtain ⟨o1, h1, h2, _⟩ := aux j o L ho hL
    obtain ⟨o2, h3, h4, _⟩ := aux j' o' L' ho' hL'
    rw [h2] at hb
    rw [h4]
    exact s.inj j j' o1 o2 L L' b hjj h1 h3 hL hL' hb
/-- a row of one element -/
theorem XL.row1 {i : Nat} {e : TypeId} {sz : Nat} {x x' : List D} (hi : h i = some (.row e sz [x])) (hs : DSubL x x') (hr : XL P n ops rest K f (h.set i (.row e sz [x']))) : XL P n ops rest K f h := fun hin E H β a w h1 h2 =>
  hr hin E H β a w (h1.rowsub hi rfl fun k y y' e1 e2 => by
    match k with
    | 0 => simp at e1 e2; subst e1 e2; exact hs
    | k + 1 => simp at e1) h2
end
/-- a slice laid out, shared from the start -/
theorem slice_data {P : Program} {o : Oper} {f : Fr} {h : Xh} {E : Env} {H : Hp} {β : Bt} {a : Act} {w : World} {t ty : TypeId} {sz len : Nat} {parts : Array (Nat × Operand)} {z : Value} {l : List (List D)} (ho : o.op = .buildSlice t len parts) (hu : P.underlying t = some (.slice ty)) (hsz : sizeB P ty sz = true) (hz : zeroB P ty z)
    (hr : rowsOf h (ev f) sz parts.toList = some l) (hlen : parts.toList.map (·.1) = List.range len) (hpos : 0 < sz) (hmax : len * sz ≤ 16777216) {hF : Xh} (hle : HLe h hF) (hs : Sim E H β hF w) (hop : ∀ x ∈ o.op.operands, VS H β (a.eval x) (ev f x)) :
    ∃ (u : Value) (H' : Hp) (w' : World), (execOp a.eval o).run P w = .ok (.value u) w' ∧ Sim E H' β hF w' ∧ H.le H' ∧ VD H' u (.sl sz l) := by
  have hpl : parts.toList.length = len := by have := congrArg List.length hlen; simpa using this
  have hcells0 : CellsAt H β ((Array.range (len * sz)).map (z.cells[· % z.cells.size]!)) ((List.range (len * sz)).map fun j => .d (.v (z.cells[j % z.cells.size]!))) := by
    refine ⟨by simp, fun j v s hj hs' => ?_⟩
    rw [List.getElem?_map] at hs'
    rw [Array.getElem?_map] at hj
    by_cases hlt : j < len * sz
    · rw [List.getElem?_range hlt] at hs'
      have : (Array.range (len * sz))[j]? = some j := by simp [hlt]
      rw [this] at hj
      cases hj; cases hs'
      exact .d (.v _)
    · rw [List.getElem?_eq_none (by simpa using hlt)] at hs'; cases hs'
  have mono : ∀ (ps : List (Nat × Operand)) (l : List (List D)), rowsOf h (ev f) sz ps = some l → rowsOf hF (ev f) sz ps = some l := by
    intro ps
    induction ps with
    | nil => intro l h; exact h
    | cons q ps ih =>
      obtain ⟨i, x⟩ := q
      intro l hl
      unfold rowsOf at hl ⊢
      cases hc : cellsS h (ev f x) with
      | none => rw [hc] at hl; cases hl
      | some cs =>
        rw [hc] at hl
        rw [cellsS_mono hle hc]
        simp only at hl ⊢
        cases hd : datas cs with
        | none => rw [hd] at hl; cases hl
        | some ds =>
          rw [hd] at hl
          simp only at hl ⊢
          cases hr : rowsOf h (ev f) sz ps with
          | none => rw [hr] at hl; cases hl
          | some l' => rw [hr] at hl; rw [ih l' hr]; exact hl
  have hr' := mono _ _ hr
  obtain ⟨r1, r2, r3⟩ := rowsOf_spec parts.toList l 0 ((List.range (len * sz)).map fun j => S.d (.v (z.cells[j % z.cells.size]!))) hr' (by rw [hlen, hpl, List.range_eq_range']) (by simp [hpl])
  obtain ⟨ys, y1, y2⟩ := fill_spec hs (ρ := a.eval) parts.toList _ _ _ hcells0 (fun x hx => hop x (by rw [ho]; simpa [Op.operands] using hx)) r3
  have hll : l.length = len := by rw [r2, hpl]
  rw [Nat.zero_mul, List.take_zero, List.nil_append] at y2
  have hysz : ys.size = len * sz := by rw [y2.1, List.length_map, flatten_length r1, hll]
  have hrun : (execOp a.eval o).run P w = .ok (.value (.slice (some ⟨w.heap.size, 0, none⟩) l.length len)) (w.alloc (.cells ys ty)) := by
    have hfl : (parts.map fun (i, x) => (i, a.eval x)).toList = parts.toList.map fun (i, x) => (i, a.eval x) := by simp
    unfold execOp
    simp only [ho, Instr.buildSlice, Sem.run_bind, run_underlying hu, Result.andThen_ok, sizeB.run hsz, show ¬ len * sz > 2 ^ 24 by omega, if_false, Sem.run_pure]
    by_cases h0 : len * sz = 0
    · have hl0 : len = 0 := by
        rcases Nat.mul_eq_zero.1 h0 with h | h
        · exact h
        · omega
      subst hl0
      have hp0 : parts.toList = [] := List.eq_nil_of_length_eq_zero hpl
      have hys : ys = #[] := Array.eq_empty_of_size_eq_zero (by rw [hysz]; simp)
      simp only [h0, if_true, Sem.run_pure, Result.andThen_ok, hfl, hp0, List.map_nil, Instr.fill, newRow, Sem.run_bind, run_newObj, World.alloc_eq, hll, hys, range0]
    · simp only [h0, if_false, Sem.run_bind, zeroB.run hz, Result.andThen_ok, Sem.run_pure, hfl, y1, newRow, run_newObj, World.alloc_eq, hll]
  have hone : ∀ u ∈ ys, u.oneCell' = true := fun u hu => by
    obtain ⟨j, hj⟩ := Array.getElem?_of_mem hu
    have hjl := (Array.getElem?_eq_some_iff.1 hj).1
    have hd : ∃ d, l.flatten[j]? = some d := ⟨_, List.getElem?_eq_getElem (by rw [flatten_length r1, hll, ← hysz]; exact hjl)⟩
    obtain ⟨d, hd⟩ := hd
    have := y2.2 j u (.d d) hj (by rw [List.getElem?_map, hd]; rfl)
    exact vd_one (vs_d this) (rows_one hr' d (List.mem_of_getElem? hd))
  have hnone : ∀ off, H w.heap.size off = none := fun off => by
    cases e : H w.heap.size off with
    | none => rfl
    | some u => have := hs.imm.lt e; omega
  have hbel : Below w.heap.size w (w.alloc (.cells ys ty)) := (Below.refl _ _).alloc (Nat.le_refl _) _
  have him : Imm (H.plus w.heap.size (ys[·]?)) (w.alloc (.cells ys ty)) := fun b k u e => by
    rcases Hp.plus_new e with k1 | ⟨rfl, k2⟩
    · exact (hs.imm.below hbel) b k u k1
    · exact ⟨by rw [World.cell?_alloc_new]; exact k2, hone u (Array.mem_of_getElem? k2)⟩
  have hsim := hs.call hbel (Hp.plus_le H w.heap.size (ys[·]?)) (fun b k u e => by
    rcases Hp.plus_new e with k1 | ⟨rfl, _⟩
    · exact .inl k1
    · exact .inr (Nat.le_refl _)) him
  refine ⟨_, _, _, hrun, hsim, Hp.plus_le _ _ _, ?_⟩
  by_cases h0 : l = []
  · subst h0
    exact .emp _ _ _ (fun h => by cases h) (by have : len = 0 := (by rw [← hll]; rfl); unfold maxLen; omega)
  · have hget : ∀ (k j : Nat) (x : List D) (d : D), l[k]? = some x → x[j]? = some d → ys[0 + (k * sz + j)]? = some ((ys[k * sz + j]?).getD undef) ∧ VD H ((ys[k * sz + j]?).getD undef) d := by
      intro k j x d hk hj
      have hg := flatten_get r1 hk hj
      have hlt := (List.getElem?_eq_some_iff.1 hg).1
      rw [flatten_length r1, hll, ← hysz] at hlt
      have hy : ys[k * sz + j]? = some ys[k * sz + j] := Array.getElem?_eq_getElem hlt
      rw [Nat.zero_add, hy]
      exact ⟨rfl, vs_d (y2.2 _ _ (.d d) hy (by rw [List.getElem?_map, hg]; rfl))⟩
    exact .sl w.heap.size 0 l.length len sz l (fun k j => (ys[k * sz + j]?).getD undef) rfl (by omega) (by unfold maxLen; have : len ≤ len * sz := Nat.le_mul_of_pos_right _ hpos; omega) r1
      (fun k j x d h1 h2 => by rw [Hp.plus_at hnone]; exact (hget k j x d h1 h2).1) (fun k j x d h1 h2 => ((hget k j x d h1 h2).2).mono (Hp.plus_le _ _ _))
section
variable {P : Program} {n : Nat} {o : Oper} {f : Fr} {h : Xh} {t ty : TypeId} {sz len : Nat} {parts : Array (Nat × Operand)} {z : Value} {l : List (List D)}
theorem st_sliced (ho : o.op = .buildSlice t len parts) (hu : P.underlying t = some (.slice ty)) (hsz : sizeB P ty sz = true) (hz : zeroB P ty z)
    (hr : rowsOf h (ev f) sz parts.toList = some l) (hlen : parts.toList.map (·.1) = List.range len) (hpos : 0 < sz) (hmax : len * sz ≤ 16777216) : Step P n o f h (.d (.sl sz l)) f h := by
  intro E H β a w hs hf hop
  obtain ⟨u, H', w', r1, r2, r3, r4⟩ := slice_data ho hu hsz hz hr hlen hpos hmax (HLe.refl _) hs hop
  unfold Oper.wp
  rw [r1]
  exact ⟨H', β, u, rfl, r2, hf.mono r3 (fun _ _ h => h), .d r4⟩
theorem CStep.slice (ho : o.op = .buildSlice t len parts) (hu : P.underlying t = some (.slice ty)) (hsz : sizeB P ty sz = true) (hz : zeroB P ty z)
    (hr : rowsOf h (ev f) sz parts.toList = some l) (hlen : parts.toList.map (·.1) = List.range len) (hpos : 0 < sz) (hmax : len * sz ≤ 16777216) : CStep P o f h [] (.d (.sl sz l)) h :=
  ⟨HLe.refl _, fun _ _ e => .inl e, fun hF hle E H β a w hs _ hop => by
    obtain ⟨u, H', w', r1, r2, r3, r4⟩ := slice_data ho hu hsz hz hr hlen hpos hmax hle hs hop
    unfold Oper.wp
    rw [r1]
    exact ⟨H', β, u, rfl, r2, r3, fun _ _ h => h, fun _ _ => rfl, .d r4⟩⟩
end
section
variable {P : Program} {o : Oper} {e : Operand → S} {h : Xh} {t t' : TypeId} {x y : Operand} {a b : Int}
theorem p_and (ho : o.op = .binOp .and t x y t') (hx : e x = .d (.v (.int .i64 a))) (hy : e y = .d (.v (.int .i64 b))) (ha : 0 ≤ a) (ha' : a ≤ 9223372036854775807) (hb : 0 ≤ b) (hb' : b ≤ 9223372036854775807) : Pure P o e h (.d (.v (.int .i64 ((a.toNat &&& b.toNat : Nat) : Int)))) :=
  p_bin ho hx hy rfl (by simp) fun w => by
    obtain ⟨m, rfl⟩ : ∃ m : Nat, a = m := ⟨a.toNat, by omega⟩
    obtain ⟨k, rfl⟩ : ∃ k : Nat, b = k := ⟨b.toNat, by omega⟩
    have hm : m < 2 ^ 64 := by omega
    have hk : k < 2 ^ 64 := by omega
    have h1 : (BitVec.ofInt 64 (m : Int) &&& BitVec.ofInt 64 (k : Int)).toNat = m &&& k := by
      rw [BitVec.toNat_and, BitVec.ofInt_natCast, BitVec.ofInt_natCast, BitVec.toNat_ofNat, BitVec.toNat_ofNat, Nat.mod_eq_of_lt hm, Nat.mod_eq_of_lt hk]
    have hle : m &&& k ≤ m := Nat.and_le_left
    show (Op.intBits .and .i64 m k).run P w = _
    unfold Op.intBits
    simp only [Int.toNat_natCast]
    have h2 : IntKind.i64.wrap ((m &&& k : Nat) : Int) = ((m &&& k : Nat) : Int) := IntWalk.i64_in _ (by omega)
    show Result.ok (Value.int .i64 (IntKind.i64.wrap ((BitVec.ofInt 64 (m : Int) &&& BitVec.ofInt 64 (k : Int)).toNat : Int))) w = _
    rw [h1, h2]
theorem and_pow (n k : Nat) : n &&& 2 ^ k = if n / 2 ^ k % 2 = 1 then 2 ^ k else 0 := by
  have hb : n.testBit k = decide (n / 2 ^ k % 2 = 1) := Nat.testBit_eq_decide_div_mod_eq
  apply Nat.eq_of_testBit_eq
  intro j
  rw [Nat.testBit_and, Nat.testBit_two_pow]
  by_cases e : k = j
  · subst e
    rw [hb]
    split
    · rename_i h; simp [h]
    · rename_i h; simp [h]
  · split
    · rw [Nat.testBit_two_pow]; simp [e]
    · simp [e]
end
/- the same rules, what they leave written out -/
section
variable {P : Program} {n : Nat} {o : Oper} {f : Fr} {h : Xh}
theorem st_allocN (i : Nat) {l : List S} {t : TypeId} {z : Value} (ho : o.op = .alloc t) (hz : zeroB P t z) (hl : S.killL i (z.cells.toList.map fun x => .d (.v x)) = l) : Step P n o f h (.ptr i 0 0) (fkill f i) ((h.kill i).set i (.box l)) := by
  subst hl; exact st_alloc i ho hz
theorem st_boxN (i : Nat) {l : List S} {t : TypeId} {x : Operand} {cs : List S} (ho : o.op = .box t x) (hc : cellsS h (ev f x) = some cs) (hl : S.killL i cs = l) : Step P n o f h (.ptr i 0 0) (fkill f i) ((h.kill i).set i (.box l)) := by
  subst hl; exact st_box i ho hc
theorem st_storeN {t m : Nat} {x y : Operand} {i off : Nat} {l cs l' : List S} (ho : o.op = .store t x y) (hx : ev f x = .ptr i 0 off) (hi : h i = some (.box l)) (hc : cellsS h (ev f y) = some cs) (hz : sizeB P t m = true) (hm : cs.length = m) (hoff : off + m ≤ l.length) (hl : sets l off cs = l') :
    Step P n o f h (.d (.v undef)) f (h.set i (.box l')) := by
  subst hl; exact st_store ho hx hi hc hz hm hoff
theorem CStep.allocN (i : Nat) {l : List S} {t : TypeId} {z : Value} (ho : o.op = .alloc t) (hz : zeroB P t z) (hi : h i = none) (hl : (z.cells.toList.map fun x => S.d (.v x)) = l) : CStep P o f h [i] (.ptr i 0 0) (h.set i (.box l)) := by
  subst hl; exact CStep.alloc i ho hz hi
end
/- short forms of the commonest steps -/
section
variable {P : Program} {n : Nat} {ops : Array Oper} {rest : List Oper} {K K0 : Kont} {f : Fr} {h : Xh} {o : Oper} {x y z : Operand} {d : D} {b : Bool} {s : S}
theorem zp (hp : Pure P o (ev f) h s) (hr : XL P n ops rest K (fput f o.dst s) h) (hw : wantB ops f n o.guard = some true := by exact rfl) : XL P n ops (o :: rest) K f h := XL.pure hw hp hr
theorem zm (ho : o.op = .move x) (hs : ev f x = .d d) (hr : XL P n ops rest K (fput f o.dst (.d d)) h) (hw : wantB ops f n o.guard = some true := by exact rfl) : XL P n ops (o :: rest) K f h := XL.pure hw (p_move ho hs) hr
theorem za (ho : o.op = .assign x) (hs : ev f x = .d d) (hr : XL P n ops rest K (fput f o.dst (.d d)) h) (hw : wantB ops f n o.guard = some true := by exact rfl) : XL P n ops (o :: rest) K f h := XL.pure hw (p_assign ho hs) hr
theorem zq (ho : o.op = .pick z x y) (hc : ev f z = .d (.v (.bool b))) (hs : (bif b then ev f x else ev f y) = .d d) (hr : XL P n ops rest K (fput f o.dst (.d d)) h) (hw : wantB ops f n o.guard = some true := by exact rfl) : XL P n ops (o :: rest) K f h := XL.pure hw (p_pick_any ho hc hs) hr
def skB (ops : Array Oper) (n : Nat) : Nat → List Oper → Fr → Bool
  | 0, _, _ => true
  | _ + 1, [], _ => false
  | k + 1, o :: r, f => (match wantB ops f n o.guard with | some false => true | _ => false) && skB ops n k r (fput f o.dst (.d (.v undef)))
def skF : Nat → List Oper → Fr → Fr
  | 0, _, f => f
  | _ + 1, [], f => f
  | k + 1, o :: r, f => skF k r (fput f o.dst (.d (.v undef)))
theorem zk (k : Nat) (hk : skB ops n k rest f = true) (hr : XL P n ops (rest.drop k) K (skF k rest f) h) : XL P n ops rest K f h := by
  induction k generalizing rest f with
  | zero => exact hr
  | succ k ih =>
    cases rest with
    | nil => cases hk
    | cons o r =>
      rw [skB, Bool.and_eq_true] at hk
      have hw : wantB ops f n o.guard = some false := by
        have h1 := hk.1
        split at h1
        · assumption
        · cases h1
      exact XL.skip hw (ih hk.2 hr)
theorem zr {id : Nat} {l : List Oper} {c : Code} (hl : XL P n l.toArray l (kthen (XW P n c K) K) f h) (hin : l.all (inN n) = true := by kernel_rfl) : XW P n (.seq (.region id l.toArray false) c) K f h := xw_seq (xw_region hin hl)
theorem znr {id : Nat} {l : List Oper} {c : Code} (hl : XL P n l.toArray l (kthen (XW P n c K) K) f h) (hin : l.all (inN n) = true := by kernel_rfl) : XL P n ops [] (kthen (XW P n (.seq (.region id l.toArray false) c) K) K0) f h := XL.nil (zr hl hin)
theorem zng {id : Nat} {l : List Oper} (hl : XL P n l.toArray l K f h) (hin : l.all (inN n) = true := by kernel_rfl) : XL P n ops [] (kthen (XW P n (.region id l.toArray false) K) K0) f h := XL.nil (xw_region hin hl)
theorem yp {acc : List (List Nat × S)} {G : List (List Nat × S) → Fr → Xh → Prop} (hp : Pure P o (ev f) h s) (hr : ChK P n ops rest (fput f o.dst s) h (acc ++ [([], s)]) G) (hw : wantB ops f n o.guard = some true := by exact rfl) : ChK P n ops (o :: rest) f h acc G := ChK.cons hw (CStep.pure hp) hr
theorem ym {acc : List (List Nat × S)} {G : List (List Nat × S) → Fr → Xh → Prop} (ho : o.op = .move x) (hs : ev f x = .d d) (hr : ChK P n ops rest (fput f o.dst (.d d)) h (acc ++ [([], .d d)]) G) (hw : wantB ops f n o.guard = some true := by exact rfl) : ChK P n ops (o :: rest) f h acc G := ChK.cons hw (CStep.pure (p_move ho hs)) hr
theorem ya {acc : List (List Nat × S)} {G : List (List Nat × S) → Fr → Xh → Prop} (ho : o.op = .assign x) (hs : ev f x = .d d) (hr : ChK P n ops rest (fput f o.dst (.d d)) h (acc ++ [([], .d d)]) G) (hw : wantB ops f n o.guard = some true := by exact rfl) : ChK P n ops (o :: rest) f h acc G := ChK.cons hw (CStep.pure (p_assign ho hs)) hr
theorem zn (hk : K .normal f h) : XL P n ops [] K f h := XL.nil hk
theorem zs {x y : Code} (hx : XW P n x (kthen (XW P n y K) K) f h) : XW P n (.seq x y) K f h := xw_seq hx
theorem zt (hk : K .ret f h) : XW P n .ret K f h := xw_ret hk
theorem zi (hk : K .normal f h) : XW P n .skip K f h := xw_skip hk
theorem zd {c : Operand} {x y : Code} {p : Prop} [Decidable p] (hc : ev f c = .d (.v (.bool (decide p)))) (h1 : p → XW P n x K f h) (h2 : ¬ p → XW P n y K f h) (hi : opIn n c = true := by kernel_rfl) : XW P n (.cond c x y) K f h := xw_dec hi hc h1 h2
theorem z1 {fn : Func} {R : D → Prop} {t : Nat} (hr : fn.results = #[.tmp t]) (hf : f t = .d d) (hR : R d) (ht : Nat.blt t n = true := by exact rfl) : RetOK P n fn R f h := ret1 hr (RV.tmp ht hf) hR
theorem sr {s : S} : Sub s s := .same rfl
def FA (f : Fr) : List (Nat × S) → Prop
  | [] => True
  | (t, s) :: l => Sub (f t) s ∧ FA f l
theorem fz : ∀ {l : List (Nat × S)}, FA f l → FSub n f (mkF l)
  | [], _ => FSub.nil
  | (_, _) :: _, h => FSub.cons h.1 (fz h.2)
def HA (h : Xh) : List (Nat × XO) → Prop
  | [] => True
  | (i, o) :: l => h i = some o ∧ HA h l
theorem gz : ∀ {l : List (Nat × XO)}, HA h l → HSub h (mkH l)
  | [], _ => HSub.nil
  | (_, _) :: _, k => HSub.cons k.1 (gz k.2)
end
end Go.Proofs.YtcihalbakenleaaGreat
namespace Go.Proofs.YtcihalbakenleaaGreat
open Go.RowKit
def semi : Nat → Int
 | 0 => 0 | 1 => 2 | 2 => 4 | 3 => 5 | 4 => 7 | 5 => 9 | _ => 11
theorem semi_bd (k : Nat) : 0 ≤ semi k ∧ semi k ≤ 11 := by unfold semi; split <;> omega
def semisD : List D := [dI 0, dI 2, dI 4, dI 5, dI 7, dI 9, dI 11]
theorem semis_get (k : Nat) (h : k < 7) : semisD[k]? = some (dI (semi k)) := by
 match k, h with
 | 0, _ => rfl | 1, _ => rfl | 2, _ => rfl | 3, _ => rfl | 4, _ => rfl | 5, _ => rfl | 6, _ => rfl
 | k + 7, h => omega
def Pit.inR (p : Pit) : Prop := 0 ≤ p.step ∧ p.step ≤ 6 ∧ -2 ≤ p.alter ∧ p.alter ≤ 2 ∧ -1 ≤ p.oct ∧ p.oct ≤ 9
instance (p : Pit) : Decidable p.inR := by unfold Pit.inR; exact inferInstance
def Pit.n (p : Pit) : Int := 12 * (p.oct + 1) + semi p.step.toNat + p.alter
def Pit.good (p : Pit) : Prop := p.inR ∧ 0 ≤ p.n ∧ p.n ≤ 127
instance (p : Pit) : Decidable p.good := by unfold Pit.good; exact inferInstance
/-- the error of a pitch, its number -/
def Pit.err (p : Pit) : Int := if p.good then 0 else 18
def Pit.num (p : Pit) : Int := if p.good then p.n else 0
theorem semitones_xc  : XC Tryz.prog 192 [] (fun r => r = .agg semisD) := by
 refine xc_body callable_192 Tryz.func192 rfl rfl (Nat.le_of_ble_eq_true rfl) ?_
 refine zr ?_
 refine XL.step rfl (st_allocN 0 (l := [.d (dI 0), .d (dI 0), .d (dI 0), .d (dI 0), .d (dI 0), .d (dI 0), .d (dI 0)]) rfl zero_210 (by kernel_rfl)) ?_
 refine znr ?_
 refine zp (pure_eq (s' := .d (.agg [dI 0, dI 2, dI 4, dI 5, dI 7, dI 9, dI 11])) (norm_pure (p_buildarr rfl Tryz.underlying210 sz_3 zero_210 rfl)) (by kernel_rfl)) ?_
 refine XL.step rfl (st_storeN (l' := [.d (dI 0), .d (dI 2), .d (dI 4), .d (dI 5), .d (dI 7), .d (dI 9), .d (dI 11)]) rfl rfl rfl rfl sz_210 rfl (Nat.le_of_ble_eq_true rfl) (by kernel_rfl)) ?_
 refine zn ?_
 refine zt ?_
 exact ret1 rfl (RV.cells rfl rfl rfl agg_210 (Nat.le_of_ble_eq_true rfl) rfl) (rfl)
theorem pnumber_xc (p : Pit) (h : p.inR) : XC Tryz.prog 189 [.agg (Pit.c p)] (fun r => r = dI p.n) := by
 obtain ⟨k, hk⟩ : ∃ k : Nat, p.step = k := ⟨p.step.toNat, by have := h.1; omega⟩
 have hb := semi_bd k
 have h' := h
 simp only [Pit.inR] at h
 refine xc_body callable_189 Tryz.func189 rfl rfl (Nat.le_of_ble_eq_true rfl) ?_
 refine zr ?_
 refine XL.step rfl (st_boxN 1 (l := [.d (dI p.step), .d (dI p.alter), .d (dI p.oct)]) rfl rfl (by kernel_rfl)) ?_
 refine za rfl rfl ?_
 refine zn ?_
 refine zs ?_
 refine xw_any [] (by kernel_rfl) (by kernel_rfl) (by kernel_rfl) (by decide) ?_
 refine yp (p_fld_ptr rfl rfl fld_89_2) ?_
 refine yp (p_load_box rfl rfl sc_3 rfl rfl) ?_
 refine yp (p_add rfl rfl rfl (by omega) (by omega)) ?_
 refine yp (p_mul rfl rfl rfl (by omega) (by omega)) ?_
 refine ChK.cons rfl (CStep.call rfl (semitones_xc) rfl) ?_
 refine yp (p_fld_ptr rfl rfl fld_89_0) ?_
 refine yp (p_load_box rfl rfl sc_3 rfl rfl) ?_
 refine yp (p_index1i (k := k) rfl rfl rfl hk Tryz.underlying210 sc_3 sz_3 (by omega) (semis_get k (by omega))) ?_
 refine yp (p_add rfl rfl rfl (by omega) (by omega)) ?_
 refine yp (p_fld_ptr rfl rfl fld_89_1) ?_
 refine yp (p_load_box rfl rfl sc_3 rfl rfl) ?_
 refine yp (p_add rfl rfl rfl (by omega) (by omega)) ?_
 refine ya rfl rfl ?_
 refine ChK.nil ⟨by kernel_rfl, ?_⟩
 refine zt ?_
 exact z1 rfl rfl (rI (by rw [Pit.n, hk]; rfl))
theorem Pit.inR_mk {p : Pit} (h1 : ¬ p.step < 0) (h2 : ¬ 6 < p.step) (h3 : ¬ p.alter < -2) (h4 : ¬ 2 < p.alter) (h5 : ¬ p.oct < -1) (h6 : ¬ 9 < p.oct) : p.inR := ⟨by omega, by omega, by omega, by omega, by omega, by omega⟩
theorem Pit.err_no {p : Pit} (h : ¬ p.good) : 18 = p.err := by rw [Pit.err, if_neg h]
theorem Pit.err_ok {p : Pit} (h : p.good) : 0 = p.err := by rw [Pit.err, if_pos h]
theorem pcheck_xc (p : Pit) : XC Tryz.prog 188 [.agg (Pit.c p)] (fun r => r = dI p.err) := by
 refine xc_body callable_188 Tryz.func188 rfl rfl (Nat.le_of_ble_eq_true rfl) ?_
 refine zr ?_
 refine XL.step rfl (st_boxN 1 (l := [.d (dI p.step), .d (dI p.alter), .d (dI p.oct)]) rfl rfl (by kernel_rfl)) ?_
 refine za rfl rfl ?_
 refine zn ?_
 refine zs ?_
 refine zr ?_
 refine zp (p_fld_ptr rfl rfl fld_89_0) ?_
 refine zp (p_load_box rfl rfl sc_3 rfl rfl) ?_
 refine zp (p_lss rfl rfl rfl) ?_
 refine zm rfl rfl ?_
 refine XL.dec 7 rfl (fun g7 => ?_) (fun g7 => ?_)
 refine zk 3 rfl ?_
 refine zq rfl rfl rfl ?_
 refine zm rfl rfl ?_
 refine zk 3 rfl ?_
 refine zq rfl rfl rfl ?_
 refine zm rfl rfl ?_
 refine zk 3 rfl ?_
 refine zq rfl rfl rfl ?_
 refine zm rfl rfl ?_
 refine zk 3 rfl ?_
 refine zq rfl rfl rfl ?_
 refine zm rfl rfl ?_
 refine zk 3 rfl ?_
 refine zq rfl rfl rfl ?_
 refine zn ?_
 refine xw_true (by kernel_rfl) rfl ?_
 refine zr ?_
 refine za rfl rfl ?_
 refine zn ?_
 refine zt ?_
 exact z1 rfl rfl (rI (Pit.err_no fun h => by obtain ⟨⟨h1, h2, h3, h4, h5, h6⟩, _⟩ := h; omega))
 refine zp (p_fld_ptr rfl rfl fld_89_0) ?_
 refine zp (p_load_box rfl rfl sc_3 rfl rfl) ?_
 refine zp (p_gtr rfl rfl rfl) ?_
 refine zq rfl rfl rfl ?_
 refine zm rfl rfl ?_
 refine XL.dec 12 rfl (fun g12 => ?_) (fun g12 => ?_)
 refine zk 3 rfl ?_
 refine zq rfl rfl rfl ?_
 refine zm rfl rfl ?_
 refine zk 3 rfl ?_
 refine zq rfl rfl rfl ?_
 refine zm rfl rfl ?_
 refine zk 3 rfl ?_
 refine zq rfl rfl rfl ?_
 refine zm rfl rfl ?_
 refine zk 3 rfl ?_
 refine zq rfl rfl rfl ?_
 refine zn ?_
 refine xw_true (by kernel_rfl) rfl ?_
 refine zr ?_
 refine za rfl rfl ?_
 refine zn ?_
 refine zt ?_
 exact z1 rfl rfl (rI (Pit.err_no fun h => by obtain ⟨⟨h1, h2, h3, h4, h5, h6⟩, _⟩ := h; omega))
 refine zp (p_fld_ptr rfl rfl fld_89_1) ?_
 refine zp (p_load_box rfl rfl sc_3 rfl rfl) ?_
 refine zp (p_lss rfl rfl rfl) ?_
 refine zq rfl rfl rfl ?_
 refine zm rfl rfl ?_
 refine XL.dec 17 rfl (fun g17 => ?_) (fun g17 => ?_)
 refine zk 3 rfl ?_
 refine zq rfl rfl rfl ?_
 refine zm rfl rfl ?_
 refine zk 3 rfl ?_
 refine zq rfl rfl rfl ?_
 refine zm rfl rfl ?_
 refine zk 3 rfl ?_
 refine zq rfl rfl rfl ?_
 refine zn ?_
 refine xw_true (by kernel_rfl) rfl ?_
 refine zr ?_
 refine za rfl rfl ?_
 refine zn ?_
 refine zt ?_
 exact z1 rfl rfl (rI (Pit.err_no fun h => by obtain ⟨⟨h1, h2, h3, h4, h5, h6⟩, _⟩ := h; omega))
 refine zp (p_fld_ptr rfl rfl fld_89_1) ?_
 refine zp (p_load_box rfl rfl sc_3 rfl rfl) ?_
 refine zp (p_gtr rfl rfl rfl) ?_
 refine zq rfl rfl rfl ?_
 refine zm rfl rfl ?_
 refine XL.dec 22 rfl (fun g22 => ?_) (fun g22 => ?_)
 refine zk 3 rfl ?_
 refine zq rfl rfl rfl ?_
 refine zm rfl rfl ?_
 refine zk 3 rfl ?_
 refine zq rfl rfl rfl ?_
 refine zn ?_
 refine xw_true (by kernel_rfl) rfl ?_
 refine zr ?_
 refine za rfl rfl ?_
 refine zn ?_
 refine zt ?_
 exact z1 rfl rfl (rI (Pit.err_no fun h => by obtain ⟨⟨h1, h2, h3, h4, h5, h6⟩, _⟩ := h; omega))
 refine zp (p_fld_ptr rfl rfl fld_89_2) ?_
 refine zp (p_load_box rfl rfl sc_3 rfl rfl) ?_
 refine zp (p_lss rfl rfl rfl) ?_
 refine zq rfl rfl rfl ?_
 refine zm rfl rfl ?_
 refine XL.dec 27 rfl (fun g27 => ?_) (fun g27 => ?_)
 refine zk 3 rfl ?_
 refine zq rfl rfl rfl ?_
 refine zn ?_
 refine xw_true (by kernel_rfl) rfl ?_
 refine zr ?_
 refine za rfl rfl ?_
 refine zn ?_
 refine zt ?_
 exact z1 rfl rfl (rI (Pit.err_no fun h => by obtain ⟨⟨h1, h2, h3, h4, h5, h6⟩, _⟩ := h; omega))
 refine zp (p_fld_ptr rfl rfl fld_89_2) ?_
 refine zp (p_load_box rfl rfl sc_3 rfl rfl) ?_
 refine zp (p_gtr rfl rfl rfl) ?_
 refine zq rfl rfl rfl ?_
 refine zn ?_
 refine zd rfl (fun c31 => ?_) (fun c31 => ?_)
 refine zr ?_
 refine za rfl rfl ?_
 refine zn ?_
 refine zt ?_
 exact z1 rfl rfl (rI (Pit.err_no fun h => by obtain ⟨⟨h1, h2, h3, h4, h5, h6⟩, _⟩ := h; omega))
 refine zi ?_
 refine zs ?_
 refine zs ?_
 have hin : p.inR := by refine Pit.inR_mk ?_ ?_ ?_ ?_ ?_ ?_ <;> assumption
 refine xw_region (by kernel_rfl) ?_
 refine zp (pure_eq (s' := .d (.agg (Pit.c p))) (norm_pure (p_load_boxs rfl rfl agg_89 rfl (Nat.le_of_ble_eq_true rfl))) (by kernel_rfl)) ?_
 refine XL.call1 rfl rfl (pnumber_xc _ (by assumption)) rfl ?_
 refine za rfl rfl ?_
 refine znr ?_
 refine zm rfl rfl ?_
 refine zp (p_lss rfl rfl rfl) ?_
 refine zm rfl rfl ?_
 refine XL.dec 36 rfl (fun g36 => ?_) (fun g36 => ?_)
 refine zk 2 rfl ?_
 refine zq rfl rfl rfl ?_
 refine zn ?_
 refine xw_true (by kernel_rfl) rfl ?_
 refine zr ?_
 refine za rfl rfl ?_
 refine zn ?_
 refine zt ?_
 exact z1 rfl rfl (rI (Pit.err_no fun h => by obtain ⟨_, h1, h2⟩ := h; omega))
 refine zm rfl rfl ?_
 refine zp (p_gtr rfl rfl rfl) ?_
 refine zq rfl rfl rfl ?_
 refine zn ?_
 refine zd rfl (fun c39 => ?_) (fun c39 => ?_)
 refine zr ?_
 refine za rfl rfl ?_
 refine zn ?_
 refine zt ?_
 exact z1 rfl rfl (rI (Pit.err_no fun h => by obtain ⟨_, h1, h2⟩ := h; omega))
 refine zi ?_
 refine zr ?_
 refine za rfl rfl ?_
 refine zn ?_
 refine zt ?_
 exact z1 rfl rfl (rI (Pit.err_ok ⟨hin, by omega, by omega⟩))
theorem Pit.err_num {p : Pit} (h : p.err ≠ 0) : 0 = p.num ∧ p.err = 18 := by unfold Pit.err at h ⊢; unfold Pit.num; split <;> simp_all
theorem Pit.of_err {p : Pit} (h : ¬ p.err ≠ 0) : p.good := by unfold Pit.err at h; split at h <;> simp_all
theorem Pit.num_ok {p : Pit} (h : p.good) : p.num = p.n := by rw [Pit.num, if_pos h]
theorem Pit.num_bd (p : Pit) : 0 ≤ p.num ∧ p.num ≤ 127 := by
 unfold Pit.num
 split
 ·rename_i h; exact h.2
 ·omega
theorem pNumber_xc (p : Pit) : XC Tryz.prog 178 [.agg (Pit.c p)] (fun r => r = .tup [dI p.num, dI p.err]) := by
 refine xc_body callable_178 Tryz.func178 rfl rfl (Nat.le_of_ble_eq_true rfl) ?_
 refine zr ?_
 refine XL.step rfl (st_boxN 1 (l := [.d (dI p.step), .d (dI p.alter), .d (dI p.oct)]) rfl rfl (by kernel_rfl)) ?_
 refine za rfl rfl ?_
 refine za rfl rfl ?_
 refine zn ?_
 refine zs ?_
 refine zr ?_
 refine zp (pure_eq (s' := .d (.agg (Pit.c p))) (norm_pure (p_load_boxs rfl rfl agg_89 rfl (Nat.le_of_ble_eq_true rfl))) (by kernel_rfl)) ?_
 refine XL.call1 rfl rfl (pcheck_xc _) rfl ?_
 refine za rfl rfl ?_
 refine znr ?_
 refine zm rfl rfl ?_
 refine zp (p_neq rfl rfl rfl) ?_
 refine zn ?_
 refine zd rfl (fun c8 => ?_) (fun c8 => ?_)
 refine zr ?_
 refine zm rfl rfl ?_
 refine za rfl rfl ?_
 refine za rfl rfl ?_
 refine zn ?_
 refine zt ?_
 exact ret2 rfl (RV.tmp rfl rfl) (RV.tmp rfl rfl) (r2 (rI (Pit.err_num c8).1) rfl)
 refine zi ?_
 refine zs ?_
 have hg := Pit.of_err c8
 have hin := hg.1
 refine xw_region (by kernel_rfl) ?_
 refine zp (pure_eq (s' := .d (.agg (Pit.c p))) (norm_pure (p_load_boxs rfl rfl agg_89 rfl (Nat.le_of_ble_eq_true rfl))) (by kernel_rfl)) ?_
 refine XL.call1 rfl rfl (pnumber_xc _ (by assumption)) rfl ?_
 refine za rfl rfl ?_
 refine za rfl rfl ?_
 refine zn ?_
 refine zt ?_
 exact ret2 rfl (RV.tmp rfl rfl) (RV.tmp rfl rfl) (r2 (rI (Pit.num_ok hg).symm) (rI (Pit.err_ok hg)))
theorem enumber_xc (p : Pit) : XC Tryz.prog 153 [.agg (Pit.c p)] (fun r => r = .tup [dI p.num, dI p.err]) := by
 have hb := p.num_bd
 refine xc_body callable_153 Tryz.func153 rfl rfl (Nat.le_of_ble_eq_true rfl) ?_
 refine zr ?_
 refine XL.step rfl (st_boxN 1 (l := [.d (dI p.step), .d (dI p.alter), .d (dI p.oct)]) rfl rfl (by kernel_rfl)) ?_
 refine za rfl rfl ?_
 refine za rfl rfl ?_
 refine znr ?_
 refine zp (pure_eq (s' := .d (.agg (Pit.c p))) (norm_pure (p_load_boxs rfl rfl agg_89 rfl (Nat.le_of_ble_eq_true rfl))) (by kernel_rfl)) ?_
 refine XL.call1 rfl rfl (pNumber_xc _) rfl ?_
 refine zm rfl rfl ?_
 refine zp (p_ext rfl rfl rfl) ?_
 refine zp (p_ext rfl rfl rfl) ?_
 refine za rfl rfl ?_
 refine za rfl rfl ?_
 refine zn ?_
 refine zs ?_
 refine zr ?_
 refine zm rfl rfl ?_
 refine zp (p_neq rfl rfl rfl) ?_
 refine zm rfl rfl ?_
 refine XL.dec 13 rfl (fun g13 => ?_) (fun g13 => ?_)
 refine zk 2 rfl ?_
 refine zq rfl rfl rfl ?_
 refine zm rfl rfl ?_
 refine zk 2 rfl ?_
 refine zq rfl rfl rfl ?_
 refine zn ?_
 refine xw_true (by kernel_rfl) rfl ?_
 refine zr ?_
 refine za rfl rfl ?_
 refine za rfl rfl ?_
 refine zn ?_
 refine zt ?_
 exact ret2 rfl (RV.tmp rfl rfl) (RV.tmp rfl rfl) (r2 (rI (Pit.err_num g13).1) (rI (Pit.err_num g13).2.symm))
 refine zm rfl rfl ?_
 refine zp (p_lss rfl rfl rfl) ?_
 refine zq rfl rfl rfl ?_
 refine zm rfl rfl ?_
 refine XL.dec 17 rfl (fun g17 => ?_) (fun g17 => ?_)
 refine zk 2 rfl ?_
 refine zq rfl rfl rfl ?_
 refine zn ?_
 refine xw_true (by kernel_rfl) rfl ?_
 refine zr ?_
 refine za rfl rfl ?_
 refine za rfl rfl ?_
 refine zn ?_
 refine zt ?_
 exact ret2 rfl (RV.tmp rfl rfl) (RV.tmp rfl rfl) (by exfalso; omega)
 refine zm rfl rfl ?_
 refine zp (p_gtr rfl rfl rfl) ?_
 refine zq rfl rfl rfl ?_
 refine zn ?_
 refine zd rfl (fun c20 => ?_) (fun c20 => ?_)
 refine zr ?_
 refine za rfl rfl ?_
 refine za rfl rfl ?_
 refine zn ?_
 refine zt ?_
 exact ret2 rfl (RV.tmp rfl rfl) (RV.tmp rfl rfl) (by exfalso; omega)
 refine zi ?_
 refine zr ?_
 refine zm rfl rfl ?_
 refine za rfl rfl ?_
 refine za rfl rfl ?_
 refine zn ?_
 refine zt ?_
 exact ret2 rfl (RV.tmp rfl rfl) (RV.tmp rfl rfl) (r2 rfl (rI (Pit.err_ok (Pit.of_err g13))))
end Go.Proofs.YtcihalbakenleaaGreat
namespace Go.Proofs.YtcihalbakenleaaGreat
open Go.RowKit
theorem eqc_int {P : Program} {w : World} (d t : Nat) (h : P.underlying t = some (.int .i64)) (a b : Int) : (Op.equalIn (d + 1) t (.int .i64 a) (.int .i64 b)).run P w = .ok (decide (a = b)) w := by
 rw [run_equalIn_int w d t .i64 .i64 a b h]; by_cases e : a = b <;> simp [e]
theorem eqc_bool {P : Program} {w : World} (d t : Nat) (h : P.underlying t = some .bool) (a b : Bool) : (Op.equalIn (d + 1) t (.bool a) (.bool b)).run P w = .ok (decide (a = b)) w := by
 rw [run_equalIn_bool' w d t a b h]; cases a <;> cases b <;> rfl
theorem eqc_str {P : Program} {w : World} (d t : Nat) (h : P.underlying t = some .string) (a b : ByteArray) : (Op.equalIn (d + 1) t (.string a) (.string b)).run P w = .ok (decide (a.toList = b.toList)) w := by
 rw [run_equalIn_string w d t a b h]; by_cases e : a.toList = b.toList <;> simp [e]
theorem fieldsOf_eq {P : Program} {t : TypeId} {fs : Array Field} (h : P.underlying t = some (.struct fs)) : P.fieldsOf t = fs := by unfold Program.fieldsOf; rw [h]
theorem part1 {P : Program} {t : TypeId} (hs : scB P t = true) (w : World) {cs : Array Value} {off : Nat} {v : Value} (h : cs[off]? = some v) : (part t cs off).run P w = .ok v w := by
 unfold part; simp only [Sem.run_bind, scB.isAgg hs, Result.andThen_ok, Bool.false_eq_true, if_false, h, Sem.run_pure]
theorem parta {P : Program} {t n : Nat} (hs : aggB P t n = true) (w : World) {cs ds : Array Value} {off : Nat} (h : cs.extract off (off + n) = ds) : (part t cs off).run P w = .ok (.agg ds) w := by
 unfold part; simp only [Sem.run_bind, (aggB.isAgg hs w).1, Result.andThen_ok, if_true, (aggB.isAgg hs w).2, h, Sem.run_pure]
section
variable {P : Program} {w : World} {d : Nat} {xs ys : Array Value} {f : Field} {fs : List Field} {a b : Value} {p q : Prop} [Decidable p] [Decidable q]
theorem eqf_step (hn : f.name ≠ "_") (ha : (part f.type xs f.offset).run P w = .ok a w) (hb : (part f.type ys f.offset).run P w = .ok b w) (he : (Op.equalIn d f.type a b).run P w = .ok (decide p) w) (hr : (Op.eqFields d xs ys fs).run P w = .ok (decide q) w) :
  (Op.eqFields d xs ys (f :: fs)).run P w = .ok (decide (p ∧ q)) w := by
 unfold Op.eqFields
 rw [if_pos hn]
 simp only [Sem.run_bind, ha, hb, he, Result.andThen_ok, Sem.run_ite, hr, Sem.run_pure]
 by_cases h : p <;> simp [h]
theorem eqf_one (hn : f.name ≠ "_") (ha : (part f.type xs f.offset).run P w = .ok a w) (hb : (part f.type ys f.offset).run P w = .ok b w) (he : (Op.equalIn d f.type a b).run P w = .ok (decide p) w) :
  (Op.eqFields d xs ys [f]).run P w = .ok (decide p) w := by
 unfold Op.eqFields
 rw [if_pos hn]
 simp only [Sem.run_bind, ha, hb, he, Result.andThen_ok, Sem.run_ite, Op.eqFields, Sem.run_pure]
 by_cases h : p <;> simp [h]
end
theorem eqin_54 (d : Nat) (w : World) (a0 : Int) (a1 : Int) (b0 : Int) (b1 : Int) : (Op.equalIn (d + 2) 54 (.agg #[.int .i64 a0, .int .i64 a1]) (.agg #[.int .i64 b0, .int .i64 b1])).run Tryz.prog w = .ok (decide (a0 = b0 ∧ a1 = b1)) w := by
 rw [show d + 2 = (d + 1) + 1 from rfl, run_equalIn_struct w (d + 1) 54 _ _ (by kernel_rfl) (by kernel_rfl), fieldsOf_eq Tryz.underlying54]
 exact eqf_step (by decide) (part1 sc_3 w rfl) (part1 sc_3 w rfl) (eqc_int (d + 0) 3 Tryz.underlying3 _ _) (eqf_one (by decide) (part1 sc_3 w rfl) (part1 sc_3 w rfl) (eqc_int (d + 0) 3 Tryz.underlying3 _ _))
theorem p_eql_54 {t' : TypeId} {o : Oper} {e : Operand → S} {h : Xh} {x y : Operand} {a0 : Int} {a1 : Int} {b0 : Int} {b1 : Int} (ho : o.op = .binOp .eql 54 x y t') (hx : e x = .d (.agg [.v (.int .i64 a0), .v (.int .i64 a1)])) (hy : e y = .d (.agg [.v (.int .i64 b0), .v (.int .i64 b1)])) : Pure Tryz.prog o e h (.d (.v (.bool (decide (a0 = b0 ∧ a1 = b1))))) := by
 refine p_binagg ho hx hy rfl rfl (by kernel_rfl) fun w => ?_
 refine (run_eql_struct w 54 #[.int .i64 a0, .int .i64 a1] #[.int .i64 b0, .int .i64 b1]).trans ?_
 have hq := eqin_54 9998 w a0 a1 b0 b1
 simp only [Nat.reduceAdd] at hq
 rw [hq]
 simp only [Result.andThen_ok]
theorem p_neq_54 {t' : TypeId} {o : Oper} {e : Operand → S} {h : Xh} {x y : Operand} {a0 : Int} {a1 : Int} {b0 : Int} {b1 : Int} (ho : o.op = .binOp .neq 54 x y t') (hx : e x = .d (.agg [.v (.int .i64 a0), .v (.int .i64 a1)])) (hy : e y = .d (.agg [.v (.int .i64 b0), .v (.int .i64 b1)])) : Pure Tryz.prog o e h (.d (.v (.bool (decide (¬ (a0 = b0 ∧ a1 = b1)))))) := by
 refine p_binagg ho hx hy rfl rfl (by kernel_rfl) fun w => ?_
 refine (run_neq_struct w 54 #[.int .i64 a0, .int .i64 a1] #[.int .i64 b0, .int .i64 b1]).trans ?_
 have hq := eqin_54 9998 w a0 a1 b0 b1
 simp only [Nat.reduceAdd] at hq
 rw [hq]
 simp only [Result.andThen_ok, decide_not]
theorem eqin_56 (d : Nat) (w : World) (a0 : Int) (a1 : Int) (b0 : Int) (b1 : Int) : (Op.equalIn (d + 2) 56 (.agg #[.int .i64 a0, .int .i64 a1]) (.agg #[.int .i64 b0, .int .i64 b1])).run Tryz.prog w = .ok (decide (a0 = b0 ∧ a1 = b1)) w := by
 rw [show d + 2 = (d + 1) + 1 from rfl, run_equalIn_struct w (d + 1) 56 _ _ (by kernel_rfl) (by kernel_rfl), fieldsOf_eq Tryz.underlying56]
 exact eqf_step (by decide) (part1 sc_3 w rfl) (part1 sc_3 w rfl) (eqc_int (d + 0) 3 Tryz.underlying3 _ _) (eqf_one (by decide) (part1 sc_3 w rfl) (part1 sc_3 w rfl) (eqc_int (d + 0) 3 Tryz.underlying3 _ _))
theorem p_eql_56 {t' : TypeId} {o : Oper} {e : Operand → S} {h : Xh} {x y : Operand} {a0 : Int} {a1 : Int} {b0 : Int} {b1 : Int} (ho : o.op = .binOp .eql 56 x y t') (hx : e x = .d (.agg [.v (.int .i64 a0), .v (.int .i64 a1)])) (hy : e y = .d (.agg [.v (.int .i64 b0), .v (.int .i64 b1)])) : Pure Tryz.prog o e h (.d (.v (.bool (decide (a0 = b0 ∧ a1 = b1))))) := by
 refine p_binagg ho hx hy rfl rfl (by kernel_rfl) fun w => ?_
 refine (run_eql_struct w 56 #[.int .i64 a0, .int .i64 a1] #[.int .i64 b0, .int .i64 b1]).trans ?_
 have hq := eqin_56 9998 w a0 a1 b0 b1
 simp only [Nat.reduceAdd] at hq
 rw [hq]
 simp only [Result.andThen_ok]
theorem p_neq_56 {t' : TypeId} {o : Oper} {e : Operand → S} {h : Xh} {x y : Operand} {a0 : Int} {a1 : Int} {b0 : Int} {b1 : Int} (ho : o.op = .binOp .neq 56 x y t') (hx : e x = .d (.agg [.v (.int .i64 a0), .v (.int .i64 a1)])) (hy : e y = .d (.agg [.v (.int .i64 b0), .v (.int .i64 b1)])) : Pure Tryz.prog o e h (.d (.v (.bool (decide (¬ (a0 = b0 ∧ a1 = b1)))))) := by
 refine p_binagg ho hx hy rfl rfl (by kernel_rfl) fun w => ?_
 refine (run_neq_struct w 56 #[.int .i64 a0, .int .i64 a1] #[.int .i64 b0, .int .i64 b1]).trans ?_
 have hq := eqin_56 9998 w a0 a1 b0 b1
 simp only [Nat.reduceAdd] at hq
 rw [hq]
 simp only [Result.andThen_ok, decide_not]
theorem eqin_89 (d : Nat) (w : World) (a0 : Int) (a1 : Int) (a2 : Int) (b0 : Int) (b1 : Int) (b2 : Int) : (Op.equalIn (d + 2) 89 (.agg #[.int .i64 a0, .int .i64 a1, .int .i64 a2]) (.agg #[.int .i64 b0, .int .i64 b1, .int .i64 b2])).run Tryz.prog w = .ok (decide (a0 = b0 ∧ a1 = b1 ∧ a2 = b2)) w := by
 rw [show d + 2 = (d + 1) + 1 from rfl, run_equalIn_struct w (d + 1) 89 _ _ (by kernel_rfl) (by kernel_rfl), fieldsOf_eq Tryz.underlying89]
 exact eqf_step (by decide) (part1 sc_3 w rfl) (part1 sc_3 w rfl) (eqc_int (d + 0) 3 Tryz.underlying3 _ _) (eqf_step (by decide) (part1 sc_3 w rfl) (part1 sc_3 w rfl) (eqc_int (d + 0) 3 Tryz.underlying3 _ _) (eqf_one (by decide) (part1 sc_3 w rfl) (part1 sc_3 w rfl) (eqc_int (d + 0) 3 Tryz.underlying3 _ _)))
theorem p_neq_89 {t' : TypeId} {o : Oper} {e : Operand → S} {h : Xh} {x y : Operand} {a0 : Int} {a1 : Int} {a2 : Int} {b0 : Int} {b1 : Int} {b2 : Int} (ho : o.op = .binOp .neq 89 x y t') (hx : e x = .d (.agg [.v (.int .i64 a0), .v (.int .i64 a1), .v (.int .i64 a2)])) (hy : e y = .d (.agg [.v (.int .i64 b0), .v (.int .i64 b1), .v (.int .i64 b2)])) : Pure Tryz.prog o e h (.d (.v (.bool (decide (¬ (a0 = b0 ∧ a1 = b1 ∧ a2 = b2)))))) := by
 refine p_binagg ho hx hy rfl rfl (by kernel_rfl) fun w => ?_
 refine (run_neq_struct w 89 #[.int .i64 a0, .int .i64 a1, .int .i64 a2] #[.int .i64 b0, .int .i64 b1, .int .i64 b2]).trans ?_
 have hq := eqin_89 9998 w a0 a1 a2 b0 b1 b2
 simp only [Nat.reduceAdd] at hq
 rw [hq]
 simp only [Result.andThen_ok, decide_not]
theorem eqin_91 (d : Nat) (w : World) (a0 : Int) (a1 : Int) (a2 : Int) (a3 : Bool) (a4 : Int) (b0 : Int) (b1 : Int) (b2 : Int) (b3 : Bool) (b4 : Int) : (Op.equalIn (d + 3) 91 (.agg #[.int .i64 a0, .int .i64 a1, .int .i64 a2, .bool a3, .int .i64 a4]) (.agg #[.int .i64 b0, .int .i64 b1, .int .i64 b2, .bool b3, .int .i64 b4])).run Tryz.prog w = .ok (decide ((a0 = b0 ∧ a1 = b1 ∧ a2 = b2) ∧ a3 = b3 ∧ a4 = b4)) w := by
 rw [show d + 3 = (d + 2) + 1 from rfl, run_equalIn_struct w (d + 2) 91 _ _ (by kernel_rfl) (by kernel_rfl), fieldsOf_eq Tryz.underlying91]
 exact eqf_step (by decide) (parta agg_89 w rfl) (parta agg_89 w rfl) (eqin_89 (d) w _ _ _ _ _ _) (eqf_step (by decide) (part1 sc_4 w rfl) (part1 sc_4 w rfl) (eqc_bool (d + 1) 4 Tryz.underlying4 _ _) (eqf_one (by decide) (part1 sc_3 w rfl) (part1 sc_3 w rfl) (eqc_int (d + 1) 3 Tryz.underlying3 _ _)))
theorem p_neq_91 {t' : TypeId} {o : Oper} {e : Operand → S} {h : Xh} {x y : Operand} {a0 : Int} {a1 : Int} {a2 : Int} {a3 : Bool} {a4 : Int} {b0 : Int} {b1 : Int} {b2 : Int} {b3 : Bool} {b4 : Int} (ho : o.op = .binOp .neq 91 x y t') (hx : e x = .d (.agg [.v (.int .i64 a0), .v (.int .i64 a1), .v (.int .i64 a2), .v (.bool a3), .v (.int .i64 a4)])) (hy : e y = .d (.agg [.v (.int .i64 b0), .v (.int .i64 b1), .v (.int .i64 b2), .v (.bool b3), .v (.int .i64 b4)])) : Pure Tryz.prog o e h (.d (.v (.bool (decide (¬ ((a0 = b0 ∧ a1 = b1 ∧ a2 = b2) ∧ a3 = b3 ∧ a4 = b4)))))) := by
 refine p_binagg ho hx hy rfl rfl (by kernel_rfl) fun w => ?_
 refine (run_neq_struct w 91 #[.int .i64 a0, .int .i64 a1, .int .i64 a2, .bool a3, .int .i64 a4] #[.int .i64 b0, .int .i64 b1, .int .i64 b2, .bool b3, .int .i64 b4]).trans ?_
 have hq := eqin_91 9997 w a0 a1 a2 a3 a4 b0 b1 b2 b3 b4
 simp only [Nat.reduceAdd] at hq
 rw [hq]
 simp only [Result.andThen_ok, decide_not]
theorem eqin_102 (d : Nat) (w : World) (a0 : Int) (a1 : Int) (a2 : Int) (a3 : Int) (b0 : Int) (b1 : Int) (b2 : Int) (b3 : Int) : (Op.equalIn (d + 2) 102 (.agg #[.int .i64 a0, .int .i64 a1, .int .i64 a2, .int .i64 a3]) (.agg #[.int .i64 b0, .int .i64 b1, .int .i64 b2, .int .i64 b3])).run Tryz.prog w = .ok (decide (a0 = b0 ∧ a1 = b1 ∧ a2 = b2 ∧ a3 = b3)) w := by
 rw [show d + 2 = (d + 1) + 1 from rfl, run_equalIn_struct w (d + 1) 102 _ _ (by kernel_rfl) (by kernel_rfl), fieldsOf_eq Tryz.underlying102]
 exact eqf_step (by decide) (part1 sc_3 w rfl) (part1 sc_3 w rfl) (eqc_int (d + 0) 3 Tryz.underlying3 _ _) (eqf_step (by decide) (part1 sc_3 w rfl) (part1 sc_3 w rfl) (eqc_int (d + 0) 3 Tryz.underlying3 _ _) (eqf_step (by decide) (part1 sc_3 w rfl) (part1 sc_3 w rfl) (eqc_int (d + 0) 3 Tryz.underlying3 _ _) (eqf_one (by decide) (part1 sc_3 w rfl) (part1 sc_3 w rfl) (eqc_int (d + 0) 3 Tryz.underlying3 _ _))))
theorem p_neq_102 {t' : TypeId} {o : Oper} {e : Operand → S} {h : Xh} {x y : Operand} {a0 : Int} {a1 : Int} {a2 : Int} {a3 : Int} {b0 : Int} {b1 : Int} {b2 : Int} {b3 : Int} (ho : o.op = .binOp .neq 102 x y t') (hx : e x = .d (.agg [.v (.int .i64 a0), .v (.int .i64 a1), .v (.int .i64 a2), .v (.int .i64 a3)])) (hy : e y = .d (.agg [.v (.int .i64 b0), .v (.int .i64 b1), .v (.int .i64 b2), .v (.int .i64 b3)])) : Pure Tryz.prog o e h (.d (.v (.bool (decide (¬ (a0 = b0 ∧ a1 = b1 ∧ a2 = b2 ∧ a3 = b3)))))) := by
 refine p_binagg ho hx hy rfl rfl (by kernel_rfl) fun w => ?_
 refine (run_neq_struct w 102 #[.int .i64 a0, .int .i64 a1, .int .i64 a2, .int .i64 a3] #[.int .i64 b0, .int .i64 b1, .int .i64 b2, .int .i64 b3]).trans ?_
 have hq := eqin_102 9998 w a0 a1 a2 a3 b0 b1 b2 b3
 simp only [Nat.reduceAdd] at hq
 rw [hq]
 simp only [Result.andThen_ok, decide_not]
theorem eqin_138 (d : Nat) (w : World) (a0 : Int) (a1 : Int) (a2 : Int) (a3 : Int) (a4 : Bool) (b0 : Int) (b1 : Int) (b2 : Int) (b3 : Int) (b4 : Bool) : (Op.equalIn (d + 3) 138 (.agg #[.int .i64 a0, .int .i64 a1, .int .i64 a2, .int .i64 a3, .bool a4]) (.agg #[.int .i64 b0, .int .i64 b1, .int .i64 b2, .int .i64 b3, .bool b4])).run Tryz.prog w = .ok (decide ((a0 = b0 ∧ a1 = b1 ∧ a2 = b2) ∧ a3 = b3 ∧ a4 = b4)) w := by
 rw [show d + 3 = (d + 2) + 1 from rfl, run_equalIn_struct w (d + 2) 138 _ _ (by kernel_rfl) (by kernel_rfl), fieldsOf_eq Tryz.underlying138]
 exact eqf_step (by decide) (parta agg_89 w rfl) (parta agg_89 w rfl) (eqin_89 (d) w _ _ _ _ _ _) (eqf_step (by decide) (part1 sc_3 w rfl) (part1 sc_3 w rfl) (eqc_int (d + 1) 3 Tryz.underlying3 _ _) (eqf_one (by decide) (part1 sc_4 w rfl) (part1 sc_4 w rfl) (eqc_bool (d + 1) 4 Tryz.underlying4 _ _)))
theorem p_neq_138 {t' : TypeId} {o : Oper} {e : Operand → S} {h : Xh} {x y : Operand} {a0 : Int} {a1 : Int} {a2 : Int} {a3 : Int} {a4 : Bool} {b0 : Int} {b1 : Int} {b2 : Int} {b3 : Int} {b4 : Bool} (ho : o.op = .binOp .neq 138 x y t') (hx : e x = .d (.agg [.v (.int .i64 a0), .v (.int .i64 a1), .v (.int .i64 a2), .v (.int .i64 a3), .v (.bool a4)])) (hy : e y = .d (.agg [.v (.int .i64 b0), .v (.int .i64 b1), .v (.int .i64 b2), .v (.int .i64 b3), .v (.bool b4)])) : Pure Tryz.prog o e h (.d (.v (.bool (decide (¬ ((a0 = b0 ∧ a1 = b1 ∧ a2 = b2) ∧ a3 = b3 ∧ a4 = b4)))))) := by
 refine p_binagg ho hx hy rfl rfl (by kernel_rfl) fun w => ?_
 refine (run_neq_struct w 138 #[.int .i64 a0, .int .i64 a1, .int .i64 a2, .int .i64 a3, .bool a4] #[.int .i64 b0, .int .i64 b1, .int .i64 b2, .int .i64 b3, .bool b4]).trans ?_
 have hq := eqin_138 9997 w a0 a1 a2 a3 a4 b0 b1 b2 b3 b4
 simp only [Nat.reduceAdd] at hq
 rw [hq]
 simp only [Result.andThen_ok, decide_not]
theorem eqin_140 (d : Nat) (w : World) (a0 : ByteArray) (a1 : Int) (b0 : ByteArray) (b1 : Int) : (Op.equalIn (d + 2) 140 (.agg #[.string a0, .int .i64 a1]) (.agg #[.string b0, .int .i64 b1])).run Tryz.prog w = .ok (decide (a0.toList = b0.toList ∧ a1 = b1)) w := by
 rw [show d + 2 = (d + 1) + 1 from rfl, run_equalIn_struct w (d + 1) 140 _ _ (by kernel_rfl) (by kernel_rfl), fieldsOf_eq Tryz.underlying140]
 exact eqf_step (by decide) (part1 sc_9 w rfl) (part1 sc_9 w rfl) (eqc_str (d + 0) 9 Tryz.underlying9 _ _) (eqf_one (by decide) (part1 sc_3 w rfl) (part1 sc_3 w rfl) (eqc_int (d + 0) 3 Tryz.underlying3 _ _))
theorem p_eql_140 {t' : TypeId} {o : Oper} {e : Operand → S} {h : Xh} {x y : Operand} {a0 : ByteArray} {a1 : Int} {b0 : ByteArray} {b1 : Int} (ho : o.op = .binOp .eql 140 x y t') (hx : e x = .d (.agg [.v (.string a0), .v (.int .i64 a1)])) (hy : e y = .d (.agg [.v (.string b0), .v (.int .i64 b1)])) : Pure Tryz.prog o e h (.d (.v (.bool (decide (a0.toList = b0.toList ∧ a1 = b1))))) := by
 refine p_binagg ho hx hy rfl rfl (by kernel_rfl) fun w => ?_
 refine (run_eql_struct w 140 #[.string a0, .int .i64 a1] #[.string b0, .int .i64 b1]).trans ?_
 have hq := eqin_140 9998 w a0 a1 b0 b1
 simp only [Nat.reduceAdd] at hq
 rw [hq]
 simp only [Result.andThen_ok]
theorem p_neq_140 {t' : TypeId} {o : Oper} {e : Operand → S} {h : Xh} {x y : Operand} {a0 : ByteArray} {a1 : Int} {b0 : ByteArray} {b1 : Int} (ho : o.op = .binOp .neq 140 x y t') (hx : e x = .d (.agg [.v (.string a0), .v (.int .i64 a1)])) (hy : e y = .d (.agg [.v (.string b0), .v (.int .i64 b1)])) : Pure Tryz.prog o e h (.d (.v (.bool (decide (¬ (a0.toList = b0.toList ∧ a1 = b1)))))) := by
 refine p_binagg ho hx hy rfl rfl (by kernel_rfl) fun w => ?_
 refine (run_neq_struct w 140 #[.string a0, .int .i64 a1] #[.string b0, .int .i64 b1]).trans ?_
 have hq := eqin_140 9998 w a0 a1 b0 b1
 simp only [Nat.reduceAdd] at hq
 rw [hq]
 simp only [Result.andThen_ok, decide_not]
end Go.Proofs.YtcihalbakenleaaGreat
namespace Go.Proofs.YtcihalbakenleaaGreat
open Go.RowKit
def withinS (n m : Int) : Int := if n < 0 ∨ m < n then 2 else 0
theorem withinS_no {n m : Int} (h : n < 0 ∨ m < n) : 2 = withinS n m := by rw [withinS, if_pos h]
theorem withinS_ok {n m : Int} (h : ¬ n < 0) (h' : ¬ m < n) : 0 = withinS n m := by rw [withinS, if_neg (by omega)]
theorem within_xc (n m : Int) : XC Tryz.prog 116 [.v (.int .i64 n), .v (.int .i64 m)] (fun r => r = dI (withinS n m)) := by
 refine xc_body callable_116 Tryz.func116 rfl rfl (Nat.le_of_ble_eq_true rfl) ?_
 refine zr ?_
 refine za rfl rfl ?_
 refine zn ?_
 refine zs ?_
 refine zr ?_
 refine zm rfl rfl ?_
 refine zp (p_lss rfl rfl rfl) ?_
 refine zm rfl rfl ?_
 refine XL.dec 7 rfl (fun g7 => ?_) (fun g7 => ?_)
 refine zk 3 rfl ?_
 refine zq rfl rfl rfl ?_
 refine zn ?_
 refine xw_true (by kernel_rfl) rfl ?_
 refine zr ?_
 refine za rfl rfl ?_
 refine zn ?_
 refine zt ?_
 exact z1 rfl rfl (rI (withinS_no (by omega)))
 refine zm rfl rfl ?_
 refine zm rfl rfl ?_
 refine zp (p_gtr rfl rfl rfl) ?_
 refine zq rfl rfl rfl ?_
 refine zn ?_
 refine zd rfl (fun c11 => ?_) (fun c11 => ?_)
 refine zr ?_
 refine za rfl rfl ?_
 refine zn ?_
 refine zt ?_
 exact z1 rfl rfl (rI (withinS_no (by omega)))
 refine zi ?_
 refine zr ?_
 refine za rfl rfl ?_
 refine zn ?_
 refine zt ?_
 exact z1 rfl rfl (rI (withinS_ok g7 c11))
def firstS : List Int → Int
 | [] => 0
 | e :: l => if e ≠ 0 then e else firstS l
theorem firstS_step {l : List Int} {k : Nat} {x : Int} (h : l[k]? = some x) (hx : ¬ x ≠ 0) : firstS (l.drop k) = firstS (l.drop (k + 1)) := by rw [drop_cons h, firstS, if_neg hx]
theorem firstS_hit {l : List Int} {k : Nat} {x : Int} (h : l[k]? = some x) (hx : x ≠ 0) : firstS (l.drop k) = x := by rw [drop_cons h, firstS, if_pos hx]
theorem firstS_end {l : List Int} {k : Nat} (h : k = l.length) : firstS (l.drop k) = 0 := by rw [h, List.drop_length]; rfl
theorem first_xc (l : List Int) : XC Tryz.prog 115 [.sl 1 (ints l)] (fun r => r = dI (firstS l)) := by
 refine xc_body callable_115 Tryz.func115 rfl rfl (Nat.le_of_ble_eq_true rfl) ?_
 refine zr ?_
 refine za rfl rfl ?_
 refine zn ?_
 refine zs ?_
 refine zr ?_
 refine zm rfl rfl ?_
 refine XL.len rfl rfl rfl Tryz.underlying180 (fun hl6 => ?_)
 refine zm rfl rfl ?_
 refine zn ?_
 refine xw_block ?_
 refine xw_loop (α := Nat) (fun k => k ≤ l.length ∧ firstS (l.drop k) = firstS l) (fun k => mkF [(5, .d (.sl 1 (ints l))), (6, .d (dI l.length)), (7, .d (dI k))]) (fun k => mkH []) (fun k => l.length - k) (0) (⟨Nat.zero_le _, by rw [List.drop_zero]⟩) ?_ ?_ ?_
 exact fz ⟨sr, sr, sr, trivial⟩
 exact HSub.nil
 intro k hk0
 obtain ⟨hk, hf⟩ := hk0
 refine zr ?_
 refine zp (p_lss rfl rfl rfl) ?_
 refine zn ?_
 refine zs ?_
 refine zd rfl (fun c8 => ?_) (fun c8 => ?_)
 have hk0a : k < l.length := by omega
 obtain ⟨x0, hx0⟩ := get_ex hk0a
 refine zi ?_
 refine zs ?_
 refine xw_block ?_
 refine zr ?_
 refine zp (p_idx_map rfl rfl rfl el_180 hx0) ?_
 refine zp (p_load_pt rfl rfl sc_33) ?_
 refine za rfl rfl ?_
 refine znr ?_
 refine zm rfl rfl ?_
 refine zp (p_neq rfl rfl rfl) ?_
 refine zn ?_
 refine zd rfl (fun c12 => ?_) (fun c12 => ?_)
 refine zr ?_
 refine zm rfl rfl ?_
 refine za rfl rfl ?_
 refine zn ?_
 refine zt ?_
 exact z1 rfl rfl (rI (by rw [← hf, firstS_hit hx0 c12]))
 refine zi ?_
 refine xw_region (by kernel_rfl) ?_
 refine zp (p_add rfl rfl rfl (by omega) (by omega)) ?_
 refine zm rfl rfl ?_
 refine zn ?_
 exact k_round (k + 1) (⟨by omega, by rw [← firstS_step hx0 c12]; exact hf⟩) (by omega) (fz ⟨sr, sr, sr, trivial⟩) (HSub.nil)
 have hk0b : k = l.length := by omega
 refine xw_exit ?_
 refine zr ?_
 refine za rfl rfl ?_
 refine zn ?_
 refine zt ?_
 exact z1 rfl rfl (rI (by rw [← hf, firstS_end hk0b]))
def wellS (h : Hd) : Int := firstS [h.p.err, withinS h.sh 2]
theorem well_xc (h : Hd) : XC Tryz.prog 152 [.agg (Hd.c h)] (fun r => r = dI (wellS h)) := by
 refine xc_body callable_152 Tryz.func152 rfl rfl (Nat.le_of_ble_eq_true rfl) ?_
 refine zr ?_
 refine XL.step rfl (st_boxN 1 (l := [.d (dI h.p.step), .d (dI h.p.alter), .d (dI h.p.oct), .d (dB h.tied), .d (dI h.sh)]) rfl rfl (by kernel_rfl)) ?_
 refine za rfl rfl ?_
 refine znr ?_
 refine zp (p_fld_ptr rfl rfl fld_91_0) ?_
 refine zp (pure_eq (s' := .d (.agg (Pit.c h.p))) (norm_pure (p_load_boxs rfl rfl agg_89 rfl (Nat.le_of_ble_eq_true rfl))) (by kernel_rfl)) ?_
 refine XL.call1 rfl rfl (enumber_xc _) rfl ?_
 refine zm rfl rfl ?_
 refine zp (p_ext rfl rfl rfl) ?_
 refine zp (p_ext rfl rfl rfl) ?_
 refine za rfl rfl ?_
 refine za rfl rfl ?_
 refine znr ?_
 refine zm rfl rfl ?_
 refine zp (p_fld_ptr rfl rfl fld_91_2) ?_
 refine zp (p_load_box rfl rfl sc_3 rfl rfl) ?_
 refine XL.call1 rfl rfl (within_xc _ _) rfl ?_
 refine XL.step rfl (st_sliced (l := ints [h.p.err, (withinS h.sh 2)]) rfl Tryz.underlying180 sz_33 zero_33 (by kernel_rfl) rfl (by omega) (by omega)) ?_
 refine XL.call1 rfl rfl (first_xc _) rfl ?_
 refine za rfl rfl ?_
 refine zn ?_
 refine zt ?_
 exact z1 rfl rfl (rfl)
def lastNum (l : List Hd) : Int := match l.getLast? with | some h => h.p.num | none => -1
theorem lastNum_snoc {l : List Hd} {k : Nat} {x : Hd} (h : l[k]? = some x) : lastNum (l.take (k + 1)) = x.p.num := by rw [take_snoc h, lastNum, List.getLast?_concat]
def headsGo (last : Int) : List Hd → Int
 | [] => 0
 | h :: t => if wellS h ≠ 0 then wellS h else if h.p.num ≤ last then 25 else headsGo h.p.num t
def headsErr (l : List Hd) : Int := if l.length = 0 then 4 else if 10 < l.length then 9 else headsGo (-1) l
theorem headsErr_go {l : List Hd} (h1 : ¬ (l.length : Int) = 0) (h2 : ¬ 10 < (l.length : Int)) : headsErr l = headsGo (-1) l := by rw [headsErr, if_neg (by omega), if_neg (by omega)]
theorem heads_xc (l : List Hd) : XC Tryz.prog 121 [.sl 5 (l.map Hd.c)] (fun r => r = dI (headsErr l)) := by
 refine xc_body callable_121 Tryz.func121 rfl rfl (Nat.le_of_ble_eq_true rfl) ?_
 refine zr ?_
 refine za rfl rfl ?_
 refine zn ?_
 refine zs ?_
 refine xw_block ?_
 refine zr ?_
 refine zm rfl rfl ?_
 refine XL.len rfl rfl rfl Tryz.underlying48 (fun hl11 => ?_)
 refine zp (p_eql rfl rfl rfl) ?_
 refine za rfl rfl ?_
 refine zn ?_
 refine zd rfl (fun c9 => ?_) (fun c9 => ?_)
 refine zr ?_
 refine za rfl rfl ?_
 refine zn ?_
 refine zt ?_
 exact z1 rfl rfl (rI (by rw [headsErr, if_pos (by omega)]))
 refine zr ?_
 refine zm rfl rfl ?_
 refine XL.len rfl rfl rfl Tryz.underlying48 (fun hl15 => ?_)
 refine zp (p_gtr rfl rfl rfl) ?_
 refine za rfl rfl ?_
 refine zn ?_
 refine zd rfl (fun c13 => ?_) (fun c13 => ?_)
 refine zr ?_
 refine za rfl rfl ?_
 refine zn ?_
 refine zt ?_
 exact z1 rfl rfl (rI (by rw [headsErr, if_neg (by omega), if_pos (by omega)]))
 refine zi ?_
 refine zr ?_
 refine za rfl rfl ?_
 refine zn ?_
 refine zs ?_
 refine zr ?_
 refine zm rfl rfl ?_
 refine XL.len rfl rfl rfl Tryz.underlying48 (fun hl18 => ?_)
 refine zm rfl rfl ?_
 refine zn ?_
 refine xw_block ?_
 refine xw_loop (α := Nat) (fun k => k ≤ l.length ∧ headsGo (lastNum (l.take k)) (l.drop k) = headsGo (-1) l) (fun k => mkF [(3, .d (dI (lastNum (l.take k)))), (17, .d (.sl 5 (l.map Hd.c))), (18, .d (dI l.length)), (19, .d (dI k))]) (fun k => mkH []) (fun k => l.length - k) (0) (⟨Nat.zero_le _, by rw [List.drop_zero]; rfl⟩) ?_ ?_ ?_
 exact fz ⟨sr, sr, sr, sr, trivial⟩
 exact HSub.nil
 intro k hk1
 obtain ⟨hk, hf⟩ := hk1
 refine zr ?_
 refine zp (p_lss rfl rfl rfl) ?_
 refine zn ?_
 refine zs ?_
 refine zd rfl (fun c20 => ?_) (fun c20 => ?_)
 have hk1a : k < l.length := by omega
 obtain ⟨x1, hx1⟩ := get_ex hk1a
 rw [drop_cons hx1, headsGo] at hf
 refine zi ?_
 refine zs ?_
 refine xw_block ?_
 refine zr ?_
 refine zp (p_idx_map rfl rfl rfl el_48 hx1) ?_
 refine zp (pure_eq (s' := .d (.agg (Hd.c x1))) (p_load_pts rfl rfl agg_91 (Nat.le_of_ble_eq_true rfl)) (by kernel_rfl)) ?_
 refine XL.step rfl (st_allocN 5 (l := [.d (dI 0), .d (dI 0), .d (dI 0), .d (dB false), .d (dI 0)]) rfl zero_91 (by kernel_rfl)) ?_
 refine XL.step rfl (st_storeN (l' := [.d (dI x1.p.step), .d (dI x1.p.alter), .d (dI x1.p.oct), .d (dB x1.tied), .d (dI x1.sh)]) rfl rfl rfl rfl sz_91 rfl (Nat.le_of_ble_eq_true rfl) (by kernel_rfl)) ?_
 refine zn ?_
 refine zs ?_
 refine zr ?_
 refine zp (pure_eq (s' := .d (.agg (Hd.c x1))) (norm_pure (p_load_boxs rfl rfl agg_91 rfl (Nat.le_of_ble_eq_true rfl))) (by kernel_rfl)) ?_
 refine XL.call1 rfl rfl (well_xc _) rfl ?_
 refine za rfl rfl ?_
 refine znr ?_
 refine zm rfl rfl ?_
 refine zp (p_neq rfl rfl rfl) ?_
 refine zn ?_
 refine zd rfl (fun c26 => ?_) (fun c26 => ?_)
 refine zr ?_
 refine zm rfl rfl ?_
 refine za rfl rfl ?_
 refine zn ?_
 refine zt ?_
 exact z1 rfl rfl (rI (by rw [headsErr_go c9 c13, ← hf, if_pos c26]))
 refine zi ?_
 refine zr ?_
 refine zp (p_fld_ptr rfl rfl fld_91_0) ?_
 refine zp (pure_eq (s' := .d (.agg (Pit.c x1.p))) (norm_pure (p_load_boxs rfl rfl agg_89 rfl (Nat.le_of_ble_eq_true rfl))) (by kernel_rfl)) ?_
 refine XL.call1 rfl rfl (enumber_xc _) rfl ?_
 refine zm rfl rfl ?_
 refine zp (p_ext rfl rfl rfl) ?_
 refine zp (p_ext rfl rfl rfl) ?_
 refine za rfl rfl ?_
 refine za rfl rfl ?_
 refine zn ?_
 refine zs ?_
 refine zr ?_
 refine zm rfl rfl ?_
 refine zm rfl rfl ?_
 refine zp (p_leq rfl rfl rfl) ?_
 refine zn ?_
 refine zd rfl (fun c36 => ?_) (fun c36 => ?_)
 refine zr ?_
 refine za rfl rfl ?_
 refine zn ?_
 refine zt ?_
 exact z1 rfl rfl (rI (by rw [headsErr_go c9 c13, ← hf, if_neg c26, if_pos c36]))
 refine zi ?_
 refine xw_region (by kernel_rfl) ?_
 refine zm rfl rfl ?_
 refine za rfl rfl ?_
 refine zn ?_
 refine xw_region (by kernel_rfl) ?_
 refine zp (p_add rfl rfl rfl (by omega) (by omega)) ?_
 refine zm rfl rfl ?_
 refine zn ?_
 exact k_round (k + 1) (⟨by omega, by rw [if_neg c26, if_neg c36] at hf; rw [lastNum_snoc hx1]; exact hf⟩) (by omega) (fz ⟨.same (sI (lastNum_snoc hx1).symm), sr, sr, sr, trivial⟩) (HSub.nil)
 have hk1b : k = l.length := by omega
 refine xw_exit ?_
 refine zr ?_
 refine za rfl rfl ?_
 refine zn ?_
 refine zt ?_
 exact z1 rfl rfl (rI (by rw [headsErr_go c9 c13, ← hf, hk1b, List.drop_length]; rfl))
def gracesGo : List Gr → Int
 | [] => 0
 | g :: t => if g.p.err ≠ 0 then g.p.err else if g.log < 1 ∨ 6 < g.log then 2 else gracesGo t
def gracesErr (l : List Gr) : Int := if 8 < l.length then 9 else gracesGo l
theorem gracesErr_go {l : List Gr} (h2 : ¬ 8 < (l.length : Int)) : gracesErr l = gracesGo l := by rw [gracesErr, if_neg (by omega)]
theorem graces_xc (l : List Gr) : XC Tryz.prog 122 [.sl 5 (l.map Gr.c)] (fun r => r = dI (gracesErr l)) := by
 refine xc_body callable_122 Tryz.func122 rfl rfl (Nat.le_of_ble_eq_true rfl) ?_
 refine zr ?_
 refine za rfl rfl ?_
 refine zn ?_
 refine zs ?_
 refine zr ?_
 refine zm rfl rfl ?_
 refine XL.len rfl rfl rfl Tryz.underlying57 (fun hl8 => ?_)
 refine zp (p_gtr rfl rfl rfl) ?_
 refine zn ?_
 refine zd rfl (fun c9 => ?_) (fun c9 => ?_)
 refine zr ?_
 refine za rfl rfl ?_
 refine zn ?_
 refine zt ?_
 exact z1 rfl rfl (rI (by rw [gracesErr, if_pos (by omega)]))
 refine zi ?_
 refine zs ?_
 refine zr ?_
 refine zm rfl rfl ?_
 refine XL.len rfl rfl rfl Tryz.underlying57 (fun hl11 => ?_)
 refine zm rfl rfl ?_
 refine zn ?_
 refine xw_block ?_
 refine xw_loop (α := Nat) (fun k => k ≤ l.length ∧ gracesGo (l.drop k) = gracesGo l) (fun k => mkF [(10, .d (.sl 5 (l.map Gr.c))), (11, .d (dI l.length)), (12, .d (dI k))]) (fun k => mkH []) (fun k => l.length - k) (0) (⟨Nat.zero_le _, by rw [List.drop_zero]⟩) ?_ ?_ ?_
 exact fz ⟨sr, sr, sr, trivial⟩
 exact HSub.nil
 intro k hk0
 obtain ⟨hk, hf⟩ := hk0
 refine zr ?_
 refine zp (p_lss rfl rfl rfl) ?_
 refine zn ?_
 refine zs ?_
 refine zd rfl (fun c13 => ?_) (fun c13 => ?_)
 have hk0a : k < l.length := by omega
 obtain ⟨x0, hx0⟩ := get_ex hk0a
 rw [drop_cons hx0, gracesGo] at hf
 refine zi ?_
 refine zs ?_
 refine xw_block ?_
 refine zr ?_
 refine zp (p_idx_map rfl rfl rfl el_57 hx0) ?_
 refine zp (pure_eq (s' := .d (.agg (Gr.c x0))) (p_load_pts rfl rfl agg_138 (Nat.le_of_ble_eq_true rfl)) (by kernel_rfl)) ?_
 refine XL.step rfl (st_allocN 4 (l := [.d (dI 0), .d (dI 0), .d (dI 0), .d (dI 0), .d (dB false)]) rfl zero_138 (by kernel_rfl)) ?_
 refine XL.step rfl (st_storeN (l' := [.d (dI x0.p.step), .d (dI x0.p.alter), .d (dI x0.p.oct), .d (dI x0.log), .d (dB x0.slash)]) rfl rfl rfl rfl sz_138 rfl (Nat.le_of_ble_eq_true rfl) (by kernel_rfl)) ?_
 refine zn ?_
 refine zs ?_
 refine zr ?_
 refine zp (p_fld_ptr rfl rfl fld_138_0) ?_
 refine zp (pure_eq (s' := .d (.agg (Pit.c x0.p))) (norm_pure (p_load_boxs rfl rfl agg_89 rfl (Nat.le_of_ble_eq_true rfl))) (by kernel_rfl)) ?_
 refine XL.call1 rfl rfl (enumber_xc _) rfl ?_
 refine zm rfl rfl ?_
 refine zp (p_ext rfl rfl rfl) ?_
 refine zp (p_ext rfl rfl rfl) ?_
 refine za rfl rfl ?_
 refine za rfl rfl ?_
 refine znr ?_
 refine zm rfl rfl ?_
 refine zp (p_neq rfl rfl rfl) ?_
 refine zn ?_
 refine zd rfl (fun c23 => ?_) (fun c23 => ?_)
 refine zr ?_
 refine zm rfl rfl ?_
 refine za rfl rfl ?_
 refine zn ?_
 refine zt ?_
 exact z1 rfl rfl (rI (by rw [gracesErr_go c9, ← hf, if_pos c23]))
 refine zi ?_
 refine zr ?_
 refine zp (p_fld_ptr rfl rfl fld_138_1) ?_
 refine zp (p_load_box rfl rfl sc_3 rfl rfl) ?_
 refine zp (p_lss rfl rfl rfl) ?_
 refine zm rfl rfl ?_
 refine XL.dec 28 rfl (fun g28 => ?_) (fun g28 => ?_)
 refine zk 3 rfl ?_
 refine zq rfl rfl rfl ?_
 refine zn ?_
 refine xw_true (by kernel_rfl) rfl ?_
 refine zr ?_
 refine za rfl rfl ?_
 refine zn ?_
 refine zt ?_
 exact z1 rfl rfl (rI (by rw [gracesErr_go c9, ← hf, if_neg c23, if_pos (by omega)]))
 refine zp (p_fld_ptr rfl rfl fld_138_1) ?_
 refine zp (p_load_box rfl rfl sc_3 rfl rfl) ?_
 refine zp (p_gtr rfl rfl rfl) ?_
 refine zq rfl rfl rfl ?_
 refine zn ?_
 refine zd rfl (fun c32 => ?_) (fun c32 => ?_)
 refine zr ?_
 refine za rfl rfl ?_
 refine zn ?_
 refine zt ?_
 exact z1 rfl rfl (rI (by rw [gracesErr_go c9, ← hf, if_neg c23, if_pos (by omega)]))
 refine zi ?_
 refine xw_region (by kernel_rfl) ?_
 refine zp (p_add rfl rfl rfl (by omega) (by omega)) ?_
 refine zm rfl rfl ?_
 refine zn ?_
 exact k_round (k + 1) (⟨by omega, by rw [if_neg c23, if_neg (by omega)] at hf; exact hf⟩) (by omega) (fz ⟨sr, sr, sr, trivial⟩) (HSub.nil)
 have hk0b : k = l.length := by omega
 refine xw_exit ?_
 refine zr ?_
 refine za rfl rfl ?_
 refine zn ?_
 refine zt ?_
 exact z1 rfl rfl (rI (by rw [gracesErr_go c9, ← hf, hk0b, List.drop_length]; rfl))
def badByte (b : UInt8) : Prop := (b.toNat : Int) < 32 ∨ (b.toNat : Int) = 127
instance (b : UInt8) : Decidable (badByte b) := by unfold badByte; exact inferInstance
def syErr (s : Sy) : Int := if s.link < 0 ∨ 2 < s.link then 2 else if 256 < s.text.length then 5 else if ∃ b ∈ s.text, badByte b then 6 else if s.text = [] ∧ s.link = 1 then 3 else 0
theorem text_size (l : List UInt8) : (ByteArray.mk l.toArray).size = l.length := rfl
theorem syErr_b {s : Sy} {k : Nat} {b : UInt8} (h1 : ¬ s.link < 0) (h2 : ¬ 2 < s.link) (h3 : ¬ 256 < (s.text.length : Int)) (h : s.text[k]? = some b) (hb : badByte b) : 6 = syErr s := by
 rw [syErr, if_neg (by omega), if_neg (by omega), if_pos ⟨b, List.mem_of_getElem? h, hb⟩]
theorem syErr_e {s : Sy} (h1 : ¬ s.link < 0) (h2 : ¬ 2 < s.link) (h3 : ¬ 256 < (s.text.length : Int)) (h : ∀ j b, j < s.text.length → s.text[j]? = some b → ¬ badByte b) : syErr s = if s.text = [] ∧ s.link = 1 then 3 else 0 := by
 rw [syErr, if_neg (by omega), if_neg (by omega), if_neg]
 rintro ⟨b, hb, h4⟩
 obtain ⟨j, hj⟩ := List.getElem?_of_mem hb
 exact h j b (List.getElem?_eq_some_iff.1 hj).1 hj h4
theorem text_nil {l : List UInt8} : ((ByteArray.mk l.toArray).toList == (ByteArray.mk #[]).toList) = decide (l = []) := by
 rw [text_list, show (ByteArray.mk #[]).toList = [] from text_list []]
 by_cases h : l = [] <;> simp [h]
end Go.Proofs.YtcihalbakenleaaGreat
namespace Go.Proofs.YtcihalbakenleaaGreat
open Go.RowKit
theorem byte_lt {b : UInt8} (h : (b.toNat : Int) < 32) : badByte b := .inl h
theorem byte_127 {b : UInt8} (h : (b.toNat : Int) = 127) : badByte b := .inr h
theorem byte_ok {b : UInt8} (h : ¬ (b.toNat : Int) < 32) (h' : ¬ (b.toNat : Int) = 127) : ¬ badByte b := fun h2 => h2.elim h h'
theorem syl_xc (s : Sy) : XC Tryz.prog 154 [.agg (Sy.c s)] (fun r => r = dI (syErr s)) := by
 refine xc_body callable_154 Tryz.func154 rfl rfl (Nat.le_of_ble_eq_true rfl) ?_
 refine zr ?_
 refine XL.step rfl (st_boxN 1 (l := [.d (.v (.string ⟨s.text.toArray⟩)), .d (dI s.link)]) rfl rfl (by kernel_rfl)) ?_
 refine za rfl rfl ?_
 refine zn ?_
 refine zs ?_
 refine xw_block ?_
 refine zr ?_
 refine zp (p_fld_ptr rfl rfl fld_140_1) ?_
 refine zp (p_load_box rfl rfl sc_3 rfl rfl) ?_
 refine zp (p_lss rfl rfl rfl) ?_
 refine zm rfl rfl ?_
 refine XL.dec 8 rfl (fun g8 => ?_) (fun g8 => ?_)
 refine zk 3 rfl ?_
 refine zq rfl rfl rfl ?_
 refine za rfl rfl ?_
 refine zn ?_
 refine xw_true (by kernel_rfl) rfl ?_
 refine zr ?_
 refine za rfl rfl ?_
 refine zn ?_
 refine zt ?_
 exact z1 rfl rfl (rI (by rw [syErr, if_pos (by omega)]))
 refine zp (p_fld_ptr rfl rfl fld_140_1) ?_
 refine zp (p_load_box rfl rfl sc_3 rfl rfl) ?_
 refine zp (p_gtr rfl rfl rfl) ?_
 refine zq rfl rfl rfl ?_
 refine za rfl rfl ?_
 refine zn ?_
 refine zd rfl (fun c4 => ?_) (fun c4 => ?_)
 refine zr ?_
 refine za rfl rfl ?_
 refine zn ?_
 refine zt ?_
 exact z1 rfl rfl (rI (by rw [syErr, if_pos (by omega)]))
 refine zr ?_
 refine zp (p_fld_ptr rfl rfl fld_140_0) ?_
 refine zp (p_load_box rfl rfl sc_9 rfl rfl) ?_
 refine zp (p_len_str rfl rfl Tryz.underlying9) ?_
 refine zp (p_gtr rfl rfl rfl) ?_
 refine za rfl rfl ?_
 refine zn ?_
 refine zd rfl (fun c13 => ?_) (fun c13 => ?_)
 refine zr ?_
 refine za rfl rfl ?_
 refine zn ?_
 refine zt ?_
 exact z1 rfl rfl (rI (by rw [syErr, if_neg (by omega), if_pos (by have := c13; rw [text_size] at this; omega)]))
 refine zi ?_
 refine zs ?_
 refine zr ?_
 refine zp (p_fld_ptr rfl rfl fld_140_0) ?_
 refine zp (p_load_box rfl rfl sc_9 rfl rfl) ?_
 refine zp (p_len_str rfl rfl Tryz.underlying9) ?_
 refine zm rfl rfl ?_
 refine zn ?_
 refine xw_block ?_
 refine xw_loop (α := Nat) (fun k => k ≤ s.text.length ∧ ∀ j b, j < k → s.text[j]? = some b → ¬ badByte b) (fun k => mkF [(1, .ptr 1 0 0), (20, .d (dI s.text.length)), (21, .d (dI k))]) (fun k => mkH [(1, .box ((Sy.c s).map S.d))]) (fun k => s.text.length - k) (0) (⟨Nat.zero_le _, fun j b h => absurd h (Nat.not_lt_zero _)⟩) ?_ ?_ ?_
 exact fz ⟨sr, .same (sI (by rw [text_size])), sr, trivial⟩
 exact gz ⟨rfl, trivial⟩
 intro k hk1
 obtain ⟨hk, hf⟩ := hk1
 refine zr ?_
 refine zp (p_lss rfl rfl rfl) ?_
 refine zn ?_
 refine zs ?_
 refine zd rfl (fun c22 => ?_) (fun c22 => ?_)
 have hkl : k < s.text.length := by omega
 have hsz : (s.text.length : Int) ≤ 256 := by have := c13; rw [text_size] at this; omega
 obtain ⟨b, hb⟩ := get_ex hkl
 refine zi ?_
 refine zs ?_
 refine xw_block ?_
 refine zr ?_
 refine zm rfl rfl ?_
 refine za rfl rfl ?_
 refine znr ?_
 refine zp (p_fld_ptr rfl rfl fld_140_0) ?_
 refine zp (p_load_box rfl rfl sc_9 rfl rfl) ?_
 refine zm rfl rfl ?_
 refine zp (p_byte rfl rfl rfl Tryz.underlying9 (text_get hb)) ?_
 refine zp (p_lss rfl rfl rfl) ?_
 refine zm rfl rfl ?_
 refine XL.dec 29 rfl (fun g29 => ?_) (fun g29 => ?_)
 refine zk 5 rfl ?_
 refine zq rfl rfl rfl ?_
 refine zn ?_
 refine xw_true (by kernel_rfl) rfl ?_
 refine zr ?_
 refine za rfl rfl ?_
 refine zn ?_
 refine zt ?_
 exact z1 rfl rfl (rI (syErr_b g8 c4 (by rw [← text_size]; exact c13) hb (byte_lt g29)))
 refine zp (p_fld_ptr rfl rfl fld_140_0) ?_
 refine zp (p_load_box rfl rfl sc_9 rfl rfl) ?_
 refine zm rfl rfl ?_
 refine zp (p_byte rfl rfl rfl Tryz.underlying9 (text_get hb)) ?_
 refine zp (p_eql rfl rfl rfl) ?_
 refine zq rfl rfl rfl ?_
 refine zn ?_
 refine zd rfl (fun c35 => ?_) (fun c35 => ?_)
 refine zr ?_
 refine za rfl rfl ?_
 refine zn ?_
 refine zt ?_
 exact z1 rfl rfl (rI (syErr_b g8 c4 (by rw [← text_size]; exact c13) hb (byte_127 c35)))
 refine zi ?_
 refine xw_region (by kernel_rfl) ?_
 refine zp (p_add rfl rfl rfl (by omega) (by omega)) ?_
 refine zm rfl rfl ?_
 refine zn ?_
 exact k_round (k + 1) (⟨by omega, fun j b' hj hb' => by by_cases e : j = k; (· subst e; rw [hb] at hb'; cases hb'; exact byte_ok g29 c35); (· exact hf j b' (by omega) hb')⟩) (by omega) (fz ⟨sr, sr, sr, trivial⟩) (gz ⟨rfl, trivial⟩)
 have hke : k = s.text.length := by omega
 have he := syErr_e g8 c4 (by rw [← text_size]; exact c13) (fun j b hj => hf j b (by omega))
 refine xw_exit ?_
 refine zs ?_
 refine zr ?_
 refine zp (p_fld_ptr rfl rfl fld_140_0) ?_
 refine zp (p_load_box rfl rfl sc_9 rfl rfl) ?_
 refine zp (p_streq rfl rfl rfl) ?_
 refine zm rfl rfl ?_
 refine XL.bool 40 rfl (fun g40 => ?_) (fun g40 => ?_)
 refine zp (p_fld_ptr rfl rfl fld_140_1) ?_
 refine zp (p_load_box rfl rfl sc_3 rfl rfl) ?_
 refine zp (p_eql rfl rfl rfl) ?_
 refine zq rfl rfl rfl ?_
 refine zn ?_
 refine zd rfl (fun c44 => ?_) (fun c44 => ?_)
 refine zr ?_
 refine za rfl rfl ?_
 refine zn ?_
 refine zt ?_
 exact z1 rfl rfl (rI (by rw [text_nil] at g40; rw [he, if_pos ⟨of_decide_eq_true g40, c44⟩]))
 refine zi ?_
 refine zr ?_
 refine za rfl rfl ?_
 refine zn ?_
 refine zt ?_
 exact z1 rfl rfl (rI (by rw [he, if_neg (fun h => c44 h.2)]))
 refine zk 3 rfl ?_
 refine zq rfl rfl rfl ?_
 refine zn ?_
 refine xw_false (by kernel_rfl) rfl ?_
 refine zi ?_
 refine zr ?_
 refine za rfl rfl ?_
 refine zn ?_
 refine zt ?_
 exact z1 rfl rfl (rI (by rw [text_nil] at g40; rw [he, if_neg (fun h => of_decide_eq_false g40 h.1)]))
def Sy.none (s : Sy) : Prop := s.text = [] ∧ s.link = 0
instance (s : Sy) : Decidable s.none := by unfold Sy.none; exact inferInstance
theorem absent_xc (s : Sy) : XC Tryz.prog 155 [.agg (Sy.c s)] (fun r => r = dB (decide s.none)) := by
 refine xc_body callable_155 Tryz.func155 rfl rfl (Nat.le_of_ble_eq_true rfl) ?_
 refine zr ?_
 refine XL.step rfl (st_boxN 1 (l := [.d (.v (.string ⟨s.text.toArray⟩)), .d (dI s.link)]) rfl rfl (by kernel_rfl)) ?_
 refine za rfl rfl ?_
 refine znr ?_
 refine zp (pure_eq (s' := .d (.agg (Sy.c s))) (norm_pure (p_load_boxs rfl rfl agg_140 rfl (Nat.le_of_ble_eq_true rfl))) (by kernel_rfl)) ?_
 refine zp (pure_eq (s' := .d (.agg [.v (.string ⟨#[]⟩), dI 0])) (norm_pure (p_build rfl str_140 zero_140 rfl)) (by kernel_rfl)) ?_
 refine zp (p_eql_140 rfl rfl rfl) ?_
 refine za rfl rfl ?_
 refine zn ?_
 refine zt ?_
 exact z1 rfl rfl (rB (by rw [decide_eq_decide, text_list, show (ByteArray.mk #[]).toList = [] from text_list []]; rfl))
def lyrGo (l : List Sy) : Int := firstS (l.map syErr)
theorem lyrGo_step {l : List Sy} {k : Nat} {x : Sy} (h : l[k]? = some x) (hx : ¬ syErr x ≠ 0) : lyrGo (l.drop k) = lyrGo (l.drop (k + 1)) := by rw [drop_cons h, lyrGo, List.map_cons, firstS, if_neg hx]; rfl
theorem lyrGo_hit {l : List Sy} {k : Nat} {x : Sy} (h : l[k]? = some x) (hx : syErr x ≠ 0) : lyrGo (l.drop k) = syErr x := by rw [drop_cons h, lyrGo, List.map_cons, firstS, if_pos hx]
def lastNone (l : List Sy) : Prop := match l.getLast? with | some s => s.none | none => False
instance (l : List Sy) : Decidable (lastNone l) := by unfold lastNone; split <;> exact inferInstance
def lyrErr (l : List Sy) : Int := if 4 < l.length then 9 else if lyrGo l ≠ 0 then lyrGo l else if lastNone l then 3 else 0
theorem lyrErr_go {l : List Sy} (h1 : ¬ 4 < (l.length : Int)) : lyrErr l = if lyrGo l ≠ 0 then lyrGo l else if lastNone l then 3 else 0 := by rw [lyrErr, if_neg (by omega)]
theorem lastNone_at {l : List Sy} {s : Sy} (h : l[l.length - 1]? = some s) : lastNone l ↔ s.none := by unfold lastNone; rw [List.getLast?_eq_getElem?, h]
theorem lastNone_nil {l : List Sy} (h : ¬ 0 < (l.length : Int)) : ¬ lastNone l := by
 have : l = [] := List.eq_nil_of_length_eq_zero (by omega)
 subst this; exact fun h => h
theorem lyrics_xc (l : List Sy) : XC Tryz.prog 123 [.sl 2 (l.map Sy.c)] (fun r => r = dI (lyrErr l)) := by
 refine xc_body callable_123 Tryz.func123 rfl rfl (Nat.le_of_ble_eq_true rfl) ?_
 refine zr ?_
 refine za rfl rfl ?_
 refine zn ?_
 refine zs ?_
 refine zr ?_
 refine zm rfl rfl ?_
 refine XL.len rfl rfl rfl Tryz.underlying58 (fun hl8 => ?_)
 refine zp (p_gtr rfl rfl rfl) ?_
 refine zn ?_
 refine zd rfl (fun c9 => ?_) (fun c9 => ?_)
 refine zr ?_
 refine za rfl rfl ?_
 refine zn ?_
 refine zt ?_
 exact z1 rfl rfl (rI (by rw [lyrErr, if_pos (by omega)]))
 refine zi ?_
 refine zs ?_
 refine zr ?_
 refine zm rfl rfl ?_
 refine XL.len rfl rfl rfl Tryz.underlying58 (fun hl11 => ?_)
 refine zm rfl rfl ?_
 refine zn ?_
 refine xw_block ?_
 refine xw_loop (α := Nat) (fun k => k ≤ l.length ∧ lyrGo (l.drop k) = lyrGo l) (fun k => mkF [(0, .d (.sl 2 (l.map Sy.c))), (10, .d (.sl 2 (l.map Sy.c))), (11, .d (dI l.length)), (12, .d (dI k))]) (fun k => mkH []) (fun k => l.length - k) (0) (⟨Nat.zero_le _, by rw [List.drop_zero]⟩) ?_ ?_ ?_
 exact fz ⟨sr, sr, sr, sr, trivial⟩
 exact HSub.nil
 intro k hk0
 obtain ⟨hk, hf⟩ := hk0
 refine zr ?_
 refine zp (p_lss rfl rfl rfl) ?_
 refine zn ?_
 refine zs ?_
 refine zd rfl (fun c13 => ?_) (fun c13 => ?_)
 have hk0a : k < l.length := by omega
 obtain ⟨x0, hx0⟩ := get_ex hk0a
 refine zi ?_
 refine zs ?_
 refine xw_block ?_
 refine zr ?_
 refine zp (p_idx_map rfl rfl rfl el_58 hx0) ?_
 refine zp (pure_eq (s' := .d (.agg (Sy.c x0))) (p_load_pts rfl rfl agg_140 (Nat.le_of_ble_eq_true rfl)) (by kernel_rfl)) ?_
 refine XL.step rfl (st_allocN 4 (l := [.d (.v (.string ⟨#[]⟩)), .d (dI 0)]) rfl zero_140 (by kernel_rfl)) ?_
 refine XL.step rfl (st_storeN (l' := [.d (.v (.string ⟨x0.text.toArray⟩)), .d (dI x0.link)]) rfl rfl rfl rfl sz_140 rfl (Nat.le_of_ble_eq_true rfl) (by kernel_rfl)) ?_
 refine znr ?_
 refine zp (pure_eq (s' := .d (.agg (Sy.c x0))) (norm_pure (p_load_boxs rfl rfl agg_140 rfl (Nat.le_of_ble_eq_true rfl))) (by kernel_rfl)) ?_
 refine XL.call1 rfl rfl (syl_xc _) rfl ?_
 refine za rfl rfl ?_
 refine znr ?_
 refine zm rfl rfl ?_
 refine zp (p_neq rfl rfl rfl) ?_
 refine zn ?_
 refine zd rfl (fun c19 => ?_) (fun c19 => ?_)
 refine zr ?_
 refine zm rfl rfl ?_
 refine za rfl rfl ?_
 refine zn ?_
 refine zt ?_
 exact z1 rfl rfl (rI (by rw [lyrErr_go c9, ← hf, lyrGo_hit hx0 c19, if_pos c19]))
 refine zi ?_
 refine xw_region (by kernel_rfl) ?_
 refine zp (p_add rfl rfl rfl (by omega) (by omega)) ?_
 refine zm rfl rfl ?_
 refine zn ?_
 exact k_round (k + 1) (⟨by omega, by rw [← lyrGo_step hx0 c19]; exact hf⟩) (by omega) (fz ⟨sr, sr, sr, sr, trivial⟩) (HSub.nil)
 have hk0b : k = l.length := by omega
 have hz : lyrGo l = 0 := by rw [← hf, hk0b, List.drop_length]; rfl
 have hz2 : lyrErr l = if lastNone l then 3 else 0 := by rw [lyrErr_go c9, hz, if_neg (by simp)]
 refine xw_exit ?_
 refine zs ?_
 refine zr ?_
 refine zm rfl rfl ?_
 refine XL.len rfl rfl rfl Tryz.underlying58 (fun hl23 => ?_)
 refine za rfl rfl ?_
 refine znr ?_
 refine zm rfl rfl ?_
 refine zp (p_gtr rfl rfl rfl) ?_
 refine zm rfl rfl ?_
 refine XL.dec 26 rfl (fun g26 => ?_) (fun g26 => ?_)
 obtain ⟨s, hs⟩ : ∃ s, l[l.length - 1]? = some s := get_ex (by omega)
 refine zm rfl rfl ?_
 refine zm rfl rfl ?_
 refine zp (p_sub rfl rfl rfl (by omega) (by omega)) ?_
 refine zp (p_idx_mapi rfl rfl rfl (by omega : (l.length : Int) - 1 = ((l.length - 1 : Nat) : Int)) el_58 hs) ?_
 refine zp (pure_eq (s' := .d (.agg (Sy.c s))) (p_load_pts rfl rfl agg_140 (Nat.le_of_ble_eq_true rfl)) (by kernel_rfl)) ?_
 refine XL.call1 rfl rfl (absent_xc _) rfl ?_
 refine zq rfl rfl rfl ?_
 refine zn ?_
 refine zd rfl (fun c33 => ?_) (fun c33 => ?_)
 refine zr ?_
 refine za rfl rfl ?_
 refine zn ?_
 refine zt ?_
 exact z1 rfl rfl (rI (by rw [hz2, if_pos ((lastNone_at hs).2 c33)]))
 refine zi ?_
 refine zr ?_
 refine za rfl rfl ?_
 refine zn ?_
 refine zt ?_
 exact z1 rfl rfl (rI (by rw [hz2, if_neg (fun h => c33 ((lastNone_at hs).1 h))]))
 refine zk 6 rfl ?_
 refine zq rfl rfl rfl ?_
 refine zn ?_
 refine xw_false (by kernel_rfl) rfl ?_
 refine zi ?_
 refine zr ?_
 refine za rfl rfl ?_
 refine zn ?_
 refine zt ?_
 exact z1 rfl rfl (rI (by rw [hz2, if_neg (lastNone_nil g26)]))
theorem eq_of_all {α : Type} {a b : List α} (hl : a.length = b.length) (h : ∀ j x y, j < a.length → a[j]? = some x → b[j]? = some y → x = y) : a = b := by
 refine List.ext_getElem? fun j => ?_
 by_cases hj : j < a.length
 ·have h1 : a[j]? = some a[j] := List.getElem?_eq_getElem hj
  have h2 : b[j]? = some (b[j]'(by omega)) := List.getElem?_eq_getElem (by omega)
  rw [h1, h2, h j _ _ hj h1 h2]
 ·rw [List.getElem?_eq_none (by omega), List.getElem?_eq_none (by omega)]
theorem eq_no {α : Type} [DecidableEq α] {a b : List α} (h : a ≠ b) : false = decide (a = b) := by rw [decide_eq_false h]
theorem eq_yes {α : Type} [DecidableEq α] {a b : List α} (h : a = b) : true = decide (a = b) := by rw [decide_eq_true h]
theorem Hd.eq_of {x y : Hd} (h : ¬ ¬ ((x.p.step = y.p.step ∧ x.p.alter = y.p.alter ∧ x.p.oct = y.p.oct) ∧ x.tied = y.tied ∧ x.sh = y.sh)) : x = y := by
 obtain ⟨⟨a, b, c⟩, d, e⟩ := x; obtain ⟨⟨a', b', c'⟩, d', e'⟩ := y; simp only [Decidable.not_not] at h; obtain ⟨⟨rfl, rfl, rfl⟩, rfl, rfl⟩ := h; rfl
theorem Hd.ne_of {x y : Hd} (h : ¬ ((x.p.step = y.p.step ∧ x.p.alter = y.p.alter ∧ x.p.oct = y.p.oct) ∧ x.tied = y.tied ∧ x.sh = y.sh)) : x ≠ y := by rintro rfl; exact h ⟨⟨rfl, rfl, rfl⟩, rfl, rfl⟩
theorem Gr.eq_of {x y : Gr} (h : ¬ ¬ ((x.p.step = y.p.step ∧ x.p.alter = y.p.alter ∧ x.p.oct = y.p.oct) ∧ x.log = y.log ∧ x.slash = y.slash)) : x = y := by
 obtain ⟨⟨a, b, c⟩, d, e⟩ := x; obtain ⟨⟨a', b', c'⟩, d', e'⟩ := y; simp only [Decidable.not_not] at h; obtain ⟨⟨rfl, rfl, rfl⟩, rfl, rfl⟩ := h; rfl
theorem Gr.ne_of {x y : Gr} (h : ¬ ((x.p.step = y.p.step ∧ x.p.alter = y.p.alter ∧ x.p.oct = y.p.oct) ∧ x.log = y.log ∧ x.slash = y.slash)) : x ≠ y := by rintro rfl; exact h ⟨⟨rfl, rfl, rfl⟩, rfl, rfl⟩
theorem Sy.eq_of {x y : Sy} (h : ¬ ¬ ((ByteArray.mk x.text.toArray).toList = (ByteArray.mk y.text.toArray).toList ∧ x.link = y.link)) : x = y := by
 obtain ⟨a, b⟩ := x; obtain ⟨a', b'⟩ := y; simp only [Decidable.not_not, text_list] at h; obtain ⟨rfl, rfl⟩ := h; rfl
theorem Sy.ne_of {x y : Sy} (h : ¬ ((ByteArray.mk x.text.toArray).toList = (ByteArray.mk y.text.toArray).toList ∧ x.link = y.link)) : x ≠ y := by rintro rfl; exact h ⟨rfl, rfl⟩
theorem equal_Hd (a b : List Hd) : XC Tryz.prog 148 [.sl 5 (a.map Hd.c), .sl 5 (b.map Hd.c)] (fun r => r = dB (decide (a = b))) := by
 refine xc_body callable_148 Tryz.func148 rfl rfl (Nat.le_of_ble_eq_true rfl) ?_
 refine zr ?_
 refine za rfl rfl ?_
 refine zn ?_
 refine zs ?_
 refine zr ?_
 refine zm rfl rfl ?_
 refine XL.len rfl rfl rfl Tryz.underlying48 (fun hl7 => ?_)
 refine zm rfl rfl ?_
 refine XL.len rfl rfl rfl Tryz.underlying48 (fun hl9 => ?_)
 refine zp (p_neq rfl rfl rfl) ?_
 refine zn ?_
 refine zd rfl (fun c10 => ?_) (fun c10 => ?_)
 refine zr ?_
 refine za rfl rfl ?_
 refine zn ?_
 refine zt ?_
 exact z1 rfl rfl (rB (eq_no (fun h => c10 (by rw [h]))))
 refine zi ?_
 refine zs ?_
 refine zr ?_
 refine zm rfl rfl ?_
 refine XL.len rfl rfl rfl Tryz.underlying48 (fun hl12 => ?_)
 refine zm rfl rfl ?_
 refine zn ?_
 refine xw_block ?_
 refine xw_loop (α := Nat) (fun k => k ≤ a.length ∧ ∀ j x y, j < k → a[j]? = some x → b[j]? = some y → x = y) (fun k => mkF [(0, .d (.sl 5 (a.map Hd.c))), (1, .d (.sl 5 (b.map Hd.c))), (12, .d (dI a.length)), (13, .d (dI k))]) (fun k => mkH []) (fun k => a.length - k) (0) (⟨Nat.zero_le _, fun j x y h => absurd h (Nat.not_lt_zero _)⟩) ?_ ?_ ?_
 exact fz ⟨sr, sr, sr, sr, trivial⟩
 exact HSub.nil
 intro k hk0
 obtain ⟨hk, hf⟩ := hk0
 refine zr ?_
 refine zp (p_lss rfl rfl rfl) ?_
 refine zn ?_
 refine zs ?_
 refine zd rfl (fun c14 => ?_) (fun c14 => ?_)
 have hk0a : k < a.length := by omega
 obtain ⟨x, hx0⟩ := get_ex hk0a
 obtain ⟨y, hy⟩ : ∃ y, b[k]? = some y := get_ex (by omega)
 refine zi ?_
 refine zs ?_
 refine xw_block ?_
 refine zr ?_
 refine zm rfl rfl ?_
 refine za rfl rfl ?_
 refine zn ?_
 refine zs ?_
 refine xw_any [] (by kernel_rfl) (by kernel_rfl) (by kernel_rfl) (by decide) ?_
 refine ym rfl rfl ?_
 refine ym rfl rfl ?_
 refine yp (p_idx_map rfl rfl rfl el_48 hx0) ?_
 refine yp (pure_eq (s' := .d (.agg (Hd.c x))) (p_load_pts rfl rfl agg_91 (Nat.le_of_ble_eq_true rfl)) (by kernel_rfl)) ?_
 refine ym rfl rfl ?_
 refine ym rfl rfl ?_
 refine yp (p_idx_map rfl rfl rfl el_48 (hy)) ?_
 refine yp (pure_eq (s' := .d (.agg (Hd.c y))) (p_load_pts rfl rfl agg_91 (Nat.le_of_ble_eq_true rfl)) (by kernel_rfl)) ?_
 refine yp (p_neq_91 rfl rfl rfl) ?_
 refine ChK.nil ⟨by kernel_rfl, ?_⟩
 refine zd rfl (fun c24 => ?_) (fun c24 => ?_)
 refine zr ?_
 refine za rfl rfl ?_
 refine zn ?_
 refine zt ?_
 exact z1 rfl rfl (rB (eq_no (fun h => Hd.ne_of c24 (by rw [h] at hx0; rw [hx0] at hy; cases hy; rfl))))
 refine zi ?_
 refine xw_region (by kernel_rfl) ?_
 refine zp (p_add rfl rfl rfl (by omega) (by omega)) ?_
 refine zm rfl rfl ?_
 refine zn ?_
 exact k_round (k + 1) (⟨by omega, fun j x' y' hj hx' hy' => by by_cases e : j = k; (· subst e; rw [hx0] at hx'; rw [hy] at hy'; cases hx'; cases hy'; exact Hd.eq_of c24); (· exact hf j x' y' (by omega) hx' hy')⟩) (by omega) (fz ⟨sr, sr, sr, sr, trivial⟩) (HSub.nil)
 have hk0b : k = a.length := by omega
 refine xw_exit ?_
 refine zr ?_
 refine za rfl rfl ?_
 refine zn ?_
 refine zt ?_
 exact z1 rfl rfl (rB (eq_yes (eq_of_all (by omega) (fun j x y hj => hf j x y (by omega)))))
theorem equal_Gr (a b : List Gr) : XC Tryz.prog 149 [.sl 5 (a.map Gr.c), .sl 5 (b.map Gr.c)] (fun r => r = dB (decide (a = b))) := by
 refine xc_body callable_149 Tryz.func149 rfl rfl (Nat.le_of_ble_eq_true rfl) ?_
 refine zr ?_
 refine za rfl rfl ?_
 refine zn ?_
 refine zs ?_
 refine zr ?_
 refine zm rfl rfl ?_
 refine XL.len rfl rfl rfl Tryz.underlying57 (fun hl7 => ?_)
 refine zm rfl rfl ?_
 refine XL.len rfl rfl rfl Tryz.underlying57 (fun hl9 => ?_)
 refine zp (p_neq rfl rfl rfl) ?_
 refine zn ?_
 refine zd rfl (fun c10 => ?_) (fun c10 => ?_)
 refine zr ?_
 refine za rfl rfl ?_
 refine zn ?_
 refine zt ?_
 exact z1 rfl rfl (rB (eq_no (fun h => c10 (by rw [h]))))
 refine zi ?_
 refine zs ?_
 refine zr ?_
 refine zm rfl rfl ?_
 refine XL.len rfl rfl rfl Tryz.underlying57 (fun hl12 => ?_)
 refine zm rfl rfl ?_
 refine zn ?_
 refine xw_block ?_
 refine xw_loop (α := Nat) (fun k => k ≤ a.length ∧ ∀ j x y, j < k → a[j]? = some x → b[j]? = some y → x = y) (fun k => mkF [(0, .d (.sl 5 (a.map Gr.c))), (1, .d (.sl 5 (b.map Gr.c))), (12, .d (dI a.length)), (13, .d (dI k))]) (fun k => mkH []) (fun k => a.length - k) (0) (⟨Nat.zero_le _, fun j x y h => absurd h (Nat.not_lt_zero _)⟩) ?_ ?_ ?_
 exact fz ⟨sr, sr, sr, sr, trivial⟩
 exact HSub.nil
 intro k hk0
 obtain ⟨hk, hf⟩ := hk0
 refine zr ?_
 refine zp (p_lss rfl rfl rfl) ?_
 refine zn ?_
 refine zs ?_
 refine zd rfl (fun c14 => ?_) (fun c14 => ?_)
 have hk0a : k < a.length := by omega
 obtain ⟨x, hx0⟩ := get_ex hk0a
 obtain ⟨y, hy⟩ : ∃ y, b[k]? = some y := get_ex (by omega)
 refine zi ?_
 refine zs ?_
 refine xw_block ?_
 refine zr ?_
 refine zm rfl rfl ?_
 refine za rfl rfl ?_
 refine zn ?_
 refine zs ?_
 refine xw_any [] (by kernel_rfl) (by kernel_rfl) (by kernel_rfl) (by decide) ?_
 refine ym rfl rfl ?_
 refine ym rfl rfl ?_
 refine yp (p_idx_map rfl rfl rfl el_57 hx0) ?_
 refine yp (pure_eq (s' := .d (.agg (Gr.c x))) (p_load_pts rfl rfl agg_138 (Nat.le_of_ble_eq_true rfl)) (by kernel_rfl)) ?_
 refine ym rfl rfl ?_
 refine ym rfl rfl ?_
 refine yp (p_idx_map rfl rfl rfl el_57 (hy)) ?_
 refine yp (pure_eq (s' := .d (.agg (Gr.c y))) (p_load_pts rfl rfl agg_138 (Nat.le_of_ble_eq_true rfl)) (by kernel_rfl)) ?_
 refine yp (p_neq_138 rfl rfl rfl) ?_
 refine ChK.nil ⟨by kernel_rfl, ?_⟩
 refine zd rfl (fun c24 => ?_) (fun c24 => ?_)
 refine zr ?_
 refine za rfl rfl ?_
 refine zn ?_
 refine zt ?_
 exact z1 rfl rfl (rB (eq_no (fun h => Gr.ne_of c24 (by rw [h] at hx0; rw [hx0] at hy; cases hy; rfl))))
 refine zi ?_
 refine xw_region (by kernel_rfl) ?_
 refine zp (p_add rfl rfl rfl (by omega) (by omega)) ?_
 refine zm rfl rfl ?_
 refine zn ?_
 exact k_round (k + 1) (⟨by omega, fun j x' y' hj hx' hy' => by by_cases e : j = k; (· subst e; rw [hx0] at hx'; rw [hy] at hy'; cases hx'; cases hy'; exact Gr.eq_of c24); (· exact hf j x' y' (by omega) hx' hy')⟩) (by omega) (fz ⟨sr, sr, sr, sr, trivial⟩) (HSub.nil)
 have hk0b : k = a.length := by omega
 refine xw_exit ?_
 refine zr ?_
 refine za rfl rfl ?_
 refine zn ?_
 refine zt ?_
 exact z1 rfl rfl (rB (eq_yes (eq_of_all (by omega) (fun j x y hj => hf j x y (by omega)))))
theorem equal_Sy (a b : List Sy) : XC Tryz.prog 150 [.sl 2 (a.map Sy.c), .sl 2 (b.map Sy.c)] (fun r => r = dB (decide (a = b))) := by
 refine xc_body callable_150 Tryz.func150 rfl rfl (Nat.le_of_ble_eq_true rfl) ?_
 refine zr ?_
 refine za rfl rfl ?_
 refine zn ?_
 refine zs ?_
 refine zr ?_
 refine zm rfl rfl ?_
 refine XL.len rfl rfl rfl Tryz.underlying58 (fun hl7 => ?_)
 refine zm rfl rfl ?_
 refine XL.len rfl rfl rfl Tryz.underlying58 (fun hl9 => ?_)
 refine zp (p_neq rfl rfl rfl) ?_
 refine zn ?_
 refine zd rfl (fun c10 => ?_) (fun c10 => ?_)
 refine zr ?_
 refine za rfl rfl ?_
 refine zn ?_
 refine zt ?_
 exact z1 rfl rfl (rB (eq_no (fun h => c10 (by rw [h]))))
 refine zi ?_
 refine zs ?_
 refine zr ?_
 refine zm rfl rfl ?_
 refine XL.len rfl rfl rfl Tryz.underlying58 (fun hl12 => ?_)
 refine zm rfl rfl ?_
 refine zn ?_
 refine xw_block ?_
 refine xw_loop (α := Nat) (fun k => k ≤ a.length ∧ ∀ j x y, j < k → a[j]? = some x → b[j]? = some y → x = y) (fun k => mkF [(0, .d (.sl 2 (a.map Sy.c))), (1, .d (.sl 2 (b.map Sy.c))), (12, .d (dI a.length)), (13, .d (dI k))]) (fun k => mkH []) (fun k => a.length - k) (0) (⟨Nat.zero_le _, fun j x y h => absurd h (Nat.not_lt_zero _)⟩) ?_ ?_ ?_
 exact fz ⟨sr, sr, sr, sr, trivial⟩
 exact HSub.nil
 intro k hk0
 obtain ⟨hk, hf⟩ := hk0
 refine zr ?_
 refine zp (p_lss rfl rfl rfl) ?_
 refine zn ?_
 refine zs ?_
 refine zd rfl (fun c14 => ?_) (fun c14 => ?_)
 have hk0a : k < a.length := by omega
 obtain ⟨x, hx0⟩ := get_ex hk0a
 obtain ⟨y, hy⟩ : ∃ y, b[k]? = some y := get_ex (by omega)
 refine zi ?_
 refine zs ?_
 refine xw_block ?_
 refine zr ?_
 refine zm rfl rfl ?_
 refine za rfl rfl ?_
 refine zn ?_
 refine zs ?_
 refine xw_any [] (by kernel_rfl) (by kernel_rfl) (by kernel_rfl) (by decide) ?_
 refine ym rfl rfl ?_
 refine ym rfl rfl ?_
 refine yp (p_idx_map rfl rfl rfl el_58 hx0) ?_
 refine yp (pure_eq (s' := .d (.agg (Sy.c x))) (p_load_pts rfl rfl agg_140 (Nat.le_of_ble_eq_true rfl)) (by kernel_rfl)) ?_
 refine ym rfl rfl ?_
 refine ym rfl rfl ?_
 refine yp (p_idx_map rfl rfl rfl el_58 (hy)) ?_
 refine yp (pure_eq (s' := .d (.agg (Sy.c y))) (p_load_pts rfl rfl agg_140 (Nat.le_of_ble_eq_true rfl)) (by kernel_rfl)) ?_
 refine yp (p_neq_140 rfl rfl rfl) ?_
 refine ChK.nil ⟨by kernel_rfl, ?_⟩
 refine zd rfl (fun c24 => ?_) (fun c24 => ?_)
 refine zr ?_
 refine za rfl rfl ?_
 refine zn ?_
 refine zt ?_
 exact z1 rfl rfl (rB (eq_no (fun h => Sy.ne_of c24 (by rw [h] at hx0; rw [hx0] at hy; cases hy; rfl))))
 refine zi ?_
 refine xw_region (by kernel_rfl) ?_
 refine zp (p_add rfl rfl rfl (by omega) (by omega)) ?_
 refine zm rfl rfl ?_
 refine zn ?_
 exact k_round (k + 1) (⟨by omega, fun j x' y' hj hx' hy' => by by_cases e : j = k; (· subst e; rw [hx0] at hx'; rw [hy] at hy'; cases hx'; cases hy'; exact Sy.eq_of c24); (· exact hf j x' y' (by omega) hx' hy')⟩) (by omega) (fz ⟨sr, sr, sr, sr, trivial⟩) (HSub.nil)
 have hk0b : k = a.length := by omega
 refine xw_exit ?_
 refine zr ?_
 refine za rfl rfl ?_
 refine zn ?_
 refine zt ?_
 exact z1 rfl rfl (rB (eq_yes (eq_of_all (by omega) (fun j x y hj => hf j x y (by omega)))))
theorem exists_xc (n : Int) : XC Tryz.prog 117 [.v (.int .i64 n)] (fun r => r = dB (decide (1 ≤ n ∧ n ≤ 4))) := by
 refine xc_body callable_117 Tryz.func117 rfl rfl (Nat.le_of_ble_eq_true rfl) ?_
 refine zr ?_
 refine za rfl rfl ?_
 refine znr ?_
 refine zm rfl rfl ?_
 refine zp (p_geq rfl rfl rfl) ?_
 refine zm rfl rfl ?_
 refine XL.dec 5 rfl (fun g5 => ?_) (fun g5 => ?_)
 refine zm rfl rfl ?_
 refine zp (p_leq rfl rfl rfl) ?_
 refine zq rfl rfl rfl ?_
 refine za rfl rfl ?_
 refine zn ?_
 refine zt ?_
 exact z1 rfl rfl (rB (by rw [decide_eq_decide]; omega))
 refine zk 2 rfl ?_
 refine zq rfl rfl rfl ?_
 refine za rfl rfl ?_
 refine zn ?_
 refine zt ?_
 exact z1 rfl rfl (rB (by rw [eq_comm, decide_eq_false_iff_not]; omega))
def fermS (n : Int) : Int := if n < 0 then 0 else if n / 16 % 2 = 1 then 16 else 0
theorem fermS_and {n : Int} (h : ¬ n < 0) : ((n.toNat &&& (16 : Int).toNat : Nat) : Int) = fermS n := by
 rw [show (16 : Int).toNat = 2 ^ 4 from rfl, and_pow, fermS, if_neg h]
 split <;> split <;> omega
theorem ferm_xc (n : Int) (hn : n ≤ 9223372036854775807) : XC Tryz.prog 151 [.v (.int .i64 n)] (fun r => r = dI (fermS n)) := by
 refine xc_body callable_151 Tryz.func151 rfl rfl (Nat.le_of_ble_eq_true rfl) ?_
 refine zr ?_
 refine za rfl rfl ?_
 refine zn ?_
 refine zs ?_
 refine zr ?_
 refine zm rfl rfl ?_
 refine zp (p_lss rfl rfl rfl) ?_
 refine zn ?_
 refine zd rfl (fun c4 => ?_) (fun c4 => ?_)
 refine zr ?_
 refine za rfl rfl ?_
 refine zn ?_
 refine zt ?_
 exact z1 rfl rfl (rI (by rw [fermS, if_pos c4]))
 refine zi ?_
 refine zr ?_
 refine zm rfl rfl ?_
 refine zp (p_and rfl rfl rfl (by omega) (by omega) (by omega) (by omega)) ?_
 refine za rfl rfl ?_
 refine zn ?_
 refine zt ?_
 exact z1 rfl rfl (rI (fermS_and c4))
end Go.Proofs.YtcihalbakenleaaGreat
namespace Go.Proofs.YtcihalbakenleaaGreat
open Go.RowKit
def Ev.same (a b : Ev) : Prop := a.kind = b.kind ∧ a.v = b.v ∧ a.art = b.art ∧ a.orn = b.orn ∧ a.dyn = b.dyn ∧ a.stem = b.stem ∧ a.beam = b.beam ∧ a.heads = b.heads ∧ a.graces = b.graces ∧ a.lyr = b.lyr
instance (a b : Ev) : Decidable (a.same b) := by unfold Ev.same; exact inferInstance
theorem Val.eq_of {x y : Val} (h : x.log = y.log ∧ x.dots = y.dots) : x = y := by obtain ⟨a, b⟩ := x; obtain ⟨c, d⟩ := y; obtain ⟨rfl, rfl⟩ := h; rfl
theorem same_no {a b : Ev} (h : ¬ a.same b) : false = decide (a.same b) := by rw [decide_eq_false h]
theorem same_xc (a b : Ev) : XC Tryz.prog 118 [.agg (Ev.c a), .agg (Ev.c b)] (fun r => r = dB (decide (a.same b))) := by
 refine xc_body callable_118 Tryz.func118 rfl rfl (Nat.le_of_ble_eq_true rfl) ?_
 refine zr ?_
 refine XL.step rfl (st_boxN 2 (l := [.d (dI a.site), .d (dI a.num), .d (dI a.kind), .d (dI a.v.log), .d (dI a.v.dots), .d (.sl 5 (a.heads.map Hd.c)), .d (.sl 5 (a.graces.map Gr.c)), .d (dI a.art), .d (dI a.orn), .d (dI a.dyn), .d (.sl 2 (a.lyr.map Sy.c)), .d (dI a.stem), .d (dI a.beam)]) rfl rfl (by kernel_rfl)) ?_
 refine XL.step rfl (st_boxN 3 (l := [.d (dI b.site), .d (dI b.num), .d (dI b.kind), .d (dI b.v.log), .d (dI b.v.dots), .d (.sl 5 (b.heads.map Hd.c)), .d (.sl 5 (b.graces.map Gr.c)), .d (dI b.art), .d (dI b.orn), .d (dI b.dyn), .d (.sl 2 (b.lyr.map Sy.c)), .d (dI b.stem), .d (dI b.beam)]) rfl rfl (by kernel_rfl)) ?_
 refine za rfl rfl ?_
 refine znr ?_
 refine zp (p_fld_ptr rfl rfl fld_60_1) ?_
 refine zp (p_load_box rfl rfl sc_3 rfl rfl) ?_
 refine zp (p_fld_ptr rfl rfl fld_60_1) ?_
 refine zp (p_load_box rfl rfl sc_3 rfl rfl) ?_
 refine zp (p_eql rfl rfl rfl) ?_
 refine zm rfl rfl ?_
 refine XL.dec 10 rfl (fun g10 => ?_) (fun g10 => ?_)
 refine zp (p_fld_ptr rfl rfl fld_60_2) ?_
 refine zp (pure_eq (s' := .d (.agg (Val.c a.v))) (norm_pure (p_load_boxs rfl rfl agg_56 rfl (Nat.le_of_ble_eq_true rfl))) (by kernel_rfl)) ?_
 refine zp (p_fld_ptr rfl rfl fld_60_2) ?_
 refine zp (pure_eq (s' := .d (.agg (Val.c b.v))) (norm_pure (p_load_boxs rfl rfl agg_56 rfl (Nat.le_of_ble_eq_true rfl))) (by kernel_rfl)) ?_
 refine zp (p_eql_56 rfl rfl rfl) ?_
 refine zq rfl rfl rfl ?_
 refine zm rfl rfl ?_
 refine XL.dec 17 rfl (fun g17 => ?_) (fun g17 => ?_)
 refine zp (p_fld_ptr rfl rfl fld_60_5) ?_
 refine zp (p_load_box rfl rfl sc_3 rfl rfl) ?_
 refine zp (p_fld_ptr rfl rfl fld_60_5) ?_
 refine zp (p_load_box rfl rfl sc_3 rfl rfl) ?_
 refine zp (p_eql rfl rfl rfl) ?_
 refine zq rfl rfl rfl ?_
 refine zm rfl rfl ?_
 refine XL.dec 24 rfl (fun g24 => ?_) (fun g24 => ?_)
 refine zp (p_fld_ptr rfl rfl fld_60_6) ?_
 refine zp (p_load_box rfl rfl sc_3 rfl rfl) ?_
 refine zp (p_fld_ptr rfl rfl fld_60_6) ?_
 refine zp (p_load_box rfl rfl sc_3 rfl rfl) ?_
 refine zp (p_eql rfl rfl rfl) ?_
 refine zq rfl rfl rfl ?_
 refine zm rfl rfl ?_
 refine XL.dec 31 rfl (fun g31 => ?_) (fun g31 => ?_)
 refine zp (p_fld_ptr rfl rfl fld_60_7) ?_
 refine zp (p_load_box rfl rfl sc_3 rfl rfl) ?_
 refine zp (p_fld_ptr rfl rfl fld_60_7) ?_
 refine zp (p_load_box rfl rfl sc_3 rfl rfl) ?_
 refine zp (p_eql rfl rfl rfl) ?_
 refine zq rfl rfl rfl ?_
 refine zm rfl rfl ?_
 refine XL.dec 38 rfl (fun g38 => ?_) (fun g38 => ?_)
 refine zp (p_fld_ptr rfl rfl fld_60_9) ?_
 refine zp (p_load_box rfl rfl sc_3 rfl rfl) ?_
 refine zp (p_fld_ptr rfl rfl fld_60_9) ?_
 refine zp (p_load_box rfl rfl sc_3 rfl rfl) ?_
 refine zp (p_eql rfl rfl rfl) ?_
 refine zq rfl rfl rfl ?_
 refine zm rfl rfl ?_
 refine XL.dec 45 rfl (fun g45 => ?_) (fun g45 => ?_)
 refine zp (p_fld_ptr rfl rfl fld_60_10) ?_
 refine zp (p_load_box rfl rfl sc_3 rfl rfl) ?_
 refine zp (p_fld_ptr rfl rfl fld_60_10) ?_
 refine zp (p_load_box rfl rfl sc_3 rfl rfl) ?_
 refine zp (p_eql rfl rfl rfl) ?_
 refine zq rfl rfl rfl ?_
 refine zm rfl rfl ?_
 refine XL.dec 52 rfl (fun g52 => ?_) (fun g52 => ?_)
 refine zp (p_fld_ptr rfl rfl fld_60_3) ?_
 refine zp (p_load_box rfl rfl sc_48 rfl rfl) ?_
 refine zp (p_fld_ptr rfl rfl fld_60_3) ?_
 refine zp (p_load_box rfl rfl sc_48 rfl rfl) ?_
 refine XL.call1 rfl rfl (equal_Hd _ _) rfl ?_
 refine zq rfl rfl rfl ?_
 refine zm rfl rfl ?_
 refine XL.dec 59 rfl (fun g59 => ?_) (fun g59 => ?_)
 refine zp (p_fld_ptr rfl rfl fld_60_4) ?_
 refine zp (p_load_box rfl rfl sc_57 rfl rfl) ?_
 refine zp (p_fld_ptr rfl rfl fld_60_4) ?_
 refine zp (p_load_box rfl rfl sc_57 rfl rfl) ?_
 refine XL.call1 rfl rfl (equal_Gr _ _) rfl ?_
 refine zq rfl rfl rfl ?_
 refine zm rfl rfl ?_
 refine XL.dec 66 rfl (fun g66 => ?_) (fun g66 => ?_)
 refine zp (p_fld_ptr rfl rfl fld_60_8) ?_
 refine zp (p_load_box rfl rfl sc_58 rfl rfl) ?_
 refine zp (p_fld_ptr rfl rfl fld_60_8) ?_
 refine zp (p_load_box rfl rfl sc_58 rfl rfl) ?_
 refine XL.call1 rfl rfl (equal_Sy _ _) rfl ?_
 refine zq rfl rfl rfl ?_
 refine za rfl rfl ?_
 refine zn ?_
 refine zt ?_
 exact z1 rfl rfl (rB (by rw [decide_eq_decide]; exact ⟨fun h => ⟨g10, Val.eq_of g17, g24, g31, g38, g45, g52, g59, g66, h⟩, fun h => h.2.2.2.2.2.2.2.2.2⟩))
 refine zk 5 rfl ?_
 refine zq rfl rfl rfl ?_
 refine za rfl rfl ?_
 refine zn ?_
 refine zt ?_
 exact z1 rfl rfl (rB (same_no fun h => g66 h.2.2.2.2.2.2.2.2.1))
 refine zk 5 rfl ?_
 refine zq rfl rfl rfl ?_
 refine zm rfl rfl ?_
 refine zk 5 rfl ?_
 refine zq rfl rfl rfl ?_
 refine za rfl rfl ?_
 refine zn ?_
 refine zt ?_
 exact z1 rfl rfl (rB (same_no fun h => g59 h.2.2.2.2.2.2.2.1))
 refine zk 5 rfl ?_
 refine zq rfl rfl rfl ?_
 refine zm rfl rfl ?_
 refine zk 5 rfl ?_
 refine zq rfl rfl rfl ?_
 refine zm rfl rfl ?_
 refine zk 5 rfl ?_
 refine zq rfl rfl rfl ?_
 refine za rfl rfl ?_
 refine zn ?_
 refine zt ?_
 exact z1 rfl rfl (rB (same_no fun h => g52 h.2.2.2.2.2.2.1))
 refine zk 5 rfl ?_
 refine zq rfl rfl rfl ?_
 refine zm rfl rfl ?_
 refine zk 5 rfl ?_
 refine zq rfl rfl rfl ?_
 refine zm rfl rfl ?_
 refine zk 5 rfl ?_
 refine zq rfl rfl rfl ?_
 refine zm rfl rfl ?_
 refine zk 5 rfl ?_
 refine zq rfl rfl rfl ?_
 refine za rfl rfl ?_
 refine zn ?_
 refine zt ?_
 exact z1 rfl rfl (rB (same_no fun h => g45 h.2.2.2.2.2.1))
 refine zk 5 rfl ?_
 refine zq rfl rfl rfl ?_
 refine zm rfl rfl ?_
 refine zk 5 rfl ?_
 refine zq rfl rfl rfl ?_
 refine zm rfl rfl ?_
 refine zk 5 rfl ?_
 refine zq rfl rfl rfl ?_
 refine zm rfl rfl ?_
 refine zk 5 rfl ?_
 refine zq rfl rfl rfl ?_
 refine zm rfl rfl ?_
 refine zk 5 rfl ?_
 refine zq rfl rfl rfl ?_
 refine za rfl rfl ?_
 refine zn ?_
 refine zt ?_
 exact z1 rfl rfl (rB (same_no fun h => g38 h.2.2.2.2.1))
 refine zk 5 rfl ?_
 refine zq rfl rfl rfl ?_
 refine zm rfl rfl ?_
 refine zk 5 rfl ?_
 refine zq rfl rfl rfl ?_
 refine zm rfl rfl ?_
 refine zk 5 rfl ?_
 refine zq rfl rfl rfl ?_
 refine zm rfl rfl ?_
 refine zk 5 rfl ?_
 refine zq rfl rfl rfl ?_
 refine zm rfl rfl ?_
 refine zk 5 rfl ?_
 refine zq rfl rfl rfl ?_
 refine zm rfl rfl ?_
 refine zk 5 rfl ?_
 refine zq rfl rfl rfl ?_
 refine za rfl rfl ?_
 refine zn ?_
 refine zt ?_
 exact z1 rfl rfl (rB (same_no fun h => g31 h.2.2.2.1))
 refine zk 5 rfl ?_
 refine zq rfl rfl rfl ?_
 refine zm rfl rfl ?_
 refine zk 5 rfl ?_
 refine zq rfl rfl rfl ?_
 refine zm rfl rfl ?_
 refine zk 5 rfl ?_
 refine zq rfl rfl rfl ?_
 refine zm rfl rfl ?_
 refine zk 5 rfl ?_
 refine zq rfl rfl rfl ?_
 refine zm rfl rfl ?_
 refine zk 5 rfl ?_
 refine zq rfl rfl rfl ?_
 refine zm rfl rfl ?_
 refine zk 5 rfl ?_
 refine zq rfl rfl rfl ?_
 refine zm rfl rfl ?_
 refine zk 5 rfl ?_
 refine zq rfl rfl rfl ?_
 refine za rfl rfl ?_
 refine zn ?_
 refine zt ?_
 exact z1 rfl rfl (rB (same_no fun h => g24 h.2.2.1))
 refine zk 5 rfl ?_
 refine zq rfl rfl rfl ?_
 refine zm rfl rfl ?_
 refine zk 5 rfl ?_
 refine zq rfl rfl rfl ?_
 refine zm rfl rfl ?_
 refine zk 5 rfl ?_
 refine zq rfl rfl rfl ?_
 refine zm rfl rfl ?_
 refine zk 5 rfl ?_
 refine zq rfl rfl rfl ?_
 refine zm rfl rfl ?_
 refine zk 5 rfl ?_
 refine zq rfl rfl rfl ?_
 refine zm rfl rfl ?_
 refine zk 5 rfl ?_
 refine zq rfl rfl rfl ?_
 refine zm rfl rfl ?_
 refine zk 5 rfl ?_
 refine zq rfl rfl rfl ?_
 refine zm rfl rfl ?_
 refine zk 5 rfl ?_
 refine zq rfl rfl rfl ?_
 refine za rfl rfl ?_
 refine zn ?_
 refine zt ?_
 exact z1 rfl rfl (rB (same_no fun h => g17 (by rw [h.2.1]; exact ⟨rfl, rfl⟩)))
 refine zk 5 rfl ?_
 refine zq rfl rfl rfl ?_
 refine zm rfl rfl ?_
 refine zk 5 rfl ?_
 refine zq rfl rfl rfl ?_
 refine zm rfl rfl ?_
 refine zk 5 rfl ?_
 refine zq rfl rfl rfl ?_
 refine zm rfl rfl ?_
 refine zk 5 rfl ?_
 refine zq rfl rfl rfl ?_
 refine zm rfl rfl ?_
 refine zk 5 rfl ?_
 refine zq rfl rfl rfl ?_
 refine zm rfl rfl ?_
 refine zk 5 rfl ?_
 refine zq rfl rfl rfl ?_
 refine zm rfl rfl ?_
 refine zk 5 rfl ?_
 refine zq rfl rfl rfl ?_
 refine zm rfl rfl ?_
 refine zk 5 rfl ?_
 refine zq rfl rfl rfl ?_
 refine zm rfl rfl ?_
 refine zk 5 rfl ?_
 refine zq rfl rfl rfl ?_
 refine za rfl rfl ?_
 refine zn ?_
 refine zt ?_
 exact z1 rfl rfl (rB (same_no fun h => g10 h.1))
def Ev.strip (e : Ev) : Ev :=
 if e.kind = 1 ∨ ¬ (1 ≤ e.kind ∧ e.kind ≤ 4) then e else
 ⟨e.site, e.num, e.kind, if e.kind ≠ 3 then e.v else ⟨0, 0⟩, [], [], if e.kind ≠ 4 then fermS e.art else 0, 0, e.dyn, [], 0, 0⟩
theorem strip_1 {e : Ev} (h : e.kind = 1) : e = e.strip := by rw [Ev.strip, if_pos (.inl h)]
theorem strip_2 {e : Ev} (h : ¬ (1 ≤ e.kind ∧ e.kind ≤ 4)) : e = e.strip := by rw [Ev.strip, if_pos (.inr h)]
theorem strip_a {e : Ev} (h : ¬ e.kind = 1) (h2 : ¬ ¬ (1 ≤ e.kind ∧ e.kind ≤ 4)) (h3 : e.kind ≠ 3) (h4 : e.kind ≠ 4) : (⟨e.site, e.num, e.kind, e.v, [], [], fermS e.art, 0, e.dyn, [], 0, 0⟩ : Ev) = e.strip := by rw [Ev.strip, if_neg (by omega), if_pos h3, if_pos h4]
theorem strip_b {e : Ev} (h : ¬ e.kind = 1) (h2 : ¬ ¬ (1 ≤ e.kind ∧ e.kind ≤ 4)) (h3 : e.kind ≠ 3) (h4 : ¬ e.kind ≠ 4) : (⟨e.site, e.num, e.kind, e.v, [], [], 0, 0, e.dyn, [], 0, 0⟩ : Ev) = e.strip := by rw [Ev.strip, if_neg (by omega), if_pos h3, if_neg h4]
theorem strip_c {e : Ev} (h : ¬ e.kind = 1) (h2 : ¬ ¬ (1 ≤ e.kind ∧ e.kind ≤ 4)) (h3 : ¬ e.kind ≠ 3) (h4 : e.kind ≠ 4) : (⟨e.site, e.num, e.kind, ⟨0, 0⟩, [], [], fermS e.art, 0, e.dyn, [], 0, 0⟩ : Ev) = e.strip := by rw [Ev.strip, if_neg (by omega), if_neg h3, if_pos h4]
theorem aggE {a b : Ev} (h : a = b) : D.agg (Ev.c a) = .agg (Ev.c b) := by rw [h]
theorem strip_xc (e : Ev) (he : e.art ≤ 9223372036854775807) : XC Tryz.prog 119 [.agg (Ev.c e)] (fun r => r = .agg (Ev.c e.strip)) := by
 refine xc_body callable_119 Tryz.func119 rfl rfl (Nat.le_of_ble_eq_true rfl) ?_
 refine zr ?_
 refine XL.step rfl (st_boxN 1 (l := [.d (dI e.site), .d (dI e.num), .d (dI e.kind), .d (dI e.v.log), .d (dI e.v.dots), .d (.sl 5 (e.heads.map Hd.c)), .d (.sl 5 (e.graces.map Gr.c)), .d (dI e.art), .d (dI e.orn), .d (dI e.dyn), .d (.sl 2 (e.lyr.map Sy.c)), .d (dI e.stem), .d (dI e.beam)]) rfl rfl (by kernel_rfl)) ?_
 refine XL.step rfl (st_allocN 2 (l := [.d (dI 0), .d (dI 0), .d (dI 0), .d (dI 0), .d (dI 0), .d (.v (.slice none 0 0)), .d (.v (.slice none 0 0)), .d (dI 0), .d (dI 0), .d (dI 0), .d (.v (.slice none 0 0)), .d (dI 0), .d (dI 0)]) rfl zero_60 (by kernel_rfl)) ?_
 refine zn ?_
 refine zs ?_
 refine zr ?_
 refine zp (p_fld_ptr rfl rfl fld_60_1) ?_
 refine zp (p_load_box rfl rfl sc_3 rfl rfl) ?_
 refine zp (p_eql rfl rfl rfl) ?_
 refine zm rfl rfl ?_
 refine XL.dec 7 rfl (fun g7 => ?_) (fun g7 => ?_)
 refine zk 4 rfl ?_
 refine zq rfl rfl rfl ?_
 refine zn ?_
 refine xw_true (by kernel_rfl) rfl ?_
 refine zr ?_
 refine zp (pure_eq (s' := .d (.agg (Ev.c e))) (norm_pure (p_load_boxs rfl rfl agg_60 rfl (Nat.le_of_ble_eq_true rfl))) (by kernel_rfl)) ?_
 refine XL.step rfl (st_storeN (l' := [.d (dI e.site), .d (dI e.num), .d (dI e.kind), .d (dI e.v.log), .d (dI e.v.dots), .d (.sl 5 (e.heads.map Hd.c)), .d (.sl 5 (e.graces.map Gr.c)), .d (dI e.art), .d (dI e.orn), .d (dI e.dyn), .d (.sl 2 (e.lyr.map Sy.c)), .d (dI e.stem), .d (dI e.beam)]) rfl rfl rfl rfl sz_60 rfl (Nat.le_of_ble_eq_true rfl) (by kernel_rfl)) ?_
 refine zn ?_
 refine zt ?_
 exact ret1 rfl (RV.cells rfl rfl rfl agg_60 (Nat.le_of_ble_eq_true rfl) rfl) (aggE (strip_1 g7))
 refine zp (p_fld_ptr rfl rfl fld_60_1) ?_
 refine zp (p_load_box rfl rfl sc_3 rfl rfl) ?_
 refine XL.call1 rfl rfl (exists_xc _) rfl ?_
 refine zp (p_notdec rfl rfl) ?_
 refine zq rfl rfl rfl ?_
 refine zn ?_
 refine zd rfl (fun c12 => ?_) (fun c12 => ?_)
 refine zr ?_
 refine zp (pure_eq (s' := .d (.agg (Ev.c e))) (norm_pure (p_load_boxs rfl rfl agg_60 rfl (Nat.le_of_ble_eq_true rfl))) (by kernel_rfl)) ?_
 refine XL.step rfl (st_storeN (l' := [.d (dI e.site), .d (dI e.num), .d (dI e.kind), .d (dI e.v.log), .d (dI e.v.dots), .d (.sl 5 (e.heads.map Hd.c)), .d (.sl 5 (e.graces.map Gr.c)), .d (dI e.art), .d (dI e.orn), .d (dI e.dyn), .d (.sl 2 (e.lyr.map Sy.c)), .d (dI e.stem), .d (dI e.beam)]) rfl rfl rfl rfl sz_60 rfl (Nat.le_of_ble_eq_true rfl) (by kernel_rfl)) ?_
 refine zn ?_
 refine zt ?_
 exact ret1 rfl (RV.cells rfl rfl rfl agg_60 (Nat.le_of_ble_eq_true rfl) rfl) (aggE (strip_2 c12))
 refine zi ?_
 refine zr ?_
 refine zp (p_fld_ptr rfl rfl fld_60_0) ?_
 refine zp (pure_eq (s' := .d (.agg [dI e.site, dI e.num])) (norm_pure (p_load_boxs rfl rfl agg_54 rfl (Nat.le_of_ble_eq_true rfl))) (by kernel_rfl)) ?_
 refine zp (p_fld_ptr rfl rfl fld_60_1) ?_
 refine zp (p_load_box rfl rfl sc_3 rfl rfl) ?_
 refine zp (p_fld_ptr rfl rfl fld_60_7) ?_
 refine zp (p_load_box rfl rfl sc_3 rfl rfl) ?_
 refine zp (pure_eq (s' := .d (.agg [dI e.site, dI e.num, dI e.kind, dI 0, dI 0, .v (.slice none 0 0), .v (.slice none 0 0), dI 0, dI 0, dI e.dyn, .v (.slice none 0 0), dI 0, dI 0])) (norm_pure (p_build rfl str_60 zero_60 rfl)) (by kernel_rfl)) ?_
 refine XL.step rfl (st_allocN 3 (l := [.d (dI 0), .d (dI 0), .d (dI 0), .d (dI 0), .d (dI 0), .d (.v (.slice none 0 0)), .d (.v (.slice none 0 0)), .d (dI 0), .d (dI 0), .d (dI 0), .d (.v (.slice none 0 0)), .d (dI 0), .d (dI 0)]) rfl zero_60 (by kernel_rfl)) ?_
 refine XL.step rfl (st_storeN (l' := [.d (dI e.site), .d (dI e.num), .d (dI e.kind), .d (dI 0), .d (dI 0), .d (.v (.slice none 0 0)), .d (.v (.slice none 0 0)), .d (dI 0), .d (dI 0), .d (dI e.dyn), .d (.v (.slice none 0 0)), .d (dI 0), .d (dI 0)]) rfl rfl rfl rfl sz_60 rfl (Nat.le_of_ble_eq_true rfl) (by kernel_rfl)) ?_
 refine zn ?_
 refine zs ?_
 refine zr ?_
 refine zp (p_fld_ptr rfl rfl fld_60_1) ?_
 refine zp (p_load_box rfl rfl sc_3 rfl rfl) ?_
 refine zp (p_neq rfl rfl rfl) ?_
 refine zn ?_
 refine zd rfl (fun c23 => ?_) (fun c23 => ?_)
 refine xw_region (by kernel_rfl) ?_
 refine zp (p_fld_ptr rfl rfl fld_60_2) ?_
 refine zp (pure_eq (s' := .d (.agg (Val.c e.v))) (norm_pure (p_load_boxs rfl rfl agg_56 rfl (Nat.le_of_ble_eq_true rfl))) (by kernel_rfl)) ?_
 refine zp (p_fld_ptr rfl rfl fld_60_2) ?_
 refine XL.step rfl (st_storeN (l' := [.d (dI e.site), .d (dI e.num), .d (dI e.kind), .d (dI e.v.log), .d (dI e.v.dots), .d (.v (.slice none 0 0)), .d (.v (.slice none 0 0)), .d (dI 0), .d (dI 0), .d (dI e.dyn), .d (.v (.slice none 0 0)), .d (dI 0), .d (dI 0)]) rfl rfl rfl rfl sz_56 rfl (Nat.le_of_ble_eq_true rfl) (by kernel_rfl)) ?_
 refine zn ?_
 refine zs ?_
 refine zr ?_
 refine zp (p_fld_ptr rfl rfl fld_60_1) ?_
 refine zp (p_load_box rfl rfl sc_3 rfl rfl) ?_
 refine zp (p_neq rfl rfl rfl) ?_
 refine zn ?_
 refine zd rfl (fun c29 => ?_) (fun c29 => ?_)
 refine xw_region (by kernel_rfl) ?_
 refine zp (p_fld_ptr rfl rfl fld_60_5) ?_
 refine zp (p_load_box rfl rfl sc_3 rfl rfl) ?_
 refine XL.call1 rfl rfl (ferm_xc _ (by assumption)) rfl ?_
 refine zp (p_fld_ptr rfl rfl fld_60_5) ?_
 refine XL.step rfl (st_storeN (l' := [.d (dI e.site), .d (dI e.num), .d (dI e.kind), .d (dI e.v.log), .d (dI e.v.dots), .d (.v (.slice none 0 0)), .d (.v (.slice none 0 0)), .d (dI (fermS e.art)), .d (dI 0), .d (dI e.dyn), .d (.v (.slice none 0 0)), .d (dI 0), .d (dI 0)]) rfl rfl rfl rfl sz_3 rfl (Nat.le_of_ble_eq_true rfl) (by kernel_rfl)) ?_
 refine znr ?_
 refine zp (pure_eq (s' := .d (.agg [dI e.site, dI e.num, dI e.kind, dI e.v.log, dI e.v.dots, .v (.slice none 0 0), .v (.slice none 0 0), dI (fermS e.art), dI 0, dI e.dyn, .v (.slice none 0 0), dI 0, dI 0])) (norm_pure (p_load_boxs rfl rfl agg_60 rfl (Nat.le_of_ble_eq_true rfl))) (by kernel_rfl)) ?_
 refine XL.step rfl (st_storeN (l' := [.d (dI e.site), .d (dI e.num), .d (dI e.kind), .d (dI e.v.log), .d (dI e.v.dots), .d (.v (.slice none 0 0)), .d (.v (.slice none 0 0)), .d (dI (fermS e.art)), .d (dI 0), .d (dI e.dyn), .d (.v (.slice none 0 0)), .d (dI 0), .d (dI 0)]) rfl rfl rfl rfl sz_60 rfl (Nat.le_of_ble_eq_true rfl) (by kernel_rfl)) ?_
 refine zn ?_
 refine zt ?_
 exact ret1 rfl (RV.sub (RV.cells rfl rfl rfl agg_60 (Nat.le_of_ble_eq_true rfl) rfl) (.agg (.cons (.same rfl) (.cons (.same rfl) (.cons (.same rfl) (.cons (.same rfl) (.cons (.same rfl) (.cons (.nil 5) (.cons (.nil 5) (.cons (.same rfl) (.cons (.same rfl) (.cons (.same rfl) (.cons (.nil 2) (.cons (.same rfl) (.cons (.same rfl) (.nil)))))))))))))))) (aggE (strip_a g7 c12 c23 c29))
 refine zi ?_
 refine zr ?_
 refine zp (pure_eq (s' := .d (.agg [dI e.site, dI e.num, dI e.kind, dI e.v.log, dI e.v.dots, .v (.slice none 0 0), .v (.slice none 0 0), dI 0, dI 0, dI e.dyn, .v (.slice none 0 0), dI 0, dI 0])) (norm_pure (p_load_boxs rfl rfl agg_60 rfl (Nat.le_of_ble_eq_true rfl))) (by kernel_rfl)) ?_
 refine XL.step rfl (st_storeN (l' := [.d (dI e.site), .d (dI e.num), .d (dI e.kind), .d (dI e.v.log), .d (dI e.v.dots), .d (.v (.slice none 0 0)), .d (.v (.slice none 0 0)), .d (dI 0), .d (dI 0), .d (dI e.dyn), .d (.v (.slice none 0 0)), .d (dI 0), .d (dI 0)]) rfl rfl rfl rfl sz_60 rfl (Nat.le_of_ble_eq_true rfl) (by kernel_rfl)) ?_
 refine zn ?_
 refine zt ?_
 exact ret1 rfl (RV.sub (RV.cells rfl rfl rfl agg_60 (Nat.le_of_ble_eq_true rfl) rfl) (.agg (.cons (.same rfl) (.cons (.same rfl) (.cons (.same rfl) (.cons (.same rfl) (.cons (.same rfl) (.cons (.nil 5) (.cons (.nil 5) (.cons (.same rfl) (.cons (.same rfl) (.cons (.same rfl) (.cons (.nil 2) (.cons (.same rfl) (.cons (.same rfl) (.nil)))))))))))))))) (aggE (strip_b g7 c12 c23 c29))
 refine zi ?_
 refine zs ?_
 refine zr ?_
 refine zp (p_fld_ptr rfl rfl fld_60_1) ?_
 refine zp (p_load_box rfl rfl sc_3 rfl rfl) ?_
 refine zp (p_neq rfl rfl rfl) ?_
 refine zn ?_
 refine zd rfl (fun c29 => ?_) (fun c29 => ?_)
 refine xw_region (by kernel_rfl) ?_
 refine zp (p_fld_ptr rfl rfl fld_60_5) ?_
 refine zp (p_load_box rfl rfl sc_3 rfl rfl) ?_
 refine XL.call1 rfl rfl (ferm_xc _ (by assumption)) rfl ?_
 refine zp (p_fld_ptr rfl rfl fld_60_5) ?_
 refine XL.step rfl (st_storeN (l' := [.d (dI e.site), .d (dI e.num), .d (dI e.kind), .d (dI 0), .d (dI 0), .d (.v (.slice none 0 0)), .d (.v (.slice none 0 0)), .d (dI (fermS e.art)), .d (dI 0), .d (dI e.dyn), .d (.v (.slice none 0 0)), .d (dI 0), .d (dI 0)]) rfl rfl rfl rfl sz_3 rfl (Nat.le_of_ble_eq_true rfl) (by kernel_rfl)) ?_
 refine znr ?_
 refine zp (pure_eq (s' := .d (.agg [dI e.site, dI e.num, dI e.kind, dI 0, dI 0, .v (.slice none 0 0), .v (.slice none 0 0), dI (fermS e.art), dI 0, dI e.dyn, .v (.slice none 0 0), dI 0, dI 0])) (norm_pure (p_load_boxs rfl rfl agg_60 rfl (Nat.le_of_ble_eq_true rfl))) (by kernel_rfl)) ?_
 refine XL.step rfl (st_storeN (l' := [.d (dI e.site), .d (dI e.num), .d (dI e.kind), .d (dI 0), .d (dI 0), .d (.v (.slice none 0 0)), .d (.v (.slice none 0 0)), .d (dI (fermS e.art)), .d (dI 0), .d (dI e.dyn), .d (.v (.slice none 0 0)), .d (dI 0), .d (dI 0)]) rfl rfl rfl rfl sz_60 rfl (Nat.le_of_ble_eq_true rfl) (by kernel_rfl)) ?_
 refine zn ?_
 refine zt ?_
 exact ret1 rfl (RV.sub (RV.cells rfl rfl rfl agg_60 (Nat.le_of_ble_eq_true rfl) rfl) (.agg (.cons (.same rfl) (.cons (.same rfl) (.cons (.same rfl) (.cons (.same rfl) (.cons (.same rfl) (.cons (.nil 5) (.cons (.nil 5) (.cons (.same rfl) (.cons (.same rfl) (.cons (.same rfl) (.cons (.nil 2) (.cons (.same rfl) (.cons (.same rfl) (.nil)))))))))))))))) (aggE (strip_c g7 c12 c23 c29))
 refine zi ?_
 refine zr ?_
 refine zp (pure_eq (s' := .d (.agg [dI e.site, dI e.num, dI e.kind, dI 0, dI 0, .v (.slice none 0 0), .v (.slice none 0 0), dI 0, dI 0, dI e.dyn, .v (.slice none 0 0), dI 0, dI 0])) (norm_pure (p_load_boxs rfl rfl agg_60 rfl (Nat.le_of_ble_eq_true rfl))) (by kernel_rfl)) ?_
 refine XL.step rfl (st_storeN (l' := [.d (dI e.site), .d (dI e.num), .d (dI e.kind), .d (dI 0), .d (dI 0), .d (.v (.slice none 0 0)), .d (.v (.slice none 0 0)), .d (dI 0), .d (dI 0), .d (dI e.dyn), .d (.v (.slice none 0 0)), .d (dI 0), .d (dI 0)]) rfl rfl rfl rfl sz_60 rfl (Nat.le_of_ble_eq_true rfl) (by kernel_rfl)) ?_
 refine zn ?_
 refine zt ?_
 exact ret1 rfl (RV.sub (RV.cells rfl rfl rfl agg_60 (Nat.le_of_ble_eq_true rfl) rfl) (.agg (.cons (.same rfl) (.cons (.same rfl) (.cons (.same rfl) (.cons (.same rfl) (.cons (.same rfl) (.cons (.nil 5) (.cons (.nil 5) (.cons (.same rfl) (.cons (.same rfl) (.cons (.same rfl) (.cons (.nil 2) (.cons (.same rfl) (.cons (.same rfl) (.nil)))))))))))))))) (by exfalso; omega)
def valErr (v : Val) : Int := if -1 ≤ v.log ∧ v.log ≤ 8 ∧ 0 ≤ v.dots ∧ v.dots ≤ 3 then 0 else 17
theorem valErr_no {v : Val} (h : ¬ (-1 ≤ v.log ∧ v.log ≤ 8 ∧ 0 ≤ v.dots ∧ v.dots ≤ 3)) : 17 = valErr v := by rw [valErr, if_neg h]
theorem valErr_ok {v : Val} (h : -1 ≤ v.log ∧ v.log ≤ 8 ∧ 0 ≤ v.dots ∧ v.dots ≤ 3) : 0 = valErr v := by rw [valErr, if_pos h]
theorem of_valErr {v : Val} (h : ¬ valErr v ≠ 0) : -1 ≤ v.log ∧ v.log ≤ 8 ∧ 0 ≤ v.dots ∧ v.dots ≤ 3 := by
 unfold valErr at h; split at h
 ·assumption
 ·omega
theorem dcheck_xc (v : Val) : XC Tryz.prog 120 [.agg (Val.c v)] (fun r => r = dI (valErr v)) := by
 refine xc_body callable_120 Tryz.func120 rfl rfl (Nat.le_of_ble_eq_true rfl) ?_
 refine zr ?_
 refine XL.step rfl (st_boxN 1 (l := [.d (dI v.log), .d (dI v.dots)]) rfl rfl (by kernel_rfl)) ?_
 refine za rfl rfl ?_
 refine zn ?_
 refine zs ?_
 refine zr ?_
 refine zp (p_fld_ptr rfl rfl fld_56_0) ?_
 refine zp (p_load_box rfl rfl sc_3 rfl rfl) ?_
 refine zp (p_lss rfl rfl rfl) ?_
 refine zm rfl rfl ?_
 refine XL.dec 6 rfl (fun g6 => ?_) (fun g6 => ?_)
 refine zk 3 rfl ?_
 refine zq rfl rfl rfl ?_
 refine zm rfl rfl ?_
 refine zk 3 rfl ?_
 refine zq rfl rfl rfl ?_
 refine zm rfl rfl ?_
 refine zk 3 rfl ?_
 refine zq rfl rfl rfl ?_
 refine zn ?_
 refine xw_true (by kernel_rfl) rfl ?_
 refine zr ?_
 refine za rfl rfl ?_
 refine zn ?_
 refine zt ?_
 exact z1 rfl rfl (rI (valErr_no (by omega)))
 refine zp (p_fld_ptr rfl rfl fld_56_0) ?_
 refine zp (p_load_box rfl rfl sc_3 rfl rfl) ?_
 refine zp (p_gtr rfl rfl rfl) ?_
 refine zq rfl rfl rfl ?_
 refine zm rfl rfl ?_
 refine XL.dec 11 rfl (fun g11 => ?_) (fun g11 => ?_)
 refine zk 3 rfl ?_
 refine zq rfl rfl rfl ?_
 refine zm rfl rfl ?_
 refine zk 3 rfl ?_
 refine zq rfl rfl rfl ?_
 refine zn ?_
 refine xw_true (by kernel_rfl) rfl ?_
 refine zr ?_
 refine za rfl rfl ?_
 refine zn ?_
 refine zt ?_
 exact z1 rfl rfl (rI (valErr_no (by omega)))
 refine zp (p_fld_ptr rfl rfl fld_56_1) ?_
 refine zp (p_load_box rfl rfl sc_3 rfl rfl) ?_
 refine zp (p_lss rfl rfl rfl) ?_
 refine zq rfl rfl rfl ?_
 refine zm rfl rfl ?_
 refine XL.dec 16 rfl (fun g16 => ?_) (fun g16 => ?_)
 refine zk 3 rfl ?_
 refine zq rfl rfl rfl ?_
 refine zn ?_
 refine xw_true (by kernel_rfl) rfl ?_
 refine zr ?_
 refine za rfl rfl ?_
 refine zn ?_
 refine zt ?_
 exact z1 rfl rfl (rI (valErr_no (by omega)))
 refine zp (p_fld_ptr rfl rfl fld_56_1) ?_
 refine zp (p_load_box rfl rfl sc_3 rfl rfl) ?_
 refine zp (p_gtr rfl rfl rfl) ?_
 refine zq rfl rfl rfl ?_
 refine zn ?_
 refine zd rfl (fun c20 => ?_) (fun c20 => ?_)
 refine zr ?_
 refine za rfl rfl ?_
 refine zn ?_
 refine zt ?_
 exact z1 rfl rfl (rI (valErr_no (by omega)))
 refine zi ?_
 refine zr ?_
 refine za rfl rfl ?_
 refine zn ?_
 refine zt ?_
 exact z1 rfl rfl (rI (valErr_ok (by omega)))
/-- half and sum behind n dots -/
def dotted (p : Int) : Nat → Int × Int
 | 0 => (p, p)
 | n + 1 => ((dotted p n).1 / 2, (dotted p n).2 + (dotted p n).1 / 2)
theorem dotted_bd {p : Int} (h0 : 0 ≤ p) (n : Nat) : 0 ≤ (dotted p n).1 ∧ (dotted p n).1 ≤ p ∧ 0 ≤ (dotted p n).2 ∧ (dotted p n).2 ≤ p * (n + 1) := by
 induction n with
 | zero => simp [dotted]; omega
 | succ n ih =>
  have e : p * ((n + 1 : Nat) + 1 : Int) = p * (n + 1) + p := by rw [Int.natCast_add, Int.mul_add]; simp
  simp only [dotted]
  rw [e]
  omega
def valPlain (v : Val) : Int := 3870720 / 2 ^ (v.log + 1).toNat
def valTicks (v : Val) : Int := (dotted (valPlain v) v.dots.toNat).2
theorem valPlain_bd (v : Val) : 0 ≤ valPlain v ∧ valPlain v ≤ 3870720 := by
 unfold valPlain
 have h : (0 : Int) < 2 ^ (v.log + 1).toNat := Int.pow_pos (by omega)
 exact ⟨Int.ediv_nonneg (by omega) (by omega), Int.ediv_le_self _ (by omega)⟩
theorem dticks_xc (v : Val) (hv : -1 ≤ v.log ∧ v.log ≤ 8 ∧ 0 ≤ v.dots ∧ v.dots ≤ 3) : XC Tryz.prog 170 [.agg (Val.c v)] (fun r => r = dI (valTicks v)) := by
 have hp := valPlain_bd v
 refine xc_body callable_170 Tryz.func170 rfl rfl (Nat.le_of_ble_eq_true rfl) ?_
 refine zr ?_
 refine XL.step rfl (st_boxN 1 (l := [.d (dI v.log), .d (dI v.dots)]) rfl rfl (by kernel_rfl)) ?_
 refine za rfl rfl ?_
 refine znr ?_
 refine zp (p_fld_ptr rfl rfl fld_56_0) ?_
 refine zp (p_load_box rfl rfl sc_3 rfl rfl) ?_
 refine zp (p_add rfl rfl rfl (by omega) (by omega)) ?_
 refine zp (p_shr rfl rfl rfl (by omega) (by omega)) ?_
 refine za rfl rfl ?_
 refine znr ?_
 refine zm rfl rfl ?_
 refine za rfl rfl ?_
 refine zn ?_
 refine zs ?_
 refine zr ?_
 refine zp (p_fld_ptr rfl rfl fld_56_1) ?_
 refine zp (p_load_box rfl rfl sc_3 rfl rfl) ?_
 refine zm rfl rfl ?_
 refine zn ?_
 refine xw_block ?_
 refine xw_loop (α := Nat) (fun k => (k : Int) ≤ v.dots) (fun k => mkF [(2, .d (dI 0)), (3, .d (dI (dotted (valPlain v) k).1)), (4, .d (dI (dotted (valPlain v) k).2)), (11, .d (dI v.dots)), (12, .d (dI k))]) (fun k => mkH []) (fun k => v.dots.toNat - k) (0) (hv.2.2.1) ?_ ?_ ?_
 exact fz ⟨sr, sr, sr, sr, sr, trivial⟩
 exact HSub.nil
 intro k hk0
 refine zr ?_
 refine zp (p_lss rfl rfl rfl) ?_
 refine zn ?_
 refine zs ?_
 refine zd rfl (fun c13 => ?_) (fun c13 => ?_)
 have hb := dotted_bd hp.1 k
 have hb2 : valPlain v * ((k : Int) + 1) ≤ 3870720 * 4 := Int.mul_le_mul hp.2 (by omega) (by omega) (by omega)
 refine zi ?_
 refine zs ?_
 refine xw_block ?_
 refine zr ?_
 refine zm rfl rfl ?_
 refine zp (p_quo rfl rfl rfl (by omega) (by omega) (by omega)) ?_
 refine za rfl rfl ?_
 refine zng ?_
 refine zm rfl rfl ?_
 refine zm rfl rfl ?_
 refine zp (p_add rfl rfl rfl (by omega) (by omega)) ?_
 refine za rfl rfl ?_
 refine zn ?_
 refine xw_region (by kernel_rfl) ?_
 refine zp (p_add rfl rfl rfl (by omega) (by omega)) ?_
 refine zm rfl rfl ?_
 refine zn ?_
 exact k_round (k + 1) (by omega) (by omega) (fz ⟨sr, sr, sr, sr, sr, trivial⟩) (HSub.nil)
 have hke : v.dots.toNat = k := by omega
 refine xw_exit ?_
 refine zr ?_
 refine zm rfl rfl ?_
 refine za rfl rfl ?_
 refine zn ?_
 refine zt ?_
 exact z1 rfl rfl (rI (by rw [valTicks, hke]))
def valT (v : Val) : Int := if valErr v = 0 then valTicks v else 0
theorem valT_no {v : Val} (h : valErr v ≠ 0) : 0 = valT v := by rw [valT, if_neg h]
theorem valT_ok {v : Val} (h : ¬ valErr v ≠ 0) : valTicks v = valT v ∧ 0 = valErr v := ⟨by rw [valT, if_pos (by omega)], by omega⟩
theorem dTicks_xc (v : Val) : XC Tryz.prog 180 [.agg (Val.c v)] (fun r => r = .tup [dI (valT v), dI (valErr v)]) := by
 refine xc_body callable_180 Tryz.func180 rfl rfl (Nat.le_of_ble_eq_true rfl) ?_
 refine zr ?_
 refine XL.step rfl (st_boxN 1 (l := [.d (dI v.log), .d (dI v.dots)]) rfl rfl (by kernel_rfl)) ?_
 refine za rfl rfl ?_
 refine za rfl rfl ?_
 refine zn ?_
 refine zs ?_
 refine zr ?_
 refine zp (pure_eq (s' := .d (.agg (Val.c v))) (norm_pure (p_load_boxs rfl rfl agg_56 rfl (Nat.le_of_ble_eq_true rfl))) (by kernel_rfl)) ?_
 refine XL.call1 rfl rfl (dcheck_xc _) rfl ?_
 refine za rfl rfl ?_
 refine znr ?_
 refine zm rfl rfl ?_
 refine zp (p_neq rfl rfl rfl) ?_
 refine zn ?_
 refine zd rfl (fun c8 => ?_) (fun c8 => ?_)
 refine zr ?_
 refine zm rfl rfl ?_
 refine za rfl rfl ?_
 refine za rfl rfl ?_
 refine zn ?_
 refine zt ?_
 exact ret2 rfl (RV.tmp rfl rfl) (RV.tmp rfl rfl) (r2 (rI (valT_no c8)) rfl)
 refine zi ?_
 refine zs ?_
 have hv := of_valErr c8
 refine xw_region (by kernel_rfl) ?_
 refine zp (pure_eq (s' := .d (.agg (Val.c v))) (norm_pure (p_load_boxs rfl rfl agg_56 rfl (Nat.le_of_ble_eq_true rfl))) (by kernel_rfl)) ?_
 refine XL.call1 rfl rfl (dticks_xc _ (by assumption)) rfl ?_
 refine za rfl rfl ?_
 refine za rfl rfl ?_
 refine zn ?_
 refine zt ?_
 exact ret2 rfl (RV.tmp rfl rfl) (RV.tmp rfl rfl) (r2 (rI (valT_ok c8).1) (rI (valT_ok c8).2))
/-- the first error of an event -/
def Ev.e1 (e : Ev) : Int := firstS [withinS e.site 99, withinS e.num 1073741824]
def Ev.e2 (e : Ev) : Int := firstS [headsErr e.heads, gracesErr e.graces, lyrErr e.lyr]
def Ev.e3 (e : Ev) : Int := firstS [withinS e.art 31, withinS e.orn 4, withinS e.dyn 9, withinS e.stem 2, withinS e.beam 2]
def Ev.err (e : Ev) : Int :=
 if e.e1 ≠ 0 then e.e1 else if ¬ (1 ≤ e.kind ∧ e.kind ≤ 4) then 11 else if ¬ e.same e.strip then 3 else if e.kind ≠ 3 ∧ valErr e.v ≠ 0 then 17
 else if e.kind = 1 ∧ e.e2 ≠ 0 then e.e2 else e.e3
theorem err_1 {e : Ev} (h : e.e1 ≠ 0) : e.e1 = e.err := by rw [Ev.err, if_pos h]
theorem err_2 {e : Ev} (h : ¬ e.e1 ≠ 0) (h2 : ¬ (1 ≤ e.kind ∧ e.kind ≤ 4)) : 11 = e.err := by rw [Ev.err, if_neg h, if_pos h2]
theorem err_3 {e : Ev} (h : ¬ e.e1 ≠ 0) (h2 : ¬ ¬ (1 ≤ e.kind ∧ e.kind ≤ 4)) (h3 : ¬ e.same e.strip) : 3 = e.err := by rw [Ev.err, if_neg h, if_neg h2, if_pos h3]
theorem err_4 {e : Ev} (h : ¬ e.e1 ≠ 0) (h2 : ¬ ¬ (1 ≤ e.kind ∧ e.kind ≤ 4)) (h3 : ¬ ¬ e.same e.strip) (h4 : e.kind ≠ 3) (h5 : valErr e.v ≠ 0) : 17 = e.err := by rw [Ev.err, if_neg h, if_neg h2, if_neg h3, if_pos ⟨h4, h5⟩]
theorem err_5 {e : Ev} (h : ¬ e.e1 ≠ 0) (h2 : ¬ ¬ (1 ≤ e.kind ∧ e.kind ≤ 4)) (h3 : ¬ ¬ e.same e.strip) (h4 : ¬ (e.kind ≠ 3 ∧ valErr e.v ≠ 0)) (h5 : e.kind = 1) (h6 : e.e2 ≠ 0) : e.e2 = e.err := by rw [Ev.err, if_neg h, if_neg h2, if_neg h3, if_neg h4, if_pos ⟨h5, h6⟩]
theorem err_6 {e : Ev} (h : ¬ e.e1 ≠ 0) (h2 : ¬ ¬ (1 ≤ e.kind ∧ e.kind ≤ 4)) (h3 : ¬ ¬ e.same e.strip) (h4 : ¬ (e.kind ≠ 3 ∧ valErr e.v ≠ 0)) (h5 : ¬ (e.kind = 1 ∧ e.e2 ≠ 0)) : e.e3 = e.err := by rw [Ev.err, if_neg h, if_neg h2, if_neg h3, if_neg h4, if_neg h5]
theorem echeck_xc (e : Ev) (he : e.art ≤ 9223372036854775807) : XC Tryz.prog 75 [.agg (Ev.c e)] (fun r => r = dI e.err) := by
 refine xc_body callable_75 Tryz.func75 rfl rfl (Nat.le_of_ble_eq_true rfl) ?_
 refine zr ?_
 refine XL.step rfl (st_boxN 1 (l := [.d (dI e.site), .d (dI e.num), .d (dI e.kind), .d (dI e.v.log), .d (dI e.v.dots), .d (.sl 5 (e.heads.map Hd.c)), .d (.sl 5 (e.graces.map Gr.c)), .d (dI e.art), .d (dI e.orn), .d (dI e.dyn), .d (.sl 2 (e.lyr.map Sy.c)), .d (dI e.stem), .d (dI e.beam)]) rfl rfl (by kernel_rfl)) ?_
 refine za rfl rfl ?_
 refine zn ?_
 refine zs ?_
 refine zs ?_
 refine xw_any [] (by kernel_rfl) (by kernel_rfl) (by kernel_rfl) (by decide) ?_
 refine yp (p_fld_ptr rfl rfl fld_60_0) ?_
 refine yp (p_fld_ptr rfl rfl fld_54_0) ?_
 refine yp (p_load_box rfl rfl sc_3 rfl rfl) ?_
 refine ChK.cons rfl (CStep.call rfl (within_xc _ _) rfl) ?_
 refine yp (p_fld_ptr rfl rfl fld_60_0) ?_
 refine yp (p_fld_ptr rfl rfl fld_54_1) ?_
 refine yp (p_load_box rfl rfl sc_3 rfl rfl) ?_
 refine ChK.cons rfl (CStep.call rfl (within_xc _ _) rfl) ?_
 refine ChK.cons rfl (CStep.slice (l := ints [(withinS e.site 99), (withinS e.num 1073741824)]) rfl Tryz.underlying180 sz_33 zero_33 (by kernel_rfl) rfl (by omega) (by omega)) ?_
 refine ChK.cons rfl (CStep.call rfl (first_xc _) rfl) ?_
 refine ya rfl rfl ?_
 refine ChK.nil ⟨by kernel_rfl, ?_⟩
 refine zr ?_
 refine zm rfl rfl ?_
 refine zp (p_neq rfl rfl rfl) ?_
 refine zn ?_
 refine zd rfl (fun c16 => ?_) (fun c16 => ?_)
 refine zr ?_
 refine zm rfl rfl ?_
 refine za rfl rfl ?_
 refine zn ?_
 refine zt ?_
 exact z1 rfl rfl (rI (err_1 c16))
 refine zi ?_
 refine zs ?_
 refine zr ?_
 refine zp (p_fld_ptr rfl rfl fld_60_1) ?_
 refine zp (p_load_box rfl rfl sc_3 rfl rfl) ?_
 refine XL.call1 rfl rfl (exists_xc _) rfl ?_
 refine zp (p_notdec rfl rfl) ?_
 refine zn ?_
 refine zd rfl (fun c21 => ?_) (fun c21 => ?_)
 refine zr ?_
 refine za rfl rfl ?_
 refine zn ?_
 refine zt ?_
 exact z1 rfl rfl (rI (err_2 c16 c21))
 refine zi ?_
 refine zs ?_
 refine zs ?_
 refine xw_any [] (by kernel_rfl) (by kernel_rfl) (by kernel_rfl) (by decide) ?_
 refine yp (pure_eq (s' := .d (.agg (Ev.c e))) (norm_pure (p_load_boxs rfl rfl agg_60 rfl (Nat.le_of_ble_eq_true rfl))) (by kernel_rfl)) ?_
 refine yp (pure_eq (s' := .d (.agg (Ev.c e))) (norm_pure (p_load_boxs rfl rfl agg_60 rfl (Nat.le_of_ble_eq_true rfl))) (by kernel_rfl)) ?_
 refine ChK.cons rfl (CStep.call rfl (strip_xc _ (by assumption)) rfl) ?_
 refine ChK.cons rfl (CStep.call rfl (same_xc _ _) rfl) ?_
 refine yp (p_notdec rfl rfl) ?_
 refine ChK.nil ⟨by kernel_rfl, ?_⟩
 refine zd rfl (fun c26 => ?_) (fun c26 => ?_)
 refine zr ?_
 refine za rfl rfl ?_
 refine zn ?_
 refine zt ?_
 exact z1 rfl rfl (rI (err_3 c16 c21 c26))
 refine zi ?_
 refine zs ?_
 refine zr ?_
 refine zp (p_fld_ptr rfl rfl fld_60_1) ?_
 refine zp (p_load_box rfl rfl sc_3 rfl rfl) ?_
 refine zp (p_neq rfl rfl rfl) ?_
 refine zm rfl rfl ?_
 refine XL.dec 30 rfl (fun g30 => ?_) (fun g30 => ?_)
 refine zp (p_fld_ptr rfl rfl fld_60_2) ?_
 refine zp (pure_eq (s' := .d (.agg (Val.c e.v))) (norm_pure (p_load_boxs rfl rfl agg_56 rfl (Nat.le_of_ble_eq_true rfl))) (by kernel_rfl)) ?_
 refine XL.call1 rfl rfl (dcheck_xc _) rfl ?_
 refine zp (p_neq rfl rfl rfl) ?_
 refine zq rfl rfl rfl ?_
 refine zn ?_
 refine zd rfl (fun c35 => ?_) (fun c35 => ?_)
 refine zr ?_
 refine za rfl rfl ?_
 refine zn ?_
 refine zt ?_
 exact z1 rfl rfl (rI (err_4 c16 c21 c26 g30 c35))
 refine zi ?_
 refine zs ?_
 refine zr ?_
 refine zp (p_fld_ptr rfl rfl fld_60_1) ?_
 refine zp (p_load_box rfl rfl sc_3 rfl rfl) ?_
 refine zp (p_eql rfl rfl rfl) ?_
 refine zn ?_
 refine zd rfl (fun c38 => ?_) (fun c38 => ?_)
 refine zs ?_
 refine xw_any [] (by kernel_rfl) (by kernel_rfl) (by kernel_rfl) (by decide) ?_
 refine yp (p_fld_ptr rfl rfl fld_60_3) ?_
 refine yp (p_load_box rfl rfl sc_48 rfl rfl) ?_
 refine ChK.cons rfl (CStep.call rfl (heads_xc _) rfl) ?_
 refine yp (p_fld_ptr rfl rfl fld_60_4) ?_
 refine yp (p_load_box rfl rfl sc_57 rfl rfl) ?_
 refine ChK.cons rfl (CStep.call rfl (graces_xc _) rfl) ?_
 refine yp (p_fld_ptr rfl rfl fld_60_8) ?_
 refine yp (p_load_box rfl rfl sc_58 rfl rfl) ?_
 refine ChK.cons rfl (CStep.call rfl (lyrics_xc _) rfl) ?_
 refine ChK.cons rfl (CStep.slice (l := ints [(headsErr e.heads), (gracesErr e.graces), (lyrErr e.lyr)]) rfl Tryz.underlying180 sz_33 zero_33 (by kernel_rfl) rfl (by omega) (by omega)) ?_
 refine ChK.cons rfl (CStep.call rfl (first_xc _) rfl) ?_
 refine ya rfl rfl ?_
 refine ChK.nil ⟨by kernel_rfl, ?_⟩
 refine zr ?_
 refine zm rfl rfl ?_
 refine zp (p_neq rfl rfl rfl) ?_
 refine zn ?_
 refine zd rfl (fun c51 => ?_) (fun c51 => ?_)
 refine zr ?_
 refine zm rfl rfl ?_
 refine za rfl rfl ?_
 refine zn ?_
 refine zt ?_
 exact z1 rfl rfl (rI (err_5 c16 c21 c26 (fun h => c35 h.2) c38 c51))
 refine zi ?_
 refine zs ?_
 refine xw_any [] (by kernel_rfl) (by kernel_rfl) (by kernel_rfl) (by decide) ?_
 refine yp (p_fld_ptr rfl rfl fld_60_5) ?_
 refine yp (p_load_box rfl rfl sc_3 rfl rfl) ?_
 refine ChK.cons rfl (CStep.call rfl (within_xc _ _) rfl) ?_
 refine yp (p_fld_ptr rfl rfl fld_60_6) ?_
 refine yp (p_load_box rfl rfl sc_3 rfl rfl) ?_
 refine ChK.cons rfl (CStep.call rfl (within_xc _ _) rfl) ?_
 refine yp (p_fld_ptr rfl rfl fld_60_7) ?_
 refine yp (p_load_box rfl rfl sc_3 rfl rfl) ?_
 refine ChK.cons rfl (CStep.call rfl (within_xc _ _) rfl) ?_
 refine yp (p_fld_ptr rfl rfl fld_60_9) ?_
 refine yp (p_load_box rfl rfl sc_3 rfl rfl) ?_
 refine ChK.cons rfl (CStep.call rfl (within_xc _ _) rfl) ?_
 refine yp (p_fld_ptr rfl rfl fld_60_10) ?_
 refine yp (p_load_box rfl rfl sc_3 rfl rfl) ?_
 refine ChK.cons rfl (CStep.call rfl (within_xc _ _) rfl) ?_
 refine ChK.cons rfl (CStep.slice (l := ints [(withinS e.art 31), (withinS e.orn 4), (withinS e.dyn 9), (withinS e.stem 2), (withinS e.beam 2)]) rfl Tryz.underlying180 sz_33 zero_33 (by kernel_rfl) rfl (by omega) (by omega)) ?_
 refine ChK.cons rfl (CStep.call rfl (first_xc _) rfl) ?_
 refine ya rfl rfl ?_
 refine ChK.nil ⟨by kernel_rfl, ?_⟩
 refine zt ?_
 exact z1 rfl rfl (rI (err_6 c16 c21 c26 (fun h => c35 h.2) (fun h => c51 h.2)))
 refine zi ?_
 refine zs ?_
 refine xw_any [] (by kernel_rfl) (by kernel_rfl) (by kernel_rfl) (by decide) ?_
 refine yp (p_fld_ptr rfl rfl fld_60_5) ?_
 refine yp (p_load_box rfl rfl sc_3 rfl rfl) ?_
 refine ChK.cons rfl (CStep.call rfl (within_xc _ _) rfl) ?_
 refine yp (p_fld_ptr rfl rfl fld_60_6) ?_
 refine yp (p_load_box rfl rfl sc_3 rfl rfl) ?_
 refine ChK.cons rfl (CStep.call rfl (within_xc _ _) rfl) ?_
 refine yp (p_fld_ptr rfl rfl fld_60_7) ?_
 refine yp (p_load_box rfl rfl sc_3 rfl rfl) ?_
 refine ChK.cons rfl (CStep.call rfl (within_xc _ _) rfl) ?_
 refine yp (p_fld_ptr rfl rfl fld_60_9) ?_
 refine yp (p_load_box rfl rfl sc_3 rfl rfl) ?_
 refine ChK.cons rfl (CStep.call rfl (within_xc _ _) rfl) ?_
 refine yp (p_fld_ptr rfl rfl fld_60_10) ?_
 refine yp (p_load_box rfl rfl sc_3 rfl rfl) ?_
 refine ChK.cons rfl (CStep.call rfl (within_xc _ _) rfl) ?_
 refine ChK.cons rfl (CStep.slice (l := ints [(withinS e.art 31), (withinS e.orn 4), (withinS e.dyn 9), (withinS e.stem 2), (withinS e.beam 2)]) rfl Tryz.underlying180 sz_33 zero_33 (by kernel_rfl) rfl (by omega) (by omega)) ?_
 refine ChK.cons rfl (CStep.call rfl (first_xc _) rfl) ?_
 refine ya rfl rfl ?_
 refine ChK.nil ⟨by kernel_rfl, ?_⟩
 refine zt ?_
 exact z1 rfl rfl (rI (err_6 c16 c21 c26 (fun h => c35 h.2) (fun h => c38 h.1)))
 refine zk 4 rfl ?_
 refine zq rfl rfl rfl ?_
 refine zn ?_
 refine xw_false (by kernel_rfl) rfl ?_
 refine zi ?_
 refine zs ?_
 refine zr ?_
 refine zp (p_fld_ptr rfl rfl fld_60_1) ?_
 refine zp (p_load_box rfl rfl sc_3 rfl rfl) ?_
 refine zp (p_eql rfl rfl rfl) ?_
 refine zn ?_
 refine zd rfl (fun c38 => ?_) (fun c38 => ?_)
 refine zs ?_
 refine xw_any [] (by kernel_rfl) (by kernel_rfl) (by kernel_rfl) (by decide) ?_
 refine yp (p_fld_ptr rfl rfl fld_60_3) ?_
 refine yp (p_load_box rfl rfl sc_48 rfl rfl) ?_
 refine ChK.cons rfl (CStep.call rfl (heads_xc _) rfl) ?_
 refine yp (p_fld_ptr rfl rfl fld_60_4) ?_
 refine yp (p_load_box rfl rfl sc_57 rfl rfl) ?_
 refine ChK.cons rfl (CStep.call rfl (graces_xc _) rfl) ?_
 refine yp (p_fld_ptr rfl rfl fld_60_8) ?_
 refine yp (p_load_box rfl rfl sc_58 rfl rfl) ?_
 refine ChK.cons rfl (CStep.call rfl (lyrics_xc _) rfl) ?_
 refine ChK.cons rfl (CStep.slice (l := ints [(headsErr e.heads), (gracesErr e.graces), (lyrErr e.lyr)]) rfl Tryz.underlying180 sz_33 zero_33 (by kernel_rfl) rfl (by omega) (by omega)) ?_
 refine ChK.cons rfl (CStep.call rfl (first_xc _) rfl) ?_
 refine ya rfl rfl ?_
 refine ChK.nil ⟨by kernel_rfl, ?_⟩
 refine zr ?_
 refine zm rfl rfl ?_
 refine zp (p_neq rfl rfl rfl) ?_
 refine zn ?_
 refine zd rfl (fun c51 => ?_) (fun c51 => ?_)
 refine zr ?_
 refine zm rfl rfl ?_
 refine za rfl rfl ?_
 refine zn ?_
 refine zt ?_
 exact z1 rfl rfl (by exfalso; omega)
 refine zi ?_
 refine zs ?_
 refine xw_any [] (by kernel_rfl) (by kernel_rfl) (by kernel_rfl) (by decide) ?_
 refine yp (p_fld_ptr rfl rfl fld_60_5) ?_
 refine yp (p_load_box rfl rfl sc_3 rfl rfl) ?_
 refine ChK.cons rfl (CStep.call rfl (within_xc _ _) rfl) ?_
 refine yp (p_fld_ptr rfl rfl fld_60_6) ?_
 refine yp (p_load_box rfl rfl sc_3 rfl rfl) ?_
 refine ChK.cons rfl (CStep.call rfl (within_xc _ _) rfl) ?_
 refine yp (p_fld_ptr rfl rfl fld_60_7) ?_
 refine yp (p_load_box rfl rfl sc_3 rfl rfl) ?_
 refine ChK.cons rfl (CStep.call rfl (within_xc _ _) rfl) ?_
 refine yp (p_fld_ptr rfl rfl fld_60_9) ?_
 refine yp (p_load_box rfl rfl sc_3 rfl rfl) ?_
 refine ChK.cons rfl (CStep.call rfl (within_xc _ _) rfl) ?_
 refine yp (p_fld_ptr rfl rfl fld_60_10) ?_
 refine yp (p_load_box rfl rfl sc_3 rfl rfl) ?_
 refine ChK.cons rfl (CStep.call rfl (within_xc _ _) rfl) ?_
 refine ChK.cons rfl (CStep.slice (l := ints [(withinS e.art 31), (withinS e.orn 4), (withinS e.dyn 9), (withinS e.stem 2), (withinS e.beam 2)]) rfl Tryz.underlying180 sz_33 zero_33 (by kernel_rfl) rfl (by omega) (by omega)) ?_
 refine ChK.cons rfl (CStep.call rfl (first_xc _) rfl) ?_
 refine ya rfl rfl ?_
 refine ChK.nil ⟨by kernel_rfl, ?_⟩
 refine zt ?_
 exact z1 rfl rfl (by exfalso; omega)
 refine zi ?_
 refine zs ?_
 refine xw_any [] (by kernel_rfl) (by kernel_rfl) (by kernel_rfl) (by decide) ?_
 refine yp (p_fld_ptr rfl rfl fld_60_5) ?_
 refine yp (p_load_box rfl rfl sc_3 rfl rfl) ?_
 refine ChK.cons rfl (CStep.call rfl (within_xc _ _) rfl) ?_
 refine yp (p_fld_ptr rfl rfl fld_60_6) ?_
 refine yp (p_load_box rfl rfl sc_3 rfl rfl) ?_
 refine ChK.cons rfl (CStep.call rfl (within_xc _ _) rfl) ?_
 refine yp (p_fld_ptr rfl rfl fld_60_7) ?_
 refine yp (p_load_box rfl rfl sc_3 rfl rfl) ?_
 refine ChK.cons rfl (CStep.call rfl (within_xc _ _) rfl) ?_
 refine yp (p_fld_ptr rfl rfl fld_60_9) ?_
 refine yp (p_load_box rfl rfl sc_3 rfl rfl) ?_
 refine ChK.cons rfl (CStep.call rfl (within_xc _ _) rfl) ?_
 refine yp (p_fld_ptr rfl rfl fld_60_10) ?_
 refine yp (p_load_box rfl rfl sc_3 rfl rfl) ?_
 refine ChK.cons rfl (CStep.call rfl (within_xc _ _) rfl) ?_
 refine ChK.cons rfl (CStep.slice (l := ints [(withinS e.art 31), (withinS e.orn 4), (withinS e.dyn 9), (withinS e.stem 2), (withinS e.beam 2)]) rfl Tryz.underlying180 sz_33 zero_33 (by kernel_rfl) rfl (by omega) (by omega)) ?_
 refine ChK.cons rfl (CStep.call rfl (first_xc _) rfl) ?_
 refine ya rfl rfl ?_
 refine ChK.nil ⟨by kernel_rfl, ?_⟩
 refine zt ?_
 exact z1 rfl rfl (rI (err_6 c16 c21 c26 (fun h => g30 h.1) (fun h => c38 h.1)))
def Ev.len (e : Ev) : Int := if e.err ≠ 0 ∨ e.kind = 3 then 0 else valT e.v
theorem len_1 {e : Ev} (h : e.err ≠ 0) : 0 = e.len := by rw [Ev.len, if_pos (.inl h)]
theorem len_2 {e : Ev} (h : e.kind = 3) : 0 = e.len := by rw [Ev.len, if_pos (.inr h)]
theorem len_3 {e : Ev} (h : ¬ e.err ≠ 0) (h2 : ¬ e.kind = 3) : valT e.v = e.len := by rw [Ev.len, if_neg (by omega)]
theorem val_of_err {e : Ev} (h : ¬ e.err ≠ 0) (h2 : ¬ e.kind = 3) : valErr e.v = e.err := by
 have h0 : e.err = 0 := by omega
 rw [h0]
 unfold Ev.err at h0
 split at h0
 ·rename_i h1; exact absurd h0 h1
 ·split at h0
  ·omega
  ·split at h0
   ·omega
   ·split at h0
    ·omega
    ·rename_i h4; by_cases h5 : valErr e.v = 0
     ·exact h5
     ·exact absurd ⟨h2, h5⟩ h4
theorem written_xc (e : Ev) (he : e.art ≤ 9223372036854775807) : XC Tryz.prog 162 [.agg (Ev.c e)] (fun r => r = .tup [dI e.len, dI e.err]) := by
 refine xc_body callable_162 Tryz.func162 rfl rfl (Nat.le_of_ble_eq_true rfl) ?_
 refine zr ?_
 refine XL.step rfl (st_boxN 1 (l := [.d (dI e.site), .d (dI e.num), .d (dI e.kind), .d (dI e.v.log), .d (dI e.v.dots), .d (.sl 5 (e.heads.map Hd.c)), .d (.sl 5 (e.graces.map Gr.c)), .d (dI e.art), .d (dI e.orn), .d (dI e.dyn), .d (.sl 2 (e.lyr.map Sy.c)), .d (dI e.stem), .d (dI e.beam)]) rfl rfl (by kernel_rfl)) ?_
 refine za rfl rfl ?_
 refine za rfl rfl ?_
 refine zn ?_
 refine zs ?_
 refine zr ?_
 refine zp (pure_eq (s' := .d (.agg (Ev.c e))) (norm_pure (p_load_boxs rfl rfl agg_60 rfl (Nat.le_of_ble_eq_true rfl))) (by kernel_rfl)) ?_
 refine XL.call1 rfl rfl (echeck_xc _ (by assumption)) rfl ?_
 refine za rfl rfl ?_
 refine znr ?_
 refine zm rfl rfl ?_
 refine zp (p_neq rfl rfl rfl) ?_
 refine zm rfl rfl ?_
 refine XL.dec 9 rfl (fun g9 => ?_) (fun g9 => ?_)
 refine zk 3 rfl ?_
 refine zq rfl rfl rfl ?_
 refine zn ?_
 refine xw_true (by kernel_rfl) rfl ?_
 refine zr ?_
 refine zm rfl rfl ?_
 refine za rfl rfl ?_
 refine za rfl rfl ?_
 refine zn ?_
 refine zt ?_
 exact ret2 rfl (RV.tmp rfl rfl) (RV.tmp rfl rfl) (r2 (rI (len_1 g9)) rfl)
 refine zp (p_fld_ptr rfl rfl fld_60_1) ?_
 refine zp (p_load_box rfl rfl sc_3 rfl rfl) ?_
 refine zp (p_eql rfl rfl rfl) ?_
 refine zq rfl rfl rfl ?_
 refine zn ?_
 refine zd rfl (fun c13 => ?_) (fun c13 => ?_)
 refine zr ?_
 refine zm rfl rfl ?_
 refine za rfl rfl ?_
 refine za rfl rfl ?_
 refine zn ?_
 refine zt ?_
 exact ret2 rfl (RV.tmp rfl rfl) (RV.tmp rfl rfl) (r2 (rI (len_2 c13)) rfl)
 refine zi ?_
 refine zr ?_
 refine zp (p_fld_ptr rfl rfl fld_60_2) ?_
 refine zp (pure_eq (s' := .d (.agg (Val.c e.v))) (norm_pure (p_load_boxs rfl rfl agg_56 rfl (Nat.le_of_ble_eq_true rfl))) (by kernel_rfl)) ?_
 refine XL.call1 rfl rfl (dTicks_xc _) rfl ?_
 refine zp (p_ext rfl rfl rfl) ?_
 refine zp (p_ext rfl rfl rfl) ?_
 refine za rfl rfl ?_
 refine za rfl rfl ?_
 refine zn ?_
 refine zt ?_
 exact ret2 rfl (RV.tmp rfl rfl) (RV.tmp rfl rfl) (r2 (rI (len_3 g9 c13)) (rI (val_of_err g9 c13)))
end Go.Proofs.YtcihalbakenleaaGreat
namespace Go.Proofs.YtcihalbakenleaaGreat
open Go.RowKit
theorem Bd.ati {e : Operand → S} {y : Operand} {k : IntKind} {b : Int} {a dflt : Nat} (h : e y = .d (.v (.int k b))) (hb : b = (a : Int)) : Bd e (some y) dflt a := by subst hb; exact .at h
theorem xc_yes {P : Program} {F : FuncId} {ds : List D} {p : Prop} [Decidable p] (hx : XC P F ds (fun r => r = .v (.bool (decide p)))) (h : p) : XC P F ds (fun r => r = .v (.bool true)) := by rwa [decide_eq_true h] at hx
theorem k_blk {id : Nat} {K : Kont} {f : Fr} {h : Xh} (hk : K .normal f h) : kblock id K .normal f h := hk
/-- an object laid anew: in no block, or in the block of the one that it replaces -/
theorem Sim.lay {E : Env} {H : Hp} {β : Bt} {h : Xh} {w : World} (s : Sim E H β h w) (i : Nat) (o' : XO) (L' : Loc) (hblk : ∀ b, o'.blk L' = some b → ∃ o L, h i = some o ∧ β i = some L ∧ o.blk L = some b)
  (hok : OKo E.w.heap.size w H (β.set i (some L')) L' o') : Sim E H (β.set i (some L')) ((h.kill i).set i o') w := by
 have k := s.kill i (some L')
 have old : ∀ j o1 L1, i ≠ j → h.kill i j = some o1 → (β.set i (some L')) j = some L1 → ∃ o2, h j = some o2 ∧ β j = some L1 ∧ o1.blk L1 = o2.blk L1 := fun j o1 L1 e h1 h2 => by
  rw [Xh.kill_ne h e] at h1
  rw [Bt.set_ne β _ e] at h2
  cases hj : h j with
  | none => rw [hj] at h1; cases h1
  | some o2 => rw [hj] at h1; cases h1; exact ⟨o2, rfl, h2, XO.blk_kill _ _ _⟩
 refine ⟨k.below, k.ext, k.new, k.imm, fun j o1 L1 h1 h2 => ?_, fun j o1 L1 h1 h2 b hb => ?_, fun j j' o1 o2 L1 L2 b hjj h1 h1' h2 h2' hb => ?_, fun j o1 h1 hg => ?_⟩
 ·by_cases e : i = j
  ·subst e; rw [Xh.set_same] at h1; rw [Bt.set_same] at h2; cases h1; cases h2; exact hok
  ·rw [Xh.set_ne _ _ e] at h1; exact k.obj j o1 L1 h1 h2
 ·by_cases e : i = j
  ·subst e; rw [Xh.set_same] at h1; rw [Bt.set_same] at h2; cases h1; cases h2
   obtain ⟨o, L, g1, g2, g3⟩ := hblk b hb
   exact s.sep i o L g1 g2 b g3
  ·rw [Xh.set_ne _ _ e] at h1; exact k.sep j o1 L1 h1 h2 b hb
 ·by_cases e : i = j
  ·subst e
   rw [Xh.set_same] at h1; rw [Bt.set_same] at h2; cases h1; cases h2
   rw [Xh.set_ne _ _ hjj] at h1'
   obtain ⟨o, L, g1, g2, g3⟩ := hblk b hb
   obtain ⟨o3, g4, g5, g6⟩ := old j' o2 L2 hjj h1' h2'
   rw [g6]
   exact s.inj i j' o o3 L L2 b hjj g1 g4 g2 g5 g3
  ·rw [Xh.set_ne _ _ e] at h1
   obtain ⟨o3, g4, g5, g6⟩ := old j o1 L1 e h1 h2
   by_cases e' : i = j'
   ·subst e'
    rw [Xh.set_same] at h1'; rw [Bt.set_same] at h2'; cases h1'; cases h2'
    intro hc
    obtain ⟨o, L, g1, g2, g3⟩ := hblk b hc
    rw [g6] at hb
    exact s.inj i j o o3 L L1 b e g1 g4 g2 g5 g3 hb
   ·rw [Xh.set_ne _ _ e'] at h1'
    exact k.inj j j' o1 o2 L1 L2 b hjj h1 h1' h2 h2' hb
 ·by_cases e : i = j
  ·subst e; exact ⟨_, Bt.set_same _ _ _⟩
  ·rw [Xh.set_ne _ _ e] at h1; exact k.dom j o1 h1 hg
section
variable {P : Program} {n : Nat} {ops : Array Oper} {rest : List Oper} {K : Kont} {f : Fr} {h : Xh} {o : Oper} {c : Code}
/-- a nil slice in a slot taken for an own row without elements -/
theorem nil_row {E : Env} {H : Hp} {β : Bt} {h : Xh} {w : World} (s : Sim E H β h w) (i : Nat) (e : TypeId) (sz : Nat) : Sim E H (β.set i (some ⟨.slice none 0 0, 0, sz⟩)) ((h.kill i).set i (.row e sz [])) w :=
 s.lay i _ _ (fun b hb => by cases hb) ⟨rfl, fun x hx => (by cases hx), fun b hb => (by cases hb), [], World.ownsRow_nil _ _ _ _, fun u hu => (by cases hu), fun k j x d hk => (by simp at hk)⟩
theorem xw_ownnil (i t : Nat) (e : TypeId) (sz : Nat) (ht : f t = .d (.v (.slice none 0 0))) (hc : XW P n c K (fset (fkill f i) t (.own i)) ((h.kill i).set i (.row e sz []))) : XW P n c K f h := fun E H β a w hs hf => by
 by_cases hlt : t < n
 ·refine hc E H _ a w (nil_row hs i e sz) ?_
  refine fset_same_slot (hf.kill i (some ⟨.slice none 0 0, 0, sz⟩)) t ?_
  have e1 := hf.slot t hlt
  rw [ht] at e1
  rw [vs_v e1]
  exact VS.own (L := ⟨.slice none 0 0, 0, sz⟩) (Bt.set_same _ _ _)
 ·refine hc E H _ a w (nil_row hs i e sz) ⟨hf.defers, hf.size, fun j hj => ?_⟩
  have : t ≠ j := fun e => hlt (e ▸ hj)
  simp only [fset, nbeq_ne this, cond_false]
  exact (hf.kill i (some ⟨.slice none 0 0, 0, sz⟩)).slot j hj
/-- the same in a variable's cell -/
theorem setS (l : List S) (k : Nat) (s : S) (j : Nat) : (l.set k s)[j]? = if k = j ∧ j < l.length then some s else l[j]? := by
 rw [List.getElem?_set]
 by_cases e : k = j
 ·subst e
  rw [if_pos rfl]
  by_cases h : k < l.length
  ·rw [if_pos h, if_pos ⟨rfl, h⟩]
  ·rw [if_neg h, if_neg (fun e => h e.2), List.getElem?_eq_none (by omega)]
 ·rw [if_neg e, if_neg (fun h => e h.1)]
theorem xw_ownnil_box (i b k : Nat) (e : TypeId) (sz : Nat) {l l' : List S} (hb : h b = some (.box l)) (hk : l[k]? = some (.d (.v (.slice none 0 0)))) (hib : i ≠ b) (hl' : (S.killL i l).set k (.own i) = l')
  (hc : XW P n c K (fkill f i) (((h.kill i).set i (.row e sz [])).set b (.box l'))) : XW P n c K f h := fun E H β a w hs hf => by
 subst hl'
 have s2 := nil_row hs i e sz
 have hb2 : ((h.kill i).set i (.row e sz [])) b = some (.box (S.killL i l)) := by rw [Xh.set_ne _ _ hib, Xh.kill_ne _ hib, hb]; rfl
 refine hc E H _ a w ?_ (hf.kill i (some ⟨.slice none 0 0, 0, sz⟩))
 cases hL : (β.set i (some ⟨.slice none 0 0, 0, sz⟩)) b with
 | none =>
  refine ⟨s2.below, s2.ext, s2.new, s2.imm, fun j o1 L1 h1 h2 => ?_, fun j o1 L1 h1 h2 => ?_, fun j j' o1 o2 L1 L2 q hjj h1 h1' h2 h2' => ?_, fun j o1 h1 hg => ?_⟩
  ·by_cases e : b = j
   ·subst e; rw [hL] at h2; cases h2
   ·rw [Xh.set_ne _ _ e] at h1; exact s2.obj j o1 L1 h1 h2
  ·by_cases e : b = j
   ·subst e; rw [hL] at h2; cases h2
   ·rw [Xh.set_ne _ _ e] at h1; exact s2.sep j o1 L1 h1 h2
  ·by_cases e : b = j
   ·subst e; rw [hL] at h2; cases h2
   ·rw [Xh.set_ne _ _ e] at h1
    by_cases e' : b = j'
    ·subst e'; rw [hL] at h2'; cases h2'
    ·rw [Xh.set_ne _ _ e'] at h1'; exact s2.inj j j' o1 o2 L1 L2 q hjj h1 h1' h2 h2'
  ·by_cases e : b = j
   ·subst e; rw [Xh.set_same] at h1; cases h1; cases hg
   ·rw [Xh.set_ne _ _ e] at h1; exact s2.dom j o1 h1 hg
 | some L =>
  have ok := s2.obj b _ L hb2 hL
  obtain ⟨h1, h0, us, t, h2, h3, h4⟩ := ok
  refine s2.turn (o := .box (S.killL i l)) hb2 hL rfl s2.below (fun _ _ => rfl) ⟨h1, by rw [List.length_set]; exact h0, us, t, h2, by rw [List.length_set]; exact h3, fun j u s hu hs' => ?_⟩
  rw [setS] at hs'
  split at hs'
  ·rename_i hkj
   obtain ⟨rfl, hlt⟩ := hkj
   cases hs'
   have := h4 k u (.d (.v (.slice none 0 0))) hu (by rw [S.killL_get, hk]; simp [S.kill])
   rw [vs_v this]
   exact VS.own (L := ⟨.slice none 0 0, 0, sz⟩) (Bt.set_same _ _ _)
  ·exact h4 j u s hu hs'
/-- an own row cut: its first elements -/
theorem st_cut {i : Nat} {t ty : TypeId} {sz : Nat} {x : Operand} {hi : Option Operand} {l : List (List D)} {m : Nat} (ho : o.op = .slice t x none hi none) (hx : ev f x = .own i) (hi' : h i = some (.row ty sz l)) (hf : elB P t sz = true)
  (hhi : Bd (ev f) hi l.length m) (hm : m ≤ l.length) : Step P n o f h (.own i) (fkill f i) ((h.kill i).set i (.row ty sz (l.take m))) := by
 intro E H β a w hs hfv hop
 have g := hop x (by rw [ho]; simp [Op.operands])
 rw [hx] at g
 obtain ⟨L, hL, hv⟩ := vs_own g
 obtain ⟨el, hu, hpos, hsz⟩ := elB.parts hf
 obtain ⟨h1, hz, hvb, us, hown, hone, hc⟩ := hs.obj i _ L hi' hL
 have hown0 := hown
 obtain ⟨hlen, hcase⟩ := hown
 have hcap : ∃ A c, L.v = .slice A l.length c ∧ l.length ≤ c ∧ ((A = none ∧ c = 0) ∨ ∃ g, A = some ⟨g, 0, none⟩) := by
  rcases hcase with ⟨hn, h0⟩ | ⟨g, cap, cur, e1, e2, e3, e4, e5, e6, e7⟩
  ·exact ⟨none, 0, by rw [hn, h0], by omega, .inl ⟨rfl, rfl⟩⟩
  ·exact ⟨_, cap, e1, e4, .inr ⟨g, rfl⟩⟩
 obtain ⟨A, c, hLv, hlc, hA⟩ := hcap
 have hbounds : (Instr.sliceBounds true l.length c (none : Option Value) (hi.map a.eval) none).run P w = .ok (0, m, c) w :=
  bounds_run _ _ _ _ _ _ (.inl ⟨rfl, rfl⟩) (hhi.val fun y hy => hop y (by rw [ho, hy]; simp [Op.operands])) (Nat.zero_le _) (by omega) w
 have hrun : (execOp a.eval o).run P w = .ok (.value (.slice A m c)) w := by
  unfold execOp
  simp only [ho, hv, hLv, Instr.sliceAt, Option.map_none, Sem.run_bind, run_underlying hu, Result.andThen_ok, Instr.slice, hbounds, hsz, Sem.run_pure, Nat.sub_zero, Nat.zero_mul]
  rcases hA with ⟨rfl, rfl⟩ | ⟨g, rfl⟩
  ·simp
  ·split <;> simp [Go.WideShapes.add_plain]
 unfold Oper.wp
 rw [hrun]
 have hblk : (Value.slice A m c).ownBlock = L.v.ownBlock := by rw [hLv]; rcases hA with ⟨rfl, _⟩ | ⟨g, rfl⟩ <;> rfl
 have hlt : (l.take m).length = m := by rw [List.length_take]; omega
 refine ⟨H, β.set i (some ⟨.slice A m c, L.b, sz⟩), .slice A m c, rfl, hs.lay i _ _ (fun b hb => ?_) ?_, hfv.kill i _, VS.own (L := ⟨.slice A m c, L.b, sz⟩) (Bt.set_same _ _ _)⟩
 ·refine ⟨_, L, hi', hL, ?_⟩
  simp only [XO.blk] at hb ⊢
  rw [← hblk]; exact hb
 ·refine ⟨rfl, fun x hx => hz x (List.mem_of_mem_take hx), fun b hb => hvb b (by rw [← hblk]; exact hb), us.take (m * sz), ⟨?_, ?_⟩, fun u hu' => hone u (List.mem_of_mem_take hu'), fun k j x d hk hj => ?_⟩
  ·rw [List.length_take, hlt, hlen]
   exact Nat.min_eq_left (Nat.mul_le_mul_right _ hm)
  ·rw [hlt]
   rcases hcase with ⟨hn, h0⟩ | ⟨g, cap, cur, e1, e2, e3, e4, e5, e6, e7⟩
   ·rw [hn] at hLv
    injection hLv with q1 q2 q3
    subst q1 q3
    have : m = 0 := by omega
    subst this
    exact .inl ⟨rfl, rfl⟩
   ·rw [e1] at hLv
    injection hLv with q1 q2 q3
    subst q1 q3
    refine .inr ⟨g, cap, cur, rfl, e2, e3, by omega, e5, e6, ?_⟩
    rw [← e7, List.take_take, Nat.min_eq_left (Nat.mul_le_mul_right _ hm)]
  ·have hkm : k < m := by
    have := (List.getElem?_eq_some_iff.1 hk).1
    omega
   rw [List.getElem?_take, if_pos hkm] at hk
   obtain ⟨u, h5, h6⟩ := hc k j x d hk hj
   refine ⟨u, ?_, h6⟩
   rw [List.getElem?_take, if_pos]
   ·exact h5
   ·have hjl : j < sz := by
     have e1 := hz x (List.mem_of_getElem? hk)
     have e2 := (List.getElem?_eq_some_iff.1 hj).1
     omega
    calc k * sz + j < k * sz + sz := by omega
     _ = (k + 1) * sz := by rw [Nat.add_mul, Nat.one_mul]
     _ ≤ m * sz := Nat.mul_le_mul_right _ hkm
/-- a slot that holds a function value -/
inductive FnS : S → FuncId → List S → List S → Prop where
 | s {F : FuncId} {ps cs : List S} : FnS (.fn F ps cs) F ps cs
 | d {F : FuncId} {pd cd : List D} : FnS (.d (.fn F pd cd)) F (pd.map S.d) (cd.map S.d)
theorem FnS.vs {H : Hp} {β : Bt} {u : Value} {s : S} {F : FuncId} {ps cs : List S} (hs : FnS s F ps cs) (hv : VS H β u s) : VS H β u (.fn F ps cs) := by
 cases hs with
 | s => exact hv
 | @d _ pd cd =>
  obtain ⟨A, C, rfl, h1, h2, h3, h4⟩ := vd_fn (vs_d hv)
  refine .fn F A C _ _ (by simpa using h1) (by simpa using h2) (fun i x s hx hs => ?_) (fun i x s hx hs => ?_)
  ·rw [List.getElem?_map] at hs
   cases hp : pd[i]? with
   | none => rw [hp] at hs; cases hs
   | some d => rw [hp] at hs; cases hs; exact .d (h3 i x d hx hp)
  ·rw [List.getElem?_map] at hs
   cases hp : cd[i]? with
   | none => rw [hp] at hs; cases hs
   | some d => rw [hp] at hs; cases hs; exact .d (h4 i x d hx hp)
/-- what a callee that is walked in its caller's place returns -/
def RetS (P : Program) (n : Nat) (fn : Func) (f : Fr) (h : Xh) (s : S) : Prop := ∀ E H β a w, Sim E H β h w → FV n H β a f → ∃ u, (results fn a.tmps).run P w = .ok u w ∧ VS H β u s
theorem rs1 {fn : Func} {rv : ResultVar} {d : D} (hr : fn.results = #[rv]) (h1 : RV P n f h rv d) : RetS P n fn f h (.d d) := fun E H β a w hs hf => by
 obtain ⟨u, e1, v1⟩ := h1 E H β a w hs hf
 refine ⟨u, ?_, .d v1⟩
 rw [results_eq, hr]
 simp [e1]
def argS (ss : List S) : Fr := fun t =>
 match ss[t]? with
 | some s => s
 | none => .d (.v undef)
/-- the caller goes on -/
def kinl (P : Program) (n : Nat) (ops : Array Oper) (rest : List Oper) (K : Kont) (dst : Option Tmp) (fn : Func) (n' G : Nat) (u : Array Value) : Kont
 | .normal, f, h => ∃ s l, h G = some (.ghost u l) ∧ RetS P n' fn f h s ∧ XL P n ops rest K (fput (mkF l) dst s) h
 | .ret, f, h => ∃ s l, h G = some (.ghost u l) ∧ RetS P n' fn f h s ∧ XL P n ops rest K (fput (mkF l) dst s) h
 | _, _, _ => False
theorem k_inl {dst : Option Tmp} {fn : Func} {n' G : Nat} {u : Array Value} {f' : Fr} {h' : Xh} {s : S} {l : List (Nat × S)} (hG : h' G = some (.ghost u l)) (hr : RetS P n' fn f' h' s) (hk : XL P n ops rest K (fput (mkF l) dst s) h') :
  kinl P n ops rest K dst fn n' G u .normal f' h' ∧ kinl P n ops rest K dst fn n' G u .ret f' h' := ⟨⟨s, l, hG, hr, hk⟩, ⟨s, l, hG, hr, hk⟩⟩
theorem mkF_mem {l : List (Nat × S)} {t : Nat} : mkF l t = .any ∨ (t, mkF l t) ∈ l := by
 induction l with
 | nil => exact .inl rfl
 | cons p l ih =>
  obtain ⟨t', s⟩ := p
  by_cases e : t' = t
  ·subst e
   right
   have : mkF ((t', s) :: l) t' = s := by simp only [mkF, fset, nbeq_same, cond_true]
   rw [this]
   exact List.mem_cons_self
  ·have : mkF ((t', s) :: l) t = mkF l t := by simp only [mkF, fset, nbeq_ne e, cond_false]
   rw [this]
   rcases ih with h | h
   ·exact .inl h
   ·exact .inr (List.mem_cons_of_mem _ h)
theorem XL.inl {x : Operand} {args : Array Operand} {tys : Array TypeId} {F : FuncId} {ps cs : List S} {fn : Func} {n' : Nat} (G : Nat) (l : List (Nat × S)) (ho : o.op = .call { callee := .value x, args := args, argTypes := tys })
  (hw : wantB ops f n o.guard = some true) (hx : FnS (ev f x) F ps cs) (hcl : Callable P F) (hf : P.funcs[F]? = some fn) (hb : fn.body = some c) (hn : fn.ntmps = n') (hlen : ps.length + args.size + cs.length ≤ n')
  (hl : ∀ p ∈ l, p.1 < n ∧ f p.1 = p.2)
  (hc : ∀ u, XW P n' c (kinl P n ops rest K o.dst fn n' G u) (fkill (argS (ps ++ args.toList.map (ev f) ++ cs)) G) ((h.kill G).set G (.ghost u (S.killG G l)))) : XL P n ops (o :: rest) K f h := by
 intro hin E H β a w hs hfv
 rw [List.all_cons, Bool.and_eq_true] at hin
 have hop := hfv.operands hin.1
 have hd := hin.1
 unfold inN at hd
 rw [Bool.and_eq_true] at hd
 have hop' : ∀ y ∈ args, VS H β (a.eval y) (ev f y) := fun y hy => hop y (by rw [ho]; simp [Op.operands, Call.operands, hy])
 have hxv := hop x (by rw [ho]; simp [Op.operands, Call.operands])
 obtain ⟨A, C, hA, hA1, hC1, hA2, hC2⟩ := vs_fn (hx.vs hxv)
 have hrun : (execOp a.eval o).run P w = .ok (.enter F (A ++ args.map a.eval ++ C)) w := by
  have := hcl.run (A ++ args.map a.eval ++ C) w
  unfold execOp
  simp only [ho, resolve, hA, Deferred.ofValue, Sem.run_bind, Sem.run_pure, Result.andThen_ok, invoke]
  exact this
 unfold wpList
 rw [if_pos (wantB_spec hfv hw)]
 refine .inl (wp_weak (K := fun a' w' => wpList P ops (Post E n K) rest a' w') ?_ (fun _ _ h => h))
 unfold Oper.wp
 rw [hrun]
 let L0 : Option Loc := some ⟨.slice none 0 0, 0, 0⟩
 have hvs : ∀ (i : Nat) (y : Value) (s : S), (A ++ args.map a.eval ++ C)[i]? = some y → (ps ++ args.toList.map (ev f) ++ cs)[i]? = some s → VS H β y s := by
  intro i y s hy hd
  by_cases h1 : i < ps.length
  ·rw [List.append_assoc, List.getElem?_append_left h1] at hd
   rw [Array.append_assoc, Array.getElem?_append_left (by omega)] at hy
   exact hA2 i y s hy hd
  ·by_cases h2 : i < ps.length + args.size
   ·rw [List.append_assoc, List.getElem?_append_right (by omega), List.getElem?_append_left (by simp; omega)] at hd
    rw [Array.append_assoc, Array.getElem?_append_right (by omega), Array.getElem?_append_left (by simp; omega), hA1] at hy
    rw [List.getElem?_map, Array.getElem?_toList] at hd
    rw [Array.getElem?_map] at hy
    cases hq : args[i - ps.length]? with
    | none => rw [hq] at hd; cases hd
    | some q =>
     rw [hq] at hd hy
     cases hd; cases hy
     exact hop' q (Array.mem_of_getElem? hq)
   ·rw [List.getElem?_append_right (by simp; omega)] at hd
    rw [Array.getElem?_append_right (by simp; omega)] at hy
    have e : (A ++ args.map a.eval).size = (ps ++ args.toList.map (ev f)).length := by simp [hA1]
    rw [e] at hy
    exact hC2 _ y s hy hd
 have hsz : (A ++ args.map a.eval ++ C).size = (ps ++ args.toList.map (ev f) ++ cs).length := by simp [hA1, hC1]
 have hsz2 : (A ++ args.map a.eval ++ C).size = ps.length + args.size + cs.length := by simp [hA1, hC1]; omega
 generalize hvse : A ++ args.map a.eval ++ C = vs at *
 generalize hsse : ps ++ args.toList.map (ev f) ++ cs = ss at *
 have hcal : Calls P F vs w fun e w' => ∃ v, e = .returned v ∧ wpList P ops (Post E n K) rest (a.put o.dst v) w' := by
  refine calls_of_wp hf hb ?_
  have s2 : Sim E H (β.set G L0) ((h.kill G).set G (.ghost a.tmps (S.killG G l))) w := by
   refine hs.lay G _ _ (fun b hb => by cases hb) fun t s hm => ?_
   obtain ⟨s', h1, rfl⟩ := S.killG_mem hm
   obtain ⟨h2, h3⟩ := hl _ h1
   have := hfv.slot t h2
   simp only at h3
   rw [h3] at this
   exact this.kill G _
  have f2 : FV n' H (β.set G L0) { tmps := vs ++ Array.replicate (fn.ntmps - vs.size) undef, defers := [] } (fkill (argS ss) G) := by
   refine FV.kill ⟨rfl, by simp [hn]; omega, fun t ht => ?_⟩ G L0
   unfold argS
   cases hd : ss[t]? with
   | none =>
    have hge : ss.length ≤ t := List.getElem?_eq_none_iff.1 hd
    have : (vs ++ Array.replicate (fn.ntmps - vs.size) undef).getD t undef = undef := by
     rw [Array.getD_eq_getD_getElem?, Array.getElem?_append_right (by omega)]
     rw [Array.getElem?_replicate]
     split <;> rfl
    show VS H β ((vs ++ Array.replicate (fn.ntmps - vs.size) undef).getD t undef) (.d (.v undef))
    rw [this]
    exact .d (.v _)
   | some s =>
    have hlt : t < ss.length := (List.getElem?_eq_some_iff.1 hd).1
    have hx : vs[t]? = some (vs[t]'(by omega)) := Array.getElem?_eq_getElem (by omega)
    have : (vs ++ Array.replicate (fn.ntmps - vs.size) undef).getD t undef = vs[t]'(by omega) := by
     rw [Array.getD_eq_getD_getElem?, Array.getElem?_append_left (by omega), hx]
     rfl
    show VS H β ((vs ++ Array.replicate (fn.ntmps - vs.size) undef).getD t undef) s
    rw [this]
    exact hvs t _ s hx hd
  refine wp_mono (hc a.tmps E H _ _ w s2 f2) ?_
  rintro e a' w' ⟨H', β', f', h', h1, h2, h3⟩
  have fin : (∃ s l, h' G = some (.ghost a.tmps l) ∧ RetS P n' fn f' h' s ∧ XL P n ops rest K (fput (mkF l) o.dst s) h') →
    a'.defers = [] ∧ ∃ v, (results fn a'.tmps).run P w' = .ok v w' ∧ ∃ v', Ending.returned v = .returned v' ∧ wpList P ops (Post E n K) rest (a.put o.dst v') w' := by
   rintro ⟨s, l', g1, g2, g3⟩
   obtain ⟨v, g4, g5⟩ := g2 E H' β' a' w' h1 h2
   refine ⟨h2.defers, v, g4, v, rfl, ?_⟩
   obtain ⟨L, hL⟩ := h1.dom G _ g1 rfl
   have hok : ∀ t s, (t, s) ∈ l' → VS H' β' (a.tmps.getD t undef) s := h1.obj G _ L g1 hL
   have fv : FV n H' β' a (mkF l') := ⟨hfv.defers, hfv.size, fun t _ => by
    rcases mkF_mem (l := l') (t := t) with e | e
    ·rw [e]; exact .any _
    ·exact hok _ _ e⟩
   exact g3 hin.2 E H' β' _ w' h1 (fv.put g5 o.dst hd.2)
  cases e with
  | normal => exact fin h3
  | ret => exact fin h3
  | _ => exact h3.elim
 refine hcal.mono ?_
 rintro e w' ⟨v, rfl, h⟩
 exact h
end
end Go.Proofs.YtcihalbakenleaaGreat
namespace Go.Proofs.YtcihalbakenleaaGreat
open Go.RowKit
def Tp.e (t : Tp) : Int := t.first + t.count
/-- a tuplet whose numbers are small -/
def Tp.ok (t : Tp) : Prop := 0 ≤ t.first ∧ t.first ≤ 128 ∧ 1 ≤ t.count ∧ t.count ≤ 128 ∧ 1 ≤ t.actual ∧ t.actual ≤ 32 ∧ 1 ≤ t.normal ∧ t.normal ≤ 32
def Tp.has (t : Tp) (n : Int) : Prop := t.first ≤ n ∧ n - t.first < t.count
instance (t : Tp) (n : Int) : Decidable (t.has n) := by unfold Tp.has; exact inferInstance
theorem tend_xc (t : Tp) (h : t.ok) : XC Tryz.prog 166 [.agg (Tp.c t)] (fun r => r = dI t.e) := by
 have h2 := h
 simp only [Tp.ok] at h2
 refine xc_body callable_166 Tryz.func166 rfl rfl (Nat.le_of_ble_eq_true rfl) ?_
 refine zr ?_
 refine XL.step rfl (st_boxN 1 (l := [.d (dI t.first), .d (dI t.count), .d (dI t.actual), .d (dI t.normal)]) rfl rfl (by kernel_rfl)) ?_
 refine za rfl rfl ?_
 refine znr ?_
 refine zp (p_fld_ptr rfl rfl fld_102_0) ?_
 refine zp (p_load_box rfl rfl sc_3 rfl rfl) ?_
 refine zp (p_fld_ptr rfl rfl fld_102_1) ?_
 refine zp (p_load_box rfl rfl sc_3 rfl rfl) ?_
 refine zp (p_add rfl rfl rfl (by omega) (by omega)) ?_
 refine za rfl rfl ?_
 refine zn ?_
 refine zt ?_
 exact z1 rfl rfl (rI rfl)
theorem contains_xc (t : Tp) (n : Int) (h : t.ok) (h0 : 0 ≤ n) (h1 : n ≤ 128) : XC Tryz.prog 140 [.agg (Tp.c t), .v (.int .i64 n)] (fun r => r = dB (decide (t.has n))) := by
 have h2 := h
 simp only [Tp.ok] at h2
 refine xc_body callable_140 Tryz.func140 rfl rfl (Nat.le_of_ble_eq_true rfl) ?_
 refine zr ?_
 refine XL.step rfl (st_boxN 2 (l := [.d (dI t.first), .d (dI t.count), .d (dI t.actual), .d (dI t.normal)]) rfl rfl (by kernel_rfl)) ?_
 refine za rfl rfl ?_
 refine znr ?_
 refine zm rfl rfl ?_
 refine zp (p_fld_ptr rfl rfl fld_102_0) ?_
 refine zp (p_load_box rfl rfl sc_3 rfl rfl) ?_
 refine zp (p_geq rfl rfl rfl) ?_
 refine zm rfl rfl ?_
 refine XL.dec 9 rfl (fun g9 => ?_) (fun g9 => ?_)
 refine zm rfl rfl ?_
 refine zp (p_fld_ptr rfl rfl fld_102_0) ?_
 refine zp (p_load_box rfl rfl sc_3 rfl rfl) ?_
 refine zp (p_sub rfl rfl rfl (by omega) (by omega)) ?_
 refine zp (p_fld_ptr rfl rfl fld_102_1) ?_
 refine zp (p_load_box rfl rfl sc_3 rfl rfl) ?_
 refine zp (p_lss rfl rfl rfl) ?_
 refine zq rfl rfl rfl ?_
 refine za rfl rfl ?_
 refine zn ?_
 refine zt ?_
 exact z1 rfl rfl (rB (by rw [decide_eq_decide]; unfold Tp.has; omega))
 refine zk 7 rfl ?_
 refine zq rfl rfl rfl ?_
 refine za rfl rfl ?_
 refine zn ?_
 refine zt ?_
 exact z1 rfl rfl (rB (by rw [eq_comm, decide_eq_false_iff_not]; unfold Tp.has; omega))
/-- tuplets in order: -1, 0, 1 -/
def ordS (a b : Tp) : Int := if a.first ≠ b.first then (if a.first < b.first then -1 else 1) else if a.count ≠ b.count then (if b.count < a.count then -1 else 1) else 0
theorem order_xc (a b : Tp) : XC Tryz.prog 168 [.agg (Tp.c a), .agg (Tp.c b)] (fun r => r = dI (ordS a b)) := by
 refine xc_body callable_168 Tryz.func168 rfl rfl (Nat.le_of_ble_eq_true rfl) ?_
 refine zr ?_
 refine XL.step rfl (st_boxN 2 (l := [.d (dI a.first), .d (dI a.count), .d (dI a.actual), .d (dI a.normal)]) rfl rfl (by kernel_rfl)) ?_
 refine XL.step rfl (st_boxN 3 (l := [.d (dI b.first), .d (dI b.count), .d (dI b.actual), .d (dI b.normal)]) rfl rfl (by kernel_rfl)) ?_
 refine za rfl rfl ?_
 refine zn ?_
 refine zs ?_
 refine zr ?_
 refine zp (p_fld_ptr rfl rfl fld_102_0) ?_
 refine zp (p_load_box rfl rfl sc_3 rfl rfl) ?_
 refine zp (p_fld_ptr rfl rfl fld_102_0) ?_
 refine zp (p_load_box rfl rfl sc_3 rfl rfl) ?_
 refine zp (p_neq rfl rfl rfl) ?_
 refine zn ?_
 refine zd rfl (fun c9 => ?_) (fun c9 => ?_)
 refine zs ?_
 refine zr ?_
 refine zp (p_fld_ptr rfl rfl fld_102_0) ?_
 refine zp (p_load_box rfl rfl sc_3 rfl rfl) ?_
 refine zp (p_fld_ptr rfl rfl fld_102_0) ?_
 refine zp (p_load_box rfl rfl sc_3 rfl rfl) ?_
 refine zp (p_lss rfl rfl rfl) ?_
 refine zn ?_
 refine zd rfl (fun c14 => ?_) (fun c14 => ?_)
 refine zr ?_
 refine za rfl rfl ?_
 refine zn ?_
 refine zt ?_
 exact z1 rfl rfl (rI (by rw [ordS, if_pos c9, if_pos c14]))
 refine zi ?_
 refine zr ?_
 refine za rfl rfl ?_
 refine zn ?_
 refine zt ?_
 exact z1 rfl rfl (rI (by rw [ordS, if_pos c9, if_neg c14]))
 refine zi ?_
 refine zs ?_
 refine zr ?_
 refine zp (p_fld_ptr rfl rfl fld_102_1) ?_
 refine zp (p_load_box rfl rfl sc_3 rfl rfl) ?_
 refine zp (p_fld_ptr rfl rfl fld_102_1) ?_
 refine zp (p_load_box rfl rfl sc_3 rfl rfl) ?_
 refine zp (p_neq rfl rfl rfl) ?_
 refine zn ?_
 refine zd rfl (fun c19 => ?_) (fun c19 => ?_)
 refine zs ?_
 refine zr ?_
 refine zp (p_fld_ptr rfl rfl fld_102_1) ?_
 refine zp (p_load_box rfl rfl sc_3 rfl rfl) ?_
 refine zp (p_fld_ptr rfl rfl fld_102_1) ?_
 refine zp (p_load_box rfl rfl sc_3 rfl rfl) ?_
 refine zp (p_gtr rfl rfl rfl) ?_
 refine zn ?_
 refine zd rfl (fun c24 => ?_) (fun c24 => ?_)
 refine zr ?_
 refine za rfl rfl ?_
 refine zn ?_
 refine zt ?_
 exact z1 rfl rfl (rI (by rw [ordS, if_neg c9, if_pos c19, if_pos c24]))
 refine zi ?_
 refine zr ?_
 refine za rfl rfl ?_
 refine zn ?_
 refine zt ?_
 exact z1 rfl rfl (rI (by rw [ordS, if_neg c9, if_pos c19, if_neg c24]))
 refine zi ?_
 refine zr ?_
 refine za rfl rfl ?_
 refine zn ?_
 refine zt ?_
 exact z1 rfl rfl (rI (by rw [ordS, if_neg c9, if_neg c19]))
theorem ratio_xc (n : Int) : XC Tryz.prog 167 [.v (.int .i64 n)] (fun r => r = dB (decide (1 ≤ n ∧ n ≤ 32))) := by
 refine xc_body callable_167 Tryz.func167 rfl rfl (Nat.le_of_ble_eq_true rfl) ?_
 refine zr ?_
 refine za rfl rfl ?_
 refine znr ?_
 refine zm rfl rfl ?_
 refine zp (p_geq rfl rfl rfl) ?_
 refine zm rfl rfl ?_
 refine XL.dec 5 rfl (fun g5 => ?_) (fun g5 => ?_)
 refine zm rfl rfl ?_
 refine zp (p_leq rfl rfl rfl) ?_
 refine zq rfl rfl rfl ?_
 refine za rfl rfl ?_
 refine zn ?_
 refine zt ?_
 exact z1 rfl rfl (rB (by rw [decide_eq_decide]; omega))
 refine zk 2 rfl ?_
 refine zq rfl rfl rfl ?_
 refine za rfl rfl ?_
 refine zn ?_
 refine zt ?_
 exact z1 rfl rfl (rB (by rw [eq_comm, decide_eq_false_iff_not]; omega))
theorem gcd_step {a b : Int} (ha : 0 ≤ a) (hb : 0 < b) : Int.gcd b (a % b) = Int.gcd a b := by
 rw [Int.gcd_comm a b, Int.gcd_comm b (a % b), Int.gcd_comm b a]
 obtain ⟨m, rfl⟩ := Int.eq_ofNat_of_zero_le ha
 obtain ⟨n, rfl⟩ := Int.eq_ofNat_of_zero_le (Int.le_of_lt hb)
 rw [show ((m : Int) % (n : Int)) = ((m % n : Nat) : Int) from by simp]
 simp only [Int.gcd_natCast_natCast]
 rw [Nat.gcd_comm m n, ← Nat.gcd_rec n m]
theorem divisor_xc (a b : Int) (ha : 0 ≤ a) (hb : 0 ≤ b) : XC Tryz.prog 190 [.v (.int .i64 a), .v (.int .i64 b)] (fun r => r = dI (Int.gcd a b)) := by
 refine xc_body callable_190 Tryz.func190 rfl rfl (Nat.le_of_ble_eq_true rfl) ?_
 refine zr ?_
 refine za rfl rfl ?_
 refine zn ?_
 refine zs ?_
 refine xw_block ?_
 refine xw_loop (α := Int × Int) (fun p => 0 ≤ p.1 ∧ 0 ≤ p.2 ∧ Int.gcd p.1 p.2 = Int.gcd a b) (fun p => mkF [(0, .d (dI p.1)), (1, .d (dI p.2)), (4, .d (dI 0))]) (fun p => mkH []) (fun p => p.2.toNat) ((a, b)) (⟨ha, hb, rfl⟩) ?_ ?_ ?_
 exact fz ⟨sr, sr, sr, trivial⟩
 exact HSub.nil
 intro p hk0
 obtain ⟨h1, h2, h3⟩ := hk0
 refine zs ?_
 refine zr ?_
 refine zm rfl rfl ?_
 refine zp (p_gtr rfl rfl rfl) ?_
 refine zn ?_
 refine zd rfl (fun c6 => ?_) (fun c6 => ?_)
 refine zi ?_
 refine xw_block ?_
 refine xw_any [] (by kernel_rfl) (by kernel_rfl) (by kernel_rfl) (by decide) ?_
 refine ym rfl rfl ?_
 refine ym rfl rfl ?_
 refine ym rfl rfl ?_
 refine yp (p_rem rfl rfl rfl (by omega) (by omega)) ?_
 refine ya rfl rfl ?_
 refine ya rfl rfl ?_
 refine ChK.nil ⟨by kernel_rfl, ?_⟩
 refine k_blk ?_
 exact k_round ((p.2, p.1 % p.2)) (⟨h2, Int.emod_nonneg _ (by omega), by rw [← h3]; exact gcd_step h1 c6⟩) (by have := Int.emod_lt_of_pos p.1 c6; have := Int.emod_nonneg p.1 (show p.2 ≠ 0 by omega); simp only; omega) (fz ⟨sr, sr, sr, trivial⟩) (HSub.nil)
 have he : p.2 = 0 := by omega
 have hg : p.1 = (Int.gcd a b : Int) := by rw [← h3, he, Int.gcd_zero_right]; omega
 refine xw_exit ?_
 refine zr ?_
 refine zm rfl rfl ?_
 refine za rfl rfl ?_
 refine zn ?_
 refine zt ?_
 exact z1 rfl rfl (rI hg)
theorem le_mul1 {a b : Int} (h : 0 ≤ a) (h1 : 1 ≤ b) : a ≤ a * b := by
 have := Int.mul_le_mul_of_nonneg_left h1 h
 omega
/-- the tuplets of a list that contain an event -/
def hits (l : List Tp) (n : Int) : Nat := (l.filter fun t => decide (t.has n)).length
def prodStep (n : Int) (p : Int × Int) (t : Tp) : Int × Int :=
 if t.has n then (p.1 * t.normal / (Int.gcd (p.1 * t.normal) (p.2 * t.actual) : Int), p.2 * t.actual / (Int.gcd (p.1 * t.normal) (p.2 * t.actual) : Int)) else p
/-- the fraction of the tuplets that contain an event -/
def prodF (l : List Tp) (n : Int) : Int × Int := l.foldl (prodStep n) (1, 1)
theorem hits_snoc (l : List Tp) (t : Tp) (n : Int) : hits (l ++ [t]) n = hits l n + (if t.has n then 1 else 0) := by
 unfold hits
 rw [List.filter_append, List.length_append]
 by_cases h : t.has n <;> simp [h]
theorem hits_take (l : List Tp) (k : Nat) (n : Int) : hits (l.take k) n ≤ hits l n := by
 unfold hits
 exact ((List.take_sublist k l).filter _).length_le
theorem hits_drop (l : List Tp) (k : Nat) (n : Int) : hits (l.drop k) n ≤ hits l n := by
 unfold hits
 exact ((List.drop_sublist k l).filter _).length_le
theorem prodF_snoc (l : List Tp) (t : Tp) (n : Int) : prodF (l ++ [t]) n = prodStep n (prodF l n) t := by
 unfold prodF
 rw [List.foldl_append]
 rfl
theorem ok_take {l : List Tp} (h : ∀ t ∈ l, t.ok) (k : Nat) : ∀ t ∈ l.take k, t.ok := fun t ht => h t (List.mem_of_mem_take ht)
theorem ok_drop {l : List Tp} (h : ∀ t ∈ l, t.ok) (k : Nat) : ∀ t ∈ l.drop k, t.ok := fun t ht => h t (List.mem_of_mem_drop ht)
theorem div_gcd_bd {a b : Int} (ha : 1 ≤ a) (hb : 1 ≤ b) : 1 ≤ a / (Int.gcd a b : Int) ∧ a / (Int.gcd a b : Int) ≤ a ∧ 1 ≤ (Int.gcd a b : Int) ∧ (Int.gcd a b : Int) ≤ a := by
 have hg : 0 < Int.gcd a b := Int.gcd_pos_of_ne_zero_left b (by omega)
 have hd : (Int.gcd a b : Int) ∣ a := Int.gcd_dvd_left a b
 have hle : (Int.gcd a b : Int) ≤ a := Int.le_of_dvd (by omega) hd
 refine ⟨?_, Int.ediv_le_self _ (by omega), by omega, hle⟩
 exact (Int.le_ediv_iff_mul_le (by omega)).2 (by omega)
theorem prodStep_bd {n : Int} {p : Int × Int} {t : Tp} (ht : t.ok) {B : Int} (h1 : 1 ≤ p.1) (h2 : p.1 ≤ B) (h3 : 1 ≤ p.2) (h4 : p.2 ≤ B) :
  1 ≤ (prodStep n p t).1 ∧ (prodStep n p t).1 ≤ (if t.has n then B * 32 else B) ∧ 1 ≤ (prodStep n p t).2 ∧ (prodStep n p t).2 ≤ (if t.has n then B * 32 else B) := by
 unfold prodStep
 obtain ⟨_, _, _, _, q1, q2, q3, q4⟩ := ht
 split
 ·have e1 : 1 ≤ p.1 * t.normal := Int.le_trans h1 (le_mul1 (by omega) q3)
  have e2 : 1 ≤ p.2 * t.actual := Int.le_trans h3 (le_mul1 (by omega) q1)
  have e3 : p.1 * t.normal ≤ B * 32 := Int.mul_le_mul h2 q4 (by omega) (by omega)
  have e4 : p.2 * t.actual ≤ B * 32 := Int.mul_le_mul h4 q2 (by omega) (by omega)
  have g1 := div_gcd_bd e1 e2
  have g2 := div_gcd_bd e2 e1
  rw [Int.gcd_comm] at g2
  exact ⟨g1.1, by omega, g2.1, by omega⟩
 ·exact ⟨h1, h2, h3, h4⟩
theorem snoc_ind {α : Type} {p : List α → Prop} (h0 : p []) (hs : ∀ l a, p l → p (l ++ [a])) (l : List α) : p l := by
 have : ∀ k, k ≤ l.length → p (l.take k) := by
  intro k
  induction k with
  | zero => intro _; rw [List.take_zero]; exact h0
  | succ k ih =>
   intro hk
   have e : l[k]? = some l[k] := List.getElem?_eq_getElem (by omega)
   rw [take_snoc e]
   exact hs _ _ (ih (by omega))
 have h := this l.length (Nat.le_refl _)
 rwa [List.take_length] at h
theorem prodF_bd0 (l : List Tp) (n : Int) : (∀ t ∈ l, t.ok) → 1 ≤ (prodF l n).1 ∧ (prodF l n).1 ≤ 32 ^ hits l n ∧ 1 ≤ (prodF l n).2 ∧ (prodF l n).2 ≤ 32 ^ hits l n := by
 refine snoc_ind (p := fun l => (∀ t ∈ l, t.ok) → 1 ≤ (prodF l n).1 ∧ (prodF l n).1 ≤ 32 ^ hits l n ∧ 1 ≤ (prodF l n).2 ∧ (prodF l n).2 ≤ 32 ^ hits l n) (fun _ => by simp [prodF, hits]) (fun l t ih hl => ?_) l
 obtain ⟨h1, h2, h3, h4⟩ := ih (fun t ht => hl t (List.mem_append_left _ ht))
 have := prodStep_bd (n := n) (hl t (List.mem_append_right _ (List.mem_singleton.2 rfl))) h1 h2 h3 h4
 rw [prodF_snoc, hits_snoc]
 split at this
 ·rename_i h; rw [if_pos h, Int.pow_succ]; exact this
 ·rename_i h; rw [if_neg h]; exact this
theorem prodF_bd {l : List Tp} {n : Int} (hl : ∀ t ∈ l, t.ok) (h : hits l n ≤ 3) : 1 ≤ (prodF l n).1 ∧ (prodF l n).1 ≤ 32768 ∧ 1 ≤ (prodF l n).2 ∧ (prodF l n).2 ≤ 32768 := by
 have := prodF_bd0 l n hl
 have e : (32 : Int) ^ hits l n ≤ 32768 := by
  generalize hits l n = k at *
  match k, h with
  | 0, _ => decide
  | 1, _ => decide
  | 2, _ => decide
  | 3, _ => decide
  | k + 4, h => omega
 omega
theorem prodF_hit {l : List Tp} {k : Nat} {t : Tp} {n : Int} (h : l[k]? = some t) (ht : t.has n) : prodF (l.take (k + 1)) n = ((prodF (l.take k) n).1 * t.normal / (Int.gcd ((prodF (l.take k) n).1 * t.normal) ((prodF (l.take k) n).2 * t.actual) : Int), (prodF (l.take k) n).2 * t.actual / (Int.gcd ((prodF (l.take k) n).1 * t.normal) ((prodF (l.take k) n).2 * t.actual) : Int)) := by
 rw [take_snoc h, prodF_snoc, prodStep, if_pos ht]
theorem prodF_miss {l : List Tp} {k : Nat} {t : Tp} {n : Int} (h : l[k]? = some t) (ht : ¬ t.has n) : prodF (l.take (k + 1)) n = prodF (l.take k) n := by
 rw [take_snoc h, prodF_snoc, prodStep, if_neg ht]
theorem product_xc (l : List Tp) (n : Int) (hl : ∀ t ∈ l, t.ok) (hh : hits l n ≤ 3) (h0 : 0 ≤ n) (h1 : n ≤ 128) : XC Tryz.prog 181 [.sl 4 (l.map Tp.c), .v (.int .i64 n)] (fun r => r = .tup [dI (prodF l n).1, dI (prodF l n).2]) := by
 refine xc_body callable_181 Tryz.func181 rfl rfl (Nat.le_of_ble_eq_true rfl) ?_
 refine zr ?_
 refine za rfl rfl ?_
 refine za rfl rfl ?_
 refine znr ?_
 refine za rfl rfl ?_
 refine za rfl rfl ?_
 refine zn ?_
 refine zs ?_
 refine zr ?_
 refine zm rfl rfl ?_
 refine XL.len rfl rfl rfl Tryz.underlying23 (fun hl10 => ?_)
 refine zm rfl rfl ?_
 refine zn ?_
 refine xw_block ?_
 refine xw_loop (α := Nat) (fun k => k ≤ l.length) (fun k => mkF [(1, .d (dI n)), (4, .d (dI (prodF (l.take k) n).1)), (5, .d (dI (prodF (l.take k) n).2)), (9, .d (.sl 4 (l.map Tp.c))), (10, .d (dI l.length)), (11, .d (dI k))]) (fun k => mkH []) (fun k => l.length - k) (0) (Nat.zero_le _) ?_ ?_ ?_
 exact fz ⟨sr, sr, sr, sr, sr, sr, trivial⟩
 exact HSub.nil
 intro k hk0
 refine zr ?_
 refine zp (p_lss rfl rfl rfl) ?_
 refine zn ?_
 refine zs ?_
 refine zd rfl (fun c12 => ?_) (fun c12 => ?_)
 have hk0a : k < l.length := by omega
 obtain ⟨x0, hx0⟩ := get_ex hk0a
 have hok : x0.ok := hl x0 (List.mem_of_getElem? hx0)
 have hb := prodF_bd (n := n) (ok_take hl k) (Nat.le_trans (hits_take l k n) hh)
 have hok2 := hok
 simp only [Tp.ok] at hok2
 have e1 : 1 ≤ (prodF (l.take k) n).1 * x0.normal := Int.le_trans hb.1 (le_mul1 (by omega) (by omega))
 have e2 : 1 ≤ (prodF (l.take k) n).2 * x0.actual := Int.le_trans hb.2.2.1 (le_mul1 (by omega) (by omega))
 have e3 : (prodF (l.take k) n).1 * x0.normal ≤ 32768 * 32 := Int.mul_le_mul hb.2.1 (by omega) (by omega) (by omega)
 have e4 : (prodF (l.take k) n).2 * x0.actual ≤ 32768 * 32 := Int.mul_le_mul hb.2.2.2 (by omega) (by omega) (by omega)
 have g1 := div_gcd_bd e1 e2
 refine zi ?_
 refine zs ?_
 refine xw_block ?_
 refine zr ?_
 refine zp (p_idx_map rfl rfl rfl el_23 hx0) ?_
 refine zp (pure_eq (s' := .d (.agg (Tp.c x0))) (p_load_pts rfl rfl agg_102 (Nat.le_of_ble_eq_true rfl)) (by kernel_rfl)) ?_
 refine XL.step rfl (st_allocN 7 (l := [.d (dI 0), .d (dI 0), .d (dI 0), .d (dI 0)]) rfl zero_102 (by kernel_rfl)) ?_
 refine XL.step rfl (st_storeN (l' := [.d (dI x0.first), .d (dI x0.count), .d (dI x0.actual), .d (dI x0.normal)]) rfl rfl rfl rfl sz_102 rfl (Nat.le_of_ble_eq_true rfl) (by kernel_rfl)) ?_
 refine znr ?_
 refine zp (pure_eq (s' := .d (.agg (Tp.c x0))) (norm_pure (p_load_boxs rfl rfl agg_102 rfl (Nat.le_of_ble_eq_true rfl))) (by kernel_rfl)) ?_
 refine zm rfl rfl ?_
 refine XL.call1 rfl rfl (contains_xc _ _ (by assumption) (by omega) (by omega)) rfl ?_
 refine zn ?_
 refine zd rfl (fun c17 => ?_) (fun c17 => ?_)
 refine zs ?_
 refine xw_any [] (by kernel_rfl) (by kernel_rfl) (by kernel_rfl) (by decide) ?_
 refine ym rfl rfl ?_
 refine yp (p_fld_ptr rfl rfl fld_102_3) ?_
 refine yp (p_load_box rfl rfl sc_3 rfl rfl) ?_
 refine yp (p_mul rfl rfl rfl (by omega) (by omega)) ?_
 refine ym rfl rfl ?_
 refine yp (p_fld_ptr rfl rfl fld_102_2) ?_
 refine yp (p_load_box rfl rfl sc_3 rfl rfl) ?_
 refine yp (p_mul rfl rfl rfl (by omega) (by omega)) ?_
 refine ya rfl rfl ?_
 refine ya rfl rfl ?_
 refine ChK.nil ⟨by kernel_rfl, ?_⟩
 refine zr ?_
 refine zm rfl rfl ?_
 refine zm rfl rfl ?_
 refine XL.call1 rfl rfl (divisor_xc _ _ (by omega) (by omega)) rfl ?_
 refine za rfl rfl ?_
 refine zn ?_
 refine xw_any [] (by kernel_rfl) (by kernel_rfl) (by kernel_rfl) (by decide) ?_
 refine ym rfl rfl ?_
 refine ym rfl rfl ?_
 refine yp (p_quo rfl rfl rfl (by omega) (by omega) (by omega)) ?_
 refine ym rfl rfl ?_
 refine ym rfl rfl ?_
 refine yp (p_quo rfl rfl rfl (by omega) (by omega) (by omega)) ?_
 refine ya rfl rfl ?_
 refine ya rfl rfl ?_
 refine ChK.nil ⟨by kernel_rfl, ?_⟩
 refine xw_region (by kernel_rfl) ?_
 refine zp (p_add rfl rfl rfl (by omega) (by omega)) ?_
 refine zm rfl rfl ?_
 refine zn ?_
 exact k_round (k + 1) (by omega) (by omega) (fz ⟨sr, .same (sI (by rw [prodF_hit hx0 c17])), .same (sI (by rw [prodF_hit hx0 c17])), sr, sr, sr, trivial⟩) (HSub.nil)
 refine zi ?_
 refine xw_region (by kernel_rfl) ?_
 refine zp (p_add rfl rfl rfl (by omega) (by omega)) ?_
 refine zm rfl rfl ?_
 refine zn ?_
 exact k_round (k + 1) (by omega) (by omega) (fz ⟨sr, .same (sI (by rw [prodF_miss hx0 c17])), .same (sI (by rw [prodF_miss hx0 c17])), sr, sr, sr, trivial⟩) (HSub.nil)
 have hk0b : k = l.length := by omega
 have ht : l.take k = l := by rw [hk0b, List.take_length]
 refine xw_exit ?_
 refine zr ?_
 refine zm rfl rfl ?_
 refine zm rfl rfl ?_
 refine za rfl rfl ?_
 refine za rfl rfl ?_
 refine zn ?_
 refine zt ?_
 exact ret2 rfl (RV.tmp rfl rfl) (RV.tmp rfl rfl) (r2 (rI (by rw [ht])) (rI (by rw [ht])))
/-- a length under tuplets: the length, the error -/
def scaleN (l : List Tp) (n w : Int) : Int := if w < 0 ∨ 7741440 < w then 0 else if w * (prodF l n).1 % (prodF l n).2 ≠ 0 then 0 else w * (prodF l n).1 / (prodF l n).2
def scaleE (l : List Tp) (n w : Int) : Int := if w < 0 ∨ 7741440 < w then 2 else if w * (prodF l n).1 % (prodF l n).2 ≠ 0 then 16 else 0
theorem scale_1 {l : List Tp} {n w : Int} (h : w < 0 ∨ 7741440 < w) : 0 = scaleN l n w ∧ 2 = scaleE l n w := by simp only [scaleN, scaleE, if_pos h]; exact ⟨trivial, trivial⟩
theorem scale_2 {l : List Tp} {n w : Int} (h1 : ¬ w < 0) (h2 : ¬ 7741440 < w) (h : w * (prodF l n).1 % (prodF l n).2 ≠ 0) : 0 = scaleN l n w ∧ 16 = scaleE l n w := by simp only [scaleN, scaleE, if_neg (show ¬ (w < 0 ∨ 7741440 < w) by omega), if_pos h]; exact ⟨trivial, trivial⟩
theorem scale_3 {l : List Tp} {n w : Int} (h1 : ¬ w < 0) (h2 : ¬ 7741440 < w) (h : ¬ w * (prodF l n).1 % (prodF l n).2 ≠ 0) : w * (prodF l n).1 / (prodF l n).2 = scaleN l n w ∧ 0 = scaleE l n w := by simp only [scaleN, scaleE, if_neg (show ¬ (w < 0 ∨ 7741440 < w) by omega), if_neg h]; exact ⟨trivial, trivial⟩
theorem scale_bd {l : List Tp} {n w : Int} (hl : ∀ t ∈ l, t.ok) (hh : hits l n ≤ 3) : 0 ≤ scaleN l n w ∧ scaleN l n w ≤ 253671505920 := by
 have hb := prodF_bd hl hh
 unfold scaleN
 split
 ·omega
 ·split
  ·omega
  ·have e1 : 0 ≤ w * (prodF l n).1 := Int.mul_nonneg (by omega) (by omega)
   have e2 : w * (prodF l n).1 ≤ 7741440 * 32768 := Int.mul_le_mul (by omega) hb.2.1 (by omega) (by omega)
   exact ⟨Int.ediv_nonneg e1 (by omega), Int.le_trans (Int.ediv_le_self _ e1) (by omega)⟩
theorem scale_xc (l : List Tp) (n w : Int) (hl : ∀ t ∈ l, t.ok) (hh : hits l n ≤ 3) (h0 : 0 ≤ n) (h1 : n ≤ 128) : XC Tryz.prog 163 [.sl 4 (l.map Tp.c), .v (.int .i64 n), .v (.int .i64 w)] (fun r => r = .tup [dI (scaleN l n w), dI (scaleE l n w)]) := by
 have hb := prodF_bd hl hh
 refine xc_body callable_163 Tryz.func163 rfl rfl (Nat.le_of_ble_eq_true rfl) ?_
 refine zr ?_
 refine za rfl rfl ?_
 refine za rfl rfl ?_
 refine zn ?_
 refine zs ?_
 refine zr ?_
 refine zm rfl rfl ?_
 refine zp (p_lss rfl rfl rfl) ?_
 refine zm rfl rfl ?_
 refine XL.dec 12 rfl (fun g12 => ?_) (fun g12 => ?_)
 refine zk 2 rfl ?_
 refine zq rfl rfl rfl ?_
 refine zn ?_
 refine xw_true (by kernel_rfl) rfl ?_
 refine zr ?_
 refine za rfl rfl ?_
 refine za rfl rfl ?_
 refine zn ?_
 refine zt ?_
 exact ret2 rfl (RV.tmp rfl rfl) (RV.tmp rfl rfl) (r2 (rI (scale_1 (.inl g12)).1) (rI (scale_1 (l := l) (n := n) (.inl g12)).2))
 refine zm rfl rfl ?_
 refine zp (p_gtr rfl rfl rfl) ?_
 refine zq rfl rfl rfl ?_
 refine zn ?_
 refine zd rfl (fun c15 => ?_) (fun c15 => ?_)
 refine zr ?_
 refine za rfl rfl ?_
 refine za rfl rfl ?_
 refine zn ?_
 refine zt ?_
 exact ret2 rfl (RV.tmp rfl rfl) (RV.tmp rfl rfl) (r2 (rI (scale_1 (.inr c15)).1) (rI (scale_1 (l := l) (n := n) (.inr c15)).2))
 refine zi ?_
 refine zr ?_
 refine zm rfl rfl ?_
 refine zm rfl rfl ?_
 refine XL.call1 rfl rfl (product_xc _ _ (by assumption) (by assumption) (by omega) (by omega)) rfl ?_
 refine zm rfl rfl ?_
 refine zp (p_ext rfl rfl rfl) ?_
 refine zp (p_ext rfl rfl rfl) ?_
 refine za rfl rfl ?_
 refine za rfl rfl ?_
 refine zn ?_
 refine zs ?_
 refine zs ?_
 have e1 : 0 ≤ w * (prodF l n).1 := Int.mul_nonneg (by omega) (by omega)
 have e2 : w * (prodF l n).1 ≤ 7741440 * 32768 := Int.mul_le_mul (by omega) hb.2.1 (by omega) (by omega)
 refine xw_region (by kernel_rfl) ?_
 refine zm rfl rfl ?_
 refine zm rfl rfl ?_
 refine zp (p_mul rfl rfl rfl (by omega) (by omega)) ?_
 refine zm rfl rfl ?_
 refine zp (p_rem rfl rfl rfl (by omega) (by omega)) ?_
 refine zp (p_neq rfl rfl rfl) ?_
 refine zn ?_
 refine zd rfl (fun c27 => ?_) (fun c27 => ?_)
 refine zr ?_
 refine za rfl rfl ?_
 refine za rfl rfl ?_
 refine zn ?_
 refine zt ?_
 exact ret2 rfl (RV.tmp rfl rfl) (RV.tmp rfl rfl) (r2 (rI (scale_2 g12 c15 c27).1) (rI (scale_2 g12 c15 c27).2))
 refine zi ?_
 refine zr ?_
 refine zm rfl rfl ?_
 refine zm rfl rfl ?_
 refine zp (p_mul rfl rfl rfl (by omega) (by omega)) ?_
 refine zm rfl rfl ?_
 refine zp (p_quo rfl rfl rfl (by omega) (by omega) (by omega)) ?_
 refine za rfl rfl ?_
 refine za rfl rfl ?_
 refine zn ?_
 refine zt ?_
 exact ret2 rfl (RV.tmp rfl rfl) (RV.tmp rfl rfl) (r2 (rI (scale_3 g12 c15 c27).1) (rI (scale_3 g12 c15 c27).2))
end Go.Proofs.YtcihalbakenleaaGreat
