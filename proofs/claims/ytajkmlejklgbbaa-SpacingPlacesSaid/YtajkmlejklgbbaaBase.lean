/- Words for memory that all texts of this seat use. No condition: plain lemmas about worlds and lists. -/
import Derived.Test.YtajkmlejklgbbaaRows
import Derived.WalkKit
import Derived.WalkSpells
import Derived.WalkLawsBesides
import Derived.Handy
import Derived.Deep.AppendLies
import Derived.Deep.Draws
import Derived.Maps.AppendAt
import Derived.Deep.QuietTactic
import Derived.BigQuiet
import Derived.Deep.RegionHeld3
import Derived.Deep.RegionWith
import Derived.Deep.DeepCutAuto
import Derived.Deep.LoopGhost
import Derived.BigRegion
namespace Go.Proofs.Ytajkmlejklgbbaa
open Go.RowKit

theorem hide {p : Prop} (h : p) : Hid p := h
theorem unhide {p : Prop} (h : Hid p) : p := h

/-- the cells from an address on hold the list; the block lies below B -/
def Rds (w : World) (B : Nat) (A : Option Addr) (xs : List Value) : Prop :=
  xs = [] ∨ ∃ b off, A = some ⟨b, off, none⟩ ∧ b < B ∧ ∀ j u, xs[j]? = some u → w.cell? ⟨b, off + j, none⟩ = some u

section
variable {w w' : World} {B B' : Nat} {A : Option Addr} {xs : List Value}
theorem Rds.nil : Rds w B A [] := .inl rfl
theorem Rds.keep (h : Rds w B A xs) (hk : ∀ p : Addr, p.block < B → w'.cell? p = w.cell? p) : Rds w' B A xs := by
  rcases h with h | ⟨b, off, e, hb, hc⟩
  · exact .inl h
  · exact .inr ⟨b, off, e, hb, fun j u hu => (hk _ hb).trans (hc j u hu)⟩
theorem Rds.more (h : Rds w B A xs) (hB : B ≤ B') : Rds w B' A xs := by
  rcases h with h | ⟨b, off, e, hb, hc⟩
  · exact .inl h
  · exact .inr ⟨b, off, e, by omega, hc⟩
theorem Rds.below (h : Rds w B A xs) (hb : Below B w w') : Rds w' B A xs := h.keep fun _ hp => hb.cell hp
theorem Rds.on (h : Rds w B A xs) (hb : Below B' w w') (hB : B ≤ B') : Rds w' B A xs := h.keep fun _ hp => hb.cell (by omega)
theorem Rds.drewN (h : Rds w B A xs) (n : Nat) : Rds (w.drewN n) B A xs := h
theorem Rds.get (h : Rds w B A xs) {k : Nat} (hk : k < xs.length) :
    ∃ b off, A = some ⟨b, off, none⟩ ∧ b < B ∧ ∀ j u, xs[j]? = some u → w.cell? ⟨b, off + j, none⟩ = some u := by
  rcases h with h | h
  · subst h; simp at hk
  · exact h
end

theorem below_drewN {B : Nat} {a w : World} (h : Below B a w) (n : Nat) : Below B a (w.drewN n) := ⟨h.os, h.tape, h.output, h.size, h.block⟩
theorem below_undrew {B : Nat} {a w : World} (h : Below B a.drew w) : Below B a w := ⟨h.os, h.tape, h.output, h.size, h.block⟩
theorem below_undrewN {B n : Nat} {a w : World} (h : Below B (a.drewN n) w) : Below B a w := ⟨h.os, h.tape, h.output, h.size, h.block⟩
theorem grown_drew {a w : World} {row : Option Nat} (h : a.grownBy w row) : a.grownBy w.drew row := ⟨h.os, h.tape, h.output, h.size, h.block⟩
theorem grown_drewN {a w : World} {row : Option Nat} (h : a.grownBy w row) (n : Nat) : a.grownBy (w.drewN n) row := ⟨h.os, h.tape, h.output, h.size, h.block⟩
theorem grown_of_below {a w w' : World} {row : Option Nat} (h : a.grownBy w row) (hb : Below w.heap.size w w') : a.grownBy w' row :=
  ⟨hb.os.trans h.os, hb.tape.trans h.tape, hb.output.trans h.output, Nat.le_trans h.size hb.size, fun k hk hne => (hb.block k (Nat.lt_of_lt_of_le hk h.size)).trans (h.block k hk hne)⟩
theorem grown_trans {a b c : World} {row : Option Nat} (h : a.grownBy b row) (k : b.grownBy c row) : a.grownBy c row := h.trans k
theorem bcell {w w1 : World} (hb : Below w.heap.size w w1) :
    (∀ b o, b < w.heap.size → w1.cell? ⟨b, o, none⟩ = w.cell? ⟨b, o, none⟩) ∧ (∀ b o, b < w.heap.size → w1.frozen? ⟨b, o, none⟩ = w.frozen? ⟨b, o, none⟩) :=
  ⟨fun b o h => hb.cell (p := ⟨b, o, none⟩) h, fun b o h => hb.frozen (p := ⟨b, o, none⟩) h⟩

section
variable {α : Type} (f : α → List Value) (sz : Nat)
theorem flat_length (hf : ∀ a, (f a).length = sz) (l : List α) : (l.flatMap f).length = l.length * sz := by
  induction l with
  | nil => simp
  | cons a l ih => simp [List.flatMap_cons, hf, ih, Nat.add_mul]; omega
theorem flat_get (hf : ∀ a, (f a).length = sz) (l : List α) (k j : Nat) (a : α) (hk : l[k]? = some a) (hj : j < sz) :
    (l.flatMap f)[k * sz + j]? = (f a)[j]? := by
  induction l generalizing k with
  | nil => simp at hk
  | cons b l ih =>
    cases k with
    | zero =>
      simp at hk
      subst hk
      rw [List.flatMap_cons, List.getElem?_append_left (by rw [hf]; omega)]
      simp
    | succ k =>
      simp at hk
      rw [List.flatMap_cons, List.getElem?_append_right (by rw [hf, Nat.add_mul]; omega), hf, ← ih k hk]
      congr 1
      rw [Nat.add_mul]
      omega
end

theorem ret_int {k : IntKind} {a b : Int} (h : a = b) : Ending.returned (.int k a) = .returned (.int k b) := by rw [h]

/-- a slice type and its element type, as the table of types has them -/
def ElemTy (P : Program) (t e : TypeId) (size bytes : Nat) : Prop :=
  P.underlying t = some (.slice e) ∧ 0 < size ∧ ∃ i z, P.info? e = some i ∧ i.zero = some z ∧ i.size = size ∧ i.bytes = bytes ∧ z.cells.size = size

theorem ElemTy.of {P : Program} {t e : TypeId} {z : Value} {size bytes : Nat} (ht : P.underlying t = some (.slice e))
    (h : (P.info? e).map (fun i => (i.zero, i.size, i.bytes)) = some (some z, size, bytes)) (hz : z.cells.size = size) (hs : 0 < size) : ElemTy P t e size bytes := by
  obtain ⟨i, h1, h2, h3, h4⟩ := info_parts h
  exact ⟨ht, hs, i, z, h1, h2, h3, h4, hz⟩

section
variable {P : Program} {w : World}

theorem run_app_none (base : Nat) {t ty e : TypeId} {size bytes : Nat} (T : ElemTy P t e size bytes) {v : Value} {n : Nat} {xs : List Value}
    (hown : w.ownsRow base e size v n xs) (c : Nat) : (Builtin.append_ #[t, t] ty #[v, .slice none 0 c]).run P w = .ok v w := by
  obtain ⟨ht, _, i, z, hi, _⟩ := T
  rcases hown.2 with ⟨rfl, rfl⟩ | ⟨g, cap, cur, rfl, _, _, hnc, _⟩
  · simp [Builtin.append_, run_underlying ht, sizeOf, typeInfo, hi, Builtin.lenOf, Builtin.firstCells]
  · simp [Builtin.append_, run_underlying ht, sizeOf, typeInfo, hi, Builtin.lenOf, Builtin.firstCells, hnc, storeCells]

theorem run_app (base : Nat) {t ty e : TypeId} {size bytes : Nat} (T : ElemTy P t e size bytes) {v : Value} {n : Nat} {xs : List Value}
    (hown : w.ownsRow base e size v n xs) {B : Nat} {A : Option Addr} {m : Nat} (c : Nat) {news : List Value} (hl : news.length = m * size) (hr : Rds w B A news)
    (h1 : ∀ u ∈ news, u.oneCell' = true) (h63 : n + m ≤ maxLen) (hbytes : (n + m) * bytes ≤ 140737488355328) (hbase : base ≤ w.heap.size) :
    ∃ v' w', (Builtin.append_ #[t, t] ty #[v, .slice A m c]).run P w = .ok v' w' ∧ w'.ownsRow base e size v' (n + m) (xs ++ news) ∧ w.grownBy w' v.ownBlock ∧
      (v'.ownBlock = v.ownBlock ∨ v'.ownBlock = some w.heap.size) := by
  have T' := T
  obtain ⟨ht, hs, i, z, hi, hz, hz1, hz2, hz3⟩ := T'
  have two : news = [] → m = 0 := by
    rintro rfl
    have := hl.symm
    simp only [List.length_nil, Nat.mul_eq_zero] at this
    omega
  rcases A with _ | ad
  · have hn : news = [] := by
      rcases hr with h | ⟨_, _, h, _⟩
      · exact h
      · cases h
    have hm := two hn
    subst hn hm
    exact ⟨v, w, run_app_none base T hown c, by simpa using hown, ⟨rfl, rfl, rfl, Nat.le_refl _, fun _ _ _ => rfl⟩, .inl rfl⟩
  · have hcells : ∀ j u, news[j]? = some u → w.cell? (ad.add j) = some u := by
      intro j u hu
      rcases hr with h | ⟨b, off, h, _, hc⟩
      · subst h; simp at hu
      · injection h with h
        subst h
        rw [Go.WideShapes.add_plain]
        exact hc j u hu
    obtain ⟨v', w', hrun, h2, h3, _, h5⟩ := run_append_own_at (P := P) w base t ty e i z size bytes ht hi hz hz1 hz2 hz3 hs v n xs hown ad m c news hl hcells h1 h63 hbytes hbase
    exact ⟨v', w', hrun, h2, h3, h5⟩

theorem wp_app {o : Oper} {a : Act} {K : Act → World → Prop} {Q : Exit → Act → World → Prop} (s x : Operand) (t : TypeId)
    (ho : o.op = .call { callee := .builtin .append, args := #[s, x], argTypes := #[t, t] })
    (base : Nat) {e : TypeId} {size bytes : Nat} (T : ElemTy P t e size bytes) (v : Value) (n : Nat) (xs : List Value) (hs : a.eval s = v)
    (hown : w.ownsRow base e size v n xs) (B : Nat) (A : Option Addr) (m c : Nat) (news : List Value) (hx : a.eval x = .slice A m c) (hl : news.length = m * size) (hr : Rds w B A news)
    (h1 : ∀ u ∈ news, u.oneCell' = true) (h63 : n + m ≤ maxLen) (hbytes : (n + m) * bytes ≤ 140737488355328) (hbase : base ≤ w.heap.size)
    (h : ∀ v' w', w'.ownsRow base e size v' (n + m) (xs ++ news) → w.grownBy w' v.ownBlock → (v'.ownBlock = v.ownBlock ∨ v'.ownBlock = some w.heap.size) → K (a.put o.dst v') w') : o.wp P a w K Q := by
  obtain ⟨v', w', hrun, h2, h3, h4⟩ := run_app (ty := o.type) base T hown c hl hr h1 h63 hbytes hbase
  unfold Oper.wp execOp
  simp only [ho, resolve, invoke, builtin, Sem.run_bind, Sem.run_pure, Result.andThen_ok, List.map_toArray, List.map_cons, List.map_nil, hs, hx, hrun]
  exact h v' w' h2 h3 h4

theorem wpList_app {ops : Array Oper} {rest : List Oper} {o : Oper} {a : Act} {Q : Exit → Act → World → Prop} (hgd : o.guard = none) (s x : Operand) (t : TypeId)
    (ho : o.op = .call { callee := .builtin .append, args := #[s, x], argTypes := #[t, t] })
    (base : Nat) {e : TypeId} {size bytes : Nat} (T : ElemTy P t e size bytes) (v : Value) (n : Nat) (xs : List Value) (hs : a.eval s = v)
    (hown : w.ownsRow base e size v n xs) (B : Nat) (A : Option Addr) (m c : Nat) (news : List Value) (hx : a.eval x = .slice A m c) (hl : news.length = m * size) (hr : Rds w B A news)
    (h1 : ∀ u ∈ news, u.oneCell' = true) (h63 : n + m ≤ maxLen) (hbytes : (n + m) * bytes ≤ 140737488355328) (hbase : base ≤ w.heap.size)
    (h : ∀ v' w', w'.ownsRow base e size v' (n + m) (xs ++ news) → w.grownBy w' v.ownBlock → (v'.ownBlock = v.ownBlock ∨ v'.ownBlock = some w.heap.size) → wpList P ops Q rest (a.put o.dst v') w') : wpList P ops Q (o :: rest) a w :=
  wpList_plain hgd fun _ hK => wp_app s x t ho base T v n xs hs hown B A m c news hx hl hr h1 h63 hbytes hbase fun v' w' h2 h3 h4 => hK _ _ (h v' w' h2 h3 h4)
end

section
variable {w w' : World} {base e size n cap : Nat} {v : Value} {xs : List Value}
theorem Rds.new (w : World) (cs : Array Value) (t : TypeId) : Rds (w.alloc (.cells cs t)) (w.heap.size + 1) (some ⟨w.heap.size, 0, none⟩) cs.toList := by
  refine .inr ⟨w.heap.size, 0, rfl, by omega, fun j u hu => ?_⟩
  have := World.news_of_block (heap_alloc_new w (.cells cs t)) j u hu
  rw [Go.WideShapes.add_plain] at this
  exact this
theorem Rds.at_new {w : World} {b : Nat} (hb : w.heap.size = b) (cs : Array Value) (t : TypeId) : Rds (w.alloc (.cells cs t)) (b + 1) (some ⟨b, 0, none⟩) cs.toList := by
  subst hb; exact Rds.new w cs t
theorem Rds.at_new_drew {w : World} {b : Nat} (hb : w.heap.size = b) (cs : Array Value) (t : TypeId) : Rds (w.alloc (.cells cs t)).drew (b + 1) (some ⟨b, 0, none⟩) cs.toList := by
  subst hb; exact Rds.new w cs t
theorem Rds.own {A : Option Addr} (h : w.ownsRow base e size (.slice A n cap) n xs) : Rds w w.heap.size A xs := by
  rcases Nat.eq_zero_or_pos n with h0 | h0
  · subst h0
    have h1 := h.1
    rw [Nat.zero_mul] at h1
    exact .inl (List.eq_nil_of_length_eq_zero h1)
  · obtain ⟨g, cap', hv, _, hlt⟩ := h.form h0
    injection hv with hA
    subst hA
    refine .inr ⟨g, 0, rfl, hlt, fun j u hu => ?_⟩
    have := h.cells (g := g) rfl j u hu
    rw [Go.WideShapes.add_plain] at this
    exact this
/-- an owned value is a slice -/
theorem own_form (h : w.ownsRow base e size v n xs) : ∃ A c, v = .slice A n c ∧ (A = none → c = 0) ∧ n ≤ c ∧ c ≤ maxLen := by
  rcases h.2 with ⟨rfl, rfl⟩ | ⟨g, cap, cur, rfl, _, _, h1, h2, _⟩
  · exact ⟨none, 0, rfl, fun _ => rfl, Nat.le_refl _, by simp only [maxLen]; omega⟩
  · exact ⟨_, cap, rfl, fun h => by simp at h, h1, h2⟩
theorem own_len (h : w.ownsRow base e size v n xs) : xs.length = n * size := h.1
theorem grown_below {B : Nat} {a w w' : World} {v : Value} {e size n : Nat} {xs : List Value} (h : Below B a w) (ho : w.ownsRow B e size v n xs) (hg : w.grownBy w' v.ownBlock) (hB : B ≤ w.heap.size) : Below B a w' :=
  h.grown hg hB fun k hk => (ho.lt k hk).1
theorem own_below {B : Nat} (h : w.ownsRow base e size v n xs) (hb : Below B w w') (hB : w.heap.size ≤ B) : w'.ownsRow base e size v n xs :=
  h.kept (row := none) ⟨hb.os, hb.tape, hb.output, hb.size, fun k hk _ => hb.block k (by omega)⟩ (by
    by_cases hv : v.ownBlock = none
    · exact .inl hv
    · exact .inr hv)
end

section
variable {α : Type} (f : α → List Value)
theorem flat_set3 (hf : ∀ a, (f a).length = 3) (l : List α) (k : Nat) (hk : k < l.length) (a : α) (x0 x1 x2 : Value) (ha : f a = [x0, x1, x2]) :
    (((l.flatMap f).set (k * 3) x0).set (k * 3 + 1) x1).set (k * 3 + 2) x2 = (l.set k a).flatMap f := by
  induction l generalizing k with
  | nil => simp at hk
  | cons b l ih =>
    have hb := hf b
    match hfb : f b, hb with
    | [b0, b1, b2], _ =>
      cases k with
      | zero => simp [List.flatMap_cons, hfb, ha]
      | succ k =>
        have := ih k (by simpa using hk)
        simp only [List.set_cons_succ, List.flatMap_cons, hfb, List.cons_append, List.nil_append, ← this]
        rw [show (k + 1) * 3 = k * 3 + 1 + 1 + 1 by omega]
        simp only [List.set_cons_succ]
theorem flat_set2_1 (hf : ∀ a, (f a).length = 2) (l : List α) (k : Nat) (a b : α) (hk : l[k]? = some b) (x0 x1 y1 : Value) (hb : f b = [x0, y1]) (ha : f a = [x0, x1]) :
    (l.flatMap f).set (k * 2 + 1) x1 = (l.set k a).flatMap f := by
  induction l generalizing k with
  | nil => simp at hk
  | cons c l ih =>
    have hc := hf c
    cases k with
    | zero =>
      simp at hk
      subst hk
      simp [List.flatMap_cons, hb, ha]
    | succ k =>
      match hfc : f c, hc with
      | [c0, c1], _ =>
        have := ih k (by simpa using hk)
        simp only [List.set_cons_succ, List.flatMap_cons, hfc, List.cons_append, List.nil_append, ← this]
        rw [show (k + 1) * 2 = k * 2 + 1 + 1 by omega]
        simp only [List.set_cons_succ]
end

section
variable {w : World} {base e g n cap : Nat} {α : Type} {f : α → List Value}
theorem own_set3 {l : List α} (hf : ∀ a, (f a).length = 3) (h : w.ownsRow base e 3 (.slice (some ⟨g, 0, none⟩) n cap) n (l.flatMap f)) (k : Nat) (hk : k < l.length)
    (a : α) (x0 x1 x2 : Value) (ha : f a = [x0, x1, x2]) :
    (((w.setCell ⟨g, k * 3, none⟩ x0).setCell ⟨g, k * 3 + 1, none⟩ x1).setCell ⟨g, k * 3 + 2, none⟩ x2).ownsRow base e 3 (.slice (some ⟨g, 0, none⟩) n cap) n ((l.set k a).flatMap f) ∧
      w.grownBy (((w.setCell ⟨g, k * 3, none⟩ x0).setCell ⟨g, k * 3 + 1, none⟩ x1).setCell ⟨g, k * 3 + 2, none⟩ x2) (some g) := by
  obtain ⟨h1, g1⟩ := h.stored (k * 3) x0
  obtain ⟨h2, g2⟩ := h1.stored (k * 3 + 1) x1
  obtain ⟨h3, g3⟩ := h2.stored (k * 3 + 2) x2
  rw [flat_set3 f hf l k hk a x0 x1 x2 ha] at h3
  exact ⟨h3, (g1.trans g2).trans g3⟩
theorem own_set2_1 {l : List α} (hf : ∀ a, (f a).length = 2) (h : w.ownsRow base e 2 (.slice (some ⟨g, 0, none⟩) n cap) n (l.flatMap f)) (k : Nat) (a b : α) (hk : l[k]? = some b)
    (x0 x1 y1 : Value) (hb : f b = [x0, y1]) (ha : f a = [x0, x1]) :
    (w.setCell ⟨g, k * 2 + 1, none⟩ x1).ownsRow base e 2 (.slice (some ⟨g, 0, none⟩) n cap) n ((l.set k a).flatMap f) ∧ w.grownBy (w.setCell ⟨g, k * 2 + 1, none⟩ x1) (some g) := by
  obtain ⟨h1, g1⟩ := h.stored (k * 2 + 1) x1
  rw [flat_set2_1 f hf l k a b hk x0 x1 y1 hb ha] at h1
  exact ⟨h1, g1⟩
end

/-- rows made before and behind a moment lie in different blocks -/
theorem own_apart {w w2 : World} {base e e' sz sz' n n' : Nat} {v v' : Value} {xs xs' : List Value} (h : w.ownsRow base e sz v n xs) (h' : w2.ownsRow w.heap.size e' sz' v' n' xs') :
    v.ownBlock = none ∨ v.ownBlock ≠ v'.ownBlock := by
  rcases hv : v.ownBlock with _ | k
  · exact .inl rfl
  · right
    intro he
    have h1 := (h.lt k hv).2
    have h2 := (h'.lt k he.symm).1
    omega
theorem own_apart' {w w2 : World} {base e e' sz sz' n n' : Nat} {v v' : Value} {xs xs' : List Value} (h : w.ownsRow base e sz v n xs) (h' : w2.ownsRow w.heap.size e' sz' v' n' xs') :
    v'.ownBlock = none ∨ v'.ownBlock ≠ v.ownBlock := by
  rcases hv : v'.ownBlock with _ | k
  · exact .inl rfl
  · right
    intro he
    have h1 := (h.lt k he.symm).2
    have h2 := (h'.lt k hv).1
    omega

end Go.Proofs.Ytajkmlejklgbbaa
