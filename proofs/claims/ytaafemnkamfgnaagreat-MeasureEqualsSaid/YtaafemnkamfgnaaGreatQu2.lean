/- Part 2 of what the statements need: lemmas and walks. -/
import Derived.IntWalk
import Derived.Test.YtaafemnkamfgnaaGreatQu1
set_option linter.unusedVariables false
set_option linter.unusedSimpArgs false
set_option linter.unusedSectionVars false
namespace Go.Proofs.YtaafemnkamfgnaaGreat
open Go.RowKit
section
variable {P:Program} {o:Oper} {e:Operand→S} {h:Xh}
theorem As {x:Operand} {s:S} (ho:o.op= .move x) (hx:e x=s):A9 P o e h s:=fun E H β ρ w _ hop=>by
  refine ⟨ρ x,by unfold execOp;simp only [ho,Sem.run_pure], ?_⟩
  have:=hop x (by rw [ho];simp [Op.operands])
  rwa [hx] at this
theorem Aw {x:Operand} {s:S} (ho:o.op= .assign x) (hx:e x=s):A9 P o e h s:=fun E H β ρ w _ hop=>by
  refine ⟨ρ x,by unfold execOp;simp only [ho,Sem.run_pure], ?_⟩
  have:=hop x (by rw [ho];simp [Op.operands])
  rwa [hx] at this
theorem Ar0 {c x y:Operand} {b:Bool} (ho:o.op= .pick c x y) (hc:e c= .d (.v (.bool b))):A9 P o e h (bif b then e x else e y):=fun E H β ρ w _ hop=>by
  have h1:=hop c (by rw [ho];simp [Op.operands])
  rw [hc] at h1
  have h2:=hop x (by rw [ho];simp [Op.operands])
  have h3:=hop y (by rw [ho];simp [Op.operands])
  refine ⟨if b then ρ x else ρ y,by unfold execOp;simp only [ho,Dn h1,asBool,Sem.run_bind,Sem.run_pure,Result.andThen_ok], ?_⟩
  cases b
  · exact h3
  · exact h2
theorem Be {c x y:Operand} {s:S} {b:Bool} (ho:o.op= .pick c x y) (hc:e c= .d (.v (.bool b))) (hs:(bif b then e x else e y)=s):A9 P o e h s:=by
  subst hs;exact Ar0 ho hc
theorem Ahs {op:BinOp} {t:TypeId} {x y:Operand} {a b:Value} (ha:a.oneCell'=true) (hn:a≠ .nilIface) (w:World):(eqGuard op t x y a b).run P w= .ok () w:=by
  unfold eqGuard
  cases op<;>simp only [Bool.not_false,Bool.not_true,Bool.false_eq_true,if_true,if_false,Sem.run_pure]<;>
    first
      |rfl
      |(cases a<;>first|rfl|(exact absurd rfl hn)|(simp [Value.oneCell'] at ha))
theorem Afn {op:BinOp} {t t':TypeId} {x y:Operand} {ρ:Operand→Value} {a b:Value} (ho:o.op= .binOp op t x y t') (ha:ρ x=a) (hb:ρ y=b) (h1:a.oneCell'=true) (hn:a≠ .nilIface) (w:World):
    (execOp ρ o).run P w=((binOp op t a b).run P w).andThen fun v w'=> .ok (.value v) w':=by
  unfold execOp
  simp only [ho,ha,hb,Sem.run_bind,Ahs h1 hn,Result.andThen_ok,Sem.run_pure]
theorem G9 {op:BinOp} {t t':TypeId} {x y:Operand} {a b r:Value} (ho:o.op= .binOp op t x y t') (hx:e x= .d (.v a)) (hy:e y= .d (.v b)) (h1:a.oneCell'=true) (hn:a≠ .nilIface)
    (hr:∀w,(binOp op t a b).run P w= .ok r w):A9 P o e h (.d (.v r)):=fun E H β ρ w _ hop=>by
  have g1:=hop x (by rw [ho];simp [Op.operands])
  have g2:=hop y (by rw [ho];simp [Op.operands])
  rw [hx] at g1
  rw [hy] at g2
  exact ⟨r,by rw [Afn ho (Dn g1) (Dn g2) h1 hn,hr];rfl, .d (.v _)⟩
section
variable {t t':TypeId} {x y:Operand} {a b:Int} {k:IntKind}
theorem Al (ho:o.op= .binOp .add t x y t') (hx:e x= .d (.v (.int .i64 a))) (hy:e y= .d (.v (.int .i64 b))) (h1: -9223372036854775808≤a+b) (h2:a+b≤9223372036854775807):A9 P o e h (.d (.v (.int .i64 (a+b)))):=
  G9 ho hx hy rfl (by simp) fun w=>by simp [binOp,Op.intArith,IntWalk.i64_in (a+b) (by omega)]
theorem Fk (ho:o.op= .binOp .sub t x y t') (hx:e x= .d (.v (.int .i64 a))) (hy:e y= .d (.v (.int .i64 b))) (h1: -9223372036854775808≤a - b) (h2:a - b≤9223372036854775807):A9 P o e h (.d (.v (.int .i64 (a - b)))):=
  G9 ho hx hy rfl (by simp) fun w=>by simp [binOp,Op.intArith,IntWalk.i64_in (a - b) (by omega)]
theorem L9 (ho:o.op= .binOp .mul t x y t') (hx:e x= .d (.v (.int .i64 a))) (hy:e y= .d (.v (.int .i64 b))) (h1: -9223372036854775808≤a*b) (h2:a*b≤9223372036854775807):A9 P o e h (.d (.v (.int .i64 (a*b)))):=
  G9 ho hx hy rfl (by simp) fun w=>by simp [binOp,Op.intArith,IntWalk.i64_in (a*b) (by omega)]
theorem Jj (ho:o.op= .binOp .quo t x y t') (hx:e x= .d (.v (.int .i64 a))) (hy:e y= .d (.v (.int .i64 b))) (h1:0≤a) (h2:0<b) (h3:a≤9223372036854775807):A9 P o e h (.d (.v (.int .i64 (a / b)))):=
  G9 ho hx hy rfl (by simp) fun w=>by
    have e1:a.tdiv b=a / b:=Int.tdiv_eq_ediv_of_nonneg h1
    have e2:0≤a / b:=Int.ediv_nonneg h1 (by omega)
    have e3:a / b≤a:=Int.ediv_le_self _ h1
    simp [binOp,Op.intDiv,show ¬b=0 by omega,e1,IntWalk.i64_in (a / b) (by omega)]
theorem Fu (ho:o.op= .binOp .rem t x y t') (hx:e x= .d (.v (.int .i64 a))) (hy:e y= .d (.v (.int .i64 b))) (h1:0≤a) (h2:0<b):A9 P o e h (.d (.v (.int .i64 (a % b)))):=
  G9 ho hx hy rfl (by simp) fun w=>by
    simp [binOp,Op.intDiv,show ¬b=0 by omega,Int.tmod_eq_emod_of_nonneg h1]
theorem Au (ho:o.op= .binOp .lss t x y t') (hx:e x= .d (.v (.int k a))) (hy:e y= .d (.v (.int k b))):A9 P o e h (.d (.v (.bool (decide (a<b))))):=
  G9 ho hx hy rfl (by simp) fun w=>by simp [binOp,Op.intCmp]
theorem N1 (ho:o.op= .binOp .leq t x y t') (hx:e x= .d (.v (.int k a))) (hy:e y= .d (.v (.int k b))):A9 P o e h (.d (.v (.bool (decide (a≤b))))):=
  G9 ho hx hy rfl (by simp) fun w=>by simp [binOp,Op.intCmp]
theorem Bb (ho:o.op= .binOp .gtr t x y t') (hx:e x= .d (.v (.int k a))) (hy:e y= .d (.v (.int k b))):A9 P o e h (.d (.v (.bool (decide (b<a))))):=
  G9 ho hx hy rfl (by simp) fun w=>by simp [binOp,Op.intCmp]
theorem Gg (ho:o.op= .binOp .geq t x y t') (hx:e x= .d (.v (.int k a))) (hy:e y= .d (.v (.int k b))):A9 P o e h (.d (.v (.bool (decide (b≤a))))):=
  G9 ho hx hy rfl (by simp) fun w=>by simp [binOp,Op.intCmp]
theorem Bi (ho:o.op= .binOp .eql t x y t') (hx:e x= .d (.v (.int k a))) (hy:e y= .d (.v (.int k b))):A9 P o e h (.d (.v (.bool (decide (a=b))))):=
  G9 ho hx hy rfl (by simp) fun w=>by
    have:(a==b)=decide (a=b):=by by_cases h:a=b<;>simp [h]
    simp [binOp,Op.intCmp,this]
theorem A1 (ho:o.op= .binOp .neq t x y t') (hx:e x= .d (.v (.int k a))) (hy:e y= .d (.v (.int k b))):A9 P o e h (.d (.v (.bool (decide (a≠b))))):=
  G9 ho hx hy rfl (by simp) fun w=>by
    have:(a !=b)=decide (a≠b):=by by_cases h:a=b<;>simp [h]
    simp [binOp,Op.intCmp,this]
theorem Ar1 {p:Prop} [Decidable p] {b:Bool} (hp:A9 P o e h (.d (.v (.bool (decide p))))) (hb:decide p=b):A9 P o e h (.d (.v (.bool b))):=by rw [←hb];exact hp
theorem Ec {p:Prop} [Decidable p] (hp:A9 P o e h (.d (.v (.bool (decide p))))) (hb:p):A9 P o e h (.d (.v (.bool true))):=Ar1 hp (decide_eq_true hb)
theorem Hc {p:Prop} [Decidable p] (hp:A9 P o e h (.d (.v (.bool (decide p))))) (hb:¬p):A9 P o e h (.d (.v (.bool false))):=Ar1 hp (decide_eq_false hb)
theorem Aoe (ho:o.op= .binOp .shr t x y t') (hx:e x= .d (.v (.int .i64 a))) (hy:e y= .d (.v (.int k b))) (h1:0≤b) (h2:b≤64):A9 P o e h (.d (.v (.int .i64 (a / 2 ^ b.toNat)))):=
  G9 ho hx hy rfl (by simp) fun w=>by
    have h3:min b.toNat 64=b.toNat:=by omega
    show (Op.shift .shr .i64 a k b).run P w=_
    unfold Op.shift
    rw [if_neg (show ¬b<0 by omega)]
    simp [IntKind.bits,h3,Int.fdiv_eq_ediv_of_nonneg a (show (0:Int)≤2 ^ b.toNat from Int.pow_nonneg (by omega))]
end
theorem Apw {t t':TypeId} {x y:Operand} {a b:ByteArray} (ho:o.op= .binOp .eql t x y t') (hx:e x= .d (.v (.string a))) (hy:e y= .d (.v (.string b))):A9 P o e h (.d (.v (.bool (a.toList==b.toList)))):=
  G9 ho hx hy rfl (by simp) fun w=>by simp [binOp,Op.stringOp]
theorem Apv {t t':TypeId} {x y:Operand} {a b:ByteArray} (ho:o.op= .binOp .neq t x y t') (hx:e x= .d (.v (.string a))) (hy:e y= .d (.v (.string b))):A9 P o e h (.d (.v (.bool (!(a.toList==b.toList))))):=
  G9 ho hx hy rfl (by simp) fun w=>by simp [binOp,Op.stringOp]
theorem D2 {t:TypeId} {x:Operand} {b:Bool} (ho:o.op= .unOp .not t x) (hx:e x= .d (.v (.bool b))):A9 P o e h (.d (.v (.bool (!b)))):=fun E H β ρ w _ hop=>by
  have g:=hop x (by rw [ho];simp [Op.operands])
  rw [hx] at g
  exact ⟨_,by unfold execOp;simp [ho,Dn g,Op.unary], .d (.v _)⟩
theorem Atm {t:TypeId} {x:Operand} {a:Int} (ho:o.op= .unOp .neg t x) (hx:e x= .d (.v (.int .i64 a))) (h1: -9223372036854775807≤a) (h2:a≤9223372036854775807):A9 P o e h (.d (.v (.int .i64 (-a)))):=fun E H β ρ w _ hop=>by
  have g:=hop x (by rw [ho];simp [Op.operands])
  rw [hx] at g
  refine ⟨_, ?_, .d (.v (.int .i64 (-a)))⟩
  unfold execOp
  have:=IntWalk.i64_in (-a) (by omega)
  simp [ho,Dn g,Op.unary,Op.intArith,this]
theorem Fn {x:Operand} {i k off:Nat} (ho:o.op= .nilCheck x) (hx:e x= .ptr i k off):A9 P o e h (.ptr i k off):=fun E H β ρ w _ hop=>by
  have g:=hop x (by rw [ho];simp [Op.operands])
  rw [hx] at g
  obtain ⟨L,h1,h2⟩:=Fm g
  exact ⟨_,by unfold execOp;simp [ho,h2], .ptr k off h1⟩
theorem A0 {x:Operand} {i:Nat} {l:List D} {d:D} (ho:o.op= .extract x i) (hx:e x= .d (.tup l)) (hd:l[i]? =some d):A9 P o e h (.d d):=fun E H β ρ w _ hop=>by
  have g:=hop x (by rw [ho];simp [Op.operands])
  rw [hx] at g
  obtain ⟨cs,h1,h2,h3⟩:=Ail (D5 g)
  have hi:i<cs.size:=by rw [h2];exact (List.getElem?_eq_some_iff.1 hd).1
  have hc:cs[i]? =some cs[i]:=Array.getElem?_eq_getElem hi
  exact ⟨cs[i],by unfold execOp;simp [ho,h1,Instr.extract,hc], .d (h3 i _ d hc hd)⟩
def aggB (P:Program) (t n:Nat):Bool:=
  (match P.underlying t with|some (.struct _)=>true|some (.array _ _)=>true|_=>false) && (match P.info? t with|some i=>Nat.beq i.size n|none=>false)
def scB (P:Program) (t:Nat):Bool:=match P.underlying t with|some (.struct _)=>false|some (.array _ _)=>false|some _=>true|none=>false
theorem aggB.isAgg {t n:Nat} (hh:aggB P t n=true) (w:World):(isAgg t).run P w= .ok true w∧(sizeOf t).run P w= .ok n w:=by
  unfold aggB at hh
  rw [Bool.and_eq_true] at hh
  obtain ⟨h1,h2⟩:=hh
  constructor
  · split at h1
    · rename_i fs hu;unfold Go.isAgg;simp only [Sem.run_bind,run_underlying hu,Result.andThen_ok,Sem.run_pure]
    · rename_i a b hu;unfold Go.isAgg;simp only [Sem.run_bind,run_underlying hu,Result.andThen_ok,Sem.run_pure]
    · cases h1
  · split at h2
    · rename_i i hi
      have:=Nat.eq_of_beq_eq_true h2
      subst this
      unfold sizeOf typeInfo
      simp [hi]
    · cases h2
theorem scB.isAgg {t:Nat} (hh:scB P t=true) (w:World):(Go.isAgg t).run P w= .ok false w:=by
  unfold scB at hh
  split at hh
  · cases hh
  · cases hh
  · rename_i d h1 h2 hu
    unfold Go.isAgg
    simp only [Sem.run_bind,run_underlying hu,Result.andThen_ok]
    cases d<;>first|rfl|(exact absurd rfl (h1 _))|(exact absurd rfl (h2 _ _))
  · cases hh
theorem G0 {t:TypeId} {x:Operand} {ρ:Operand→Value} {b off:Nat} (ho:o.op= .load t x) (hx:ρ x= .pointer (some ⟨b,off,none⟩)) (w:World):
    (execOp ρ o).run P w=((loadVar t ⟨b,off,none⟩).run P w).andThen fun v w'=> .ok (.value v) w':=by
  unfold execOp
  simp [ho,hx,Instr.loadAt,Instr.sureAddr]
theorem Mc {t:TypeId} (hs:scB P t=true) {w:World} {a:Addr} {u:Value} (hu:w.cell? a=some u):(loadVar t a).run P w= .ok u w:=by
  unfold loadVar
  simp [scB.isAgg hs,hu]
theorem K9 {t n:Nat} (hs:aggB P t n=true) {w:World} {a:Addr} {us:List Value} (hl:us.length=n) (hu:∀j v,us[j]? =some v→w.cell? (a.add j)=some v):(loadVar t a).run P w= .ok (.agg us.toArray) w:=by
  unfold loadVar
  subst hl
  simp only [Sem.run_bind,(aggB.isAgg hs w).1,Result.andThen_ok,if_true,(aggB.isAgg hs w).2,run_loadCells_list w a us hu,Sem.run_pure]
theorem Bg {t:TypeId} {x:Operand} {d:D} {l:List D} (ho:o.op= .load t x) (hx:e x= .d (.pt (d::l))) (hs:scB P t=true):A9 P o e h (.d d):=fun E H β ρ w hsim hop=>by
  have g:=hop x (by rw [ho];simp [Op.operands])
  rw [hx] at g
  obtain ⟨b,off,gv,h1,h2,h3⟩:=Xx (D5 g)
  have hc:=(hsim.imm b (off+0) _ (h2 0 d rfl)).1
  rw [Nat.add_zero] at hc
  refine ⟨gv 0, ?_, .d (h3 0 d rfl)⟩
  rw [G0 ho h1,Mc hs hc]
  rfl
theorem Ay {t n:Nat} {x:Operand} {l:List D} (ho:o.op= .load t x) (hx:e x= .d (.pt l)) (hs:aggB P t n=true) (hn:n≤l.length):A9 P o e h (.d (.agg (l.take n))):=fun E H β ρ w hsim hop=>by
  have g:=hop x (by rw [ho];simp [Op.operands])
  rw [hx] at g
  obtain ⟨b,off,gv,h1,h2,h3⟩:=Xx (D5 g)
  refine ⟨.agg ((List.range n).map gv).toArray, ?_, .d (.agg _ _ (by simp;omega) fun i y d hy hd=> ?_)⟩
  · rw [G0 ho h1,K9 hs (us:=(List.range n).map gv) (by simp) fun j v hj=> ?_]
    · rfl
    · rw [List.getElem?_map] at hj
      rw [Go.WideShapes.add_plain]
      by_cases hjn:j<n
      · rw [List.getElem?_range hjn] at hj
        simp at hj
        subst hj
        have hl:j<l.length:=by omega
        exact (hsim.imm b (off+j) _ (h2 j _ (List.getElem?_eq_getElem hl))).1
      · rw [List.getElem?_eq_none (by simpa using hjn)] at hj;cases hj
  · have hjn:i<n:=by
      have:=(Array.getElem?_eq_some_iff.1 hy).1
      simpa using this
    simp only [List.getElem?_toArray,List.getElem?_map,List.getElem?_range hjn,Option.map_some,Option.some.injEq] at hy
    subst hy
    rw [List.getElem?_take,if_pos hjn] at hd
    exact h3 i d hd
theorem Rg {E:Env} {H:Hp} {β:Bt} {w:World} (hs:Sim E H β h w) {i:Nat} {l:List S} {L:Loc} (hi:h i=some (.box l)) (hL:β i=some L) (j:Nat) (s:S) (hj:l[j]? =some s):
    ∃u,w.cell? ⟨L.b,j,none⟩=some u∧VS H β u s:=by
  obtain ⟨_,_,us,t,h1,h2,h3⟩:=hs.obj i _ L hi hL
  have hjl:j<us.size:=by rw [h2];exact (List.getElem?_eq_some_iff.1 hj).1
  refine ⟨us[j], ?_,h3 j _ s (Array.getElem?_eq_getElem hjl) hj⟩
  simp [World.cell?,h1,Array.getElem?_eq_getElem hjl]
theorem Ab {t:TypeId} {x:Operand} {i off:Nat} {l:List S} {s:S} (ho:o.op= .load t x) (hx:e x= .ptr i 0 off) (hs:scB P t=true) (hi:h i=some (.box l)) (hl:l[off]? =some s):A9 P o e h s:=fun E H β ρ w hsim hop=>by
  have g:=hop x (by rw [ho];simp [Op.operands])
  rw [hx] at g
  obtain ⟨L,h1,h2⟩:=Fm g
  rw [Nat.zero_mul,Nat.zero_add] at h2
  obtain ⟨u,hu,hv⟩:=Rg hsim hi h1 off s hl
  exact ⟨u,by rw [G0 ho h2,Mc hs hu];rfl,hv⟩
theorem Ad {t n:Nat} {x:Operand} {i off:Nat} {l:List S} (ho:o.op= .load t x) (hx:e x= .ptr i 0 off) (hs:aggB P t n=true) (hi:h i=some (.box l)) (hl:off+n≤l.length):A9 P o e h (.agg ((l.drop off).take n)):=fun E H β ρ w hsim hop=>by
  have g:=hop x (by rw [ho];simp [Op.operands])
  rw [hx] at g
  obtain ⟨L,h1,h2⟩:=Fm g
  rw [Nat.zero_mul,Nat.zero_add] at h2
  have hb:=fun j s hj=>Rg hsim hi h1 j s hj
  have hval:∀j,j<n→∃u,w.cell? ⟨L.b,off+j,none⟩=some u∧∀s,l[off+j]? =some s→VS H β u s:=by
    intro j hj
    have hlt:off+j<l.length:=by omega
    obtain ⟨u,hu,hv⟩:=hb (off+j) l[off+j] (List.getElem?_eq_getElem hlt)
    exact ⟨u,hu,fun s hs=>by rw [List.getElem?_eq_getElem hlt] at hs;cases hs;exact hv⟩
  obtain ⟨gv,hgv⟩:∃gv:Nat→Value,∀j,j<n→w.cell? ⟨L.b,off+j,none⟩=some (gv j)∧∀s,l[off+j]? =some s→VS H β (gv j) s:=
    ⟨fun j=>if hj:j<n then Classical.choose (hval j hj) else undef,fun j hj=>by simp only [dif_pos hj];exact Classical.choose_spec (hval j hj)⟩
  refine ⟨.agg ((List.range n).map gv).toArray, ?_, .agg _ _ (by simp;omega) fun j y s hy hd=> ?_⟩
  · rw [G0 ho h2,K9 hs (us:=(List.range n).map gv) (by simp) fun j v hj=> ?_]
    · rfl
    · rw [List.getElem?_map] at hj
      rw [Go.WideShapes.add_plain]
      by_cases hjn:j<n
      · rw [List.getElem?_range hjn] at hj
        simp at hj
        subst hj
        exact (hgv j hjn).1
      · rw [List.getElem?_eq_none (by simpa using hjn)] at hj;cases hj
  · have hjn:j<n:=by
      have:=(Array.getElem?_eq_some_iff.1 hy).1
      simpa using this
    simp only [List.getElem?_toArray,List.getElem?_map,List.getElem?_range hjn,Option.map_some,Option.some.injEq] at hy
    subst hy
    rw [List.getElem?_take,if_pos hjn,List.getElem?_drop] at hd
    exact (hgv j hjn).2 s hd
theorem N0 {E:Env} {H:Hp} {β:Bt} {w:World} (hs:Sim E H β h w) {i:Nat} {ty:TypeId} {sz:Nat} {l:List (List D)} {L:Loc} (hi:h i=some (.row ty sz l)) (hL:β i=some L) {k j:Nat} {x:List D} {d:D} (hk:l[k]? =some x) (hj:x[j]? =some d):
    ∃u,w.cell? ⟨L.b,k*L.sz+j,none⟩=some u∧VD H u d:=by
  obtain ⟨hsz,_,hvb,us,h1,h2,h3⟩:=hs.obj i _ L hi hL
  obtain ⟨u,hu,hv⟩:=h3 k j x d hk hj
  have hpos:0<l.length:=by have:=(List.getElem?_eq_some_iff.1 hk).1;omega
  obtain ⟨g,cap,hLv,_,_⟩:=h1.form hpos
  have hg:=hvb g (by rw [hLv];rfl)
  subst hg
  have:=h1.cells (g:=L.b) (by rw [hLv];rfl) (k*sz+j) u hu
  rw [Go.WideShapes.add_plain,Nat.zero_add] at this
  rw [hsz]
  exact ⟨u,this,hv⟩
theorem I1 {t:TypeId} {x:Operand} {i k off:Nat} {ty:TypeId} {sz:Nat} {l:List (List D)} {y:List D} {d:D} (ho:o.op= .load t x) (hx:e x= .ptr i k off) (hs:scB P t=true) (hi:h i=some (.row ty sz l)) (hk:l[k]? =some y) (hj:y[off]? =some d):
    A9 P o e h (.d d):=fun E H β ρ w hsim hop=>by
  have g:=hop x (by rw [ho];simp [Op.operands])
  rw [hx] at g
  obtain ⟨L,h1,h2⟩:=Fm g
  obtain ⟨u,hu,hv⟩:=N0 hsim hi h1 hk hj
  exact ⟨u,by rw [G0 ho h2,Mc hs hu];rfl, .d hv⟩
theorem Ew {t n:Nat} {x:Operand} {i k off:Nat} {ty:TypeId} {sz:Nat} {l:List (List D)} {y:List D} (ho:o.op= .load t x) (hx:e x= .ptr i k off) (hs:aggB P t n=true) (hi:h i=some (.row ty sz l)) (hk:l[k]? =some y) (hn:off+n≤y.length):
    A9 P o e h (.d (.agg ((y.drop off).take n))):=fun E H β ρ w hsim hop=>by
  have g:=hop x (by rw [ho];simp [Op.operands])
  rw [hx] at g
  obtain ⟨L,h1,h2⟩:=Fm g
  have hval:∀j,j<n→∃u,w.cell? ⟨L.b,k*L.sz+off+j,none⟩=some u∧∀s,y[off+j]? =some s→VD H u s:=by
    intro j hj
    have hlt:off+j<y.length:=by omega
    obtain ⟨u,hu,hv⟩:=N0 hsim hi h1 hk (List.getElem?_eq_getElem hlt)
    exact ⟨u,by rw [Nat.add_assoc];exact hu,fun s hs=>by rw [List.getElem?_eq_getElem hlt] at hs;cases hs;exact hv⟩
  obtain ⟨gv,hgv⟩:∃gv:Nat→Value,∀j,j<n→w.cell? ⟨L.b,k*L.sz+off+j,none⟩=some (gv j)∧∀s,y[off+j]? =some s→VD H (gv j) s:=
    ⟨fun j=>if hj:j<n then Classical.choose (hval j hj) else undef,fun j hj=>by simp only [dif_pos hj];exact Classical.choose_spec (hval j hj)⟩
  refine ⟨.agg ((List.range n).map gv).toArray, ?_, .d (.agg _ _ (by simp;omega) fun j z s hy hd=> ?_)⟩
  · rw [G0 ho h2,K9 hs (us:=(List.range n).map gv) (by simp) fun j v hj=> ?_]
    · rfl
    · rw [List.getElem?_map] at hj
      rw [Go.WideShapes.add_plain]
      by_cases hjn:j<n
      · rw [List.getElem?_range hjn] at hj
        simp at hj
        subst hj
        exact (hgv j hjn).1
      · rw [List.getElem?_eq_none (by simpa using hjn)] at hj;cases hj
  · have hjn:j<n:=by
      have:=(Array.getElem?_eq_some_iff.1 hy).1
      simpa using this
    simp only [List.getElem?_toArray,List.getElem?_map,List.getElem?_range hjn,Option.map_some,Option.some.injEq] at hy
    subst hy
    rw [List.getElem?_take,if_pos hjn,List.getElem?_drop] at hd
    exact (hgv j hjn).2 s hd
def Cj (P:Program) (t fi off:Nat):Bool:=
  match P.underlying t with
  |some (.struct fs)=>
    match fs[fi]? with
    |some f=>Nat.beq f.offset off && (match P.info? f.type with|some i=> !Nat.beq i.size 0|none=>false)
    |none=>false
  |_=>false
theorem Sx {t fi off:Nat} (hf:Cj P t fi off=true) (b k:Nat) (w:World):(Instr.fieldAt t (.pointer (some ⟨b,k,none⟩)) fi).run P w= .ok (.pointer (some ⟨b,k+off,none⟩)) w:=by
  unfold Cj at hf
  split at hf
  · rename_i fs hu
    split at hf
    · rename_i f hfi
      rw [Bool.and_eq_true] at hf
      obtain ⟨h1,h2⟩:=hf
      have:=Nat.eq_of_beq_eq_true h1
      subst this
      split at h2
      · rename_i i hi
        have hz:i.size≠0:=fun e=>by rw [e] at h2;cases h2
        unfold Instr.fieldAt fieldPlace
        simp only [Sem.run_bind,run_underlying hu,Result.andThen_ok,hfi,Instr.sureAddr,Sem.run_pure,sizeOf,typeInfo,run_program,hi,if_neg hz]
        rw [Go.WideShapes.add_plain]
      · cases h2
    · cases hf
  · cases hf
theorem Aa {t fi off':Nat} {x:Operand} {i k off:Nat} (ho:o.op= .fieldAddr t x fi) (hx:e x= .ptr i k off) (hf:Cj P t fi off'=true):A9 P o e h (.ptr i k (off+off')):=fun E H β ρ w _ hop=>by
  have g:=hop x (by rw [ho];simp [Op.operands])
  rw [hx] at g
  obtain ⟨L,h1,h2⟩:=Fm g
  refine ⟨_,by unfold execOp;simp only [ho,h2,Sem.run_bind,Sx hf,Result.andThen_ok,Sem.run_pure];rfl, ?_⟩
  have:k*L.sz+off+off'=k*L.sz+(off+off'):=by omega
  rw [this]
  exact .ptr k (off+off') h1
theorem Gz {t fi off':Nat} {x:Operand} {l:List D} (ho:o.op= .fieldAddr t x fi) (hx:e x= .d (.pt l)) (hf:Cj P t fi off'=true):A9 P o e h (.d (.pt (l.drop off'))):=fun E H β ρ w _ hop=>by
  have g:=hop x (by rw [ho];simp [Op.operands])
  rw [hx] at g
  obtain ⟨b,off,gv,h1,h2,h3⟩:=Xx (D5 g)
  refine ⟨_,by unfold execOp;simp only [ho,h1,Sem.run_bind,Sx hf,Result.andThen_ok,Sem.run_pure], .d (.pt b (off+off') _ (fun j=>gv (off'+j)) (fun j d hj=> ?_) (fun j d hj=> ?_))⟩
  · rw [List.getElem?_drop] at hj
    rw [Nat.add_assoc]
    exact h2 _ d hj
  · rw [List.getElem?_drop] at hj
    exact h3 _ d hj
def elB (P:Program) (t sz:Nat):Bool:=
  match P.underlying t with
  |some (.slice el)=>(match P.info? el with|some i=>Nat.beq i.size sz|none=>false) && Nat.blt 0 sz
  |_=>false
theorem elB.parts {t sz:Nat} (hf:elB P t sz=true):∃el,P.underlying t=some (.slice el)∧0<sz∧∀w,(sizeOf el).run P w= .ok sz w:=by
  unfold elB at hf
  split at hf
  · rename_i el hu
    rw [Bool.and_eq_true] at hf
    obtain ⟨h1,h2⟩:=hf
    split at h1
    · rename_i i hi
      have:=Nat.eq_of_beq_eq_true h1
      subst this
      exact ⟨el,hu,Eu h2,fun w=>by unfold sizeOf typeInfo;simp [hi]⟩
    · cases h1
  · cases hf
theorem Oi {t sz:Nat} (hf:elB P t sz=true) {b off n c:Nat} {k:Nat} {ik:IntKind} (hk:k<n) (w:World):
    (Instr.indexAt t (.slice (some ⟨b,off,none⟩) n c) (.int ik k)).run P w= .ok (.pointer (some ⟨b,off+k*sz,none⟩)) w:=by
  obtain ⟨el,hu,_,hs⟩:=elB.parts hf
  unfold Instr.indexAt
  have h1:(0:Int)≤(k:Int)∧(k:Int)<(n:Int):=⟨by omega,by omega⟩
  simp only [Sem.run_bind,asIntOf,Sem.run_pure,Result.andThen_ok,run_underlying hu,h1,and_self,if_true,hs,Int.toNat_natCast]
  rw [Go.WideShapes.add_plain]
theorem Amf {t sz:Nat} {x y:Operand} {l:List (List D)} {k:Nat} {ik:IntKind} {ds:List D} (ho:o.op= .indexAddr t x y) (hx:e x= .d (.sl sz l)) (hy:e y= .d (.v (.int ik k))) (hf:elB P t sz=true) (hk:l[k]? =some ds):A9 P o e h (.d (.pt ds)):=fun E H β ρ w _ hop=>by
  have g:=hop x (by rw [ho];simp [Op.operands])
  have g2:=hop y (by rw [ho];simp [Op.operands])
  rw [hx] at g
  rw [hy] at g2
  have hlt:=(List.getElem?_eq_some_iff.1 hk).1
  obtain ⟨A,c,h1,_,_,_,h2⟩:=Rl (D5 g)
  rcases h2 with rfl|⟨b,off,gv,rfl,hz,h3,h4⟩
  · simp at hk
  · refine ⟨_,by unfold execOp;simp only [ho,h1,Dn g2,Sem.run_bind,Oi hf hlt,Result.andThen_ok,Sem.run_pure], .d (.pt b (off+k*sz) _ (fun j=>gv k j) (fun j d hj=> ?_) (fun j d hj=>h4 k j ds d hk hj))⟩
    rw [Nat.add_assoc]
    exact h3 k j ds d hk hj
theorem Ajl {t sz:Nat} {x y:Operand} {i k:Nat} {ik:IntKind} {ty:TypeId} {l:List (List D)} (ho:o.op= .indexAddr t x y) (hx:e x= .own i) (hy:e y= .d (.v (.int ik k))) (hi:h i=some (.row ty sz l)) (hf:elB P t sz=true) (hk:k<l.length):A9 P o e h (.ptr i k 0):=fun E H β ρ w hsim hop=>by
  have g:=hop x (by rw [ho];simp [Op.operands])
  have g2:=hop y (by rw [ho];simp [Op.operands])
  rw [hx] at g
  rw [hy] at g2
  obtain ⟨L,h1,h2⟩:=Fa g
  obtain ⟨hsz,_,hvb,us,h3,_,_⟩:=hsim.obj i _ L hi h1
  obtain ⟨gb,cap,hLv,_,_⟩:=h3.form (by omega)
  have hg:=hvb gb (by rw [hLv];rfl)
  subst hg
  refine ⟨_,by unfold execOp;simp only [ho,h2,hLv,Dn g2,Sem.run_bind,Oi hf hk,Result.andThen_ok,Sem.run_pure];rfl, ?_⟩
  rw [Nat.zero_add]
  have:=VS.ptr (H:=H) k 0 h1
  rw [hsz,Nat.add_zero] at this
  exact this
theorem Oz {t:TypeId} {el:TypeId} {x:Operand} {ρ:Operand→Value} {A:Option Addr} {n c:Nat} (ho:o.op= .call {callee:= .builtin .len,args:= #[x],argTypes:= #[t]}) (hu:P.underlying t=some (.slice el)) (hx:ρ x= .slice A n c) (w:World):
    (execOp ρ o).run P w= .ok (.value (.int .i64 n)) w:=by
  unfold execOp
  simp only [ho,resolve,invoke,builtin,Sem.run_bind,Sem.run_pure,Result.andThen_ok,List.map_toArray,List.map_cons,List.map_nil,hx]
  unfold Builtin.len_
  simp only [List.getElem?_toArray,List.getElem?_cons_zero,Sem.run_bind,run_underlying hu,Result.andThen_ok,Sem.run_pure,goInt]
theorem Atn {t el:TypeId} {x:Operand} {sz:Nat} {l:List (List D)} (ho:o.op= .call {callee:= .builtin .len,args:= #[x],argTypes:= #[t]}) (hx:e x= .d (.sl sz l)) (hu:P.underlying t=some (.slice el)):A9 P o e h (.d (.v (.int .i64 (l.length:Nat)))):=fun E H β ρ w _ hop=>by
  have g:=hop x (by rw [ho];simp [Op.operands,Call.operands])
  rw [hx] at g
  obtain ⟨A,c,h1,_⟩:=Rl (D5 g)
  exact ⟨_,Oz ho hu h1 w, .d (.v _)⟩
theorem Ajk {t el:TypeId} {x:Operand} {i sz:Nat} {ty:TypeId} {l:List (List D)} (ho:o.op= .call {callee:= .builtin .len,args:= #[x],argTypes:= #[t]}) (hx:e x= .own i) (hi:h i=some (.row ty sz l)) (hu:P.underlying t=some (.slice el)):A9 P o e h (.d (.v (.int .i64 (l.length:Nat)))):=fun E H β ρ w hsim hop=>by
  have g:=hop x (by rw [ho];simp [Op.operands,Call.operands])
  rw [hx] at g
  obtain ⟨L,h1,h2⟩:=Fa g
  obtain ⟨_,_,_,us,h3,_,_⟩:=hsim.obj i _ L hi h1
  obtain ⟨A,c,h4,_⟩:=Il h3
  exact ⟨_,Oz ho hu (h2.trans h4) w, .d (.v _)⟩
theorem Wn {t el:TypeId} {x:Operand} (ho:o.op= .call {callee:= .builtin .len,args:= #[x],argTypes:= #[t]}) (hx:e x= .d (.v (.slice none 0 0))) (hu:P.underlying t=some (.slice el)):A9 P o e h (.d (.v (.int .i64 0))):=fun E H β ρ w _ hop=>by
  have g:=hop x (by rw [ho];simp [Op.operands,Call.operands])
  rw [hx] at g
  exact ⟨_,Oz ho hu (Dn g) w, .d (.v _)⟩
end
end Go.Proofs.YtaafemnkamfgnaaGreat
namespace Go.Proofs.YtaafemnkamfgnaaGreat
open Go.RowKit
def D.one:D→Bool
 | .v x=>x.oneCell'
 | .sl _ _=>true
 | .pt _=>true
 | .fn _ _ _=>true
 | .agg _=>false
 | .tup _=>false
theorem Uh {H:Hp} {u:Value} {d:D} (hv:VD H u d) (h1:d.one=true):u.oneCell'=true:=by
 cases hv<;>first|exact h1|rfl|cases h1
def Ej (h:Xh):S→Bool
 | .d x=>x.one
 | .ptr _ _ _=>true
 | .fn _ _ _=>true
 | .own i=>match h i with|some (.row _ _ _)=>true|some (.tree _ _ _ _)=>true|_=>false
 |_=>false
section
variable {E:Env} {H:Hp} {β:Bt} {h:Xh} {w:World}
theorem P3 (hs:Sim E H β h w) {u:Value} {s:S} (hv:VS H β u s) (h1:Ej h s=true):u.oneCell'=true:=by
 cases hv with
 |d hd=>exact Uh hd h1
 |ptr k off _=>rfl
 |fn=>rfl
 | @own i L hL=>
  unfold Ej at h1
  simp only at h1
  split at h1
  ·rename_i ty sz l hi
   obtain ⟨_,_,_,us,h3,_,_⟩:=hs.obj i _ L hi hL
   obtain ⟨A,c,h4,_⟩:=Il h3
   rw [h4];rfl
  ·rename_i ty sz ls l hi
   obtain ⟨_,_,_,ht⟩:=hs.obj i _ L hi hL
   obtain ⟨us,_,_,h3,_⟩:=H1 ht
   obtain ⟨A,c,h4,_⟩:=Il h3
   rw [h4];rfl
  ·cases h1
 |any=>cases h1
 |sub=>cases h1
 |agg=>cases h1
 |tup=>cases h1
def sets {α:Type} (l:List α) (off:Nat):List α→List α
 | []=>l
 |c::cs=>sets (l.set off c) (off+1) cs
theorem Add {α:Type} (cs:List α):∀(l:List α) (off:Nat),(sets l off cs).length=l.length:=by
 induction cs with
 |nil=>intro l off;rfl
 |cons c cs ih=>intro l off;simp [sets,ih]
theorem Xh.set_set (h:Xh) (i:Nat) (o o':XO):(h.set i o).set i o'=h.set i o':=by
 funext j
 by_cases e:i=j
 ·subst e;simp [Xh.set_same]
 ·rw [Xh.set_ne _ _ e,Xh.set_ne _ _ e,Xh.set_ne _ _ e]
theorem Xh.set_self {h:Xh} {i:Nat} {o:XO} (e:h i=some o):h.set i o=h:=by
 funext j
 by_cases e':i=j
 ·subst e';rw [Xh.set_same,e]
 ·rw [Xh.set_ne _ _ e']
theorem Sim.set_box (hs:Sim E H β h w) {i off:Nat} {l:List S} {L:Loc} (hi:h i=some (.box l)) (hL:β i=some L) (hoff:off<l.length) {u:Value} {s:S} (hu:VS H β u s):
  (w.cell? ⟨L.b,off,none⟩).isSome=true∧w.frozen? ⟨L.b,off,none⟩=false∧Sim E H β (h.set i (.box (l.set off s))) (w.setCell ⟨L.b,off,none⟩ u):=by
 obtain ⟨h1,h2,us,t,h3,h4,h5⟩:=hs.obj i _ L hi hL
 have hlt:off<us.size:=by omega
 refine ⟨by simp [World.cell?,h3,hlt],by simp [World.frozen?,h3],hs.turn hi hL rfl (hs.below.setCell h1 u) (fun b hb=>Below.heap_setCell _ _ _ _ (fun e=>hb (by simp [XO.blk,e]))) ?_⟩
 refine ⟨h1,by simpa using h2,us.setIfInBounds off u,t,heap_setCell_same w L.b off us t u h3,by simpa using h4,fun j x y hx hy=> ?_⟩
 by_cases e:off=j
 ·subst e
  rw [List.getElem?_set_self (by omega)] at hy
  rw [Array.getElem?_setIfInBounds_self_of_lt hlt] at hx
  cases hx;cases hy
  exact hu
 ·rw [List.getElem?_set_ne e] at hy
  rw [Array.getElem?_setIfInBounds_ne e] at hx
  exact h5 j x y hx hy
theorem Sim.set_row (hs:Sim E H β h w) {i k off:Nat} {ty:TypeId} {sz:Nat} {l:List (List D)} {y:List D} {L:Loc} (hi:h i=some (.row ty sz l)) (hL:β i=some L) (hk:l[k]? =some y) (hoff:off<y.length) {u:Value} {d:D} (hu:VD H u d) (h1:u.oneCell'=true):
  (w.cell? ⟨L.b,k*L.sz+off,none⟩).isSome=true∧w.frozen? ⟨L.b,k*L.sz+off,none⟩=false∧Sim E H β (h.set i (.row ty sz (l.set k (y.set off d)))) (w.setCell ⟨L.b,k*L.sz+off,none⟩ u):=by
 obtain ⟨hsz,hz,hvb,us,hown,hone,hcells⟩:=hs.obj i _ L hi hL
 have hkl:=(List.getElem?_eq_some_iff.1 hk).1
 have hyl:y.length=sz:=hz y (List.mem_of_getElem? hk)
 obtain ⟨g,cap,hLv,hbase,_⟩:=hown.form (by omega)
 have hg:=hvb g (by rw [hLv];rfl)
 subst hg
 obtain ⟨d0,hd0⟩:∃d0,y[off]? =some d0:=⟨_,List.getElem?_eq_getElem hoff⟩
 obtain ⟨u0,hc0,_⟩:=N0 hs hi hL hk hd0
 have hown':=hown
 rw [hLv] at hown'
 have hfr:w.frozen? ⟨L.b,k*L.sz+off,none⟩=false:=by
  rcases hown'.2 with ⟨e,_⟩|⟨g,cap',cur,e,_,hh,_⟩
  ·cases e
  ·injection e with e1
   injection e1 with e1
   injection e1 with e1
   subst e1
   simp [World.frozen?,hh]
 obtain ⟨h2,h3⟩:=hown'.stored (k*L.sz+off) u
 refine ⟨by simp [hc0],hfr,hs.turn hi hL rfl (hs.below.setCell hbase u) (fun b hb=>Below.heap_setCell _ _ _ _ (fun e=>hb (by simp [XO.blk,hLv,Value.ownBlock,e]))) ?_⟩
 refine ⟨hsz,fun x hx=> ?_,hvb,us.set (k*L.sz+off) u,by rw [hLv,List.length_set];exact h2,fun x hx=> ?_,fun k' j' x d' hx hd=> ?_⟩
 ·rcases List.mem_or_eq_of_mem_set hx with h|h
  ·exact hz x h
  ·subst h;simpa using hyl
 ·rcases List.mem_or_eq_of_mem_set hx with h|h
  ·exact hone x h
  ·subst h;exact h1
 ·have huslen:us.length=l.length*sz:=hown.1
  have hmul:(k+1)*sz≤l.length*sz:=Nat.mul_le_mul_right _ hkl
  rw [Nat.add_mul] at hmul
  by_cases ek:k=k'
  ·subst ek
   rw [List.getElem?_set_self hkl] at hx
   cases hx
   by_cases ej:off=j'
   ·subst ej
    rw [List.getElem?_set_self hoff] at hd
    cases hd
    exact ⟨u,by rw [hsz,List.getElem?_set_self (by omega)],hu⟩
   ·rw [List.getElem?_set_ne ej] at hd
    obtain ⟨v,hv,hd'⟩:=hcells k j' y d' hk hd
    exact ⟨v,by rw [hsz,List.getElem?_set_ne (by omega)];exact hv,hd'⟩
  ·rw [List.getElem?_set_ne ek] at hx
   obtain ⟨v,hv,hd'⟩:=hcells k' j' x d' hx hd
   have hj':j'<sz:=by have:=(List.getElem?_eq_some_iff.1 hd).1;rw [hz x (List.mem_of_getElem? hx)] at this;exact this
   refine ⟨v, ?_,hd'⟩
   rw [hsz,List.getElem?_set_ne ?_]
   ·exact hv
   ·intro e
    have:k=k':=by
     have h1:(k*sz+off) / sz=k:=by rw [Nat.mul_comm,Nat.mul_add_div (by omega),Nat.div_eq_of_lt (by omega)];rfl
     have h2:(k'*sz+j') / sz=k':=by rw [Nat.mul_comm,Nat.mul_add_div (by omega),Nat.div_eq_of_lt hj'];rfl
     rw [←h1, ←h2,e]
    exact ek this
theorem J9 {P:Program} {i off:Nat} {L:Loc} (hL:β i=some L):∀(vs:List Value) (ss:List S) (k:Nat) (l:List S) (h:Xh) (w:World),Sim E H β h w→h i=some (.box l)→vs.length=ss.length→(∀(j:Nat) (v:Value) (s:S),vs[j]? =some v→ss[j]? =some s→VS H β v s∧v.oneCell'=true)→
  off+k+vs.length≤l.length→∃w',(storeCells ⟨L.b,off,none⟩ vs k).run P w= .ok () w'∧Sim E H β (h.set i (.box (sets l (off+k) ss))) w'
 | [], [],k,l,h,w,hs,hi,_,_,_=>⟨w,rfl,by rw [sets,Xh.set_self hi];exact hs⟩
 |v::vs,s::ss,k,l,h,w,hs,hi,hlen,hv,hle=>by
  simp only [List.length_cons] at hle
  obtain ⟨g1,g2⟩:=hv 0 v s rfl rfl
  obtain ⟨c1,c2,c3⟩:=hs.set_box hi hL (off:=off+k) (by omega) g1
  obtain ⟨w',r1,r2⟩:=J9 (P:=P) (off:=off) hL vs ss (k+1) (l.set (off+k) s) _ _ c3 (Xh.set_same _ _ _) (by simpa using hlen) (fun j x y hx hy=>hv (j+1) x y hx hy) (by simp;omega)
  refine ⟨w', ?_,by rw [Xh.set_set] at r2;exact r2⟩
  obtain ⟨u0,hu0⟩:=Option.isSome_iff_exists.1 c1
  simp only [storeCells,Sem.run_bind]
  have hadd:(⟨L.b,off,none⟩:Addr).add k=⟨L.b,off+k,none⟩:=Go.WideShapes.add_plain _ _ _
  rw [hadd,run_store P w _ v _ g2,hu0]
  simp only [c2,Bool.false_eq_true,if_false,Result.andThen_ok]
  exact r1
theorem M4 {P:Program} {i k off:Nat} {ty:TypeId} {sz:Nat} {L:Loc} (hL:β i=some L):∀(vs:List Value) (ds:List D) (m:Nat) (l:List (List D)) (y:List D) (h:Xh) (w:World),Sim E H β h w→h i=some (.row ty sz l)→l[k]? =some y→vs.length=ds.length→
  (∀(j:Nat) (v:Value) (d:D),vs[j]? =some v→ds[j]? =some d→VD H v d∧v.oneCell'=true)→
  off+m+vs.length≤y.length→∃w',(storeCells ⟨L.b,k*L.sz+off,none⟩ vs m).run P w= .ok () w'∧Sim E H β (h.set i (.row ty sz (l.set k (sets y (off+m) ds)))) w'
 | [], [], m, l, y, h, w, hs, hi, hk, _, _, _ => ⟨w, rfl, by
   have:l.set k y=l:=List.ext_getElem? fun j=>by
    by_cases e:k=j
    ·subst e;rw [List.getElem?_set_self (List.getElem?_eq_some_iff.1 hk).1,hk]
    ·rw [List.getElem?_set_ne e]
   rw [sets, this, Xh.set_self hi]; exact hs⟩
 |v::vs,d::ds,m,l,y,h,w,hs,hi,hk,hlen,hv,hle=>by
  simp only [List.length_cons] at hle
  obtain ⟨g1,g2⟩:=hv 0 v d rfl rfl
  obtain ⟨c1,c2,c3⟩:=hs.set_row hi hL hk (off:=off+m) (by omega) g1 g2
  obtain ⟨w',r1,r2⟩:=M4 (P:=P) (k:=k) (off:=off) hL vs ds (m+1) (l.set k (y.set (off+m) d)) (y.set (off+m) d) _ _ c3 (Xh.set_same _ _ _) (List.getElem?_set_self (List.getElem?_eq_some_iff.1 hk).1) (by simpa using hlen) (fun j x z hx hy=>hv (j+1) x z hx hy) (by simp;omega)
  refine ⟨w', ?_,by rw [Xh.set_set,List.set_set] at r2;exact r2⟩
  obtain ⟨u0,hu0⟩:=Option.isSome_iff_exists.1 c1
  simp only [storeCells,Sem.run_bind]
  have hadd:(⟨L.b,k*L.sz+off,none⟩:Addr).add m=⟨L.b,k*L.sz+(off+m),none⟩:=by rw [Go.WideShapes.add_plain,Nat.add_assoc]
  rw [hadd,run_store P w _ v _ g2,hu0]
  simp only [c2,Bool.false_eq_true,if_false,Result.andThen_ok]
  exact r1
def Dv (h:Xh):S→Option (List S)
 | .agg l=>bif l.all (Ej h) then some l else none
 | .d (.agg l)=>bif l.all D.one then some (l.map S.d) else none
 |s=>bif Ej h s then some [s] else none
theorem Xo {v:Value} (hv:v.oneCell'=true):v.cells= #[v]:=by cases v<;>first|rfl|cases hv
theorem H8 (hs:Sim E H β h w) {u:Value} {s:S} {cs:List S} (hv:VS H β u s) (hc:Dv h s=some cs):u.cells.size=cs.length∧∀(j:Nat) (v:Value) (x:S),u.cells[j]? =some v→cs[j]? =some x→VS H β v x∧v.oneCell'=true:=by
 have base:Ej h s=true→cs= [s]→u.cells.size=cs.length∧∀(j:Nat) (v:Value) (x:S),u.cells[j]? =some v→cs[j]? =some x→VS H β v x∧v.oneCell'=true:=by
  intro h1 h2
  have h3:=P3 hs hv h1
  rw [Xo h3]
  subst h2
  refine ⟨rfl,fun j v x hj hx=> ?_⟩
  match j with
  |0=>simp at hj hx;subst hj hx;exact ⟨hv,h3⟩
  |j+1=>simp at hx
 have aux:(bif Ej h s then some [s] else none)=some cs→Ej h s=true∧cs= [s]:=by
  intro hh
  cases h1:Ej h s with
  |false=>rw [h1] at hh;cases hh
  |true=>rw [h1] at hh;cases hh;exact ⟨rfl,rfl⟩
 unfold Dv at hc
 split at hc
 ·rename_i l
  cases h1:l.all (Ej h) with
  |false=>rw [h1] at hc;cases hc
  |true=>
   rw [h1] at hc
   cases hc
   obtain ⟨xs,rfl,h2,h3⟩:=Yb hv
   refine ⟨h2,fun j v x hj hx=> ?_⟩
   have:=h3 j v x hj hx
   exact ⟨this,P3 hs this (List.all_eq_true.1 h1 x (List.mem_of_getElem? hx))⟩
 ·rename_i l
  cases h1:l.all D.one with
  |false=>rw [h1] at hc;cases hc
  |true=>
   rw [h1] at hc
   cases hc
   obtain ⟨xs,rfl,h2,h3⟩:=P4 (D5 hv)
   refine ⟨by rw [List.length_map];exact h2,fun j v x hj hx=> ?_⟩
   rw [List.getElem?_map] at hx
   cases hl:l[j]? with
   |none=>rw [hl] at hx;cases hx
   |some d=>
    rw [hl] at hx;cases hx
    have:=h3 j v d hj hl
    exact ⟨.d this,Uh this (List.all_eq_true.1 h1 d (List.mem_of_getElem? hl))⟩
 ·obtain ⟨h1,h2⟩:=aux hc
  exact base h1 h2
def I8:List S→Option (List D)
 | []=>some []
 | .d x::l=>match I8 l with|some ds=>some (x::ds)|none=>none
 |_::_=>none
theorem I7:∀{l:List S} {ds:List D},I8 l=some ds→l=ds.map S.d
 | [],ds,h=>by cases h;rfl
 | .d x::l,ds,h=>by
  unfold I8 at h
  cases hd:I8 l with
  |none=>rw [hd] at h;cases h
  |some ds'=>rw [hd] at h;cases h;rw [List.map_cons, ←I7 hd]
def norm:S→S
 | .agg l=>match I8 l with|some ds=> .d (.agg ds)|none=> .agg l
 |s=>s
theorem VS.norm {u:Value} {s:S} (hv:VS H β u s):VS H β u (norm s):=by
 unfold Go.Proofs.YtaafemnkamfgnaaGreat.norm
 split
 ·rename_i l
  split
  ·rename_i ds hd
   have:=I7 hd
   subst this
   obtain ⟨cs,rfl,h2,h3⟩:=Yb hv
   refine .d (.agg cs ds (by simpa using h2) fun i x d hx hd=> ?_)
   have:=h3 i x (.d d) hx (by rw [List.getElem?_map,hd];rfl)
   exact D5 this
  ·exact hv
 ·exact hv
end
def sizeB (P:Program) (t n:Nat):Bool:=match P.info? t with|some i=>Nat.beq i.size n|none=>false
theorem sizeB.run {P:Program} {t n:Nat} (hh:sizeB P t n=true) (w:World):(sizeOf t).run P w= .ok n w:=by
 unfold sizeB at hh
 split at hh
 ·rename_i i hi
  have:=Nat.eq_of_beq_eq_true hh
  subst this
  unfold sizeOf typeInfo
  simp [hi]
 ·cases hh
def zeroB (P:Program) (t:Nat) (z:Value):Prop:=(P.info? t).map (·.zero)=some (some z)
theorem zeroB.run {P:Program} {t:Nat} {z:Value} (hh:zeroB P t z) (w:World):(zeroValue t).run P w= .ok z w:=by
 unfold zeroB at hh
 cases hi:P.info? t with
 |none=>rw [hi] at hh;cases hh
 |some i=>
  rw [hi] at hh
  simp only [Option.map_some,Option.some.injEq] at hh
  unfold zeroValue typeInfo
  simp [hi,hh]
section
variable {P:Program} {n:Nat} {ops:Array Oper} {rest:List Oper} {K:Cu} {o:Oper} {f:Fr} {h:Xh}
theorem Aiz (i : Nat) (l : List S) (ho : ∀ E H β a w, Sim E H β h w → FV n H β a f → (∀ x ∈ o.op.operands, VS H β (a.eval x) (ev f x)) →
   ∃ (us : Array Value) (t : TypeId), (execOp a.eval o).run P w = .ok (.value (.pointer (some ⟨w.heap.size, 0, none⟩))) (w.alloc (.cells us t)) ∧ us.size = l.length ∧ ∀ (j : Nat) (u : Value) (s : S), us[j]? = some u → l[j]? = some s → VS H β u s) :
  Step P n o f h (.ptr i 0 0) (Dw f i) ((h.kill i).set i (.box (S.killL i l))):=by
 intro E H β a w hs hf hop
 obtain ⟨us,t,hr,hl,hv⟩:=ho E H β a w hs hf hop
 unfold Oper.wp
 rw [hr]
 refine ⟨H,β.set i (some ⟨.slice none 0 0,w.heap.size,l.length,noB⟩),_,rfl,hs.add i _ _ _ (fun b hb=>by simpa [XO.blk] using hb.symm) ?_,hf.kill i _, ?_⟩
 ·refine ⟨hs.size,(S.killL_length i l).symm,us,t,heap_alloc_new _ _,by rw [S.killL_length];exact hl,fun j u s hu hs'=> ?_⟩
  rw [S.killL_get] at hs'
  cases hj:l[j]? with
  |none=>rw [hj] at hs';cases hs'
  |some s0=>rw [hj] at hs';cases hs';exact (hv j u s0 hu hj).kill i _
 ·have:=VS.ptr (H:=H) (β:=β.set i (some ⟨.slice none 0 0,w.heap.size,l.length,noB⟩)) 0 0 (Bt.set_same β i _)
  rw [Nat.zero_mul,Nat.zero_add] at this
  exact this
theorem Aly (i:Nat) {t:TypeId} {z:Value} (ho:o.op= .alloc t) (hz:zeroB P t z):Step P n o f h (.ptr i 0 0) (Dw f i) ((h.kill i).set i (.box (S.killL i (z.cells.toList.map fun x=> .d (.v x))))):=
 Aiz i _ fun E H β a w _ _ _=>by
  refine ⟨z.cells,t, ?_,by simp,fun j u s hu hs=> ?_⟩
  ·unfold execOp
   simp only [ho,Instr.alloc,Sem.run_bind,zeroB.run hz,Result.andThen_ok,newVar,newRow,run_newObj,Sem.run_pure,World.alloc_eq]
  ·rw [List.getElem?_map,Array.getElem?_toList,hu] at hs
   cases hs
   exact .d (.v _)
theorem Arj (i:Nat) {t:TypeId} {x:Operand} {cs:List S} (ho:o.op= .box t x) (hc:Dv h (ev f x)=some cs):Step P n o f h (.ptr i 0 0) (Dw f i) ((h.kill i).set i (.box (S.killL i cs))):=
 Aiz i _ fun E H β a w hs _ hop=>by
  have g:=hop x (by rw [ho];simp [Op.operands])
  obtain ⟨h1,h2⟩:=H8 hs g hc
  refine ⟨(a.eval x).cells,t, ?_,h1,fun j u s hu hs=>(h2 j u s hu hs).1⟩
  unfold execOp
  simp only [ho,Instr.box,Sem.run_bind,Result.andThen_ok,newVar,newRow,run_newObj,Sem.run_pure,World.alloc_eq]
theorem Alx {t m:Nat} {x y:Operand} {i off:Nat} {l cs:List S} (ho:o.op= .store t x y) (hx:ev f x= .ptr i 0 off) (hi:h i=some (.box l)) (hc:Dv h (ev f y)=some cs) (hz:sizeB P t m=true) (hm:cs.length=m) (hoff:off+m≤l.length):
  Step P n o f h (.d (.v undef)) f (h.set i (.box (sets l off cs))):=by
 intro E H β a w hs hf hop
 have g1:=hop x (by rw [ho];simp [Op.operands])
 have g2:=hop y (by rw [ho];simp [Op.operands])
 rw [hx] at g1
 obtain ⟨L,hL,hp⟩:=Fm g1
 rw [Nat.zero_mul,Nat.zero_add] at hp
 obtain ⟨c1,c2⟩:=H8 hs g2 hc
 obtain ⟨w',r1,r2⟩:=J9 (P:=P) (off:=off) hL (a.eval y).cells.toList cs 0 l h w hs hi (by simpa using c1) (fun j v s hj hs'=>c2 j v s (by simpa using hj) hs') (by simp [c1,hm];exact hoff)
 have hr:(execOp a.eval o).run P w= .ok .skip w':=by
  unfold execOp
  simp only [ho,Instr.storeAt,hp,Instr.sureAddr,Sem.run_bind,Sem.run_pure,Result.andThen_ok,storeVar,sizeB.run hz,c1,hm,ne_eq,not_true_eq_false,if_false,r1]
 unfold Oper.wp
 rw [hr]
 exact ⟨H,β,_,rfl,r2,hf, .d (.v _)⟩
theorem D8 {t m:Nat} {x y:Operand} {i k off:Nat} {ty:TypeId} {sz:Nat} {l:List (List D)} {z:List D} {cs:List S} {ds:List D} (ho:o.op= .store t x y) (hx:ev f x= .ptr i k off) (hi:h i=some (.row ty sz l)) (hk:l[k]? =some z) (hc:Dv h (ev f y)=some cs) (hd:I8 cs=some ds)
  (hz:sizeB P t m=true) (hm:cs.length=m) (hoff:off+m≤z.length):
  Step P n o f h (.d (.v undef)) f (h.set i (.row ty sz (l.set k (sets z off ds)))):=by
 intro E H β a w hs hf hop
 have g1:=hop x (by rw [ho];simp [Op.operands])
 have g2:=hop y (by rw [ho];simp [Op.operands])
 rw [hx] at g1
 obtain ⟨L,hL,hp⟩:=Fm g1
 obtain ⟨c1,c2⟩:=H8 hs g2 hc
 have hds:=I7 hd
 subst hds
 rw [List.length_map] at c1 hm
 obtain ⟨w', r1, r2⟩ := M4 (P := P) (k := k) (off := off) hL (a.eval y).cells.toList ds 0 l z h w hs hi hk (by simpa using c1) (fun j v d hj hd' => by
  obtain ⟨e1,e2⟩:=c2 j v (.d d) (by simpa using hj) (by rw [List.getElem?_map,hd'];rfl)
  exact ⟨D5 e1, e2⟩) (by simp [c1, hm]; exact hoff)
 have hr:(execOp a.eval o).run P w= .ok .skip w':=by
  unfold execOp
  simp only [ho,Instr.storeAt,hp,Instr.sureAddr,Sem.run_bind,Sem.run_pure,Result.andThen_ok,storeVar,sizeB.run hz,c1,hm,ne_eq,not_true_eq_false,if_false,r1]
 unfold Oper.wp
 rw [hr]
 exact ⟨H,β,_,rfl,r2,hf, .d (.v _)⟩
end
end Go.Proofs.YtaafemnkamfgnaaGreat
namespace Go.Proofs.YtaafemnkamfgnaaGreat
open Go.RowKit
def CellsAt (H:Hp) (β:Bt) (xs:Array Value) (l:List S):Prop:=xs.size=l.length∧∀(j:Nat) (v:Value) (s:S),xs[j]? =some v→l[j]? =some s→VS H β v s
theorem CellsAt.set {H:Hp} {β:Bt} {xs:Array Value} {l:List S} (hc:CellsAt H β xs l) {off:Nat} {v:Value} {s:S} (hv:VS H β v s) (ho:off<l.length):CellsAt H β (xs.setIfInBounds off v) (l.set off s):=by
  refine ⟨by simpa using hc.1,fun j x y hx hy=> ?_⟩
  by_cases e:off=j
  · subst e
    rw [List.getElem?_set_self ho] at hy
    rw [Array.getElem?_setIfInBounds_self_of_lt (by rw [hc.1];exact ho)] at hx
    cases hx;cases hy
    exact hv
  · rw [List.getElem?_set_ne e] at hy
    rw [Array.getElem?_setIfInBounds_ne e] at hx
    exact hc.2 j x y hx hy
theorem CellsAt.sets {H:Hp} {β:Bt}:∀(vs:List Value) (ss:List S) (k off:Nat) (xs:Array Value) (l:List S),CellsAt H β xs l→vs.length=ss.length→(∀(j:Nat) (v:Value) (s:S),vs[j]? =some v→ss[j]? =some s→VS H β v s)→off+k+vs.length≤l.length→
    CellsAt H β ((vs.zipIdx k).foldl (fun cs (c,j)=>cs.setIfInBounds (off+j) c) xs) (sets l (off+k) ss)
  | [], [],k,off,xs,l,hc,_,_,_=>hc
  |v::vs,s::ss,k,off,xs,l,hc,hlen,hv,hle=>by
    simp only [List.length_cons] at hle hlen
    rw [List.zipIdx_cons,List.foldl_cons,Go.Proofs.YtaafemnkamfgnaaGreat.sets]
    exact CellsAt.sets vs ss (k+1) off _ _ (hc.set (hv 0 v s rfl rfl) (by omega)) (by omega) (fun j x y hx hy=>hv (j+1) x y hx hy) (by simp;omega)
def Kp (h:Xh) (place:Nat→Option (Nat × Nat)) (e:Operand→S) (cells:List S):List (Nat × Operand)→Option (List S)
  | []=>some cells
  |(i,x)::rest=>
    match place i with
    |none=>none
    |some (off,size)=>
      match Dv h (e x) with
      |none=>none
      |some cs=>bif Nat.beq cs.length size && Nat.ble (off+cs.length) cells.length then Kp h place e (sets cells off cs) rest else none
theorem J3 {E:Env} {H:Hp} {β:Bt} {h:Xh} {w:World} (hs:Sim E H β h w) {place:Nat→Option (Nat × Nat)} {e:Operand→S} {ρ:Operand→Value}:
    ∀(parts:List (Nat × Operand)) (cells r:List S) (xs:Array Value),CellsAt H β xs cells→(∀x∈parts.map (·.2),VS H β (ρ x) (e x))→Kp h place e cells parts=some r→
      ∃ys,Instr.fill place xs (parts.map fun (i,x)=>(i,ρ x))=some ys∧CellsAt H β ys r
  | [],cells,r,xs,hc,_,hf=>by cases hf;exact ⟨xs,rfl,hc⟩
  |(i,x)::rest,cells,r,xs,hc,hv,hf=>by
    unfold Kp at hf
    rw [List.map_cons]
    unfold Instr.fill
    cases hp:place i with
    |none=>rw [hp] at hf;cases hf
    |some q=>
      obtain ⟨off,size⟩:=q
      rw [hp] at hf
      simp only at hf ⊢
      cases hcs:Dv h (e x) with
      |none=>rw [hcs] at hf;cases hf
      |some cs=>
        rw [hcs] at hf
        simp only at hf
        obtain ⟨c1,c2⟩:=H8 hs (hv x (by simp)) hcs
        cases hb:Nat.beq cs.length size && Nat.ble (off+cs.length) cells.length with
        |false=>rw [hb] at hf;cases hf
        |true=>
          rw [hb] at hf
          rw [Bool.and_eq_true] at hb
          have h1:=Nat.eq_of_beq_eq_true hb.1
          have h2:=Nat.le_of_ble_eq_true hb.2
          have h3:((ρ x).cells.size≠size||decide (off+(ρ x).cells.size>xs.size))=false:=by
            rw [c1,hc.1,h1]
            simp;omega
          simp only [ne_eq,decide_not] at h3
          simp only [cond_true] at hf
          have key:=CellsAt.sets (ρ x).cells.toList cs 0 off xs cells hc (by simpa using c1) (fun j v s hj hs'=>(c2 j v s (by simpa using hj) hs').1) (by simp [c1];omega)
          obtain ⟨ys,y1,y2⟩:=J3 hs rest _ r _ key (fun y hy=>hv y (by simp at hy ⊢;exact .inr hy)) hf
          refine ⟨ys, ?_,y2⟩
          rw [←y1]
          simp only [ne_eq,decide_not,h3,Bool.false_eq_true,if_false]
          congr 1
          rw [←Array.foldl_toList]
          congr 1
          simp
def J7 (P:Program) (t:Nat) (pl:List (Nat × Nat)):Bool:=
  match P.underlying t with
  |some (.struct fs)=>decide (fs.toList.map (fun f=>(f.offset,(match P.info? f.type with|some i=>i.size|none=>0)))=pl) && fs.toList.all fun f=>(P.info? f.type).isSome
  |_=>false
theorem Ag8 {P:Program} {fs:List Field} (hall:fs.all (fun f=>(P.info? f.type).isSome)=true) (w:World):
    ((fs.mapM fun f=>do pure (f.offset, ←sizeOf f.type):Sem (List (Nat × Nat)))).run P w= .ok (fs.map (fun f=>(f.offset,(match P.info? f.type with|some i=>i.size|none=>0)))) w:=by
  induction fs with
  |nil=>rfl
  |cons f fs ih=>
    rw [List.all_cons,Bool.and_eq_true] at hall
    obtain ⟨i,hi⟩:=Option.isSome_iff_exists.1 hall.1
    rw [List.mapM_cons]
    simp only [Sem.run_bind,sizeOf,typeInfo,run_program,Result.andThen_ok,hi,Sem.run_pure,List.map_cons]
    have:=ih hall.2
    simp only [sizeOf,typeInfo] at this
    rw [this]
    rfl
section
variable {P:Program} {o:Oper} {e:Operand→S} {h:Xh}
theorem Ac {s:S} (hp:A9 P o e h s):A9 P o e h (norm s):=fun E H β ρ w hs hop=>by
  obtain ⟨u,h1,h2⟩:=hp E H β ρ w hs hop
  exact ⟨u,h1,h2.norm⟩
theorem Ae {s s':S} (hp:A9 P o e h s) (hs:s=s'):A9 P o e h s':=by subst hs;exact hp
theorem A4 {t:TypeId} {parts:Array (Nat × Operand)} {pl:List (Nat × Nat)} {z:Value} {r:List S} (ho:o.op= .build t parts) (ht:J7 P t pl=true) (hz:zeroB P t z) (hr:Kp h (pl[·]?) e (z.cells.toList.map fun x=> .d (.v x)) parts.toList=some r):
    A9 P o e h (.agg r):=fun E H β ρ w hs hop=>by
  unfold J7 at ht
  split at ht
  · rename_i fs hu
    rw [Bool.and_eq_true,decide_eq_true_eq] at ht
    obtain ⟨ht1,ht2⟩:=ht
    have hc0 : CellsAt H β z.cells (z.cells.toList.map fun x => .d (.v x)) := ⟨by simp, fun j v s hj hs' => by
      rw [List.getElem?_map,Array.getElem?_toList,hj] at hs'
      cases hs'
      exact .d (.v _)⟩
    obtain ⟨ys,y1,y2⟩:=J3 hs (ρ:=ρ) parts.toList _ r z.cells hc0 (fun x hx=>hop x (by rw [ho];simpa [Op.operands] using hx)) hr
    refine ⟨.agg ys, ?_, .agg ys r y2.1 y2.2⟩
    have hpl:(fs.mapM (fun f=>do pure (f.offset, ←sizeOf f.type)):Sem (Array (Nat × Nat))).run P w= .ok pl.toArray w:=by
      rw [Array.mapM_eq_mapM_toList]
      simp only [Sem.run_map,Ag8 ht2 w,Result.andThen_ok,ht1]
    have hfl:(parts.map fun (i,x)=>(i,ρ x)).toList=parts.toList.map fun (i,x)=>(i,ρ x):=by simp
    unfold execOp
    simp only [ho,Instr.build,Sem.run_bind,zeroB.run hz,Result.andThen_ok,run_underlying hu,hpl,hfl,List.getElem?_toArray,y1,Sem.run_pure]
  · cases ht
theorem Ame {t m k:Nat} {x y:Operand} {l:List D} {d:D} {el:TypeId} {ik:IntKind} (ho:o.op= .index t x y) (hx:e x= .d (.agg l)) (hy:e y= .d (.v (.int ik k))) (hu:P.underlying t=some (.array m el)) (hs:scB P el=true) (h1:sizeB P el 1=true) (hk:k<m) (hd:l[k]? =some d):A9 P o e h (.d d):=fun E H β ρ w _ hop=>by
  have g:=hop x (by rw [ho];simp [Op.operands])
  have g2:=hop y (by rw [ho];simp [Op.operands])
  rw [hx] at g
  rw [hy] at g2
  obtain ⟨cs,e1,e2,e3⟩:=P4 (D5 g)
  have hi:k<cs.size:=by rw [e2];exact (List.getElem?_eq_some_iff.1 hd).1
  have hc:cs[k]? =some cs[k]:=Array.getElem?_eq_getElem hi
  refine ⟨cs[k], ?_, .d (e3 k _ d hc hd)⟩
  have hlt:(0:Int)≤(k:Int)∧(k:Int)<(m:Int):=⟨by omega,by omega⟩
  unfold execOp
  simp only [ho,e1,Dn g2,Instr.index,asIntOf,Sem.run_bind,run_underlying hu,Result.andThen_ok,Sem.run_pure,hlt,and_self,if_true,sizeB.run h1,Int.toNat_natCast,Nat.mul_one,part,scB.isAgg hs,Bool.false_eq_true,if_false,hc]
theorem Ajn {t k:Nat} {x y:Operand} {s:ByteArray} {b:UInt8} {ik:IntKind} (ho:o.op= .index t x y) (hx:e x= .d (.v (.string s))) (hy:e y= .d (.v (.int ik k))) (hu:P.underlying t=some .string) (hd:s[k]? =some b):A9 P o e h (.d (.v (.int .u8 b.toNat))):=fun E H β ρ w _ hop=>by
  have g:=hop x (by rw [ho];simp [Op.operands])
  have g2:=hop y (by rw [ho];simp [Op.operands])
  rw [hx] at g
  rw [hy] at g2
  refine ⟨_, ?_, .d (.v (.int .u8 b.toNat))⟩
  have hlt:(0:Int)≤(k:Int):=by omega
  unfold execOp
  simp only [ho,Dn g,Dn g2,Instr.index,asIntOf,Sem.run_bind,run_underlying hu,Result.andThen_ok,Sem.run_pure,hlt,if_true,Int.toNat_natCast,hd]
theorem Lm {t:TypeId} {x:Operand} {s:ByteArray} (ho:o.op= .call {callee:= .builtin .len,args:= #[x],argTypes:= #[t]}) (hx:e x= .d (.v (.string s))) (hu:P.underlying t=some .string):A9 P o e h (.d (.v (.int .i64 (s.size:Nat)))):=fun E H β ρ w _ hop=>by
  have g:=hop x (by rw [ho];simp [Op.operands,Call.operands])
  rw [hx] at g
  refine ⟨_, ?_, .d (.v (.int .i64 (s.size:Nat)))⟩
  unfold execOp
  simp only [ho,resolve,invoke,builtin,Sem.run_bind,Sem.run_pure,Result.andThen_ok,List.map_toArray,List.map_cons,List.map_nil,Dn g]
  unfold Builtin.len_
  simp only [List.getElem?_toArray,List.getElem?_cons_zero,Sem.run_bind,run_underlying hu,Result.andThen_ok,Sem.run_pure,goInt]
theorem Ar2 {F:FuncId} {ps cs:Array Operand} (ho:o.op= .makeFunc (.func F) ps cs):A9 P o e h (.fn F (ps.toList.map e) (cs.toList.map e)):=fun E H β ρ w _ hop=>by
  refine ⟨.func (.func F) (ps.map ρ) (cs.map ρ),by unfold execOp;simp only [ho,Instr.makeFunc,Sem.run_bind,Sem.run_pure,Result.andThen_ok], .fn F _ _ _ _ (by simp) (by simp) (fun i x s hx hs=> ?_) (fun i x s hx hs=> ?_)⟩
  · rw [Array.getElem?_map] at hx
    rw [List.getElem?_map,Array.getElem?_toList] at hs
    cases hp:ps[i]? with
    |none=>rw [hp] at hx;cases hx
    |some y=>
      rw [hp] at hx hs
      cases hx;cases hs
      exact hop y (by rw [ho];simp [Op.operands,Array.mem_of_getElem? hp])
  · rw [Array.getElem?_map] at hx
    rw [List.getElem?_map,Array.getElem?_toList] at hs
    cases hp:cs[i]? with
    |none=>rw [hp] at hx;cases hx
    |some y=>
      rw [hp] at hx hs
      cases hx;cases hs
      exact hop y (by rw [ho];simp [Op.operands,Array.mem_of_getElem? hp])
theorem Ph {F:FuncId} {ps cs:Array Operand} {pd cd:List D} (ho:o.op= .makeFunc (.func F) ps cs) (h1:ps.toList.map e=pd.map S.d) (h2:cs.toList.map e=cd.map S.d):A9 P o e h (.d (.fn F pd cd)):=fun E H β ρ w hs hop=>by
  obtain ⟨u,r1,r2⟩:=Ar2 (P:=P) (h:=h) ho E H β ρ w hs hop
  refine ⟨u,r1, ?_⟩
  obtain ⟨A,C,rfl,a1,a2,a3,a4⟩:=Xw r2
  rw [h1] at a1 a3
  rw [h2] at a2 a4
  exact .d (.fn F A C pd cd (by simpa using a1) (by simpa using a2) (fun i x d hx hd=>D5 (a3 i x (.d d) hx (by rw [List.getElem?_map,hd];rfl))) (fun i x d hx hd=>D5 (a4 i x (.d d) hx (by rw [List.getElem?_map,hd];rfl))))
theorem Mj (lo hi:Option Value) (n c a b:Nat) (h1:(lo=none∧a=0)∨∃k:IntKind,lo=some (.int k a)) (h2:(hi=none∧b=n)∨∃k:IntKind,hi=some (.int k b)) (hab:a≤b) (hb:b≤c) (w:World):
    (Instr.sliceBounds true n c lo hi none).run P w= .ok (a,b,c) w:=by
  have hb':(0:Int)≤(b:Int)∧(b:Int)≤(c:Int):=⟨by omega,by omega⟩
  have ha':(0:Int)≤(a:Int)∧(a:Int)≤(b:Int):=⟨by omega,by omega⟩
  unfold Instr.sliceBounds
  rcases h2 with ⟨rfl,rfl⟩|⟨k2,rfl⟩
  · rcases h1 with ⟨rfl,rfl⟩|⟨k1,rfl⟩
    · rfl
    · simp only [Sem.run_bind,Sem.run_pure,Result.andThen_ok,Instr.sliceBound,asIntOf,ha',and_self,if_true,Int.toNat_natCast]
  · rcases h1 with ⟨rfl,rfl⟩|⟨k1,rfl⟩
    · simp only [Sem.run_bind,Sem.run_pure,Result.andThen_ok,Instr.sliceBound,asIntOf,hb',and_self,if_true,Int.toNat_natCast]
    · simp only [Sem.run_bind,Sem.run_pure,Result.andThen_ok,Instr.sliceBound,asIntOf,hb',ha',and_self,if_true,Int.toNat_natCast]
def Bd (e:Operand→S) (x:Option Operand) (dflt a:Nat):Prop:=(x=none∧a=dflt)∨∃(y:Operand) (k:IntKind),x=some y∧e y= .d (.v (.int k a))
theorem Bd.no {e:Operand→S} {a:Nat}:Bd e none a a:= .inl ⟨rfl,rfl⟩
theorem Bd.at {e:Operand→S} {y:Operand} {k:IntKind} {a dflt:Nat} (h:e y= .d (.v (.int k a))):Bd e (some y) dflt a:= .inr ⟨y,k,rfl,h⟩
theorem Bd.val {e:Operand→S} {x:Option Operand} {dflt a:Nat} (hb:Bd e x dflt a) {H:Hp} {β:Bt} {ρ:Operand→Value} (hv:∀y,x=some y→VS H β (ρ y) (e y)):(x.map ρ=none∧a=dflt)∨∃k:IntKind,x.map ρ=some (.int k a):=by
  rcases hb with ⟨rfl,h⟩|⟨y,k,rfl,h⟩
  · exact .inl ⟨rfl,h⟩
  · have:=hv y rfl
    rw [h] at this
    exact .inr ⟨k,by rw [Option.map_some,Dn this]⟩
theorem Apx {t sz:Nat} {x:Operand} {lo hi:Option Operand} {l:List (List D)} {a b:Nat} (ho:o.op= .slice t x lo hi none) (hx:e x= .d (.sl sz l)) (hf:elB P t sz=true)
    (hlo:Bd e lo 0 a) (hhi:Bd e hi l.length b) (hab:a≤b) (hb:b≤l.length):
    A9 P o e h (.d (.sl sz ((l.take b).drop a))):=fun E H β ρ w _ hop=>by
  have g:=hop x (by rw [ho];simp [Op.operands])
  rw [hx] at g
  obtain ⟨el,hu,hpos,hsz⟩:=elB.parts hf
  obtain ⟨A,c,h1,h2,h3,h4,h5⟩:=Rl (D5 g)
  have hbounds:(Instr.sliceBounds true l.length c (lo.map ρ) (hi.map ρ) none).run P w= .ok (a,b,c) w:=
    Mj _ _ _ _ _ _ (hlo.val fun y hy=>hop y (by rw [ho,hy];simp [Op.operands])) (hhi.val fun y hy=>hop y (by rw [ho,hy];simp [Op.operands])) hab (by omega) w
  have hrun:(execOp ρ o).run P w= .ok (.value (.slice (if c=a then A else A.map (·.add (a*sz))) (b - a) (c - a))) w:=by
    unfold execOp
    simp only [ho,h1,Instr.sliceAt,Option.map_none,Sem.run_bind,run_underlying hu,Result.andThen_ok,Instr.slice,hbounds,hsz,Sem.run_pure]
  refine ⟨_,hrun, .d ?_⟩
  have hlen:((l.take b).drop a).length=b - a:=by simp;omega
  by_cases hz:b - a=0
  · have hnil:(l.take b).drop a= []:=List.eq_nil_of_length_eq_zero (by omega)
    rw [hnil,hz]
    refine .emp _ _ _ (fun hA=> ?_) (by omega)
    split at hA
    · omega
    · have:A=none:=by cases A<;>first|rfl|cases hA
      have:=h4 this
      omega
  · rcases h5 with rfl|⟨bl,off,gv,rfl,k1,k2,k3⟩
    · simp at hb;omega
    · have hca:¬c=a:=by omega
      rw [if_neg hca]
      have hadd:(some (⟨bl,off,none⟩:Addr)).map (·.add (a*sz))=some ⟨bl,off+a*sz,none⟩:=by rw [Option.map_some,Go.WideShapes.add_plain]
      rw [hadd]
      have hget:∀k x,((l.take b).drop a)[k]? =some x→l[a+k]? =some x:=by
        intro k x hk
        rw [List.getElem?_drop,List.getElem?_take] at hk
        split at hk
        · exact hk
        · cases hk
      refine .sl bl (off+a*sz) (b - a) (c - a) sz _ (fun k j=>gv (a+k) j) hlen.symm (by omega) (by omega) (fun x hx=>k1 x (List.mem_of_mem_take (List.mem_of_mem_drop hx))) (fun k j x d hk hj=> ?_) (fun k j x d hk hj=> ?_)
      · have:=k2 (a+k) j x d (hget k x hk) hj
        rw [←this]
        congr 1
        rw [Nat.add_mul]
        omega
      · exact k3 (a+k) j x d (hget k x hk) hj
theorem F4 {t1 t2:TypeId} {x y:Operand} {a b:Int} (ho:o.op= .call {callee:= .builtin .min,args:= #[x,y],argTypes:= #[t1,t2]}) (hx:e x= .d (.v (.int .i64 a))) (hy:e y= .d (.v (.int .i64 b))):A9 P o e h (.d (.v (.int .i64 (min a b)))):=fun E H β ρ w _ hop=>by
  have g:=hop x (by rw [ho];simp [Op.operands,Call.operands])
  have g2:=hop y (by rw [ho];simp [Op.operands,Call.operands])
  rw [hx] at g
  rw [hy] at g2
  refine ⟨_, ?_, .d (.v (.int .i64 (min a b)))⟩
  have:(if b<a then b else a)=min a b:=by rw [Int.min_def];split<;>split<;>omega
  unfold execOp
  simp only [ho,resolve,invoke,builtin,Sem.run_bind,Sem.run_pure,Result.andThen_ok,List.map_toArray,List.map_cons,List.map_nil,Dn g,Dn g2,Builtin.min_,List.foldlM_cons,List.foldlM_nil,Builtin.min2,this]
theorem Rp {t1 t2:TypeId} {x y:Operand} {a b:Int} (ho:o.op= .call {callee:= .builtin .max,args:= #[x,y],argTypes:= #[t1,t2]}) (hx:e x= .d (.v (.int .i64 a))) (hy:e y= .d (.v (.int .i64 b))):A9 P o e h (.d (.v (.int .i64 (max a b)))):=fun E H β ρ w _ hop=>by
  have g:=hop x (by rw [ho];simp [Op.operands,Call.operands])
  have g2:=hop y (by rw [ho];simp [Op.operands,Call.operands])
  rw [hx] at g
  rw [hy] at g2
  refine ⟨_, ?_, .d (.v (.int .i64 (max a b)))⟩
  have:(if b>a then b else a)=max a b:=by rw [Int.max_def];split<;>split<;>omega
  unfold execOp
  simp only [ho,resolve,invoke,builtin,Sem.run_bind,Sem.run_pure,Result.andThen_ok,List.map_toArray,List.map_cons,List.map_nil,Dn g,Dn g2,Builtin.max_,List.foldlM_cons,List.foldlM_nil,Builtin.max2,this]
end
end Go.Proofs.YtaafemnkamfgnaaGreat
namespace Go.Proofs.YtaafemnkamfgnaaGreat
open Go.RowKit
theorem J1 {α:Type}:∀(cs l:List α) (off:Nat),off+cs.length≤l.length→sets l off cs=l.take off++cs++l.drop (off+cs.length)
  | [],l,off,_=>by simp [sets]
  |c::cs,l,off,h=>by
    simp only [List.length_cons] at h
    rw [sets,J1 cs _ _ (by simp;omega)]
    have h1:(l.set off c).take (off+1)=l.take off++ [c]:=by
      rw [List.take_add_one,List.take_set_of_le (by omega),List.getElem?_set_self (by omega)]
      rfl
    have h2:(l.set off c).drop (off+1+cs.length)=l.drop (off+(cs.length+1)):=by
      rw [List.drop_set_of_lt (by omega)]
      congr 1
      omega
    rw [h1,h2]
    simp
theorem Fi {α:Type} {sz:Nat}:∀{l:List (List α)},(∀x∈l,x.length=sz)→l.flatten.length=l.length*sz
  | [],_=>by simp
  |x::l,h=>by
    rw [List.flatten_cons,List.length_append,Fi (fun y hy=>h y (by simp [hy])),h x (by simp),List.length_cons,Nat.add_mul]
    omega
theorem Ol {α:Type} {sz:Nat}:∀{l:List (List α)},(∀x∈l,x.length=sz)→∀{k j:Nat} {x:List α} {d:α},l[k]? =some x→x[j]? =some d→l.flatten[k*sz+j]? =some d
  | [],_,k,j,x,d,hk,_=>by simp at hk
  |y::l,h,0,j,x,d,hk,hj=>by
    simp at hk
    subst hk
    rw [List.flatten_cons,Nat.zero_mul,Nat.zero_add,List.getElem?_append_left (List.getElem?_eq_some_iff.1 hj).1]
    exact hj
  |y::l,h,k+1,j,x,d,hk,hj=>by
    have hy:=h y (by simp)
    rw [List.flatten_cons,Nat.add_mul,Nat.one_mul,List.getElem?_append_right (by omega),hy]
    have:k*sz+sz+j - sz=k*sz+j:=by omega
    rw [this]
    exact Ol (fun z hz=>h z (by simp [hz])) (by simpa using hk) hj
theorem Xp {h:Xh} {s:S} {cs:List S} (hc:Dv h s=some cs):∀x∈cs,Ej h x=true:=by
  unfold Dv at hc
  split at hc
  · rename_i l
    cases h1:l.all (Ej h) with
    |false=>rw [h1] at hc;cases hc
    |true=>rw [h1] at hc;cases hc;exact fun x hx=>List.all_eq_true.1 h1 x hx
  · rename_i l
    cases h1:l.all D.one with
    |false=>rw [h1] at hc;cases hc
    |true=>
      rw [h1] at hc
      cases hc
      intro x hx
      obtain ⟨d,hd,rfl⟩:=List.mem_map.1 hx
      exact List.all_eq_true.1 h1 d hd
  · cases h1:Ej h s with
    |false=>rw [h1] at hc;cases hc
    |true=>
      rw [h1] at hc
      cases hc
      intro x hx
      simp at hx
      subst hx
      exact h1
def F9 (h:Xh) (e:Operand→S) (sz:Nat):List (Nat × Operand)→Option (List (List D))
  | []=>some []
  |(_,x)::rest=>
    match Dv h (e x) with
    |none=>none
    |some cs=>
      match I8 cs with
      |none=>none
      |some ds=>
        match F9 h e sz rest with
        |none=>none
        |some l=>bif Nat.beq ds.length sz then some (ds::l) else none
theorem Of {h:Xh} {e:Operand→S} {sz:Nat}:∀(parts:List (Nat × Operand)) (l:List (List D)) (k:Nat) (cells:List S),F9 h e sz parts=some l→parts.map (·.1)=List.range' k parts.length→cells.length=(k+parts.length)*sz→
    (∀x∈l,x.length=sz)∧l.length=parts.length∧Kp h (fun i=>some (i*sz,sz)) e cells parts=some (cells.take (k*sz)++l.flatten.map S.d)
  | [],l,k,cells,h1,_,h3=>by
    cases h1
    refine ⟨(fun x hx=>by cases hx),rfl, ?_⟩
    simp only [List.length_nil,Nat.add_zero] at h3
    simp [Kp, ←h3]
  |(i,x)::rest,l,k,cells,h1,h2,h3=>by
    unfold F9 at h1
    cases hc:Dv h (e x) with
    |none=>rw [hc] at h1;cases h1
    |some cs=>
      rw [hc] at h1
      simp only at h1
      cases hd:I8 cs with
      |none=>rw [hd] at h1;cases h1
      |some ds=>
        rw [hd] at h1
        simp only at h1
        cases hr:F9 h e sz rest with
        |none=>rw [hr] at h1;cases h1
        |some l'=>
          rw [hr] at h1
          simp only at h1
          cases hb:Nat.beq ds.length sz with
          |false=>rw [hb] at h1;cases h1
          |true=>
            rw [hb] at h1
            cases h1
            have hds:=Nat.eq_of_beq_eq_true hb
            have hcs:=I7 hd
            simp only [List.map_cons,List.length_cons,List.range'_succ,List.cons.injEq] at h2
            obtain ⟨rfl,h2⟩:=h2
            simp only [List.length_cons] at h3
            have hcl:cs.length=sz:=by rw [hcs,List.length_map];exact hds
            have hm:(i+(rest.length+1))*sz=i*sz+sz+rest.length*sz:=by rw [Nat.add_mul,Nat.add_mul];omega
            have hle:i*sz+cs.length≤cells.length:=by rw [h3,hm];omega
            obtain ⟨r1,r2,r3⟩:=Of rest l' (i+1) (sets cells (i*sz) cs) hr h2 (by rw [Add,h3];congr 1;omega)
            refine ⟨fun y hy=> ?_,by simp [r2], ?_⟩
            · rcases List.mem_cons.1 hy with rfl|hy
              · exact hds
              · exact r1 y hy
            · unfold Kp
              simp only [hc,hcl,Nat.beq_refl,Bool.true_and]
              have:Nat.ble (i*sz+sz) cells.length=true:=Nat.ble_eq_true_of_le (by omega)
              rw [this,cond_true,r3,J1 _ _ _ hle]
              have e1:((cells.take (i*sz)++cs++cells.drop (i*sz+cs.length)).take ((i+1)*sz))=cells.take (i*sz)++cs:=by
                rw [List.take_append_of_le_length (by simp;rw [Nat.add_mul];omega)]
                exact List.take_of_length_le (by simp;rw [Nat.add_mul];omega)
              rw [e1,hcs]
              simp
section
variable {E:Env} {H:Hp} {β:Bt} {h:Xh} {w w':World}
theorem Sim.add_row (hs:Sim E H β h w) (i:Nat) {ty:TypeId} {sz cap:Nat} {l:List (List D)} (cur:Array Value) (hz:∀x∈l,x.length=sz) (hn:l.length≤cap) (hm:cap≤maxLen) (hcur:cur.size=cap*sz) (hone:∀u∈cur,u.oneCell'=true)
    (hv:∀(k j:Nat) (x:List D) (d:D),l[k]? =some x→x[j]? =some d→∃u,cur[k*sz+j]? =some u∧VD H u d):
    Sim E H (β.set i (some ⟨.slice (some ⟨w.heap.size,0,none⟩) l.length cap,w.heap.size,sz,noB⟩)) ((h.kill i).set i (.row ty sz l)) (w.alloc (.cells cur ty)):=by
  have hle:l.length*sz≤cap*sz:=Nat.mul_le_mul_right _ hn
  refine hs.add i _ _ _ (fun b hb=>by simpa [XO.blk,Value.ownBlock] using hb.symm) ⟨rfl,hz,fun b hb=>by simpa [Value.ownBlock] using hb.symm,cur.toList.take (l.length*sz),⟨by rw [List.length_take];exact Nat.min_eq_left (by rw [show cur.toList.length=cur.size from rfl,hcur];exact hle), .inr ⟨w.heap.size,cap,cur,rfl,hs.size,heap_alloc_new w _,hn,hm,hcur,rfl⟩⟩,fun u hu=>hone u (by simpa using List.mem_of_mem_take hu),fun k j x d hk hj=> ?_⟩
  obtain ⟨u,hu,hd⟩:=hv k j x d hk hj
  refine ⟨u, ?_,hd⟩
  have hkl:=(List.getElem?_eq_some_iff.1 hk).1
  have hjl:=(List.getElem?_eq_some_iff.1 hj).1
  rw [hz x (List.mem_of_getElem? hk)] at hjl
  have:(k+1)*sz≤l.length*sz:=Nat.mul_le_mul_right _ hkl
  rw [Nat.add_mul] at this
  rw [List.getElem?_take,if_pos (by omega),Array.getElem?_toList]
  exact hu
theorem M8 (H:Hp) (β:Bt) (i:Nat) (L:Loc):VS H (β.set i (some L)) L.v (.own i):= .own (Bt.set_same β i _)
def Src (h:Xh) (s:S) (sz:Nat) (l:List (List D)):Prop:=
  ∀E H β w u,Sim E H β h w→VS H β u s→(∀x∈l,x.length=sz)∧∃A c news,u= .slice A l.length c∧news.length=l.length*sz∧Rds w w.heap.size A news∧(∀v∈news,v.oneCell'=true)∧
    ∀(k j:Nat) (x:List D) (d:D),l[k]? =some x→x[j]? =some d→∃v,news[k*sz+j]? =some v∧VD H v d
theorem Src.sl {sz:Nat} {l:List (List D)} (hpos:0<sz):Src h (.d (.sl sz l)) sz l:=by
  intro E H β w u hs hv
  obtain ⟨A,c,h1,h2,h3,h4,h5⟩:=Rl (D5 hv)
  rcases h5 with rfl|⟨b,off,g,rfl,k1,k2,k3⟩
  · exact ⟨(fun x hx=>by cases hx),A,c, [],h1,by simp, .inl rfl,(fun v hv=>by cases hv),(fun k j x d hk=>by simp at hk)⟩
  · have hq:∀q,q<l.length*sz→∃d x,l[q / sz]? =some x∧x[q % sz]? =some d:=by
      intro q hq
      have hk:q / sz<l.length:=Nat.div_lt_of_lt_mul (by rw [Nat.mul_comm];exact hq)
      have hj:q % sz<sz:=Nat.mod_lt _ hpos
      have hx:l[q / sz]? =some l[q / sz]:=List.getElem?_eq_getElem hk
      have hl:=k1 _ (List.mem_of_getElem? hx)
      exact ⟨_,_,hx,List.getElem?_eq_getElem (by omega)⟩
    have hqq:∀q,q / sz*sz+q % sz=q:=fun q=>by rw [Nat.mul_comm];exact Nat.div_add_mod q sz
    have hnews:∀q v,((List.range (l.length*sz)).map fun q=>g (q / sz) (q % sz))[q]? =some v→H b (off+q)=some v:=by
      intro q v hqv
      rw [List.getElem?_map] at hqv
      by_cases hlt:q<l.length*sz
      · rw [List.getElem?_range hlt] at hqv
        cases hqv
        obtain ⟨d,x,hx,hd⟩:=hq q hlt
        have:=k2 _ _ x d hx hd
        rw [hqq] at this
        exact this
      · rw [List.getElem?_eq_none (by simpa using hlt)] at hqv;cases hqv
    refine ⟨k1,some ⟨b,off,none⟩,c,(List.range (l.length*sz)).map fun q=>g (q / sz) (q % sz),h1,by simp, ?_,fun v hv'=> ?_,fun k j x d hk hj=> ?_⟩
    · by_cases h0:l.length*sz=0
      · left;rw [h0];rfl
      · right
        obtain ⟨d,x,hx,hd⟩:=hq 0 (by omega)
        exact ⟨b,off,rfl,hs.imm.lt (hnews 0 _ (by rw [List.getElem?_map,List.getElem?_range (by omega)];rfl)),fun j u hu=>(hs.imm _ _ _ (hnews j u hu)).1⟩
    · obtain ⟨q,hqv⟩:=List.getElem?_of_mem hv'
      exact (hs.imm _ _ _ (hnews q v hqv)).2
    · have hkl:=(List.getElem?_eq_some_iff.1 hk).1
      have hjl:=(List.getElem?_eq_some_iff.1 hj).1
      rw [k1 x (List.mem_of_getElem? hk)] at hjl
      have:(k+1)*sz≤l.length*sz:=Nat.mul_le_mul_right _ hkl
      rw [Nat.add_mul] at this
      have e1:(k*sz+j) / sz=k:=by rw [Nat.mul_comm,Nat.mul_add_div hpos,Nat.div_eq_of_lt hjl];rfl
      have e2:(k*sz+j) % sz=j:=by rw [Nat.mul_comm,Nat.mul_add_mod,Nat.mod_eq_of_lt hjl]
      refine ⟨g k j, ?_,k3 k j x d hk hj⟩
      rw [List.getElem?_map,List.getElem?_range (by omega),Option.map_some,e1,e2]
theorem Src.own {i sz:Nat} {ty:TypeId} {l:List (List D)} (hi:h i=some (.row ty sz l)):Src h (.own i) sz l:=by
  intro E H β w u hs hv
  obtain ⟨L,hL,rfl⟩:=Fa hv
  obtain ⟨_,hz,hvb,us,hown,hone,hcells⟩:=hs.obj i _ L hi hL
  obtain ⟨A,c,h1,_⟩:=Il hown
  rw [h1] at hown
  exact ⟨hz,A,c,us,h1,hown.1,Rds.own hown,hone,hcells⟩
inductive Dest (h:Xh):S→Nat→TypeId→Nat→List (List D)→Prop where
  |own {i:Nat} {ty:TypeId} {sz:Nat} {l:List (List D)} (hi:h i=some (.row ty sz l)):Dest h (.own i) i ty sz l
  |nil (i:Nat) (ty:TypeId) (sz:Nat):Dest h (.d (.v (.slice none 0 0))) i ty sz []
theorem Sim.append (hs:Sim E H β h w) {i:Nat} {ty:TypeId} {sz:Nat} {l l':List (List D)} {v':Value} {us news:List Value} {vb:Option Nat}
    (hfar:∀j o L,i≠j→h j=some o→β j=some L→∀b,o.blk L b→some b≠vb) (hH:∀b,some b=vb→∀off,H b off=none) (hbase:∀b,some b=vb→E.w.heap.size≤b)
    (hz:∀x∈l,x.length=sz) (hz':∀x∈l',x.length=sz) (hus:us.length=l.length*sz)
    (hone:∀u∈us,u.oneCell'=true) (hone':∀u∈news,u.oneCell'=true)
    (hc:∀(k j:Nat) (x:List D) (d:D),l[k]? =some x→x[j]? =some d→∃u,us[k*sz+j]? =some u∧VD H u d)
    (hc':∀(k j:Nat) (x:List D) (d:D),l'[k]? =some x→x[j]? =some d→∃u,news[k*sz+j]? =some u∧VD H u d)
    (hown:w'.ownsRow E.w.heap.size ty sz v' (l.length+l'.length) (us++news)) (hg:w.grownBy w' vb) (hat:v'.ownBlock=vb∨v'.ownBlock=some w.heap.size):
    Sim E H (β.set i (some ⟨v',v'.ownBlock.getD 0,sz,noB⟩)) ((h.kill i).set i (.row ty sz (l++l'))) w':=by
  have k:=hs.kill i (some ⟨v',v'.ownBlock.getD 0,sz,noB⟩)
  have aux:∀j o' L',h.kill i j=some o'→(β.set i (some ⟨v',v'.ownBlock.getD 0,sz,noB⟩)) j=some L'→i≠j∧β j=some L'∧∃o,h j=some o∧o'=o.kill i:=by
    intro j o' L' ho hL
    by_cases e:i=j
    · subst e;rw [Xh.kill_same] at ho;cases ho
    · rw [Xh.kill_ne h e] at ho
      rw [Bt.set_ne β _ e] at hL
      cases hj:h j with
      |none=>rw [hj] at ho;simp at ho
      |some o=>rw [hj] at ho;simp at ho;exact ⟨e,hL,o,rfl,ho.symm⟩
  have far:∀j o' L',h.kill i j=some o'→(β.set i (some ⟨v',v'.ownBlock.getD 0,sz,noB⟩)) j=some L'→∀b,o'.blk L' b→some b≠vb∧b<w.heap.size:=by
    intro j o' L' ho hL b hb
    obtain ⟨e,h1,o,h2,rfl⟩:=aux j o' L' ho hL
    rw [XO.blk_kill] at hb
    exact ⟨hfar j o L' e h2 h1 b hb,((hs.obj j o L' h2 h1).lt hb).2⟩
  have hbel:Below E.w.heap.size E.w w':=hs.below.grown hg hs.size fun b hb=>hbase b hb.symm
  have him:Imm H w':=fun b off u e=>by
    refine ⟨?_,(hs.imm b off u e).2⟩
    have hne:some b≠vb:=fun hb=>by have:=hH b hb off;rw [e] at this;cases this
    exact (World.cell?_of_block (a:=⟨b,off,none⟩) (hg.block b (hs.imm.lt e) hne)).trans (hs.imm b off u e).1
  have newH:∀b,v'.ownBlock=some b→∀off,H b off=none:=by
    intro b hb off
    rcases hat with h|h
    · exact hH b (by rw [←h,hb]) off
    · rw [h] at hb;cases hb
      cases e:H w.heap.size off with
      |none=>rfl
      |some u=>have:=hs.imm.lt e;omega
  have newfar:∀j o' L',h.kill i j=some o'→(β.set i (some ⟨v',v'.ownBlock.getD 0,sz,noB⟩)) j=some L'→∀b,v'.ownBlock=some b→¬o'.blk L' b:=by
    intro j o' L' ho hL b hb hc
    obtain ⟨h1,h2⟩:=far j o' L' ho hL b hc
    rcases hat with h|h
    · exact h1 (by rw [←h,hb])
    · rw [h] at hb;cases hb;omega
  refine ⟨hbel,hs.ext,hs.new,him,fun j o L ho hL=> ?_,fun j o L ho hL b hb=> ?_,fun j j' o1 o2 L1 L2 b hjj ho ho' hL hL' hb=> ?_,fun j o ho hgg=> ?_⟩
  rotate_left 3
  · by_cases e:i=j
    · subst e;exact ⟨_,Bt.set_same _ _ _⟩
    · rw [Xh.set_ne _ _ e] at ho
      exact (hs.kill i (some ⟨v',v'.ownBlock.getD 0,sz,noB⟩)).dom j o ho hgg
  · by_cases e:i=j
    · subst e
      rw [Xh.set_same] at ho
      rw [Bt.set_same] at hL
      cases ho;cases hL
      refine ⟨rfl,fun x hx=> ?_,fun b hb=>(by rw [hb];rfl),us++news,by rw [List.length_append];exact hown,fun u hu=> ?_,fun k j x d hk hj=> ?_⟩
      · rcases List.mem_append.1 hx with h|h
        · exact hz x h
        · exact hz' x h
      · rcases List.mem_append.1 hu with h|h
        · exact hone u h
        · exact hone' u h
      · by_cases hlt:k<l.length
        · rw [List.getElem?_append_left hlt] at hk
          obtain ⟨u,hu,hd⟩:=hc k j x d hk hj
          exact ⟨u,by rw [List.getElem?_append_left (List.getElem?_eq_some_iff.1 hu).1];exact hu,hd⟩
        · rw [List.getElem?_append_right (by omega)] at hk
          obtain ⟨u,hu,hd⟩:=hc' _ j x d hk hj
          refine ⟨u, ?_,hd⟩
          have e:k*sz+j=us.length+((k - l.length)*sz+j):=by
            rw [hus, ←Nat.add_assoc, ←Nat.add_mul]
            congr 2
            omega
          rw [e,List.getElem?_append_right (by omega)]
          rw [show us.length+((k - l.length)*sz+j) - us.length=(k - l.length)*sz+j by omega]
          exact hu
    · rw [Xh.set_ne _ _ e] at ho
      exact (k.obj j o L ho hL).keep (Hp.le.refl _) (fun _ _ h=>h) fun b hb=>by
        obtain ⟨h1,h2⟩:=far j o L ho hL b hb
        exact hg.block b h2 h1
  · by_cases e:i=j
    · subst e
      rw [Xh.set_same] at ho
      rw [Bt.set_same] at hL
      cases ho;cases hL
      exact newH b hb
    · rw [Xh.set_ne _ _ e] at ho
      exact k.sep j o L ho hL b hb
  · by_cases e:i=j
    · subst e
      rw [Xh.set_same] at ho
      rw [Bt.set_same] at hL
      cases ho;cases hL
      rw [Xh.set_ne _ _ hjj] at ho'
      exact newfar j' o2 L2 ho' hL' b hb
    · by_cases e':i=j'
      · subst e'
        rw [Xh.set_same] at ho'
        rw [Bt.set_same] at hL'
        cases ho';cases hL'
        rw [Xh.set_ne _ _ e] at ho
        intro hc2
        exact newfar j o1 L1 ho hL b hc2 hb
      · rw [Xh.set_ne _ _ e] at ho
        rw [Xh.set_ne _ _ e'] at ho'
        exact k.inj j j' o1 o2 L1 L2 b hjj ho ho' hL hL' hb
end
theorem Y7 (g:Nat→Value):(Array.range 0).map g= #[]:=Array.eq_empty_of_size_eq_zero (by simp)
theorem Aj5 {n:Nat} (h:n≤maxLen):n≤9223372036854775807:=by unfold maxLen at h;omega
theorem Tc {h:Xh} {e:Operand→S} {sz:Nat}:∀{parts:List (Nat × Operand)} {l:List (List D)},F9 h e sz parts=some l→∀d∈l.flatten,d.one=true
  | [],l,h1,d,hd=>by cases h1;cases hd
  |(i,x)::rest,l,h1,d,hd=>by
    unfold F9 at h1
    cases hc:Dv h (e x) with
    |none=>rw [hc] at h1;cases h1
    |some cs=>
      rw [hc] at h1
      simp only at h1
      cases hds:I8 cs with
      |none=>rw [hds] at h1;cases h1
      |some ds=>
        rw [hds] at h1
        simp only at h1
        cases hr:F9 h e sz rest with
        |none=>rw [hr] at h1;cases h1
        |some l'=>
          rw [hr] at h1
          simp only at h1
          cases hb:Nat.beq ds.length sz with
          |false=>rw [hb] at h1;cases h1
          |true=>
            rw [hb] at h1
            cases h1
            rw [List.flatten_cons] at hd
            rcases List.mem_append.1 hd with hd|hd
            · have hcs:=I7 hds
              have hall:=Xp hc
              have:=hall (.d d) (by rw [hcs];exact List.mem_map_of_mem hd)
              exact this
            · exact Tc hr d hd
section
variable {P:Program} {n:Nat} {o:Oper} {f:Fr} {h:Xh}
theorem A5 {i:Nat} {t ty:TypeId} {sz bytes:Nat} {x y:Operand} {l l':List (List D)} (ho:o.op= .call {callee:= .builtin .append,args:= #[x,y],argTypes:= #[t,t]}) (T:ElemTy P t ty sz bytes)
    (hx:Dest h (ev f x) i ty sz l) (hy:Src h (ev f y) sz l') (h63:l.length+l'.length≤maxLen) (hby:(l.length+l'.length)*bytes≤140737488355328):
    Step P n o f h (.own i) (Dw f i) ((h.kill i).set i (.row ty sz (l++l'))):=by
  intro E H β a w hs hf hop
  have g1:=hop x (by rw [ho];simp [Op.operands,Call.operands])
  have g2:=hop y (by rw [ho];simp [Op.operands,Call.operands])
  obtain ⟨hz',A,c,news,hA,hnl,hr,hone',hc'⟩:=hy E H β w _ hs g2
  generalize hsx:ev f x=sx at hx g1
  have key:∃us,w.ownsRow E.w.heap.size ty sz (a.eval x) l.length us∧(∀j o L,i≠j→h j=some o→β j=some L→∀b,o.blk L b→some b≠(a.eval x).ownBlock)∧(∀b,some b=(a.eval x).ownBlock→∀off,H b off=none)∧
      (∀x∈l,x.length=sz)∧(∀u∈us,u.oneCell'=true)∧∀(k j:Nat) (x:List D) (d:D),l[k]? =some x→x[j]? =some d→∃u,us[k*sz+j]? =some u∧VD H u d:=by
    cases hx with
    |own hi=>
      obtain ⟨L,hL,e⟩:=Fa g1
      obtain ⟨_,hz,_,us,hown,hone,hc⟩:=hs.obj i _ L hi hL
      rw [e]
      exact ⟨us,hown,fun j o L' hij hj hL' b hb hc=>hs.inj i j _ o L L' b hij hi hj hL hL' hc.symm hb,fun b hb=>hs.sep i _ L hi hL b hb.symm,hz,hone,hc⟩
    |nil=>
      have e:=Dn g1
      rw [e]
      exact ⟨[],World.ownsRow_nil _ _ _ _,fun j o L' _ _ _ b _ hc=>(by cases hc),fun b hb=>(by cases hb),fun x hx=>(by cases hx),fun u hu=>(by cases hu),fun k j x d hk=>(by simp at hk)⟩
  obtain ⟨us,hown,hfar,hH,hz,hone,hc⟩:=key
  obtain ⟨v',w',hrun,h2,h3,h4⟩:=Vj (P:=P) (ty:=o.type) E.w.heap.size T hown c (A:=A) (m:=l'.length) hnl hr hone' h63 hby hs.size
  have hrun':(execOp a.eval o).run P w= .ok (.value v') w':=by
    unfold execOp
    simp only [ho,resolve,invoke,builtin,Sem.run_bind,Sem.run_pure,Result.andThen_ok,List.map_toArray,List.map_cons,List.map_nil,hA,hrun]
  unfold Oper.wp
  rw [hrun']
  exact ⟨H,β.set i (some ⟨v',v'.ownBlock.getD 0,sz,noB⟩),v',rfl,hs.append hfar hH (fun b hb=>(hown.lt b hb.symm).1) hz hz' hown.1 hone hone' hc hc' h2 h3 h4,hf.kill i _,M8 H β i ⟨v',_,sz,_⟩⟩
theorem Br (i:Nat) {t ty:TypeId} {sz len:Nat} {parts:Array (Nat × Operand)} {z:Value} {l:List (List D)} (ho:o.op= .buildSlice t len parts) (hu:P.underlying t=some (.slice ty)) (hsz:sizeB P ty sz=true) (hz:zeroB P ty z)
    (hr:F9 h (ev f) sz parts.toList=some l) (hlen:parts.toList.map (·.1)=List.range len) (hpos:0<sz) (hmax:len*sz≤16777216):
    Step P n o f h (.own i) (Dw f i) ((h.kill i).set i (.row ty sz l)):=by
  intro E H β a w hs hf hop
  have hpl:parts.toList.length=len:=by have:=congrArg List.length hlen;simpa using this
  have hcells0:CellsAt H β ((Array.range (len*sz)).map (z.cells[· % z.cells.size]!)) ((List.range (len*sz)).map fun j=> .d (.v (z.cells[j % z.cells.size]!))):=by
    refine ⟨by simp,fun j v s hj hs'=> ?_⟩
    rw [List.getElem?_map] at hs'
    rw [Array.getElem?_map] at hj
    by_cases hlt:j<len*sz
    · rw [List.getElem?_range hlt] at hs'
      have:(Array.range (len*sz))[j]? =some j:=by simp [hlt]
      rw [this] at hj
      cases hj;cases hs'
      exact .d (.v _)
    · rw [List.getElem?_eq_none (by simpa using hlt)] at hs';cases hs'
  obtain ⟨r1,r2,r3⟩:=Of parts.toList l 0 ((List.range (len*sz)).map fun j=>S.d (.v (z.cells[j % z.cells.size]!))) hr (by rw [hlen,hpl,List.range_eq_range']) (by simp [hpl])
  obtain ⟨ys,y1,y2⟩:=J3 hs (ρ:=a.eval) parts.toList _ _ _ hcells0 (fun x hx=>hop x (by rw [ho];simpa [Op.operands] using hx)) r3
  have hll:l.length=len:=by rw [r2,hpl]
  rw [Nat.zero_mul,List.take_zero,List.nil_append] at y2
  have hysz:ys.size=len*sz:=by rw [y2.1,List.length_map,Fi r1,hll]
  have hrun:(execOp a.eval o).run P w= .ok (.value (.slice (some ⟨w.heap.size,0,none⟩) l.length len)) (w.alloc (.cells ys ty)):=by
    have hfl:(parts.map fun (i,x)=>(i,a.eval x)).toList=parts.toList.map fun (i,x)=>(i,a.eval x):=by simp
    unfold execOp
    simp only [ho,Instr.buildSlice,Sem.run_bind,run_underlying hu,Result.andThen_ok,sizeB.run hsz,show ¬len*sz>2 ^ 24 by omega,if_false,Sem.run_pure]
    by_cases h0:len*sz=0
    · have hl0:len=0:=by
        rcases Nat.mul_eq_zero.1 h0 with h|h
        · exact h
        · omega
      subst hl0
      have hp0:parts.toList= []:=List.eq_nil_of_length_eq_zero hpl
      have hys:ys= #[]:=Array.eq_empty_of_size_eq_zero (by rw [hysz];simp)
      simp only [h0,if_true,Sem.run_pure,Result.andThen_ok,hfl,hp0,List.map_nil,Instr.fill,newRow,Sem.run_bind,run_newObj,World.alloc_eq,hll,hys,Y7]
    · simp only [h0,if_false,Sem.run_bind,zeroB.run hz,Result.andThen_ok,Sem.run_pure,hfl,y1,newRow,run_newObj,World.alloc_eq,hll]
  unfold Oper.wp
  rw [hrun]
  have hsim := hs.add_row i (ty := ty) (sz := sz) (cap := len) (l := l) ys r1 (by omega) (by unfold maxLen; have : len ≤ len * sz := Nat.le_mul_of_pos_right _ hpos; omega) hysz (fun u hu => by
    obtain ⟨j,hj⟩:=Array.getElem?_of_mem hu
    have hjl:=(Array.getElem?_eq_some_iff.1 hj).1
    have hd:∃d,l.flatten[j]? =some d:=⟨_,List.getElem?_eq_getElem (by rw [Fi r1,hll, ←hysz];exact hjl)⟩
    obtain ⟨d,hd⟩:=hd
    have:=y2.2 j u (.d d) hj (by rw [List.getElem?_map,hd];rfl)
    exact Uh (D5 this) (Tc hr d (List.mem_of_getElem? hd))) (fun k j x d hk hj => by
    have hg:=Ol r1 hk hj
    have hlt:=(List.getElem?_eq_some_iff.1 hg).1
    rw [Fi r1,hll, ←hysz] at hlt
    exact ⟨ys[k * sz + j], Array.getElem?_eq_getElem hlt, D5 (y2.2 _ _ (.d d) (Array.getElem?_eq_getElem hlt) (by rw [List.getElem?_map, hg]; rfl))⟩)
  exact ⟨H,_,_,rfl,hsim,hf.kill i _,M8 H β i ⟨_,w.heap.size,sz,noB⟩⟩
theorem Ow (i:Nat) {t ty:TypeId} {sz bytes:Nat} {x y:Operand} {z:Value} {zs:List D} {m c:Nat} {k1 k2:IntKind} (ho:o.op= .makeSlice t x y) (hx:ev f x= .d (.v (.int k1 m))) (hy:ev f y= .d (.v (.int k2 c))) (hu:P.underlying t=some (.slice ty)) (hinf:(P.info? ty).map (fun i=>(i.zero,i.size,i.bytes))=some (some z,sz,bytes))
    (hzs:z.cells.toList.map D.v=zs) (hzl:z.cells.size=sz) (hz1:∀u∈z.cells,u.oneCell'=true) (hpos:0<sz) (hmc:m≤c) (hcm:c≤maxLen) (hby:bytes*c≤140737488355328):
    Step P n o f h (.own i) (Dw f i) ((h.kill i).set i (.row ty sz (List.replicate m zs))):=by
  intro E H β a w hs hf hop
  have g1:=hop x (by rw [ho];simp [Op.operands])
  have g2:=hop y (by rw [ho];simp [Op.operands])
  rw [hx] at g1
  rw [hy] at g2
  obtain ⟨inf,hi,hi1,hi2,hi3⟩:=info_parts hinf
  have hcm':c≤9223372036854775807:=Aj5 hcm
  have w1:IntKind.i64.wrap (m:Int)=m:=IntWalk.i64_in _ (by omega)
  have w2:IntKind.i64.wrap (c:Int)=c:=IntWalk.i64_in _ (by omega)
  have hbc:((bytes:Int)*(c:Int))≤140737488355328:=by rw [←Int.natCast_mul];omega
  have hbm:((bytes:Int)*(m:Int))≤140737488355328:=by
    have:bytes*m≤bytes*c:=Nat.mul_le_mul_left _ hmc
    have h2:bytes*m≤140737488355328:=by omega
    rw [←Int.natCast_mul];omega
  have hrun:(execOp a.eval o).run P w= .ok (.value (.slice (some ⟨w.heap.size,0,none⟩) (List.replicate m zs).length c)) (w.alloc (.cells ((Array.range (c*sz)).map (z.cells[· % z.cells.size]!)) ty)):=by
    have hzero:∀w:World,(zeroValue ty).run P w= .ok z w:=fun w=>by unfold zeroValue typeInfo;simp [hi,hi1]
    have hsize:∀w:World,(sizeOf ty).run P w= .ok sz w:=fun w=>by unfold sizeOf typeInfo;simp [hi,hi2]
    have hinfo:∀w:World,(typeInfo ty).run P w= .ok inf w:=fun w=>by unfold typeInfo;simp [hi]
    unfold execOp
    simp only [ho,Dn g1,Dn g2,Instr.makeSlice,Sem.run_bind,run_underlying hu,Result.andThen_ok,asInt,asIntOf,Sem.run_pure,hinfo,w1,w2]
    have c1:((decide ((c:Int)<0)||decide ((inf.bytes:Int)*(c:Int)>2 ^ 48))||decide ((m:Int)<0)||decide ((m:Int)>(c:Int)))=false:=by
      have d0:((2:Int) ^ 48)=281474976710656:=rfl
      have d1:decide ((c:Int)<0)=false:=decide_eq_false (by omega)
      have d2:decide ((inf.bytes:Int)*(c:Int)>2 ^ 48)=false:=decide_eq_false (by rw [hi3,d0];omega)
      have d3:decide ((m:Int)<0)=false:=decide_eq_false (by omega)
      have d4:decide ((m:Int)>(c:Int))=false:=decide_eq_false (by omega)
      rw [d1,d2,d3,d4]
      rfl
    simp only [c1,Bool.false_eq_true,if_false,Sem.run_bind,run_askRoom,Result.andThen_ok,hsize,Int.toNat_natCast]
    by_cases h0:c*sz=0
    · simp only [h0,if_true,Sem.run_pure,Result.andThen_ok,newRow,Sem.run_bind,run_newObj,World.alloc_eq,List.length_replicate,Y7]
    · simp only [h0,if_false,Sem.run_bind,hzero,Result.andThen_ok,Sem.run_pure,newRow,run_newObj,World.alloc_eq,List.length_replicate]
  unfold Oper.wp
  rw [hrun]
  have hzsl:zs.length=sz:=by rw [←hzs,List.length_map,Array.length_toList,hzl]
  have hget : ∀ q, q < c * sz → ((Array.range (c * sz)).map (z.cells[· % z.cells.size]!))[q]? = some (z.cells[q % z.cells.size]'(Nat.mod_lt _ (by omega))) := by
    intro q hq
    rw [Array.getElem?_map]
    have:(Array.range (c*sz))[q]? =some q:=by simp [hq]
    rw [this,Option.map_some]
    congr 1
    exact getElem!_pos z.cells (q % z.cells.size) (Nat.mod_lt _ (by omega))
  have hsim := hs.add_row i (ty := ty) (sz := sz) (cap := c) (l := List.replicate m zs) ((Array.range (c * sz)).map (z.cells[· % z.cells.size]!)) (fun x hx => by rw [List.eq_of_mem_replicate hx]; exact hzsl) (by simpa using hmc) hcm (by simp) (fun u hu => by
    obtain ⟨q,hq⟩:=Array.getElem?_of_mem hu
    have hql:=(Array.getElem?_eq_some_iff.1 hq).1
    rw [hget q (by simpa using hql)] at hq
    cases hq
    exact hz1 _ (Array.getElem_mem _)) (fun k j x d hk hj => by
    have hkl:=(List.getElem?_eq_some_iff.1 hk).1
    rw [List.length_replicate] at hkl
    have hx:=List.eq_of_mem_replicate (List.mem_of_getElem? hk)
    subst hx
    have hjl:=(List.getElem?_eq_some_iff.1 hj).1
    rw [hzsl] at hjl
    have h1:(k+1)*sz≤c*sz:=Nat.mul_le_mul_right _ (by omega)
    rw [Nat.add_mul] at h1
    refine ⟨_,hget (k*sz+j) (by omega), ?_⟩
    have e2:(k*sz+j) % sz=j:=by rw [Nat.mul_comm,Nat.mul_add_mod,Nat.mod_eq_of_lt hjl]
    rw [←hzs,List.getElem?_map,Array.getElem?_toList,Array.getElem?_eq_getElem (by omega)] at hj
    cases hj
    have e3 : z.cells[(k * sz + j) % z.cells.size]'(Nat.mod_lt _ (by omega)) = z.cells[j]'(by omega) := by congr 1; rw [hzl, e2]
    rw [e3]
    exact .v _)
  exact ⟨H,_,_,rfl,hsim,hf.kill i _,M8 H β i ⟨_,w.heap.size,sz,noB⟩⟩
end
end Go.Proofs.YtaafemnkamfgnaaGreat
namespace Go.Proofs.YtaafemnkamfgnaaGreat
open Go.RowKit
theorem Xi {α:Type} {p p':α→Bool} (himp:∀j,p' j=true→p j=true) {i:α} (hi:p i=true) (hi':p' i=false):
  ∀L:List α,(L.filter p').length≤(L.filter p).length∧(i∈L→(L.filter p').length<(L.filter p).length)
 | []=>⟨Nat.le_refl _,fun h=>by cases h⟩
 |x::L=>by
  obtain ⟨h1,h2⟩:=Xi himp hi hi' L
  rw [List.filter_cons,List.filter_cons]
  by_cases hx:p' x=true
  ·rw [if_pos hx,if_pos (himp x hx),List.length_cons,List.length_cons]
   refine ⟨by omega,fun h=> ?_⟩
   rcases List.mem_cons.1 h with rfl|h
   ·rw [hi'] at hx;cases hx
   ·have:=h2 h;omega
  ·rw [if_neg hx]
   by_cases hp:p x=true
   ·rw [if_pos hp,List.length_cons]
    exact ⟨by omega,fun _=>by omega⟩
   ·rw [if_neg hp]
    refine ⟨h1,fun h=> ?_⟩
    rcases List.mem_cons.1 h with rfl|h
    ·exact absurd hi hp
    ·exact h2 h
def X3 (n:Nat) (l:Array Bool):Nat:=((List.range n).filter fun i=> !l.getD i true).length
section
variable {P:Program} {ops:Array Oper} {Q:Exit→Act→World→Prop} {md:Region.Mode}
theorem Fj {listed:Array Bool} {i:Nat} (h:i∈Region.ready md ops listed):
  i<ops.size∧listed.getD i true=false∧∃o,ops[i]? =some o∧∀e∈o.after,Region.binds md e=true→listed.getD e.on false=true:=by
 unfold Region.ready at h
 obtain ⟨h1,h2⟩:=List.mem_filter.1 h
 rw [Bool.and_eq_true] at h2
 have hlt:=List.mem_range.1 h1
 refine ⟨hlt,by simpa using h2.1,ops[i],Array.getElem?_eq_getElem hlt,fun e he hb=> ?_⟩
 have h3:=h2.2
 rw [Array.getElem?_eq_getElem hlt] at h3
 simp only [Option.map_some,Option.getD_some] at h3
 have h4:=(Array.all_eq_true'.1 h3) e he
 simpa [hb] using h4
theorem V6 {I:Array Bool→Act→World→Prop}
  (hstep:∀listed a w,I listed a w→∀i∈Region.ready md ops listed,wpOp P ops Q i (fun a' w'=>I (listed.setIfInBounds i true) a' w') a w)
  (hdone:∀listed a w,I listed a w→Region.ready md ops listed= []→Q .normal a w):
  ∀(fuel:Nat) (listed:Array Bool) (a:Act) (w:World),I listed a w→X3 ops.size listed≤fuel→wpAny P md ops Q fuel listed a w
 |0,listed,a,w,h,hf=>by
  have hr:Region.ready md ops listed= []:=by
   refine List.eq_nil_iff_forall_not_mem.2 fun i hi=> ?_
   obtain ⟨h1,h2, -⟩:=Fj hi
   have hm:i∈(List.range ops.size).filter fun i=> !listed.getD i true:=List.mem_filter.2 ⟨List.mem_range.2 h1,by simp [h2]⟩
   have:=List.length_pos_of_mem hm
   unfold X3 at hf
   omega
  exact ⟨hr,hdone _ _ _ h hr⟩
 |fuel+1,listed,a,w,h,hf=>by
  refine ⟨hdone _ _ _ h,fun i hi=>wpOp_mono (fun a' w' h'=>V6 hstep hdone fuel _ a' w' h' ?_) (hstep _ _ _ h i hi)⟩
  obtain ⟨h1,h2, -⟩:=Fj hi
  have hin:i<listed.size:=by
   rcases Nat.lt_or_ge i listed.size with h|h
   ·exact h
   ·rw [Array.getD_eq_getD_getElem?,Array.getElem?_eq_none h] at h2;cases h2
  have := (Xi (p := fun i => !listed.getD i true) (p' := fun j => !(listed.setIfInBounds i true).getD j true) (i := i) (fun j hj => by
   by_cases e:i=j
   ·subst e;simp [Array.getD_eq_getD_getElem?,hin] at hj
   ·simpa [Array.getD_eq_getD_getElem?, Array.getElem?_setIfInBounds, e] using hj) (by simp [h2]) (by simp [Array.getD_eq_getD_getElem?, hin]) (List.range ops.size)).2 (List.mem_range.2 h1)
  unfold X3 at hf ⊢
  omega
theorem Pz {id:Nat} {a:Act} {w:World} {I:Array Bool→Act→World→Prop} (hm:P.follows .mixedOrders=true)
  (h0:I (Array.replicate ops.size false) a w.drew)
  (hstep:∀listed a w,I listed a w→∀i∈Region.ready .any ops listed,wpOp P ops Q i (fun a' w'=>I (listed.setIfInBounds i true) a' w') a w)
  (hdone:∀listed a w,I listed a w→Region.ready .any ops listed= []→Q .normal a w):(Code.region id ops true).wp P Q a w:=by
 refine wp_region_any hm ?_
 refine V6 hstep hdone _ _ _ _ h0 ?_
 unfold X3
 exact Nat.le_trans (List.length_filter_le _ _) (by simp)
end
end Go.Proofs.YtaafemnkamfgnaaGreat
namespace Go.Proofs.YtaafemnkamfgnaaGreat
open Go.RowKit
def Ac7 (P:Program) (o:Oper) (e:Operand→S) (hF:Xh) (ids:List Nat) (s:S):Prop:=
 ∀E H β a w,Sim E H β hF w→(∀i∈ids,β i=none)→(∀x∈o.op.operands,VS H β (a.eval x) (e x))→
  o.wp P a w (fun a' w'=>∃H' β' u,a'=a.put o.dst u∧Sim E H' β' hF w'∧H.le H'∧Bt.le β β'∧(∀i,i∉ids→β' i=β i)∧VS H' β' u s) NoQ
def HLe (h h':Xh):Prop:=∀i o,h i=some o→h' i=some o
theorem HLe.refl (h:Xh):HLe h h:=fun _ _ e=>e
theorem HLe.trans {h h' h'':Xh} (a:HLe h h') (b:HLe h' h''):HLe h h'':=fun i o e=>b i o (a i o e)
theorem HLe.set {h:Xh} {i:Nat} (o:XO) (hi:h i=none):HLe h (h.set i o):=fun j o' e=>by
 by_cases e':i=j
 ·subst e';rw [hi] at e;cases e
 ·rw [Xh.set_ne _ _ e'];exact e
inductive CStep (P:Program) (o:Oper) (f:Fr) (h:Xh):List Nat→S→Xh→Prop where
 |mk {ids:List Nat} {s:S} {h1:Xh} (hle:HLe h h1) (hnew:∀i x,h1 i=some x→h i=some x∨(i∈ids∧x.isG=false)) (hc:∀hF,HLe h1 hF→Ac7 P o (ev f) hF ids s):CStep P o f h ids s h1
section
variable {P:Program} {o:Oper} {f:Fr} {h:Xh} {s:S}
theorem CStep.pure (hp:A9 P o (ev f) h s):CStep P o f h [] s h:=
 ⟨HLe.refl _, fun _ _ e => .inl e, fun hF hle E H β a w hs _ hop => by
  obtain ⟨u,h1,h2⟩:=hp E H β a.eval w (hs.drop hle) hop
  unfold Oper.wp
  rw [h1]
  exact ⟨H, β, u, rfl, hs, Hp.le.refl _, fun _ _ h => h, fun _ _ => rfl, h2⟩⟩
theorem CStep.call {F:FuncId} {args:Array Operand} {tys:Array TypeId} {ds:List D} {r:D} (ho:o.op= .call {callee:= .value (.func F),args:=args,argTypes:=tys}) (hx:XC P F ds (fun d=>d=r))
  (ha:args.toList.map (ev f)=ds.map S.d):CStep P o f h [] (.d r) h:=
 ⟨HLe.refl _, fun _ _ e => .inl e, fun hF hle E H β a w hs _ hop => by
  have hop':∀x∈args,VS H β (a.eval x) (ev f x):=fun x hx=>hop x (by rw [ho];simp [Op.operands,Call.operands,hx])
  obtain ⟨hsz,hvd⟩:=O2 (a:=a) args ds ha hop'
  have hrun:(execOp a.eval o).run P w= .ok (.enter F (args.map a.eval)) w:=by
   have:=hx.callable.run (args.map a.eval) w
   unfold execOp
   simp only [ho,resolve,Act.eval,Deferred.ofValue,Sem.run_bind,Sem.run_pure,Result.andThen_ok,invoke,Array.append_empty,Array.empty_append]
   exact this
  unfold Oper.wp
  rw [hrun]
  refine (hx.calls H w _ hs.imm hsz hvd).mono ?_
  rintro e w' ⟨H',u,r',rfl,rfl,hle',hnew,him,hb,hu⟩
  exact ⟨H', β, u, rfl, hs.call hb hle' hnew him, hle', fun _ _ h => h, fun _ _ => rfl, .d hu⟩⟩
theorem Sim.put_new {E:Env} {H:Hp} {β:Bt} {hF:Xh} {w:World} (hs:Sim E H β hF w) {i:Nat} (hβ:β i=none) {x:XO} (hi:hF i=some x) {L:Loc} {obj:Obj} (hb:∀b,x.blk L b→b=w.heap.size)
  (hok:OKo E.w.heap.size (w.alloc obj) H (β.set i (some L)) L x):Sim E H (β.set i (some L)) hF (w.alloc obj)∧Bt.le β (β.set i (some L)):=by
 have hle:Bt.le β (β.set i (some L)):=fun j L' e=>by
  by_cases e':i=j
  ·subst e';rw [hβ] at e;cases e
  ·rw [Bt.set_ne _ _ e'];exact e
 refine ⟨?_,hle⟩
 have hbel:Below w.heap.size w (w.alloc obj):=(Below.refl _ _).alloc (Nat.le_refl _) _
 have s2:=hs.call hbel (Hp.le.refl _) (fun b o u e=> .inl e) (hs.imm.below hbel)
 have none_at:∀off,H w.heap.size off=none:=fun off=>by
  cases e:H w.heap.size off with
  |none=>rfl
  |some u=>have:=hs.imm.lt e;omega
 have old:∀j y L',hF j=some y→β j=some L'→∀b,y.blk L' b→b<w.heap.size:=fun j y L' h1 h2 b hb=>((hs.obj j y L' h1 h2).lt hb).2
 refine ⟨s2.below,s2.ext,s2.new,s2.imm,fun j y L' h1 h2=> ?_,fun j y L' h1 h2 b hbk off=> ?_,fun j j' y y' L1 L2 b hjj h1 h1' h2 h2' hbk=> ?_,fun j y h1 hg=> ?_⟩
 rotate_left 3
 ·obtain ⟨L',e⟩:=s2.dom j y h1 hg
  exact ⟨L',hle _ _ e⟩
 ·by_cases e:i=j
  ·subst e
   rw [Bt.set_same] at h2
   rw [hi] at h1
   cases h1;cases h2
   exact hok
  ·rw [Bt.set_ne _ _ e] at h2
   exact (s2.obj j y L' h1 h2).keep (Hp.le.refl _) hle fun _ _=>rfl
 ·by_cases e:i=j
  ·subst e
   rw [Bt.set_same] at h2
   rw [hi] at h1
   cases h1;cases h2
   rw [hb b hbk]
   exact none_at off
  ·rw [Bt.set_ne _ _ e] at h2
   exact s2.sep j y L' h1 h2 b hbk off
 ·by_cases e:i=j
  ·subst e
   rw [Bt.set_same] at h2
   rw [hi] at h1
   cases h1;cases h2
   rw [Bt.set_ne _ _ hjj] at h2'
   intro hc
   have e1:=hb b hbk
   have e2:=old j' y' L2 h1' h2' b hc
   omega
  ·by_cases e':i=j'
   ·subst e'
    rw [Bt.set_same] at h2'
    rw [hi] at h1'
    cases h1';cases h2'
    rw [Bt.set_ne _ _ e] at h2
    intro hc
    have e1:=hb b hc
    have e2:=old j y L1 h1 h2 b hbk
    omega
   ·rw [Bt.set_ne _ _ e] at h2
    rw [Bt.set_ne _ _ e'] at h2'
    exact s2.inj j j' y y' L1 L2 b hjj h1 h1' h2 h2' hbk
theorem CStep.new (i : Nat) (l : List S) (hi : h i = none) (ho : ∀ E H β (a : Act) w hF, HLe h hF → Sim E H β hF w → (∀ x ∈ o.op.operands, VS H β (a.eval x) (ev f x)) →
   ∃ (us : Array Value) (t : TypeId), (execOp a.eval o).run P w = .ok (.value (.pointer (some ⟨w.heap.size, 0, none⟩))) (w.alloc (.cells us t)) ∧ us.size = l.length ∧ ∀ (j : Nat) (u : Value) (s : S), us[j]? = some u → l[j]? = some s → VS H β u s) :
  CStep P o f h [i] (.ptr i 0 0) (h.set i (.box l)):=
 ⟨HLe.set _ hi, fun j x e => by
  by_cases e':i=j
  ·subst e';rw [Xh.set_same] at e;cases e;exact .inr ⟨by simp,rfl⟩
  ·rw [Xh.set_ne _ _ e'] at e;exact .inl e,fun hF hle E H β a w hs hβ hop=>by
  have hβi:=hβ i (by simp)
  obtain ⟨us,t,hr,hl,hv⟩:=ho E H β a w hF (HLe.trans (HLe.set _ hi) hle) hs hop
  unfold Oper.wp
  rw [hr]
  have hiF:=hle i _ (Xh.set_same h i (.box l))
  obtain ⟨k1, k2⟩ := hs.put_new (L := ⟨.slice none 0 0, w.heap.size, l.length, noB⟩) (obj := .cells us t) hβi hiF (fun b hb => by simpa [XO.blk] using hb.symm) ⟨hs.size, rfl, us, t, heap_alloc_new _ _, hl, fun j u s hu hs' => (hv j u s hu hs').mono (Hp.le.refl _) (fun j' L' e => by
   by_cases e':i=j'
   ·subst e';rw [hβi] at e;cases e
   ·rw [Bt.set_ne _ _ e']; exact e)⟩
  refine ⟨H,_,_,rfl,k1,Hp.le.refl _,k2,fun j hj=>Bt.set_ne _ _ (fun e=>hj (by simp [e])), ?_⟩
  have:=VS.ptr (H:=H) (β:=β.set i (some ⟨.slice none 0 0,w.heap.size,l.length,noB⟩)) 0 0 (Bt.set_same β i _)
  rw [Nat.zero_mul,Nat.zero_add] at this
  exact this⟩
theorem CStep.alloc (i:Nat) {t:TypeId} {z:Value} (ho:o.op= .alloc t) (hz:zeroB P t z) (hi:h i=none):CStep P o f h [i] (.ptr i 0 0) (h.set i (.box (z.cells.toList.map fun x=> .d (.v x)))):=
 CStep.new i _ hi fun E H β a w _ _ _ _=>by
  refine ⟨z.cells,t, ?_,by simp,fun j u s hu hs=> ?_⟩
  ·unfold execOp
   simp only [ho,Instr.alloc,Sem.run_bind,zeroB.run hz,Result.andThen_ok,newVar,newRow,run_newObj,Sem.run_pure,World.alloc_eq]
  ·rw [List.getElem?_map,Array.getElem?_toList,hu] at hs
   cases hs
   exact .d (.v _)
theorem Oo {h h':Xh} (hle:HLe h h') {s:S} {cs:List S} (hc:Dv h s=some cs):Dv h' s=some cs:=by
 have one:∀x,Ej h x=true→Ej h' x=true:=by
  intro x hx
  cases x with
  |own i=>
   unfold Ej at hx ⊢
   simp only at hx ⊢
   split at hx
   ·rename_i ty sz l hi;rw [hle i _ hi]
   ·rename_i ty sz l hi;rw [hle i _ hi]
   ·cases hx
  |_=>exact hx
 unfold Dv at hc ⊢
 split at hc
 ·rename_i l
  cases h1:l.all (Ej h) with
  |false=>rw [h1] at hc;cases hc
  |true=>
   rw [h1] at hc
   have:l.all (Ej h')=true:=List.all_eq_true.2 fun x hx=>one x (List.all_eq_true.1 h1 x hx)
   simp only [this]
   exact hc
 ·exact hc
 ·rename_i s0 h2 h3
  cases h1:Ej h s with
  |false=>rw [h1] at hc;cases hc
  |true=>
   rw [h1] at hc
   rw [one s h1]
   exact hc
end
def A3 (f:Fr) (l:List Oper) (L:List (List Nat × S)) (lst:Nat→Bool):Nat→Fr
 |0=>f
 |k+1=>
  match l[k]?,L[k]? with
  |some o,some (_,s)=>bif lst k then A7 (A3 f l L lst k) o.dst s else A3 f l L lst k
  |_,_=>A3 f l L lst k
def Du:Nat→Bool:=fun _=>true
def Avd (P:Program) (n:Nat) (ops:Array Oper) (o:Oper) (f:Fr) (hF:Xh) (ids:List Nat) (s:S):Prop:=
 (Bl ops f n o.guard=some true∧Ac7 P o (ev f) hF ids s)∨(Bl ops f n o.guard=some false∧ids= []∧s= .d (.v undef))
inductive Ch (P:Program) (n:Nat) (ops:Array Oper):List Oper→Fr→Xh→List (List Nat × S)→Fr→Xh→Prop where
 |nil (f:Fr) (h:Xh):Ch P n ops [] f h [] f h
 |cons {o:Oper} {rest:List Oper} {f f':Fr} {h h1 h':Xh} {ids:List Nat} {s:S} {L:List (List Nat × S)} (hw:Bl ops f n o.guard=some true) (hc:CStep P o f h ids s h1) (hr:Ch P n ops rest (A7 f o.dst s) h1 L f' h'):Ch P n ops (o::rest) f h ((ids,s)::L) f' h'
 |skip {o:Oper} {rest:List Oper} {f f':Fr} {h h':Xh} {L:List (List Nat × S)} (hw:Bl ops f n o.guard=some false) (hr:Ch P n ops rest (A7 f o.dst (.d (.v undef))) h L f' h'):Ch P n ops (o::rest) f h (([], .d (.v undef))::L) f' h'
theorem Fq (f:Fr) (o:Oper) (l:List Oper) (q:List Nat × S) (L:List (List Nat × S)):∀k,A3 f (o::l) (q::L) Du (k+1)=A3 (A7 f o.dst q.2) l L Du k
 |0=>by simp [A3,Du]
 |k+1=>by
  rw [A3,Fq f o l q L k]
  conv=>rhs;rw [A3]
  simp only [List.getElem?_cons_succ,Du]
theorem Ch.len {P:Program} {n:Nat} {ops:Array Oper} {l:List Oper} {f f':Fr} {h h':Xh} {L:List (List Nat × S)} (hc:Ch P n ops l f h L f' h'):L.length=l.length:=by
 induction hc with
 |nil=>rfl
 |cons _ _ _ ih=>simp [ih]
 |skip _ _ ih=>simp [ih]
theorem Ch.heap {P:Program} {n:Nat} {ops:Array Oper} {l:List Oper} {f f':Fr} {h h':Xh} {L:List (List Nat × S)} (hc:Ch P n ops l f h L f' h'):HLe h h'∧∀i x,h' i=some x→h i=some x∨(i∈L.flatMap (·.1)∧x.isG=false):=by
 induction hc with
 |nil=>exact ⟨HLe.refl _,fun i x e=> .inl e⟩
 |cons _ hc _ ih=>
  obtain ⟨hle,hnew,_⟩:=hc
  refine ⟨HLe.trans hle ih.1,fun i x e=> ?_⟩
  rcases ih.2 i x e with h|h
  ·rcases hnew i x h with h|h
   ·exact .inl h
   ·exact .inr ⟨by simp [h.1],h.2⟩
  ·exact .inr ⟨by rw [List.flatMap_cons];exact List.mem_append_right _ h.1,h.2⟩
 |skip _ _ ih=>
  refine ⟨ih.1,fun i x e=> ?_⟩
  rcases ih.2 i x e with h|h
  ·exact .inl h
  ·exact .inr ⟨by rw [List.flatMap_cons];exact List.mem_append_right _ h.1,h.2⟩
theorem Ch.ok {P:Program} {n:Nat} {ops:Array Oper} {l:List Oper} {f f':Fr} {h h':Xh} {L:List (List Nat × S)} (hc:Ch P n ops l f h L f' h'):
  (∀k o ids s,l[k]? =some o→L[k]? =some (ids,s)→Avd P n ops o (A3 f l L Du k) h' ids s)∧A3 f l L Du l.length=f':=by
 induction hc with
 |nil=>exact ⟨fun k o ids s e=>by simp at e,rfl⟩
 | @cons o rest f f' h h1 h' ids s L hw hc hr ih=>
  refine ⟨fun k o' ids' s' h2 h3=> ?_,by rw [List.length_cons,Fq];exact ih.2⟩
  cases k with
  |zero=>
   simp at h2 h3
   obtain ⟨rfl,rfl⟩:=h3
   subst h2
   obtain ⟨_,_,hcc⟩:=hc
   exact .inl ⟨hw,hcc _ hr.heap.1⟩
  |succ k=>
   rw [Fq]
   exact ih.1 k o' ids' s' (by simpa using h2) (by simpa using h3)
 | @skip o rest f f' h h' L hw hr ih=>
  refine ⟨fun k o' ids' s' h2 h3=> ?_,by rw [List.length_cons,Fq];exact ih.2⟩
  cases k with
  |zero=>
   simp at h2 h3
   obtain ⟨rfl,rfl⟩:=h3
   subst h2
   exact .inr ⟨hw,rfl,rfl⟩
  |succ k=>
   rw [Fq]
   exact ih.1 k o' ids' s' (by simpa using h2) (by simpa using h3)
def Da (ops:Array Oper):Nat→Nat→Nat→Bool
 |0,_,_=>false
 |d+1,j,i=>match ops[j]? with
  |some o=>o.after.toList.any fun e=>Region.binds .any e && (Nat.beq e.on i||Da ops d e.on i)
  |none=>false
def B8 (ops:Array Oper) (o:Oper):List Tmp:=o.dst.toList++o.looksAt ops
def Le (ops:Array Oper) (a b:Oper):Bool:=(match a.dst with|some t=>B2 t (B8 ops b)|none=>false)||(match b.dst with|some t=>B2 t (B8 ops a)|none=>false)
def Aoc (ops:Array Oper) (l:List Oper):Bool:=
 (List.range l.length).all fun j=>(List.range j).all fun i=>
  match l[i]?,l[j]? with
  |some a,some b=> !Le ops a b||Da ops 3 j i
  |_,_=>true
def Aob (l:List Oper):Bool:=
 (List.range l.length).all fun j=>
  match l[j]? with
  |some o=>o.after.toList.all fun e=> !Region.binds .any e||Nat.blt e.on j
  |none=>true
def Jo (ops:Array Oper) (l:List Oper):Bool:=Aoc ops l && Aob l
theorem Cy {ops:Array Oper} {lst:Nat→Bool} (hd:∀j o e,ops[j]? =some o→lst j=true→e∈o.after→Region.binds .any e=true→lst e.on=true):∀d j i,Da ops d j i=true→lst j=true→lst i=true
 |0,_,_,h,_=>by cases h
 |d+1,j,i,h,hj=>by
  unfold Da at h
  cases ho:ops[j]? with
  |none=>rw [ho] at h;cases h
  |some o=>
   rw [ho] at h
   simp only [List.any_eq_true,Bool.and_eq_true,Bool.or_eq_true] at h
   obtain ⟨e,he,hb,h2⟩:=h
   have hl:=hd j o e ho hj (by simpa using he) hb
   rcases h2 with h2|h2
   ·rw [←Nat.eq_of_beq_eq_true h2];exact hl
   ·exact Cy hd d e.on i h2 hl
theorem Hi {ops:Array Oper} {l:List Oper} (h:Jo ops l=true) {i j:Nat} {a b:Oper} (hij:i<j) (ha:l[i]? =some a) (hb:l[j]? =some b) (hc:Le ops a b=true):Da ops 3 j i=true:=by
 unfold Jo at h
 rw [Bool.and_eq_true] at h
 have h:=h.1
 unfold Aoc at h
 have hj:j<l.length:=(List.getElem?_eq_some_iff.1 hb).1
 have h1:=List.all_eq_true.1 h j (List.mem_range.2 hj)
 have h2:=List.all_eq_true.1 h1 i (List.mem_range.2 hij)
 rw [ha,hb] at h2
 simpa [hc] using h2
theorem Ajd {ops:Array Oper} {l:List Oper} (h:Jo ops l=true) {j:Nat} {o:Oper} (ho:l[j]? =some o) {e:Edge} (he:e∈o.after) (hb:Region.binds .any e=true):e.on<j:=by
 unfold Jo at h
 rw [Bool.and_eq_true] at h
 have h:=h.2
 unfold Aob at h
 have h1:=List.all_eq_true.1 h j (List.mem_range.2 (List.getElem?_eq_some_iff.1 ho).1)
 rw [ho] at h1
 have h2:=List.all_eq_true.1 h1 e (by simpa using he)
 rw [hb] at h2
 exact Eu (by simpa using h2)
theorem Lw {f:Fr} {l:List Oper} {L:List (List Nat × S)} {lst:Nat→Bool} {t i:Nat} (hlo:∀j o,j<i→l[j]? =some o→o.dst=some t→lst j=true):∀k,k≤i→A3 f l L lst k t=A3 f l L Du k t
 |0,_=>rfl
 |k+1,hk=>by
  have ih:=Lw (f:=f) (L:=L) hlo k (by omega)
  unfold A3
  cases ho:l[k]? with
  |none=>exact ih
  |some o=>
   cases hL:L[k]? with
   |none=>exact ih
   |some q=>
    obtain ⟨ids,s⟩:=q
    simp only [Du,cond_true]
    by_cases hd:o.dst=some t
    ·rw [hlo k o (by omega) ho hd]
     simp [A7,hd,Ds]
    ·have hne:∀g:Fr,A7 g o.dst s t=g t:=fun g=>by
      cases hdd:o.dst with
      |none=>rfl
      |some t'=>
       have:t'≠t:=fun e=>hd (by rw [hdd,e])
       simp [A7,Ds,Bp this]
     rw [hne]
     cases lst k with
     |true=>rw [cond_true,hne];exact ih
     |false=>exact ih
theorem Gw {f:Fr} {l:List Oper} {L:List (List Nat × S)} {lst:Nat→Bool} {t i:Nat} (hhi:∀j o,i≤j→l[j]? =some o→o.dst=some t→lst j=false):∀k,i≤k→A3 f l L lst k t=A3 f l L lst i t
 |0,hk=>by
  have:i=0:=by omega
  subst this;rfl
 |k+1,hk=>by
  by_cases e:i=k+1
  ·subst e;rfl
  have ih:=Gw (f:=f) (L:=L) hhi k (by omega)
  rw [←ih]
  conv=>lhs;unfold A3
  cases ho:l[k]? with
  |none=>rfl
  |some o=>
   cases hL:L[k]? with
   |none=>rfl
   |some q=>
    obtain ⟨ids,s⟩:=q
    simp only
    cases hl:lst k with
    |true=>
     rw [cond_true]
     cases hdd:o.dst with
     |none=>rfl
     |some t'=>
      by_cases e2:t'=t
      ·subst e2
       have:=hhi k o (by omega) ho hdd
       rw [this] at hl;cases hl
      ·simp [A7,Ds,Bp e2]
    |false=>rfl
theorem Kr {f:Fr} {l:List Oper} {L:List (List Nat × S)} {lst lst':Nat→Bool} {t i:Nat} (hsame:∀j,j≠i→lst' j=lst j) (hi:∀o,l[i]? =some o→o.dst≠some t):∀k,A3 f l L lst' k t=A3 f l L lst k t
 |0=>rfl
 |k+1=>by
  have ih:=Kr (f:=f) (L:=L) hsame hi k
  unfold A3
  cases ho:l[k]? with
  |none=>exact ih
  |some o=>
   cases hL:L[k]? with
   |none=>exact ih
   |some q=>
    obtain ⟨ids,s⟩:=q
    simp only
    have hput:∀g g':Fr,g t=g' t→A7 g o.dst s t=A7 g' o.dst s t:=fun g g' e=>by
     cases hdd:o.dst with
     |none=>exact e
     |some t'=>
      by_cases e2:t'=t
      ·subst e2;simp [A7,Ds]
      ·simp [A7,Ds,Bp e2,e]
    by_cases e:k=i
    ·subst e
     have hne:∀g:Fr,A7 g o.dst s t=g t:=fun g=>by
      cases hdd:o.dst with
      |none=>rfl
      |some t'=>
       have:t'≠t:=fun e=>hi o ho (by rw [hdd,e])
       simp [A7,Ds,Bp this]
     cases lst' k<;>cases lst k<;>simp only [cond_true,cond_false,hne,ih]
    ·rw [hsame k e]
     cases lst k with
     |true=>exact hput _ _ ih
     |false=>exact ih
def Er (f:Fr):List Nat→Fr
 | []=>f
 |i::is=>Er (Dw f i) is
def E1 (h:Xh):List Nat→Xh
 | []=>h
 |i::is=>E1 (h.kill i) is
def Fs (β:Bt):List Nat→Bt
 | []=>β
 |i::is=>Fs (β.set i none) is
theorem S4:∀(is:List Nat) (β:Bt) (i:Nat),β i=none→Fs β is i=none
 | [],β,i,h=>h
 | j :: is, β, i, h => S4 is _ i (by
   by_cases e:j=i
   ·subst e;exact Bt.set_same _ _ _
   ·rw [Bt.set_ne _ _ e]; exact h)
theorem F6:∀(is:List Nat) (β:Bt) (i:Nat),i∈is→Fs β is i=none
 |j::is,β,i,h=>by
  rcases List.mem_cons.1 h with rfl|h
  ·exact S4 is _ _ (Bt.set_same _ _ _)
  ·exact F6 is _ i h
theorem Nc {E:Env} {H:Hp} {w:World} {n:Nat} {a:Act}:∀(is:List Nat) (β:Bt) (f:Fr) (h:Xh),Sim E H β h w→FV n H β a f→Sim E H (Fs β is) (E1 h is) w∧FV n H (Fs β is) a (Er f is)
 | [],_,_,_,h1,h2=>⟨h1,h2⟩
 |i::is,_,_,_,h1,h2=>Nc is _ _ _ (h1.kill i none) (h2.kill i none)
theorem Hk {listed:Array Bool} {j:Nat} (d:Bool) (hj:j<listed.size):listed.getD j d=listed.getD j false:=by
 simp [Array.getD_eq_getD_getElem?,hj]
theorem Aoy {P:Program} {n id:Nat} {l:List Oper} {K:Cu} {f f':Fr} {h h':Xh} {L:List (List Nat × S)} (sites:List Nat) (hm:P.follows .mixedOrders=true) (hin:l.all (inN n)=true) (hreg:Jo l.toArray l=true)
  (hc:Ch P n l.toArray l (Er f sites) (E1 h sites) L f' h') (hids:L.flatMap (·.1)=sites) (hnd:sites.Nodup) (hk:K .normal f' h'):XW P n (.region id l.toArray true) K f h:=by
 intro E H β a w hs hf
 obtain ⟨hs1,hf1⟩:=Nc sites β f h hs hf
 obtain ⟨hok,hfin⟩:=hc.ok
 obtain ⟨hle,hnew⟩:=hc.heap
 have hlen:=hc.len
 generalize hf0:Er f sites=f0 at*
 have huniq:∀(k k':Nat) (ids ids':List Nat) (s s':S) (i:Nat),L[k]? =some (ids,s)→L[k']? =some (ids',s')→i∈ids→i∈ids'→k=k':=by
  rw [←hids] at hnd
  clear hids hnew hc hok hfin hlen
  induction L with
  |nil=>intro k k' ids ids' s s' i h1;simp at h1
  |cons q L ih=>
   rw [List.flatMap_cons,List.nodup_append] at hnd
   intro k k' ids ids' s s' i h1 h2 h3 h4
   cases k with
   |zero=>
    cases k' with
    |zero=>rfl
    |succ k'=>
     simp at h1 h2
     subst h1
     exact absurd rfl (hnd.2.2 i h3 i (List.mem_flatMap.2 ⟨_,List.mem_of_getElem? h2,h4⟩))
   |succ k=>
    cases k' with
    |zero=>
     simp at h1 h2
     subst h2
     exact absurd rfl (hnd.2.2 i h4 i (List.mem_flatMap.2 ⟨_,List.mem_of_getElem? h1,h3⟩))
    |succ k'=>exact congrArg (· +1) (ih hnd.2.1 k k' ids ids' s s' i (by simpa using h1) (by simpa using h2) h3 h4)
 have hs2:Sim E H (Fs β sites) h' w:=by
  have emp:∀i x L0,h' i=some x→Fs β sites i=some L0→E1 h sites i=some x:=fun i x L0 e1 e2=>by
   rcases hnew i x e1 with e|e
   ·exact e
   ·rw [hids] at e
    rw [F6 sites β i e.1] at e2;cases e2
  exact ⟨hs1.below, hs1.ext, hs1.new, hs1.imm, fun i x L0 e1 e2 => hs1.obj i x L0 (emp i x L0 e1 e2) e2, fun i x L0 e1 e2 => hs1.sep i x L0 (emp i x L0 e1 e2) e2,
   fun i j x x' L1 L2 b hij e1 e1' e2 e2'=>hs1.inj i j x x' L1 L2 b hij (emp i x L1 e1 e2) (emp j x' L2 e1' e2') e2 e2',
   fun i x e1 hg=>by
    rcases hnew i x e1 with e|e
    ·exact hs1.dom i x e hg
    ·rw [e.2] at hg; cases hg⟩
 refine Pz (I := fun listed a w => listed.size = l.length ∧ (∀ j o e, l[j]? = some o → listed.getD j false = true → e ∈ o.after → Region.binds .any e = true → listed.getD e.on false = true) ∧
   ∃ H β, Sim E H β h' w ∧ FV n H β a (A3 f0 l L (fun j => listed.getD j false) l.length) ∧ ∀ (k : Nat) (ids : List Nat) (s : S), L[k]? = some (ids, s) → listed.getD k false = false → ∀ i ∈ ids, β i = none) hm ?_ ?_ ?_
 ·refine ⟨by simp,fun j o e _ hj=> ?_,H,Fs β sites,hs2.drew, ?_,fun k ids s hk _ i hi=>F6 sites β i (by rw [←hids];exact List.mem_flatMap.2 ⟨_,List.mem_of_getElem? hk,hi⟩)⟩
  ·have:(Array.replicate l.toArray.size false).getD j false=false:=by
    rw [Array.getD_eq_getD_getElem?,Array.getElem?_replicate];split<;>rfl
   rw [this] at hj;cases hj
  ·have e0:∀k,A3 f0 l L (fun j=>(Array.replicate l.toArray.size false).getD j false) k=f0:=by
    intro k
    induction k with
    |zero=>rfl
    |succ k ih=>
     have hz:(Array.replicate l.toArray.size false).getD k false=false:=by
      rw [Array.getD_eq_getD_getElem?,Array.getElem?_replicate];split<;>rfl
     unfold A3
     cases l[k]? with
     |none=>exact ih
     |some o=>
      cases L[k]? with
      |none=>exact ih
      |some q=>simp only [hz,cond_false];exact ih
   rw [e0]
   exact hf1
 ·rintro listed a w ⟨hsz,hdown,H,β,hsim,hfv,hun⟩ i hi
  obtain ⟨hil,hunl,o,ho,hdeps⟩:=Fj hi
  have hil':i<l.length:=by simpa using hil
  have hol:l[i]? =some o:=by simpa using ho
  obtain ⟨⟨ids,s⟩,hLi⟩:∃q,L[i]? =some q:=⟨_,List.getElem?_eq_getElem (by omega)⟩
  have hunl':listed.getD i false=false:=by rw [←Hk true (by omega)];exact hunl
  have hdown':∀j o e,l.toArray[j]? =some o→(fun j=>listed.getD j false) j=true→e∈o.after→Region.binds .any e=true→(fun j=>listed.getD j false) e.on=true:=fun j o e h1 h2 h3 h4=>hdown j o e (by simpa using h1) h2 h3 h4
  have hwl:∀j,Da l.toArray 3 i j=true→listed.getD j false=true:=by
   intro j hw
   unfold Da at hw
   rw [ho] at hw
   simp only [List.any_eq_true,Bool.and_eq_true,Bool.or_eq_true] at hw
   obtain ⟨e,he,hb,h2⟩:=hw
   have hl:=hdeps e (by simpa using he) hb
   rcases h2 with h2|h2
   ·rw [←Nat.eq_of_beq_eq_true h2];exact hl
   ·exact Cy hdown' 2 e.on j h2 hl
  have hlo:∀t,t∈B8 l.toArray o→∀j o',j<i→l[j]? =some o'→o'.dst=some t→listed.getD j false=true:=by
   intro t ht j o' hj hj' hd
   exact hwl j (Hi hreg hj hj' hol (by unfold Le;rw [hd];simp [Hx ht]))
  have hhi:∀t,t∈B8 l.toArray o→∀j o',i<j→l[j]? =some o'→o'.dst=some t→listed.getD j false=false:=by
   intro t ht j o' hj hj' hd
   cases hlj:listed.getD j false with
   |false=>rfl
   |true=>
    have hw:=Hi hreg hj hol hj' (by unfold Le;rw [hd];simp [Hx ht])
    have:=Cy hdown' 3 j i hw hlj
    rw [hunl'] at this;cases this
  have hcur:∀t,t∈B8 l.toArray o→A3 f0 l L (fun j=>listed.getD j false) l.length t=A3 f0 l L Du i t:=by
   intro t ht
   have h1:∀j o',i≤j→l[j]? =some o'→o'.dst=some t→(fun j=>listed.getD j false) j=false:=by
    intro j o' hj hj' hd
    by_cases e:j=i
    ·subst e;exact hunl'
    ·exact hhi t ht j o' (by omega) hj' hd
   rw [Gw h1 l.length (by omega),Lw (hlo t ht) i (Nat.le_refl _)]
  have hin':inN n o=true:=List.all_eq_true.1 hin o (List.mem_of_getElem? hol)
  have hoin:=hin'
  unfold inN at hoin
  rw [Bool.and_eq_true] at hoin
  have hop:∀x∈o.op.operands,VS H β (a.eval x) (ev (A3 f0 l L Du i) x):=by
   intro x hx
   have h1:=hfv.operands hin' x hx
   cases x with
   |tmp t=>
    have ht:t∈B8 l.toArray o:=by
     unfold B8 Oper.looksAt
     simp only [List.mem_append,List.mem_filterMap]
     exact .inr (.inl ⟨.tmp t,by simpa using hx,rfl⟩)
    have:=hcur t ht
    simp only [ev] at h1 ⊢
    rw [←this]
    exact h1
   |_=>exact h1
  have hguard:∀b,Bl l.toArray (A3 f0 l L Du i) n o.guard=some b→Region.wanted o (yielded l.toArray a.tmps)=b:=by
   intro b hb
   refine Hn hfv ?_
   rw [←hb]
   unfold Bl
   cases hg:o.guard with
   |none=>rfl
   |some g=>
    obtain ⟨j,want⟩:=g
    simp only
    cases ht:(l.toArray[j]?).bind (·.dst) with
    |none=>rfl
    |some t=>
     simp only
     have htn:t∈B8 l.toArray o:=by
      unfold B8 Oper.looksAt
      rw [hg]
      simp only [List.mem_append]
      exact .inr (.inr (by rw [ht];simp))
     rw [hcur t htn]
  have hlisted':∀j,(listed.setIfInBounds i true).getD j false=if j=i then true else listed.getD j false:=by
   intro j
   by_cases e:j=i
   ·subst e
    simp [Array.getD_eq_getD_getElem?,show j<listed.size by omega]
   ·rw [if_neg e]
    simp [Array.getD_eq_getD_getElem?,Array.getElem?_setIfInBounds_ne (fun h=>e h.symm)]
  have hdown2:∀j o' e,l[j]? =some o'→(listed.setIfInBounds i true).getD j false=true→e∈o'.after→Region.binds .any e=true→(listed.setIfInBounds i true).getD e.on false=true:=by
   intro j o' e hj hl he hb
   rw [hlisted'] at hl ⊢
   split
   ·rfl
   ·by_cases ej:j=i
    ·subst ej
     rw [hol] at hj;cases hj
     exact hdeps e he hb
    ·rw [if_neg ej] at hl
     exact hdown j o' e hj hl he hb
  have hslot:∀(H':Hp) (β':Bt) (u:Value),FV n H' β' a (A3 f0 l L (fun j=>listed.getD j false) l.length)→VS H' β' u s→FV n H' β' (a.put o.dst u) (A3 f0 l L (fun j=>(listed.setIfInBounds i true).getD j false) l.length):=by
   intro H' β' u hfv' hu
   have hp:=hfv'.put hu o.dst hoin.2
   refine ⟨hp.defers,hp.size,fun t ht=> ?_⟩
   have h1:=hp.slot t ht
   have hsame:∀j,j≠i→(fun j=>(listed.setIfInBounds i true).getD j false) j=(fun j=>listed.getD j false) j:=fun j hj=>by simp only;rw [hlisted',if_neg hj]
   by_cases hd:o.dst=some t
   ·have ht':t∈B8 l.toArray o:=by unfold B8;simp [hd]
    have e1:A3 f0 l L (fun j=>(listed.setIfInBounds i true).getD j false) l.length t=A3 f0 l L (fun j=>(listed.setIfInBounds i true).getD j false) (i+1) t:=by
     refine Gw (fun j o' hj hj' hd'=> ?_) l.length (by omega)
     show (listed.setIfInBounds i true).getD j false=false
     rw [hlisted',if_neg (by omega)]
     exact hhi t ht' j o' (by omega) hj' hd'
    have e2:A3 f0 l L (fun j=>(listed.setIfInBounds i true).getD j false) (i+1) t=s:=by
     unfold A3
     rw [hol,hLi]
     have hb:(listed.setIfInBounds i true).getD i false=true:=by rw [hlisted',if_pos rfl]
     simp only [hb,cond_true,A7,hd,Ds,Bh]
    have e3:A7 (A3 f0 l L (fun j=>listed.getD j false) l.length) o.dst s t=s:=by rw [hd];simp only [A7,Ds,Bh,cond_true]
    rw [e1,e2]
    rw [e3] at h1
    exact h1
   ·have e1:=Kr (f:=f0) (L:=L) (lst:=fun j=>listed.getD j false) (t:=t) hsame (fun o' h=>by rw [hol] at h;cases h;exact hd) l.length
    have e3:A7 (A3 f0 l L (fun j=>listed.getD j false) l.length) o.dst s t=A3 f0 l L (fun j=>listed.getD j false) l.length t:=by
     cases hdd:o.dst with
     |none=>rfl
     |some t'=>
      have:t'≠t:=fun e=>hd (by rw [hdd,e])
      simp only [A7,Ds,Bp this,cond_false]
    rw [e1]
    rw [e3] at h1
    exact h1
  have hun2:∀(β':Bt),(∀j,j∉ids→β' j=β j)→∀(k:Nat) (ids':List Nat) (s':S),L[k]? =some (ids',s')→(listed.setIfInBounds i true).getD k false=false→∀j∈ids',β' j=none:=by
   intro β' hβ' k ids' s' hk hl j hj
   rw [hlisted'] at hl
   by_cases e:k=i
   ·rw [if_pos e] at hl;cases hl
   ·rw [if_neg e] at hl
    rw [hβ' j (fun hc=>e (huniq k i ids' ids s' s j hk hLi hj hc))]
    exact hun k ids' s' hk hl j hj
  have hsz':(listed.setIfInBounds i true).size=l.length:=by simpa using hsz
  unfold wpOp
  rw [ho]
  simp only
  rcases hok i o ids s hol hLi with ⟨hw,hcalm⟩|⟨hw,rfl,rfl⟩
  ·rw [if_pos (hguard _ hw)]
   refine .inl (Dm (hcalm E H β a w hsim (hun i ids s hLi hunl') hop) ?_)
   rintro a' w' ⟨H',β',u,rfl,k1,k2,k3,k4,k5⟩
   exact ⟨hsz',hdown2,H',β',k1,hslot H' β' u (hfv.mono k2 k3) k5,hun2 β' k4⟩
  ·rw [if_neg (by rw [hguard _ hw];simp)]
   exact ⟨hsz',hdown2,H,β,hsim,hslot H β undef hfv (.d (.v _)),hun2 β fun _ _=>rfl⟩
 ·rintro listed a w ⟨hsz,hdown,H,β,hsim,hfv,hun⟩ hr
  have hall:∀k,k<l.length→listed.getD k false=true:=by
   intro k
   induction k using Nat.strongRecOn with
   |_ k ih=>
    intro hkl
    cases hlk:listed.getD k false with
    |true=>rfl
    |false=>
     exfalso
     have ho:l[k]? =some l[k]:=List.getElem?_eq_getElem hkl
     have : k ∈ Region.ready .any l.toArray listed := mem_ready.2 ⟨by rw [Hk true (by omega)]; exact hlk, l[k], by simp [hkl], fun e he hb => by
      have hlt:=Ajd hreg ho he hb
      exact ih e.on hlt (by omega)⟩
     rw [hr] at this;cases this
  refine ⟨H,β,f',h',hsim, ?_,hk⟩
  have e:∀k,k≤l.length→A3 f0 l L (fun j=>listed.getD j false) k=A3 f0 l L Du k:=by
   intro k
   induction k with
   |zero=>intro _;rfl
   |succ k ih=>
    intro hk'
    unfold A3
    rw [ih (by omega)]
    cases l[k]? with
    |none=>rfl
    |some o=>
     cases L[k]? with
     |none=>rfl
     |some q=>simp only [hall k (by omega),Du]
  rw [e l.length (Nat.le_refl _),hfin] at hfv
  exact hfv
end Go.Proofs.YtaafemnkamfgnaaGreat
